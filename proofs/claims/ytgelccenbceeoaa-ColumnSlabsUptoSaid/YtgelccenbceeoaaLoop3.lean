/- The last loop of the law's slabs: the lines that were handed in are as they were; they are written over. -/
import Derived.Test.YtgelccenbceeoaaTwin
import Derived.Test.YtgelccenbceeoaaLex
import Derived.StillTailTactics
namespace Go.Proofs.Ytgelccenbceeoaa
open Go.RowKit
set_option linter.unusedSimpArgs false
set_option linter.unusedVariables false

/-- A row's cells, one by one. -/
theorem own_rd' {α : Type} {enc : α → List Value} {sz : Nat} {w : World} {base g n cap : Nat} {e : TypeId} {xs : List α} (hsz : ∀ x, (enc x).length = sz) (hn : xs.length = n) (h : w.ownsRow base e sz (.slice (some ⟨g, 0, none⟩) n cap) n (xs.flatMap enc)) : Rd enc sz w (some ⟨g, 0, none⟩) xs := by
  subst hn
  obtain ⟨A, c, e1, _, hr, _⟩ := own_rd hsz h
  simp only [Value.slice.injEq] at e1
  obtain ⟨rfl, _, rfl⟩ := e1
  exact hr

/-- A line that is written into a row. -/
def linePut (cur : Array Value) (a : Nat) (v0 v1 v2 v3 v4 v5 v6 v7 v8 v9 v10 v11 v12 v13 : Value) : Array Value := ((((((((((((((cur.setIfInBounds (a) v0).setIfInBounds (a + 1) v1).setIfInBounds (a + 2) v2).setIfInBounds (a + 3) v3).setIfInBounds (a + 4) v4).setIfInBounds (a + 5) v5).setIfInBounds (a + 6) v6).setIfInBounds (a + 7) v7).setIfInBounds (a + 8) v8).setIfInBounds (a + 9) v9).setIfInBounds (a + 10) v10).setIfInBounds (a + 11) v11).setIfInBounds (a + 12) v12).setIfInBounds (a + 13) v13)
theorem linePut_size (cur : Array Value) (a : Nat) (v0 v1 v2 v3 v4 v5 v6 v7 v8 v9 v10 v11 v12 v13 : Value) : (linePut cur a v0 v1 v2 v3 v4 v5 v6 v7 v8 v9 v10 v11 v12 v13).size = cur.size := by simp [linePut]
theorem linePut_far (cur : Array Value) (a : Nat) (v0 v1 v2 v3 v4 v5 v6 v7 v8 v9 v10 v11 v12 v13 : Value) (j : Nat) (hj : a + 14 ≤ j) : (linePut cur a v0 v1 v2 v3 v4 v5 v6 v7 v8 v9 v10 v11 v12 v13)[j]? = cur[j]? := by
  unfold linePut
  repeat rw [Array.getElem?_setIfInBounds_ne (by omega)]
theorem line_sets {w : World} {n : Nat} {T : TypeId} {cur : Array Value} (hz : w.heap[n]? = some (.cells cur T (0, 0))) (a : Nat) (v0 v1 v2 v3 v4 v5 v6 v7 v8 v9 v10 v11 v12 v13 : Value) :
    (((((((((((((((w.setCell ⟨n, a, none⟩ v0).setCell ⟨n, a + 1, none⟩ v1).setCell ⟨n, a + 2, none⟩ v2).setCell ⟨n, a + 3, none⟩ v3).setCell ⟨n, a + 4, none⟩ v4).setCell ⟨n, a + 5, none⟩ v5).setCell ⟨n, a + 6, none⟩ v6).setCell ⟨n, a + 7, none⟩ v7).setCell ⟨n, a + 8, none⟩ v8).setCell ⟨n, a + 9, none⟩ v9).setCell ⟨n, a + 10, none⟩ v10).setCell ⟨n, a + 11, none⟩ v11).setCell ⟨n, a + 12, none⟩ v12).setCell ⟨n, a + 13, none⟩ v13)).heap[n]? = some (.cells (linePut cur a v0 v1 v2 v3 v4 v5 v6 v7 v8 v9 v10 v11 v12 v13) T (0, 0)) :=
  blk_set (blk_set (blk_set (blk_set (blk_set (blk_set (blk_set (blk_set (blk_set (blk_set (blk_set (blk_set (blk_set (blk_set hz _ _) _ _) _ _) _ _) _ _) _ _) _ _) _ _) _ _) _ _) _ _) _ _) _ _) _ _


def loopsOf : Code → List Code
  | .loop c => [c]
  | .seq a b => loopsOf a ++ loopsOf b
  | .block _ c => loopsOf c
  | .scope c => loopsOf c
  | .cond _ a b => loopsOf a ++ loopsOf b
  | _ => []
noncomputable def slabsLoop3 : Code := (((Try.f39.body.map loopsOf).getD [])[2]?).getD .skip

set_option maxHeartbeats 12800000 in
set_option maxRecDepth 1000000 in
theorem slabs_loop3 {K9 : Act → World → Prop} {Q9 : Exit → Act → World → Prop} {A B : Option Addr} {c d gx cx b5 : Nat} {ps : List ParX} {ls : List LinesX} {os : List Own1} {w wa : World} (L : Laid w A B c d ps ls) (q3 : ls.length ≤ 2147483647) (q4 : ∀ x ∈ ls, x.l.length ≤ 2147483647)
    (hb5 : w.heap.size ≤ b5) (HL : Hid (os.length = ls.length)) (HOL : Hid (∀ (i : Nat) (o : Own1), os[i]? = some o → ∃ x, ls[i]? = some x ∧ x.l = o.l)) (K0r : Keep [] w wa) (C10 : Copies b5 wa os)
    (X10 : wa.ownsRow b5 63 1 (.slice (some ⟨gx, 0, none⟩) (ls.length + 1) cx) (ls.length + 1) ((os.map Own1.x ++ [(⟨none, 0, []⟩ : LinesX)]).flatMap LinesX.row))
    {c0_ c2_ c3_ c4_ c5_ c6_ c7_ c8_ c9_ c10_ c11_ c12_ c13_ c14_ c15_ c16_ c17_ c19_ c20_ c21_ c22_ c24_ c26_ c27_ c28_ c29_ c30_ c31_ c32_ c33_ c34_ c35_ c36_ c37_ c38_ c39_ c40_ c41_ c42_ c43_ c44_ c45_ c46_ c47_ c48_ c49_ c50_ c51_ c52_ c53_ c54_ c55_ c56_ c57_ c58_ c59_ c60_ c61_ c62_ c63_ c64_ c65_ c66_ c67_ c68_ c69_ c70_ c71_ c72_ c73_ c74_ c75_ c76_ c77_ c78_ c79_ c80_ c81_ c82_ c83_ c84_ c85_ c86_ c87_ c88_ c89_ c90_ c91_ c92_ c93_ c94_ c95_ c96_ c97_ c98_ c99_ c100_ c101_ c102_ c103_ c104_ c105_ c106_ c107_ c108_ c109_ c110_ c111_ c112_ c113_ c114_ c115_ c116_ c117_ c118_ c119_ c120_ c121_ c122_ c123_ c124_ c125_ c126_ c127_ c128_ c129_ c130_ c131_ c132_ c133_ c134_ c135_ c136_ c137_ c138_ c139_ c140_ c141_ c142_ c143_ c144_ c145_ c146_ c147_ c148_ c149_ c150_ c151_ c152_ c153_ c154_ c155_ c156_ c157_ c158_ c159_ c160_ c161_ c162_ c163_ c164_ c165_ c166_ c167_ c168_ c169_ c170_ c171_ c172_ c173_ c174_ c175_ c176_ c177_ c178_ c179_ c180_ c181_ c182_ c183_ c184_ c185_ c186_ c187_ c188_ c189_ c190_ c191_ c192_ c193_ c194_ c195_ c196_ c197_ c198_ c199_ c200_ c201_ c202_ c203_ c204_ c205_ c206_ c207_ c208_ c209_ c210_ c211_ c212_ c213_ c214_ c215_ c216_ c217_ c218_ c219_ c220_ c221_ c222_ c223_ c224_ c225_ c226_ c227_ c228_ c229_ c230_ c231_ c232_ c233_ c234_ c235_ c236_ c237_ c238_ c239_ c240_ c241_ c242_ c243_ c244_ c245_ c246_ c247_ c248_ c249_ c250_ c251_ c252_ c253_ c254_ c255_ c256_ c257_ c258_ c259_ c260_ c261_ c262_ c263_ c264_ c265_ c266_ c267_ c268_ c269_ c270_ c271_ c272_ c273_ c274_ c275_ c276_ c277_ c278_ c279_ c280_ c281_ c282_ c283_ c284_ c285_ c286_ c287_ c288_ c289_ c290_ c291_ c292_ c293_ c294_ c295_ c296_ c297_ c298_ c299_ c300_ : Value}
    (hK : ∀ (u8_ u9_ u26_ u27_ u230_ u231_ u232_ u233_ u234_ u235_ u236_ u237_ u238_ u239_ u240_ u241_ u242_ u243_ u244_ u245_ u246_ u247_ u248_ u249_ u250_ u251_ u252_ u253_ u254_ u255_ u256_ u257_ u258_ u259_ u260_ u261_ u262_ u263_ u264_ u265_ u266_ u267_ u268_ u269_ u270_ u271_ u272_ u273_ u274_ u275_ u276_ u277_ u278_ u279_ u280_ u281_ u282_ u283_ u284_ u285_ u286_ u287_ u288_ u289_ u290_ u291_ u292_ u293_ : Value) (w' : World), Keep (os.map (fun o => o.g)) wa w' → K9 ⟨List.toArray (c0_ :: .slice B ls.length d :: c2_ :: c3_ :: c4_ :: c5_ :: c6_ :: c7_ :: u8_ :: u9_ :: c10_ :: c11_ :: c12_ :: c13_ :: c14_ :: c15_ :: c16_ :: c17_ :: .slice (some ⟨gx, 0, none⟩) (ls.length + 1) cx :: c19_ :: c20_ :: c21_ :: c22_ :: .bool true :: c24_ :: .int .i64 ls.length :: u26_ :: u27_ :: c28_ :: c29_ :: c30_ :: c31_ :: c32_ :: c33_ :: c34_ :: c35_ :: c36_ :: c37_ :: c38_ :: c39_ :: c40_ :: c41_ :: c42_ :: c43_ :: c44_ :: c45_ :: c46_ :: c47_ :: c48_ :: c49_ :: c50_ :: c51_ :: c52_ :: c53_ :: c54_ :: c55_ :: c56_ :: c57_ :: c58_ :: c59_ :: c60_ :: c61_ :: c62_ :: c63_ :: c64_ :: c65_ :: c66_ :: c67_ :: c68_ :: c69_ :: c70_ :: c71_ :: c72_ :: c73_ :: c74_ :: c75_ :: c76_ :: c77_ :: c78_ :: c79_ :: c80_ :: c81_ :: c82_ :: c83_ :: c84_ :: c85_ :: c86_ :: c87_ :: c88_ :: c89_ :: c90_ :: c91_ :: c92_ :: c93_ :: c94_ :: c95_ :: c96_ :: c97_ :: c98_ :: c99_ :: c100_ :: c101_ :: c102_ :: c103_ :: c104_ :: c105_ :: c106_ :: c107_ :: c108_ :: c109_ :: c110_ :: c111_ :: c112_ :: c113_ :: c114_ :: c115_ :: c116_ :: c117_ :: c118_ :: c119_ :: c120_ :: c121_ :: c122_ :: c123_ :: c124_ :: c125_ :: c126_ :: c127_ :: c128_ :: c129_ :: c130_ :: c131_ :: c132_ :: c133_ :: c134_ :: c135_ :: c136_ :: c137_ :: c138_ :: c139_ :: c140_ :: c141_ :: c142_ :: c143_ :: c144_ :: c145_ :: c146_ :: c147_ :: c148_ :: c149_ :: c150_ :: c151_ :: c152_ :: c153_ :: c154_ :: c155_ :: c156_ :: c157_ :: c158_ :: c159_ :: c160_ :: c161_ :: c162_ :: c163_ :: c164_ :: c165_ :: c166_ :: c167_ :: c168_ :: c169_ :: c170_ :: c171_ :: c172_ :: c173_ :: c174_ :: c175_ :: c176_ :: c177_ :: c178_ :: c179_ :: c180_ :: c181_ :: c182_ :: c183_ :: c184_ :: c185_ :: c186_ :: c187_ :: c188_ :: c189_ :: c190_ :: c191_ :: c192_ :: c193_ :: c194_ :: c195_ :: c196_ :: c197_ :: c198_ :: c199_ :: c200_ :: c201_ :: c202_ :: c203_ :: c204_ :: c205_ :: c206_ :: c207_ :: c208_ :: c209_ :: c210_ :: c211_ :: c212_ :: c213_ :: c214_ :: c215_ :: c216_ :: c217_ :: c218_ :: c219_ :: c220_ :: c221_ :: c222_ :: c223_ :: c224_ :: c225_ :: c226_ :: c227_ :: c228_ :: c229_ :: u230_ :: u231_ :: u232_ :: u233_ :: u234_ :: u235_ :: u236_ :: u237_ :: u238_ :: u239_ :: u240_ :: u241_ :: u242_ :: u243_ :: u244_ :: u245_ :: u246_ :: u247_ :: u248_ :: u249_ :: u250_ :: u251_ :: u252_ :: u253_ :: u254_ :: u255_ :: u256_ :: u257_ :: u258_ :: u259_ :: u260_ :: u261_ :: u262_ :: u263_ :: u264_ :: u265_ :: u266_ :: u267_ :: u268_ :: u269_ :: u270_ :: u271_ :: u272_ :: u273_ :: u274_ :: u275_ :: u276_ :: u277_ :: u278_ :: u279_ :: u280_ :: u281_ :: u282_ :: u283_ :: u284_ :: u285_ :: u286_ :: u287_ :: u288_ :: u289_ :: u290_ :: u291_ :: u292_ :: u293_ :: c294_ :: c295_ :: c296_ :: c297_ :: c298_ :: c299_ :: c300_ :: []), []⟩ w') :
    Code.wp Try.prog (.loop slabsLoop3) (Exit.inBlock 4 (Exit.then K9 Q9)) ⟨List.toArray (c0_ :: .slice B ls.length d :: c2_ :: c3_ :: c4_ :: c5_ :: c6_ :: c7_ :: c8_ :: c9_ :: c10_ :: c11_ :: c12_ :: c13_ :: c14_ :: c15_ :: c16_ :: c17_ :: .slice (some ⟨gx, 0, none⟩) (ls.length + 1) cx :: c19_ :: c20_ :: c21_ :: c22_ :: .bool true :: c24_ :: .int .i64 0 :: c26_ :: c27_ :: c28_ :: c29_ :: c30_ :: c31_ :: c32_ :: c33_ :: c34_ :: c35_ :: c36_ :: c37_ :: c38_ :: c39_ :: c40_ :: c41_ :: c42_ :: c43_ :: c44_ :: c45_ :: c46_ :: c47_ :: c48_ :: c49_ :: c50_ :: c51_ :: c52_ :: c53_ :: c54_ :: c55_ :: c56_ :: c57_ :: c58_ :: c59_ :: c60_ :: c61_ :: c62_ :: c63_ :: c64_ :: c65_ :: c66_ :: c67_ :: c68_ :: c69_ :: c70_ :: c71_ :: c72_ :: c73_ :: c74_ :: c75_ :: c76_ :: c77_ :: c78_ :: c79_ :: c80_ :: c81_ :: c82_ :: c83_ :: c84_ :: c85_ :: c86_ :: c87_ :: c88_ :: c89_ :: c90_ :: c91_ :: c92_ :: c93_ :: c94_ :: c95_ :: c96_ :: c97_ :: c98_ :: c99_ :: c100_ :: c101_ :: c102_ :: c103_ :: c104_ :: c105_ :: c106_ :: c107_ :: c108_ :: c109_ :: c110_ :: c111_ :: c112_ :: c113_ :: c114_ :: c115_ :: c116_ :: c117_ :: c118_ :: c119_ :: c120_ :: c121_ :: c122_ :: c123_ :: c124_ :: c125_ :: c126_ :: c127_ :: c128_ :: c129_ :: c130_ :: c131_ :: c132_ :: c133_ :: c134_ :: c135_ :: c136_ :: c137_ :: c138_ :: c139_ :: c140_ :: c141_ :: c142_ :: c143_ :: c144_ :: c145_ :: c146_ :: c147_ :: c148_ :: c149_ :: c150_ :: c151_ :: c152_ :: c153_ :: c154_ :: c155_ :: c156_ :: c157_ :: c158_ :: c159_ :: c160_ :: c161_ :: c162_ :: c163_ :: c164_ :: c165_ :: c166_ :: c167_ :: c168_ :: c169_ :: c170_ :: c171_ :: c172_ :: c173_ :: c174_ :: c175_ :: c176_ :: c177_ :: c178_ :: c179_ :: c180_ :: c181_ :: c182_ :: c183_ :: c184_ :: c185_ :: c186_ :: c187_ :: c188_ :: c189_ :: c190_ :: c191_ :: c192_ :: c193_ :: c194_ :: c195_ :: c196_ :: c197_ :: c198_ :: c199_ :: c200_ :: c201_ :: c202_ :: c203_ :: c204_ :: c205_ :: c206_ :: c207_ :: c208_ :: c209_ :: c210_ :: c211_ :: c212_ :: c213_ :: c214_ :: c215_ :: c216_ :: c217_ :: c218_ :: c219_ :: c220_ :: c221_ :: c222_ :: c223_ :: c224_ :: c225_ :: c226_ :: c227_ :: c228_ :: c229_ :: c230_ :: c231_ :: c232_ :: c233_ :: c234_ :: c235_ :: c236_ :: c237_ :: c238_ :: c239_ :: c240_ :: c241_ :: c242_ :: c243_ :: c244_ :: c245_ :: c246_ :: c247_ :: c248_ :: c249_ :: c250_ :: c251_ :: c252_ :: c253_ :: c254_ :: c255_ :: c256_ :: c257_ :: c258_ :: c259_ :: c260_ :: c261_ :: c262_ :: c263_ :: c264_ :: c265_ :: c266_ :: c267_ :: c268_ :: c269_ :: c270_ :: c271_ :: c272_ :: c273_ :: c274_ :: c275_ :: c276_ :: c277_ :: c278_ :: c279_ :: c280_ :: c281_ :: c282_ :: c283_ :: c284_ :: c285_ :: c286_ :: c287_ :: c288_ :: c289_ :: c290_ :: c291_ :: c292_ :: c293_ :: c294_ :: c295_ :: c296_ :: c297_ :: c298_ :: c299_ :: c300_ :: []), []⟩ wa := by
  have q3' : (ls.length : Int) ≤ 2147483647 := by omega
  have hcx' : ls.length + 1 ≤ cx := by
    obtain ⟨g', c', e, h, _⟩ := own_formN X10 (by omega)
    simp only [Value.slice.injEq] at e
    omega
  conv => arg 2; arg 1; whnf
  have HK := hid hK
  clear hK
  go_loopw [25, 23] (fun vi vok wr => ∃ i : Nat, i ≤ ls.length ∧ vi = .int .i64 i ∧ vok = .bool true ∧ Copies b5 wr (os.drop i) ∧ Keep (os.map (fun o => o.g)) wa wr) (fun vi _ _ => ls.length - (intOf vi).toNat)
  case atStart => exact ⟨0, Nat.zero_le _, rfl, rfl, C10, Keep.refl _ _⟩
  case round =>
    obtain ⟨i, hi, rfl, rfl, C, K⟩ := hrel
    by_cases hlt : i < ls.length
    · obtain ⟨o, ho⟩ : ∃ o, os[i]? = some o := ⟨os[i]'(by have := HL.out; omega), List.getElem?_eq_getElem _⟩
      obtain ⟨x, hx, hxo⟩ := HOL.out i o ho
      have xm := List.mem_of_getElem? hx
      have om := List.mem_of_getElem? ho
      have hdr : os.drop i = o :: os.drop (i + 1) := by rw [List.drop_eq_getElem_cons (by have := HL.out; omega)]; rw [List.getElem?_eq_getElem (by have := HL.out; omega)] at ho; rw [Option.some.inj ho]
      have Kw : Keep [] w wr := K0r.then K (fun b hb => by
        obtain ⟨o', ho', rfl⟩ := List.mem_map.1 hb
        obtain ⟨_, _, hB, _⟩ := C10.blk ho'
        exact .inr (by omega))
      have Lr := L.old Kw (by simp)
      obtain ⟨bd, hB, hcs⟩ := Lr.l i x hx
      have f0 := hcs 0 _ rfl
      rw [Nat.add_zero, Nat.mul_one, hxo] at f0
      subst hB
      clear hcs
      have hgo : some o.g ≠ some gx := by
        obtain ⟨cur, hc, _⟩ := C10.blk om
        simpa [Value.ownBlock] using own_ne X10 hc (by decide)
      have hgxs : gx ∉ os.map (fun o => o.g) := fun hm => by
        obtain ⟨o', ho', e⟩ := List.mem_map.1 hm
        obtain ⟨cur, hc, _⟩ := C10.blk ho'
        have := own_ne X10 hc (by decide)
        simp only [Value.ownBlock] at this
        exact this (by rw [← e])
      have Xr := own_keep X10 K (fun b hb e => by simp only [Value.ownBlock, Option.some.injEq] at e; exact hgxs (e ▸ hb))
      have hrX : Rd LinesX.row 1 wr (some ⟨gx, 0, none⟩) (os.map Own1.x ++ [(⟨none, 0, []⟩ : LinesX)]) := own_rd' (fun _ => rfl) (by simp [HL.out]) Xr
      obtain ⟨_, hAd, hds⟩ := hrX i o.x (by rw [List.getElem?_append_left (by simp; have := HL.out; omega), List.getElem?_map, ho]; rfl)
      obtain rfl := Option.some.inj hAd
      have e0 := hds 0 (.slice (some ⟨o.g, 0, none⟩) o.l.length o.cap) rfl
      simp only [add_zero_at, Nat.add_zero, Nat.mul_one] at e0
      rw [hdr] at C
      obtain ⟨cur, hcur, hBo, hcap, hcz, hcm, htk⟩ := C.blk (o := o) (by simp)
      have hrO : Rd LineX.row 14 wr (some ⟨o.g, 0, none⟩) (o.l ++ [markLine]) := own_rd' (fun _ => rfl) (by simp) (C.own o (by simp))
      obtain ⟨_, hAd2, hms⟩ := hrO o.l.length markLine (by simp)
      obtain rfl := Option.some.inj hAd2
      have m0 := hms 0 (.int .i64 (-77)) rfl
      simp only [add_zero_at, Nat.add_zero] at m0
      have hLx := Lr.x x xm
      rw [hxo] at hLx
      have hol : o.l.length ≤ 2147483647 := by have := q4 x xm; rw [← hxo]; exact this
      have hi2 : (i : Int) < (ls.length : Int) := by omega
      have hi3 : (i : Int) < (ls.length : Int) + 1 := by omega
      have hi4 : (0 : Int) ≤ (i : Int) := by omega
      have hcap' : (o.l.length : Int) + 1 ≤ (o.cap : Int) := by omega
      have Ho := hid ho
      have Hx := hid hx
      have Hdr := hid hdr
      have Htk := hid htk
      have Hcz := hid hcz
      have Hxo := hid hxo
      clear ho hx hdr htk hcz hxo hAd hAd2 hms hds
      go_upto_region 35 with (fail)
      obtain ⟨wo, rfl⟩ : ∃ wo : World, wo = wr := ⟨_, rfl⟩
      clear m0 e0 f0 Xr hrX hrO hLx Lr
      go_wp2_with fail
      go_loopw [27, 23] (fun vk vok wi => ∃ k : Nat, k ≤ o.l.length ∧ vk = .int .i64 k ∧ vok = .bool true ∧ Keep [o.g] wo wi ∧ ∃ cur', wi.heap[o.g]? = some (.cells cur' 92 (0, 0)) ∧ Hid (cur'.size = o.cap * 14) ∧ Hid (∀ j, k * 14 ≤ j → j < o.l.length * 14 → cur'[j]? = (o.l.flatMap LineX.row)[j]?)) (fun vk _ _ => o.l.length - (intOf vk).toNat)
      case atStart =>
        refine ⟨0, Nat.zero_le _, rfl, rfl, Keep.refl _ _, cur, hcur, Hcz, hid (fun j _ hj => ?_)⟩
        have h := congrArg (fun l => l[j]?) Htk.out
        simp only [List.getElem?_take, List.flatMap_append] at h
        rw [if_pos (by omega), List.getElem?_append_left (by rw [flat_len (sz := 14) (fun _ => rfl)]; omega)] at h
        rw [← h]
        simp
      case round =>
        clear hcur
        obtain ⟨k, hk, rfl, rfl, Ki, cur', hcur', Hcz', HJ⟩ := hrel
        obtain ⟨wi, rfl⟩ : ∃ wi : World, wi = wr := ⟨_, rfl⟩
        have Kwi : Keep [] w wi := Kw.then Ki (fun b hb => by simp at hb; exact .inr (by omega))
        have Li := L.old Kwi (by simp)
        obtain ⟨bd', hB2, hcs2⟩ := Li.l i x Hx.out
        obtain rfl := Option.some.inj hB2
        have f0 := hcs2 0 _ rfl
        rw [Nat.add_zero, Nat.mul_one, Hxo.out] at f0
        clear hcs2 hB2
        by_cases hlk : k < o.l.length
        · obtain ⟨y, hy⟩ : ∃ y, o.l[k]? = some y := ⟨o.l[k], List.getElem?_eq_getElem hlk⟩
          have hLi := Li.x x xm
          rw [Hxo.out] at hLi
          obtain ⟨yd, hY, hns⟩ := hLi k y hy
          have ce : ∀ j v, j < 14 → y.row[j]? = some v → wi.cell? ⟨o.g, k * 14 + j, none⟩ = some v := fun j v hj hv => (blk_cell hcur' (k * 14 + j)).trans ((HJ.out _ (by omega) (by omega)).trans (flat_get (sz := 14) (fun _ => rfl) o.l k j y v hy hv))
          have d0 := hns 0 _ rfl
          have d1 := hns 1 _ rfl
          have d2 := hns 2 _ rfl
          have d3 := hns 3 _ rfl
          have d4 := hns 4 _ rfl
          have d5 := hns 5 _ rfl
          have d6 := hns 6 _ rfl
          have d7 := hns 7 _ rfl
          have d8 := hns 8 _ rfl
          have d9 := hns 9 _ rfl
          have d10 := hns 10 _ rfl
          have d11 := hns 11 _ rfl
          have d12 := hns 12 _ rfl
          have d13 := hns 13 _ rfl
          have e0 := ce 0 _ (by omega) rfl
          have e1 := ce 1 _ (by omega) rfl
          have e2 := ce 2 _ (by omega) rfl
          have e3 := ce 3 _ (by omega) rfl
          have e4 := ce 4 _ (by omega) rfl
          have e5 := ce 5 _ (by omega) rfl
          have e6 := ce 6 _ (by omega) rfl
          have e7 := ce 7 _ (by omega) rfl
          have e8 := ce 8 _ (by omega) rfl
          have e9 := ce 9 _ (by omega) rfl
          have e10 := ce 10 _ (by omega) rfl
          have e11 := ce 11 _ (by omega) rfl
          have e12 := ce 12 _ (by omega) rfl
          have e13 := ce 13 _ (by omega) rfl
          have g0 := blk_free hcur' (k * 14)
          have g1 := blk_free hcur' (k * 14 + 1)
          have g2 := blk_free hcur' (k * 14 + 2)
          have g3 := blk_free hcur' (k * 14 + 3)
          have g4 := blk_free hcur' (k * 14 + 4)
          have g5 := blk_free hcur' (k * 14 + 5)
          have g6 := blk_free hcur' (k * 14 + 6)
          have g7 := blk_free hcur' (k * 14 + 7)
          have g8 := blk_free hcur' (k * 14 + 8)
          have g9 := blk_free hcur' (k * 14 + 9)
          have g10 := blk_free hcur' (k * 14 + 10)
          have g11 := blk_free hcur' (k * 14 + 11)
          have g12 := blk_free hcur' (k * 14 + 12)
          have g13 := blk_free hcur' (k * 14 + 13)
          rw [add_at _ _ _ (by omega)] at d1 d2 d3 d4 d5 d6 d7 d8 d9 d10 d11 d12 d13
          rw [Nat.add_zero] at d0 e0
          rw [hY] at f0
          have HY := hid hY
          clear hY hns ce hy hLi Li
          have hk2 : (k : Int) < (o.l.length : Int) := by omega
          have hk3 : (k : Int) < (o.l.length : Int) + 1 := by omega
          have hk4 : (0 : Int) ≤ (k : Int) := by omega
          go_upto_region 38 with (fail)
          go_quiet (fail)
          go_wp2
          go_roundw
          case rel =>
            refine ⟨k + 1, hlk, by go_num, rfl, ?_, linePut cur' (k * 14) (.int .i64 0) (.int .i64 0) (.int .i64 0) (.int .i64 0) (.int .i64 0) (.int .i64 0) (.int .i64 0) (.int .i64 0) (.int .i64 0) (.bool false) (.bool false) (.bool false) (.int .i64 5) (.int .i64 0), ?_, hid (by rw [linePut_size, Hcz'.out]), hid (fun j hj hj2 => ?_)⟩
            · repeat (with_reducible first | exact Ki | refine Keep.drew ?_ | refine Keep.drewN ?_ _ | refine Keep.set ?_ (.inl (by simp)) _)
            · first | (with_reducible exact line_sets (blk_drew hcur') (k * 14) _ _ _ _ _ _ _ _ _ _ _ _ _ _) | (with_reducible exact blk_drew (line_sets hcur' (k * 14) _ _ _ _ _ _ _ _ _ _ _ _ _ _)) | (with_reducible exact line_sets (blk_drewN hcur' _) (k * 14) _ _ _ _ _ _ _ _ _ _ _ _ _ _) | (with_reducible exact blk_drewN (line_sets hcur' (k * 14) _ _ _ _ _ _ _ _ _ _ _ _ _ _) _)
            · exact (linePut_far _ _ _ _ _ _ _ _ _ _ _ _ _ _ _ _ j (by omega)).trans (HJ.out j (by omega) hj2)
          case measure => simp [intOf]; omega
        · obtain rfl : k = o.l.length := by omega
          have Ct : Copies b5 wo (os.drop (i + 1)) := ⟨fun a ha => C.own a (List.mem_cons_of_mem _ ha), (List.pairwise_cons.1 C.up).2⟩
          have Ct' := Ct.keep Ki (fun b hb a ha => by simp at hb; have := (List.pairwise_cons.1 C.up).1 a ha; omega)
          have Kt := K.trans (Ki.mono (T := os.map (fun o => o.g)) (fun b hb => by simp at hb; subst hb; exact .inl (List.mem_map.2 ⟨o, om, rfl⟩)))
          go_wp2
          go_roundw
          case rel => exact ⟨i + 1, hlt, by go_num, rfl, Ct', Kt⟩
          case measure => simp [intOf]; omega
    · obtain rfl : i = ls.length := by omega
      go_wp2
      exact HK.out _ _ _ _ _ _ _ _ _ _ _ _ _ _ _ _ _ _ _ _ _ _ _ _ _ _ _ _ _ _ _ _ _ _ _ _ _ _ _ _ _ _ _ _ _ _ _ _ _ _ _ _ _ _ _ _ _ _ _ _ _ _ _ _ _ _ _ _ _ K

end Go.Proofs.Ytgelccenbceeoaa
