/- The law's slabs, by a contract. -/
import Derived.Test.YtgelccenbceeoaaTwin
import Derived.Test.YtgelccenbceeoaaLoop3
import Derived.StillTailTactics
namespace Go.Proofs.Ytgelccenbceeoaa
open Go.RowKit
set_option linter.unusedSimpArgs false
set_option linter.unusedVariables false

def LawOut (ps : List ParX) (ls : List LinesX) (s t : Int) : List Slab := if s < 0 ∨ t < 0 then [] else (outs ps ls (MS.new s t)).1
def LawPost (R : List Slab) (w : World) (e : Ending) (w' : World) : Prop :=
  ∃ v : Value, e = .returned (.tuple #[v, .bool true]) ∧ w'.ownsRow w.heap.size 51 9 v R.length (R.flatMap Slab.row) ∧ Keep [] w w'

theorem par_one (y : ParX) : ∀ u ∈ y.row, u.oneCell' = true := fun u hu => by simp [ParX.row] at hu; rcases hu with rfl | rfl | rfl | rfl | rfl | rfl | rfl <;> rfl
theorem line_one (y : LineX) : ∀ u ∈ y.row, u.oneCell' = true := fun u hu => by simp [LineX.row] at hu; rcases hu with rfl | rfl | rfl | rfl | rfl | rfl | rfl | rfl | rfl | rfl | rfl | rfl | rfl | rfl <;> rfl

/-- Copies, as paragraphs and lines that are laid. -/
theorem twin_laid {b0 b1 b2 gp cp gx cx n : Nat} {w : World} {ps : List ParX} {os : List Own1} (hn : os.length = n) (pm : ∀ p ∈ ps, p.pn ≤ 9223372036854775807) (P : w.ownsRow b0 66 7 (.slice (some ⟨gp, 0, none⟩) (ps.length + 1) cp) (ps.length + 1) ((ps ++ [markPar]).flatMap ParX.row))
    (X : w.ownsRow b1 63 1 (.slice (some ⟨gx, 0, none⟩) (n + 1) cx) (n + 1) ((os.map Own1.x ++ [(⟨none, 0, []⟩ : LinesX)]).flatMap LinesX.row)) (C : Copies b2 w os) :
    Laid w (some ⟨gp, 0, none⟩) (some ⟨gx, 0, none⟩) cp cx ps (os.map Own1.x) := by
  subst hn
  have P' : w.ownsRow b0 66 7 (.slice (some ⟨gp, 0, none⟩) (ps.length + 1) cp) (ps ++ [markPar]).length ((ps ++ [markPar]).flatMap ParX.row) := by simpa using P
  have X' : w.ownsRow b1 63 1 (.slice (some ⟨gx, 0, none⟩) (os.length + 1) cx) (os.map Own1.x ++ [(⟨none, 0, []⟩ : LinesX)]).length ((os.map Own1.x ++ [(⟨none, 0, []⟩ : LinesX)]).flatMap LinesX.row) := by simpa using X
  obtain ⟨gp', cp', e1, hp1, hp2, hp3⟩ := own_formN P (by omega)
  obtain ⟨gx', cx', e2, hx1, hx2, hx3⟩ := own_formN X (by omega)
  simp only [Value.slice.injEq, Option.some.injEq, Addr.mk.injEq, and_true, true_and] at e1 e2
  obtain ⟨rfl, rfl⟩ := e1
  obtain ⟨rfl, rfl⟩ := e2
  obtain ⟨A1, c1, e1, _, hr1, _⟩ := own_rd (enc := ParX.row) (fun _ => rfl) P'
  obtain ⟨A2, c2, e2, _, hr2, _⟩ := own_rd (enc := LinesX.row) (fun _ => rfl) X'
  simp only [Value.slice.injEq] at e1 e2
  obtain ⟨rfl, _, rfl⟩ := e1
  obtain ⟨rfl, _, rfl⟩ := e2
  refine ⟨by simpa using hr1.take ps.length, by simpa using hr2.take (os.map Own1.x).length, ?_, by omega, by simp; omega, by omega, by omega, pm, ?_, by simp, by simp, ?_⟩
  · intro x hx
    obtain ⟨o, ho, rfl⟩ := List.mem_map.1 hx
    have h := C.own o ho
    have h' : w.ownsRow b2 92 14 (.slice (some ⟨o.g, 0, none⟩) (o.l.length + 1) o.cap) (o.l ++ [markLine]).length ((o.l ++ [markLine]).flatMap LineX.row) := by simpa using h
    obtain ⟨A3, c3, e3, _, hr3, _⟩ := own_rd (enc := LineX.row) (fun _ => rfl) h'
    simp only [Value.slice.injEq] at e3
    obtain ⟨rfl, _, rfl⟩ := e3
    simpa [Own1.x] using hr3.take o.l.length
  · intro x hx
    obtain ⟨o, ho, rfl⟩ := List.mem_map.1 hx
    obtain ⟨_, _, _, h1, _, h2, _⟩ := C.blk ho
    exact ⟨by simp only [Own1.x]; omega, by simp only [Own1.x]; omega⟩
  · intro x hx
    obtain ⟨o, ho, rfl⟩ := List.mem_map.1 hx
    intro h
    simp [Own1.x] at h

theorem outs_len {ps : List ParX} {ls : List LinesX} (m : MS) (ht : totalN ps ls ≤ 2147483647) : (outs ps ls m).1.length ≤ 2147483647 := by
  have h := (totalN_bounds ht).1
  unfold outs
  split
  · simp only
    split
    · exact h
    · simp
  · simp

theorem sumN_map {α β : Type} (f : β → Nat) (h : α → β) : ∀ (l : List α), sumN (fun x => f (h x)) l = sumN f (l.map h)
  | [] => rfl
  | x :: r => by simp only [List.map_cons, sumN, sumN_map f h r]

theorem totalN_same (ps : List ParX) (ls ls' : List LinesX) (h : ls'.map (fun x => x.l) = ls.map (fun x => x.l)) : totalN ps ls' = totalN ps ls := by
  have hl : ls'.length = ls.length := by have := congrArg List.length h; simpa using this
  have hs : sumN (fun x : LinesX => x.l.length) ls' = sumN (fun x : LinesX => x.l.length) ls := by
    rw [sumN_map List.length (fun x : LinesX => x.l), sumN_map List.length (fun x : LinesX => x.l), h]
  unfold totalN
  rw [hl, hs]

set_option maxRecDepth 100000 in
theorem lawSlabs_bad (A B : Option Addr) (n c m d : Nat) (s t : Int) (w : World) (hsd : s < 0 ∨ t < 0) :
    Calls Try.prog 39 #[.slice A n c, .slice B m d, .int .i64 s, .int .i64 t] w fun e w' => LawPost [] w e w' := by
  go_enter Try.func39, Try.ntmps39
  go_wp2_with fail
  refine (new_bad s t _ hsd).mono ?_
  rintro e w2 ⟨rfl, rfl⟩
  go_wp2_with fail
  refine (rnew_bad s t _ hsd).mono ?_
  rintro e w2 ⟨rfl, rfl⟩
  go_wp2
  exact bodyPost_ret (v := .tuple #[.slice none 0 0, .bool true]) (by simp [results, Try.results39, go_sem]) rfl ⟨.slice none 0 0, rfl, World.ownsRow_nil _ _ _ _, Keep.refl _ _⟩

set_option maxHeartbeats 25600000 in
set_option maxRecDepth 100000 in
theorem lawSlabs_good (A B : Option Addr) (c d : Nat) (ps : List ParX) (ls : List LinesX) (s t : Int) (w : World) (L : Laid w A B c d ps ls) (ht : totalN ps ls ≤ 2147483647) (hs0 : 0 ≤ s) (hs : s ≤ 9223372036854775807) (hd0 : 0 ≤ t) (hd : t ≤ 9223372036854775807) :
    Calls Try.prog 39 #[.slice A ps.length c, .slice B ls.length d, .int .i64 s, .int .i64 t] w fun e w' => LawPost (outs ps ls (MS.new s t)).1 w e w' := by
  obtain ⟨q1, q2, q3, q4⟩ := totalN_bounds ht
  have hA : A = none → ps.length = 0 := fun h => by have := L.an h; have := L.hc; omega
  have q2' : (ps.length : Int) ≤ 2147483647 := by omega
  have q3' : (ls.length : Int) ≤ 2147483647 := by omega
  go_enter Try.func39, Try.ntmps39
  go_wp2_with fail
  refine (new_good s t _ (by omega) (by omega)).mono ?_
  rintro e w2 ⟨rfl, M2, K2, s2⟩
  have S2 := hid s2
  clear s2
  go_wp2_with fail
  refine (rnew_good s t _ (by omega) (by omega)).mono ?_
  rintro e w3 ⟨rfl, N3, K3, s3⟩
  clear s3
  have hge : w.heap.size < w2.heap.size := by have := S2.out; omega
  have M3 : IsM w3 w.heap.size (MS.new s t) := M2.keep K3 (by simp)
  have K13 := K2.trans K3
  have hlt3 : w2.heap.size < w3.heap.size := blk_lt N3
  generalize w2.heap.size = q at *
  clear K2 K3 M2 S2 w2
  have LP := L.old K13 (by simp)
  have O0 := World.ownsRow_lit (base := w3.heap.size) (e := 66) (size := 7) w3 #[] 0 (Nat.le_refl _) (by simp [maxLen]) rfl
  have r1 := LP.p.old ((Keep.refl [] w3).alloc (.cells #[] 66)) (by simp)
  go_upto_region 9 with (at_builtin; (refine append_list (enc := ParX.row) rfl _ _ 55 (.agg #[.slice none 0 0, .int .i64 0, .int .i64 0, .int .i64 0, .int .i64 0, .int .i64 0, .int .i64 0]) 7 72 rfl (by kernel_rfl) (by kernel_rfl) (by kernel_rfl) (by decide) (by decide) w3.heap.size (.slice (some ⟨w3.heap.size, 0, none⟩) 0 0) 0 _ rfl rfl rfl hA r1 (fun _ => rfl) par_one O0 (by simp) (by omega) ?_; rintro v4 w4 O4 G4))
  have K4 : Keep [] w3 w4 := Keep.grown ((Keep.refl _ _).alloc _) G4 (fun k hk => .inr (by simp [Value.ownBlock] at hk; omega))
  simp only [Nat.zero_add, List.flatMap_nil, List.nil_append] at O4
  clear O0 r1 G4
  go_upto_region 10 with (at_builtin; (refine append_cells rfl _ _ 55 (.agg #[.slice none 0 0, .int .i64 0, .int .i64 0, .int .i64 0, .int .i64 0, .int .i64 0, .int .i64 0]) 7 72 rfl (by kernel_rfl) (by kernel_rfl) (by kernel_rfl) (by decide) (by decide) w3.heap.size v4 ps.length _ rfl rfl (by simp) rfl (by simp [Value.oneCell']) O4 K4.size (by omega) ?_; rintro v5 w5 O5 G5))
  have K5 : Keep [] w3 w5 := Keep.grown (K4.alloc _) G5 (fun k hk => .inr (own_base O4 k hk).1)
  have P5 : w5.ownsRow w3.heap.size 66 7 v5 (ps.length + 1) ((ps ++ [markPar]).flatMap ParX.row) := by simpa [markPar, ParX.row] using O5
  clear O4 G5 O5 K4
  obtain ⟨gp, cp, rfl, hcp, hgp, hcpm⟩ := own_formN P5 (by omega)
  have OX := World.ownsRow_lit (base := w5.heap.size) (e := 63) (size := 1) w5 #[] 0 (Nat.le_refl _) (by simp [maxLen]) rfl
  go_wp2_with fail
  go_loopw [16, 15] (fun vi vx wr => ∃ (i : Nat) (os : List Own1), i ≤ ls.length ∧ vi = .int .i64 i ∧ Hid (os.map (fun o => o.l) = (ls.take i).map (fun x => x.l)) ∧ Hid (os.length = i) ∧ Copies w5.heap.size wr os ∧ wr.ownsRow w5.heap.size 63 1 vx i ((os.map Own1.x).flatMap LinesX.row) ∧ Keep [] w5 wr) (fun vi _ _ => ls.length - (intOf vi).toNat)
  case atStart => exact ⟨0, [], Nat.zero_le _, rfl, hid rfl, hid rfl, ⟨by simp, by simp⟩, OX, (Keep.refl _ _).alloc _⟩
  case round =>
    clear OX
    obtain ⟨i, os, hi, rfl, HM, HL, C, OX, K⟩ := hrel
    by_cases hlt : i < ls.length
    · -- slow<
      obtain ⟨x, hx⟩ : ∃ x, ls[i]? = some x := ⟨ls[i], List.getElem?_eq_getElem hlt⟩
      have Lr := LP.old (K5.trans K) (by simp)
      obtain ⟨bd, hB, hcs⟩ := Lr.l i x hx
      have f0 := hcs 0 _ rfl
      rw [Nat.add_zero, Nat.mul_one] at f0
      subst hB
      clear hcs
      have xm := List.mem_of_getElem? hx
      have hxl := q4 x xm
      have hxa : x.a = none → x.l.length = 0 := fun h => by have := Lr.xn x xm h; have := (Lr.lm x xm).1; omega
      have HX := hid hx
      clear hx
      have hi2 : (i : Int) < (ls.length : Int) := by omega
      have hi3 : (0 : Int) ≤ (i : Int) := by omega
      have O1 := World.ownsRow_lit (base := wr.heap.size) (e := 92) (size := 14) wr #[] 0 (Nat.le_refl _) (by simp [maxLen]) rfl
      have r1 := (Lr.x x xm).old ((Keep.refl [] wr).alloc (.cells #[] 92)) (by simp)
      have f0' := cell_alloc' f0 (.cells #[] 92)
      go_upto_region 16 with (at_builtin; (refine append_list (enc := LineX.row) rfl _ _ 63 (.agg #[.int .i64 0, .int .i64 0, .int .i64 0, .int .i64 0, .int .i64 0, .int .i64 0, .int .i64 0, .int .i64 0, .int .i64 0, .bool false, .bool false, .bool false, .int .i64 0, .int .i64 0]) 14 96 rfl (by kernel_rfl) (by kernel_rfl) (by kernel_rfl) (by decide) (by decide) wr.heap.size (.slice (some ⟨wr.heap.size, 0, none⟩) 0 0) 0 _ rfl rfl rfl hxa r1 (fun _ => rfl) line_one O1 (by simp) (by omega) ?_; rintro v1 w1 O2 G1))
      have K1 : Keep [] wr w1 := Keep.grown ((Keep.refl _ _).alloc _) G1 (fun k hk => .inr (by simp [Value.ownBlock] at hk; omega))
      simp only [Nat.zero_add, List.flatMap_nil, List.nil_append] at O2
      clear O1 r1 G1
      go_upto_region 17 with (at_builtin; (refine append_cells rfl _ _ 63 (.agg #[.int .i64 0, .int .i64 0, .int .i64 0, .int .i64 0, .int .i64 0, .int .i64 0, .int .i64 0, .int .i64 0, .int .i64 0, .bool false, .bool false, .bool false, .int .i64 0, .int .i64 0]) 14 96 rfl (by kernel_rfl) (by kernel_rfl) (by kernel_rfl) (by decide) (by decide) wr.heap.size v1 x.l.length _ rfl rfl (by simp) rfl (by simp [Value.oneCell']) O2 K1.size (by omega) ?_; rintro v2 w2 O3 G2))
      have K2 : Keep [] wr w2 := Keep.grown (K1.alloc _) G2 (fun k hk => .inr (own_base O2 k hk).1)
      have O3' : w2.ownsRow wr.heap.size 92 14 v2 (x.l.length + 1) ((x.l ++ [markLine]).flatMap LineX.row) := by simpa [markLine, LineX.row] using O3
      clear O2 O3 G2 K1
      obtain ⟨g1, c1, rfl, hc1, hg1, hcm1⟩ := own_formN O3' (by omega)
      have f1 := K2.cell' f0 (by simp)
      have C2 := C.keep K2 (by simp)
      have OX2 := own_keep OX K2 (by simp)
      have hCg : ∀ a ∈ os, a.g < g1 := fun a ha => by obtain ⟨cur, hc, _⟩ := C.blk ha; have := blk_lt hc; omega
      have hc1' : (x.l.length : Int) ≤ (c1 : Int) := by omega
      have hz5 : w5.heap.size ≤ w2.heap.size := Nat.le_trans K.size K2.size
      clear f0 f0' C OX
      go_wp2_with (at_builtin; (refine append_cells rfl _ _ 56 (.slice none 0 0) 1 24 rfl (by kernel_rfl) (by kernel_rfl) (by kernel_rfl) (by decide) (by decide) w5.heap.size u15 i _ rfl rfl (by simp) rfl (by simp [Value.oneCell']) OX2 hz5 (by omega) ?_; rintro v3 w4 O4 G3))
      have KS : Keep u15.ownBlock.toList w2 w4 := Keep.grown ((Keep.refl _ _).alloc _) G3 (fun k hk => .inl (by simp [hk]))
      have C4 : Copies w5.heap.size w4 (os ++ [⟨g1, c1, x.l⟩]) := by
        refine (C2.keep KS (C2.apart OX2 (by decide))).snoc _ (own_mono (own_keep O3' KS (fun b hb => ?_)) (K.size)) hCg
        obtain ⟨cur, hc⟩ := (own_base O3' g1 (by simp [Value.ownBlock])).2.2
        have := own_ne OX2 hc (by decide)
        simp at hb
        simp only [Value.ownBlock, ne_eq, Option.some.injEq]
        rintro rfl
        exact this hb.symm
      have K4' : Keep [] w5 w4 := (K.trans K2).then KS (fun k hk => .inr (own_base OX2 k (by simpa using hk)).1)
      clear C2 OX2 O3' KS G3
      go_wp2
      go_roundw
      case rel => exact ⟨i + 1, os ++ [⟨g1, c1, x.l⟩], hlt, by go_num, hid (by rw [List.map_append, HM.out, take_snoc HX.out, List.map_append]; rfl), hid (by rw [List.length_append, HL.out]; rfl), C4, by simpa [Own1.x, LinesX.row] using O4, K4'⟩
      case measure => simp [intOf]; omega
      -- slow>
    · obtain rfl : i = ls.length := by omega
      have HMf : Hid ((os.map Own1.x).map (fun x => x.l) = ls.map (fun x => x.l)) := hid (by rw [List.map_map]; have h := HM.out; rw [List.take_length] at h; exact h)
      clear HM
      have hz5 := K.size
      go_upto_region 19 with (at_builtin; (refine append_cells rfl _ _ 56 (.slice none 0 0) 1 24 rfl (by kernel_rfl) (by kernel_rfl) (by kernel_rfl) (by decide) (by decide) w5.heap.size u15 ls.length _ rfl rfl (by simp) rfl (by simp [Value.oneCell']) OX hz5 (by omega) ?_; rintro v6 w6 O6 G6))
      have KS : Keep u15.ownBlock.toList wr w6 := Keep.grown ((Keep.refl _ _).alloc _) G6 (fun k hk => .inl (by simp [hk]))
      have C6 := C.keep KS (C.apart OX (by decide))
      have K6 : Keep [] w5 w6 := K.then KS (fun k hk => .inr (own_base OX k (by simpa using hk)).1)
      have K36 : Keep [] w3 w6 := K5.trans K6
      have P6 := own_keep P5 K6 (by simp)
      have X6 : w6.ownsRow w5.heap.size 63 1 v6 (ls.length + 1) ((os.map Own1.x ++ [(⟨none, 0, []⟩ : LinesX)]).flatMap LinesX.row) := by simpa [LinesX.row] using O6
      clear C OX K KS G6 O6 P5
      obtain ⟨gx, cx, rfl, hcx, hgx, hcxm⟩ := own_formN X6 (by omega)
      have M6 := M3.keep K36 (by simp)
      have N6 := N3.keep K36 (by simp)
      have hw35 := K5.size
      have hw56 := K6.size
      have key : ∀ W0, Keep [] w6 W0 → ∀ W, Keep [w.heap.size] W0 W → Laid W (some ⟨gp, 0, none⟩) (some ⟨gx, 0, none⟩) cp cx ps (os.map Own1.x) := fun W0 k0 W k =>
        twin_laid HL.out L.pm (own_keep (own_keep P6 k0 (by simp)) k (by simp [Value.ownBlock]; omega)) (own_keep (own_keep X6 k0 (by simp)) k (by simp [Value.ownBlock]; omega))
          ((C6.keep k0 (by simp)).keep k (fun b hb o ho => by obtain ⟨cur, _, hB, _⟩ := C6.blk ho; simp at hb; omega))
      have ht' : totalN ps (os.map Own1.x) ≤ 2147483647 := by rw [totalN_same ps ls _ HMf.out]; exact ht
      have okM : (MS.new s t).ok := MS.ok_new hs0 hs hd0 hd
      have hosl : (os.map Own1.x).length = ls.length := by simp [HL.out]
      have C7 := slabs_out w.heap.size (MS.new s t) (some ⟨gp, 0, none⟩) (some ⟨gx, 0, none⟩) cp cx ps (os.map Own1.x) w6.drew (isM_drew M6) okM (key _ ((Keep.refl [] _).drew)) ht' rfl hosl
      have C7' := slabs_out w.heap.size (MS.new s t) (some ⟨gp, 0, none⟩) (some ⟨gx, 0, none⟩) cp cx ps (os.map Own1.x) (w6.alloc (.cells #[.int .i64 0, .int .i64 0] 59)).drew (isM_drew (blk_alloc M6 _)) okM (key _ (((Keep.refl [] _).alloc _).drew)) ht' rfl hosl
      rw [outs_same ps ls _ _ HMf.out] at C7 C7'
      have C8 := fun W hN k => rslabs_out q (MS.new s t) (RS.new s t) A B c d ps ls W hN (Like.new s t) okM k ht
      have hRl := outs_len (MS.new s t) ht
      obtain ⟨R, hR⟩ : ∃ R, R = outs ps ls (MS.new s t) := ⟨_, rfl⟩
      rw [← hR] at C7 C7' hRl
      simp only [← hR] at C8
      have HR := hid hR
      clear hR
      have hgw : w.heap.size < w6.heap.size := blk_lt M6
      have hcp' : (ps.length : Int) ≤ (cp : Int) := by omega
      have hcx' : (ls.length : Int) ≤ (cx : Int) := by omega
      have HKey := hid key
      have HO := hid hosl
      clear key hosl
      go_cut [19, 20] (fun v b wc => SlabOut w.heap.size R w6 v b wc)
      case first =>
        -- slow<
        go_region_held3 (fun w' => Keep [w.heap.size] w6 w') ((repeat (with_reducible first | exact Keep.refl _ _ | refine Keep.drew ?_ | refine Keep.alloc ?_ _ | refine Keep.set ?_ (.inr (by first | exact Nat.le_refl _ | assumption)) _ | refine Keep.trans (S := [w.heap.size]) ?_ (by assumption)))) ((go_at_call 38; (first | (with_reducible refine C7.mono ?_) | (with_reducible refine C7'.mono ?_)); rintro e w7 ⟨v7, rfl, O7, M7, K7⟩; have z7 := K7.size; (try simp only [size_drew', size_alloc'] at z7); (try have N7 := K7.blk (blk_drew (blk_new w6 (.cells #[.int .i64 0, .int .i64 0] 59))) (by simp; omega)); (try have x0 := blk_cell N7 0); (try have x1 := blk_cell N7 1); (try have y0 := blk_free N7 0); (try have y1 := blk_free N7 1); (try simp only [List.getElem?_toArray, List.getElem?_cons_zero, List.getElem?_cons_succ] at x0 x1)))
        all_goals go_wp2
        all_goals go_meet
        · exact SlabOut.after O7 M7 K7
        · exact SlabOut.before O7 M7 K7 hgw
        -- slow>
      case rest =>
        clear C7 C7'
        obtain ⟨bb, rfl, hbb, F7, O7, M7, K7⟩ := hcut
        rename World => W7
        have N7 := N6.keep K7 (by simp; omega)
        have K07 : Keep [] w W7 := (K13.trans K36).then K7 (by simp)
        have key2 : ∀ W, Keep [q] W7 W → Laid W A B c d ps ls := fun W k => L.old (K07.then k (T := [q]) (S := []) (by simp; omega)) (by simp)
        have C9 := C8 W7 N7 key2
        clear C8 key2
        go_wp2_with fail
        refine C9.mono ?_
        rintro e w8 ⟨v8, r8, rfl, O8, N8, L8, K8⟩
        go_upto_region 21 with (fail)
        have hqb : q < w6.heap.size := by omega
        have F8 := blk_alloc (K8.blk F7 (by simp; omega)) (.cells #[.int .i64 R.2.1, .int .i64 0] 59)
        have E8 := blk_new w8 (.cells #[.int .i64 R.2.1, .int .i64 0] 59)
        have M8 := (M7.keep K8 (by simp; omega)).keep ((Keep.refl [] w8).alloc (.cells #[.int .i64 R.2.1, .int .i64 0] 59)) (by simp)
        have N8' := N8.keep ((Keep.refl [] w8).alloc (.cells #[.int .i64 R.2.1, .int .i64 0] 59)) (by simp)
        have O7a := (own_keep O7 K8 (by simpa using own_ne O7 N7 (by decide))).alloc (.cells #[.int .i64 R.2.1, .int .i64 0] 59)
        have O8a := O8.alloc (.cells #[.int .i64 R.2.1, .int .i64 0] 59)
        have K68 : Keep [w.heap.size, q] w6 (w8.alloc (.cells #[.int .i64 R.2.1, .int .i64 0] 59)) := ((K7.mono (by simp)).trans (K8.mono (by simp))).alloc _
        have h8 : w8.heap.size < (w8.alloc (.cells #[.int .i64 R.2.1, .int .i64 0] 59)).heap.size := by simp
        clear F7 M7 N7 N8 O7 O8 C9
        generalize w8.alloc (.cells #[.int .i64 R.2.1, .int .i64 0] 59) = W8 at *
        generalize w8.heap.size = b8 at *
        obtain ⟨A7, c7, e7, hc7, hr7, _⟩ := own_rd (enc := Slab.row) (fun _ => rfl) O7a
        obtain ⟨A8, c8, e8, hc8, hr8, _⟩ := own_rd (enc := Slab.row) (fun _ => rfl) O8a
        subst e7 e8
        have x0 := blk_cell F8 0
        have x1 := blk_cell F8 1
        have y0 := blk_cell E8 0
        have y1 := blk_cell E8 1
        simp only [List.getElem?_toArray, List.getElem?_cons_zero, List.getElem?_cons_succ] at x0 x1 y0 y1
        obtain ⟨l1, l2, l3, l4, l5, l6⟩ := L8
        have H3 := hid l3
        have H4 := hid l4
        have H5 := hid l5
        have H6 := hid l6
        clear l1 l2 l3 l4 l5 l6
        go_wp2_with fail
        refine (sameSlabs_same A7 A8 R.1.length R.1.length c7 c8 R.1 _ rfl rfl hr7 hr8 (by omega)).mono ?_
        rintro e w9 ⟨rfl, K9⟩
        have M9 := M8.keep K9 (by simp)
        have N9 := N8'.keep K9 (by simp)
        have P9 := own_keep (own_keep P6 K68 (by simp [Value.ownBlock]; omega)) K9 (by simp)
        have hrP : Rd ParX.row 7 w9 (some ⟨gp, 0, none⟩) (ps ++ [markPar]) := own_rd' (fun _ => rfl) (by simp) P9
        obtain ⟨_, hAd, hcs⟩ := hrP ps.length markPar (by simp)
        obtain rfl := Option.some.inj hAd
        have pm := hcs 5 (.int .i64 (-77)) rfl
        simp only [add_zero_at] at pm
        clear hcs hAd x0 x1 y0 y1
        have hpc : (ps.length : Int) < (ps.length : Int) + 1 := by omega
        go_wp2_with fail
        refine (steps_any _ R.2.2 _ M9).mono ?_
        rintro e w' ⟨rfl, rfl⟩
        go_wp2_with fail
        refine (rsteps_any q r8 _ N9).mono ?_
        rintro e w' ⟨rfl, rfl⟩
        rw [H3.out]
        go_wp2_with fail
        refine (held_any _ R.2.2 _ M9).mono ?_
        rintro e w' ⟨rfl, rfl⟩
        go_wp2_with fail
        refine (rheld_any q r8 _ N9).mono ?_
        rintro e w' ⟨rfl, rfl⟩
        rw [H4.out]
        go_wp2_with fail
        refine (peak_any _ R.2.2 _ M9).mono ?_
        rintro e w' ⟨rfl, rfl⟩
        go_wp2_with fail
        refine (rpeak_any q r8 _ N9).mono ?_
        rintro e w' ⟨rfl, rfl⟩
        rw [H5.out]
        go_wp2_with fail
        refine (refused_any _ R.2.2 _ M9).mono ?_
        rintro e w' ⟨rfl, rfl⟩
        go_wp2_with fail
        refine (rrefused_any q r8 _ N9).mono ?_
        rintro e w' ⟨rfl, rfl⟩
        rw [H6.out]
        go_wp2_with fail
        have K09 : Keep [] w w9 := (((K13.trans K36).then K68 (by simp; omega)).trans K9)
        clear pm hpc
        go_loopw [24, 23] (fun vi vok wr => ∃ i : Nat, i ≤ ps.length ∧ vi = .int .i64 i ∧ vok = .bool true ∧ Keep [] w9 wr) (fun vi _ _ => ps.length - (intOf vi).toNat)
        case atStart => exact ⟨0, Nat.zero_le _, rfl, rfl, Keep.refl _ _⟩
        case round =>
          obtain ⟨i, hi, rfl, rfl, K⟩ := hrel
          by_cases hlt : i < ps.length
          · -- slow<
            obtain ⟨p, hp⟩ : ∃ p, ps[i]? = some p := ⟨ps[i], List.getElem?_eq_getElem hlt⟩
            obtain ⟨ad, hA, hcs⟩ := (L.old (K09.trans K) (by simp)).p i p hp
            obtain ⟨bd, hB, hds⟩ := (hrP.old K (by simp)) i p (by rw [List.getElem?_append_left hlt]; exact hp)
            obtain rfl := Option.some.inj hB
            subst hA
            have d0 := hcs 0 _ rfl
            have d2 := hcs 2 _ rfl
            have d3 := hcs 3 _ rfl
            have d4 := hcs 4 _ rfl
            have d5 := hcs 5 _ rfl
            have e0 := hds 0 _ rfl
            have e2 := hds 2 _ rfl
            have e3 := hds 3 _ rfl
            have e4 := hds 4 _ rfl
            have e5 := hds 5 _ rfl
            rw [add_at _ _ _ (by omega)] at d2 d3 d4 d5
            rw [Nat.add_zero] at d0
            simp only [add_zero_at, Nat.add_zero] at e0 e2 e3 e4 e5
            clear hcs hds hp hB
            have hi2 : (i : Int) < (ps.length : Int) := by omega
            have hi3 : (i : Int) < (ps.length : Int) + 1 := by omega
            have hi4 : (0 : Int) ≤ (i : Int) := by omega
            have KK := hid K
            have HL0 := hid L
            clear K L P6 X6 C6 K36 K68 K09 hr7 hr8 M8 N8' M9 N9 F8 E8 O7a O8a P9 hrP
            go_upto_region 25 with (fail)
            conv => arg 2; simp only [List.append_eq, List.cons_append, List.nil_append]
            refine wp_region_quiet_cheap (by kernel_rfl) (by kernel_rfl) ?_
            repeat (go_big_quiet_step (fail))
            refine wpQuiet_nil ?_
            intro _ hw'
            obtain ⟨nq, hw''⟩ := hw'
            subst hw''
            go_wp2
            go_roundw
            case rel => exact ⟨i + 1, hlt, by go_num, rfl, KK.out.drewN _⟩
            case measure => simp [intOf]; omega
            -- slow>
          · obtain rfl : i = ps.length := by omega
            go_wp2_with fail
            have K0r := K09.trans K
            have C10 := ((C6.keep K68 (fun b hb o ho => by obtain ⟨cur, _, hB, _⟩ := C6.blk ho; simp at hb; omega)).keep K9 (by simp)).keep K (by simp)
            have X10 := own_keep (own_keep (own_keep X6 K68 (by simp [Value.ownBlock]; omega)) K9 (by simp)) K (by simp)
            have O7b := own_keep (own_keep O7a K9 (by simp)) K (by simp)
            have O8b := own_keep (own_keep O8a K9 (by simp)) K (by simp)
            have hOL : ∀ (i : Nat) (o : Own1), os[i]? = some o → ∃ x, ls[i]? = some x ∧ x.l = o.l := fun i o ho => by
              have h := congrArg (fun l => l[i]?) HMf.out
              simp only [List.getElem?_map, ho, Option.map_some] at h
              cases hx : ls[i]? with
              | none => rw [hx] at h; simp at h
              | some x => rw [hx] at h; simp [Own1.x] at h; exact ⟨x, rfl, h.symm⟩
            have HOL := hid hOL
            have hUp := hid C6.up
            clear C6 X6 O7a O8a hr7 hr8 M8 N8' M9 N9 F8 E8 P9 hrP P6 K36 K68 K09 K9 hOL K
            obtain ⟨wa, rfl⟩ : ∃ wa : World, wa = wr := ⟨_, rfl⟩
            refine slabs_loop3 L q3 q4 (by have := K13.size; omega) HL HOL K0r C10 X10 ?_
            intro u8_ u9_ u26_ u27_ u230_ u231_ u232_ u233_ u234_ u235_ u236_ u237_ u238_ u239_ u240_ u241_ u242_ u243_ u244_ u245_ u246_ u247_ u248_ u249_ u250_ u251_ u252_ u253_ u254_ u255_ u256_ u257_ u258_ u259_ u260_ u261_ u262_ u263_ u264_ u265_ u266_ u267_ u268_ u269_ u270_ u271_ u272_ u273_ u274_ u275_ u276_ u277_ u278_ u279_ u280_ u281_ u282_ u283_ u284_ u285_ u286_ u287_ u288_ u289_ u290_ u291_ u292_ u293_ wr K
            have hSl : ∀ b ∈ os.map (fun o => o.g), ∃ cur, wa.heap[b]? = some (.cells cur 92 (0, 0)) := fun b hb => by
              obtain ⟨o', ho', rfl⟩ := List.mem_map.1 hb
              obtain ⟨cur, hc, _⟩ := C10.blk ho'
              exact ⟨cur, hc⟩
            have Kw : Keep [] w wr := K0r.then K (fun b hb => by
              obtain ⟨o', ho', rfl⟩ := List.mem_map.1 hb
              obtain ⟨_, _, hB, _⟩ := C10.blk ho'
              have := K13.size
              exact .inr (by omega))
            have O7c := own_keep O7b K (fun b hb => by obtain ⟨cur, hc⟩ := hSl b hb; exact own_ne O7b hc (by decide))
            have O8c := own_keep O8b K (fun b hb => by obtain ⟨cur, hc⟩ := hSl b hb; exact own_ne O8b hc (by decide))
            obtain ⟨A7', c7', e7, hc7', hr7, _⟩ := own_rd (enc := Slab.row) (fun _ => rfl) O7c
            obtain ⟨A8', c8', e8, hc8', hr8, _⟩ := own_rd (enc := Slab.row) (fun _ => rfl) O8c
            simp only [Value.slice.injEq, true_and] at e7 e8
            obtain ⟨rfl, rfl⟩ := e7
            obtain ⟨rfl, rfl⟩ := e8
            have O7d := own_mono (b' := w.heap.size) O7c (by omega)
            clear O7b O8b O8c C10 X10 K0r hSl O7c
            go_wp2_with fail
            refine (sameSlabs_same A7 A8 R.1.length R.1.length c7 c8 R.1 _ rfl rfl hr7 hr8 (by omega)).mono ?_
            rintro e w11 ⟨rfl, K11⟩
            have O7e := own_keep O7d K11 (by simp)
            have K12 := Kw.trans K11
            go_wp2
            exact bodyPost_ret (v := .tuple #[.slice A7 R.1.length c7, .bool true]) (by simp [results, Try.results39, go_sem]) rfl (show LawPost (outs ps ls (MS.new s t)).1 w _ _ from by rw [← HR.out]; exact ⟨_, rfl, O7e, K12⟩)

end Go.Proofs.Ytgelccenbceeoaa
