/- The reference's Slabs, by a contract. -/
import Derived.Test.YtgelccenbceeoaaRef17
import Derived.Test.YtgelccenbceeoaaSlabs
import Derived.StillTailTactics
namespace Go.Proofs.Ytgelccenbceeoaa
open Go.RowKit
set_option linter.unusedSimpArgs false
set_option linter.unusedVariables false

/-- Where the reference's loops stand: what is out, the meter, the result's cells. -/
structure RSlabRel (g gb : Nat) (w wr : World) (v : Value) (out : List Slab) (m : MS) (r : RS) : Prop where
  own : wr.ownsRow w.heap.size 51 9 v out.length (out.flatMap Slab.row)
  isR : IsR wr g r
  like : Like m r
  ok : m.ok
  keep : Keep [g] w wr
  blk : wr.heap[gb]? = some (.cells #[.int .i64 0, .int .i64 0] 59 (0, 0))

theorem RSlabRel.move {g gb : Nat} {w W W' : World} {v : Value} {out : List Slab} {m : MS} {r : RS} (R : RSlabRel g gb w W v out m r) (k : Keep [] W W') : RSlabRel g gb w W' v out m r :=
  ⟨own_keep R.own k (by simp), R.isR.keep k (by simp), R.like, R.ok, R.keep.trans (k.mono (by simp)), k.blk R.blk (by simp)⟩
theorem RSlabRel.step {g gb : Nat} {w W W' : World} {v : Value} {out : List Slab} {m m' : MS} {r r' : RS} (R : RSlabRel g gb w W v out m r) (k : Keep [g] W W') (hM : IsR W' g r') (hL : Like m' r') (ok : m'.ok) (hne : gb ≠ g) : RSlabRel g gb w W' v out m' r' :=
  ⟨own_keep R.own k (by simpa using own_ne R.own R.isR (by decide)), hM, hL, ok, R.keep.trans k, k.blk R.blk (by simp; omega)⟩
theorem RSlabRel.grown {g gb : Nat} {w W W' : World} {v v1 : Value} {out : List Slab} {m : MS} {r : RS} {s : Slab} {o : Obj} (R : RSlabRel g gb w W v out m r) (hgr : (W.alloc o).grownBy W' v.ownBlock)
    (hown : W'.ownsRow w.heap.size 51 9 v1 (out.length + 1) (out.flatMap Slab.row ++ s.row)) : RSlabRel g gb w W' v1 (out ++ [s]) m r :=
  ⟨by simpa using hown, blk_grown (blk_alloc R.isR _) hgr (own_ne R.own R.isR (by decide)), R.like, R.ok, Keep.grown (R.keep.alloc _) hgr (fun k hk => .inr (own_base R.own k hk).1), blk_grown (blk_alloc R.blk _) hgr (own_ne R.own R.blk (by decide))⟩

theorem rslabs_bad (g : Nat) (A B : Option Addr) (n c m d : Nat) (w : World) (h : n ≠ m) (hn : n ≤ 9223372036854775807) (hm : m ≤ 9223372036854775807) :
    Calls Try.prog 60 #[.pointer (some ⟨g, 0, none⟩), .slice A n c, .slice B m d] w fun e w' => e = .returned (.tuple #[.slice none 0 0, .agg #[.int .i64 1, .int .i64 0]]) ∧ Keep [] w w' := by
  have hne : ((n : Int) != (m : Int)) = true := by simp; omega
  go_enter Try.func60, Try.ntmps60
  go_wp2
  exact bodyPost_ret (v := .tuple #[.slice none 0 0, .agg #[.int .i64 1, .int .i64 0]]) (by simp [results, Try.results60, go_sem]) rfl ⟨rfl, (Keep.refl _ _).alloc _⟩

/-- What the reference's Slabs leaves. -/
def RSlabsPost (g : Nat) (m0 : MS) (ALL : List Slab) (w : World) (e : Ending) (w' : World) : Prop :=
  ∃ (v : Value) (r : RS), e = .returned (.tuple #[v, .agg #[.int .i64 (if (chargeN m0 ALL.length).1 = true then 0 else (chargeN m0 ALL.length).2.rf), .int .i64 0]]) ∧
    w'.ownsRow w.heap.size 51 9 v (if (chargeN m0 ALL.length).1 = true then ALL else []).length ((if (chargeN m0 ALL.length).1 = true then ALL else []).flatMap Slab.row) ∧
    IsR w' g r ∧ Like (chargeN m0 ALL.length).2 r ∧ Keep [g] w w'

theorem RSlabsPost.refused {g : Nat} {m0 : MS} {ALL : List Slab} {w W : World} {m : MS} {r : RS} {v : Value} {out : List Slab} {u1 u2 : Value} (C : RSlabRel g w.heap.size w W v out m r) (h : chargeN m0 ALL.length = (false, m)) (hg : g < w.heap.size) :
    RSlabsPost g m0 ALL w (.returned (.tuple #[.slice none 0 0, .agg #[.int .i64 r.wy, .int .i64 0]])) ((W.setCell ⟨w.heap.size, 0, none⟩ u1).setCell ⟨w.heap.size, 1, none⟩ u2) := by
  refine ⟨.slice none 0 0, r, ?_, ?_, ?_, ?_, (C.keep.set (.inr (Nat.le_refl _)) _).set (.inr (Nat.le_refl _)) _⟩
  · rw [h]; simp only; rw [C.like.2.2.2.2.2]; simp
  · rw [h]; simp [World.ownsRow_nil]
  · exact blk_far (blk_far C.isR (by simp; omega) _) (by simp; omega) _
  · rw [h]; exact C.like

/-- The lead of a slab, by two ways. -/
theorem lead_hi {a b : Int} (ha : 0 ≤ a) (h : b > a) : gr [a, b] = b := by simp [gr]; omega
theorem lead_lo {a b : Int} (ha : 0 ≤ a) (h : ¬ b > a) : gr [a, b] = a := by simp [gr]; omega

set_option maxHeartbeats 6400000 in
set_option maxRecDepth 100000 in
theorem rslabs_any (g : Nat) (m0 : MS) (r0 : RS) (A B : Option Addr) (c d : Nat) (ps : List ParX) (ls : List LinesX) (w : World) (hg : IsR w g r0) (hL0 : Like m0 r0) (ok : m0.ok)
    (hp : ∀ W, Keep [g] w W → Rd ParX.row 7 W A ps) (hl : ∀ W, Keep [g] w W → Rd LinesX.row 1 W B ls) (hll : ∀ W, Keep [g] w W → ∀ x ∈ ls, Rd LineX.row 14 W x.a x.l) (hlen : ps.length = ls.length) (hn : (slabsAll 0 0 ps ls).length ≤ 2147483647) (hps : ps.length ≤ 2147483647) (hls : ∀ x ∈ ls, x.l.length ≤ 2147483647) :
    Calls Try.prog 60 #[.pointer (some ⟨g, 0, none⟩), .slice A ps.length c, .slice B ls.length d] w fun e w' =>
      RSlabsPost g m0 (slabsAll 0 0 ps ls) w e w' := by
  have hlt := blk_lt hg
  rw [← hlen]
  have Hlen := hid hlen
  clear hlen
  go_enter Try.func60, Try.ntmps60
  go_wp2_with fail
  have R0 : RSlabRel g w.heap.size w ((w.alloc (.cells #[.int .i64 0, .int .i64 0] 59)).alloc (.cells #[] 51)) (.slice (some ⟨w.heap.size + 1, 0, none⟩) 0 0) [] m0 r0 := ⟨by have h := World.ownsRow_lit (base := w.heap.size) (e := 51) (size := 9) (w.alloc (.cells #[.int .i64 0, .int .i64 0] 59)) #[] 0 (by simp) (by simp [maxLen]) rfl; rw [size_alloc'] at h; exact h, blk_alloc (blk_alloc hg _) _, hL0, ok, ((Keep.refl _ _).alloc _).alloc _, blk_alloc (blk_new _ _) _⟩
  obtain ⟨ALL, hALL⟩ : ∃ ALL, ALL = slabsAll 0 0 ps ls := ⟨_, rfl⟩
  have HALL := hid hALL
  rw [← hALL] at hn
  clear hALL
  go_loopw [10, 8, 9] (fun vi vo vd wr => ∃ (i : Nat) (dd : Int) (out : List Slab) (m : MS) (r : RS), i ≤ ps.length ∧ vi = .int .i64 i ∧ vd = .int .i64 dd ∧ 0 ≤ dd ∧ dd ≤ 70368744177664 ∧
      Hid (ALL = out ++ slabsAll dd i (ps.drop i) (ls.drop i)) ∧ Hid (chargeN m0 ALL.length = chargeN m (ALL.length - out.length)) ∧ RSlabRel g w.heap.size w wr vo out m r) (fun vi _ _ _ => ps.length - (intOf vi).toNat)
  case atStart => exact ⟨0, 0, [], m0, r0, by omega, rfl, rfl, by omega, by omega, hid (by rw [HALL.out]; simp), hid (by simp), R0⟩
  case round =>
    obtain ⟨i, dd, out, m, r, hi1, rfl, rfl, hd0, hd1, HA, HC, R⟩ := hrel
    clear R0
    by_cases hlt2 : i < ps.length
    · obtain ⟨p, hpi⟩ : ∃ p, ps[i]? = some p := ⟨ps[i], List.getElem?_eq_getElem hlt2⟩
      obtain ⟨x, hxi⟩ : ∃ x, ls[i]? = some x := ⟨ls[i], List.getElem?_eq_getElem (by have := Hlen.out; omega)⟩
      have hxm := List.mem_of_getElem? hxi
      have hxl := hls x hxm
      have hdp : ps.drop i = p :: ps.drop (i + 1) := by rw [List.drop_eq_getElem_cons hlt2]; rw [List.getElem?_eq_getElem hlt2] at hpi; rw [Option.some.inj hpi]
      have hdl : ls.drop i = x :: ls.drop (i + 1) := by rw [List.drop_eq_getElem_cons (by have := Hlen.out; omega)]; rw [List.getElem?_eq_getElem (by have := Hlen.out; omega)] at hxi; rw [Option.some.inj hxi]
      have HA2 : Hid (ALL = out ++ (slabsIn i x.l.length p dd 0 (x.l.drop 0) ++ slabsAll (depthIn dd (x.l.drop 0)) (i + 1) (ps.drop (i + 1)) (ls.drop (i + 1)))) := by
        have h := HA.out
        rw [hdp, hdl] at h
        exact h
      have Hx := hid hxi
      have Hp := hid hpi
      clear hpi hxi hdp hdl HA
      have hi2 : (i : Int) < (ps.length : Int) := by omega
      have hi3 : (0 : Int) ≤ (i : Int) := by omega
      go_wp2_with fail
      go_loopw [11, 8, 9] (fun vk vo vd wi => ∃ (k : Nat) (d' : Int) (out' : List Slab) (m' : MS) (r' : RS), k ≤ x.l.length ∧ vk = .int .i64 k ∧ vd = .int .i64 d' ∧ 0 ≤ d' ∧ d' ≤ 70368744177664 ∧
          Hid (ALL = out' ++ (slabsIn i x.l.length p d' k (x.l.drop k) ++ slabsAll (depthIn d' (x.l.drop k)) (i + 1) (ps.drop (i + 1)) (ls.drop (i + 1)))) ∧ Hid (chargeN m0 ALL.length = chargeN m' (ALL.length - out'.length)) ∧ RSlabRel g w.heap.size w wi vo out' m' r') (fun vk _ _ _ => x.l.length - (intOf vk).toNat)
      case atStart => exact ⟨0, dd, out, m, r, by omega, rfl, rfl, hd0, hd1, HA2, HC, R⟩
      case round =>
        clear R HA2 HC hd0 hd1
        obtain ⟨k, d', out', m', r', hk1, rfl, rfl, hd'0, hd'1, HA3, HC3, R⟩ := hrel
        obtain ⟨bd, hB1, hbs⟩ := hl _ R.keep i x Hx.out
        have f0 := hbs 0 _ rfl
        rw [Nat.add_zero, Nat.mul_one] at f0
        subst hB1
        clear hbs
        by_cases hlt3 : k < x.l.length
        · obtain ⟨y, hyk⟩ : ∃ y, x.l[k]? = some y := ⟨x.l[k], List.getElem?_eq_getElem hlt3⟩
          have hdy : x.l.drop k = y :: x.l.drop (k + 1) := by rw [List.drop_eq_getElem_cons hlt3]; rw [List.getElem?_eq_getElem hlt3] at hyk; rw [Option.some.inj hyk]
          have HA4 : Hid (ALL = (out' ++ [slabAt d' i k x.l.length p y]) ++ (slabsIn i x.l.length p (cl y.dp 70368744177664) (k + 1) (x.l.drop (k + 1)) ++ slabsAll (depthIn (cl y.dp 70368744177664) (x.l.drop (k + 1))) (i + 1) (ps.drop (i + 1)) (ls.drop (i + 1)))) := by
            have h := HA3.out
            rw [hdy] at h
            show ALL = _
            rw [h]
            simp [slabsIn, depthIn]
          have Hy := hid hyk
          clear hdy hyk HA3
          obtain ⟨q, hq⟩ : ∃ q, ALL.length - out'.length = q + 1 := ⟨ALL.length - out'.length - 1, by have := congrArg List.length HA4.out; simp at this; omega⟩
          have hC := HC3.out
          rw [hq, chargeN_succ] at hC
          obtain ⟨b1, m1, e1⟩ : ∃ b m1, m'.step 1 = (b, m1) := ⟨_, _, rfl⟩
          have ok1 := MS.ok_step R.ok 1
          rw [e1] at ok1 hC
          simp only at ok1 hC
          have H1 := hid e1
          have Hq := hid hq
          clear e1 hq HC3
          have hsl := R.like.step 1
          rw [H1.out] at hsl
          have Hs := hid hsl.1
          have hl1 := hsl.2
          simp only at hl1
          clear hsl
          have hk2 : (k : Int) < (x.l.length : Int) := by omega
          have hk3 : (0 : Int) ≤ (k : Int) := by omega
          go_wp2_with fail
          refine (rstep_any g r' 1 _ R.isR (R.like.rok R.ok)).mono ?_
          rintro e w3 ⟨rfl, hM3, K3⟩
          rw [← Hs.out]
          have C3 := R.step K3 hM3 hl1 ok1 (by omega)
          have hbw : w.heap.size < wr.heap.size := blk_lt R.blk
          clear f0 R
          cases b1 with
          | false =>
            have HF := hid (show chargeN m0 ALL.length = (false, m1) from hC.trans (if_neg (by simp)))
            clear hC
            go_wp2_with fail
            generalize (r'.step 1).2 = r1 at *
            refine (rrefused_any g r1 _ hM3).mono ?_
            rintro e w' ⟨rfl, rfl⟩
            have x0 := blk_cell C3.blk 0
            have x1 := blk_cell C3.blk 1
            have y0 := blk_free C3.blk 0
            have y1 := blk_free C3.blk 1
            simp only [List.getElem?_toArray, List.getElem?_cons_zero, List.getElem?_cons_succ] at x0 x1
            go_wp2
            exact bodyPost_ret (v := .tuple #[.slice none 0 0, .agg #[.int .i64 r1.wy, .int .i64 0]]) (by simp [results, Try.results60, go_sem, x0, x1, y0, y1]) rfl (by rw [← HALL.out]; exact RSlabsPost.refused C3 HF.out hlt)
          | true =>
            rw [if_pos rfl] at hC
            obtain ⟨b2, m2, e2⟩ : ∃ b m2, m1.hold 1 = (b, m2) := ⟨_, _, rfl⟩
            have ok2 := MS.ok_hold ok1 1
            rw [e2] at ok2 hC
            simp only at ok2 hC
            have H2 := hid e2
            clear e2
            have hsl := C3.like.hold ok1 1
            rw [H2.out] at hsl
            have Hs2 := hid hsl.1
            have hl2 := hsl.2
            simp only at hl2
            clear hsl
            generalize (r'.step 1).2 = r1 at *
            go_wp2_with fail
            refine (rhold_any g r1 1 _ hM3 (C3.like.rok ok1)).mono ?_
            rintro e w4 ⟨rfl, hM4, K4⟩
            rw [← Hs2.out]
            have C4 := C3.step K4 hM4 hl2 ok2 (by omega)
            cases b2 with
            | false =>
              have HF := hid (show chargeN m0 ALL.length = (false, m2) from hC.trans (if_neg (by simp)))
              clear hC
              go_wp2_with fail
              generalize (r1.hold 1).2 = r2 at *
              refine (rrefused_any g r2 _ hM4).mono ?_
              rintro e w' ⟨rfl, rfl⟩
              have x0 := blk_cell C4.blk 0
              have x1 := blk_cell C4.blk 1
              have y0 := blk_free C4.blk 0
              have y1 := blk_free C4.blk 1
              simp only [List.getElem?_toArray, List.getElem?_cons_zero, List.getElem?_cons_succ] at x0 x1
              go_wp2
              exact bodyPost_ret (v := .tuple #[.slice none 0 0, .agg #[.int .i64 r2.wy, .int .i64 0]]) (by simp [results, Try.results60, go_sem, x0, x1, y0, y1]) rfl (by rw [← HALL.out]; exact RSlabsPost.refused C4 HF.out hlt)
            | true =>
              have HC5 := hid (hC.trans (if_pos rfl))
              generalize (r1.hold 1).2 = r2 at *
              clear hC C3 hM3 K3 hM4 K4 H1 H2 Hs Hs2 hl1 ok1 hl2 ok2
              obtain ⟨bd', hB2, hbs⟩ := hl _ C4.keep i x Hx.out
              obtain rfl := Option.some.inj hB2
              have f0 := hbs 0 _ rfl
              rw [Nat.add_zero, Nat.mul_one] at f0
              obtain ⟨yd, hY, hcs⟩ := hll _ C4.keep x hxm k y Hy.out
              have f1 := hcs 12 _ rfl
              have f2 := hcs 13 _ rfl
              rw [add_at _ _ _ (by omega)] at f1 f2
              obtain ⟨ad, hA1, hps'⟩ := hp _ C4.keep i p Hp.out
              subst hA1
              have f3 := hps' 2 _ rfl
              have f4 := hps' 4 _ rfl
              rw [add_at _ _ _ (by omega)] at f3 f4
              clear hbs hB2 hcs hps'
              rw [hY] at f0
              have HY := hid hY
              clear hY
              go_upto_region 13 with (fail)
              obtain ⟨W5, hW5⟩ : ∃ W5, W5 = w4 := ⟨_, rfl⟩
              have n1 := World.block_lt_of_cell? _ _ f1
              have n2 := World.block_lt_of_cell? _ _ f3
              have n3 := World.block_lt_of_cell? _ _ f0
              go_cut [12] (fun v wc => ∃ bs : Nat, v = .pointer (some ⟨bs, 0, none⟩) ∧ w4.heap.size ≤ bs ∧ Keep [] w4 wc ∧ wc.heap[bs]? = some (.cells #[.int .i64 i, .int .i64 k, .int .i64 (cl y.ht 70368744177664), .int .i64 (cl y.dp 70368744177664), .int .i64 (cl p.ld 70368744177664), .int .i64 0, .int .i64 (cl p.tl 10000), .int .i64 k, .int .i64 x.l.length] 51 (0, 0)))
              case first =>
                -- slow<
                go_region_held3 (fun w' => w'.cell? (bd.add i) = some (.slice (some yd) x.l.length x.cap) ∧ w'.cell? ⟨(yd.add (k * 14)).block, (yd.add (k * 14)).off + 12, none⟩ = some (.int .i64 y.ht) ∧ w'.cell? ⟨(yd.add (k * 14)).block, (yd.add (k * 14)).off + 13, none⟩ = some (.int .i64 y.dp) ∧ w'.cell? ⟨(ad.add (i * 7)).block, (ad.add (i * 7)).off + 2, none⟩ = some (.int .i64 p.ld) ∧ w'.cell? ⟨(ad.add (i * 7)).block, (ad.add (i * 7)).off + 4, none⟩ = some (.int .i64 p.tl)) ((refine ⟨?_, ?_, ?_, ?_, ?_⟩ <;> (repeat (with_reducible first | exact f0 | exact f1 | exact f2 | exact f3 | exact f4 | refine cell_drew' ?_ | refine cell_alloc' ?_ _ | refine cell_set' ?_ (Nat.ne_of_lt (by assumption)) _)))) (first | (go_at_call 56; refine (rlength_same _ _).mono ?_; rintro e w' ⟨rfl, rfl⟩) | (go_at_call 57; refine (between_same _ _ _ (by omega)).mono ?_; rintro e w' ⟨rfl, rfl⟩))
                all_goals go_wp2
                all_goals go_meet
                all_goals
                  refine ⟨_, rfl, ?_, ?_, ?_⟩
                  · first
                      | omega
                      | (simp only [World.size_alloc]; omega)
                  · repeat (with_reducible first | exact Keep.refl _ _ | refine Keep.drew ?_ | refine Keep.alloc ?_ _ | refine Keep.set ?_ (.inr (by first | exact Nat.le_refl _ | assumption | omega)) _ | refine Keep.trans (S := []) ?_ (by assumption))
                  · first
                      | (with_reducible exact blk_new _ _)
                      | (with_reducible exact blk_drew (blk_new _ _))
                      | (refine slab_sets0 ?_; repeat (with_reducible first | exact blk_new _ _ | refine zero_slab ?_ (by assumption) | refine blk_drew0 ?_))
                -- slow>
              case rest =>
                obtain ⟨bs, rfl, hbs, K5, S5⟩ := hcut
                have R5 := C4.move K5
                have hbw2 : w.heap.size < bs := by have := blk_lt C4.blk; omega
                have hbs2 : g < bs := by have := blk_lt C4.blk; omega
                have hob : some bs ≠ u8.ownBlock := fun he => by obtain ⟨_, h, _⟩ := own_base C4.own bs he.symm; omega
                clear C4 f0 f1 f2 f3 f4 hW5 W5 n1 n2 n3 K5
                have f1 := blk_cell S5 2
                have f2 := blk_cell S5 4
                have f3 := blk_free S5 4
                simp only [List.getElem?_toArray, List.getElem?_cons_zero, List.getElem?_cons_succ] at f1 f2
                have z1 := cl_range y.ht (most := 70368744177664) (by omega)
                have z2 := cl_range p.ld (most := 70368744177664) (by omega)
                obtain ⟨la, hla⟩ : ∃ la, la = gr [cl p.ld 70368744177664, d' + cl y.ht 70368744177664] := ⟨_, rfl⟩
                have Hla := hid hla
                have hw : ∃ (W6 : World), Keep [bs] wc W6 ∧ W6.heap[bs]? = some (.cells #[.int .i64 i, .int .i64 k, .int .i64 (cl y.ht 70368744177664), .int .i64 (cl y.dp 70368744177664), .int .i64 la, .int .i64 0, .int .i64 (cl p.tl 10000), .int .i64 k, .int .i64 x.l.length] 51 (0, 0)) ∧ W6 = if d' + cl y.ht 70368744177664 > cl p.ld 70368744177664 then wc.setCell ⟨bs, 4, none⟩ (.int .i64 (d' + cl y.ht 70368744177664)) else wc := by
                  by_cases hb : d' + cl y.ht 70368744177664 > cl p.ld 70368744177664
                  · refine ⟨_, (Keep.refl _ _).set (.inl (by simp)) _, ?_, (if_pos hb).symm⟩
                    rw [hla, lead_hi z2.1 hb]
                    exact (blk_set S5 4 _).trans (by simp)
                  · refine ⟨_, Keep.refl _ _, ?_, (if_neg hb).symm⟩
                    rw [hla, lead_lo z2.1 hb]
                    exact S5
                obtain ⟨W6, K6, S6, hW6⟩ := hw
                have R6 : RSlabRel g w.heap.size w W6 u8 out' m2 r2 := ⟨own_keep R5.own K6 (by simpa using hob), R5.isR.keep K6 (by simp; omega), R5.like, R5.ok, R5.keep.then K6 (by simp; omega), K6.blk R5.blk (by simp; omega)⟩
                clear hla R5 S5 K6
                go_upto_if 91 with (fail)
                go_cut [] (fun wd => wd = W6)
                case first =>
                  by_cases hb : d' + cl y.ht 70368744177664 > cl p.ld 70368744177664
                  · rw [if_pos hb] at hW6
                    have hb' : cl p.ld 70368744177664 < d' + cl y.ht 70368744177664 := hb
                    have HW6 := hid hW6
                    clear hW6
                    go_wp2
                    go_meet
                    exact HW6.out.symm
                  · rw [if_neg hb] at hW6
                    have hb' : ¬ cl p.ld 70368744177664 < d' + cl y.ht 70368744177664 := hb
                    have HW6 := hid hW6
                    clear hW6
                    go_wp2
                    go_meet
                    exact HW6.out.symm
                case rest =>
                  subst hcut
                  clear hW6 f1 f2 f3
                  have hol : (out'.length + 1) * 72 ≤ 140737488355328 := by have := congrArg List.length HA4.out; simp at this; omega
                  by_cases hk0 : k = 0
                  · subst hk0
                    obtain ⟨ad', hA2, hps'⟩ := hp _ R6.keep i p Hp.out
                    obtain rfl := Option.some.inj hA2
                    have q0 := hps' 3 _ rfl
                    rw [add_at _ _ _ (by omega)] at q0
                    have y5 := blk_free S6 5
                    have t5 := blk_cell S6 5
                    simp only [List.getElem?_toArray, List.getElem?_cons_zero, List.getElem?_cons_succ] at t5
                    clear hps' hA2
                    go_wp2_with fail
                    refine (rlength_same _ _).mono ?_
                    rintro e w' ⟨rfl, rfl⟩
                    go_upto_region 18 with (fail)
                    have KS : Keep [bs] wc (wc.setCell ⟨bs, 5, none⟩ (.int .i64 (cl p.sk 70368744177664))) := (Keep.refl _ _).set (.inl (by simp)) _
                    have R8 : RSlabRel g w.heap.size w (wc.setCell ⟨bs, 5, none⟩ (.int .i64 (cl p.sk 70368744177664))) u8 out' m2 r2 := ⟨own_keep R6.own KS (by simpa using hob), R6.isR.keep KS (by simp; omega), R6.like, R6.ok, R6.keep.then KS (by simp; omega), KS.blk R6.blk (by simp; omega)⟩
                    have S8 := (blk_set S6 5 (.int .i64 (cl p.sk 70368744177664))).trans (by simp; rfl)
                    have hN : Slab.row (slabAt d' i 0 x.l.length p y) = [.int .i64 i, .int .i64 0, .int .i64 (cl y.ht 70368744177664), .int .i64 (cl y.dp 70368744177664), .int .i64 la, .int .i64 (cl p.sk 70368744177664), .int .i64 (cl p.tl 10000), .int .i64 0, .int .i64 x.l.length] := by rw [Hla.out]; rfl
                    have HN := hid hN
                    clear hN KS R6 S6 y5 t5 q0
                    generalize wc.setCell ⟨bs, 5, none⟩ (.int .i64 (cl p.sk 70368744177664)) = w8 at *
                    have x0 := blk_cell S8 0
                    have x1 := blk_cell S8 1
                    have x2 := blk_cell S8 2
                    have x3 := blk_cell S8 3
                    have x4 := blk_cell S8 4
                    have x5 := blk_cell S8 5
                    have x6 := blk_cell S8 6
                    have x7 := blk_cell S8 7
                    have x8 := blk_cell S8 8
                    simp only [List.getElem?_toArray, List.getElem?_cons_zero, List.getElem?_cons_succ] at x0 x1 x2 x3 x4 x5 x6 x7 x8
                    go_wp2_with (at_builtin; (refine append_cells rfl _ _ 49 (.agg #[.int .i64 0, .int .i64 0, .int .i64 0, .int .i64 0, .int .i64 0, .int .i64 0, .int .i64 0, .int .i64 0, .int .i64 0]) 9 72 rfl (by kernel_rfl) (by kernel_rfl) (by kernel_rfl) (by decide) (by decide) w.heap.size u8 out'.length _ rfl rfl (by simp) rfl (by simp [Value.oneCell']) R8.own (Nat.le_of_lt (blk_lt R8.blk)) hol ?_; rintro v1 w9 hown hgr))
                    have R9 : RSlabRel g w.heap.size w w9 v1 (out' ++ [slabAt d' i 0 x.l.length p y]) m2 r2 := R8.grown hgr (by rw [HN.out]; exact hown)
                    go_wp2
                    go_roundw
                    case rel => exact ⟨0 + 1, _, _, m2, r2, hlt3, by go_num, rfl, (cl_range _ (by omega)).1, (cl_range _ (by omega)).2, HA4, hid (HC5.out.trans (by simp; congr 1; have := Hq.out; omega)), R9⟩
                    case measure => simp [intOf]; omega
                  · have hN : Slab.row (slabAt d' i k x.l.length p y) = [.int .i64 i, .int .i64 k, .int .i64 (cl y.ht 70368744177664), .int .i64 (cl y.dp 70368744177664), .int .i64 la, .int .i64 0, .int .i64 (cl p.tl 10000), .int .i64 k, .int .i64 x.l.length] := by rw [Hla.out]; unfold Slab.row slabAt; rw [if_neg hk0]
                    have HN := hid hN
                    have hk0' : ((k : Int) == 0) = false := by simp; omega
                    have R8 := R6
                    have S8 := S6
                    clear hN R6 S6
                    have x0 := blk_cell S8 0
                    have x1 := blk_cell S8 1
                    have x2 := blk_cell S8 2
                    have x3 := blk_cell S8 3
                    have x4 := blk_cell S8 4
                    have x5 := blk_cell S8 5
                    have x6 := blk_cell S8 6
                    have x7 := blk_cell S8 7
                    have x8 := blk_cell S8 8
                    simp only [List.getElem?_toArray, List.getElem?_cons_zero, List.getElem?_cons_succ] at x0 x1 x2 x3 x4 x5 x6 x7 x8
                    go_wp2_with (at_builtin; (refine append_cells rfl _ _ 49 (.agg #[.int .i64 0, .int .i64 0, .int .i64 0, .int .i64 0, .int .i64 0, .int .i64 0, .int .i64 0, .int .i64 0, .int .i64 0]) 9 72 rfl (by kernel_rfl) (by kernel_rfl) (by kernel_rfl) (by decide) (by decide) w.heap.size u8 out'.length _ rfl rfl (by simp) rfl (by simp [Value.oneCell']) R8.own (Nat.le_of_lt (blk_lt R8.blk)) hol ?_; rintro v1 w9 hown hgr))
                    have R9 : RSlabRel g w.heap.size w w9 v1 (out' ++ [slabAt d' i k x.l.length p y]) m2 r2 := R8.grown hgr (by rw [HN.out]; exact hown)
                    go_wp2
                    go_roundw
                    case rel => exact ⟨k + 1, _, _, m2, r2, hlt3, by go_num, rfl, (cl_range _ (by omega)).1, (cl_range _ (by omega)).2, HA4, hid (HC5.out.trans (by simp; congr 1; have := Hq.out; omega)), R9⟩
                    case measure => simp [intOf]; omega
        · obtain rfl : k = x.l.length := by omega
          have HA5 : Hid (ALL = out' ++ slabsAll d' (i + 1) (ps.drop (i + 1)) (ls.drop (i + 1))) := by
            have h := HA3.out
            rw [List.drop_length] at h
            exact hid h
          clear HA3
          go_wp2
          go_roundw
          case rel => exact ⟨i + 1, d', out', m', r', hlt2, by go_num, rfl, hd'0, hd'1, HA5, HC3, R⟩
          case measure => simp [intOf]; omega
    · obtain rfl : i = ps.length := by omega
      have HA5 : ALL = out := by
        have h := HA.out
        rw [List.drop_length] at h
        simpa [slabsAll] using h
      have HF := hid (show chargeN m0 ALL.length = (true, m) by rw [HC.out, HA5, Nat.sub_self]; rfl)
      have HE := hid HA5
      clear HA5 HA HC
      have x0 := blk_cell R.blk 0
      have x1 := blk_cell R.blk 1
      have y0 := blk_free R.blk 0
      have y1 := blk_free R.blk 1
      have hgb : some w.heap.size ≠ u8.ownBlock := own_ne R.own R.blk (by decide)
      simp only [List.getElem?_toArray, List.getElem?_cons_zero, List.getElem?_cons_succ] at x0 x1
      go_wp2
      refine bodyPost_ret (v := .tuple #[u8, .agg #[.int .i64 0, .int .i64 0]]) (by simp [results, Try.results60, go_sem, x0, x1, y0, y1]) rfl (show RSlabsPost g m0 (slabsAll 0 0 ps ls) w _ _ from ⟨u8, r, ?_, ?_, ?_, ?_, ?_⟩)
      · rw [← HALL.out, HF.out]; simp
      · rw [← HALL.out, HF.out, HE.out]; exact own_keep R.own (((Keep.refl [w.heap.size] _).set (.inl (by simp)) _).set (.inl (by simp)) _) (by simpa using hgb)
      · exact blk_far (blk_far R.isR (by simp; omega) _) (by simp; omega) _
      · rw [← HALL.out, HF.out]; exact R.like
      · exact (R.keep.set (.inr (by simp)) _).set (.inr (by simp)) _

end Go.Proofs.Ytgelccenbceeoaa
