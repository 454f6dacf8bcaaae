/- FixPlays' walk. -/
import Derived.Test.YtldckefnelgdgaaPlays
import Derived.Test.YtldckefnelgdgaaShown01
import Derived.Test.YtldckefnelgdgaaRowsOpen
namespace Go.Proofs.Ytldckefnelgdgaa
open Go.RowKit
set_option linter.unusedSimpArgs false
set_option linter.unusedVariables false

structure StepX where
  k : Int
  on : Int
  a : Int
  b : Int
  c : Int
def StepX.row (x : StepX) : List Value := [.int .i64 x.k, .int .i64 x.on, .int .i64 x.a, .int .i64 x.b, .int .i64 x.c]

theorem flat_set (y : Duo) : ∀ (ds : List Duo) (r : Nat), r < ds.length → (ds.set r y).flatMap Duo.row = ((ds.flatMap Duo.row).set (r * 2) (.pointer (some ⟨y.g, 0, none⟩))).set (r * 2 + 1) (.pointer (some ⟨y.q, 0, none⟩))
  | [], r, h => by simp at h
  | z :: l, 0, h => rfl
  | z :: l, r + 1, h => by
    rw [List.set_cons_succ, List.flatMap_cons, List.flatMap_cons, flat_set y l r (by simpa using h)]
    simp only [Duo.row, List.cons_append, List.nil_append]
    rw [show (r + 1) * 2 = r * 2 + 1 + 1 by omega, show r * 2 + 1 + 1 + 1 = (r * 2 + 1) + 1 + 1 by omega]
    simp only [List.set_cons_succ]

theorem OwnQ.put {w0 w : World} {g n cap r : Nat} {ds : List Duo} (h : OwnQ w0 w (.slice (some ⟨g, 0, none⟩) n cap) ds) (hn : ds.length = n) (y : Duo) (hr : r < ds.length) :
    OwnQ w0 ((w.setCell ⟨g, r * 2, none⟩ (.pointer (some ⟨y.g, 0, none⟩))).setCell ⟨g, r * 2 + 1, none⟩ (.pointer (some ⟨y.q, 0, none⟩))) (.slice (some ⟨g, 0, none⟩) n cap) (ds.set r y) := by
  subst hn
  unfold OwnQ at h ⊢
  rw [flat_set y ds r hr, List.length_set]
  exact ((h.stored (r * 2) _).1.stored (r * 2 + 1) _).1

theorem OwnQ.form {w0 w : World} {v : Value} {ds : List Duo} (h : OwnQ w0 w v ds) (hn : 0 < ds.length) : ∃ g cap cur, v = .slice (some ⟨g, 0, none⟩) ds.length cap ∧ ds.length ≤ cap ∧ w0.heap.size ≤ g ∧ w.heap[g]? = some (.cells cur 38 (0, 0)) ∧ Rd Duo.row 2 w (some ⟨g, 0, none⟩) ds := by
  obtain ⟨A, cap, rfl, hcap, hrd, hA⟩ := own_rd (enc := Duo.row) (fun _ => rfl) h
  cases A with
  | none => have := hrd 0 (ds[0]'hn) (List.getElem?_eq_getElem hn); obtain ⟨ad, h, _⟩ := this; simp at h
  | some ad =>
    obtain ⟨g, cur, rfl, hg, hh, _⟩ := hA ad rfl
    exact ⟨g, cap, cur, rfl, hcap, hg, hh, hrd⟩

theorem Heart.out {w0 w : World} {ds : List Duo} (P : Heart w0 w ds) {k : Nat} {y n : Duo} (hy : ds[k]? = some y) (hn : n.g ≠ y.g ∧ n.q ≠ y.q) : ∀ u ∈ ds.set k n, u.g ≠ y.g ∧ u.q ≠ y.q := by
  intro u hu
  obtain ⟨j, hj⟩ := List.mem_iff_getElem?.1 hu
  have hlt := (List.getElem?_eq_some_iff.1 hy).1
  by_cases e : k = j
  · subst e
    rw [List.getElem?_set_self hlt] at hj
    obtain rfl := Option.some.inj hj
    exact hn
  · rw [List.getElem?_set_ne e] at hj
    exact ⟨fun e2 => e (P.na j k u y hj hy e2).symm, fun e2 => e (P.nb j k u y hj hy e2).symm⟩

/-- Where the call on both stands ready: the pairs, the one that was picked. -/
structure Stage (w wc : World) (v : Value) (ds : List Duo) (y : Duo) (k : Nat) : Prop where
  pos : 0 < ds.length
  few : ds.length ≤ 4
  heart : Heart w wc ds
  own : OwnQ w wc v ds
  at_ : ds[k]? = some y ∨ ((w.heap.size ≤ y.g ∧ w.heap.size ≤ y.q) ∧ (∀ x ∈ ds, x.g ≠ y.g ∧ x.q ≠ y.q) ∧ IsC wc y.g y.b ∧ IsB wc y.q y.b)
  c : IsC wc y.g y.b
  b : IsB wc y.q y.b

set_option maxHeartbeats 6400000 in
set_option maxRecDepth 100000 in
theorem walkPlays (A : Option Addr) (c : Nat) (xs : List StepX) (w : World) (hr : Rd StepX.row 5 w A xs) (hn : xs.length ≤ 9223372036854775807) (hx : ∀ x ∈ xs, InI x.a ∧ InI x.b ∧ InI x.on) :
    Calls Try.prog 7 #[.slice A xs.length c] w fun e w' => e = .returned (.bool true) ∧ Below w.heap.size w w' := by
  have hn' : (xs.length : Int) ≤ 9223372036854775807 := by omega
  go_enter Try.func7, Try.ntmps7
  go_wp2_with fail
  refine (shown01 _).mono ?_
  rintro e w1 ⟨rfl, K1⟩
  have O1 := World.ownsRow_lit (base := w.heap.size) (e := 38) (size := 2) w1 #[] 0 K1.size (by simp [maxLen]) rfl
  have KA : Keep [] w _ := K1.alloc (.cells #[] 38)
  have H0 : Heart w (w1.alloc (.cells #[] 38)) [] := ⟨by simp, by simp, by simp, by simp, by simp, KA⟩
  have Q0 : OwnQ w (w1.alloc (.cells #[] 38)) (.slice (some ⟨w1.heap.size, 0, none⟩) 0 0) [] := O1
  clear O1 KA
  go_wp2_with fail
  go_loopw [5, 4] (fun vi vl wr => ∃ (i : Nat) (ds : List Duo), i ≤ 2 ∧ vi = .int .i64 i ∧ ds.length = i ∧ Heart w wr ds ∧ OwnQ w wr vl ds) (fun vi _ _ => 2 - (intOf vi).toNat)
  case atStart => exact ⟨0, [], by omega, rfl, rfl, H0, Q0⟩
  case round =>
    clear H0 Q0
    obtain ⟨i, ds, hi, rfl, hlen, H, Q⟩ := hrel
    by_cases hlt : i < 2
    · go_wp2_with fail
      refine (calc_new _).mono ?_
      rintro e w2 ⟨rfl, C2, K2⟩
      have s0 := H.keep.size
      have s2 : wr.heap.size < w2.heap.size := blk_lt C2
      have H2 := H.move K2
      have Q2 : OwnQ w w2 _ ds := own_keep Q K2 (by simp)
      have K3 : Keep [] w2 (w2.alloc (.cells #[.bool false] 36)) := (Keep.refl _ _).alloc _
      have B3 : IsB (w2.alloc (.cells #[.bool false] 36)) w2.heap.size false := blk_new _ _
      have C3 := C2.keep K3 (by simp)
      have H3 := (H2.move K3).snoc ⟨wr.heap.size, w2.heap.size, false⟩ C3 B3 ⟨s0, by simp only; omega⟩ (fun z hz => ⟨by have := blk_lt (H.isM z hz); simp only; omega, by have := blk_lt (H2.isR z hz); simp only; omega⟩)
      have Q3 : OwnQ w (w2.alloc (.cells #[.bool false] 36)) _ ds := own_keep Q2 K3 (by simp)
      have HL := hid hlen
      have sz3 : w.heap.size ≤ (w2.alloc (.cells #[.bool false] 36)).heap.size := by rw [size_alloc']; omega
      clear hlen
      go_wp2_with (first | (at_builtin; (refine append_cells rfl _ _ 33 (.agg #[.pointer none, .pointer none]) 2 16 rfl (by kernel_rfl) (by kernel_rfl) (by kernel_rfl) (by decide) (by decide) w.heap.size u4 _ _ rfl rfl (by simp) rfl (by simp [Value.oneCell']) Q3 sz3 (by have := HL.out; omega) ?_; rintro v3 w3 O3 G3)))
      have K4 : Keep u4.ownBlock.toList (w2.alloc (.cells #[.bool false] 36)) w3 := Keep.grown ((Keep.refl _ _).alloc _) G3 (fun b hb => .inl (by simp [hb]))
      have H4 := H3.aside K4 (fun b hb => Q3.apart H3 b hb)
      go_roundw
      case rel => exact ⟨i + 1, _, hlt, by go_num, by simp [HL.out], H4, by unfold OwnQ; simpa [Duo.row] using O3⟩
      case measure => simp [intOf]; omega
    · have hd2 : 0 < ds.length := by omega
      have hd4 : ds.length ≤ 4 := by omega
      have hi2 : (i : Int) = 2 := by omega
      rw [hi2]
      clear hlen hi hlt hi2
      go_wp2_with fail
      go_loopw [7, 4] (fun vi vl wr => ∃ (i : Nat) (ds : List Duo), i ≤ xs.length ∧ vi = .int .i64 i ∧ 0 < ds.length ∧ ds.length ≤ 4 ∧ Heart w wr ds ∧ OwnQ w wr vl ds) (fun vi _ _ => xs.length - (intOf vi).toNat)
      case atStart => exact ⟨0, ds, Nat.zero_le _, rfl, hd2, hd4, H, Q⟩
      case round =>
        clear H Q hd2 hd4
        obtain ⟨i, ds, hi, rfl, hd1, hd4, H, Q⟩ := hrel
        by_cases hlt : i < xs.length
        · obtain ⟨x, hxi⟩ : ∃ x, xs[i]? = some x := ⟨xs[i], List.getElem?_eq_getElem hlt⟩
          obtain ⟨⟨xa0, xa1⟩, ⟨xb0, xb1⟩, ⟨xo0, xo1⟩⟩ := hx x (List.mem_of_getElem? hxi)
          obtain ⟨ad, hA, hcs⟩ := hr.old H.keep (by simp) i x hxi
          subst hA
          have d0 := hcs 0 _ rfl
          have d1 := hcs 1 _ rfl
          have d2 := hcs 2 _ rfl
          have d3 := hcs 3 _ rfl
          have d4 := hcs 4 _ rfl
          rw [add_at _ _ _ (by omega)] at d1 d2 d3 d4
          rw [Nat.add_zero] at d0
          clear hcs hxi
          obtain ⟨ga, ca, cura, rfl, hca, hga, Ba, hrd⟩ := Q.form hd1
          have hga2 := blk_lt Ba
          have hi' : (i : Int) < (xs.length : Int) := by omega
          go_wp2_with fail
          refine (pick_any x.on ds.length _ (by omega) (by omega)).mono ?_
          rintro e w' ⟨rfl, rfl⟩
          have KX := (Keep.refl [] wr).alloc (.cells #[.int .i64 x.k, .int .i64 x.on, .int .i64 x.a, .int .i64 x.b, .int .i64 x.c] 40)
          have BX := blk_new wr (.cells #[.int .i64 x.k, .int .i64 x.on, .int .i64 x.a, .int .i64 x.b, .int .i64 x.c] 40)
          have H1 := H.move KX
          have Q1 : OwnQ w _ _ ds := own_keep Q KX (by simp)
          obtain ⟨hk0, hk1⟩ := pick_range (c := x.on) (n := (ds.length : Int)) (by omega)
          obtain ⟨k, hk⟩ : ∃ k : Nat, pickX x.on (ds.length : Int) = k := ⟨(pickX x.on (ds.length : Int)).toNat, by omega⟩
          rw [hk] at hk0 hk1 ⊢
          clear hk hk0
          have hkl : k < ds.length := by omega
          obtain ⟨y, hy⟩ : ∃ y, ds[k]? = some y := ⟨ds[k], List.getElem?_eq_getElem hkl⟩
          have hym := List.mem_of_getElem? hy
          obtain ⟨ad2, hA2, hps⟩ := hrd.old KX (by simp) k y hy
          obtain rfl := Option.some.inj hA2
          have p0 := hps 0 _ rfl
          have p1 := hps 1 _ rfl
          rw [add_zero_at] at p0 p1
          rw [Nat.add_zero] at p0
          clear hps hA2 H Q d0 d1 d2 d3 d4
          have Ba1 := blk_alloc Ba (.cells #[.int .i64 x.k, .int .i64 x.on, .int .i64 x.a, .int .i64 x.b, .int .i64 x.c] 40)
          have zX := size_alloc' wr (.cells #[.int .i64 x.k, .int .i64 x.on, .int .i64 x.a, .int .i64 x.b, .int .i64 x.c] 40)
          generalize wr.alloc (.cells #[.int .i64 x.k, .int .i64 x.on, .int .i64 x.a, .int .i64 x.b, .int .i64 x.c] 40) = W1 at *
          have hbx2 : wr.heap.size < W1.heap.size := blk_lt BX
          have hgx : ¬ ga = wr.heap.size := by omega
          generalize wr.heap.size = bo at *
          clear hrd Ba zX KX
          go_upto_region 18 with (fail)
          have KY := (Keep.refl [] W1).alloc (.cells #[.pointer (some ⟨y.g, 0, none⟩), .pointer (some ⟨y.q, 0, none⟩)] 38)
          have BY := blk_new W1 (.cells #[.pointer (some ⟨y.g, 0, none⟩), .pointer (some ⟨y.q, 0, none⟩)] 38)
          have BX2 := KY.blk BX (by simp)
          have Ba2 := KY.blk Ba1 (by simp)
          have H2 := H1.move KY
          have Q2 : OwnQ w _ _ ds := own_keep Q1 KY (by simp)
          generalize W1.alloc (.cells #[.pointer (some ⟨y.g, 0, none⟩), .pointer (some ⟨y.q, 0, none⟩)] 38) = W2 at *
          have hgy : ¬ ga = W1.heap.size := by have := blk_lt Ba1; omega
          have hox : ¬ bo = W1.heap.size := by omega
          have hby2 : W1.heap.size < W2.heap.size := blk_lt BY
          generalize W1.heap.size = bx at *
          clear Ba1 BX H1 Q1 p0 p1 KY
          have C2 := H2.isM y hym
          have R2 := H2.isR y hym
          have b0 := blk_cell BX2 0
          have b1 := blk_cell BX2 1
          have b2 := blk_cell BX2 2
          have b3 := blk_cell BX2 3
          have b4 := blk_cell BX2 4
          have y0 := blk_cell BY 0
          have y1 := blk_cell BY 1
          simp only [List.getElem?_toArray, List.getElem?_cons_zero, List.getElem?_cons_succ] at b0 b1 b2 b3 b4 y0 y1
          have q0 := blk_cell R2 0
          simp only [List.getElem?_toArray, List.getElem?_cons_zero] at q0
          have hd4' : (ds.length : Int) ≤ 4 := by omega
          have szw := H2.keep.size
          go_upto_if 55 with (fail)
          go_cut [4] (fun v wc => ∃ ds' : List Duo, Stage w wc v ds' y k ∧ k < ds'.length ∧ (¬ x.k = 6 → v = .slice (some ⟨ga, 0, none⟩) ds.length ca ∧ ds' = ds) ∧ wc.heap[bo]? = some (.cells #[.int .i64 x.k, .int .i64 x.on, .int .i64 x.a, .int .i64 x.b, .int .i64 x.c] 40 (0, 0)) ∧ wc.heap[bx]? = some (.cells #[.pointer (some ⟨y.g, 0, none⟩), .pointer (some ⟨y.q, 0, none⟩)] 38 (0, 0)))
          case first =>
            by_cases k6 : x.k = 6
            · have e6 : (x.k == 6) = true := by simp [k6]
              have HK6 := hid k6
              clear k6
              go_wp2_with fail
              refine (calc_clone y.g y.b _ C2).mono ?_
              rintro e w3 ⟨rfl, CC, KC⟩
              have z3 : W2.heap.size < w3.heap.size := blk_lt CC
              have q1 := KC.cell' q0 (by simp)
              have y2 := KC.cell' y0 (by simp)
              have y3 := KC.cell' y1 (by simp)
              have hq3 := blk_lt (R2.keep KC (by simp))
              go_upto_region 23 with (fail)
              have KB := (Keep.refl [] w3).alloc (.cells #[.bool y.b] 36)
              have BB : IsB (w3.alloc (.cells #[.bool y.b] 36)) w3.heap.size y.b := blk_new _ _
              have z4 := size_alloc' w3 (.cells #[.bool y.b] 36)
              have K5 := KB.alloc (.cells #[.pointer (some ⟨W2.heap.size, 0, none⟩), .pointer (some ⟨w3.heap.size, 0, none⟩)] 38)
              have B5 := blk_new (w3.alloc (.cells #[.bool y.b] 36)) (.cells #[.pointer (some ⟨W2.heap.size, 0, none⟩), .pointer (some ⟨w3.heap.size, 0, none⟩)] 38)
              have BB5 := BB.keep ((Keep.refl [] _).alloc (.cells #[.pointer (some ⟨W2.heap.size, 0, none⟩), .pointer (some ⟨w3.heap.size, 0, none⟩)] 38)) (by simp)
              rw [z4] at B5
              have K25 := KC.trans K5
              have CC5 := CC.keep K5 (by simp)
              have z5 := size_alloc' (w3.alloc (.cells #[.bool y.b] 36)) (.cells #[.pointer (some ⟨W2.heap.size, 0, none⟩), .pointer (some ⟨w3.heap.size, 0, none⟩)] 38)
              rw [z4] at z5
              generalize (w3.alloc (.cells #[.bool y.b] 36)).alloc (.cells #[.pointer (some ⟨W2.heap.size, 0, none⟩), .pointer (some ⟨w3.heap.size, 0, none⟩)] 38) = W5 at *
              have C5 := C2.keep K25 (by simp)
              have R5 := R2.keep K25 (by simp)
              have H5 := H2.move K25
              have Q5 : OwnQ w W5 _ ds := own_keep Q2 K25 (by simp)
              have BX5 := K25.blk BX2 (by simp)
              have BY5 := K25.blk BY (by simp)
              have Ba5 := K25.blk Ba2 (by simp)
              have hnew : ∀ z ∈ ds, z.g ≠ W2.heap.size ∧ z.q ≠ w3.heap.size := fun z hz => ⟨by have := blk_lt (H2.isM z hz); omega, by have := blk_lt (H2.isR z hz); omega⟩
              have c50 := blk_cell B5 0
              have c51 := blk_cell B5 1
              simp only [List.getElem?_toArray, List.getElem?_cons_zero, List.getElem?_cons_succ] at c50 c51
              have sz5 := H5.keep.size
              have hb5 : w3.heap.size + 1 < W5.heap.size := by omega
              have hg5 : ga < w3.heap.size := by have := blk_lt Ba2; omega
              have hxo5 : bo < w3.heap.size := by have := blk_lt BX2; omega
              have x52 := blk_cell BX5 2
              simp only [List.getElem?_toArray, List.getElem?_cons_zero, List.getElem?_cons_succ] at x52
              have hw2 : w.heap.size ≤ W2.heap.size := szw
              clear z4 z5 K5 KB BB CC C2 R2 H2 Q2 BX2 BY Ba2 KC b0 b1 b2 b3 b4 y0 y1 q0 q1 y2 y3 K25
              by_cases hl4 : ds.length < 4
              · have hl4' : (ds.length : Int) < 4 := by omega
                have HS := H5.snoc ⟨W2.heap.size, w3.heap.size, y.b⟩ CC5 BB5 ⟨hw2, by simp only; omega⟩ hnew
                go_wp2_with (first | (at_builtin; (refine append_cells rfl _ _ 33 (.agg #[.pointer none, .pointer none]) 2 16 rfl (by kernel_rfl) (by kernel_rfl) (by kernel_rfl) (by decide) (by decide) w.heap.size (.slice (some ⟨ga, 0, none⟩) ds.length ca) _ _ rfl rfl (by simp) rfl (by simp [Value.oneCell']) Q5 sz5 (by omega) ?_; rintro v6 w6 O6 G6)))
                have K6 : Keep [ga] W5 w6 := Keep.grown ((Keep.refl _ _).alloc _) G6 (fun b hb => .inl (by simp [Value.ownBlock] at hb; simp [hb]))
                have H6 := HS.aside K6 (fun b hb => Q5.apart HS b (by simp at hb; simp [Value.ownBlock, hb]))
                have Q6 : OwnQ w w6 v6 (ds ++ [(⟨W2.heap.size, w3.heap.size, y.b⟩ : Duo)]) := by unfold OwnQ; simpa [Duo.row] using O6
                have hgg : ¬ y.g = ga := fun e => own_ne Q5 C5 (by decide) (by simp [Value.ownBlock, e])
                have hgq : ¬ y.q = ga := fun e => own_ne Q5 R5 (by decide) (by simp [Value.ownBlock, e])
                go_meet
                exact ⟨_, ⟨by simp, by simp; omega, H6, Q6, .inl (by rw [List.getElem?_append_left hkl]; exact hy), C5.keep K6 (by simp [hgg]), R5.keep K6 (by simp [hgq])⟩, by simp; omega, fun h => absurd HK6.out h, K6.blk BX5 (by simp; exact fun e => hgx e.symm), K6.blk BY5 (by simp; exact fun e => hgy e.symm)⟩
              · have hl4e : ds.length = 4 := by omega
                have hln : ¬ (ds.length : Int) < 4 := by omega
                obtain ⟨hr0, hr1⟩ := pick_range (c := x.a) (n := 4) (by omega)
                obtain ⟨r, hr⟩ : ∃ r : Nat, pickX x.a 4 = r := ⟨(pickX x.a 4).toNat, by omega⟩
                rw [hr] at hr0 hr1
                have CP := fun w => pick_any x.a 4 w (by omega) xa0
                simp only [hr] at CP
                have HP := hid CP
                clear hr CP hr0
                have hrl : r < ds.length := by omega
                have hrl2 : (r : Int) < (ds.length : Int) := by omega
                have fz0 := fun j => blk_free Ba5 j
                have f0 := fz0 (r * 2)
                have f1 := fz0 (r * 2 + 1)
                obtain ⟨z, hz⟩ : ∃ z, ds[r]? = some z := ⟨ds[r], List.getElem?_eq_getElem hrl⟩
                obtain ⟨_, _, _, hform, _, _, _, hrd5⟩ := Q5.form hd1
                simp only [Value.slice.injEq, Option.some.injEq, Addr.mk.injEq, and_true, true_and] at hform
                obtain ⟨rfl, rfl⟩ := hform
                obtain ⟨ad5, hA5, hps5⟩ := hrd5 r z hz
                obtain rfl := Option.some.inj hA5
                have o0 := hps5 0 _ rfl
                have o1 := hps5 1 _ rfl
                rw [add_zero_at] at o0 o1
                rw [Nat.add_zero] at o0
                clear hps5 hrd5 hA5 fz0
                go_upto_region 25 with (fail)
                go_region_with (go_at_call 11; refine (HP.out _).mono ?_; rintro e w' ⟨rfl, rfl⟩)
                all_goals
                  go_wp2
                  go_meet
                  have K6 : Keep [ga] W5 (((W5.setCell ⟨ga, r * 2, none⟩ (.pointer (some ⟨W2.heap.size, 0, none⟩))).setCell ⟨ga, r * 2 + 1, none⟩ (.pointer (some ⟨w3.heap.size, 0, none⟩))).drew) := (((Keep.refl _ _).set (by simp) _).set (by simp) _).drew
                  have Q6 : OwnQ w _ _ _ := own_keep (Q5.put rfl ⟨W2.heap.size, w3.heap.size, y.b⟩ hrl) ((Keep.refl [] _).drew) (by simp)
                  have HS := H5.swap r ⟨W2.heap.size, w3.heap.size, y.b⟩ CC5 BB5 ⟨hw2, by simp only; omega⟩ hnew
                  have H6 := HS.aside K6 (fun b hb => Q5.apart HS b (by simp at hb; simp [Value.ownBlock, hb]))
                  have hgg : ¬ y.g = ga := fun e => own_ne Q5 C5 (by decide) (by simp [Value.ownBlock, e])
                  have hgq : ¬ y.q = ga := fun e => own_ne Q5 R5 (by decide) (by simp [Value.ownBlock, e])
                  have C6 := C5.keep K6 (by simp [hgg])
                  have R6 := R5.keep K6 (by simp [hgq])
                  rw [hl4e] at Q6
                  refine ⟨ds.set r ⟨W2.heap.size, w3.heap.size, y.b⟩, ⟨by simpa using hd1, by simpa using hd4, H6, Q6, ?_, C6, R6⟩, by simpa using hkl, fun h => absurd HK6.out h, K6.blk BX5 (by simp; exact fun e => hgx e.symm), K6.blk BY5 (by simp; exact fun e => hgy e.symm)⟩
                  by_cases hrk : r = k
                  · subst hrk
                    exact .inr ⟨H5.ga y hym, H5.out hy ⟨fun e => (hnew y hym).1 e.symm, fun e => (hnew y hym).2 e.symm⟩, C6, R6⟩
                  · exact .inl (by rw [List.getElem?_set_ne hrk]; exact hy)
            · have e6 : (x.k == 6) = false := by simp [k6]
              go_wp2
              go_meet
              exact ⟨ds, ⟨hd1, hd4, H2, Q2, .inl hy, C2, R2⟩, hkl, fun _ => ⟨rfl, rfl⟩, BX2, BY⟩
          case rest =>
            clear BX2 BY C2 R2 H2 Q2 b0 b1 b2 b3 b4 y0 y1 q0 Ba2
            obtain ⟨ds2, S, hk2, hsame, BX3, BY3⟩ := hcut
            rename World => W3
            have b0 := blk_cell BX3 0
            simp only [List.getElem?_toArray, List.getElem?_cons_zero] at b0
            have HS := hid hsame
            clear hsame
            go_upto_if 85 with (fail)
            go_cut [] (fun wd => ∃ ds' : List Duo, Stage w wd u4 ds' y k ∧ ds'.length = ds2.length ∧ wd.heap[bo]? = some (.cells #[.int .i64 x.k, .int .i64 x.on, .int .i64 x.a, .int .i64 x.b, .int .i64 x.c] 40 (0, 0)) ∧ wd.heap[bx]? = some (.cells #[.pointer (some ⟨y.g, 0, none⟩), .pointer (some ⟨y.q, 0, none⟩)] 38 (0, 0)))
            case first =>
              by_cases k7 : x.k = 7
              · have e7 : (x.k == 7) = true := by simp [k7]
                obtain ⟨hv, rfl⟩ := HS.out (by omega)
                subst hv
                obtain ⟨S1, S2, S3, S4, S5, S6, S7⟩ := S
                go_wp2_with fail
                refine (calc_new _).mono ?_
                rintro e w4 ⟨rfl, C4, K4⟩
                have z4 : W3.heap.size < w4.heap.size := blk_lt C4
                have KB := (Keep.refl [] w4).alloc (.cells #[.bool false] 36)
                have BB : IsB (w4.alloc (.cells #[.bool false] 36)) w4.heap.size false := blk_new _ _
                have K5 := K4.trans KB
                have CC := C4.keep KB (by simp)
                have H5 := S3.move K5
                have Q5 : OwnQ w _ _ ds2 := own_keep S4 K5 (by simp)
                have C5 := S6.keep K5 (by simp)
                have R5 := S7.keep K5 (by simp)
                have BX5 := K5.blk BX3 (by simp)
                have BY5 := K5.blk BY3 (by simp)
                have hym2 : y ∈ ds2 := hym
                have hnew : ∀ z ∈ ds2, z.g ≠ W3.heap.size ∧ z.q ≠ w4.heap.size := fun z hz => ⟨by have := blk_lt (S3.isM z hz); omega, by have := blk_lt (S3.isR z hz); omega⟩
                obtain ⟨g9, c9, cur9, hform, _, _, Ba5, hrd5⟩ := Q5.form S1
                simp only [Value.slice.injEq, Option.some.injEq, Addr.mk.injEq, and_true, true_and] at hform
                obtain ⟨rfl, rfl⟩ := hform
                obtain ⟨ad5, hA5, hps5⟩ := hrd5 k y hy
                obtain rfl := Option.some.inj hA5
                have o0 := hps5 0 _ rfl
                have o1 := hps5 1 _ rfl
                rw [add_zero_at] at o0 o1
                rw [Nat.add_zero] at o0
                have f0 := blk_free Ba5 (k * 2)
                have f1 := blk_free Ba5 (k * 2 + 1)
                have sw3 := S3.keep.size
                go_wp2
                go_meet
                have K6 : Keep [ga] (w4.alloc (.cells #[.bool false] 36)) (((w4.alloc (.cells #[.bool false] 36)).setCell ⟨ga, k * 2, none⟩ (.pointer (some ⟨W3.heap.size, 0, none⟩))).setCell ⟨ga, k * 2 + 1, none⟩ (.pointer (some ⟨w4.heap.size, 0, none⟩))) := (((Keep.refl _ _).set (by simp) _).set (by simp) _)
                have Q6 : OwnQ w _ _ _ := Q5.put rfl ⟨W3.heap.size, w4.heap.size, false⟩ hk2
                have HS2 := H5.swap k ⟨W3.heap.size, w4.heap.size, false⟩ CC BB ⟨sw3, by simp only; omega⟩ hnew
                have H6 := HS2.aside K6 (fun b hb => Q5.apart HS2 b (by simp at hb; simp [Value.ownBlock, hb]))
                have hgg : ¬ y.g = ga := fun e => own_ne Q5 C5 (by decide) (by simp [Value.ownBlock, e])
                have hgq : ¬ y.q = ga := fun e => own_ne Q5 R5 (by decide) (by simp [Value.ownBlock, e])
                have C6 := C5.keep K6 (by simp [hgg])
                have R6 := R5.keep K6 (by simp [hgq])
                refine ⟨ds2.set k ⟨W3.heap.size, w4.heap.size, false⟩, ⟨by simpa using S1, by simpa using S2, H6, Q6, ?_, C6, R6⟩, by simp, K6.blk BX5 (by simp; exact fun e => hgx e.symm), K6.blk BY5 (by simp; exact fun e => hgy e.symm)⟩
                exact .inr ⟨H5.ga y hym2, H5.out hy ⟨fun e => (hnew y hym2).1 e.symm, fun e => (hnew y hym2).2 e.symm⟩, C6, R6⟩
              · have e7 : (x.k == 7) = false := by simp [k7]
                go_wp2
                go_meet
                exact ⟨ds2, S, rfl, BX3, BY3⟩
            case rest =>
              clear BX3 BY3 b0 S
              obtain ⟨ds3, S, hl3, BX4, BY4⟩ := hcut
              rename World => W4
              have b0 := blk_cell BX4 0
              have b1 := blk_cell BX4 1
              have b2 := blk_cell BX4 2
              have b3 := blk_cell BX4 3
              have b4 := blk_cell BX4 4
              have y0 := blk_cell BY4 0
              have y1 := blk_cell BY4 1
              simp only [List.getElem?_toArray, List.getElem?_cons_zero, List.getElem?_cons_succ] at b0 b1 b2 b3 b4 y0 y1
              go_wp2_with fail
              refine (does_any y.g y.q y.b x.k x.on x.a x.b x.c _ S.c S.b xa0 xa1 xb0 xb1).mono ?_
              rintro e w6 ⟨rfl, bad', GC, GB, KD⟩
              obtain ⟨ds6, H6, hl6, hf6⟩ := S.heart.done S.at_ KD GC GB
              have Q6 : OwnQ w w6 u4 ds6 := by
                have h : OwnQ w w6 u4 ds3 := own_keep S.own KD (fun b hb he => by
                  simp at hb
                  rcases hb with rfl | rfl
                  · exact own_ne S.own S.c (by decide) he
                  · exact own_ne S.own S.b (by decide) he)
                unfold OwnQ at h ⊢
                rw [hl6, hf6]
                exact h
              have p6 : 0 < ds6.length := by rw [hl6]; exact S.pos
              have f6 : ds6.length ≤ 4 := by rw [hl6]; exact S.few
              clear BX4 BY4 b0 b1 b2 b3 b4 y0 y1 S GC GB KD hl6 hf6 hl3
              obtain ⟨g6, c6, cur6, rfl, hc6, hg6, Ba6, hrd6⟩ := Q6.form p6
              have f6' : (ds6.length : Int) ≤ 4 := by omega
              go_wp2_with fail
              go_loopw [15] (fun vk wi => ∃ j : Nat, j ≤ ds6.length ∧ vk = .int .i64 j ∧ Keep [] w6 wi) (fun vk _ => ds6.length - (intOf vk).toNat)
              case atStart => exact ⟨0, Nat.zero_le _, rfl, Keep.refl _ _⟩
              case round =>
                obtain ⟨j, hj, rfl, KJ⟩ := hrel
                rename World => wr2
                by_cases hjl : j < ds6.length
                · obtain ⟨z, hz⟩ : ∃ z, ds6[j]? = some z := ⟨ds6[j], List.getElem?_eq_getElem hjl⟩
                  have hzm := List.mem_of_getElem? hz
                  obtain ⟨ad6, hA6, hps6⟩ := hrd6.old KJ (by simp) j z hz
                  obtain rfl := Option.some.inj hA6
                  have o0 := hps6 0 _ rfl
                  have o1 := hps6 1 _ rfl
                  rw [add_zero_at] at o0 o1
                  rw [Nat.add_zero] at o0
                  have HZ := hid ((H6.isM z hzm).keep KJ (by simp))
                  have R6 := (H6.isR z hzm).keep KJ (by simp)
                  have r0 := blk_cell R6 0
                  simp only [List.getElem?_toArray, List.getElem?_cons_zero] at r0
                  clear hps6 R6
                  have hjl' : (j : Int) < (ds6.length : Int) := by omega
                  go_upto_region 37 with (fail)
                  have CW : ∀ n, Calls Try.prog 14 #[.pointer (some ⟨z.g, 0, none⟩)] (wr2.drewN n) fun e w' => e = .returned (.bool z.b) ∧ w' = wr2.drewN n := fun n => (calc_wrong z.g z.b _ (blk_drewN HZ.out n)).mono (fun _ _ h => ⟨h.1, h.2.symm⟩)
                  have HW := hid CW
                  clear CW
                  go_quiet ((go_at_call 14; with_reducible exact Calls.quiet_of_same (HW.out _)))
                  go_wp2
                  go_roundw
                  case rel => exact ⟨j + 1, hjl, by go_num, KJ.drewN _⟩
                  case measure => simp [intOf]; omega
                · obtain rfl : j = ds6.length := by omega
                  go_wp2
                  go_roundw
                  case rel => exact ⟨i + 1, ds6, hlt, by go_num, p6, f6, H6.move KJ, own_keep Q6 KJ (by simp)⟩
                  case measure => simp [intOf]; omega
        · obtain rfl : i = xs.length := by omega
          go_wp2
          go_ret
          exact ⟨rfl, H.keep.below (Nat.le_refl _) (by simp)⟩

theorem StepX.of_row_in {row : List Value} (h : ∃ xs : List Int, row = xs.map (Value.int .i64) ∧ ∀ x ∈ xs, InI x) (hl : row.length = 5) : ∃ x : StepX, StepX.row x = row ∧ (InI x.a ∧ InI x.b ∧ InI x.on) := by
  obtain ⟨xs, rfl, hi⟩ := h
  rw [List.length_map] at hl
  match xs, hl with
  | [a, b, c, d, e], _ => exact ⟨⟨a, b, c, d, e⟩, rfl, hi c (by simp), hi d (by simp), hi b (by simp)⟩

set_option maxRecDepth 100000 in
theorem walkFixPlays {H : Type} {enc : TypeId × Value → H} {W : World} {base : Nat} {v0 : Value} {d0 : DataW H} {p0 : List MemPlace} (ok0 : Value.okWide Try.prog W .any base 32 v0) (h0 : DataW.Trod enc Try.prog W 0 (fun _ => true) true 32 v0 d0 p0)
    (_z0 : ∀ n ∈ d0.weights Try.prog 32, n ≤ reachBytes) (w : World) (hw : w = W) :
    Calls Try.prog 7 #[v0] w fun e w' => e = .returned (.bool true) ∧ Below w.heap.size w w' := by
  subst hw
  obtain ⟨A, n, c, rows, rfl, hn, hc, hl, hr, hA, hd, hf⟩ := open_rows Try.underlying32 Try.underlying40 (by kernel_rfl) (by kernel_rfl) ok0 h0
  obtain ⟨xs, rfl, hx⟩ := rows_map2 (enc := StepX.row) (Q := fun x => InI x.a ∧ InI x.b ∧ InI x.on) rows (by
    intro row hrow
    obtain ⟨i, hi⟩ := List.mem_iff_getElem?.1 hrow
    obtain ⟨h1, h2⟩ := hf i row hi
    refine StepX.of_row_in (int_row_in ?_ h1 h2) h1
    intro j f hj
    match j, hj with
    | 0, hj => simp at hj; subst hj; exact Try.underlying3
    | 1, hj => simp at hj; subst hj; exact Try.underlying3
    | 2, hj => simp at hj; subst hj; exact Try.underlying3
    | 3, hj => simp at hj; subst hj; exact Try.underlying3
    | 4, hj => simp at hj; subst hj; exact Try.underlying3
    | j + 5, hj => simp at hj)
  rw [List.length_map] at hl
  subst hl
  exact walkPlays A c xs w (Rd.imp hr (fun _ => rfl)) (by unfold maxLen at hc; omega) hx

end Go.Proofs.Ytldckefnelgdgaa
