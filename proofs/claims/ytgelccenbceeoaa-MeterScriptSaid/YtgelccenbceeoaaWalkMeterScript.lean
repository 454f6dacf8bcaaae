/- MeterScript's walk. -/
import Derived.Test.YtgelccenbceeoaaScript
import Derived.Test.YtgelccenbceeoaaShown02
import Derived.StillTailTactics
namespace Go.Proofs.Ytgelccenbceeoaa
open Go.RowKit
set_option linter.unusedSimpArgs false
set_option linter.unusedVariables false

theorem own_form' {w0 w : World} {e : TypeId} {v : Value} {gs : List Nat} (h : OwnP w0 w e v gs) (hn : 0 < gs.length) : ∃ g cap, v = .slice (some ⟨g, 0, none⟩) gs.length cap ∧ gs.length ≤ cap := by
  rcases h.2 with ⟨_, h'⟩ | ⟨g', cap', cur, h', hb, hh, hn, _⟩
  · omega
  · exact ⟨g', cap', h', hn⟩

theorem map_set_same {β : Type} {ds : List Duo} {k : Nat} {x y : Duo} (f : Duo → β) (hx : ds[k]? = some x) (hf : f y = f x) : (ds.set k y).map f = ds.map f := by
  apply List.ext_getElem?
  intro i
  simp only [List.getElem?_map, List.getElem?_set]
  split
  · rename_i h
    subst h
    split
    · rw [hx]; simp [hf]
    · rename_i h2; have := (List.getElem?_eq_some_iff.1 hx).1; omega
  · rfl

theorem ptr_len (gs : List Nat) : (gs.flatMap ptrRow).length = gs.length := by
  induction gs with
  | nil => rfl
  | cons x r ih => rw [List.flatMap_cons, List.length_append, ih]; simp [ptrRow]; omega
theorem ptr_at (gs : List Nat) : ∀ (k g : Nat), gs[k]? = some g → (gs.flatMap ptrRow)[k]? = some (.pointer (some ⟨g, 0, none⟩)) := by
  induction gs with
  | nil => intro k g h; simp at h
  | cons x r ih =>
    intro k g h
    cases k with
    | zero => simp at h; subst h; rfl
    | succ k =>
      rw [List.getElem?_cons_succ] at h
      rw [List.flatMap_cons]
      exact ih k g h

theorem OwnP.cell {w0 w : World} {e : TypeId} {g cap n k p : Nat} {gs : List Nat} (h : OwnP w0 w e (.slice (some ⟨g, 0, none⟩) n cap) gs) (hn : gs.length = n) (hk : gs[k]? = some p) : w.cell? ⟨g, k, none⟩ = some (.pointer (some ⟨p, 0, none⟩)) := by
  subst hn
  have hlt := (List.getElem?_eq_some_iff.1 hk).1
  rw [World.ownsRow.cellAt h k (by omega)]
  exact ptr_at gs k p hk

theorem OwnP.blk {w0 w : World} {n g cap : Nat} {e : TypeId} {gs : List Nat} (h : OwnP w0 w e (.slice (some ⟨g, 0, none⟩) n cap) gs) : ∃ cur, w.heap[g]? = some (.cells cur e (0, 0)) := by
  rcases h.2 with ⟨h', _⟩ | ⟨g', cap', cur, h', _, hh, _⟩
  · simp at h'
  · simp only [Value.slice.injEq, Option.some.injEq, Addr.mk.injEq, and_true, true_and] at h'
    obtain ⟨rfl, _⟩ := h'
    exact ⟨cur, hh⟩

theorem ptr_set (gs : List Nat) : ∀ (r c : Nat), (gs.set r c).flatMap ptrRow = (gs.flatMap ptrRow).set r (.pointer (some ⟨c, 0, none⟩)) := by
  induction gs with
  | nil => intro r c; simp
  | cons x l ih =>
    intro r c
    cases r with
    | zero => rfl
    | succ r =>
      rw [List.set_cons_succ, List.flatMap_cons, List.flatMap_cons, ih]
      rfl

/-- A pointer in a list is changed. -/
theorem OwnP.put {w0 w : World} {e : TypeId} {g n cap r : Nat} {gs : List Nat} (h : OwnP w0 w e (.slice (some ⟨g, 0, none⟩) n cap) gs) (c : Nat) (hr : r < gs.length) :
    OwnP w0 (w.setCell ⟨g, r, none⟩ (.pointer (some ⟨c, 0, none⟩))) e (.slice (some ⟨g, 0, none⟩) n cap) (gs.set r c) := by
  unfold OwnP at h ⊢
  rcases h.2 with ⟨h', _⟩ | ⟨g', cap', cur, h', hb, hh, hn, hm, hs, ht⟩
  · simp at h'
  · simp only [Value.slice.injEq, Option.some.injEq, Addr.mk.injEq, and_true, true_and] at h'
    obtain ⟨rfl, rfl, rfl⟩ := h'
    refine ⟨?_, .inr ⟨g, cap, cur.setIfInBounds r (.pointer (some ⟨c, 0, none⟩)), ?_, hb, blk_set hh _ _, ?_, hm, by simpa using hs, ?_⟩⟩
    · rw [ptr_len]; simp
    · rw [List.length_set]
    · rw [List.length_set]; exact hn
    · rw [ptr_set, ← ht, List.length_set, Array.toList_setIfInBounds, List.take_set]

/-- What a charge of both meters leaves. -/
def TurnPost (x : Duo) (W wc : World) : Prop := ∃ m' r', Keep [x.g, x.q] W wc ∧ IsM wc x.g m' ∧ IsR wc x.q r' ∧ Like m' r' ∧ m'.ok

set_option maxHeartbeats 6400000 in
set_option maxRecDepth 100000 in
theorem walkScript (A : Option Addr) (c : Nat) (xs : List Act) (s d : Int) (w : World) (hr : Rd Act.row 3 w A xs) (hn : xs.length ≤ 9223372036854775807) (hs : s ≤ 9223372036854775807) (hd : d ≤ 9223372036854775807) :
    Calls Try.prog 6 #[.int .i64 s, .int .i64 d, .slice A xs.length c] w fun e w' => e = .returned (.bool true) ∧ Below w.heap.size w w' := by
  have hn' : (xs.length : Int) ≤ 9223372036854775807 := by omega
  go_enter Try.func6, Try.ntmps6
  go_wp2_with fail
  refine (shown02 _).mono ?_
  rintro e w1 ⟨rfl, K1⟩
  by_cases hsd : s < 0 ∨ d < 0
  · go_wp2_with fail
    refine (new_bad s d _ hsd).mono ?_
    rintro e w2 ⟨rfl, rfl⟩
    go_wp2_with fail
    refine (rnew_bad s d _ hsd).mono ?_
    rintro e w2 ⟨rfl, rfl⟩
    go_wp2
    go_ret
    exact ⟨rfl, K1.below (Nat.le_refl _) (by simp)⟩
  · go_wp2_with fail
    refine (new_good s d _ (by omega) (by omega)).mono ?_
    rintro e w2 ⟨rfl, M2, K2, s2⟩
    have S2 := hid s2
    clear s2
    go_wp2_with fail
    refine (rnew_good s d _ (by omega) (by omega)).mono ?_
    rintro e w3 ⟨rfl, N3, K3, s3⟩
    clear s3
    have hge : w1.heap.size < w2.heap.size := by have := S2.out; omega
    have hwg := K1.size
    have M3 : IsM w3 w1.heap.size (MS.new s d) := M2.keep K3 (by simp)
    have K13 := (K1.trans K2).trans K3
    have hlt3 : w2.heap.size < w3.heap.size := blk_lt N3
    have H0 : Heart w w3 [⟨w1.heap.size, w2.heap.size, MS.new s d, RS.new s d⟩] := by
      refine ⟨?_, ?_, ?_, ?_, ?_, ?_, ?_, K13⟩
      · intro i j x y hi hj _
        have h1 := (List.getElem?_eq_some_iff.1 hi).1
        have h2 := (List.getElem?_eq_some_iff.1 hj).1
        simp at h1 h2
        omega
      · intro i j x y hi hj _
        have h1 := (List.getElem?_eq_some_iff.1 hi).1
        have h2 := (List.getElem?_eq_some_iff.1 hj).1
        simp at h1 h2
        omega
      all_goals
        intro x hx
        obtain rfl : x = _ := by simpa using hx
      · exact M3
      · exact N3
      · exact MS.ok_new (by omega) hs (by omega) hd
      · exact Like.new s d
      · exact ⟨hwg, by simp only; omega⟩
    generalize w1.heap.size = g at *
    generalize w2.heap.size = q at *
    clear K1 K2 K3 M2 M3 N3
    have O1 := World.ownsRow_lit (base := w.heap.size) (e := 23) (size := 1) w3 #[.pointer (some ⟨g, 0, none⟩)] 1 K13.size (by simp [maxLen]) rfl
    have O2 := World.ownsRow_lit (base := w.heap.size) (e := 38) (size := 1) (w3.alloc (.cells #[.pointer (some ⟨g, 0, none⟩)] 23)) #[.pointer (some ⟨q, 0, none⟩)] 1 (by have := K13.size; simp; omega) (by simp [maxLen]) rfl
    rw [size_alloc'] at O2
    have H1 := H0.move (((Keep.refl [] w3).alloc (.cells #[.pointer (some ⟨g, 0, none⟩)] 23)).alloc (.cells #[.pointer (some ⟨q, 0, none⟩)] 38))
    have O1' := O1.alloc (.cells #[.pointer (some ⟨q, 0, none⟩)] 38)
    clear O1 H0 K13
    go_wp2_with fail
    go_loopw [52, 11, 12] (fun vi va vb wr => ∃ (i : Nat) (ds : List Duo), i ≤ xs.length ∧ vi = .int .i64 i ∧ 0 < ds.length ∧ ds.length ≤ 4 ∧ Heart w wr ds ∧ OwnP w wr 23 va (ds.map Duo.g) ∧ OwnP w wr 38 vb (ds.map Duo.q)) (fun vi _ _ _ => xs.length - (intOf vi).toNat)
    case atStart => exact ⟨0, _, Nat.zero_le _, rfl, by simp, by simp, H1, O1', O2⟩
    case round =>
      clear H1 O1' O2
      obtain ⟨i, ds, hi, rfl, hd1, hd4, H, OA, OB⟩ := hrel
      by_cases hlt : i < xs.length
      · obtain ⟨x, hx⟩ : ∃ x, xs[i]? = some x := ⟨xs[i], List.getElem?_eq_getElem hlt⟩
        obtain ⟨ad, hA, hcs⟩ := hr.old H.keep (by simp) i x hx
        subst hA
        have d0 := hcs 0 _ rfl
        have d1 := hcs 1 _ rfl
        have d2 := hcs 2 _ rfl
        rw [add_at _ _ _ (by omega)] at d1 d2
        rw [Nat.add_zero] at d0
        clear hcs hx
        obtain ⟨ga, ca, rfl, hca⟩ := own_form' OA (by simpa using hd1)
        obtain ⟨gb, cb, rfl, hcb⟩ := own_form' OB (by simpa using hd1)
        simp only [List.length_map] at hca hcb ⊢
        have hi' : (i : Int) < (xs.length : Int) := by omega
        go_wp2_with fail
        refine (among_any x.w ds.length _ (by omega) (by omega)).mono ?_
        rintro e w' ⟨rfl, rfl⟩
        have K1 : Keep [] wr (wr.alloc (.cells #[.int .i64 x.k, .int .i64 x.w, .int .i64 x.n] 44)) := (Keep.refl _ _).alloc _
        have B1 := blk_new wr (.cells #[.int .i64 x.k, .int .i64 x.w, .int .i64 x.n] 44)
        have H1 := H.move K1
        have OA1 : OwnP w _ _ _ _ := OA.alloc (.cells #[.int .i64 x.k, .int .i64 x.w, .int .i64 x.n] 44)
        have OB1 : OwnP w _ _ _ _ := OB.alloc (.cells #[.int .i64 x.k, .int .i64 x.w, .int .i64 x.n] 44)
        have hk0 := Int.emod_nonneg x.w (b := (ds.length : Int)) (by omega)
        have hk1 := Int.emod_lt_of_pos x.w (b := (ds.length : Int)) (by omega)
        obtain ⟨k, hk⟩ : ∃ k : Nat, x.w % (ds.length : Int) = k := ⟨(x.w % (ds.length : Int)).toNat, by omega⟩
        rw [hk] at hk0 hk1 ⊢
        clear hk hk0 H OA OB d0 d1 d2
        generalize wr.alloc (.cells #[.int .i64 x.k, .int .i64 x.w, .int .i64 x.n] 44) = W1 at *
        generalize wr.heap.size = bx at *
        have hkl : k < ds.length := by omega
        obtain ⟨y, hy⟩ : ∃ y, ds[k]? = some y := ⟨ds[k], List.getElem?_eq_getElem hkl⟩
        have hym := List.mem_of_getElem? hy
        rw [List.length_map] at OA1 OB1
        have p1 := OA1.cell (k := k) (p := y.g) (by simp) (by simp [hy])
        have p2 := OB1.cell (k := k) (p := y.q) (by simp) (by simp [hy])
        have b0 := blk_cell B1 0
        have b1 := blk_cell B1 1
        have b2 := blk_cell B1 2
        simp only [List.getElem?_toArray, List.getElem?_cons_zero, List.getElem?_cons_succ] at b0 b1 b2
        go_wp2_with fail
        refine (among_any x.k 4 _ (by omega) (by omega)).mono ?_
        rintro e w' ⟨rfl, rfl⟩
        have hq0 := Int.emod_nonneg x.k (b := 4) (by omega)
        have hq1 := Int.emod_lt_of_pos x.k (b := 4) (by omega)
        generalize x.k % 4 = kd at *
        have M0d : IsM W1.drew y.g y.m := H1.isM y hym
        have R0d : IsR W1.drew y.q y.r := H1.isR y hym
        have ok0 := H1.ok y hym
        have L0 := H1.like y hym
        have hgq : ¬ y.g = y.q := H1.gq hym hym
        have hqg : ¬ y.q = y.g := fun e => hgq e.symm
        have n1 : ¬ ga = y.g := ((OA1.apart H1 (by decide) (by decide) ga (by simp [Value.ownBlock])).2 y hym).1
        have n2 : ¬ ga = y.q := ((OA1.apart H1 (by decide) (by decide) ga (by simp [Value.ownBlock])).2 y hym).2
        have n3 : ¬ gb = y.g := ((OB1.apart H1 (by decide) (by decide) gb (by simp [Value.ownBlock])).2 y hym).1
        have n4 : ¬ gb = y.q := ((OB1.apart H1 (by decide) (by decide) gb (by simp [Value.ownBlock])).2 y hym).2
        have n5 : ¬ bx = y.g := fun e => by have h1 := H1.isM y hym; unfold IsM at h1; rw [← e, B1] at h1; simp at h1
        have n6 : ¬ bx = y.q := fun e => by have h1 := H1.isR y hym; unfold IsR at h1; rw [← e, B1] at h1; simp at h1
        rcases (show kd = 0 ∨ kd = 1 ∨ kd = 2 ∨ kd = 3 by omega) with h | h | h | h
        · obtain rfl : kd = 0 := by omega
          go_upto_region 27 with (fail)
          have hs := L0.step x.n
          have okS := MS.ok_step ok0 x.n
          go_region_held3 (fun w' => w'.cell? ⟨ga, k, none⟩ = some (.pointer (some ⟨y.g, 0, none⟩)) ∧ w'.cell? ⟨gb, k, none⟩ = some (.pointer (some ⟨y.q, 0, none⟩)) ∧ w'.cell? ⟨bx, 2, none⟩ = some (.int .i64 x.n)) ((go_split_ands; refine ⟨?_, ?_, ?_⟩ <;> (repeat (with_reducible first | assumption | refine cell_drew' ?_ | refine Keep.cell' (S := [y.g]) (by assumption) ?_ (by simp [n1, n2, n3, n4, n5, n6]) | refine Keep.cell' (S := [y.q]) (by assumption) ?_ (by simp [n1, n2, n3, n4, n5, n6]))))) (first | (go_at_call 18; (first | (with_reducible refine (step_any y.g y.m x.n _ M0d ok0).mono ?_) | (with_reducible refine (step_any y.g y.m x.n _ (M0d.keep KR (by simp [hgq])) ok0).mono ?_)); rintro e w5 ⟨rfl, MS1, KS⟩; rw [hs.1]) | (go_at_call 26; (first | (with_reducible refine (rstep_any y.q y.r x.n _ R0d (L0.rok ok0)).mono ?_) | (with_reducible refine (rstep_any y.q y.r x.n _ (R0d.keep KS (by simp [hqg])) (L0.rok ok0)).mono ?_)); rintro e w6 ⟨rfl, RS1, KR⟩))
          all_goals
            first
              | (have T : TurnPost y W1 w6 := ⟨_, _, ((Keep.refl [y.g, y.q] W1).drew.trans (KS.mono (by simp))).trans (KR.mono (by simp)), MS1.keep KR (by simp [hgq]), RS1, hs.2, okS⟩)
              | (have T : TurnPost y W1 w5 := ⟨_, _, ((Keep.refl [y.g, y.q] W1).drew.trans (KR.mono (by simp))).trans (KS.mono (by simp)), MS1, RS1.keep KS (by simp [hqg]), hs.2, okS⟩)
            obtain ⟨m', r', KT, MT, RT, LT, okT⟩ := T
            have HT := H1.turn hy KT MT RT LT okT
            have OT1 : OwnP w _ _ _ _ := own_keep OA1 KT (fun b hb he => by simp at hb; simp [Value.ownBlock] at he; rcases hb with rfl | rfl <;> omega)
            have OT2 : OwnP w _ _ _ _ := own_keep OB1 KT (fun b hb he => by simp at hb; simp [Value.ownBlock] at he; rcases hb with rfl | rfl <;> omega)
            have t1 := KT.cell' p1 (by simp [n1, n2])
            have t2 := KT.cell' p2 (by simp [n3, n4])
            clear KS KR MS1 RS1 hs okS
            go_upto_region 32 with (fail)
            go_still_tail 11, (by kernel_rfl)
            change wpList _ _ _ _ _ (World.drew _)
            have HD := HT.move ((Keep.refl [] _).drew)
            have OD1 : OwnP w _ _ _ _ := own_keep OT1 ((Keep.refl [] _).drew) (by simp)
            have OD2 : OwnP w _ _ _ _ := own_keep OT2 ((Keep.refl [] _).drew) (by simp)
            have MD := MT.keep ((Keep.refl [] _).drew) (by simp)
            have RD := RT.keep ((Keep.refl [] _).drew) (by simp)
            go_wp2_with fail
            refine (same02_like y.g y.q m' r' _ MD RD LT).mono ?_
            rintro e w' ⟨rfl, rfl⟩
            go_wp2
            go_roundw
            case rel => exact ⟨i + 1, _, hlt, by go_num, by simpa using hd1, by simpa using hd4, HD, by rw [map_set_same Duo.g (y := ⟨y.g, y.q, m', r'⟩) hy rfl]; exact OD1, by rw [map_set_same Duo.q (y := ⟨y.g, y.q, m', r'⟩) hy rfl]; exact OD2⟩
            case measure => simp [intOf]; omega
        · obtain rfl : kd = 1 := by omega
          go_upto_region 29 with (fail)
          have hs := L0.hold ok0 x.n
          have okS := MS.ok_hold ok0 x.n
          go_region_held3 (fun w' => w'.cell? ⟨ga, k, none⟩ = some (.pointer (some ⟨y.g, 0, none⟩)) ∧ w'.cell? ⟨gb, k, none⟩ = some (.pointer (some ⟨y.q, 0, none⟩)) ∧ w'.cell? ⟨bx, 2, none⟩ = some (.int .i64 x.n)) ((go_split_ands; refine ⟨?_, ?_, ?_⟩ <;> (repeat (with_reducible first | assumption | refine cell_drew' ?_ | refine Keep.cell' (S := [y.g]) (by assumption) ?_ (by simp [n1, n2, n3, n4, n5, n6]) | refine Keep.cell' (S := [y.q]) (by assumption) ?_ (by simp [n1, n2, n3, n4, n5, n6]))))) (first | (go_at_call 17; (first | (with_reducible refine (hold_any y.g y.m x.n _ M0d ok0).mono ?_) | (with_reducible refine (hold_any y.g y.m x.n _ (M0d.keep KR (by simp [hgq])) ok0).mono ?_)); rintro e w5 ⟨rfl, MS1, KS⟩; rw [hs.1]) | (go_at_call 27; (first | (with_reducible refine (rhold_any y.q y.r x.n _ R0d (L0.rok ok0)).mono ?_) | (with_reducible refine (rhold_any y.q y.r x.n _ (R0d.keep KS (by simp [hqg])) (L0.rok ok0)).mono ?_)); rintro e w6 ⟨rfl, RS1, KR⟩))
          all_goals
            first
              | (have T : TurnPost y W1 w6 := ⟨_, _, ((Keep.refl [y.g, y.q] W1).drew.trans (KS.mono (by simp))).trans (KR.mono (by simp)), MS1.keep KR (by simp [hgq]), RS1, hs.2, okS⟩)
              | (have T : TurnPost y W1 w5 := ⟨_, _, ((Keep.refl [y.g, y.q] W1).drew.trans (KR.mono (by simp))).trans (KS.mono (by simp)), MS1, RS1.keep KS (by simp [hqg]), hs.2, okS⟩)
            obtain ⟨m', r', KT, MT, RT, LT, okT⟩ := T
            have HT := H1.turn hy KT MT RT LT okT
            have OT1 : OwnP w _ _ _ _ := own_keep OA1 KT (fun b hb he => by simp at hb; simp [Value.ownBlock] at he; rcases hb with rfl | rfl <;> omega)
            have OT2 : OwnP w _ _ _ _ := own_keep OB1 KT (fun b hb he => by simp at hb; simp [Value.ownBlock] at he; rcases hb with rfl | rfl <;> omega)
            have t1 := KT.cell' p1 (by simp [n1, n2])
            have t2 := KT.cell' p2 (by simp [n3, n4])
            clear KS KR MS1 RS1 hs okS
            go_upto_region 32 with (fail)
            go_still_tail 11, (by kernel_rfl)
            change wpList _ _ _ _ _ (World.drew _)
            have HD := HT.move ((Keep.refl [] _).drew)
            have OD1 : OwnP w _ _ _ _ := own_keep OT1 ((Keep.refl [] _).drew) (by simp)
            have OD2 : OwnP w _ _ _ _ := own_keep OT2 ((Keep.refl [] _).drew) (by simp)
            have MD := MT.keep ((Keep.refl [] _).drew) (by simp)
            have RD := RT.keep ((Keep.refl [] _).drew) (by simp)
            go_wp2_with fail
            refine (same02_like y.g y.q m' r' _ MD RD LT).mono ?_
            rintro e w' ⟨rfl, rfl⟩
            go_wp2
            go_roundw
            case rel => exact ⟨i + 1, _, hlt, by go_num, by simpa using hd1, by simpa using hd4, HD, by rw [map_set_same Duo.g (y := ⟨y.g, y.q, m', r'⟩) hy rfl]; exact OD1, by rw [map_set_same Duo.q (y := ⟨y.g, y.q, m', r'⟩) hy rfl]; exact OD2⟩
            case measure => simp [intOf]; omega
        · obtain rfl : kd = 2 := by omega
          go_upto_region 31 with (fail)
          have hs := L0.drop x.n
          have okS := MS.ok_drop ok0 x.n
          go_region_held3 (fun w' => w'.cell? ⟨ga, k, none⟩ = some (.pointer (some ⟨y.g, 0, none⟩)) ∧ w'.cell? ⟨gb, k, none⟩ = some (.pointer (some ⟨y.q, 0, none⟩)) ∧ w'.cell? ⟨bx, 2, none⟩ = some (.int .i64 x.n)) ((go_split_ands; refine ⟨?_, ?_, ?_⟩ <;> (repeat (with_reducible first | assumption | refine cell_drew' ?_ | refine Keep.cell' (S := [y.g]) (by assumption) ?_ (by simp [n1, n2, n3, n4, n5, n6]) | refine Keep.cell' (S := [y.q]) (by assumption) ?_ (by simp [n1, n2, n3, n4, n5, n6]))))) (first | (go_at_call 28; (first | (with_reducible refine (drop_any y.g y.m x.n _ M0d ok0).mono ?_) | (with_reducible refine (drop_any y.g y.m x.n _ (M0d.keep KR (by simp [hgq])) ok0).mono ?_)); rintro e w5 ⟨rfl, MS1, KS⟩; rw [hs.1]) | (go_at_call 29; (first | (with_reducible refine (rdrop_any y.q y.r x.n _ R0d (L0.rok ok0)).mono ?_) | (with_reducible refine (rdrop_any y.q y.r x.n _ (R0d.keep KS (by simp [hqg])) (L0.rok ok0)).mono ?_)); rintro e w6 ⟨rfl, RS1, KR⟩))
          all_goals
            first
              | (have T : TurnPost y W1 w6 := ⟨_, _, ((Keep.refl [y.g, y.q] W1).drew.trans (KS.mono (by simp))).trans (KR.mono (by simp)), MS1.keep KR (by simp [hgq]), RS1, hs.2, okS⟩)
              | (have T : TurnPost y W1 w5 := ⟨_, _, ((Keep.refl [y.g, y.q] W1).drew.trans (KR.mono (by simp))).trans (KS.mono (by simp)), MS1, RS1.keep KS (by simp [hqg]), hs.2, okS⟩)
            obtain ⟨m', r', KT, MT, RT, LT, okT⟩ := T
            have HT := H1.turn hy KT MT RT LT okT
            have OT1 : OwnP w _ _ _ _ := own_keep OA1 KT (fun b hb he => by simp at hb; simp [Value.ownBlock] at he; rcases hb with rfl | rfl <;> omega)
            have OT2 : OwnP w _ _ _ _ := own_keep OB1 KT (fun b hb he => by simp at hb; simp [Value.ownBlock] at he; rcases hb with rfl | rfl <;> omega)
            have t1 := KT.cell' p1 (by simp [n1, n2])
            have t2 := KT.cell' p2 (by simp [n3, n4])
            clear KS KR MS1 RS1 hs okS
            go_upto_region 32 with (fail)
            go_still_tail 11, (by kernel_rfl)
            change wpList _ _ _ _ _ (World.drew _)
            have HD := HT.move ((Keep.refl [] _).drew)
            have OD1 : OwnP w _ _ _ _ := own_keep OT1 ((Keep.refl [] _).drew) (by simp)
            have OD2 : OwnP w _ _ _ _ := own_keep OT2 ((Keep.refl [] _).drew) (by simp)
            have MD := MT.keep ((Keep.refl [] _).drew) (by simp)
            have RD := RT.keep ((Keep.refl [] _).drew) (by simp)
            go_wp2_with fail
            refine (same02_like y.g y.q m' r' _ MD RD LT).mono ?_
            rintro e w' ⟨rfl, rfl⟩
            go_wp2
            go_roundw
            case rel => exact ⟨i + 1, _, hlt, by go_num, by simpa using hd1, by simpa using hd4, HD, by rw [map_set_same Duo.g (y := ⟨y.g, y.q, m', r'⟩) hy rfl]; exact OD1, by rw [map_set_same Duo.q (y := ⟨y.g, y.q, m', r'⟩) hy rfl]; exact OD2⟩
            case measure => simp [intOf]; omega
        · obtain rfl : kd = 3 := by omega
          have M0 := H1.isM y hym
          have R0 := H1.isR y hym
          go_wp2_with fail
          refine (clone_any y.g y.m _ M0).mono ?_
          rintro e w2 ⟨rfl, MC, KC, sC⟩
          have SC := hid sC
          clear sC
          have p2c := KC.cell' p2 (by simp)
          go_wp2_with fail
          refine (rclone_any y.q y.r _ (R0.keep KC (by simp))).mono ?_
          rintro e w3 ⟨rfl, RC, KC2, sC2⟩
          clear sC2
          have KW := KC.trans KC2
          have MC3 := MC.keep KC2 (by simp)
          have H3 := H1.move KW
          have OA3 : OwnP w _ _ _ _ := own_keep OA1 KW (by simp)
          have OB3 : OwnP w _ _ _ _ := own_keep OB1 KW (by simp)
          have hz1 : W1.heap.size < w2.heap.size := by have := SC.out; omega
          have hz2 : w2.heap.size < w3.heap.size := blk_lt RC
          have hww := H1.keep.size
          have hnew : ∀ z ∈ ds, z.g ≠ W1.heap.size ∧ z.q ≠ w2.heap.size := fun z hz => ⟨by have := blk_lt (H1.isM z hz); omega, by have := blk_lt (H1.isR z hz); omega⟩
          by_cases hl4 : ds.length < 4
          · have hl4' : (ds.length : Int) < 4 := by omega
            have HS := H3.snoc ⟨W1.heap.size, w2.heap.size, y.m, y.r⟩ MC3 RC ok0 L0 ⟨hww, by simp only; omega⟩ hnew
            have hgab : ga ≠ gb := by
              obtain ⟨cur, hcur⟩ := OA3.blk
              intro e
              exact own_ne (t := 23) OB3 hcur (by decide) (by simp [Value.ownBlock, e])
            go_wp2_with (first | (at_builtin; (refine append_cells rfl _ _ 41 (.pointer none) 1 8 rfl (by kernel_rfl) (by kernel_rfl) (by kernel_rfl) (by decide) (by decide) w.heap.size (.slice (some ⟨ga, 0, none⟩) ds.length ca) _ _ rfl rfl (by simp) rfl (by simp [Value.oneCell']) OA3 (by omega) (by simp; omega) ?_; rintro v4 w4 O4 G4; have K4 : Keep [ga] w3 w4 := Keep.grown ((Keep.refl _ _).alloc _) G4 (fun b hb => .inl (by simp [Value.ownBlock] at hb; simp [hb])); have OB4 : OwnP w _ _ _ _ := own_keep OB3 K4 (by simp [Value.ownBlock]; omega); have z4 := K4.size)) | (at_builtin; (refine append_cells rfl _ _ 42 (.pointer none) 1 8 rfl (by kernel_rfl) (by kernel_rfl) (by kernel_rfl) (by decide) (by decide) w.heap.size (.slice (some ⟨gb, 0, none⟩) ds.length cb) _ _ rfl rfl (by simp) rfl (by simp [Value.oneCell']) OB4 (by omega) (by simp; omega) ?_; rintro v5 w5 O5 G5)))
            have K5 : Keep [gb] w4 w5 := Keep.grown ((Keep.refl _ _).alloc _) G5 (fun b hb => .inl (by simp [Value.ownBlock] at hb; simp [hb]))
            have PA : OwnP w w3 23 (.slice (some ⟨ga, 0, none⟩) ds.length ca) (ds.map Duo.g) := OA3
            have PB : OwnP w w4 38 (.slice (some ⟨gb, 0, none⟩) ds.length cb) (ds.map Duo.q) := OB4
            have H4 := HS.aside K4 (fun b hb => PA.apart HS (by decide) (by decide) b (by simp at hb; simp [Value.ownBlock, hb]))
            have H5 := H4.aside K5 (fun b hb => PB.apart H4 (by decide) (by decide) b (by simp at hb; simp [Value.ownBlock, hb]))
            have Q4 : OwnP w w4 23 v4 ((ds ++ [(⟨W1.heap.size, w2.heap.size, y.m, y.r⟩ : Duo)]).map Duo.g) := by unfold OwnP; simpa [ptrRow] using O4
            have Q5 : OwnP w w5 38 v5 ((ds ++ [(⟨W1.heap.size, w2.heap.size, y.m, y.r⟩ : Duo)]).map Duo.q) := by unfold OwnP; simpa [ptrRow] using O5
            have Q4' : OwnP w w5 23 v4 ((ds ++ [(⟨W1.heap.size, w2.heap.size, y.m, y.r⟩ : Duo)]).map Duo.g) := own_keep Q4 K5 (fun b hb => by
              obtain ⟨cur, hcur⟩ := PB.blk
              simp at hb
              subst hb
              exact own_ne (t := 38) Q4 hcur (by decide))
            have hy5 : (ds ++ [(⟨W1.heap.size, w2.heap.size, y.m, y.r⟩ : Duo)])[k]? = some y := by rw [List.getElem?_append_left hkl]; exact hy
            obtain ⟨ds', hds'⟩ : ∃ ds', ds' = ds ++ [(⟨W1.heap.size, w2.heap.size, y.m, y.r⟩ : Duo)] := ⟨_, rfl⟩
            have hdl : 0 < ds'.length ∧ ds'.length ≤ 4 ∧ (k : Int) < (ds'.length : Int) := by rw [hds']; simp; omega
            rw [← hds'] at H5 Q4' Q5 hy5
            clear hds' O4 O5 G4 G5 OA3 OB3 OB4 PA PB H4 HS K4 K5 Q4 H3 MC3 RC MC KC KC2 SC M0d R0d b0 b1 b2 p1 p2 p2c OA1 OB1 H1 M0 R0 KW hnew
            obtain ⟨hd1', hd4', hkd⟩ := hdl
            obtain ⟨g5, c5, rfl, hc5⟩ := own_form' Q4' (by simpa using hd1')
            obtain ⟨g6, c6, rfl, hc6⟩ := own_form' Q5 (by simpa using hd1')
            have hy5m := List.mem_of_getElem? hy5
            rw [List.length_map] at Q4' Q5 hc5 hc6
            have t1 := Q4'.cell (k := k) (p := y.g) (by simp) (by simp [hy5])
            have t2 := Q5.cell (k := k) (p := y.q) (by simp) (by simp [hy5])
            have MT := H5.isM y hy5m
            have RT := H5.isR y hy5m
            rw [List.length_map, List.length_map]
            go_upto_region 32 with (fail)
            go_still_tail 11, (by kernel_rfl)
            change wpList _ _ _ _ _ (World.drew _)
            have HD := H5.move ((Keep.refl [] _).drew)
            have OD1 : OwnP w _ _ _ _ := own_keep Q4' ((Keep.refl [] _).drew) (by simp)
            have OD2 : OwnP w _ _ _ _ := own_keep Q5 ((Keep.refl [] _).drew) (by simp)
            have MD := MT.keep ((Keep.refl [] _).drew) (by simp)
            have RD := RT.keep ((Keep.refl [] _).drew) (by simp)
            go_wp2_with fail
            refine (same02_like y.g y.q y.m y.r _ MD RD L0).mono ?_
            rintro e w' ⟨rfl, rfl⟩
            go_wp2
            go_roundw
            case rel => exact ⟨i + 1, ds', hlt, by go_num, hd1', hd4', HD, OD1, OD2⟩
            case measure => simp [intOf]; omega
          · have hl4e : ds.length = 4 := by omega
            have b2c := KW.cell' b2 (by simp)
            have hln : ¬ (ds.length : Int) < 4 := by omega
            have B1c := KW.blk B1 (by simp)
            have hbga : ¬ bx = ga := fun e => own_ne OA3 B1c (by decide) (by simp [Value.ownBlock, e])
            have hbgb : ¬ bx = gb := fun e => own_ne OB3 B1c (by decide) (by simp [Value.ownBlock, e])
            have hgab : ¬ ga = gb := by
              obtain ⟨cur, hcur⟩ := OA3.blk
              intro e
              exact own_ne (t := 23) OB3 hcur (by decide) (by simp [Value.ownBlock, e])
            have hr0 := Int.emod_nonneg x.n (b := 4) (by omega)
            have hr1 := Int.emod_lt_of_pos x.n (b := 4) (by omega)
            obtain ⟨r, hr⟩ : ∃ r : Nat, x.n % 4 = r := ⟨(x.n % 4).toNat, by omega⟩
            have HR := hid hr
            rw [hr] at hr0 hr1
            clear hr
            have hrl : r < ds.length := by omega
            have hrl4 : (r : Int) < 4 := by omega
            obtain ⟨z, hz⟩ : ∃ z, ds[r]? = some z := ⟨ds[r], List.getElem?_eq_getElem hrl⟩
            have q1 := OA3.cell (k := r) (p := z.g) (by simp) (by simp [hz])
            obtain ⟨cura, hcura⟩ := OA3.blk
            have f1 := blk_free hcura r
            clear hcura
            go_upto_region 24 with (fail)
            go_wp2_with fail
            refine (among_any x.n 4 _ (by omega) (by omega)).mono ?_
            rintro e w' ⟨rfl, rfl⟩
            rw [HR.out]
            go_upto_region 25 with (fail)
            have OA4 : OwnP w _ _ _ _ := OA3.put (r := r) W1.heap.size (by simpa using hrl)
            have K4 : Keep [ga] w3 (w3.setCell ⟨ga, r, none⟩ (.pointer (some ⟨W1.heap.size, 0, none⟩))) := (Keep.refl _ _).set (by simp) _
            have HS := H3.swap r ⟨W1.heap.size, w2.heap.size, y.m, y.r⟩ MC3 RC ok0 L0 ⟨hww, by simp only; omega⟩ hnew
            have H4 := HS.aside K4 (fun b hb => OA3.apart HS (by decide) (by decide) b (by simp at hb; simp [Value.ownBlock, hb]))
            have OB4 : OwnP w _ _ _ _ := own_keep OB3 K4 (by simp [Value.ownBlock]; exact hgab)
            have b2d := K4.cell' b2c (by simp [hbga])
            clear q1 f1 H3 HS
            generalize w3.setCell ⟨ga, r, none⟩ (.pointer (some ⟨W1.heap.size, 0, none⟩)) = w4 at *
            have q2 := OB4.cell (k := r) (p := z.q) (by simp) (by simp [hz])
            obtain ⟨curb, hcurb⟩ := OB4.blk
            have f2 := blk_free hcurb r
            clear hcurb
            go_wp2_with fail
            refine (among_any x.n 4 _ (by omega) (by omega)).mono ?_
            rintro e w' ⟨rfl, rfl⟩
            rw [HR.out]
            go_upto_region 32 with (fail)
            have OB5 : OwnP w _ _ _ _ := OB4.put (r := r) w2.heap.size (by simpa using hrl)
            have K5 : Keep [gb] w4 (w4.setCell ⟨gb, r, none⟩ (.pointer (some ⟨w2.heap.size, 0, none⟩))) := (Keep.refl _ _).set (by simp) _
            have H5 := H4.aside K5 (fun b hb => OB4.apart H4 (by decide) (by decide) b (by simp at hb; simp [Value.ownBlock, hb]))
            have OA5 : OwnP w _ _ _ _ := own_keep OA4 K5 (by simp [Value.ownBlock]; exact fun e => hgab e.symm)
            clear q2 f2 OA4 OB4 H4 K4 K5 OA3 OB3 b2d b2c B1c H1 OA1 OB1 MC MC3 RC M0 R0 M0d R0d KC KC2 KW SC b0 b1 b2 p1 p2 p2c hnew
            have e1 := @List.map_set _ _ Duo.g ds r ⟨W1.heap.size, w2.heap.size, y.m, y.r⟩
            have e2 := @List.map_set _ _ Duo.q ds r ⟨W1.heap.size, w2.heap.size, y.m, y.r⟩
            rw [← e1] at OA5
            rw [← e2] at OB5
            clear e1 e2
            obtain ⟨ds', hds'⟩ : ∃ ds', ds' = ds.set r (⟨W1.heap.size, w2.heap.size, y.m, y.r⟩ : Duo) := ⟨_, rfl⟩
            have hdl : ds'.length = ds.length := by rw [hds']; simp
            rw [← hds'] at H5 OA5 OB5
            clear hds'
            obtain ⟨z', hz'⟩ : ∃ z', ds'[k]? = some z' := ⟨ds'[k]'(by omega), List.getElem?_eq_getElem (by omega)⟩
            have hzm := List.mem_of_getElem? hz'
            rw [hl4e] at OA5 OB5 hdl
            have t1 := OA5.cell (k := k) (p := z'.g) (by simp [hdl]) (by simp [hz'])
            have t2 := OB5.cell (k := k) (p := z'.q) (by simp [hdl]) (by simp [hz'])
            have hk4 : (k : Int) < 4 := by omega
            have HDL := hid hdl
            have HL4 := hid hl4e
            clear hdl hl4e
            generalize w4.setCell ⟨gb, r, none⟩ (.pointer (some ⟨w2.heap.size, 0, none⟩)) = w5 at *
            go_still_tail 11, (by kernel_rfl)
            change wpList _ _ _ _ _ (World.drew _)
            have HD := H5.move ((Keep.refl [] _).drew)
            have OD1 : OwnP w _ _ _ _ := own_keep OA5 ((Keep.refl [] _).drew) (by simp)
            have OD2 : OwnP w _ _ _ _ := own_keep OB5 ((Keep.refl [] _).drew) (by simp)
            go_wp2_with fail
            refine (same02_like z'.g z'.q z'.m z'.r _ (HD.isM z' hzm) (HD.isR z' hzm) (HD.like z' hzm)).mono ?_
            rintro e w' ⟨rfl, rfl⟩
            go_wp2
            go_roundw
            case rel => exact ⟨i + 1, ds', hlt, by go_num, by have := HDL.out; omega, by have := HDL.out; omega, HD, OD1, OD2⟩
            case measure => simp [intOf]; omega
      · obtain rfl : i = xs.length := by omega
        obtain ⟨ga, ca, rfl, hca⟩ := own_form' OA (by simpa using hd1)
        obtain ⟨gb, cb, rfl, hcb⟩ := own_form' OB (by simpa using hd1)
        rw [List.length_map] at OA OB hca hcb
        rw [List.length_map, List.length_map]
        have hd4' : (ds.length : Int) ≤ 4 := by omega
        rename World => w5
        go_wp2_with fail
        go_loopw [167] (fun vk wr => ∃ k : Nat, k ≤ ds.length ∧ vk = .int .i64 k ∧ Keep [] w5 wr) (fun vk _ => ds.length - (intOf vk).toNat)
        case atStart => exact ⟨0, Nat.zero_le _, rfl, Keep.refl _ _⟩
        case round =>
          obtain ⟨k, hk, rfl, K⟩ := hrel
          by_cases hkl : k < ds.length
          · obtain ⟨y, hy⟩ : ∃ y, ds[k]? = some y := ⟨ds[k], List.getElem?_eq_getElem hkl⟩
            have hym := List.mem_of_getElem? hy
            have H1 := H.move K
            have p1 := K.cell' (OA.cell (k := k) (p := y.g) (by simp) (by simp [hy])) (by simp)
            have p2 := K.cell' (OB.cell (k := k) (p := y.q) (by simp) (by simp [hy])) (by simp)
            have hk' : (k : Int) < (ds.length : Int) := by omega
            go_upto_region 38 with (fail)
            go_still_tail 8, (by kernel_rfl)
            change wpList _ _ _ _ _ (World.drew _)
            have HD := H1.move ((Keep.refl [] _).drew)
            go_wp2_with fail
            refine (same02_like y.g y.q y.m y.r _ (HD.isM y hym) (HD.isR y hym) (HD.like y hym)).mono ?_
            rintro e w' ⟨rfl, rfl⟩
            go_wp2
            go_roundw
            case rel => exact ⟨k + 1, hkl, by go_num, K.drew⟩
            case measure => simp [intOf]; omega
          · obtain rfl : k = ds.length := by omega
            go_wp2
            go_ret
            exact ⟨rfl, (H.keep.trans K).below (Nat.le_refl _) (by simp)⟩

end Go.Proofs.Ytgelccenbceeoaa
