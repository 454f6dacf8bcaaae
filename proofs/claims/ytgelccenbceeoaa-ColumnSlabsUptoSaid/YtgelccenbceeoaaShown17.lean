/- The document's examples of layer 17. -/
import Derived.Test.YtgelccenbceeoaaEx17
import Derived.StillTailTactics
namespace Go.Proofs.Ytgelccenbceeoaa
open Go.RowKit
set_option linter.unusedSimpArgs false
set_option linter.unusedVariables false

set_option maxHeartbeats 1600000 in
set_option maxRecDepth 100000 in
theorem shown17 (w : World) : Calls Try.prog 33 #[] w fun e w' => e = .returned (.bool true) ∧ Keep [] w w' := by
  go_enter Try.func33, Try.ntmps33
  go_wp2_with fail
  refine (new_good 3 3 _ (by omega) (by omega)).mono ?_
  rintro e w0 ⟨rfl, hM0, hK0, hs0⟩
  go_wp2_with fail
  refine (new_good 2 3 _ (by omega) (by omega)).mono ?_
  rintro e w1 ⟨rfl, hM1, hK1, hs1⟩
  go_wp2_with fail
  refine (plain17 _).mono ?_
  rintro e w2 ⟨a, b, c, d, rfl, ha, hb, hc, hd, K2, B1, B2, B3, B4⟩
  go_wp2_with fail
  refine (ex_slabs_any w.heap.size (MS.new 3 3) a b c d w2 (K2.blk (hK1.blk hM0 (by simp)) (by simp)) (by simp [MS.ok, MS.new]) B1 B2 B3 B4 (by omega) (by omega) (by omega) (by omega)).mono ?_
  rintro e w3 ⟨v3, rfl, O3, M3, K3⟩
  rw [show chargeN (MS.new 3 3) exSlabs.length = (true, ⟨3, 3, 3, 3, 3, 3, 0⟩) from rfl] at O3 M3 ⊢
  simp only [if_true] at O3 M3 ⊢
  go_wp2_with fail
  rw [hs0] at hM1
  have M2 := blk_alloc (K3.blk (K2.blk hM1 (by simp)) (by simp)) (.cells #[.int .i64 0, .int .i64 0] 59)
  refine (ex_slabs_any (w.heap.size + 1) (MS.new 2 3) a b c d _ M2 (by simp [MS.ok, MS.new]) (blk_alloc (K3.blk B1 (by simp; omega)) _) (blk_alloc (K3.blk B2 (by simp; omega)) _) (blk_alloc (K3.blk B3 (by simp; omega)) _) (blk_alloc (K3.blk B4 (by simp; omega)) _) (by omega) (by omega) (by omega) (by omega)).mono ?_
  rintro e w4 ⟨v4, rfl, O4, M4, K4⟩
  rw [show chargeN (MS.new 2 3) exSlabs.length = (false, ⟨2, 2, 2, 2, 2, 3, 20⟩) from rfl] at O4 M4 ⊢
  obtain ⟨A3, cap3, rfl, hcap3, hr3, hA3⟩ := own_rd (enc := Slab.row) (fun _ => rfl) O3
  obtain ⟨ad3, hAd, _⟩ := hr3 0 _ rfl
  obtain ⟨g3, cur3, had3, hg3, B5, hcs3⟩ := hA3 _ hAd
  subst hAd had3
  clear hA3 O3
  simp only [show exSlabs.length = 3 from rfl] at hcap3 ⊢
  have n0 := blk_lt B1
  have K34 : Keep [w.heap.size + 1] w3 w4 := ((Keep.refl _ w3).alloc _).trans K4
  have F3 := K4.blk (blk_new w3 (.cells #[.int .i64 0, .int .i64 0] 59)) (by simp; have := K3.size; omega)
  have B6 := K34.blk B5 (by simp; have := K2.size; omega)
  have hr4 := hr3.keep K34 (by rintro ad h; obtain rfl := Option.some.inj h; simp; have := K2.size; omega)
  clear hr3 B5
  have n1 := blk_lt F3
  have n2 := blk_lt B6
  have x0 := blk_cell F3 0
  have x1 := blk_cell F3 1
  simp only [List.getElem?_toArray, List.getElem?_cons_zero, List.getElem?_cons_succ] at x0 x1
  go_upto_region 11 with (fail)
  have KE : Keep [] w4 ((w4.alloc (.cells #[.int .i64 20, .int .i64 0] 59)).alloc (.cells #[.int .i64 1, .int .i64 0, .int .i64 9, .int .i64 2, .int .i64 15, .int .i64 6, .int .i64 0, .int .i64 0, .int .i64 1] 51)) := ((Keep.refl _ _).alloc _).alloc _
  have hr5 := hr4.old KE (by simp)
  have F5 := blk_alloc (blk_new w4 (.cells #[.int .i64 20, .int .i64 0] 59)) (.cells #[.int .i64 1, .int .i64 0, .int .i64 9, .int .i64 2, .int .i64 15, .int .i64 6, .int .i64 0, .int .i64 0, .int .i64 1] 51)
  have L5 := blk_new (w4.alloc (.cells #[.int .i64 20, .int .i64 0] 59)) (.cells #[.int .i64 1, .int .i64 0, .int .i64 9, .int .i64 2, .int .i64 15, .int .i64 6, .int .i64 0, .int .i64 0, .int .i64 1] 51)
  have KA : Keep [] w (w4.alloc (.cells #[.int .i64 20, .int .i64 0] 59) |>.alloc (.cells #[.int .i64 1, .int .i64 0, .int .i64 9, .int .i64 2, .int .i64 15, .int .i64 6, .int .i64 0, .int .i64 0, .int .i64 1] 51)) :=
    (((((hK0.trans hK1).trans K2).then K3 (by simp)).then K34 (by simp)).trans KE)
  generalize (w4.alloc (.cells #[.int .i64 20, .int .i64 0] 59)).alloc (.cells #[.int .i64 1, .int .i64 0, .int .i64 9, .int .i64 2, .int .i64 15, .int .i64 6, .int .i64 0, .int .i64 0, .int .i64 1] 51) = W at *
  rw [size_alloc'] at L5
  obtain ⟨_, hA, c2⟩ := hr5 2 _ rfl
  obtain rfl := Option.some.inj hA
  obtain ⟨_, hA1, c1⟩ := hr5 1 _ rfl
  obtain rfl := Option.some.inj hA1
  have e0 := c2 0 _ rfl
  have e1 := c2 1 _ rfl
  have e2 := c2 2 _ rfl
  have e3 := c2 3 _ rfl
  have e4 := c2 4 _ rfl
  have e5 := c2 5 _ rfl
  have e6 := c2 6 _ rfl
  have e7 := c2 7 _ rfl
  have e8 := c2 8 _ rfl
  have e9 := c1 7 _ rfl
  have e10 := c1 8 _ rfl
  simp only [add_zero_at, Nat.reduceMul, Nat.reduceAdd] at e0 e1 e2 e3 e4 e5 e6 e7 e8 e9 e10
  have l0 := blk_cell L5 0
  have l1 := blk_cell L5 1
  have l2 := blk_cell L5 2
  have l3 := blk_cell L5 3
  have l4 := blk_cell L5 4
  have l5 := blk_cell L5 5
  have l6 := blk_cell L5 6
  have l7 := blk_cell L5 7
  have l8 := blk_cell L5 8
  have f0 := blk_cell F5 0
  have f1 := blk_cell F5 1
  simp only [List.getElem?_toArray, List.getElem?_cons_zero, List.getElem?_cons_succ] at l0 l1 l2 l3 l4 l5 l6 l7 l8 f0 f1
  have t0 : tall exSlabs = 42 := rfl
  have t1 : tall (exSlabs.drop 1) = 30 := rfl
  have t2 : tall (exSlabs.drop 2) = 11 := rfl
  go_still_tail 26, (by kernel_rfl)
  have hr6 : Rd Slab.row 9 W.drew (some ⟨g3, 0, none⟩) exSlabs := hr5
  have KB := KA.drew
  change wpList _ _ _ _ _ W.drew
  generalize W.drew = W2 at *
  go_wp2_with fail
  refine (tall_any (some ⟨g3, 0, none⟩) cap3 exSlabs W2 hr6 (by decide) hcap3).mono ?_
  rintro e w5 ⟨rfl, K5⟩
  rw [t0]
  have hr7 := hr6.old K5 (by simp)
  have hd1 : Rd Slab.row 9 w5 (some ⟨g3, 9, none⟩) (exSlabs.drop 1) := by have h := hr7.drop 1; simpa only [Option.map_some, add_zero_at, Nat.one_mul] using h
  go_wp2_with fail
  refine (tall_any (some ⟨g3, 9, none⟩) (cap3 - 1) (exSlabs.drop 1) w5 hd1 (by decide) (show 2 ≤ cap3 - 1 by omega)).mono ?_
  rintro e w6 ⟨rfl, K6⟩
  rw [t1]
  have hd2 : Rd Slab.row 9 w6 (some ⟨g3, 18, none⟩) (exSlabs.drop 2) := by have h := (hr7.old K6 (by simp)).drop 2; simpa only [Option.map_some, add_zero_at, Nat.reduceMul] using h
  go_wp2_with fail
  refine (tall_any (some ⟨g3, 18, none⟩) (cap3 - 2) (exSlabs.drop 2) w6 hd2 (by decide) (show 1 ≤ cap3 - 2 by omega)).mono ?_
  rintro e w7 ⟨rfl, K7⟩
  rw [t2]
  go_wp2_with fail
  refine (tall_any none 0 [] w7 (Rd.nil _ _ _ _) (by simp) (by simp)).mono ?_
  rintro e w8 ⟨rfl, K8⟩
  rw [show tall [] = 0 from rfl]
  go_wp2
  go_ret
  exact ⟨rfl, (((KB.trans K5).trans K6).trans K7).trans K8⟩

end Go.Proofs.Ytgelccenbceeoaa
