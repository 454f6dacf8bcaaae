/- The walk of MeterTight. -/
import Derived.Test.YtgelccenbceeoaaWalkTightA
namespace Go.Proofs.Ytgelccenbceeoaa
open Go.RowKit
set_option linter.unusedSimpArgs false
set_option linter.unusedVariables false

structure TightRel (mm : MS) (k : Int) (g gb : Nat) (w wr : World) : Prop where
  isM : IsM wr g mm
  blk : wr.heap[gb]? = some (.cells #[.int .i64 mm.sn, .int .i64 mm.cp, .int .i64 (mm.sn + k), .int .i64 mm.cp, .int .i64 mm.sn, .int .i64 (mm.cp + k)] 35 (0, 0))
  keep : Keep [] w wr

set_option maxHeartbeats 6400000 in
set_option maxRecDepth 100000 in
theorem walkTight (A : Option Addr) (cap : Nat) (xs : List Act) (more less : Int) (w : World) (hr : Rd Act.row 3 w A xs) (hl : xs.length ≤ 1048576) :
    Calls Try.prog 4 #[.slice A xs.length cap, .int .i64 more, .int .i64 less] w fun e w' => e = .returned (.bool true) ∧ Below w.heap.size w w' := by
  obtain ⟨mm, E0, q1, q2, q3, q4, QA, QB, QC⟩ := tight xs hl
  have HE0 := hid E0
  have HA := hid QA
  have HB := hid QB
  have HC := hid QC
  clear E0 QA QB QC
  go_enter Try.func4, Try.ntmps4
  go_wp2_with fail
  refine (shown02 _).mono ?_
  rintro e w1 ⟨rfl, K1⟩
  go_wp2_with fail
  refine (under_good 4611686018427387904 4611686018427387904 A cap xs _ (by omega) (by omega) (by omega) (by omega) (hr.old K1 (by simp)) (by omega)).mono ?_
  rintro e w2 ⟨g, rfl, hg, hM2, hK2⟩
  rw [HE0.out] at hM2 ⊢
  simp only at hM2
  have K2 : Keep [] w w2 := K1.trans hK2
  have hgw : w.heap.size ≤ g := Nat.le_trans K1.size hg
  clear K1 hK2 hg
  go_wp2_with fail
  refine (steps_any g mm _ hM2).mono ?_
  rintro e w' ⟨rfl, rfl⟩
  go_wp2_with fail
  refine (peak_any g mm _ hM2).mono ?_
  rintro e w' ⟨rfl, rfl⟩
  go_wp2_with fail
  refine (among_any more 1099511627776 _ (by omega) (by omega)).mono ?_
  rintro e w' ⟨rfl, rfl⟩
  have hk1 := Int.emod_nonneg more (show (1099511627776 : Int) ≠ 0 by omega)
  have hk2 := Int.emod_lt_of_pos more (show (0 : Int) < 1099511627776 by omega)
  generalize more % 1099511627776 = k at *
  go_wp2_with fail
  have R0 : TightRel mm k g w2.heap.size w (w2.alloc (.cells #[.int .i64 mm.sn, .int .i64 mm.cp, .int .i64 (mm.sn + k), .int .i64 mm.cp, .int .i64 mm.sn, .int .i64 (mm.cp + k)] 35)) := ⟨blk_alloc hM2 _, blk_new _ _, K2.alloc _⟩
  have hgb : w.heap.size ≤ w2.heap.size := K2.size
  generalize w2.heap.size = gb at *
  clear hM2 K2
  go_loopw [58] (fun v wr => ∃ j : Nat, j ≤ 3 ∧ v = .int .i64 j ∧ TightRel mm k g gb w wr) (fun v _ => 3 - (intOf v).toNat)
  case atStart => exact ⟨0, by omega, rfl, R0⟩
  case round =>
    obtain ⟨j, hj, rfl, R⟩ := hrel
    clear R0
    by_cases hlt : j < 3
    · have c0 := blk_cell R.blk 0
      have c1 := blk_cell R.blk 1
      have c2 := blk_cell R.blk 2
      have c3 := blk_cell R.blk 3
      have c4 := blk_cell R.blk 4
      have c5 := blk_cell R.blk 5
      have hgl := blk_lt R.isM
      have hbl := blk_lt R.blk
      simp only [List.getElem?_toArray, List.getElem?_cons_zero, List.getElem?_cons_succ] at c0 c1 c2 c3 c4 c5
      rcases (show j = 0 ∨ j = 1 ∨ j = 2 by omega) with rfl | rfl | rfl
      · obtain ⟨mx, e1, e2, e3, e4, e5⟩ := HA.out 0 0 (by omega) (by omega) (by omega) (by omega)
        simp only [Int.add_zero] at e1
        have E1 := hid e1
        have t2 : (mx.sn != mm.sn) = false := by simp [e2]
        have t3 : (mx.cp != mm.cp) = false := by simp [e3]
        have t4 : (mx.cn != mm.cn) = false := by simp [e4]
        have t5 : (mx.rf != 0) = false := by simp [e5]
        clear e1 e2 e3 e4 e5
        go_wp2_with fail
        refine (under_good (mm.sn) (mm.cp) A cap xs _ (by omega) (by omega) (by omega) (by omega) (hr.old (R.keep.alloc _) (by simp)) (by omega)).mono ?_
        rintro e w3 ⟨gx, rfl, hgx, hMx, hKx⟩
        rw [E1.out] at hMx ⊢
        simp only at hMx
        have R2 : TightRel mm k g gb w w3 := ⟨(show IsM _ g mm from blk_alloc R.isM _).keep hKx (by simp), hKx.blk (blk_alloc R.blk _) (by simp), (R.keep.alloc _).trans hKx⟩
        clear R E1 hKx c0 c1 c2 c3 c4 c5 hgl hbl
        go_wp2_with fail
        refine (steps_any gx mx _ hMx).mono ?_
        rintro e w' ⟨rfl, rfl⟩
        go_wp2_with fail
        refine (peak_any gx mx _ hMx).mono ?_
        rintro e w' ⟨rfl, rfl⟩
        go_wp2_with fail
        refine (held_any gx mx _ hMx).mono ?_
        rintro e w' ⟨rfl, rfl⟩
        go_wp2_with fail
        refine (held_any g mm _ R2.isM).mono ?_
        rintro e w' ⟨rfl, rfl⟩
        go_wp2_with fail
        refine (refused_any gx mx _ hMx).mono ?_
        rintro e w' ⟨rfl, rfl⟩
        go_wp2
        go_roundw
        case rel => exact ⟨1, by omega, by first | rfl | go_num, R2⟩
        case measure => simp [intOf]
      · obtain ⟨mx, e1, e2, e3, e4, e5⟩ := HA.out k 0 (by omega) (by omega) (by omega) (by omega)
        simp only [Int.add_zero] at e1
        have E1 := hid e1
        have t2 : (mx.sn != mm.sn) = false := by simp [e2]
        have t3 : (mx.cp != mm.cp) = false := by simp [e3]
        have t4 : (mx.cn != mm.cn) = false := by simp [e4]
        have t5 : (mx.rf != 0) = false := by simp [e5]
        clear e1 e2 e3 e4 e5
        go_wp2_with fail
        refine (under_good (mm.sn + k) (mm.cp) A cap xs _ (by omega) (by omega) (by omega) (by omega) (hr.old (R.keep.alloc _) (by simp)) (by omega)).mono ?_
        rintro e w3 ⟨gx, rfl, hgx, hMx, hKx⟩
        rw [E1.out] at hMx ⊢
        simp only at hMx
        have R2 : TightRel mm k g gb w w3 := ⟨(show IsM _ g mm from blk_alloc R.isM _).keep hKx (by simp), hKx.blk (blk_alloc R.blk _) (by simp), (R.keep.alloc _).trans hKx⟩
        clear R E1 hKx c0 c1 c2 c3 c4 c5 hgl hbl
        go_wp2_with fail
        refine (steps_any gx mx _ hMx).mono ?_
        rintro e w' ⟨rfl, rfl⟩
        go_wp2_with fail
        refine (peak_any gx mx _ hMx).mono ?_
        rintro e w' ⟨rfl, rfl⟩
        go_wp2_with fail
        refine (held_any gx mx _ hMx).mono ?_
        rintro e w' ⟨rfl, rfl⟩
        go_wp2_with fail
        refine (held_any g mm _ R2.isM).mono ?_
        rintro e w' ⟨rfl, rfl⟩
        go_wp2_with fail
        refine (refused_any gx mx _ hMx).mono ?_
        rintro e w' ⟨rfl, rfl⟩
        go_wp2
        go_roundw
        case rel => exact ⟨2, by omega, by first | rfl | go_num, R2⟩
        case measure => simp [intOf]
      · obtain ⟨mx, e1, e2, e3, e4, e5⟩ := HA.out 0 k (by omega) (by omega) (by omega) (by omega)
        simp only [Int.add_zero] at e1
        have E1 := hid e1
        have t2 : (mx.sn != mm.sn) = false := by simp [e2]
        have t3 : (mx.cp != mm.cp) = false := by simp [e3]
        have t4 : (mx.cn != mm.cn) = false := by simp [e4]
        have t5 : (mx.rf != 0) = false := by simp [e5]
        clear e1 e2 e3 e4 e5
        go_wp2_with fail
        refine (under_good (mm.sn) (mm.cp + k) A cap xs _ (by omega) (by omega) (by omega) (by omega) (hr.old (R.keep.alloc _) (by simp)) (by omega)).mono ?_
        rintro e w3 ⟨gx, rfl, hgx, hMx, hKx⟩
        rw [E1.out] at hMx ⊢
        simp only at hMx
        have R2 : TightRel mm k g gb w w3 := ⟨(show IsM _ g mm from blk_alloc R.isM _).keep hKx (by simp), hKx.blk (blk_alloc R.blk _) (by simp), (R.keep.alloc _).trans hKx⟩
        clear R E1 hKx c0 c1 c2 c3 c4 c5 hgl hbl
        go_wp2_with fail
        refine (steps_any gx mx _ hMx).mono ?_
        rintro e w' ⟨rfl, rfl⟩
        go_wp2_with fail
        refine (peak_any gx mx _ hMx).mono ?_
        rintro e w' ⟨rfl, rfl⟩
        go_wp2_with fail
        refine (held_any gx mx _ hMx).mono ?_
        rintro e w' ⟨rfl, rfl⟩
        go_wp2_with fail
        refine (held_any g mm _ R2.isM).mono ?_
        rintro e w' ⟨rfl, rfl⟩
        go_wp2_with fail
        refine (refused_any gx mx _ hMx).mono ?_
        rintro e w' ⟨rfl, rfl⟩
        go_wp2
        go_roundw
        case rel => exact ⟨3, by omega, by first | rfl | go_num, R2⟩
        case measure => simp [intOf]
    · have K3 := R.keep
      clear R
      by_cases hs : 0 < mm.sn
      · have r1 := Int.emod_nonneg less (show mm.sn ≠ 0 by omega)
        have r2 := Int.emod_lt_of_pos less hs
        go_wp2_with fail
        refine (among_any less mm.sn _ hs (by omega)).mono ?_
        rintro e w' ⟨rfl, rfl⟩
        obtain ⟨n, mx, e1, e2, e3, e4, e5⟩ := HB.out (mm.sn - 1 - less % mm.sn) (mm.cp + k) (by omega) (by omega) (by omega) (by omega)
        generalize less % mm.sn = q at *
        have E1 := hid e1
        have t2 : (mx.rf != 20) = false := by simp [e3]
        have t3 : (mx.sn != mm.sn - 1 - q) = false := by simp [e4]
        have t5 : (n : Int) < (xs.length : Int) := by omega
        clear e1 e2 e3 e4
        go_wp2_with fail
        refine (under_good (mm.sn - 1 - q) (mm.cp + k) A cap xs _ (by omega) (by omega) (by omega) (by omega) (hr.old K3 (by simp)) (by omega)).mono ?_
        rintro e w4 ⟨gx, rfl, hgx, hMx, hKx⟩
        rw [E1.out] at hMx ⊢
        simp only at hMx
        have K4 : Keep [] w w4 := K3.trans hKx
        clear E1 hKx
        go_wp2_with fail
        refine (refused_any gx mx _ hMx).mono ?_
        rintro e w' ⟨rfl, rfl⟩
        go_wp2_with fail
        refine (steps_any gx mx _ hMx).mono ?_
        rintro e w' ⟨rfl, rfl⟩
        go_wp2_with fail
        refine (peak_any gx mx _ hMx).mono ?_
        rintro e w' ⟨rfl, rfl⟩
        by_cases hp : 0 < mm.cp
        · have r1 := Int.emod_nonneg less (show mm.cp ≠ 0 by omega)
          have r2 := Int.emod_lt_of_pos less hp
          go_wp2_with fail
          refine (among_any less mm.cp _ hp (by omega)).mono ?_
          rintro e w' ⟨rfl, rfl⟩
          generalize less % mm.cp = q at *
          obtain ⟨n, mx, e1, e2, e3, e4, e5, e6⟩ := HC.out (mm.sn + k) (mm.cp - 1 - q) (by omega) (by omega) (by omega) (by omega)
          have E1 := hid e1
          have t2 : (mx.rf != 21) = false := by simp [e3]
          have t3 : (mx.cp != mm.cp - 1 - q) = false := by simp [e4]
          have t4 : (mx.cn != mm.cp - 1 - q) = false := by simp [e5]
          have t5 : (n : Int) < (xs.length : Int) := by omega
          clear e1 e2 e3 e4 e5
          go_wp2_with fail
          refine (under_good (mm.sn + k) (mm.cp - 1 - q) A cap xs _ (by omega) (by omega) (by omega) (by omega) (hr.old K4 (by simp)) (by omega)).mono ?_
          rintro e w5 ⟨gx, rfl, hgx, hMx, hKx⟩
          rw [E1.out] at hMx ⊢
          simp only at hMx
          have K5 : Keep [] w w5 := K4.trans hKx
          clear E1 hKx
          go_wp2_with fail
          refine (refused_any gx mx _ hMx).mono ?_
          rintro e w' ⟨rfl, rfl⟩
          go_wp2_with fail
          refine (peak_any gx mx _ hMx).mono ?_
          rintro e w' ⟨rfl, rfl⟩
          go_wp2_with fail
          refine (held_any gx mx _ hMx).mono ?_
          rintro e w' ⟨rfl, rfl⟩
          go_wp2_with fail
          refine (steps_any gx mx _ hMx).mono ?_
          rintro e w' ⟨rfl, rfl⟩
          go_wp2
          go_ret
          exact ⟨rfl, K5.below (Nat.le_refl _) (by simp)⟩
        · go_wp2
          go_ret
          exact ⟨rfl, K4.below (Nat.le_refl _) (by simp)⟩
      · 
        by_cases hp : 0 < mm.cp
        · have r1 := Int.emod_nonneg less (show mm.cp ≠ 0 by omega)
          have r2 := Int.emod_lt_of_pos less hp
          go_wp2_with fail
          refine (among_any less mm.cp _ hp (by omega)).mono ?_
          rintro e w' ⟨rfl, rfl⟩
          generalize less % mm.cp = q at *
          obtain ⟨n, mx, e1, e2, e3, e4, e5, e6⟩ := HC.out (mm.sn + k) (mm.cp - 1 - q) (by omega) (by omega) (by omega) (by omega)
          have E1 := hid e1
          have t2 : (mx.rf != 21) = false := by simp [e3]
          have t3 : (mx.cp != mm.cp - 1 - q) = false := by simp [e4]
          have t4 : (mx.cn != mm.cp - 1 - q) = false := by simp [e5]
          have t5 : (n : Int) < (xs.length : Int) := by omega
          clear e1 e2 e3 e4 e5
          go_wp2_with fail
          refine (under_good (mm.sn + k) (mm.cp - 1 - q) A cap xs _ (by omega) (by omega) (by omega) (by omega) (hr.old K3 (by simp)) (by omega)).mono ?_
          rintro e w5 ⟨gx, rfl, hgx, hMx, hKx⟩
          rw [E1.out] at hMx ⊢
          simp only at hMx
          have K5 : Keep [] w w5 := K3.trans hKx
          clear E1 hKx
          go_wp2_with fail
          refine (refused_any gx mx _ hMx).mono ?_
          rintro e w' ⟨rfl, rfl⟩
          go_wp2_with fail
          refine (peak_any gx mx _ hMx).mono ?_
          rintro e w' ⟨rfl, rfl⟩
          go_wp2_with fail
          refine (held_any gx mx _ hMx).mono ?_
          rintro e w' ⟨rfl, rfl⟩
          go_wp2_with fail
          refine (steps_any gx mx _ hMx).mono ?_
          rintro e w' ⟨rfl, rfl⟩
          go_wp2
          go_ret
          exact ⟨rfl, K5.below (Nat.le_refl _) (by simp)⟩
        · go_wp2
          go_ret
          exact ⟨rfl, K3.below (Nat.le_refl _) (by simp)⟩

end Go.Proofs.Ytgelccenbceeoaa
