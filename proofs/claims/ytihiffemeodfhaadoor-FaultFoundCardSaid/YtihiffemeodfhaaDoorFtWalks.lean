/- Fault: FaultNumbers, FaultNames. -/
import Derived.Test.YtihiffemeodfhaaDoorFtShown
namespace Go.Proofs.YtihiffemeodfhaaDoor
open Go.RowKit Go.Extern.Stop Go.Stop Go.Extern
set_option linter.unusedSimpArgs false
set_option linter.unusedVariables false

set_option maxRecDepth 100000 in
theorem walkNumbers (S : Nat → Addr) (w : World) (C : Cls [2, 3] S w) (H : Hnd w) : Calls Tryd.prog 6 #[] w fun e w' => e = .returned (.bool true) ∧ Below w.heap.size w w' := by
  go_enter Tryd.func6, Tryd.ntmps6
  go_wp2_with fail
  refine (shown_any _ S _ C H (by simp) (by simp)).mono ?_
  rintro e w1 ⟨rfl, K1⟩
  go_wp2
  go_ret
  exact ⟨rfl, K1.below (Nat.le_refl _) (by simp)⟩
def six : List Nat := [1, 2, 3, 4, 5, 6]
theorem estr_any (a : Addr) (s : ByteArray) (w : World) (c0 : w.cell? a = some (.string s)) : Calls Tryd.prog 81 #[.pointer (some a)] w fun x w' => x = .returned (.string s) ∧ w' = w := by
  go_enter Tryd.func81, Tryd.ntmps81
  go_wp2
  go_ret
  exact ⟨rfl, rfl⟩
theorem classes_any (S : Nat → Addr) (w : World) (C : Cls six S w) : Calls Tryd.prog 8 #[] w fun x w' => x = .returned (.slice (some ⟨w.heap.size, 0, none⟩) 6 6) ∧ w' = w.alloc (.cells (six.map (clsV S)).toArray 27) := by
  have g1 := C.cell 1 (by simp [six])
  have g2 := C.cell 2 (by simp [six])
  have g3 := C.cell 3 (by simp [six])
  have g4 := C.cell 4 (by simp [six])
  have g5 := C.cell 5 (by simp [six])
  have g6 := C.cell 6 (by simp [six])
  simp only [glN] at g1 g2 g3 g4 g5 g6
  go_enter Tryd.func8, Tryd.ntmps8
  go_wp2
  go_ret
  exact ⟨rfl, rfl⟩

set_option maxRecDepth 100000 in
set_option maxHeartbeats 4000000 in
theorem walkNames (k : Int) (S : Nat → Addr) (w : World) (C : Cls six S w) (H : Hnd w) : Calls Tryd.prog 3 #[.int .i64 k] w fun e w' => e = .returned (.bool true) ∧ Below w.heap.size w w' := by
  have mE := mErrE
  go_enter Tryd.func3, Tryd.ntmps3
  go_wp2_with fail
  refine (shown_any _ S _ C H (by simp [six]) (by simp [six])).mono ?_
  rintro e w1 ⟨rfl, K1⟩
  go_wp2_with fail
  refine (classes_any S _ (C.keep K1)).mono ?_
  rintro e w2 ⟨rfl, rfl⟩
  have K2 := (K1.alloc (.cells (six.map (clsV S)).toArray 27)).alloc (.cells #[.string ⟨#[98, 117, 100, 103, 101, 116]⟩, .string ⟨#[116, 101, 120, 116]⟩, .string ⟨#[115, 121, 110, 116, 97, 120]⟩, .string ⟨#[102, 111, 110, 116]⟩, .string ⟨#[108, 105, 109, 105, 116]⟩, .string ⟨#[114, 97, 110, 103, 101]⟩] 9)
  have L2 := blk_alloc (blk_new w1 (.cells (six.map (clsV S)).toArray 27)) (.cells #[.string ⟨#[98, 117, 100, 103, 101, 116]⟩, .string ⟨#[116, 101, 120, 116]⟩, .string ⟨#[115, 121, 110, 116, 97, 120]⟩, .string ⟨#[102, 111, 110, 116]⟩, .string ⟨#[108, 105, 109, 105, 116]⟩, .string ⟨#[114, 97, 110, 103, 101]⟩] 9)
  have X2 := blk_new (w1.alloc (.cells (six.map (clsV S)).toArray 27)) (.cells #[.string ⟨#[98, 117, 100, 103, 101, 116]⟩, .string ⟨#[116, 101, 120, 116]⟩, .string ⟨#[115, 121, 110, 116, 97, 120]⟩, .string ⟨#[102, 111, 110, 116]⟩, .string ⟨#[108, 105, 109, 105, 116]⟩, .string ⟨#[114, 97, 110, 103, 101]⟩] 9)
  rw [size_alloc'] at X2
  have hx : ∀ i, i < 6 → #[.string ⟨#[98, 117, 100, 103, 101, 116]⟩, .string ⟨#[116, 101, 120, 116]⟩, .string ⟨#[115, 121, 110, 116, 97, 120]⟩, .string ⟨#[102, 111, 110, 116]⟩, .string ⟨#[108, 105, 109, 105, 116]⟩, .string ⟨#[114, 97, 110, 103, 101]⟩][i]? = some (Value.string (txtN (i + 1))) := fun i hi => by
    obtain rfl | rfl | rfl | rfl | rfl | rfl : i = 0 ∨ i = 1 ∨ i = 2 ∨ i = 3 ∨ i = 4 ∨ i = 5 := by omega
    all_goals rfl
  have hl : ∀ i, i < 6 → (six.map (clsV S)).toArray[i]? = some (Value.iface 84 (.pointer (some (S (i + 1))))) := fun i hi => by
    obtain rfl | rfl | rfl | rfl | rfl | rfl : i = 0 ∨ i = 1 ∨ i = 2 ∨ i = 3 ∨ i = 4 ∨ i = 5 := by omega
    all_goals rfl
  have HX := hid hx
  have HL := hid hl
  clear hx hl
  go_wp2_with fail
  generalize (w1.alloc (.cells (six.map (clsV S)).toArray 27)).alloc (.cells #[.string ⟨#[98, 117, 100, 103, 101, 116]⟩, .string ⟨#[116, 101, 120, 116]⟩, .string ⟨#[115, 121, 110, 116, 97, 120]⟩, .string ⟨#[102, 111, 110, 116]⟩, .string ⟨#[108, 105, 109, 105, 116]⟩, .string ⟨#[114, 97, 110, 103, 101]⟩] 9) = W0 at *
  go_loopw [5] (fun v5 wr => ∃ i : Nat, i ≤ 6 ∧ v5 = .int .i64 (i : Int) ∧ Keep [] W0 wr) (fun v5 _ => 6 - (RowKit.intOf v5).toNat)
  case atStart => exact ⟨0, Nat.zero_le _, rfl, Keep.refl _ _⟩
  case round =>
    obtain ⟨i, hi, rfl, K⟩ := hrel
    by_cases hlt : i < 6
    · have hlt2 : (i : Int) < 6 := by omega
      have hj : i + 1 ∈ six := by
        obtain rfl | rfl | rfl | rfl | rfl | rfl : i = 0 ∨ i = 1 ∨ i = 2 ∨ i = 3 ∨ i = 4 ∨ i = 5 := by omega
        all_goals simp [six]
      have c0 := (blk_cell (K.blk L2 (by simp)) i).trans (HL.out i hlt)
      have c1 := (blk_cell (K.blk X2 (by simp)) i).trans (HX.out i hlt)
      have he := estr_any (S (i + 1)) (txtN (i + 1)) 
      have ht := ((C.keep K2).keep K).txt (i + 1) hj
      generalize txtN (i + 1) = tx at *
      generalize S (i + 1) = sa at *
      go_upto_region 8 with (fail)
      go_quiet ((go_at_call 81; exact Calls.quiet_of_same (he _ ht)))
      go_wp2
      go_roundw
      case rel => exact ⟨i + 1, hlt, by go_num, K.drewN _⟩
      case measure => simp [RowKit.intOf]; omega
    · obtain rfl : i = 6 := by omega
      go_wp2_with fail
      refine (name_any k _).mono ?_
      rintro e w3 ⟨rfl, rfl⟩
      go_wp2_with fail
      refine (rname_any k _).mono ?_
      rintro e w4 ⟨rfl, rfl⟩
      go_wp2
      go_ret
      exact ⟨rfl, (K2.trans K).below (Nat.le_refl _) (by simp)⟩

end Go.Proofs.YtihiffemeodfhaaDoor
