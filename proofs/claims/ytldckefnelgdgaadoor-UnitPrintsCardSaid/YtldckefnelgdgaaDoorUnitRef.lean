/- Layer 8: the reference's unit and Read, by contracts. -/
import Derived.Test.YtldckefnelgdgaaDoorUnitRead
import Derived.Test.YtldckefnelgdgaaDoorUnitNum
import Derived.OwnWalk
namespace Go.Proofs.YtldckefnelgdgaaDoor
open Go.RowKit
set_option linter.unusedSimpArgs false
set_option linter.unusedVariables false

def UnitPost (x : Option (Int × Int)) (w : World) (e : Ending) (w' : World) : Prop := w = w' ∧ match x with
  | none => e = .returned (.tuple #[.int .i64 0, .int .i64 0, .bool false])
  | some (num, den) => e = .returned (.tuple #[.int .i64 num, .int .i64 den, .bool true])

set_option maxHeartbeats 1600000 in
theorem runit_any (u : List UInt8) (size : Int) (w : World) : Calls Tryd.prog 21 #[.string (B u), .int .i64 size] w fun e w' => UnitPost (unitX u size) w e w' := by
  have hul := B_toList u
  have key : (u = [] ∧ unitX u size = some (65536, 1)) ∨ (u = [112, 116] ∧ unitX u size = some (65536, 1)) ∨ (u = [105, 110] ∧ unitX u size = some (4718592, 1)) ∨ (u = [109, 109] ∧ unitX u size = some (23592960, 127)) ∨ (u = [115, 112] ∧ unitX u size = some (1, 1)) ∨ (u = [101, 109] ∧ unitX u size = some (size, 1)) ∨ (u ≠ [] ∧ u ≠ [112, 116] ∧ u ≠ [105, 110] ∧ u ≠ [109, 109] ∧ u ≠ [115, 112] ∧ u ≠ [101, 109] ∧ unitX u size = none) := by
    unfold unitX unit0
    by_cases h0 : u = []
    · exact .inl ⟨h0, by subst h0; rfl⟩
    by_cases h1 : u = [112, 116]
    · exact .inr (.inl ⟨h1, by subst h1; rfl⟩)
    by_cases h2 : u = [105, 110]
    · exact .inr (.inr (.inl ⟨h2, by subst h2; rfl⟩))
    by_cases h3 : u = [109, 109]
    · exact .inr (.inr (.inr (.inl ⟨h3, by subst h3; rfl⟩)))
    by_cases h4 : u = [115, 112]
    · exact .inr (.inr (.inr (.inr (.inl ⟨h4, by subst h4; rfl⟩))))
    by_cases h5 : u = [101, 109]
    · exact .inr (.inr (.inr (.inr (.inr (.inl ⟨h5, by subst h5; rfl⟩)))))
    · exact .inr (.inr (.inr (.inr (.inr (.inr ⟨h0, h1, h2, h3, h4, h5, by rw [if_neg h5, if_neg h0, if_neg h1, if_neg h2, if_neg h3, if_neg h4, if_neg h5]⟩)))))
  rcases key with ⟨h, hX⟩ | ⟨h, hX⟩ | ⟨h, hX⟩ | ⟨h, hX⟩ | ⟨h, hX⟩ | ⟨h, hX⟩ | ⟨h0, h1, h2, h3, h4, h5, hX⟩
  rotate_right 1
  · have HX := hid hX
    have b0 : u.isEmpty = false := by cases u with
      | nil => exact absurd rfl h0
      | cons => rfl
    have b1 : (u == [112, 116]) = false := by rw [beq_eq_false_iff_ne]; exact h1
    have b2 : (u == [105, 110]) = false := by rw [beq_eq_false_iff_ne]; exact h2
    have b3 : (u == [109, 109]) = false := by rw [beq_eq_false_iff_ne]; exact h3
    have b4 : (u == [115, 112]) = false := by rw [beq_eq_false_iff_ne]; exact h4
    have b5 : (u == [101, 109]) = false := by rw [beq_eq_false_iff_ne]; exact h5
    have b6 : (u == []) = false := by rw [beq_eq_false_iff_ne]; exact h0
    clear hX h0 h1 h2 h3 h4 h5
    go_enter Tryd.func21, Tryd.ntmps21
    go_wp2
    refine bodyPost_ret (v := .tuple #[.int .i64 0, .int .i64 0, .bool false]) (by simp [results, Tryd.results21, go_sem]) rfl ⟨rfl, ?_⟩
    rw [HX.out]
  all_goals
    subst h
    have HX := hid hX
    clear hX
    go_enter Tryd.func21, Tryd.ntmps21
    go_wp2
    go_ret3
    exact ⟨rfl, by rw [HX.out]; rfl⟩

end Go.Proofs.YtldckefnelgdgaaDoor
