/- Runes: the reference's wide and stands, by contracts. -/
import Derived.Test.YtlkoekcoafddpaaDoorRunShown
namespace Go.Proofs.YtlkoekcoafddpaaDoor
open Go.RowKit Go.Lib
set_option linter.unusedSimpArgs false
set_option linter.unusedVariables false

set_option maxRecDepth 100000 in
set_option maxHeartbeats 2000000 in
theorem rwide_any (b : Nat) (w : World) : Calls Tryd.prog 24 #[.int .i64 (b : Int)] w fun e w' => e = .returned (.int .i64 (wideN b : Int)) ∧ w' = w := by
  go_enter Tryd.func24, Tryd.ntmps24
  go_wp2
  all_goals (go_ret; refine ⟨?_, rfl⟩; unfold wideN; (repeat' split) <;> first | rfl | (exfalso; omega))

set_option maxRecDepth 100000 in
set_option maxHeartbeats 4000000 in
theorem rstands_any (f n c : Nat) (w : World) : Calls Tryd.prog 25 #[.int .i64 (f : Int), .int .i64 (n : Int), .int .i64 (c : Int)] w fun e w' => e = .returned (.bool (decide (stN f n c))) ∧ w' = w := by
  obtain ⟨v, hv⟩ : ∃ v, decide (stN f n c) = v := ⟨_, rfl⟩
  have HV := hid hv
  rw [hv]
  clear hv
  by_cases h1 : n = 1
  · subst h1
    by_cases a1 : f = 224
    · subst a1
      go_enter Tryd.func25, Tryd.ntmps25
      go_wp2
      all_goals (go_ret; refine ⟨?_, rfl⟩; rw [← HV.out]; refine congrArg (fun x => Ending.returned (Value.bool x)) ?_; rw [Bool.eq_iff_iff]; simp [st_224] <;> omega)
    by_cases a2 : f = 237
    · subst a2
      go_enter Tryd.func25, Tryd.ntmps25
      go_wp2
      all_goals (go_ret; refine ⟨?_, rfl⟩; rw [← HV.out]; refine congrArg (fun x => Ending.returned (Value.bool x)) ?_; rw [Bool.eq_iff_iff]; simp [st_237] <;> omega)
    by_cases a3 : f = 240
    · subst a3
      go_enter Tryd.func25, Tryd.ntmps25
      go_wp2
      all_goals (go_ret; refine ⟨?_, rfl⟩; rw [← HV.out]; refine congrArg (fun x => Ending.returned (Value.bool x)) ?_; rw [Bool.eq_iff_iff]; simp [st_240] <;> omega)
    by_cases a4 : f = 244
    · subst a4
      go_enter Tryd.func25, Tryd.ntmps25
      go_wp2
      all_goals (go_ret; refine ⟨?_, rfl⟩; rw [← HV.out]; refine congrArg (fun x => Ending.returned (Value.bool x)) ?_; rw [Bool.eq_iff_iff]; simp [st_244] <;> omega)
    have b1 : ((f : Int) == 224) = false := by simp; omega
    have b2 : ((f : Int) == 237) = false := by simp; omega
    have b3 : ((f : Int) == 240) = false := by simp; omega
    have b4 : ((f : Int) == 244) = false := by simp; omega
    have HS := hid (st_else (f := f) (n := 1) (c := c) (.inr ⟨a1, a2, a3, a4⟩))
    clear a1 a2 a3 a4
    go_enter Tryd.func25, Tryd.ntmps25
    go_wp2
    all_goals (go_ret; refine ⟨?_, rfl⟩; rw [← HV.out]; refine congrArg (fun x => Ending.returned (Value.bool x)) ?_; rw [Bool.eq_iff_iff]; simp [HS.out] <;> omega)
  · have b1 : ((n : Int) == 1) = false := by simp; omega
    have HS := hid (st_else (f := f) (n := n) (c := c) (.inl h1))
    clear h1
    go_enter Tryd.func25, Tryd.ntmps25
    go_wp2
    all_goals (go_ret; refine ⟨?_, rfl⟩; rw [← HV.out]; refine congrArg (fun x => Ending.returned (Value.bool x)) ?_; rw [Bool.eq_iff_iff]; simp [HS.out] <;> omega)

end Go.Proofs.YtlkoekcoafddpaaDoor
