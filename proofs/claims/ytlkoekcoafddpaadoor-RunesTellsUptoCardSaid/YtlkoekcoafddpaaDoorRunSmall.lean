/- Runes: Width, Blank, and the reference's, by contracts. -/
import Derived.Test.YtlkoekcoafddpaaDoorRunCheck
namespace Go.Proofs.YtlkoekcoafddpaaDoor
open Go.RowKit Go.Lib
set_option linter.unusedSimpArgs false
set_option linter.unusedVariables false

def widthX (r : Int) : Int := if r < 0 then 0 else if 1114111 < r then 0 else if 55296 ≤ r ∧ r ≤ 57343 then 0 else if r < 128 then 1 else if r < 2048 then 2 else if r < 65536 then 3 else 4
def blankX (r : Int) : Bool := r == 32 || r == 9 || r == 10 || r == 13
theorem width_bad {r : Int} (h : r < 0 ∨ 1114111 < r ∨ (55296 ≤ r ∧ r ≤ 57343)) : widthX r = 0 := by
  unfold widthX
  repeat' split
  all_goals first | rfl | omega
theorem width_good {r : Int} (h0 : 0 ≤ r) (h1 : r ≤ 1114111) (h2 : r < 55296 ∨ 57343 < r) : widthX r = runeLen r := by
  unfold widthX runeLen
  repeat' split
  all_goals first | rfl | omega

set_option maxRecDepth 100000 in
set_option maxHeartbeats 2000000 in
theorem width_any (r : Int) (w : World) : Calls Tryd.prog 19 #[.int .i64 r] w fun e w' => e = .returned (.int .i64 (widthX r)) ∧ w' = w := by
  by_cases hb : r < 0 ∨ 1114111 < r ∨ (55296 ≤ r ∧ r ≤ 57343)
  · rw [width_bad hb]
    go_enter Tryd.func19, Tryd.ntmps19
    go_wp2
    all_goals first | (go_ret; exact ⟨rfl, rfl⟩) | (exfalso; omega)
  · have h0 : 0 ≤ r := by omega
    have h1 : r ≤ 1114111 := by omega
    have h2 : r < 55296 ∨ 57343 < r := by omega
    rw [width_good h0 h1 h2]
    have hc := Tryd.utf8_RuneLen r w
    obtain ⟨v, hv⟩ : ∃ v, runeLen r = v := ⟨_, rfl⟩
    rw [hv] at hc ⊢
    clear hv hb
    rcases h2 with h2 | h2
    all_goals
      go_enter Tryd.func19, Tryd.ntmps19
      go_wp2_with fail
      refine hc.mono ?_
      rintro e w1 ⟨rfl, rfl⟩
      go_wp2
      go_ret
      exact ⟨rfl, rfl⟩
set_option maxRecDepth 100000 in
set_option maxHeartbeats 2000000 in
theorem rwidth_any (r : Int) (w : World) : Calls Tryd.prog 20 #[.int .i64 r] w fun e w' => e = .returned (.int .i64 (widthX r)) ∧ w' = w := by
  go_enter Tryd.func20, Tryd.ntmps20
  go_wp2
  all_goals (go_ret; refine ⟨?_, rfl⟩; unfold widthX; (repeat' split) <;> first | rfl | (exfalso; omega))
set_option maxRecDepth 100000 in
theorem blank_any (r : Int) (w : World) : Calls Tryd.prog 21 #[.int .i64 r] w fun e w' => e = .returned (.bool (blankX r)) ∧ w' = w := by
  go_enter Tryd.func21, Tryd.ntmps21
  go_wp2
  all_goals (go_ret; refine ⟨?_, rfl⟩; unfold blankX; simp_all)
set_option maxRecDepth 100000 in
theorem rblank_any (r : Int) (w : World) : Calls Tryd.prog 22 #[.int .i64 r] w fun e w' => e = .returned (.bool (blankX r)) ∧ w' = w := by
  go_enter Tryd.func22, Tryd.ntmps22
  go_wp2
  all_goals (go_ret; refine ⟨?_, rfl⟩; unfold blankX; simp_all)

end Go.Proofs.YtlkoekcoafddpaaDoor
