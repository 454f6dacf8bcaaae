/- Fault: the names of kinds, by contracts. -/
import Derived.Test.YtihiffemeodfhaaDoorFtIs
namespace Go.Proofs.YtihiffemeodfhaaDoor
open Go.RowKit
set_option linter.unusedSimpArgs false
set_option linter.unusedVariables false

/-- A kind's name. -/
def nameX (k : Int) : ByteArray := if k = 0 then ⟨#[111, 107]⟩ else if k = 20 then ⟨#[115, 116, 101, 112, 115]⟩ else if k = 21 then ⟨#[99, 101, 108, 108, 115]⟩ else if k = 40 then ⟨#[98, 121, 116, 101]⟩ else if k = 60 then ⟨#[102, 111, 114, 109]⟩ else if k = 61 then ⟨#[115, 117, 109]⟩ else if k = 70 then ⟨#[109, 97, 114, 107, 117, 112]⟩ else if k = 71 then ⟨#[101, 110, 116, 105, 116, 121]⟩ else if k = 72 then ⟨#[108, 111, 110, 103]⟩ else if k = 80 then ⟨#[108, 101, 110, 103, 116, 104]⟩ else if k = 81 then ⟨#[114, 97, 110, 103, 101]⟩ else if k = 100 then ⟨#[116, 97, 103]⟩ else if k = 101 then ⟨#[99, 108, 111, 115, 101]⟩ else if k = 102 then ⟨#[116, 119, 105, 99, 101]⟩ else if k = 103 then ⟨#[100, 101, 101, 112]⟩ else if k = 104 then ⟨#[110, 111, 100, 101, 115]⟩ else if k = 105 then ⟨#[101, 110, 100]⟩ else if k = 110 then ⟨#[102, 111, 110, 116]⟩ else if k = 111 then ⟨#[110, 111, 110, 101]⟩ else if k = 120 then ⟨#[103, 108, 121, 112, 104]⟩ else if k = 130 then ⟨#[105, 116, 101, 109, 115]⟩ else if k = 150 then ⟨#[98, 114, 101, 97, 107, 115]⟩ else ⟨#[]⟩
theorem name_cases (k : Int) : (nameX k = ⟨#[]⟩ ∧ k ≠ 0 ∧ k ≠ 20 ∧ k ≠ 21 ∧ k ≠ 40 ∧ k ≠ 60 ∧ k ≠ 61 ∧ k ≠ 70 ∧ k ≠ 71 ∧ k ≠ 72 ∧ k ≠ 80 ∧ k ≠ 81 ∧ k ≠ 100 ∧ k ≠ 101 ∧ k ≠ 102 ∧ k ≠ 103 ∧ k ≠ 104 ∧ k ≠ 105 ∧ k ≠ 110 ∧ k ≠ 111 ∧ k ≠ 120 ∧ k ≠ 130 ∧ k ≠ 150) ∨ (k = 0 ∨ k = 20 ∨ k = 21 ∨ k = 40 ∨ k = 60 ∨ k = 61 ∨ k = 70 ∨ k = 71 ∨ k = 72 ∨ k = 80 ∨ k = 81 ∨ k = 100 ∨ k = 101 ∨ k = 102 ∨ k = 103 ∨ k = 104 ∨ k = 105 ∨ k = 110 ∨ k = 111 ∨ k = 120 ∨ k = 130 ∨ k = 150) := by
  by_cases h : k = 0 ∨ k = 20 ∨ k = 21 ∨ k = 40 ∨ k = 60 ∨ k = 61 ∨ k = 70 ∨ k = 71 ∨ k = 72 ∨ k = 80 ∨ k = 81 ∨ k = 100 ∨ k = 101 ∨ k = 102 ∨ k = 103 ∨ k = 104 ∨ k = 105 ∨ k = 110 ∨ k = 111 ∨ k = 120 ∨ k = 130 ∨ k = 150
  · exact .inr h
  · refine .inl ⟨?_, by omega⟩
    unfold nameX
    rw [if_neg (by omega), if_neg (by omega), if_neg (by omega), if_neg (by omega), if_neg (by omega), if_neg (by omega), if_neg (by omega), if_neg (by omega), if_neg (by omega), if_neg (by omega), if_neg (by omega), if_neg (by omega), if_neg (by omega), if_neg (by omega), if_neg (by omega), if_neg (by omega), if_neg (by omega), if_neg (by omega), if_neg (by omega), if_neg (by omega), if_neg (by omega), if_neg (by omega)]
set_option maxRecDepth 100000 in
set_option maxHeartbeats 4000000 in
theorem names_any (k : Int) (w : World) : Calls Tryd.prog 16 #[.int .i64 k] w fun e w' => e = .returned (.string (nameX k)) ∧ w' = w := by
  rcases name_cases k with ⟨h0, h⟩ | h
  · rw [h0]
    have e0 := eqf h.1
    have e1 := eqf h.2.1
    have e2 := eqf h.2.2.1
    have e3 := eqf h.2.2.2.1
    have e4 := eqf h.2.2.2.2.1
    have e5 := eqf h.2.2.2.2.2.1
    have e6 := eqf h.2.2.2.2.2.2.1
    have e7 := eqf h.2.2.2.2.2.2.2.1
    have e8 := eqf h.2.2.2.2.2.2.2.2.1
    have e9 := eqf h.2.2.2.2.2.2.2.2.2.1
    have e10 := eqf h.2.2.2.2.2.2.2.2.2.2.1
    have e11 := eqf h.2.2.2.2.2.2.2.2.2.2.2.1
    have e12 := eqf h.2.2.2.2.2.2.2.2.2.2.2.2.1
    have e13 := eqf h.2.2.2.2.2.2.2.2.2.2.2.2.2.1
    have e14 := eqf h.2.2.2.2.2.2.2.2.2.2.2.2.2.2.1
    have e15 := eqf h.2.2.2.2.2.2.2.2.2.2.2.2.2.2.2.1
    have e16 := eqf h.2.2.2.2.2.2.2.2.2.2.2.2.2.2.2.2.1
    have e17 := eqf h.2.2.2.2.2.2.2.2.2.2.2.2.2.2.2.2.2.1
    have e18 := eqf h.2.2.2.2.2.2.2.2.2.2.2.2.2.2.2.2.2.2.1
    have e19 := eqf h.2.2.2.2.2.2.2.2.2.2.2.2.2.2.2.2.2.2.2.1
    have e20 := eqf h.2.2.2.2.2.2.2.2.2.2.2.2.2.2.2.2.2.2.2.2.1
    have e21 := eqf h.2.2.2.2.2.2.2.2.2.2.2.2.2.2.2.2.2.2.2.2.2
    clear h h0
    go_enter Tryd.func16, Tryd.ntmps16
    go_wp2
    go_ret
    exact ⟨rfl, rfl⟩
  · rcases h with rfl | rfl | rfl | rfl | rfl | rfl | rfl | rfl | rfl | rfl | rfl | rfl | rfl | rfl | rfl | rfl | rfl | rfl | rfl | rfl | rfl | rfl
    all_goals
      go_enter Tryd.func16, Tryd.ntmps16
      go_wp2
      go_ret
      exact ⟨rfl, rfl⟩
set_option maxRecDepth 100000 in
set_option maxHeartbeats 4000000 in
theorem rname_any (k : Int) (w : World) : Calls Tryd.prog 10 #[.int .i64 k] w fun e w' => e = .returned (.string (nameX k)) ∧ w' = w := by
  rcases name_cases k with ⟨h0, h⟩ | h
  · rw [h0]
    have e0 := eqf h.1
    have e1 := eqf h.2.1
    have e2 := eqf h.2.2.1
    have e3 := eqf h.2.2.2.1
    have e4 := eqf h.2.2.2.2.1
    have e5 := eqf h.2.2.2.2.2.1
    have e6 := eqf h.2.2.2.2.2.2.1
    have e7 := eqf h.2.2.2.2.2.2.2.1
    have e8 := eqf h.2.2.2.2.2.2.2.2.1
    have e9 := eqf h.2.2.2.2.2.2.2.2.2.1
    have e10 := eqf h.2.2.2.2.2.2.2.2.2.2.1
    have e11 := eqf h.2.2.2.2.2.2.2.2.2.2.2.1
    have e12 := eqf h.2.2.2.2.2.2.2.2.2.2.2.2.1
    have e13 := eqf h.2.2.2.2.2.2.2.2.2.2.2.2.2.1
    have e14 := eqf h.2.2.2.2.2.2.2.2.2.2.2.2.2.2.1
    have e15 := eqf h.2.2.2.2.2.2.2.2.2.2.2.2.2.2.2.1
    have e16 := eqf h.2.2.2.2.2.2.2.2.2.2.2.2.2.2.2.2.1
    have e17 := eqf h.2.2.2.2.2.2.2.2.2.2.2.2.2.2.2.2.2.1
    have e18 := eqf h.2.2.2.2.2.2.2.2.2.2.2.2.2.2.2.2.2.2.1
    have e19 := eqf h.2.2.2.2.2.2.2.2.2.2.2.2.2.2.2.2.2.2.2.1
    have e20 := eqf h.2.2.2.2.2.2.2.2.2.2.2.2.2.2.2.2.2.2.2.2.1
    have e21 := eqf h.2.2.2.2.2.2.2.2.2.2.2.2.2.2.2.2.2.2.2.2.2
    clear h h0
    go_enter Tryd.func10, Tryd.ntmps10
    go_wp2
    go_ret
    exact ⟨rfl, rfl⟩
  · rcases h with rfl | rfl | rfl | rfl | rfl | rfl | rfl | rfl | rfl | rfl | rfl | rfl | rfl | rfl | rfl | rfl | rfl | rfl | rfl | rfl | rfl | rfl
    all_goals
      go_enter Tryd.func10, Tryd.ntmps10
      go_wp2
      go_ret
      exact ⟨rfl, rfl⟩
theorem name_any (k : Int) (w : World) : Calls Tryd.prog 9 #[.int .i64 k] w fun e w' => e = .returned (.string (nameX k)) ∧ w' = w := by
  have hc := names_any k w
  obtain ⟨s, hs⟩ : ∃ s, nameX k = s := ⟨_, rfl⟩
  rw [hs] at hc ⊢
  clear hs
  go_enter Tryd.func9, Tryd.ntmps9
  go_wp2_with fail
  refine hc.mono ?_
  rintro e w1 ⟨rfl, rfl⟩
  go_wp2
  go_ret
  exact ⟨rfl, rfl⟩

end Go.Proofs.YtihiffemeodfhaaDoor
