/- Runes: where a text ends that others follow. -/
import Derived.Test.YtlkoekcoafddpaaDoorRunCut
import Derived.Test.YtlkoekcoafddpaaDoorRunJoinLaw
namespace Go.Proofs.YtlkoekcoafddpaaDoor
open Go.Lib
set_option linter.unusedSimpArgs false
set_option linter.unusedVariables false

theorem endOf_cons (s : ByteArray) (x y : Nat × Nat) (l : List (Nat × Nat)) : endOf s (x :: y :: l) = endOf s (y :: l) := by
  unfold endOf
  rw [List.getLast?_cons_cons]
theorem end_left (a b : ByteArray) : ∀ (f i : Nat), a.size - i ≤ f → i < a.size → badFrom a i = none → endOf (a ++ b) (runesFrom a i) = a.size := by
  intro f
  induction f with
  | zero => intro i hf hi; omega
  | succ f ih =>
    intro i hf hi ha
    cases ho : offAt a i with
    | some k => rw [(runes_bad hi ho).2] at ha; cases ha
    | none =>
      obtain ⟨g1, g2⟩ := runes_good hi ho
      obtain ⟨o1, o2, o3⟩ := off_left (b := b) hi ho
      have hw := at_wide hi ho
      rw [g2] at ha
      rw [g1]
      by_cases h : i + wideAt a i < a.size
      · have := ih (i + wideAt a i) (by omega) h ha
        cases ho2 : offAt a (i + wideAt a i) with
        | some k => rw [(runes_bad h ho2).2] at ha; cases ha
        | none =>
          rw [(runes_good h ho2).1] at this ⊢
          rw [endOf_cons]
          exact this
      · rw [(runes_end h).1]
        unfold endOf
        simp only [List.getLast?_singleton]
        rw [o3]
        omega
theorem cut_left (a b : ByteArray) (ha : badFrom a 0 = none) (hb : badFrom b 0 = none) : cutEnd (a ++ b) ((runesFrom a 0).length : Int) = a.size := by
  unfold cutEnd
  rw [(runes_join a b ha hb).1, Int.toNat_natCast, List.take_append_of_le_length (Nat.le_refl _), List.take_length]
  by_cases h : 0 < a.size
  · exact end_left a b a.size 0 (by omega) h ha
  · rw [(runes_end h).1]
    unfold endOf
    simp
    omega

end Go.Proofs.YtlkoekcoafddpaaDoor
