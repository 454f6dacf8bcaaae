/- Runes: two texts, one behind the other: the plain law. -/
import Derived.Test.YtlkoekcoafddpaaDoorRunLaw
namespace Go.Proofs.YtlkoekcoafddpaaDoor
open Go.Lib
set_option linter.unusedSimpArgs false
set_option linter.unusedVariables false

theorem none_mk {s : ByteArray} {i : Nat} (h1 : 1 ≤ wideAt s i) (h : ∀ m, 1 ≤ m → m < wideAt s i → Stands s i m) : offAt s i = none := by
  cases e : offAt s i with
  | none => rfl
  | some k =>
    rcases at_some e with ⟨h0, _⟩ | ⟨k1, k2, _, k4⟩
    · omega
    · exact absurd (h k k1 k2) k4
theorem B_left {a b : ByteArray} {i : Nat} (h : i < a.size) : B (a ++ b) i = B a i := by
  unfold B
  rw [get_in _ _ h, get_in _ _ (by rw [ByteArray.size_append]; omega)]
  rw [ByteArray.getElem_append_left h]
theorem B_right {a b : ByteArray} {i : Nat} (h : i < b.size) : B (a ++ b) (a.size + i) = B b i := by
  unfold B
  rw [get_in _ _ h, get_in _ _ (by rw [ByteArray.size_append]; omega)]
  rw [ByteArray.getElem_append_right (by omega)]
  simp
theorem rune_of {s t : ByteArray} {i j : Nat} (h0 : B s i = B t j) (h : ∀ m, 1 ≤ m → m < wideAt s i → B s (i + m) = B t (j + m)) (hn : offAt s i = none) : runeAt s i = runeAt t j := by
  have hw := at_none hn
  unfold runeAt runeN
  rw [← h0]
  unfold wideAt at h hw
  by_cases c1 : B s i < 128
  · rw [if_pos c1, if_pos c1]
  by_cases c0 : B s i < 194
  · rw [wide0 (.inl ⟨by omega, c0⟩)] at hw; omega
  by_cases c2 : B s i ≤ 223
  · rw [if_neg c1, if_neg c1, if_pos c2, if_pos c2, h 1 (by omega) (by rw [wide2 ⟨by omega, c2⟩]; omega)]
  by_cases c3 : B s i ≤ 239
  · rw [if_neg c1, if_neg c1, if_neg c2, if_neg c2, if_pos c3, if_pos c3]
    have e := wide3 (b := B s i) ⟨by omega, c3⟩
    rw [h 1 (by omega) (by omega), h 2 (by omega) (by omega)]
  by_cases c4 : B s i ≤ 244
  · rw [if_neg c1, if_neg c1, if_neg c2, if_neg c2, if_neg c3, if_neg c3]
    have e := wide4 (b := B s i) ⟨by omega, c4⟩
    rw [h 1 (by omega) (by omega), h 2 (by omega) (by omega), h 3 (by omega) (by omega)]
  · rw [wide0 (.inr (by omega))] at hw; omega
theorem off_left {a b : ByteArray} {i : Nat} (hi : i < a.size) (h : offAt a i = none) : offAt (a ++ b) i = none ∧ runeAt (a ++ b) i = runeAt a i ∧ wideAt (a ++ b) i = wideAt a i := by
  have hw := at_none h
  have e0 : wideAt (a ++ b) i = wideAt a i := by unfold wideAt; rw [B_left hi]
  refine ⟨none_mk (by omega) (fun m m1 m2 => ?_), ?_, e0⟩
  · have hs := hw.2.2 m m1 (by omega)
    refine ⟨by rw [ByteArray.size_append]; have := hs.1; omega, ?_⟩
    rw [B_left hi, B_left hs.1]
    exact hs.2
  · exact (rune_of (B_left hi).symm (fun m m1 m2 => (B_left (hw.2.2 m m1 m2).1).symm) h).symm
theorem off_right {a b : ByteArray} {i : Nat} (hi : i < b.size) (h : offAt b i = none) : offAt (a ++ b) (a.size + i) = none ∧ runeAt (a ++ b) (a.size + i) = runeAt b i ∧ wideAt (a ++ b) (a.size + i) = wideAt b i := by
  have hw := at_none h
  have e0 : wideAt (a ++ b) (a.size + i) = wideAt b i := by unfold wideAt; rw [B_right hi]
  refine ⟨none_mk (by omega) (fun m m1 m2 => ?_), ?_, e0⟩
  · have hs := hw.2.2 m m1 (by omega)
    refine ⟨by rw [ByteArray.size_append]; have := hs.1; omega, ?_⟩
    rw [B_right hi, Nat.add_assoc, B_right hs.1]
    exact hs.2
  · exact (rune_of (B_right hi).symm (fun m m1 m2 => by rw [Nat.add_assoc, B_right (hw.2.2 m m1 m2).1]) h).symm

def shift (n : Nat) (l : List (Nat × Nat)) : List (Nat × Nat) := l.map (fun x => (n + x.1, x.2))
/-- Behind a right text: the other's runes, shifted. -/
theorem runes_right (a b : ByteArray) : ∀ (f i : Nat), b.size - i ≤ f → badFrom b i = none → runesFrom (a ++ b) (a.size + i) = shift a.size (runesFrom b i) ∧ badFrom (a ++ b) (a.size + i) = none := by
  intro f
  induction f with
  | zero =>
    intro i hf hb
    have h1 := runes_end (s := b) (i := i) (by omega)
    have h2 := runes_end (s := a ++ b) (i := a.size + i) (by rw [ByteArray.size_append]; omega)
    rw [h1.1, h2.1, h2.2]
    exact ⟨rfl, rfl⟩
  | succ f ih =>
    intro i hf hb
    by_cases hi : i < b.size
    · cases ho : offAt b i with
      | some k => rw [(runes_bad hi ho).2] at hb; cases hb
      | none =>
        obtain ⟨g1, g2⟩ := runes_good hi ho
        obtain ⟨o1, o2, o3⟩ := off_right (a := a) hi ho
        have hw := at_wide hi ho
        have hi' : a.size + i < (a ++ b).size := by rw [ByteArray.size_append]; omega
        obtain ⟨k1, k2⟩ := runes_good hi' o1
        rw [g2] at hb
        obtain ⟨r1, r2⟩ := ih (i + wideAt b i) (by omega) hb
        rw [k1, k2, g1, o2, o3, Nat.add_assoc, r1, r2]
        exact ⟨rfl, rfl⟩
    · have h1 := runes_end (s := b) (i := i) hi
      have h2 := runes_end (s := a ++ b) (i := a.size + i) (by rw [ByteArray.size_append]; omega)
      rw [h1.1, h2.1, h2.2]
      exact ⟨rfl, rfl⟩
theorem runes_left (a b : ByteArray) (hb : badFrom b 0 = none) : ∀ (f i : Nat), a.size - i ≤ f → i ≤ a.size → badFrom a i = none → runesFrom (a ++ b) i = runesFrom a i ++ shift a.size (runesFrom b 0) ∧ badFrom (a ++ b) i = none := by
  intro f
  induction f with
  | zero =>
    intro i hf hi ha
    obtain rfl : i = a.size := by omega
    have h1 := runes_end (s := a) (i := a.size) (by omega)
    have h2 := runes_right a b b.size 0 (by omega) hb
    rw [h1.1]
    exact h2
  | succ f ih =>
    intro i hf hle ha
    by_cases hi : i < a.size
    · cases ho : offAt a i with
      | some k => rw [(runes_bad hi ho).2] at ha; cases ha
      | none =>
        obtain ⟨g1, g2⟩ := runes_good hi ho
        obtain ⟨o1, o2, o3⟩ := off_left (b := b) hi ho
        have hw := at_wide hi ho
        have hi' : i < (a ++ b).size := by rw [ByteArray.size_append]; omega
        obtain ⟨k1, k2⟩ := runes_good hi' o1
        rw [g2] at ha
        obtain ⟨r1, r2⟩ := ih (i + wideAt a i) (by omega) (by omega) ha
        rw [k1, k2, g1, o2, o3, r1, r2]
        exact ⟨rfl, rfl⟩
    · obtain rfl : i = a.size := by omega
      have h1 := runes_end (s := a) (i := a.size) (by omega)
      have h2 := runes_right a b b.size 0 (by omega) hb
      rw [h1.1]
      exact h2
theorem runes_join (a b : ByteArray) (ha : badFrom a 0 = none) (hb : badFrom b 0 = none) : runesFrom (a ++ b) 0 = runesFrom a 0 ++ shift a.size (runesFrom b 0) ∧ badFrom (a ++ b) 0 = none := runes_left a b hb a.size 0 (by omega) (by omega) ha

end Go.Proofs.YtlkoekcoafddpaaDoor
