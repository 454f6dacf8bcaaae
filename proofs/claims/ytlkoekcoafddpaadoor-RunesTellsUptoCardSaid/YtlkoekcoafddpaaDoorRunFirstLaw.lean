/- Runes: the first byte that can't stand: the plain law. -/
import Derived.Test.YtlkoekcoafddpaaDoorRunJoinLaw
import Derived.Test.YtlkoekcoafddpaaDoorRunCut
namespace Go.Proofs.YtlkoekcoafddpaaDoor
open Go.Lib
set_option linter.unusedSimpArgs false
set_option linter.unusedVariables false

theorem some_mk0 {s : ByteArray} {i : Nat} (h : wideAt s i = 0) : offAt s i = some 0 := off0 h
theorem some_mk {s : ByteArray} {i k : Nat} (h1 : 1 ≤ k) (h2 : k < wideAt s i) (h3 : ∀ m, 1 ≤ m → m < k → Stands s i m) (h4 : ¬ Stands s i k) : offAt s i = some k := by
  cases e : offAt s i with
  | none => exact absurd ((at_none e).2.2 k h1 h2) h4
  | some k' =>
    rcases at_some e with ⟨h0, _⟩ | ⟨a1, a2, a3, a4⟩
    · omega
    · rcases Nat.lt_trichotomy k k' with h | h | h
      · exact absurd (a3 k h1 h) h4
      · rw [h]
      · exact absurd (h3 k' a1 h) a4
theorem bad_to {s t : ByteArray} {i k : Nat} (hB : ∀ m, m < i → B t m = B s m) (ht : i ≤ t.size) : ∀ (f j : Nat), s.size - j ≤ f → badFrom s j = some (i, k) → j ≤ i ∧ i < s.size ∧ offAt s i = some k ∧ badFrom t j = badFrom t i := by
  intro f
  induction f with
  | zero => intro j hf h; rw [(runes_end (by omega)).2] at h; cases h
  | succ f ih =>
    intro j hf h
    by_cases hj : j < s.size
    · cases ho : offAt s j with
      | some k' =>
        rw [(runes_bad hj ho).2] at h
        cases h
        exact ⟨Nat.le_refl _, hj, ho, rfl⟩
      | none =>
        obtain ⟨w1, w2⟩ := at_wide hj ho
        rw [(runes_good hj ho).2] at h
        obtain ⟨h1, h2, h3, h4⟩ := ih (j + wideAt s j) (by omega) h
        have hn := at_none ho
        have e0 : wideAt t j = wideAt s j := by unfold wideAt; rw [hB j (by omega)]
        have ht2 : offAt t j = none := none_mk (by omega) (fun m m1 m2 => by
          have := hn.2.2 m m1 (by omega)
          refine ⟨by omega, ?_⟩
          rw [hB j (by omega), hB (j + m) (by omega)]
          exact this.2)
        refine ⟨by omega, h2, h3, ?_⟩
        rw [(runes_good (by omega) ht2).2, e0]
        exact h4
    · rw [(runes_end hj).2] at h; cases h
theorem B_cut {s : ByteArray} {n m : Nat} (hn : n ≤ s.size) (hm : m < n) : B (s.extract 0 n) m = B s m := by
  unfold B
  have h1 : m < (s.extract 0 n).size := by simp [ByteArray.size_extract]; omega
  rw [get_in _ _ h1, get_in _ _ (by omega)]
  congr 1
  rw [ByteArray.getElem_extract]
  simp
theorem size_cut {s : ByteArray} {n : Nat} (hn : n ≤ s.size) : (s.extract 0 n).size = n := by simp [ByteArray.size_extract]; omega
theorem B_cut_app {s e : ByteArray} {n m : Nat} (hn : n ≤ s.size) (hm : m < n) : B (s.extract 0 n ++ e) m = B s m := by
  rw [B_left (by rw [size_cut hn]; exact hm), B_cut hn hm]
theorem bad_at {s : ByteArray} {i k : Nat} : ∀ (f j : Nat), s.size - j ≤ f → badFrom s j = some (i, k) → i < s.size ∧ offAt s i = some k := by
  intro f
  induction f with
  | zero => intro j hf h; rw [(runes_end (by omega)).2] at h; cases h
  | succ f ih =>
    intro j hf h
    by_cases hj : j < s.size
    · cases ho : offAt s j with
      | some k' =>
        rw [(runes_bad hj ho).2] at h
        cases h
        exact ⟨hj, ho⟩
      | none =>
        obtain ⟨w1, w2⟩ := at_wide hj ho
        rw [(runes_good hj ho).2] at h
        exact ih (j + wideAt s j) (by omega) h
    · rw [(runes_end hj).2] at h; cases h
theorem bad_le {s : ByteArray} {i k : Nat} (h : badFrom s 0 = some (i, k)) : i < s.size ∧ offAt s i = some k ∧ i + k ≤ s.size := by
  obtain ⟨h2, h3⟩ := bad_at s.size 0 (by omega) h
  refine ⟨h2, h3, ?_⟩
  rcases at_some h3 with ⟨_, rfl⟩ | ⟨a1, a2, a3, _⟩
  · omega
  · by_cases e : k = 1
    · omega
    · have := (a3 (k - 1) (by omega) (by omega)).1
      omega
/-- With that byte: whatever comes, it is that byte. -/
theorem first_dead {s : ByteArray} {i k : Nat} (h : badFrom s 0 = some (i, k)) (hq : i + k < s.size) (e : ByteArray) : badFrom (s.extract 0 (i + k + 1) ++ e) 0 = some (i, k) := by
  have hsz : (s.extract 0 (i + k + 1)).size = i + k + 1 := size_cut (by omega)
  have hB : ∀ m, m < i + k + 1 → B (s.extract 0 (i + k + 1) ++ e) m = B s m := fun m hm => B_cut_app (by omega) hm
  have hts : i + k + 1 ≤ (s.extract 0 (i + k + 1) ++ e).size := by rw [ByteArray.size_append, hsz]; omega
  obtain ⟨_, h2, h3, h4⟩ := bad_to (s := s) (t := s.extract 0 (i + k + 1) ++ e) (i := i) (k := k) (fun m hm => hB m (by omega)) (by omega) s.size 0 (by omega) h
  rw [h4]
  refine (runes_bad (by omega) ?_).2
  have e0 : wideAt (s.extract 0 (i + k + 1) ++ e) i = wideAt s i := by unfold wideAt; rw [hB i (by omega)]
  rcases at_some h3 with ⟨w0, rfl⟩ | ⟨a1, a2, a3, a4⟩
  · exact some_mk0 (e0.trans w0)
  · refine some_mk a1 (by omega) (fun m m1 m2 => ?_) (fun hk => a4 ?_)
    · have := (a3 m m1 m2).2
      exact ⟨by omega, by rw [hB i (by omega), hB (i + m) (by omega)]; exact this⟩
    · refine ⟨by omega, ?_⟩
      have := hk.2
      rw [hB i (by omega), hB (i + k) (by omega)] at this
      exact this
def endsL : List ByteArray := [⟨#[]⟩, ⟨#[128]⟩, ⟨#[191]⟩, ⟨#[128, 128]⟩, ⟨#[160, 128]⟩, ⟨#[144, 128]⟩, ⟨#[128, 128, 128]⟩, ⟨#[144, 128, 128]⟩]
theorem alive_of {s : ByteArray} {i k : Nat} (h : badFrom s 0 = some (i, k)) (h1 : 1 ≤ k) (e : ByteArray) (he : e.size + k = wideAt s i) (hst : ∀ m, k ≤ m → m < wideAt s i → stN (B s i) m (B e (m - k))) : badFrom (s.extract 0 (i + k) ++ e) 0 = none := by
  obtain ⟨hi, ho, hk⟩ := bad_le h
  have hsz : (s.extract 0 (i + k)).size = i + k := size_cut hk
  have hB : ∀ m, m < i + k → B (s.extract 0 (i + k) ++ e) m = B s m := fun m hm => B_cut_app hk hm
  have hts : (s.extract 0 (i + k) ++ e).size = i + wideAt s i := by rw [ByteArray.size_append, hsz]; omega
  obtain ⟨_, h2, h3, h4⟩ := bad_to (s := s) (t := s.extract 0 (i + k) ++ e) (i := i) (k := k) (fun m hm => hB m (by omega)) (by omega) s.size 0 (by omega) h
  have e0 : wideAt (s.extract 0 (i + k) ++ e) i = wideAt s i := by unfold wideAt; rw [hB i (by omega)]
  rcases at_some h3 with ⟨_, rfl⟩ | ⟨a1, a2, a3, _⟩
  · omega
  · have hn : offAt (s.extract 0 (i + k) ++ e) i = none := none_mk (by omega) (fun m m1 m2 => by
      refine ⟨by omega, ?_⟩
      rw [hB i (by omega)]
      by_cases hm : m < k
      · rw [hB (i + m) (by omega)]
        exact (a3 m m1 hm).2
      · have := B_right (a := s.extract 0 (i + k)) (b := e) (i := m - k) (by omega)
        rw [hsz, show i + k + (m - k) = i + m by omega] at this
        rw [this]
        exact hst m (by omega) (by omega))
    rw [h4, (runes_good (by omega) hn).2]
    exact (runes_end (by omega)).2
/-- Without it: some end makes it right. -/
theorem first_alive {s : ByteArray} {i k : Nat} (h : badFrom s 0 = some (i, k)) : ∃ e ∈ endsL, badFrom (s.extract 0 (i + k) ++ e) 0 = none := by
  obtain ⟨hi, ho, hk⟩ := bad_le h
  have hst2 : ∀ (m c : Nat), 2 ≤ m → 128 ≤ c ∧ c ≤ 191 → stN (B s i) m c := fun m c hm hc => (st_else (.inl (by omega))).2 hc
  rcases at_some ho with ⟨_, rfl⟩ | ⟨a1, a2, a3, _⟩
  · refine ⟨⟨#[]⟩, by simp [endsL], ?_⟩
    have hsz : (s.extract 0 (i + 0) ++ ⟨#[]⟩ : ByteArray).size = i := by rw [ByteArray.size_append, size_cut (by omega)]; rfl
    obtain ⟨_, _, _, h4⟩ := bad_to (s := s) (t := s.extract 0 (i + 0) ++ ⟨#[]⟩) (i := i) (k := 0) (fun m hm => B_cut_app (by omega) hm) (by omega) s.size 0 (by omega) h
    rw [h4]
    exact (runes_end (by omega)).2
  · have hw := wide_le (B s i)
    obtain ⟨i1, i2, i3, i4⟩ := wide_inv (b := B s i)
    have hwe : wideAt s i = wideN (B s i) := rfl
    have hs1 : ∀ c, 128 ≤ c ∧ c ≤ 191 → (B s i = 224 → 160 ≤ c) → (B s i = 237 → c ≤ 159) → (B s i = 240 → 144 ≤ c) → (B s i = 244 → c ≤ 143) → stN (B s i) 1 c := fun c c0 c1 c2 c3 c4 => by
      by_cases hn : stN (B s i) 1 c
      · exact hn
      · exfalso
        rcases st_not hn with h | h | ⟨h, h'⟩ | ⟨h, h'⟩ | ⟨h, h'⟩ | ⟨h, h'⟩ <;> omega
    obtain hk1 | hk1 | hk1 : k = 1 ∨ k = 2 ∨ k = 3 := by omega
    · subst hk1
      obtain e | e | e : wideN (B s i) = 2 ∨ wideN (B s i) = 3 ∨ wideN (B s i) = 4 := by omega
      · have := i2 e
        refine ⟨⟨#[128]⟩, by simp [endsL], alive_of h (by omega) _ (by rw [hwe, e]; rfl) (fun m m1 m2 => ?_)⟩
        obtain rfl : m = 1 := by omega
        exact hs1 128 (by omega) (by omega) (by omega) (by omega) (by omega)
      · have := i3 e
        by_cases c : B s i = 224
        · refine ⟨⟨#[160, 128]⟩, by simp [endsL], alive_of h (by omega) _ (by rw [hwe, e]; rfl) (fun m m1 m2 => ?_)⟩
          obtain rfl | rfl : m = 1 ∨ m = 2 := by omega
          · exact hs1 160 (by omega) (by omega) (by omega) (by omega) (by omega)
          · exact hst2 2 128 (by omega) (by omega)
        · refine ⟨⟨#[128, 128]⟩, by simp [endsL], alive_of h (by omega) _ (by rw [hwe, e]; rfl) (fun m m1 m2 => ?_)⟩
          obtain rfl | rfl : m = 1 ∨ m = 2 := by omega
          · exact hs1 128 (by omega) (by omega) (by omega) (by omega) (by omega)
          · exact hst2 2 128 (by omega) (by omega)
      · have := i4 e
        by_cases c : B s i = 240
        · refine ⟨⟨#[144, 128, 128]⟩, by simp [endsL], alive_of h (by omega) _ (by rw [hwe, e]; rfl) (fun m m1 m2 => ?_)⟩
          obtain rfl | rfl | rfl : m = 1 ∨ m = 2 ∨ m = 3 := by omega
          · exact hs1 144 (by omega) (by omega) (by omega) (by omega) (by omega)
          · exact hst2 2 128 (by omega) (by omega)
          · exact hst2 3 128 (by omega) (by omega)
        · refine ⟨⟨#[128, 128, 128]⟩, by simp [endsL], alive_of h (by omega) _ (by rw [hwe, e]; rfl) (fun m m1 m2 => ?_)⟩
          obtain rfl | rfl | rfl : m = 1 ∨ m = 2 ∨ m = 3 := by omega
          · exact hs1 128 (by omega) (by omega) (by omega) (by omega) (by omega)
          · exact hst2 2 128 (by omega) (by omega)
          · exact hst2 3 128 (by omega) (by omega)
    · subst hk1
      obtain e | e : wideN (B s i) = 3 ∨ wideN (B s i) = 4 := by omega
      · refine ⟨⟨#[128]⟩, by simp [endsL], alive_of h (by omega) _ (by rw [hwe, e]; rfl) (fun m m1 m2 => ?_)⟩
        obtain rfl : m = 2 := by omega
        exact hst2 2 128 (by omega) (by omega)
      · refine ⟨⟨#[128, 128]⟩, by simp [endsL], alive_of h (by omega) _ (by rw [hwe, e]; rfl) (fun m m1 m2 => ?_)⟩
        obtain rfl | rfl : m = 2 ∨ m = 3 := by omega
        · exact hst2 2 128 (by omega) (by omega)
        · exact hst2 3 128 (by omega) (by omega)
    · subst hk1
      have e : wideN (B s i) = 4 := by omega
      refine ⟨⟨#[128]⟩, by simp [endsL], alive_of h (by omega) _ (by rw [hwe, e]; rfl) (fun m m1 m2 => ?_)⟩
      obtain rfl : m = 3 := by omega
      exact hst2 3 128 (by omega) (by omega)

end Go.Proofs.YtlkoekcoafddpaaDoor
