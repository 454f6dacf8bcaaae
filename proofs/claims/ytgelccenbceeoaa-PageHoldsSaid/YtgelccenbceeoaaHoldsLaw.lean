/- Pages part the column: in plain Lean. -/
import Derived.Test.YtgelccenbceeoaaPageLaw
namespace Go.Proofs.Ytgelccenbceeoaa
set_option linter.unusedVariables false

theorem stepN_fits : ∀ (n : Nat) (m : MS), m.ok → m.rf = 0 → (n : Int) ≤ m.sb - m.sn →
    (stepN m n).1 = true ∧ (stepN m n).2.ok ∧ (stepN m n).2.rf = 0 ∧ (stepN m n).2.sn = m.sn + n ∧ (stepN m n).2.cn = m.cn ∧ (stepN m n).2.sb = m.sb ∧ (stepN m n).2.cb = m.cb
  | 0, m, ok, h0, _ => by simp [stepN, ok, h0]
  | n + 1, m, ok, h0, hs => by
    have s1 : m.step 1 = (true, m.addS 1) := by unfold MS.step; rw [if_neg (by omega), if_neg (by omega)]
    have ok1 := MS.ok_step ok 1
    rw [s1] at ok1
    rw [stepN_succ, s1]
    simp only [if_true]
    obtain ⟨a, b, c, d, e, f, g⟩ := stepN_fits n (m.addS 1) ok1 (by simp [MS.addS, h0]) (by simp [MS.addS]; omega)
    refine ⟨a, b, c, ?_, ?_, ?_, ?_⟩
    · rw [d]; simp [MS.addS]; omega
    · rw [e]; simp [MS.addS]
    · rw [f]; simp [MS.addS]
    · rw [g]; simp [MS.addS]

def cutsList (l : List Slab) (h : Int) : Nat → Nat → List CutX
  | 0, _ => []
  | f + 1, a => if a < l.length then cutOf l h a :: cutsList l h f (cutOf l h a).last.toNat else []
theorem cutsList_done {l : List Slab} {h : Int} {f a : Nat} (ha : ¬ a < l.length) : cutsList l h f a = [] := by
  cases f with
  | zero => rfl
  | succ f => rw [cutsList, if_neg ha]
theorem cutsList_fuel {l : List Slab} {h : Int} : ∀ (f g a : Nat), l.length - a ≤ f → l.length - a ≤ g → cutsList l h f a = cutsList l h g a
  | 0, g, a, hf, hg => by rw [cutsList_done (by omega), cutsList_done (by omega)]
  | f + 1, 0, a, hf, hg => by rw [cutsList_done (by omega), cutsList_done (by omega)]
  | f + 1, g + 1, a, hf, hg => by
    by_cases ha : a < l.length
    · obtain ⟨n, h1, h2, h3, h4⟩ := cutOf_range (h := h) ha
      rw [cutsList, cutsList, if_pos ha, if_pos ha, cutsList_fuel f g _ (by rw [h2]; omega) (by rw [h2]; omega)]
    · rw [cutsList_done ha, cutsList_done ha]
def cutsL (l : List Slab) (h : Int) (a : Nat) : List CutX := cutsList l h (l.length - a) a
theorem cutsL_cons {l : List Slab} {h : Int} {a n : Nat} (ha : a < l.length) (hn : (cutOf l h a).last = n) (han : a < n) : cutsL l h a = cutOf l h a :: cutsL l h n := by
  obtain ⟨f, hf⟩ : ∃ f, l.length - a = f + 1 := ⟨l.length - a - 1, by omega⟩
  unfold cutsL
  rw [hf, cutsList, if_pos ha, hn]
  congr 1
  exact cutsList_fuel f (l.length - n) _ (by simp; omega) (by simp)
theorem cutsL_nil {l : List Slab} {h : Int} {a : Nat} (ha : ¬ a < l.length) : cutsL l h a = [] := cutsList_done ha

theorem cutsL_len {l : List Slab} {h : Int} : ∀ (f a : Nat), l.length - a ≤ f → (cutsL l h a).length ≤ l.length - a
  | 0, a, hf => by rw [cutsL_nil (by omega)]; simp
  | f + 1, a, hf => by
    by_cases ha : a < l.length
    · obtain ⟨n, h1, h2, h3, h4⟩ := cutOf_range (h := h) ha
      have := cutsL_len (l := l) (h := h) f n (by omega)
      rw [cutsL_cons ha h2 h3, List.length_cons]
      omega
    · rw [cutsL_nil ha]; simp

theorem cutsGo_fits {l : List Slab} {h : Int} : ∀ (f : Nat) (m : MS) (a : Nat), m.ok → m.rf = 0 → a ≤ l.length → (l.length : Int) - a ≤ m.sb - m.sn → (l.length : Int) - a ≤ m.cb - m.cn → l.length - a ≤ f →
    ∃ m', cutsGo l h f m a = (true, cutsL l h a, m') ∧ m'.sn = m.sn + (l.length - a) ∧ m'.cn = m.cn + (cutsL l h a).length
  | 0, m, a, ok, h0, ha, hs, hc, hf => ⟨m, by rw [cutsGo_done (by omega), cutsL_nil (by omega)], by omega, by rw [cutsL_nil (by omega)]; simp⟩
  | f + 1, m, a, ok, h0, ha, hs, hc, hf => by
    by_cases hlt : a < l.length
    · obtain ⟨n, h1, h2, h3, h4⟩ := cutOf_range (h := h) hlt
      have hsp : (cutOf l h a).span = n - a := by unfold CutX.span; rw [h1, h2]; omega
      obtain ⟨q1, q2, q3, q4, q5, q6, q7⟩ := stepN_fits (n - a) m ok h0 (by omega)
      have e2 : (stepN m (n - a)).2.hold 1 = (true, (stepN m (n - a)).2.addC 1) := by
        unfold MS.hold
        rw [if_neg (by rw [q3]; omega), if_neg (by rw [q5, q7]; omega)]
      have ok2 := MS.ok_hold q2 1
      rw [e2] at ok2
      obtain ⟨m', r1, r2, r3⟩ := cutsGo_fits f ((stepN m (n - a)).2.addC 1) n ok2 (by simp [MS.addC, q3]) (by omega) (by simp [MS.addC, q4, q6]; omega) (by simp [MS.addC, q5, q7]; omega) (by omega)
      refine ⟨m', ?_, ?_, ?_⟩
      · rw [cutsGo, if_pos hlt, hsp, if_pos q1, e2, if_pos rfl, h2, cutsL_cons hlt h2 h3]
        simp only [Int.toNat_natCast]
        rw [r1]
      · rw [r2]; simp [MS.addC, q4]; omega
      · rw [r3, cutsL_cons hlt h2 h3]; simp [MS.addC, q5]; omega
    · exact ⟨m, by rw [cutsGo_done hlt, cutsL_nil hlt], by omega, by rw [cutsL_nil hlt]; simp⟩

/-- How many Good ends lie from a on, and which is the last. -/
def scan (l : List Slab) (a : Nat) : Nat → Nat × Nat
  | 0 => (0, 0)
  | j + 1 => if goodN l (a + j) = true then ((scan l a j).1 + 1, a + j) else scan l a j
theorem scan_back (l : List Slab) (a : Nat) : ∀ j, ((scan l a j).1 = 0 ∧ back l a j = none) ∨ (0 < (scan l a j).1 ∧ back l a j = some ((scan l a j).2 + 1))
  | 0 => .inl ⟨rfl, rfl⟩
  | j + 1 => by
    rw [scan, back]
    split
    · exact .inr ⟨by simp, rfl⟩
    · exact scan_back l a j
theorem scan_le (l : List Slab) (a : Nat) : ∀ j, (scan l a j).1 ≤ j ∧ (scan l a j).2 ≤ a + j
  | 0 => ⟨Nat.le_refl _, by simp [scan]⟩
  | j + 1 => by
    have := scan_le l a j
    rw [scan]
    split
    · exact ⟨by simp only; omega, by simp only; omega⟩
    · exact ⟨by omega, by omega⟩
theorem back_none {l : List Slab} {a : Nat} : ∀ {j : Nat}, back l a j = none → ∀ i, i < j → goodN l (a + i) = false
  | 0, _, i, hi => by omega
  | j + 1, h, i, hi => by
    rw [back] at h
    split at h
    · cases h
    · rename_i hg
      by_cases e : i = j
      · subst e; simpa using hg
      · exact back_none h i (by omega)
theorem back_good {l : List Slab} {a : Nat} : ∀ {j n : Nat}, back l a j = some n → goodN l (n - 1) = true
  | 0, n, h => by cases h
  | j + 1, n, h => by
    rw [back] at h
    split at h
    · rename_i hg
      obtain rfl := Option.some.inj h
      simpa using hg
    · exact back_good h

/-- All that PageHolds asks of a page. -/
theorem cut_facts {l : List Slab} {h : Int} {a : Nat} (ha : a < l.length) :
    ∃ (n : Nat) (fo ov : Bool), cutOf l h a = ⟨a, n, fo, ov⟩ ∧ a < n ∧ n ≤ l.length ∧ ov = decide (fitsN l h a = a) ∧ (fitsN l h a = a → n = a + 1) ∧ (fitsN l h a ≠ a → n ≤ fitsN l h a) ∧ fo = !goodN l (n - 1) ∧
      (fitsN l h a ≠ a → 0 < (scan l a (fitsN l h a - a)).1 → n = (scan l a (fitsN l h a - a)).2 + 1) ∧ (fitsN l h a ≠ a → (scan l a (fitsN l h a - a)).1 = 0 → n = fitsN l h a) := by
  have hr := fitsN_range (l := l) (h := h) (a := a) (by omega)
  have hs := scan_back l a (fitsN l h a - a)
  by_cases hk : fitsN l h a = a
  · refine ⟨a + 1, !goodN l a, true, ?_, by omega, by omega, by rw [decide_eq_true hk], fun _ => rfl, fun h => absurd hk h, by rw [Nat.add_sub_cancel], fun h => absurd hk h, fun h => absurd hk h⟩
    unfold cutOf
    rw [if_pos hk]
    rfl
  · rcases hs with ⟨h0, hb⟩ | ⟨h0, hb⟩
    · refine ⟨fitsN l h a, true, false, ?_, by omega, by omega, by rw [decide_eq_false hk], fun h => absurd h hk, fun _ => Nat.le_refl _, ?_, fun _ h => by omega, fun _ _ => rfl⟩
      · unfold cutOf
        rw [if_neg hk, hb]
        rfl
      · have := back_none hb (fitsN l h a - a - 1) (by omega)
        rw [show a + (fitsN l h a - a - 1) = fitsN l h a - 1 by omega] at this
        rw [this]; rfl
    · have hb' := back_range hb
      refine ⟨(scan l a (fitsN l h a - a)).2 + 1, false, false, ?_, by omega, by omega, by rw [decide_eq_false hk], fun h => absurd h hk, fun _ => by omega, ?_, fun _ _ => rfl, fun _ h => by omega⟩
      · unfold cutOf
        rw [if_neg hk, hb]
        rfl
      · rw [back_good hb]; rfl

end Go.Proofs.Ytgelccenbceeoaa
