/- Pages: what is computed, in plain Lean. -/
import Derived.Test.YtgelccenbceeoaaColumn
import Derived.Test.YtgelccenbceeoaaRef02
namespace Go.Proofs.Ytgelccenbceeoaa
set_option linter.unusedVariables false

/-- May a page end behind the slab number n? -/
def goodN (l : List Slab) (n : Nat) : Bool :=
  match l[n]?, l[n + 1]? with
  | none, _ => false
  | some _, none => true
  | some s, some t => decide (t.pr ≠ s.pr) || decide (2 ≤ t.ix ∧ t.ix + 2 ≤ t.of_)
def good (l : List Slab) (n : Int) : Bool := if n < 0 then false else goodN l n.toNat

theorem good_neg {l : List Slab} {n : Int} (h : n < 0) : good l n = false := by unfold good; rw [if_pos h]
theorem good_nat (l : List Slab) (n : Nat) : good l n = goodN l n := by unfold good; rw [if_neg (by omega)]; rfl
theorem goodN_past {l : List Slab} {n : Nat} (h : l.length ≤ n) : goodN l n = false := by unfold goodN; rw [List.getElem?_eq_none h]
theorem goodN_last {l : List Slab} {n : Nat} (h : n + 1 = l.length) : goodN l n = true := by
  unfold goodN; rw [List.getElem?_eq_getElem (by omega), List.getElem?_eq_none (by omega)]
theorem goodN_mid {l : List Slab} {n : Nat} {s t : Slab} (hs : l[n]? = some s) (ht : l[n + 1]? = some t) : goodN l n = (decide (t.pr ≠ s.pr) || decide (2 ≤ t.ix ∧ t.ix + 2 ≤ t.of_)) := by
  unfold goodN; rw [hs, ht]

/-- Of numbers as Go has them. -/
def InI (n : Int) : Prop := -9223372036854775808 ≤ n ∧ n ≤ 9223372036854775807
def OfIn (l : List Slab) : Prop := ∀ s, s ∈ l → -9223372036854775808 ≤ s.of_ ∧ s.of_ ≤ 9223372036854775807

def fitsGo (l : List Slab) (h : Int) (a : Nat) : Nat → Nat → Nat
  | 0, k => k
  | f + 1, k => if k < l.length ∧ tall ((l.drop a).take (k + 1 - a)) ≤ h then fitsGo l h a f (k + 1) else k
def fitsN (l : List Slab) (h : Int) (a : Nat) : Nat := fitsGo l h a (l.length - a) a

theorem fitsGo_stop {l : List Slab} {h : Int} {a : Nat} : ∀ {f k : Nat}, ¬ (k < l.length ∧ tall ((l.drop a).take (k + 1 - a)) ≤ h) → fitsGo l h a f k = k
  | 0, k, _ => rfl
  | f + 1, k, hn => by rw [fitsGo, if_neg hn]
theorem fitsGo_go {l : List Slab} {h : Int} {a k : Nat} (h1 : k < l.length) (h2 : tall ((l.drop a).take (k + 1 - a)) ≤ h) : fitsGo l h a (l.length - k) k = fitsGo l h a (l.length - (k + 1)) (k + 1) := by
  obtain ⟨f, hf⟩ : ∃ f, l.length - k = f + 1 := ⟨l.length - k - 1, by omega⟩
  rw [hf, fitsGo, if_pos ⟨h1, h2⟩, show l.length - (k + 1) = f by omega]
theorem fitsGo_range {l : List Slab} {h : Int} {a : Nat} : ∀ (f k : Nat), k ≤ l.length → k ≤ fitsGo l h a f k ∧ fitsGo l h a f k ≤ l.length
  | 0, k, hk => ⟨Nat.le_refl _, hk⟩
  | f + 1, k, hk => by
    rw [fitsGo]
    split
    · have := fitsGo_range (l := l) (h := h) (a := a) f (k + 1) (by omega)
      omega
    · exact ⟨Nat.le_refl _, hk⟩
theorem fitsN_range {l : List Slab} {h : Int} {a : Nat} (ha : a ≤ l.length) : a ≤ fitsN l h a ∧ fitsN l h a ≤ l.length := fitsGo_range _ _ ha

structure CutX where
  first : Int
  last : Int
  forced : Bool
  over : Bool
deriving DecidableEq
def CutX.row (c : CutX) : List Value := [.int .i64 c.first, .int .i64 c.last, .bool c.forced, .bool c.over]

/-- The last end up to f slabs behind a that is Good. -/
def back (l : List Slab) (a : Nat) : Nat → Option Nat
  | 0 => none
  | f + 1 => if goodN l (a + f) = true then some (a + f + 1) else back l a f
def cutBy (l : List Slab) (a k : Nat) : Option Nat → CutX
  | none => ⟨a, k, true, false⟩
  | some n => ⟨a, n, false, false⟩
def cutOf (l : List Slab) (h : Int) (a : Nat) : CutX :=
  if fitsN l h a = a then ⟨a, a + 1, !goodN l a, true⟩ else cutBy l a (fitsN l h a) (back l a (fitsN l h a - a))

theorem back_range {l : List Slab} {a : Nat} : ∀ {f n : Nat}, back l a f = some n → a < n ∧ n ≤ a + f
  | 0, n, h => by cases h
  | f + 1, n, h => by
    rw [back] at h
    split at h
    · obtain rfl := Option.some.inj h; omega
    · have := back_range h; omega

theorem cutOf_range {l : List Slab} {h : Int} {a : Nat} (ha : a < l.length) : ∃ n : Nat, (cutOf l h a).first = a ∧ (cutOf l h a).last = n ∧ a < n ∧ n ≤ l.length := by
  have hr := fitsN_range (l := l) (h := h) (a := a) (by omega)
  unfold cutOf
  split
  · exact ⟨a + 1, rfl, rfl, by omega, by omega⟩
  · cases hb : back l a (fitsN l h a - a) with
    | none => exact ⟨fitsN l h a, rfl, rfl, by omega, by omega⟩
    | some n =>
      have := back_range hb
      exact ⟨n, rfl, rfl, by omega, by omega⟩

/-- n steps, one by one, up to the first that is refused. -/
def stepN : MS → Nat → Bool × MS
  | m, 0 => (true, m)
  | m, n + 1 => if (m.step 1).1 = true then stepN (m.step 1).2 n else (false, (m.step 1).2)
theorem stepN_succ (m : MS) (n : Nat) : stepN m (n + 1) = if (m.step 1).1 = true then stepN (m.step 1).2 n else (false, (m.step 1).2) := rfl

/-- How far a cut reaches. -/
def CutX.span (c : CutX) : Nat := (c.last - c.first).toNat

/-- All pages from a slab on, metered. -/
def cutsGo (l : List Slab) (h : Int) : Nat → MS → Nat → Bool × List CutX × MS
  | 0, m, a => (true, [], m)
  | f + 1, m, a =>
    if a < l.length then
      (if (stepN m (cutOf l h a).span).1 = true then
        (if ((stepN m (cutOf l h a).span).2.hold 1).1 = true then
          ((cutsGo l h f ((stepN m (cutOf l h a).span).2.hold 1).2 (cutOf l h a).last.toNat).1, cutOf l h a :: (cutsGo l h f ((stepN m (cutOf l h a).span).2.hold 1).2 (cutOf l h a).last.toNat).2.1, (cutsGo l h f ((stepN m (cutOf l h a).span).2.hold 1).2 (cutOf l h a).last.toNat).2.2)
        else (false, [], ((stepN m (cutOf l h a).span).2.hold 1).2))
      else (false, [], (stepN m (cutOf l h a).span).2))
    else (true, [], m)

theorem cutsGo_done {l : List Slab} {h : Int} {f : Nat} {m : MS} {a : Nat} (ha : ¬ a < l.length) : cutsGo l h f m a = (true, [], m) := by
  cases f with
  | zero => rfl
  | succ f => rw [cutsGo, if_neg ha]

/-- Enough rounds are enough. -/
theorem cutsGo_fuel {l : List Slab} {h : Int} : ∀ (f g : Nat) (m : MS) (a : Nat), l.length - a ≤ f → l.length - a ≤ g → cutsGo l h f m a = cutsGo l h g m a
  | 0, g, m, a, hf, hg => by rw [cutsGo_done (by omega), cutsGo_done (by omega)]
  | f + 1, 0, m, a, hf, hg => by rw [cutsGo_done (by omega), cutsGo_done (by omega)]
  | f + 1, g + 1, m, a, hf, hg => by
    by_cases ha : a < l.length
    · obtain ⟨n, h1, h2, h3, h4⟩ := cutOf_range (h := h) ha
      rw [cutsGo, cutsGo, if_pos ha, if_pos ha, cutsGo_fuel f g _ _ (by rw [h2]; omega) (by rw [h2]; omega)]
    · rw [cutsGo_done ha, cutsGo_done ha]

def cutsAll (l : List Slab) (h : Int) (m : MS) : Bool × List CutX × MS := cutsGo l h l.length m 0

/-- What is left to do, beside what was done. -/
structure CutsOn (R r : Bool × List CutX × MS) (out : List CutX) : Prop where
  ok : R.1 = r.1
  ms : R.2.2 = r.2.2
  list : r.1 = true → R.2.1 = out ++ r.2.1

theorem cutsOn_step {l : List Slab} {h : Int} {R : Bool × List CutX × MS} {m : MS} {a n : Nat} {out : List CutX} (H : CutsOn R (cutsGo l h (l.length - a) m a) out) (ha : a < l.length) (hn : (cutOf l h a).last = n) (han : a < n)
    (h1 : (stepN m (cutOf l h a).span).1 = true) (h2 : ((stepN m (cutOf l h a).span).2.hold 1).1 = true) : CutsOn R (cutsGo l h (l.length - n) ((stepN m (cutOf l h a).span).2.hold 1).2 n) (out ++ [cutOf l h a]) := by
  obtain ⟨f, hf⟩ : ∃ f, l.length - a = f + 1 := ⟨l.length - a - 1, by omega⟩
  rw [hf, cutsGo, if_pos ha, if_pos h1, if_pos h2, hn] at H
  rw [cutsGo_fuel (l.length - n) f _ _ (Nat.le_refl _) (by omega)]
  refine ⟨H.ok, H.ms, fun h => ?_⟩
  rw [H.list h, List.append_assoc]
  rfl
theorem cutsOn_steps {l : List Slab} {h : Int} {R : Bool × List CutX × MS} {m : MS} {a : Nat} {out : List CutX} (H : CutsOn R (cutsGo l h (l.length - a) m a) out) (ha : a < l.length)
    (h1 : ¬ (stepN m (cutOf l h a).span).1 = true) : R.1 = false ∧ R.2.2 = (stepN m (cutOf l h a).span).2 := by
  obtain ⟨f, hf⟩ : ∃ f, l.length - a = f + 1 := ⟨l.length - a - 1, by omega⟩
  rw [hf, cutsGo, if_pos ha, if_neg h1] at H
  exact ⟨H.ok, H.ms⟩
theorem cutsOn_hold {l : List Slab} {h : Int} {R : Bool × List CutX × MS} {m : MS} {a : Nat} {out : List CutX} (H : CutsOn R (cutsGo l h (l.length - a) m a) out) (ha : a < l.length)
    (h1 : (stepN m (cutOf l h a).span).1 = true) (h2 : ¬ ((stepN m (cutOf l h a).span).2.hold 1).1 = true) : R.1 = false ∧ R.2.2 = ((stepN m (cutOf l h a).span).2.hold 1).2 := by
  obtain ⟨f, hf⟩ : ∃ f, l.length - a = f + 1 := ⟨l.length - a - 1, by omega⟩
  rw [hf, cutsGo, if_pos ha, if_pos h1, if_neg h2] at H
  exact ⟨H.ok, H.ms⟩
theorem cutsOn_done {l : List Slab} {h : Int} {R : Bool × List CutX × MS} {m : MS} {a : Nat} {out : List CutX} (H : CutsOn R (cutsGo l h (l.length - a) m a) out) (ha : ¬ a < l.length) : R.1 = true ∧ R.2.2 = m ∧ R.2.1 = out := by
  rw [cutsGo_done ha] at H
  exact ⟨H.ok, H.ms, by rw [H.list rfl]; simp⟩

end Go.Proofs.Ytgelccenbceeoaa
