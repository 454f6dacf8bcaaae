/- Runes: how many pairs of runes, the second not behind the first: the plain law. -/
import Derived.Test.YtlkoekcoafddpaaDoorRunJoin
namespace Go.Proofs.YtlkoekcoafddpaaDoor
set_option linter.unusedSimpArgs false
set_option linter.unusedVariables false

/-- How many runes begin at a place or ahead of it. -/
def cntLe (l : List (Nat × Nat)) (p : Nat) : Nat := (l.takeWhile (fun x => decide (x.1 ≤ p))).length
def cntSum (l : List (Nat × Nat)) (m : List (Nat × Nat)) : Nat := (m.map (fun x => cntLe l x.1)).sum
theorem cntSum_snoc (l m : List (Nat × Nat)) (x : Nat × Nat) : cntSum l (m ++ [x]) = cntSum l m + cntLe l x.1 := by simp [cntSum]
theorem cntLe_le (l : List (Nat × Nat)) (p : Nat) : cntLe l p ≤ l.length := (List.takeWhile_sublist _).length_le
theorem cntSum_le (l m : List (Nat × Nat)) : cntSum l m ≤ m.length * l.length := by
  induction m with
  | nil => simp [cntSum]
  | cons x r ih =>
    have h1 := cntLe_le l x.1
    have e : cntSum l (x :: r) = cntLe l x.1 + cntSum l r := by simp [cntSum]
    rw [e, List.length_cons, Nat.add_mul]
    omega
def Incr (l : List (Nat × Nat)) : Prop := l.Pairwise (fun x y => x.1 < y.1)
theorem runes_incr (s : ByteArray) : ∀ (f i : Nat), (∀ x ∈ runesF f s i, i ≤ x.1) ∧ Incr (runesF f s i) := by
  intro f
  induction f with
  | zero => intro i; exact ⟨fun x h => by simp [runesF] at h, by simp [runesF, Incr]⟩
  | succ f ih =>
    intro i
    unfold runesF
    split
    · rename_i hi
      cases ho : offAt s i with
      | none =>
        obtain ⟨h1, h2⟩ := ih (i + wideAt s i)
        have hw := (at_wide hi ho).1
        refine ⟨fun x h => ?_, ?_⟩
        · rcases List.mem_cons.1 h with rfl | h
          · exact Nat.le_refl _
          · have := h1 x h; omega
        · refine List.pairwise_cons.2 ⟨fun x h => ?_, h2⟩
          have := h1 x h
          simp only
          omega
      | some k => exact ⟨fun x h => absurd h (by simp), List.Pairwise.nil⟩
    · exact ⟨fun x h => absurd h (by simp), List.Pairwise.nil⟩
theorem cnt_at {l pre post : List (Nat × Nat)} {x : Nat × Nat} (h : l = pre ++ x :: post) (hi : Incr l) : cntLe l x.1 = pre.length + 1 := by
  subst h
  obtain ⟨h1, h2, h3⟩ := List.pairwise_append.1 hi
  have h4 := (List.pairwise_cons.1 h2).1
  unfold cntLe
  rw [List.takeWhile_append_of_pos (fun y hy => by have := h3 y hy x (by simp); simp; omega), List.takeWhile_cons_of_pos (by simp)]
  have : post.takeWhile (fun y => decide (y.1 ≤ x.1)) = [] := by
    cases post with
    | nil => rfl
    | cons y r => have := h4 y (by simp); rw [List.takeWhile_cons_of_neg (by simp; omega)]
  rw [this]
  simp
def tri : Nat → Nat
  | 0 => 0
  | n + 1 => tri n + (n + 1)
theorem tri_half (n : Nat) : tri n * 2 = n * (n + 1) := by
  induction n with
  | zero => rfl
  | succ n ih => simp only [tri, Nat.add_mul, ih, Nat.mul_add]; omega
theorem cnt_tri {l : List (Nat × Nat)} (hi : Incr l) : ∀ (post pre : List (Nat × Nat)), l = pre ++ post → cntSum l post + tri pre.length = tri l.length := by
  intro post
  induction post with
  | nil => intro pre h; subst h; simp [cntSum]
  | cons x r ih =>
    intro pre h
    have h1 := cnt_at h hi
    have h2 := ih (pre ++ [x]) (by rw [h]; simp)
    have e : cntSum l (x :: r) = cntLe l x.1 + cntSum l r := by simp [cntSum]
    rw [e, h1]
    simp only [List.length_append, List.length_cons, List.length_nil, Nat.zero_add, tri] at h2
    omega
theorem cnt_all (s : ByteArray) : cntSum (runesFrom s 0) (runesFrom s 0) = tri (runesFrom s 0).length := by
  have h : Incr (runesFrom s 0) := (runes_incr s _ 0).2
  have := cnt_tri h (runesFrom s 0) [] rfl
  simpa [tri] using this
theorem cnt_done {l m : List (Nat × Nat)} {p : Nat} (h : m = l) (hm : ∀ x ∈ m, x.1 ≤ p) : cntLe l p = m.length := by
  subst h
  unfold cntLe
  have := List.takeWhile_append_of_pos (p := fun x : Nat × Nat => decide (x.1 ≤ p)) (l₁ := m) (l₂ := []) (fun x hx => by simpa using hm x hx)
  rw [List.append_nil] at this
  rw [this]
  simp
theorem cnt_stop {l m : List (Nat × Nat)} {y : Nat × Nat} {p : Nat} (h : (m ++ [y]) <+: l) (hm : ∀ x ∈ m, x.1 ≤ p) (hy : p < y.1) : cntLe l p = m.length := by
  obtain ⟨r, rfl⟩ := h
  unfold cntLe
  rw [List.append_assoc, List.takeWhile_append_of_pos (fun x hx => by simpa using hm x hx), List.singleton_append, List.takeWhile_cons_of_neg (by simp; omega)]
  simp

end Go.Proofs.YtlkoekcoafddpaaDoor
