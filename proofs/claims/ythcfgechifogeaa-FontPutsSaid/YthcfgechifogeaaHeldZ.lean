/- A region that draws its order and ends with one operation that waits for all others: what is held of the world need not hold behind that last one. -/
import Derived.Test.YthcfgechifogeaaHeldLex
import Derived.Deep.RegionHeld
namespace Go.Proofs.Ythcfgechifogeaa
set_option linter.unusedVariables false

section
variable {P : Program} {md : Region.Mode} {ops : Array Oper} {Q : Exit → Act → World → Prop} {S : World → Prop} {z : Nat}

/-- Whatever order is picked: S holds behind every operation, but behind z. -/
def wpZ (P : Program) (md : Region.Mode) (ops : Array Oper) (Q : Exit → Act → World → Prop) (S : World → Prop) (z : Nat) : Nat → Array Bool → Act → World → Prop
  | 0, listed, a, w => Region.ready md ops listed = [] ∧ Q .normal a w
  | n + 1, listed, a, w => (Region.ready md ops listed = [] → Q .normal a w) ∧ ∀ i ∈ Region.ready md ops listed, wpOp P ops Q i (fun a' w' => (i = z ∨ S w') ∧ wpZ P md ops Q S z n (listed.setIfInBounds i true) a' w') a w

theorem wpAny_of_Z : ∀ (n : Nat) (listed : Array Bool) (a : Act) (w : World), wpZ P md ops Q S z n listed a w → wpAny P md ops Q n listed a w
  | 0, _, _, _, h => h
  | n + 1, _, _, _, h => ⟨h.1, fun i hi => wpOp_mono (fun a' w' k => wpAny_of_Z n _ a' w' k.2) (h.2 i hi)⟩

/-- z waits for i. -/
def waits (md : Region.Mode) (ops : Array Oper) (z i : Nat) : Bool := match ops[z]? with
  | some o => o.after.any (fun e => Region.binds md e && e.on == i)
  | none => false

theorem wpZ_first {i : Nat} {oi : Oper} {v : Value} (hi : ops[i]? = some oi) (hsel : ∀ (j : Nat) (o : Oper) cs b, ops[j]? = some o → o.op ≠ .select cs b)
    (hQ : ∀ c a w, Q (.panic c) (a.put oi.dst v) w → Q (.panic c) a w) (hz : waits md ops z i = true) :
    ∀ (n : Nat) (listed : Array Bool) (a : Act) (w : World),
      (∀ j oj, ops[j]? = some oj → j ≠ i → listed.getD j true = false → (∀ e ∈ oj.after, Region.binds md e = true → e.on ≠ i) → oi.apart ops oj = true) →
      i ∈ Region.ready md ops listed → YieldsIf P ops S oi v a → S w →
      wpZ P md ops Q S z n (listed.setIfInBounds i true) (a.put oi.dst v) w → wpZ P md ops Q S z (n + 1) listed a w := by
  intro n
  induction n with
  | zero =>
    intro listed a w _ hr hy hS H
    refine ⟨fun h => (by rw [h] at hr; cases hr), fun j hj => ?_⟩
    by_cases hji : j = i
    · subst hji; exact hy.wpOp hi hS ⟨.inr hS, H⟩
    · have := ready_mono hj hji
      rw [H.1] at this
      cases this
  | succ n ih =>
    intro listed a w hfree hr hy hS H
    refine ⟨fun h => (by rw [h] at hr; cases hr), fun j hj => ?_⟩
    by_cases hji : j = i
    · subst hji; exact hy.wpOp hi hS ⟨.inr hS, H⟩
    · have h1 := H.2 j (ready_mono hj hji)
      obtain ⟨hjun, oj, hoj, hall⟩ := mem_ready.1 hj
      have hnot : ∀ e ∈ oj.after, Region.binds md e = true → e.on ≠ i := fun e he hb heq => by
        have h1 := hall e he hb
        have h0 := (mem_ready.1 hr).1
        rw [heq] at h1
        rcases Nat.lt_or_ge i listed.size with h' | h'
        · simp [h'] at h0 h1; rw [h0] at h1; cases h1
        · simp [Array.getElem?_eq_none h'] at h1
      have hjz : j ≠ z := fun e => by
        subst e
        unfold waits at hz
        rw [hoj] at hz
        simp only [Array.any_eq_true, Bool.and_eq_true, beq_iff_eq] at hz
        obtain ⟨x, hx, hb, he⟩ := hz
        exact hnot _ (Array.getElem_mem hx) hb he
      have h2 := wpOp_putIf hoj (hfree j oj hoj hji hjun hnot) (fun cs b => hsel i oi cs b hi) (fun cs b => hsel j oj cs b hoj) hQ hy h1
      have hfree' : ∀ k ok, ops[k]? = some ok → k ≠ i → (listed.setIfInBounds j true).getD k true = false →
          (∀ e ∈ ok.after, Region.binds md e = true → e.on ≠ i) → oi.apart ops ok = true := fun k ok hk hki hun hno => by
        refine hfree k ok hk hki ?_ hno
        by_cases hjk : j = k
        · subst hjk; exact hjun
        · rw [getD_set_ne true hjk] at hun; exact hun
      refine wpOp_mono (fun a' w' h3 => ?_) h2
      have hS' : S w' := h3.2.1.resolve_left hjz
      refine ⟨.inr hS', ih (listed.setIfInBounds j true) a' w' hfree' (ready_mono hr (Ne.symm hji)) h3.1 hS' ?_⟩
      rw [Array.setIfInBounds_comm _ _ hji]
      exact h3.2.2

theorem wpZ_take {i : Nat} {oi : Oper} {v : Value} {n : Nat} {listed : Array Bool} {a : Act} {w : World} (hi : ops[i]? = some oi)
    (hs : Region.noSelect ops = true) (hf : (Region.free md ops listed i && (Region.ready md ops listed).contains i && waits md ops z i) = true)
    (hQ : ∀ c a w, Q (.panic c) (a.put oi.dst v) w → Q (.panic c) a w) (hS : S w) (hy : YieldsIf P ops S oi v a)
    (h : wpZ P md ops Q S z n (listed.setIfInBounds i true) (a.put oi.dst v) w) : wpZ P md ops Q S z (n + 1) listed a w := by
  simp only [Bool.and_eq_true] at hf
  exact wpZ_first hi (Region.noSelect_spec hs) hQ hf.2 n listed a w (Region.free_spec hi hf.1.1) (by simpa using hf.1.2) hy hS h

def lexFreeZ (md : Region.Mode) (ops : Array Oper) (z : Nat) : Nat → Nat → Array Bool → Bool
  | 0, _, _ => true
  | n + 1, k, listed => (Region.free md ops listed k && (Region.ready md ops listed).contains k && waits md ops z k) && lexFreeZ md ops z n (k + 1) (listed.setIfInBounds k true)

theorem wpZ_lexHead (hs : Region.noSelect ops = true) (hQ : ∀ c (a : Act) d v w, Q (.panic c) (a.put d v) w → Q (.panic c) a w) {w : World} (hS : S w) (f : Nat) : ∀ (l : List Oper) (k : Nat) (listed : Array Bool) (a : Act), (∀ j, j < l.length → ops[k + j]? = l[j]?) →
    lexFreeZ md ops z l.length k listed = true → heldL P ops S (fun a' => wpZ P md ops Q S z f (setAll l.length k listed) a' w) l a → wpZ P md ops Q S z (l.length + f) listed a w
  | [], k, listed, a, _, _, h => by simpa [heldL, setAll] using h
  | o :: rest, k, listed, a, hl, hf, h => by
    have h0 : ops[k]? = some o := by simpa using hl 0 (by simp)
    simp only [List.length_cons, lexFreeZ] at hf
    rw [Bool.and_eq_true] at hf
    have hrest : ∀ j, j < rest.length → ops[k + 1 + j]? = rest[j]? := fun j hj => by
      have := hl (j + 1) (by simp; omega)
      rw [show k + (j + 1) = k + 1 + j by omega] at this
      simpa using this
    rw [List.length_cons, show rest.length + 1 + f = rest.length + f + 1 by omega]
    rcases h with ⟨hw, v, hy, h⟩ | ⟨hw, h⟩
    · exact wpZ_take h0 hs hf.1 (fun c a w h => hQ c a _ _ w h) hS (.inl ⟨hw, hy⟩) (wpZ_lexHead hs hQ hS f rest (k + 1) _ _ hrest hf.2 h)
    · exact wpZ_take h0 hs hf.1 (fun c a w h => hQ c a _ _ w h) hS (.inr ⟨hw, rfl⟩) (wpZ_lexHead hs hQ hS f rest (k + 1) _ _ hrest hf.2 h)

/-- A stretch of operations, from the k-th on, in the text's order. -/
theorem wpZ_seg {l0 : List Oper} (k n f : Nat) {listed : Array Bool} {a : Act} {w : World} (hn : k + n ≤ l0.length) (hs : Region.noSelect l0.toArray = true) (hf : lexFreeZ md l0.toArray z n k listed = true)
    (hQ : ∀ c (a : Act) d v w, Q (.panic c) (a.put d v) w → Q (.panic c) a w) (hS : S w)
    (h : heldL P l0.toArray S (fun a' => wpZ P md l0.toArray Q S z f (setAll n k listed) a' w) ((l0.drop k).take n) a) : wpZ P md l0.toArray Q S z (n + f) listed a w := by
  have hl : ((l0.drop k).take n).length = n := by simp; omega
  have H := wpZ_lexHead (P := P) (md := md) (ops := l0.toArray) (Q := Q) hs hQ hS f ((l0.drop k).take n) k listed a (fun j hj => by
    rw [hl] at hj
    rw [List.getElem?_take_of_lt hj, List.getElem?_drop]
    simp) (by rw [hl]; exact hf) (by rw [hl]; exact h)
  rw [hl] at H
  exact H

/-- One operation alone may come up. -/
theorem wpZ_lone {i : Nat} {o : Oper} {n : Nat} {listed : Array Bool} {a : Act} {w : World} (hr : Region.ready md ops listed = [i]) (ho : ops[i]? = some o)
    (h : ∀ K' : Act → World → Prop, Shut (∀ a w, (i = z ∨ S w) → wpZ P md ops Q S z n (listed.setIfInBounds i true) a w → K' a w) → if Region.wanted o (yielded ops a.tmps) = true then Oper.wp P o a w K' Q else K' (a.put o.dst undef) w) :
    wpZ P md ops Q S z (n + 1) listed a w := by
  refine ⟨fun e => (by rw [hr] at e; cases e), fun j hj => ?_⟩
  rw [hr] at hj
  obtain rfl := List.mem_singleton.1 hj
  unfold wpOp
  simp only [ho]
  have H := h (fun a' w' => (j = z ∨ S w') ∧ wpZ P md ops Q S z n (listed.setIfInBounds j true) a' w') (show Shut _ from fun a' w' h1 h2 => ⟨h1, h2⟩)
  split
  · rename_i hw
    rw [if_pos hw] at H
    exact .inl H
  · rename_i hw
    rw [if_neg hw] at H
    exact H
theorem wpZ_done {listed : Array Bool} {a : Act} {w : World} (hr : Region.ready md ops listed = []) (h : Q .normal a w) : wpZ P md ops Q S z 0 listed a w := ⟨hr, h⟩

theorem wp_region_Z {id : Nat} {a : Act} {w : World} {l : List Oper} (S : World → Prop) (z : Nat) (hm : P.follows .mixedOrders = true)
    (h : wpZ P .any l.toArray Q S z l.length (Array.replicate l.length false) a w.drew) : (Code.region id l.toArray true).wp P Q a w :=
  wp_region_any hm (wpAny_of_Z _ _ _ _ (by simpa using h))
end

end Go.Proofs.Ythcfgechifogeaa
