/- A region that draws its order, its first operations taken in the text's order, under what is held of the world. -/
import Derived.Test.YthcfgechifogeaaProg
import Derived.Deep.RegionHeld
namespace Go.Proofs.Ythcfgechifogeaa
set_option linter.unusedVariables false

section
variable {P : Program} {ops : Array Oper} {Q : Exit → Act → World → Prop} {md : Region.Mode} {S : World → Prop}

/-- The operations of a list, one by one, in every world that meets S. -/
def heldL (P : Program) (ops : Array Oper) (S : World → Prop) (Q : Act → Prop) : List Oper → Act → Prop
  | [], a => Q a
  | o :: rest, a => (Region.wanted o (yielded ops a.tmps) = true ∧ ∃ v, (∀ w, S w → (execOp a.eval o).run P w = .ok (.value v) w) ∧ heldL P ops S Q rest (a.put o.dst v)) ∨ (Region.wanted o (yielded ops a.tmps) = false ∧ heldL P ops S Q rest (a.put o.dst undef))

theorem heldL_nil {Q : Act → Prop} {a : Act} (h : Q a) : heldL P ops S Q [] a := h
theorem heldL_yes {Q : Act → Prop} {o : Oper} {rest : List Oper} {a : Act} {v : Value} (hw : Region.wanted o (yielded ops a.tmps) = true) (hy : ∀ w, S w → (execOp a.eval o).run P w = .ok (.value v) w) (h : heldL P ops S Q rest (a.put o.dst v)) : heldL P ops S Q (o :: rest) a :=
  .inl ⟨hw, v, hy, h⟩
theorem heldL_no {Q : Act → Prop} {o : Oper} {rest : List Oper} {a : Act} (hw : Region.wanted o (yielded ops a.tmps) = false) (h : heldL P ops S Q rest (a.put o.dst undef)) : heldL P ops S Q (o :: rest) a :=
  .inr ⟨hw, h⟩

def lexFree (md : Region.Mode) (ops : Array Oper) : Nat → Nat → Array Bool → Bool
  | 0, _, _ => true
  | n + 1, k, listed => Region.free md ops listed k && (Region.ready md ops listed).contains k && lexFree md ops n (k + 1) (listed.setIfInBounds k true)
def setAll : Nat → Nat → Array Bool → Array Bool
  | 0, _, listed => listed
  | n + 1, k, listed => setAll n (k + 1) (listed.setIfInBounds k true)

theorem lexHead (hs : Region.noSelect ops = true) (hQ : ∀ c (a : Act) d v w, Q (.panic c) (a.put d v) w → Q (.panic c) a w) {w : World} (hS : S w) (f : Nat) : ∀ (l : List Oper) (k : Nat) (listed : Array Bool) (a : Act), (∀ j, j < l.length → ops[k + j]? = l[j]?) →
    lexFree md ops l.length k listed = true → heldL P ops S (fun a' => wpAnyH P md ops Q S f (setAll l.length k listed) a' w) l a → wpAnyH P md ops Q S (l.length + f) listed a w
  | [], k, listed, a, _, _, h => by simpa [heldL, setAll] using h
  | o :: rest, k, listed, a, hl, hf, h => by
    have h0 : ops[k]? = some o := by simpa using hl 0 (by simp)
    simp only [List.length_cons, lexFree, Bool.and_eq_true] at hf
    have hrest : ∀ j, j < rest.length → ops[k + 1 + j]? = rest[j]? := fun j hj => by
      have := hl (j + 1) (by simp; omega)
      rw [show k + (j + 1) = k + 1 + j by omega] at this
      simpa using this
    rw [List.length_cons, show rest.length + 1 + f = rest.length + f + 1 by omega]
    rcases h with ⟨hw, v, hy, h⟩ | ⟨hw, h⟩
    · exact wpAnyH_take h0 hs hf.1.1 hf.1.2 (fun c a w h => hQ c a _ _ w h) (.inl ⟨hw, hy⟩) hS (lexHead hs hQ hS f rest (k + 1) _ _ hrest hf.2 h)
    · exact wpAnyH_take h0 hs hf.1.1 hf.1.2 (fun c a w h => hQ c a _ _ w h) (.inr ⟨hw, rfl⟩) hS (lexHead hs hQ hS f rest (k + 1) _ _ hrest hf.2 h)

/-- The region: its first n operations in the text's order, then what is left. -/
theorem wp_region_held_lex {id : Nat} {a : Act} {w : World} {l : List Oper} (n : Nat) (S : World → Prop) (hm : P.follows .mixedOrders = true) (hn : n ≤ l.length) (hs : Region.noSelect l.toArray = true) (hf : lexFree .any l.toArray n 0 (Array.replicate l.length false) = true)
    (hQ : ∀ c (a : Act) d v w, Q (.panic c) (a.put d v) w → Q (.panic c) a w) (hS : S w.drew)
    (h : heldL P l.toArray S (fun a' => wpAnyH P .any l.toArray Q S (l.length - n) (setAll n 0 (Array.replicate l.length false)) a' w.drew) (l.take n) a) : (Code.region id l.toArray true).wp P Q a w := by
  refine wp_region_held_drew (S := S) hm hS (fun _ => ?_)
  have hl : (l.take n).length = n := by simp; omega
  have H := lexHead (P := P) (md := .any) (ops := l.toArray) (Q := Q) hs hQ hS (l.length - n) (l.take n) 0 (Array.replicate l.length false) a (fun j hj => by
    rw [hl] at hj
    rw [List.getElem?_take_of_lt hj]
    simp) (by rw [hl]; exact hf) (by rw [hl]; exact h)
  rw [hl, show n + (l.length - n) = l.length by omega] at H
  simpa using H

/-- A stretch of operations, from the k-th on, in the text's order. -/
theorem anyH_seg {l0 : List Oper} (k n f : Nat) {listed : Array Bool} {a : Act} {w : World} (hn : k + n ≤ l0.length) (hs : Region.noSelect l0.toArray = true) (hf : lexFree md l0.toArray n k listed = true)
    (hQ : ∀ c (a : Act) d v w, Q (.panic c) (a.put d v) w → Q (.panic c) a w) (hS : S w)
    (h : heldL P l0.toArray S (fun a' => wpAnyH P md l0.toArray Q S f (setAll n k listed) a' w) ((l0.drop k).take n) a) : wpAnyH P md l0.toArray Q S (n + f) listed a w := by
  have hl : ((l0.drop k).take n).length = n := by simp; omega
  have H := lexHead (P := P) (md := md) (ops := l0.toArray) (Q := Q) hs hQ hS f ((l0.drop k).take n) k listed a (fun j hj => by
    rw [hl] at hj
    rw [List.getElem?_take_of_lt hj, List.getElem?_drop]
    simp) (by rw [hl]; exact hf) (by rw [hl]; exact h)
  rw [hl] at H
  exact H

/-- One operation alone may come up: carried out, S shown anew. -/
theorem wpAnyH_lone {k fuel : Nat} {listed : Array Bool} {a : Act} {w : World} {o : Oper} (hr : Region.ready md ops listed = [k]) (ho : ops[k]? = some o)
    (h : ∀ K' : Act → World → Prop, Shut (∀ a w, S w → (S w → wpAnyH P md ops Q S fuel (listed.setIfInBounds k true) a w) → K' a w) → if Region.wanted o (yielded ops a.tmps) = true then Oper.wp P o a w K' Q else K' (a.put o.dst undef) w) :
    wpAnyH P md ops Q S (fuel + 1) listed a w := wpAnyH_ready hr (by simp) (AllReadyH.cons ho h AllReadyH.nil)
end

end Go.Proofs.Ythcfgechifogeaa
