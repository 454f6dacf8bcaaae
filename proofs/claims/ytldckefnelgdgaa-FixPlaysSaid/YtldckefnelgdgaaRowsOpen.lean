/- Slices of structs of numbers, opened: helpers without a function. -/
import Derived.Test.YtldckefnelgdgaaRow
import Derived.DataShut
namespace Go.Proofs.Ytldckefnelgdgaa
open Go.RowKit
set_option linter.unusedSimpArgs false
set_option linter.unusedVariables false

def InI (x : Int) : Prop := -9223372036854775808 ≤ x ∧ x ≤ 9223372036854775807

theorem int_row_in {H : Type} {enc : TypeId × Value → H} {P : Program} {w : World} {base : Nat} {spare : Nat → Bool} {held : Bool} {fs : Array Field} {row : List Value} (hty : ∀ (j : Nat) (f : Field), fs[j]? = some f → P.underlying f.type = some (.int .i64))
    (hl : row.length = fs.size) (hf : ∀ (j : Nat) (f : Field), fs[j]? = some f → ∃ (u : Value) (y : DataW H × List MemPlace) (m : Nat), row[j]? = some u ∧ DataW.trod enc P w base spare held m f.type [u] = some y) :
    ∃ xs : List Int, row = xs.map (Value.int .i64) ∧ ∀ x ∈ xs, InI x := by
  have key : ∀ v ∈ row, ∃ n : Int, v = .int .i64 n ∧ InI n := by
    intro v hv
    obtain ⟨j, hj⟩ := List.mem_iff_getElem?.1 hv
    have hjs : j < fs.size := by have := (List.getElem?_eq_some_iff.1 hj).1; omega
    obtain ⟨u, y, m, hu, ht⟩ := hf j fs[j] (Array.getElem?_eq_getElem hjs)
    obtain ⟨n, e, _, hw⟩ := DataW.trod_int (hty j _ (Array.getElem?_eq_getElem hjs)) ht
    simp at e
    rw [hj] at hu
    exact ⟨n, (Option.some.inj hu).trans e, (Lit.wf_int_iff _ _).1 hw⟩
  clear hl hf
  induction row with
  | nil => exact ⟨[], rfl, by simp⟩
  | cons v r ih =>
    obtain ⟨n, hn, hi⟩ := key v (by simp)
    obtain ⟨xs, hxs, hin⟩ := ih (fun u hu => key u (by simp [hu]))
    exact ⟨n :: xs, by simp [hn, hxs], by intro x hx; rcases List.mem_cons.1 hx with rfl | hx; exact hi; exact hin x hx⟩

theorem rows_map2 {α : Type} {enc : α → List Value} {Q : α → Prop} : ∀ (rows : List (List Value)), (∀ row ∈ rows, ∃ x, enc x = row ∧ Q x) → ∃ xs : List α, rows = xs.map enc ∧ ∀ x ∈ xs, Q x
  | [], _ => ⟨[], rfl, by simp⟩
  | r :: rs, h => by
    obtain ⟨x, hx, hq⟩ := h r (by simp)
    obtain ⟨xs, hxs, hqs⟩ := rows_map2 rs (fun row hr => h row (by simp [hr]))
    exact ⟨x :: xs, by simp [hx, hxs], by intro y hy; rcases List.mem_cons.1 hy with rfl | hy; exact hq; exact hqs y hy⟩

end Go.Proofs.Ytldckefnelgdgaa
