/- TableTells' arguments, opened. -/
import Derived.Test.YthcfgechifogeaaTabTells
namespace Go.Proofs.Ythcfgechifogeaa
open Go.RowKit Go.ChangeShapes Go.WideShapes Go.Deep
set_option linter.unusedSimpArgs false
set_option linter.unusedVariables false

theorem AskX.of_cells {row : List Value} (hl : row.length = 2) (h0 : ∃ n : Int, row[0]? = some (.int .i64 n) ∧ InI n) (h1 : ∃ n : Int, row[1]? = some (.int .i64 n) ∧ InI n) : ∃ x : AskX, AskX.row x = row ∧ x.inI := by
  match row, hl with
  | [r0, r1], _ =>
    obtain ⟨n0, h0, i0⟩ := h0
    obtain ⟨n1, h1, i1⟩ := h1
    simp at h0 h1
    subst h0 h1
    exact ⟨⟨n0, n1⟩, rfl, i0, i1⟩
set_option maxRecDepth 100000 in
theorem open_asks {H : Type} {enc : TypeId × Value → H} {W : World} {base : Nat} {v0 : Value} {d0 : DataW H} {p0 : List MemPlace} (ok0 : Value.okWide Try.prog W .any base 26 v0) (h0 : DataW.Trod enc Try.prog W 0 (fun _ => true) true 26 v0 d0 p0) :
    ∃ (A : Option Addr) (c : Nat) (ps : List AskX), v0 = .slice A ps.length c ∧ ps.length ≤ 9223372036854775807 ∧ Rd AskX.row 2 W A ps ∧ ∀ p ∈ ps, p.inI := by
  obtain ⟨a0, len, cap, rfl⟩ := okWide_slice Try.underlying26 ok0
  obtain ⟨fuel, hf⟩ := h0
  obtain ⟨A, n, c, rows, hv, hn, hc, hl, hr, hA, hfs⟩ := open_rows_cell Try.underlying26 Try.underlying92 (by kernel_rfl) (by kernel_rfl) (v := .slice a0 len cap) hf
  obtain ⟨ps, rfl, hq⟩ := rows_map' (enc := AskX.row) (Q := fun p => p.inI) rows (by
    intro row hrow
    obtain ⟨i, hi⟩ := List.mem_iff_getElem?.1 hrow
    obtain ⟨h1, h2⟩ := hfs i row hi
    exact AskX.of_cells h1 (cell_in Try.underlying3 (h2 0 _ rfl)) (cell_in Try.underlying3 (h2 1 _ rfl)))
  rw [List.length_map] at hl
  subst hl
  exact ⟨A, c, ps, hv, by unfold maxLen at hc; omega, Rd.imp hr (fun _ => rfl), hq⟩

set_option maxRecDepth 100000 in
theorem walkTableTells {H : Type} {enc : TypeId × Value → H} {W : World} {base : Nat} {v0 v1 : Value} {d0 d1 : DataW H} {p0 p1 : List MemPlace} (ok0 : Value.okWide Try.prog W .any base 25 v0) (h0 : DataW.Trod enc Try.prog W 0 (fun _ => true) true 25 v0 d0 p0)
    (z0 : ∀ n ∈ d0.weights Try.prog 25, n ≤ reachBytes) (ok1 : Value.okWide Try.prog W .any base 26 v1) (h1 : DataW.Trod enc Try.prog W 0 (fun _ => true) true 26 v1 d1 p1)
    (z1 : ∀ n ∈ d1.weights Try.prog 26, n ≤ reachBytes) (w : World) (hw : w = W) :
    Calls Try.prog 3 #[v0, v1] w fun e w' => e = .returned (.bool true) ∧ Below w.heap.size w w' := by
  subst hw
  obtain ⟨f, rfl, hf⟩ := open_font ok0 h0
  obtain ⟨A, c, asks, rfl, hn, hr, hi⟩ := open_asks ok1 h1
  exact walkTells f A c asks w hf hr hi hn

end Go.Proofs.Ythcfgechifogeaa
