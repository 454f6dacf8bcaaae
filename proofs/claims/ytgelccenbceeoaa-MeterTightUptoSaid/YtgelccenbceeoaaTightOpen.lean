/- MeterTight's argument, opened. -/
import Derived.Test.YtgelccenbceeoaaWalkMeterTight
import Derived.Test.YtgelccenbceeoaaRows
namespace Go.Proofs.Ytgelccenbceeoaa
open Go.RowKit
set_option linter.unusedSimpArgs false
set_option linter.unusedVariables false

theorem bulk_len {H : Type} (l : List (DataW H)) : l.length ≤ Rows.uptoBulkAll l := by
  induction l with
  | nil => simp [Rows.uptoBulkAll]
  | cons x r ih =>
    have : 1 ≤ Rows.uptoBulk x := by
      cases x with
      | lit l => cases l <;> simp [Rows.uptoBulk]
      | nil => simp [Rows.uptoBulk]
      | ptr d => simp [Rows.uptoBulk]
      | slice elems spare => simp [Rows.uptoBulk]
      | agg parts => simp [Rows.uptoBulk]
      | iface t d => simp [Rows.uptoBulk]
      | map entries => simp [Rows.uptoBulk]
      | held h => simp [Rows.uptoBulk]
    simp only [Rows.uptoBulkAll, List.length_cons]; omega

theorem bulk_slice {H : Type} (elems spare : List (DataW H)) : elems.length ≤ Rows.uptoBulk (.slice elems spare) := by
  have h1 := bulk_len elems
  simp only [Rows.uptoBulk]
  omega

theorem Act.of_rows {H : Type} {enc : TypeId × Value → H} {P : Program} {w : World} {base : Nat} {spare : Nat → Bool} {held : Bool} {fs : Array Field} {rows : List (List Value)} (h3 : fs.size = 3) (hty : ∀ (j : Nat) (f : Field), fs[j]? = some f → P.underlying f.type = some (.int .i64))
    (h : ∀ (i : Nat) (row : List Value), rows[i]? = some row → row.length = fs.size ∧ ∀ (j : Nat) (f : Field), fs[j]? = some f → ∃ (u : Value) (y : DataW H × List MemPlace) (m : Nat), row[j]? = some u ∧ DataW.trod enc P w base spare held m f.type [u] = some y) :
    ∃ xs : List Act, rows = xs.map Act.row := by
  have key : ∀ row ∈ rows, ∃ x : Act, Act.row x = row := by
    intro row hrow
    obtain ⟨i, hi⟩ := List.mem_iff_getElem?.1 hrow
    obtain ⟨hl, hf⟩ := h i row hi
    have cell : ∀ j, j < 3 → ∃ n : Int, row[j]? = some (.int .i64 n) := by
      intro j hj
      have hjs : j < fs.size := by omega
      obtain ⟨u, y, m, hu, ht⟩ := hf j fs[j] (Array.getElem?_eq_getElem hjs)
      obtain ⟨n, e, _, _⟩ := DataW.trod_int (hty j _ (Array.getElem?_eq_getElem hjs)) ht
      simp at e
      exact ⟨n, by rw [hu, e]⟩
    obtain ⟨a, ha⟩ := cell 0 (by omega)
    obtain ⟨b, hb⟩ := cell 1 (by omega)
    obtain ⟨c, hc⟩ := cell 2 (by omega)
    refine ⟨⟨a, b, c⟩, ?_⟩
    rw [h3] at hl
    obtain ⟨x, y, z, rfl⟩ : ∃ x y z, row = [x, y, z] := by
      match row, hl with
      | [x, y, z], _ => exact ⟨x, y, z, rfl⟩
    obtain rfl := Option.some.inj ha
    obtain rfl := Option.some.inj hb
    obtain rfl := Option.some.inj hc
    rfl
  clear h
  induction rows with
  | nil => exact ⟨[], rfl⟩
  | cons r rs ih =>
    obtain ⟨x, hx⟩ := key r (by simp)
    obtain ⟨xs, hxs⟩ := ih (fun row hr => key row (by simp [hr]))
    exact ⟨x :: xs, by simp [hx, hxs]⟩


set_option maxRecDepth 100000 in
theorem walkMeterTight {H : Type} {enc : TypeId × Value → H} {W : World} {base : Nat} {v0 : Value} {d0 : DataW H} {p0 : List MemPlace} (ok0 : Value.okWide Try.prog W .any base 31 v0) (h0 : DataW.Trod enc Try.prog W 0 (fun _ => true) true 31 v0 d0 p0)
    (z0 : Rows.uptoBulk d0 ≤ 1048576) (more : Int) (_wm : (Lit.int .i64 more).wf = true) (less : Int) (_wl : (Lit.int .i64 less).wf = true) (w : World) (hw : w = W) :
    Calls Try.prog 4 #[v0, .int .i64 more, .int .i64 less] w fun e w' => e = .returned (.bool true) ∧ Below w.heap.size w w' := by
  subst hw
  obtain ⟨A, n, c, rows, rfl, hn, hc, hl, hr, _, hd, hf⟩ := open_rows Try.underlying31 Try.underlying44 (by kernel_rfl) (by kernel_rfl) ok0 h0
  obtain ⟨xs, rfl⟩ := Act.of_rows rfl (by
    intro j f hj
    match j, hj with
    | 0, hj => simp at hj; subst hj; exact Try.underlying3
    | 1, hj => simp at hj; subst hj; exact Try.underlying3
    | 2, hj => simp at hj; subst hj; exact Try.underlying3
    | j + 3, hj => simp at hj) hf
  rw [List.length_map] at hl
  subst hl
  refine walkTight A c xs more less w (Rd.imp hr (fun _ => rfl)) ?_
  rcases hd with h | ⟨elems, sp, rfl, he⟩
  · omega
  · have := bulk_slice elems sp
    omega

end Go.Proofs.Ytgelccenbceeoaa
