/- MeterScript's arguments, opened. -/
import Derived.Test.YtgelccenbceeoaaWalkMeterScript
import Derived.Test.YtgelccenbceeoaaRows
namespace Go.Proofs.Ytgelccenbceeoaa
open Go.RowKit
set_option linter.unusedSimpArgs false
set_option linter.unusedVariables false

theorem Act.of_rows2 {H : Type} {enc : TypeId × Value → H} {P : Program} {w : World} {base : Nat} {spare : Nat → Bool} {held : Bool} {fs : Array Field} {rows : List (List Value)} (h3 : fs.size = 3) (hty : ∀ (j : Nat) (f : Field), fs[j]? = some f → P.underlying f.type = some (.int .i64))
    (h : ∀ (i : Nat) (row : List Value), rows[i]? = some row → row.length = fs.size ∧ ∀ (j : Nat) (f : Field), fs[j]? = some f → ∃ (u : Value) (y : DataW H × List MemPlace) (m : Nat), row[j]? = some u ∧ DataW.trod enc P w base spare held m f.type [u] = some y) :
    ∃ xs : List Act, rows = xs.map Act.row := by
  have key : ∀ row ∈ rows, ∃ x : Act, Act.row x = row := by
    intro row hrow
    obtain ⟨i, hi⟩ := List.mem_iff_getElem?.1 hrow
    obtain ⟨hl, hf⟩ := h i row hi
    have cell : ∀ j, j < 3 → ∃ n : Int, row[j]? = some (.int .i64 n) := by
      intro j hj
      have hjs : j < fs.size := by omega
      obtain ⟨u, y, m, hu, ht⟩ := hf j fs[j] (Array.getElem?_eq_getElem hjs)
      obtain ⟨n, e, _, _⟩ := DataW.trod_int (hty j _ (Array.getElem?_eq_getElem hjs)) ht
      simp at e
      exact ⟨n, by rw [hu, e]⟩
    obtain ⟨a, ha⟩ := cell 0 (by omega)
    obtain ⟨b, hb⟩ := cell 1 (by omega)
    obtain ⟨c, hc⟩ := cell 2 (by omega)
    refine ⟨⟨a, b, c⟩, ?_⟩
    rw [h3] at hl
    obtain ⟨x, y, z, rfl⟩ : ∃ x y z, row = [x, y, z] := by
      match row, hl with
      | [x, y, z], _ => exact ⟨x, y, z, rfl⟩
    obtain rfl := Option.some.inj ha
    obtain rfl := Option.some.inj hb
    obtain rfl := Option.some.inj hc
    rfl
  clear h
  induction rows with
  | nil => exact ⟨[], rfl⟩
  | cons r rs ih =>
    obtain ⟨x, hx⟩ := key r (by simp)
    obtain ⟨xs, hxs⟩ := ih (fun row hr => key row (by simp [hr]))
    exact ⟨x :: xs, by simp [hx, hxs]⟩


theorem wf_i64 {a : Int} (h : (Lit.int .i64 a).wf = true) : a ≤ 9223372036854775807 := by
  simp [Lit.wf, IntKind.min, IntKind.max, IntKind.signed, IntKind.bits] at h
  omega

set_option maxRecDepth 100000 in
theorem walkMeterScript {H : Type} {enc : TypeId × Value → H} {W : World} {base : Nat} {v0 : Value} {d0 : DataW H} {p0 : List MemPlace} (s : Int) (ws : (Lit.int .i64 s).wf = true) (d : Int) (wd : (Lit.int .i64 d).wf = true)
    (ok0 : Value.okWide Try.prog W .any base 31 v0) (h0 : DataW.Trod enc Try.prog W 0 (fun _ => true) true 31 v0 d0 p0)
    (_z0 : ∀ n ∈ d0.weights Try.prog 31, n ≤ reachBytes) (w : World) (hw : w = W) :
    Calls Try.prog 6 #[.int .i64 s, .int .i64 d, v0] w fun e w' => e = .returned (.bool true) ∧ Below w.heap.size w w' := by
  subst hw
  obtain ⟨A, n, c, rows, rfl, hn, hc, hl, hr, _, hd, hf⟩ := open_rows Try.underlying31 Try.underlying44 (by kernel_rfl) (by kernel_rfl) ok0 h0
  obtain ⟨xs, rfl⟩ := Act.of_rows2 rfl (by
    intro j f hj
    match j, hj with
    | 0, hj => simp at hj; subst hj; exact Try.underlying3
    | 1, hj => simp at hj; subst hj; exact Try.underlying3
    | 2, hj => simp at hj; subst hj; exact Try.underlying3
    | j + 3, hj => simp at hj) hf
  rw [List.length_map] at hl
  subst hl
  unfold maxLen at hc
  exact walkScript A c xs s d w (Rd.imp hr (fun _ => rfl)) (by omega) (wf_i64 ws) (wf_i64 wd)

end Go.Proofs.Ytgelccenbceeoaa
