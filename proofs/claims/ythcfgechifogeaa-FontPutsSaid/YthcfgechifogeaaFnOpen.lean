/- Fonts as arguments, opened. -/
import Derived.Test.YthcfgechifogeaaTabNew
import Derived.Deep.Slices
import Derived.ChangeSlices
import Derived.SizedLaws
namespace Go.Proofs.Ythcfgechifogeaa
open Go.RowKit Go.ChangeShapes Go.WideShapes Go.Deep
set_option linter.unusedSimpArgs false
set_option linter.unusedVariables false

section
variable {H : Type} {enc : TypeId × Value → H} {P : Program} {w : World} {base : Nat} {spare : Nat → Bool} {held : Bool}

/-- A slice of structs of one-cell fields, read off its one cell. -/
theorem open_rows_cell {t e : TypeId} {fs : Array Field} {v : Value} {y : DataW H × List MemPlace} {fuel : Nat} (ht : P.underlying t = some (.slice e)) (he : P.underlying e = some (.struct fs))
    (hone : oneCellFields P fs = true) (hC : P.cellsOf e = fs.size) (hf : DataW.trod enc P w base spare held fuel t [v] = some y) :
    ∃ (A : Option Addr) (n c : Nat) (rows : List (List Value)), v = .slice A n c ∧ n ≤ c ∧ c ≤ maxLen ∧ rows.length = n ∧ Rd id fs.size w A rows ∧ (A = none → c = 0) ∧
      ∀ (i : Nat) (row : List Value), rows[i]? = some row → row.length = fs.size ∧ ∀ (j : Nat) (f : Field), fs[j]? = some f → ∃ (u : Value) (y : DataW H × List MemPlace) (m : Nat), row[j]? = some u ∧ DataW.trod enc P w base spare held m f.type [u] = some y := by
  rcases open_slice ht hf with ⟨hcs, _⟩ | ⟨a, l, c, m, n, D, Pl, hcs, _, hl, hm, hmm, hx, hi⟩
  · simp at hcs
    subst hcs
    exact ⟨none, 0, 0, [], rfl, Nat.le_refl _, Nat.zero_le _, rfl, Rd.nil _ _ _ _, fun _ => rfl, by simp⟩
  · simp at hcs
    subst hcs
    have hlm : l ≤ m := by rw [hmm]; split <;> omega
    have hrow : ∀ i, i < l → ∃ row : List Value, row.length = fs.size ∧ (∀ j u, row[j]? = some u → w.cell? (a.add (i * fs.size + j)) = some u) ∧
        ∀ (j : Nat) (f : Field), fs[j]? = some f → ∃ (u : Value) (y : DataW H × List MemPlace) (m : Nat), row[j]? = some u ∧ DataW.trod enc P w base spare held m f.type [u] = some y := by
      intro i hil
      obtain ⟨cs', hc, ht'⟩ := hi i (by omega)
      rw [hC] at hc
      obtain ⟨ys, n', hn', hy, hlen, hyl, hfld⟩ := DataW.trod_struct he ht'
      obtain ⟨_, hcl, hat⟩ := World.cells?_some hc
      refine ⟨cs', hcl, fun j u hju => ?_, fun j f hj => ?_⟩
      · have hjl : j < fs.size := by have := (List.getElem?_eq_some_iff.1 hju).1; omega
        have hcell := hat j hjl
        rw [← Go.Deep.add_add, hcell, hju]
      · obtain ⟨ho, hk⟩ := hone_of hone j f hj
        have hjl : j < fs.size := (Array.getElem?_eq_some_iff.1 hj).1
        have h1 := hfld j f hj
        rw [ho, hk] at h1
        have hone' : (cs'.drop j).take 1 = [cs'[j]'(by omega)] := by
          rw [List.drop_eq_getElem_cons (by omega)]
          rfl
        rw [hone'] at h1
        exact ⟨cs'[j]'(by omega), _, _, List.getElem?_eq_getElem (by omega), h1.trans (List.getElem?_eq_getElem (by omega))⟩
    obtain ⟨rows, hrl, hrp⟩ := list_of hrow
    exact ⟨some a, l, c, rows, rfl, hl, hm, hrl, fun i row hr => ⟨a, rfl, (hrp i row hr).2.1⟩, fun e => (nomatch e), fun i row hr => ⟨(hrp i row hr).1, (hrp i row hr).2.2⟩⟩

theorem cell_in {f : Field} {row : List Value} {j : Nat} (hty : P.underlying f.type = some (.int .i64)) (h : ∃ (u : Value) (y : DataW H × List MemPlace) (m : Nat), row[j]? = some u ∧ DataW.trod enc P w base spare held m f.type [u] = some y) : ∃ n : Int, row[j]? = some (.int .i64 n) ∧ InI n := by
  obtain ⟨u, y, m, hu, ht⟩ := h
  obtain ⟨n, e, _, hw⟩ := DataW.trod_int hty ht
  simp at e
  exact ⟨n, by rw [hu, e], (Lit.wf_int_iff _ _).1 hw⟩
theorem cell_bool {f : Field} {row : List Value} {j : Nat} (hty : P.underlying f.type = some .bool) (h : ∃ (u : Value) (y : DataW H × List MemPlace) (m : Nat), row[j]? = some u ∧ DataW.trod enc P w base spare held m f.type [u] = some y) : ∃ b : Bool, row[j]? = some (.bool b) := by
  obtain ⟨u, y, m, hu, ht⟩ := h
  obtain ⟨n, e, _⟩ := DataW.trod_bool hty ht
  simp at e
  exact ⟨n, by rw [hu, e]⟩
end

theorem rows_map' {α : Type} {enc : α → List Value} {Q : α → Prop} : ∀ (rows : List (List Value)), (∀ row ∈ rows, ∃ x, enc x = row ∧ Q x) → ∃ xs : List α, rows = xs.map enc ∧ ∀ x ∈ xs, Q x
  | [], _ => ⟨[], rfl, by simp⟩
  | r :: rs, h => by
    obtain ⟨x, hx, hq⟩ := h r (by simp)
    obtain ⟨xs, hxs, hqs⟩ := rows_map' rs (fun row hr => h row (by simp [hr]))
    exact ⟨x :: xs, by simp [hx, hxs], by intro y hy; rcases List.mem_cons.1 hy with rfl | hy; exact hq; exact hqs y hy⟩


theorem GlyphX.of_cells {row : List Value} (hl : row.length = 4) (h0 : ∃ n : Int, row[0]? = some (.int .i64 n) ∧ InI n) (h1 : ∃ n : Int, row[1]? = some (.int .i64 n) ∧ InI n) (h2 : ∃ n : Int, row[2]? = some (.int .i64 n) ∧ InI n) (h3 : ∃ n : Int, row[3]? = some (.int .i64 n) ∧ InI n) :
    ∃ x : GlyphX, GlyphX.row x = row ∧ x.inI := by
  match row, hl with
  | [r0, r1, r2, r3], _ =>
    obtain ⟨n0, h0, i0⟩ := h0
    obtain ⟨n1, h1, i1⟩ := h1
    obtain ⟨n2, h2, i2⟩ := h2
    obtain ⟨n3, h3, i3⟩ := h3
    simp at h0 h1 h2 h3
    subst h0 h1 h2 h3
    exact ⟨⟨n0, n1, n2, n3⟩, rfl, i0, i1, i2, i3⟩
theorem PairX.of_cells {row : List Value} (hl : row.length = 5) (h0 : ∃ n : Int, row[0]? = some (.int .i64 n) ∧ InI n) (h1 : ∃ n : Int, row[1]? = some (.int .i64 n) ∧ InI n) (h2 : ∃ b : Bool, row[2]? = some (.bool b)) (h3 : ∃ n : Int, row[3]? = some (.int .i64 n) ∧ InI n) (h4 : ∃ n : Int, row[4]? = some (.int .i64 n) ∧ InI n) :
    ∃ x : PairX, PairX.row x = row ∧ x.inI := by
  match row, hl with
  | [r0, r1, r2, r3, r4], _ =>
    obtain ⟨n0, h0, i0⟩ := h0
    obtain ⟨n1, h1, i1⟩ := h1
    obtain ⟨b, h2⟩ := h2
    obtain ⟨n3, h3, i3⟩ := h3
    obtain ⟨n4, h4, i4⟩ := h4
    simp at h0 h1 h2 h3 h4
    subst h0 h1 h2 h3 h4
    exact ⟨⟨n0, n1, b, n3, n4⟩, rfl, i0, i1, i3, i4⟩

set_option maxRecDepth 100000 in
theorem open_glyphs {H : Type} {enc : TypeId × Value → H} {w : World} {base : Nat} {spare : Nat → Bool} {held : Bool} {v : Value} {y : DataW H × List MemPlace} {fuel : Nat} (hf : DataW.trod enc Try.prog w base spare held fuel 22 [v] = some y) :
    ∃ (A : Option Addr) (c : Nat) (ps : List GlyphX), v = .slice A ps.length c ∧ ps.length ≤ 9223372036854775807 ∧ Rd GlyphX.row 4 w A ps ∧ (A = none → ps.length = 0) ∧ ∀ p ∈ ps, p.inI := by
  obtain ⟨A, n, c, rows, rfl, hn, hc, hl, hr, hA, hfs⟩ := open_rows_cell Try.underlying22 Try.underlying45 (by kernel_rfl) (by kernel_rfl) hf
  obtain ⟨ps, rfl, hq⟩ := rows_map' (enc := GlyphX.row) (Q := fun p => p.inI) rows (by
    intro row hrow
    obtain ⟨i, hi⟩ := List.mem_iff_getElem?.1 hrow
    obtain ⟨h1, h2⟩ := hfs i row hi
    exact GlyphX.of_cells h1 (cell_in Try.underlying3 (h2 0 _ rfl)) (cell_in Try.underlying3 (h2 1 _ rfl)) (cell_in Try.underlying3 (h2 2 _ rfl)) (cell_in Try.underlying3 (h2 3 _ rfl)))
  rw [List.length_map] at hl
  subst hl
  exact ⟨A, c, ps, rfl, by unfold maxLen at hc; omega, Rd.imp hr (fun _ => rfl), fun e => by have := hA e; omega, hq⟩
set_option maxRecDepth 100000 in
theorem open_pairs {H : Type} {enc : TypeId × Value → H} {w : World} {base : Nat} {spare : Nat → Bool} {held : Bool} {v : Value} {y : DataW H × List MemPlace} {fuel : Nat} (hf : DataW.trod enc Try.prog w base spare held fuel 23 [v] = some y) :
    ∃ (A : Option Addr) (c : Nat) (ps : List PairX), v = .slice A ps.length c ∧ ps.length ≤ 9223372036854775807 ∧ Rd PairX.row 5 w A ps ∧ (A = none → ps.length = 0) ∧ ∀ p ∈ ps, p.inI := by
  obtain ⟨A, n, c, rows, rfl, hn, hc, hl, hr, hA, hfs⟩ := open_rows_cell Try.underlying23 Try.underlying52 (by kernel_rfl) (by kernel_rfl) hf
  obtain ⟨ps, rfl, hq⟩ := rows_map' (enc := PairX.row) (Q := fun p => p.inI) rows (by
    intro row hrow
    obtain ⟨i, hi⟩ := List.mem_iff_getElem?.1 hrow
    obtain ⟨h1, h2⟩ := hfs i row hi
    exact PairX.of_cells h1 (cell_in Try.underlying3 (h2 0 _ rfl)) (cell_in Try.underlying3 (h2 1 _ rfl)) (cell_bool Try.underlying4 (h2 2 _ rfl)) (cell_in Try.underlying3 (h2 3 _ rfl)) (cell_in Try.underlying3 (h2 4 _ rfl)))
  rw [List.length_map] at hl
  subst hl
  exact ⟨A, c, ps, rfl, by unfold maxLen at hc; omega, Rd.imp hr (fun _ => rfl), fun e => by have := hA e; omega, hq⟩
set_option maxRecDepth 100000 in
theorem open_font {H : Type} {enc : TypeId × Value → H} {W : World} {base : Nat} {v0 : Value} {d0 : DataW H} {p0 : List MemPlace} (ok0 : Value.okWide Try.prog W .any base 25 v0) (h0 : DataW.Trod enc Try.prog W 0 (fun _ => true) true 25 v0 d0 p0) : ∃ f : FontX, v0 = f.val ∧ IsF W f := by
  obtain ⟨cs, rfl, hsz⟩ := okWide_struct Try.underlying25 ok0
  obtain ⟨fuel, hf⟩ := h0
  obtain ⟨ys, n, _, _, hcl, hyl, hfld⟩ := DataW.trod_struct Try.underlying25 hf
  have hc3 : Try.prog.cellsOf 25 = 3 := by kernel_rfl
  have hc1 : Try.prog.cellsOf 3 = 1 := by kernel_rfl
  have hcg : Try.prog.cellsOf 22 = 1 := by kernel_rfl
  have hcp : Try.prog.cellsOf 23 = 1 := by kernel_rfl
  rw [hc3] at hsz
  obtain ⟨cl⟩ := cs
  match cl, hsz with
  | [a, b, c], _ =>
    match ys, hyl with
    | [y0, y1, y2], _ =>
      have g0 := hfld 0 _ rfl
      have g1 := hfld 1 _ rfl
      have g2 := hfld 2 _ rfl
      simp [Value.cells, hc1, hcg, hcp] at g0 g1 g2
      obtain ⟨em, e0, _, _⟩ := DataW.trod_int Try.underlying3 g0
      obtain ⟨A, c1, gs, rfl, r1, r2, r3, r4⟩ := open_glyphs g1
      obtain ⟨B, c2, ps, rfl, s1, s2, s3, s4⟩ := open_pairs g2
      simp at e0
      subst e0
      exact ⟨⟨em, A, c1, B, c2, gs, ps⟩, rfl, r2, s2, r3, s3, r4, s4, r1, s1⟩

end Go.Proofs.Ythcfgechifogeaa
