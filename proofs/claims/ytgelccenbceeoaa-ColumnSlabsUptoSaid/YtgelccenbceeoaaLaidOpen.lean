/- Paragraphs and lines as arguments, opened. -/
import Derived.Test.YtgelccenbceeoaaWalkColumnParts
import Derived.Test.YtgelccenbceeoaaWalkColumnTall
import Derived.Deep.Slices
import Derived.SizedLaws
namespace Go.Proofs.Ytgelccenbceeoaa
open Go.RowKit Go.ChangeShapes Go.WideShapes Go.Deep
set_option linter.unusedSimpArgs false
set_option linter.unusedVariables false

section
variable {H : Type} {enc : TypeId × Value → H} {P : Program} {w : World} {base : Nat} {spare : Nat → Bool} {held : Bool}

/-- A slice of structs of one-cell fields, read off its one cell. -/
theorem open_rows_cell {t e : TypeId} {fs : Array Field} {v : Value} {y : DataW H × List MemPlace} {fuel : Nat} (ht : P.underlying t = some (.slice e)) (he : P.underlying e = some (.struct fs))
    (hone : oneCellFields P fs = true) (hC : P.cellsOf e = fs.size) (hf : DataW.trod enc P w base spare held fuel t [v] = some y) :
    ∃ (A : Option Addr) (n c : Nat) (rows : List (List Value)), v = .slice A n c ∧ n ≤ c ∧ c ≤ maxLen ∧ rows.length = n ∧ Rd id fs.size w A rows ∧ (A = none → c = 0) ∧
      ∀ (i : Nat) (row : List Value), rows[i]? = some row → row.length = fs.size ∧ ∀ (j : Nat) (f : Field), fs[j]? = some f → ∃ (u : Value) (y : DataW H × List MemPlace) (m : Nat), row[j]? = some u ∧ DataW.trod enc P w base spare held m f.type [u] = some y := by
  rcases open_slice ht hf with ⟨hcs, _⟩ | ⟨a, l, c, m, n, D, Pl, hcs, _, hl, hm, hmm, hx, hi⟩
  · simp at hcs
    subst hcs
    exact ⟨none, 0, 0, [], rfl, Nat.le_refl _, Nat.zero_le _, rfl, Rd.nil _ _ _ _, fun _ => rfl, by simp⟩
  · simp at hcs
    subst hcs
    have hlm : l ≤ m := by rw [hmm]; split <;> omega
    have hrow : ∀ i, i < l → ∃ row : List Value, row.length = fs.size ∧ (∀ j u, row[j]? = some u → w.cell? (a.add (i * fs.size + j)) = some u) ∧
        ∀ (j : Nat) (f : Field), fs[j]? = some f → ∃ (u : Value) (y : DataW H × List MemPlace) (m : Nat), row[j]? = some u ∧ DataW.trod enc P w base spare held m f.type [u] = some y := by
      intro i hil
      obtain ⟨cs', hc, ht'⟩ := hi i (by omega)
      rw [hC] at hc
      obtain ⟨ys, n', hn', hy, hlen, hyl, hfld⟩ := DataW.trod_struct he ht'
      obtain ⟨_, hcl, hat⟩ := World.cells?_some hc
      refine ⟨cs', hcl, fun j u hju => ?_, fun j f hj => ?_⟩
      · have hjl : j < fs.size := by have := (List.getElem?_eq_some_iff.1 hju).1; omega
        have hcell := hat j hjl
        rw [← Go.Deep.add_add, hcell, hju]
      · obtain ⟨ho, hk⟩ := hone_of hone j f hj
        have hjl : j < fs.size := (Array.getElem?_eq_some_iff.1 hj).1
        have h1 := hfld j f hj
        rw [ho, hk] at h1
        have hone' : (cs'.drop j).take 1 = [cs'[j]'(by omega)] := by
          rw [List.drop_eq_getElem_cons (by omega)]
          rfl
        rw [hone'] at h1
        exact ⟨cs'[j]'(by omega), _, _, List.getElem?_eq_getElem (by omega), h1.trans (List.getElem?_eq_getElem (by omega))⟩
    obtain ⟨rows, hrl, hrp⟩ := list_of hrow
    exact ⟨some a, l, c, rows, rfl, hl, hm, hrl, fun i row hr => ⟨a, rfl, (hrp i row hr).2.1⟩, fun e => (nomatch e), fun i row hr => ⟨(hrp i row hr).1, (hrp i row hr).2.2⟩⟩

theorem cell_int {f : Field} {row : List Value} {j : Nat} (hty : P.underlying f.type = some (.int .i64)) (h : ∃ (u : Value) (y : DataW H × List MemPlace) (m : Nat), row[j]? = some u ∧ DataW.trod enc P w base spare held m f.type [u] = some y) : ∃ n : Int, row[j]? = some (.int .i64 n) := by
  obtain ⟨u, y, m, hu, ht⟩ := h
  obtain ⟨n, e, _, _⟩ := DataW.trod_int hty ht
  simp at e
  exact ⟨n, by rw [hu, e]⟩
theorem cell_bool {f : Field} {row : List Value} {j : Nat} (hty : P.underlying f.type = some .bool) (h : ∃ (u : Value) (y : DataW H × List MemPlace) (m : Nat), row[j]? = some u ∧ DataW.trod enc P w base spare held m f.type [u] = some y) : ∃ b : Bool, row[j]? = some (.bool b) := by
  obtain ⟨u, y, m, hu, ht⟩ := h
  obtain ⟨n, e, _⟩ := DataW.trod_bool hty ht
  simp at e
  exact ⟨n, by rw [hu, e]⟩
theorem cell_slice {f : Field} {e : TypeId} {row : List Value} {j : Nat} (hty : P.underlying f.type = some (.slice e)) (h : ∃ (u : Value) (y : DataW H × List MemPlace) (m : Nat), row[j]? = some u ∧ DataW.trod enc P w base spare held m f.type [u] = some y) :
    ∃ (a : Option Addr) (n c : Nat), row[j]? = some (.slice a n c) ∧ n ≤ maxLen := by
  obtain ⟨u, y, m, hu, ht⟩ := h
  rcases DataW.trod_slice hty ht with ⟨e, _⟩ | ⟨a, l, c, _, _, _, _, e, _, _, hl, hm, _⟩
  · simp at e
    exact ⟨none, 0, 0, by rw [hu, e], by simp⟩
  · simp at e
    exact ⟨some a, l, c, by rw [hu, e], by omega⟩
end

theorem rows_map' {α : Type} {enc : α → List Value} {Q : α → Prop} : ∀ (rows : List (List Value)), (∀ row ∈ rows, ∃ x, enc x = row ∧ Q x) → ∃ xs : List α, rows = xs.map enc ∧ ∀ x ∈ xs, Q x
  | [], _ => ⟨[], rfl, by simp⟩
  | r :: rs, h => by
    obtain ⟨x, hx, hq⟩ := h r (by simp)
    obtain ⟨xs, hxs, hqs⟩ := rows_map' rs (fun row hr => h row (by simp [hr]))
    exact ⟨x :: xs, by simp [hx, hxs], by intro y hy; rcases List.mem_cons.1 hy with rfl | hy; exact hq; exact hqs y hy⟩

theorem ParX.of_cells {row : List Value} (hl : row.length = 7) (h0 : ∃ (a : Option Addr) (n c : Nat), row[0]? = some (.slice a n c) ∧ n ≤ maxLen) (h1 : ∃ n : Int, row[1]? = some (.int .i64 n)) (h2 : ∃ n : Int, row[2]? = some (.int .i64 n)) (h3 : ∃ n : Int, row[3]? = some (.int .i64 n))
    (h4 : ∃ n : Int, row[4]? = some (.int .i64 n)) (h5 : ∃ n : Int, row[5]? = some (.int .i64 n)) (h6 : ∃ n : Int, row[6]? = some (.int .i64 n)) : ∃ x : ParX, ParX.row x = row ∧ x.pn ≤ 9223372036854775807 := by
  match row, hl with
  | [r0, r1, r2, r3, r4, r5, r6], _ =>
    obtain ⟨a, n, c, h0, hn⟩ := h0
    obtain ⟨n1, h1⟩ := h1
    obtain ⟨n2, h2⟩ := h2
    obtain ⟨n3, h3⟩ := h3
    obtain ⟨n4, h4⟩ := h4
    obtain ⟨n5, h5⟩ := h5
    obtain ⟨n6, h6⟩ := h6
    simp at h0 h1 h2 h3 h4 h5 h6
    subst h0 h1 h2 h3 h4 h5 h6
    exact ⟨⟨a, n, c, n1, n2, n3, n4, n5, n6⟩, rfl, by unfold maxLen at hn; simp only; omega⟩

theorem LineX.of_cells {row : List Value} (hl : row.length = 14) (hi : ∀ j, j < 9 → ∃ n : Int, row[j]? = some (.int .i64 n)) (hb : ∀ j, 9 ≤ j → j < 12 → ∃ b : Bool, row[j]? = some (.bool b)) (hi' : ∀ j, 12 ≤ j → j < 14 → ∃ n : Int, row[j]? = some (.int .i64 n)) : ∃ x : LineX, LineX.row x = row := by
  match row, hl with
  | [r0, r1, r2, r3, r4, r5, r6, r7, r8, r9, r10, r11, r12, r13], _ =>
    obtain ⟨n0, h0⟩ := hi 0 (by omega)
    obtain ⟨n1, h1⟩ := hi 1 (by omega)
    obtain ⟨n2, h2⟩ := hi 2 (by omega)
    obtain ⟨n3, h3⟩ := hi 3 (by omega)
    obtain ⟨n4, h4⟩ := hi 4 (by omega)
    obtain ⟨n5, h5⟩ := hi 5 (by omega)
    obtain ⟨n6, h6⟩ := hi 6 (by omega)
    obtain ⟨n7, h7⟩ := hi 7 (by omega)
    obtain ⟨n8, h8⟩ := hi 8 (by omega)
    obtain ⟨n9, h9⟩ := hb 9 (by omega) (by omega)
    obtain ⟨n10, h10⟩ := hb 10 (by omega) (by omega)
    obtain ⟨n11, h11⟩ := hb 11 (by omega) (by omega)
    obtain ⟨n12, h12⟩ := hi' 12 (by omega) (by omega)
    obtain ⟨n13, h13⟩ := hi' 13 (by omega) (by omega)
    simp at h0 h1 h2 h3 h4 h5 h6 h7 h8 h9 h10 h11 h12 h13
    subst h0 h1 h2 h3 h4 h5 h6 h7 h8 h9 h10 h11 h12 h13
    exact ⟨⟨n0, n1, n2, n3, n4, n5, n6, n7, n8, n9, n10, n11, n12, n13⟩, rfl⟩

set_option maxRecDepth 100000 in
/-- The paragraphs of an argument. -/
theorem open_pars {H : Type} {enc : TypeId × Value → H} {w : World} {base : Nat} {spare : Nat → Bool} {held : Bool} {v : Value} {y : DataW H × List MemPlace} {fuel : Nat} (hf : DataW.trod enc Try.prog w base spare held fuel 55 [v] = some y) :
    ∃ (A : Option Addr) (c : Nat) (ps : List ParX), v = .slice A ps.length c ∧ ps.length ≤ c ∧ c ≤ 9223372036854775807 ∧ Rd ParX.row 7 w A ps ∧ (A = none → c = 0) ∧ ∀ p ∈ ps, p.pn ≤ 9223372036854775807 := by
  obtain ⟨A, n, c, rows, rfl, hn, hc, hl, hr, hA, hfs⟩ := open_rows_cell Try.underlying55 Try.underlying66 (by kernel_rfl) (by kernel_rfl) hf
  obtain ⟨ps, rfl, hq⟩ := rows_map' (enc := ParX.row) (Q := fun p => p.pn ≤ 9223372036854775807) rows (by
    intro row hrow
    obtain ⟨i, hi⟩ := List.mem_iff_getElem?.1 hrow
    obtain ⟨h1, h2⟩ := hfs i row hi
    exact ParX.of_cells h1 (cell_slice Try.underlying64 (h2 0 _ rfl)) (cell_int Try.underlying3 (h2 1 _ rfl)) (cell_int Try.underlying3 (h2 2 _ rfl)) (cell_int Try.underlying3 (h2 3 _ rfl)) (cell_int Try.underlying3 (h2 4 _ rfl)) (cell_int Try.underlying3 (h2 5 _ rfl)) (cell_int Try.underlying3 (h2 6 _ rfl)))
  rw [List.length_map] at hl
  subst hl
  exact ⟨A, c, ps, rfl, hn, by unfold maxLen at hc; omega, Rd.imp hr (fun _ => rfl), hA, hq⟩

set_option maxRecDepth 100000 in
theorem open_line {H : Type} {enc : TypeId × Value → H} {w : World} {base : Nat} {spare : Nat → Bool} {held : Bool} {v : Value} {y : DataW H × List MemPlace} {fuel : Nat} (hf : DataW.trod enc Try.prog w base spare held fuel 63 [v] = some y) :
    ∃ x : LinesX, LinesX.row x = [v] ∧ (x.l.length ≤ x.cap ∧ x.cap ≤ 9223372036854775807) ∧ Rd LineX.row 14 w x.a x.l ∧ (x.a = none → x.cap = 0) := by
  obtain ⟨A, n, c, rows, rfl, hn, hc, hl, hr, hA, hfs⟩ := open_rows_cell Try.underlying63 Try.underlying92 (by kernel_rfl) (by kernel_rfl) hf
  obtain ⟨l, rfl⟩ := rows_map (enc := LineX.row) rows (by
    intro row hrow
    obtain ⟨i, hi⟩ := List.mem_iff_getElem?.1 hrow
    obtain ⟨h1, h2⟩ := hfs i row hi
    refine LineX.of_cells h1 (fun j hj => ?_) (fun j h9 hj => ?_) (fun j h12 hj => ?_)
    · match j, hj with
      | 0, _ => exact cell_int Try.underlying3 (h2 0 _ rfl)
      | 1, _ => exact cell_int Try.underlying3 (h2 1 _ rfl)
      | 2, _ => exact cell_int Try.underlying3 (h2 2 _ rfl)
      | 3, _ => exact cell_int Try.underlying3 (h2 3 _ rfl)
      | 4, _ => exact cell_int Try.underlying3 (h2 4 _ rfl)
      | 5, _ => exact cell_int Try.underlying3 (h2 5 _ rfl)
      | 6, _ => exact cell_int Try.underlying3 (h2 6 _ rfl)
      | 7, _ => exact cell_int Try.underlying3 (h2 7 _ rfl)
      | 8, _ => exact cell_int Try.underlying3 (h2 8 _ rfl)
    · match j, h9, hj with
      | 9, _, _ => exact cell_bool Try.underlying4 (h2 9 _ rfl)
      | 10, _, _ => exact cell_bool Try.underlying4 (h2 10 _ rfl)
      | 11, _, _ => exact cell_bool Try.underlying4 (h2 11 _ rfl)
    · match j, h12, hj with
      | 12, _, _ => exact cell_int Try.underlying3 (h2 12 _ rfl)
      | 13, _, _ => exact cell_int Try.underlying3 (h2 13 _ rfl))
  rw [List.length_map] at hl
  subst hl
  exact ⟨⟨A, c, l⟩, rfl, ⟨hn, by unfold maxLen at hc; omega⟩, Rd.imp hr (fun _ => rfl), hA⟩

set_option maxRecDepth 100000 in
theorem open_lines {H : Type} {enc : TypeId × Value → H} {w : World} {base : Nat} {spare : Nat → Bool} {held : Bool} {v : Value} {y : DataW H × List MemPlace} {fuel : Nat} (hf : DataW.trod enc Try.prog w base spare held fuel 56 [v] = some y) :
    ∃ (B : Option Addr) (d : Nat) (ls : List LinesX), v = .slice B ls.length d ∧ ls.length ≤ d ∧ d ≤ 9223372036854775807 ∧ Rd LinesX.row 1 w B ls ∧ (B = none → d = 0) ∧ ∀ x ∈ ls, (x.l.length ≤ x.cap ∧ x.cap ≤ 9223372036854775807) ∧ Rd LineX.row 14 w x.a x.l ∧ (x.a = none → x.cap = 0) := by
  rcases open_slice1 Try.underlying56 (by kernel_rfl) hf with ⟨hcs, _⟩ | ⟨a, l, c, m, n, V, D, Pl, hcs, _, hl, hm, hmm, hx, hi⟩
  · simp at hcs
    subst hcs
    exact ⟨none, 0, [], rfl, Nat.le_refl _, by omega, Rd.nil _ _ _ _, fun _ => rfl, by simp⟩
  · simp at hcs
    subst hcs
    have hlm : l ≤ m := by rw [hmm]; split <;> omega
    obtain ⟨ls, hll, hlp⟩ := list_of (n := l) (p := fun i x => LinesX.row x = [V i] ∧ (x.l.length ≤ x.cap ∧ x.cap ≤ 9223372036854775807) ∧ Rd LineX.row 14 w x.a x.l ∧ (x.a = none → x.cap = 0)) (fun i h => open_line (hi i (by omega)).2)
    subst hll
    refine ⟨some a, c, ls, rfl, hl, by unfold maxLen at hm; omega, fun i x hx => ⟨a, rfl, fun j u hu => ?_⟩, fun e => (nomatch e), fun x hx => ?_⟩
    · rw [(hlp i x hx).1] at hu
      have hlt := (List.getElem?_eq_some_iff.1 hu).1
      simp at hlt
      subst hlt
      simp at hu
      subst hu
      rw [Nat.mul_one, Nat.add_zero]
      exact (hi i (by have := (List.getElem?_eq_some_iff.1 hx).1; omega)).1
    · obtain ⟨i, hi'⟩ := List.mem_iff_getElem?.1 hx
      exact (hlp i x hi').2

set_option maxRecDepth 100000 in
theorem open_laid {H : Type} {enc : TypeId × Value → H} {W : World} {base : Nat} {v0 v1 : Value} {d0 d1 : DataW H} {p0 p1 : List MemPlace} (ok0 : Value.okWide Try.prog W .any base 55 v0) (h0 : DataW.Trod enc Try.prog W 0 (fun _ => true) true 55 v0 d0 p0)
    (ok1 : Value.okWide Try.prog W .any base 56 v1) (h1 : DataW.Trod enc Try.prog W 0 (fun _ => true) true 56 v1 d1 p1) :
    ∃ (A B : Option Addr) (c d : Nat) (ps : List ParX) (ls : List LinesX), v0 = .slice A ps.length c ∧ v1 = .slice B ls.length d ∧ Laid W A B c d ps ls := by
  obtain ⟨a0, l0, c0, rfl⟩ := okWide_slice Try.underlying55 ok0
  obtain ⟨a1, l1, c1, rfl⟩ := okWide_slice Try.underlying56 ok1
  obtain ⟨f0, h0⟩ := h0
  obtain ⟨f1, h1⟩ := h1
  obtain ⟨A, c, ps, e0, q1, q2, q3, q4, q5⟩ := open_pars h0
  obtain ⟨B, d, ls, e1, r1, r2, r3, r4, r5⟩ := open_lines h1
  exact ⟨A, B, c, d, ps, ls, e0, e1, ⟨q3, r3, fun x hx => (r5 x hx).2.1, q1, r1, q2, r2, q5, fun x hx => (r5 x hx).1, q4, r4, fun x hx => (r5 x hx).2.2⟩⟩

set_option maxRecDepth 100000 in
theorem walkColumnParts {H : Type} {enc : TypeId × Value → H} {W : World} {base : Nat} {v0 v1 : Value} {d0 d1 : DataW H} {p0 p1 : List MemPlace} (ok0 : Value.okWide Try.prog W .any base 55 v0) (h0 : DataW.Trod enc Try.prog W 0 (fun _ => true) true 55 v0 d0 p0)
    (z0 : ∀ n ∈ d0.weights Try.prog 55, n ≤ reachBytes) (ok1 : Value.okWide Try.prog W .any base 56 v1) (h1 : DataW.Trod enc Try.prog W 0 (fun _ => true) true 56 v1 d1 p1)
    (z1 : ∀ n ∈ d1.weights Try.prog 56, n ≤ reachBytes) (cut : Int) (wc : (Lit.int .i64 cut).wf = true) (w : World) (hw : w = W) :
    Calls Try.prog 8 #[v0, v1, .int .i64 cut] w fun e w' => e = .returned (.bool true) ∧ Below w.heap.size w w' := by
  subst hw
  obtain ⟨A, B, c, d, ps, ls, rfl, rfl, L⟩ := open_laid ok0 h0 ok1 h1
  exact walkParts A B c d ps ls cut w L

end Go.Proofs.Ytgelccenbceeoaa
