/- PageGood's walk. -/
import Derived.Test.YtgelccenbceeoaaShown18
import Derived.Test.YtgelccenbceeoaaRefGood
import Derived.Test.YtgelccenbceeoaaWalkColumnTall
import Derived.SizedLaws
import Derived.DataShut
namespace Go.Proofs.Ytgelccenbceeoaa
open Go.RowKit
set_option linter.unusedSimpArgs false
set_option linter.unusedVariables false

set_option maxHeartbeats 1600000 in
set_option maxRecDepth 100000 in
theorem walkGood (A : Option Addr) (c : Nat) (l : List Slab) (n : Int) (w : World) (hr : Rd Slab.row 9 w A l) (hl : l.length ≤ 9223372036854775807) (hof : OfIn l) :
    Calls Try.prog 11 #[.slice A l.length c, .int .i64 n] w fun e w' => e = .returned (.bool true) ∧ Below w.heap.size w w' := by
  have hp : good l (l.length : Int) = false := by rw [good_nat]; exact goodN_past (Nat.le_refl _)
  have hm : good l (-1) = false := good_neg (by omega)
  have hlast : good l ((l.length : Int) - 1) = decide ((0 : Int) < (l.length : Int)) := by
    rcases Nat.eq_zero_or_pos l.length with h | h
    · rw [h, good_neg (by simp)]; rfl
    · rw [show (l.length : Int) - 1 = ((l.length - 1 : Nat) : Int) by omega, good_nat, goodN_last (by omega), decide_eq_true (by omega)]
  have Hp := hid hp
  have Hm := hid hm
  have Hlast := hid hlast
  have hl' : (l.length : Int) ≤ 9223372036854775807 := by omega
  clear hp hm hlast
  go_enter Try.func11, Try.ntmps11
  go_wp2_with fail
  refine (shown18 _).mono ?_
  rintro e w1 ⟨rfl, K1⟩
  go_wp2_with fail
  refine (good_any A c l n _ (hr.old K1 (by simp)) hl hof _ rfl).mono ?_
  rintro e w2 ⟨rfl, K2⟩
  have K12 := K1.trans K2
  clear K1 K2
  go_wp2_with fail
  refine (rgood_any A c l n _ (hr.old K12 (by simp)) hl hof _ rfl).mono ?_
  rintro e w3 ⟨rfl, K3⟩
  have K13 := K12.trans K3
  clear K12 K3
  go_wp2_with fail
  refine (good_any A c l _ _ (hr.old K13 (by simp)) hl hof _ rfl).mono ?_
  rintro e w4 ⟨rfl, K4⟩
  have K14 := K13.trans K4
  rw [Hlast.out]
  clear K13 K4
  go_wp2_with fail
  refine (good_any A c l _ _ (hr.old K14 (by simp)) hl hof _ rfl).mono ?_
  rintro e w5 ⟨rfl, K5⟩
  have K15 := K14.trans K5
  rw [Hp.out]
  clear K14 K5
  go_wp2_with fail
  refine (good_any A c l _ _ (hr.old K15 (by simp)) hl hof _ rfl).mono ?_
  rintro e w6 ⟨rfl, K6⟩
  have K16 := K15.trans K6
  rw [Hm.out]
  clear K15 K6
  go_wp2
  go_ret
  exact ⟨rfl, K16.below (Nat.le_refl _) (by simp)⟩

theorem int_row_in {H : Type} {enc : TypeId × Value → H} {P : Program} {w : World} {base : Nat} {spare : Nat → Bool} {held : Bool} {fs : Array Field} {row : List Value} (hty : ∀ (j : Nat) (f : Field), fs[j]? = some f → P.underlying f.type = some (.int .i64))
    (hl : row.length = fs.size) (hf : ∀ (j : Nat) (f : Field), fs[j]? = some f → ∃ (u : Value) (y : DataW H × List MemPlace) (m : Nat), row[j]? = some u ∧ DataW.trod enc P w base spare held m f.type [u] = some y) :
    ∃ xs : List Int, row = xs.map (Value.int .i64) ∧ ∀ x ∈ xs, InI x := by
  have key : ∀ v ∈ row, ∃ n : Int, v = .int .i64 n ∧ InI n := by
    intro v hv
    obtain ⟨j, hj⟩ := List.mem_iff_getElem?.1 hv
    have hjs : j < fs.size := by have := (List.getElem?_eq_some_iff.1 hj).1; omega
    obtain ⟨u, y, m, hu, ht⟩ := hf j fs[j] (Array.getElem?_eq_getElem hjs)
    obtain ⟨n, e, _, hw⟩ := DataW.trod_int (hty j _ (Array.getElem?_eq_getElem hjs)) ht
    simp at e
    rw [hj] at hu
    exact ⟨n, (Option.some.inj hu).trans e, (Lit.wf_int_iff _ _).1 hw⟩
  clear hl hf
  induction row with
  | nil => exact ⟨[], rfl, by simp⟩
  | cons v r ih =>
    obtain ⟨n, hn, hi⟩ := key v (by simp)
    obtain ⟨xs, hxs, hin⟩ := ih (fun u hu => key u (by simp [hu]))
    exact ⟨n :: xs, by simp [hn, hxs], by intro x hx; rcases List.mem_cons.1 hx with rfl | hx; exact hi; exact hin x hx⟩

theorem Slab.of_row_in {row : List Value} (h : ∃ xs : List Int, row = xs.map (Value.int .i64) ∧ ∀ x ∈ xs, InI x) (hl : row.length = 9) : ∃ x : Slab, Slab.row x = row ∧ InI x.of_ := by
  obtain ⟨xs, rfl, hi⟩ := h
  rw [List.length_map] at hl
  match xs, hl with
  | [a, b, c, d, e, f, g, i, j], _ => exact ⟨⟨a, b, c, d, e, f, g, i, j⟩, rfl, hi j (by simp)⟩

theorem rows_map2 {α : Type} {enc : α → List Value} {Q : α → Prop} : ∀ (rows : List (List Value)), (∀ row ∈ rows, ∃ x, enc x = row ∧ Q x) → ∃ xs : List α, rows = xs.map enc ∧ ∀ x ∈ xs, Q x
  | [], _ => ⟨[], rfl, by simp⟩
  | r :: rs, h => by
    obtain ⟨x, hx, hq⟩ := h r (by simp)
    obtain ⟨xs, hxs, hqs⟩ := rows_map2 rs (fun row hr => h row (by simp [hr]))
    exact ⟨x :: xs, by simp [hx, hxs], by intro y hy; rcases List.mem_cons.1 hy with rfl | hy; exact hq; exact hqs y hy⟩

set_option maxRecDepth 100000 in
/-- A list of slabs, an argument, opened. -/
theorem open_slabs {H : Type} {enc : TypeId × Value → H} {W : World} {base : Nat} {v0 : Value} {d0 : DataW H} {p0 : List MemPlace} (ok0 : Value.okWide Try.prog W .any base 49 v0) (h0 : DataW.Trod enc Try.prog W 0 (fun _ => true) true 49 v0 d0 p0) :
    ∃ (A : Option Addr) (c : Nat) (l : List Slab), v0 = .slice A l.length c ∧ l.length ≤ c ∧ c ≤ 9223372036854775807 ∧ Rd Slab.row 9 W A l ∧ (A = none → c = 0) ∧ OfIn l := by
  obtain ⟨A, n, c, rows, rfl, hn, hc, hl, hr, hA, hd, hf⟩ := open_rows Try.underlying49 Try.underlying51 (by kernel_rfl) (by kernel_rfl) ok0 h0
  obtain ⟨xs, rfl, hof⟩ := rows_map2 (enc := Slab.row) (Q := fun x => InI x.of_) rows (by
    intro row hrow
    obtain ⟨i, hi⟩ := List.mem_iff_getElem?.1 hrow
    obtain ⟨h1, h2⟩ := hf i row hi
    refine Slab.of_row_in (int_row_in ?_ h1 h2) h1
    intro j f hj
    match j, hj with
    | 0, hj => simp at hj; subst hj; exact Try.underlying3
    | 1, hj => simp at hj; subst hj; exact Try.underlying3
    | 2, hj => simp at hj; subst hj; exact Try.underlying3
    | 3, hj => simp at hj; subst hj; exact Try.underlying3
    | 4, hj => simp at hj; subst hj; exact Try.underlying3
    | 5, hj => simp at hj; subst hj; exact Try.underlying3
    | 6, hj => simp at hj; subst hj; exact Try.underlying3
    | 7, hj => simp at hj; subst hj; exact Try.underlying3
    | 8, hj => simp at hj; subst hj; exact Try.underlying3
    | j + 9, hj => simp at hj)
  rw [List.length_map] at hl
  subst hl
  exact ⟨A, c, xs, rfl, hn, by unfold maxLen at hc; omega, Rd.imp hr (fun _ => rfl), fun e => (hA e).2, hof⟩

set_option maxRecDepth 100000 in
theorem walkPageGood {H : Type} {enc : TypeId × Value → H} {W : World} {base : Nat} {v0 : Value} {d0 : DataW H} {p0 : List MemPlace} (ok0 : Value.okWide Try.prog W .any base 49 v0) (h0 : DataW.Trod enc Try.prog W 0 (fun _ => true) true 49 v0 d0 p0)
    (z0 : ∀ n ∈ d0.weights Try.prog 49, n ≤ reachBytes) (n : Int) (wn : (Lit.int .i64 n).wf = true) (w : World) (hw : w = W) :
    Calls Try.prog 11 #[v0, .int .i64 n] w fun e w' => e = .returned (.bool true) ∧ Below w.heap.size w w' := by
  subst hw
  obtain ⟨A, c, l, rfl, h1, h2, hr, _, hof⟩ := open_slabs ok0 h0
  exact walkGood A c l n w hr (by omega) hof

end Go.Proofs.Ytgelccenbceeoaa
