/- ColumnTall's walk. -/
import Derived.Test.YtgelccenbceeoaaShown17
import Derived.SizedLaws
namespace Go.Proofs.Ytgelccenbceeoaa
open Go.RowKit
set_option linter.unusedSimpArgs false
set_option linter.unusedVariables false

def minus77 : Slab := ⟨-77, 0, 0, 0, 0, 0, 0, 0, 0⟩

theorem own77 {w3 : World} {base : Nat} {v3 : Value} {l : List Slab} (O3 : w3.ownsRow base 51 9 v3 (0 + l.length + 1) ([] ++ l.flatMap Slab.row ++ [.int .i64 (-77), .int .i64 0, .int .i64 0, .int .i64 0, .int .i64 0, .int .i64 0, .int .i64 0, .int .i64 0, .int .i64 0])) :
    ∃ g cap, v3 = .slice (some ⟨g, 0, none⟩) (l.length + 1) cap ∧ l.length + 1 ≤ cap ∧ w3.cell? ⟨g, l.length * 9, none⟩ = some (.int .i64 (-77)) ∧ Rd Slab.row 9 w3 (some ⟨g, 0, none⟩) l ∧ g < w3.heap.size := by
  have O4 : w3.ownsRow base 51 9 v3 (l ++ [minus77]).length ((l ++ [minus77]).flatMap Slab.row) := by
    have h := O3
    rw [Nat.zero_add] at h
    simpa [minus77, Slab.row] using h
  obtain ⟨A3, cap3, rfl, hcap3, hr3, hA3⟩ := own_rd (enc := Slab.row) (fun _ => rfl) O4
  simp only [List.length_append, List.length_cons, List.length_nil, Nat.zero_add] at hcap3
  obtain ⟨ad3, hAd, cs⟩ := hr3 l.length minus77 (by simp)
  obtain ⟨g3, cur3, had3, hg3, B5, hcs3⟩ := hA3 _ hAd
  subst hAd had3
  have f0 := cs 0 _ rfl
  rw [add_zero_at, Nat.add_zero] at f0
  exact ⟨g3, cap3, by simp, hcap3, f0, by have h := hr3.take l.length; simpa using h, blk_lt B5⟩

set_option maxHeartbeats 1600000 in
set_option maxRecDepth 100000 in
theorem walkTall (A : Option Addr) (c : Nat) (l : List Slab) (w : World) (hr : Rd Slab.row 9 w A l) (hA : A = none → l.length = 0) (hc : l.length ≤ c) (hm : c ≤ 9223372036854775807) :
    Calls Try.prog 7 #[.slice A l.length c] w fun e w' => e = .returned (.bool true) ∧ Below w.heap.size w w' := by
  by_cases hb : 2147483647 < l.length
  · have hb' : (2147483647 : Int) < (l.length : Int) := by omega
    go_enter Try.func7, Try.ntmps7
    go_wp2
    go_ret
    exact ⟨rfl, Below.refl _ _⟩
  · have hb' : (l.length : Int) ≤ 2147483647 := by omega
    go_enter Try.func7, Try.ntmps7
    go_wp2_with fail
    refine (shown17 _).mono ?_
    rintro e w1 ⟨rfl, K1⟩
    have O1 := World.ownsRow_lit (base := w.heap.size) (e := 51) (size := 9) w1 #[] 0 K1.size (by simp [maxLen]) rfl
    have r1 := (hr.old K1 (by simp)).old ((Keep.refl [] w1).alloc (.cells #[] 51)) (by simp)
    have s1 := K1.size
    go_wp2_with (first | (at_builtin; (refine append_list (enc := Slab.row) rfl _ _ 49 (.agg #[.int .i64 0, .int .i64 0, .int .i64 0, .int .i64 0, .int .i64 0, .int .i64 0, .int .i64 0, .int .i64 0, .int .i64 0]) 9 72 rfl (by kernel_rfl) (by kernel_rfl) (by kernel_rfl) (by decide) (by decide) w.heap.size (.slice (some ⟨w1.heap.size, 0, none⟩) 0 0) 0 _ rfl rfl rfl hA r1 (fun _ => rfl) (fun y u hu => by simp [Slab.row] at hu; rcases hu with rfl | rfl | rfl | rfl | rfl | rfl | rfl | rfl | rfl <;> rfl) O1 (by simp; omega) (by omega) ?_; rintro v2 w2 O2 G2; have hs2 : w.heap.size ≤ w2.heap.size := (by have h := G2.size; rw [size_alloc'] at h; omega))) | (at_builtin; (refine append_cells rfl _ _ 49 (.agg #[.int .i64 0, .int .i64 0, .int .i64 0, .int .i64 0, .int .i64 0, .int .i64 0, .int .i64 0, .int .i64 0, .int .i64 0]) 9 72 rfl (by kernel_rfl) (by kernel_rfl) (by kernel_rfl) (by decide) (by decide) w.heap.size v2 _ _ rfl rfl (by simp) rfl (by simp [Value.oneCell']) O2 hs2 (by omega) ?_; rintro v3 w3 O3 G3; obtain ⟨g3, cap3, rfl, hcap3, f0, hrl, n1⟩ := own77 O3; have hcap4 : ((l.length : Nat) : Int) ≤ (cap3 : Int) := (by omega))))
    have K2 : Keep [] w w2 := Keep.grown (K1.alloc _) G2 (fun k hk => .inr (by simp [Value.ownBlock] at hk; omega))
    have K3 : Keep [] w w3 := Keep.grown (K2.alloc _) G3 (fun k hk => .inr (own_base O2 k hk).1)
    have rl := hr.old K3 (by simp)
    clear O3 O2 O1 G3 G2 r1 hr
    refine (tall_any (some ⟨g3, 0, none⟩) cap3 l w3 hrl (by omega) (by omega)).mono ?_
    rintro e w4 ⟨rfl, K4⟩
    go_wp2_with fail
    rw [← rtall_eq l]
    refine (rtall_any A c l w4 (rl.old K4 (by simp)) (by omega)).mono ?_
    rintro e w5 ⟨rfl, K5⟩
    have f1 := K5.cell' (K4.cell' f0 (by simp)) (by simp)
    go_wp2_with fail
    refine (sameSlabs_same (some ⟨g3, 0, none⟩) A l.length l.length cap3 c l w5 rfl rfl ((hrl.old K4 (by simp)).old K5 (by simp)) ((rl.old K4 (by simp)).old K5 (by simp)) (by omega)).mono ?_
    rintro e w6 ⟨rfl, K6⟩
    have f2 := K6.cell' f1 (by simp)
    go_wp2
    go_ret
    exact ⟨rfl, (((K3.trans K4).trans K5).trans K6).below (Nat.le_refl _) (by simp)⟩

/-- Rows of cells that are all numbers. -/
theorem int_row {H : Type} {enc : TypeId × Value → H} {P : Program} {w : World} {base : Nat} {spare : Nat → Bool} {held : Bool} {fs : Array Field} {row : List Value} (hty : ∀ (j : Nat) (f : Field), fs[j]? = some f → P.underlying f.type = some (.int .i64))
    (hl : row.length = fs.size) (hf : ∀ (j : Nat) (f : Field), fs[j]? = some f → ∃ (u : Value) (y : DataW H × List MemPlace) (m : Nat), row[j]? = some u ∧ DataW.trod enc P w base spare held m f.type [u] = some y) :
    ∃ xs : List Int, row = xs.map (Value.int .i64) := by
  have key : ∀ v ∈ row, ∃ n : Int, v = .int .i64 n := by
    intro v hv
    obtain ⟨j, hj⟩ := List.mem_iff_getElem?.1 hv
    have hjs : j < fs.size := by have := (List.getElem?_eq_some_iff.1 hj).1; omega
    obtain ⟨u, y, m, hu, ht⟩ := hf j fs[j] (Array.getElem?_eq_getElem hjs)
    obtain ⟨n, e, _, _⟩ := DataW.trod_int (hty j _ (Array.getElem?_eq_getElem hjs)) ht
    simp at e
    rw [hj] at hu
    exact ⟨n, (Option.some.inj hu).trans e⟩
  clear hl hf
  induction row with
  | nil => exact ⟨[], rfl⟩
  | cons v r ih =>
    obtain ⟨n, hn⟩ := key v (by simp)
    obtain ⟨xs, hxs⟩ := ih (fun u hu => key u (by simp [hu]))
    exact ⟨n :: xs, by simp [hn, hxs]⟩

theorem rows_map {α : Type} {enc : α → List Value} : ∀ (rows : List (List Value)), (∀ row ∈ rows, ∃ x, enc x = row) → ∃ xs : List α, rows = xs.map enc
  | [], _ => ⟨[], rfl⟩
  | r :: rs, h => by
    obtain ⟨x, hx⟩ := h r (by simp)
    obtain ⟨xs, hxs⟩ := rows_map rs (fun row hr => h row (by simp [hr]))
    exact ⟨x :: xs, by simp [hx, hxs]⟩

theorem Slab.of_row {row : List Value} (h : ∃ xs : List Int, row = xs.map (Value.int .i64)) (hl : row.length = 9) : ∃ x : Slab, Slab.row x = row := by
  obtain ⟨xs, rfl⟩ := h
  rw [List.length_map] at hl
  match xs, hl with
  | [a, b, c, d, e, f, g, i, j], _ => exact ⟨⟨a, b, c, d, e, f, g, i, j⟩, rfl⟩

set_option maxRecDepth 100000 in
theorem walkColumnTall {H : Type} {enc : TypeId × Value → H} {W : World} {base : Nat} {v0 : Value} {d0 : DataW H} {p0 : List MemPlace} (ok0 : Value.okWide Try.prog W .any base 49 v0) (h0 : DataW.Trod enc Try.prog W 0 (fun _ => true) true 49 v0 d0 p0)
    (z0 : ∀ n ∈ d0.weights Try.prog 49, n ≤ reachBytes) (w : World) (hw : w = W) :
    Calls Try.prog 7 #[v0] w fun e w' => e = .returned (.bool true) ∧ Below w.heap.size w w' := by
  subst hw
  obtain ⟨A, n, c, rows, rfl, hn, hc, hl, hr, hA, hd, hf⟩ := open_rows Try.underlying49 Try.underlying51 (by kernel_rfl) (by kernel_rfl) ok0 h0
  obtain ⟨xs, rfl⟩ := rows_map (enc := Slab.row) rows (by
    intro row hrow
    obtain ⟨i, hi⟩ := List.mem_iff_getElem?.1 hrow
    obtain ⟨h1, h2⟩ := hf i row hi
    refine Slab.of_row (int_row ?_ h1 h2) h1
    intro j f hj
    match j, hj with
    | 0, hj => simp at hj; subst hj; exact Try.underlying3
    | 1, hj => simp at hj; subst hj; exact Try.underlying3
    | 2, hj => simp at hj; subst hj; exact Try.underlying3
    | 3, hj => simp at hj; subst hj; exact Try.underlying3
    | 4, hj => simp at hj; subst hj; exact Try.underlying3
    | 5, hj => simp at hj; subst hj; exact Try.underlying3
    | 6, hj => simp at hj; subst hj; exact Try.underlying3
    | 7, hj => simp at hj; subst hj; exact Try.underlying3
    | 8, hj => simp at hj; subst hj; exact Try.underlying3
    | j + 9, hj => simp at hj)
  rw [List.length_map] at hl
  subst hl
  exact walkTall A c xs w (Rd.imp hr (fun _ => rfl)) (fun h => (hA h).1) hn (by unfold maxLen at hc; omega)

end Go.Proofs.Ytgelccenbceeoaa
