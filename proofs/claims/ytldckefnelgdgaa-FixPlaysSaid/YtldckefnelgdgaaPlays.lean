/- Some Calcs beside the reference's. -/
import Derived.Test.YtldckefnelgdgaaDoes
import Derived.Test.YtldckefnelgdgaaPick
namespace Go.Proofs.Ytldckefnelgdgaa
open Go.RowKit
set_option linter.unusedSimpArgs false
set_option linter.unusedVariables false

theorem calc_clone (g : Nat) (bad : Bool) (w : World) (hg : IsC w g bad) : Calls Try.prog 15 #[.pointer (some ⟨g, 0, none⟩)] w fun e w' => e = .returned (.pointer (some ⟨w.heap.size, 0, none⟩)) ∧ IsC w' w.heap.size bad ∧ Keep [] w w' := by
  have c0 := blk_cell hg 0
  have hlt := blk_lt hg
  simp only [List.getElem?_toArray, List.getElem?_cons_zero] at c0
  clear hg
  go_enter Try.func15, Try.ntmps15
  go_wp2
  go_ret
  exact ⟨rfl, blk_new _ _, (Keep.refl _ _).alloc _⟩

/-- A Calc beside the reference's: where they lie, whether something is wrong. -/
structure Duo where
  g : Nat
  q : Nat
  b : Bool
def Duo.row (y : Duo) : List Value := [.pointer (some ⟨y.g, 0, none⟩), .pointer (some ⟨y.q, 0, none⟩)]

/-- Some Calcs, and the reference's. -/
structure Heart (w0 w : World) (ds : List Duo) : Prop where
  na : ∀ (i j : Nat) (x y : Duo), ds[i]? = some x → ds[j]? = some y → x.g = y.g → i = j
  nb : ∀ (i j : Nat) (x y : Duo), ds[i]? = some x → ds[j]? = some y → x.q = y.q → i = j
  isM : ∀ x ∈ ds, IsC w x.g x.b
  isR : ∀ x ∈ ds, IsB w x.q x.b
  ga : ∀ x ∈ ds, w0.heap.size ≤ x.g ∧ w0.heap.size ≤ x.q
  keep : Keep [] w0 w

theorem Heart.gq {w0 w : World} {ds : List Duo} (P : Heart w0 w ds) {x y : Duo} (hx : x ∈ ds) (hy : y ∈ ds) : x.g ≠ y.q := by
  intro e
  have h1 := P.isM x hx
  have h2 := P.isR y hy
  unfold IsC at h1
  unfold IsB at h2
  rw [e, h2] at h1
  simp at h1

theorem Heart.move {w0 w w' : World} {ds : List Duo} (P : Heart w0 w ds) (k : Keep [] w w') : Heart w0 w' ds :=
  { P with isM := fun x hx => (P.isM x hx).keep k (by simp), isR := fun x hx => (P.isR x hx).keep k (by simp), keep := P.keep.trans k }

/-- A row of pointers grows, or a pointer in it is changed: no meter is touched. -/
theorem Heart.aside {w0 w w' : World} {ds : List Duo} {S : List Nat} (P : Heart w0 w ds) (k : Keep S w w') (hS : ∀ b, b ∈ S → w0.heap.size ≤ b ∧ ∀ x ∈ ds, b ≠ x.g ∧ b ≠ x.q) : Heart w0 w' ds :=
  { P with isM := fun x hx => (P.isM x hx).keep k (fun hm => ((hS _ hm).2 x hx).1 rfl), isR := fun x hx => (P.isR x hx).keep k (fun hm => ((hS _ hm).2 x hx).2 rfl), keep := P.keep.then k (fun b hb => .inr (hS b hb).1) }

/-- One of the pairs is charged. -/
theorem Heart.turn {w0 w w' : World} {ds : List Duo} (P : Heart w0 w ds) {k : Nat} {x : Duo} (hx : ds[k]? = some x) {b' : Bool} (hk : Keep [x.g, x.q] w w') (hM : IsC w' x.g b') (hR : IsB w' x.q b') :
    Heart w0 w' (ds.set k ⟨x.g, x.q, b'⟩) := by
  have hxm := List.mem_of_getElem? hx
  have hlt := (List.getElem?_eq_some_iff.1 hx).1
  have hat : ∀ (i : Nat) (y : Duo), (ds.set k ⟨x.g, x.q, b'⟩)[i]? = some y → (i = k ∧ y = ⟨x.g, x.q, b'⟩) ∨ (i ≠ k ∧ ds[i]? = some y) := fun i y h => by
    rw [List.getElem?_set] at h
    split at h
    · rename_i e
      subst e
      (try rw [if_pos hlt] at h)
      exact .inl ⟨rfl, (Option.some.inj h).symm⟩
    · rename_i e
      exact .inr ⟨fun h => e h.symm, h⟩
  have hmem : ∀ (y : Duo), y ∈ ds.set k ⟨x.g, x.q, b'⟩ → y = ⟨x.g, x.q, b'⟩ ∨ (y ∈ ds ∧ y.g ≠ x.g ∧ y.q ≠ x.q) := fun y hy => by
    obtain ⟨i, hi⟩ := List.mem_iff_getElem?.1 hy
    rcases hat i y hi with ⟨_, rfl⟩ | ⟨hne, h⟩
    · exact .inl rfl
    · exact .inr ⟨List.mem_of_getElem? h, fun e => hne (P.na i k y x h hx e), fun e => hne (P.nb i k y x h hx e)⟩
  have hback : ∀ (i : Nat) (y : Duo), (ds.set k ⟨x.g, x.q, b'⟩)[i]? = some y → ∃ z : Duo, ds[i]? = some z ∧ z.g = y.g ∧ z.q = y.q := fun i y h => by
    rcases hat i y h with ⟨rfl, rfl⟩ | ⟨_, h⟩
    · exact ⟨x, hx, rfl, rfl⟩
    · exact ⟨y, h, rfl, rfl⟩
  refine ⟨?_, ?_, ?_, ?_, ?_, P.keep.then hk (fun b hb => ?_)⟩
  · intro i j y z hi hj e
    obtain ⟨y', h1, h2, _⟩ := hback i y hi
    obtain ⟨z', h3, h4, _⟩ := hback j z hj
    exact P.na i j y' z' h1 h3 (by rw [h2, h4, e])
  · intro i j y z hi hj e
    obtain ⟨y', h1, _, h2⟩ := hback i y hi
    obtain ⟨z', h3, _, h4⟩ := hback j z hj
    exact P.nb i j y' z' h1 h3 (by rw [h2, h4, e])
  · intro y hy
    rcases hmem y hy with rfl | ⟨h, h1, h2⟩
    · exact hM
    · exact (P.isM y h).keep hk (by simp; exact ⟨h1, P.gq h hxm⟩)
  · intro y hy
    rcases hmem y hy with rfl | ⟨h, h1, h2⟩
    · exact hR
    · exact (P.isR y h).keep hk (by simp; exact ⟨fun e => P.gq hxm h e.symm, h2⟩)
  · intro y hy
    rcases hmem y hy with rfl | ⟨h, _⟩
    · exact P.ga x hxm
    · exact P.ga y h
  · have := P.ga x hxm
    simp at hb
    rcases hb with rfl | rfl
    · exact .inr this.1
    · exact .inr this.2

/-- A pair in fresh blocks is put behind. -/
theorem Heart.snoc {w0 w : World} {ds : List Duo} (P : Heart w0 w ds) (y : Duo) (hM : IsC w y.g y.b) (hR : IsB w y.q y.b) (hg : w0.heap.size ≤ y.g ∧ w0.heap.size ≤ y.q) (hn : ∀ x ∈ ds, x.g ≠ y.g ∧ x.q ≠ y.q) : Heart w0 w (ds ++ [y]) := by
  have hat : ∀ (i : Nat) (z : Duo), (ds ++ [y])[i]? = some z → (i < ds.length ∧ ds[i]? = some z) ∨ (i = ds.length ∧ z = y) := fun i z h => by
    by_cases hi : i < ds.length
    · rw [List.getElem?_append_left hi] at h
      exact .inl ⟨hi, h⟩
    · rw [List.getElem?_append_right (by omega)] at h
      have hlt := (List.getElem?_eq_some_iff.1 h).1
      simp at hlt
      have e : i - ds.length = 0 := by omega
      rw [e] at h
      simp at h
      exact .inr ⟨by omega, h.symm⟩
  have hmem : ∀ (z : Duo), z ∈ ds ++ [y] → z ∈ ds ∨ z = y := fun z hz => by simpa using hz
  refine ⟨?_, ?_, ?_, ?_, ?_, P.keep⟩
  · intro i j u v hi hj e
    rcases hat i u hi with ⟨h1, h2⟩ | ⟨h1, rfl⟩ <;> rcases hat j v hj with ⟨h3, h4⟩ | ⟨h3, rfl⟩
    · exact P.na i j u v h2 h4 e
    · exact absurd e (hn u (List.mem_of_getElem? h2)).1
    · exact absurd e.symm (hn v (List.mem_of_getElem? h4)).1
    · omega
  · intro i j u v hi hj e
    rcases hat i u hi with ⟨h1, h2⟩ | ⟨h1, rfl⟩ <;> rcases hat j v hj with ⟨h3, h4⟩ | ⟨h3, rfl⟩
    · exact P.nb i j u v h2 h4 e
    · exact absurd e (hn u (List.mem_of_getElem? h2)).2
    · exact absurd e.symm (hn v (List.mem_of_getElem? h4)).2
    · omega
  all_goals
    intro z hz
    rcases hmem z hz with h | rfl
  · exact P.isM z h
  · exact hM
  · exact P.isR z h
  · exact hR
  · exact P.ga z h
  · exact hg

/-- A pair is put in another's place. -/
theorem Heart.swap {w0 w : World} {ds : List Duo} (P : Heart w0 w ds) (k : Nat) (y : Duo) (hM : IsC w y.g y.b) (hR : IsB w y.q y.b) (hg : w0.heap.size ≤ y.g ∧ w0.heap.size ≤ y.q) (hn : ∀ x ∈ ds, x.g ≠ y.g ∧ x.q ≠ y.q) : Heart w0 w (ds.set k y) := by
  have hat : ∀ (i : Nat) (z : Duo), (ds.set k y)[i]? = some z → (i ≠ k ∧ ds[i]? = some z) ∨ (i = k ∧ z = y) := fun i z h => by
    rw [List.getElem?_set] at h
    split at h
    · rename_i e
      subst e
      split at h
      · exact .inr ⟨rfl, (Option.some.inj h).symm⟩
      · cases h
    · rename_i e
      exact .inl ⟨fun h => e h.symm, h⟩
  have hmem : ∀ (z : Duo), z ∈ ds.set k y → z ∈ ds ∨ z = y := fun z hz => by
    obtain ⟨i, hi⟩ := List.mem_iff_getElem?.1 hz
    rcases hat i z hi with ⟨_, h⟩ | ⟨_, h⟩
    · exact .inl (List.mem_of_getElem? h)
    · exact .inr h
  refine ⟨?_, ?_, ?_, ?_, ?_, P.keep⟩
  · intro i j u v hi hj e
    rcases hat i u hi with ⟨h1, h2⟩ | ⟨h1, rfl⟩ <;> rcases hat j v hj with ⟨h3, h4⟩ | ⟨h3, rfl⟩
    · exact P.na i j u v h2 h4 e
    · exact absurd e (hn u (List.mem_of_getElem? h2)).1
    · exact absurd e.symm (hn v (List.mem_of_getElem? h4)).1
    · omega
  · intro i j u v hi hj e
    rcases hat i u hi with ⟨h1, h2⟩ | ⟨h1, rfl⟩ <;> rcases hat j v hj with ⟨h3, h4⟩ | ⟨h3, rfl⟩
    · exact P.nb i j u v h2 h4 e
    · exact absurd e (hn u (List.mem_of_getElem? h2)).2
    · exact absurd e.symm (hn v (List.mem_of_getElem? h4)).2
    · omega
  all_goals
    intro z hz
    rcases hmem z hz with h | rfl
  · exact P.isM z h
  · exact hM
  · exact P.isR z h
  · exact hR
  · exact P.ga z h
  · exact hg

/-- The pairs that one call leaves. -/
theorem Heart.done {w0 w w' : World} {ds : List Duo} (P : Heart w0 w ds) {y : Duo} {k : Nat} (hy : ds[k]? = some y ∨ ((w0.heap.size ≤ y.g ∧ w0.heap.size ≤ y.q) ∧ (∀ x ∈ ds, x.g ≠ y.g ∧ x.q ≠ y.q) ∧ IsC w y.g y.b ∧ IsB w y.q y.b)) {b' : Bool} (hk : Keep [y.g, y.q] w w') (hM : IsC w' y.g b') (hR : IsB w' y.q b') :
    ∃ ds' : List Duo, Heart w0 w' ds' ∧ ds'.length = ds.length ∧ ds'.flatMap Duo.row = ds.flatMap Duo.row := by
  rcases hy with hy | ⟨h0, h1, h2, h3⟩
  · refine ⟨_, P.turn hy hk hM hR, by simp, ?_⟩
    have : ∀ (l : List Duo) (k : Nat), l[k]? = some y → (l.set k ⟨y.g, y.q, b'⟩).flatMap Duo.row = l.flatMap Duo.row := by
      intro l
      induction l with
      | nil => intro k h; simp at h
      | cons z l ih =>
        intro k h
        cases k with
        | zero => simp at h; subst h; rfl
        | succ k =>
          rw [List.set_cons_succ, List.flatMap_cons, List.flatMap_cons, ih k (by simpa using h)]
    exact this ds k hy
  · refine ⟨ds, P.aside hk (fun b hb => ?_), rfl, rfl⟩
    simp at hb
    rcases hb with rfl | rfl
    · refine ⟨h0.1, fun x hx => ⟨fun e => (h1 x hx).1 e.symm, fun e => ?_⟩⟩
      have h4 := P.isR x hx
      rw [← e] at h4
      unfold IsB at h4
      unfold IsC at h2
      rw [h2] at h4
      simp at h4
    · refine ⟨h0.2, fun x hx => ⟨fun e => ?_, fun e => (h1 x hx).2 e.symm⟩⟩
      have h4 := P.isM x hx
      rw [← e] at h4
      unfold IsC at h4
      unfold IsB at h3
      rw [h3] at h4
      simp at h4

/-- The list of pairs, owned. -/
def OwnQ (w0 w : World) (v : Value) (ds : List Duo) : Prop := w.ownsRow w0.heap.size 38 2 v ds.length (ds.flatMap Duo.row)

theorem OwnQ.apart {w0 w : World} {v : Value} {ds ds' : List Duo} (h : OwnQ w0 w v ds') (P : Heart w0 w ds) : ∀ b, b ∈ v.ownBlock.toList → w0.heap.size ≤ b ∧ ∀ x ∈ ds, b ≠ x.g ∧ b ≠ x.q := fun b hb => by
  have hb' : v.ownBlock = some b := by simpa using hb
  refine ⟨(own_base h b hb').1, fun x hx => ⟨?_, ?_⟩⟩
  · rintro rfl
    exact own_ne h (P.isM x hx) (by decide) hb'.symm
  · rintro rfl
    exact own_ne h (P.isR x hx) (by decide) hb'.symm

end Go.Proofs.Ytldckefnelgdgaa
