/- Arguments that are slices of structs of one-cell fields, opened to lists of rows of values; how such a reading lives on. -/
import Derived.Test.YthcfgechifogeaaBase
import Derived.Deep.Slices
import Derived.Deep.Fields
import Derived.ChangeSame
import Derived.SizedLaws
namespace Go.Proofs.Ythcfgechifogeaa
open Go.RowKit Go.ChangeShapes Go.WideShapes Go.Deep
set_option linter.unusedSimpArgs false
set_option linter.unusedVariables false

theorem list_of {α : Type} : ∀ {n : Nat} {p : Nat → α → Prop}, (∀ i, i < n → ∃ x, p i x) → ∃ xs : List α, xs.length = n ∧ ∀ i x, xs[i]? = some x → p i x
  | 0, _, _ => ⟨[], rfl, by simp⟩
  | n + 1, p, h => by
    obtain ⟨xs, hl, hx⟩ := list_of (n := n) (p := p) (fun i hi => h i (by omega))
    obtain ⟨y, hy⟩ := h n (by omega)
    refine ⟨xs ++ [y], by simp [hl], fun i x e => ?_⟩
    by_cases hi : i < n
    · rw [List.getElem?_append_left (by omega)] at e
      exact hx i x e
    · have hlt := (List.getElem?_eq_some_iff.1 e).1
      simp [hl] at hlt
      obtain rfl : i = n := by omega
      rw [List.getElem?_append_right (by omega)] at e
      simp [hl] at e
      exact e ▸ hy

/-- Behind the address lie the rows of xs, one behind the other. -/
def Rd {α : Type} (enc : α → List Value) (sz : Nat) (w : World) (A : Option Addr) (xs : List α) : Prop :=
  ∀ i x, xs[i]? = some x → ∃ ad, A = some ad ∧ ∀ j v, (enc x)[j]? = some v → w.cell? (ad.add (i * sz + j)) = some v

theorem Rd.nil {α : Type} (enc : α → List Value) (sz : Nat) (w : World) (A : Option Addr) : Rd enc sz w A [] := fun i x h => by simp at h

theorem Rd.keep {α : Type} {enc : α → List Value} {sz : Nat} {w w' : World} {A : Option Addr} {xs : List α} (h : Rd enc sz w A xs) {S : List Nat} (k : Keep S w w') (hs : ∀ ad, A = some ad → ad.block ∉ S) : Rd enc sz w' A xs := by
  intro i x hx
  obtain ⟨ad, e, hc⟩ := h i x hx
  refine ⟨ad, e, fun j v hv => ?_⟩
  have hcell := hc j v hv
  have hb : (ad.add (i * sz + j)).block = ad.block := by unfold Addr.add; split <;> rfl
  have hlt := World.block_lt_of_cell? w _ hcell
  exact (World.cell?_of_block (k.block _ hlt (by rw [hb]; exact hs ad e))).trans hcell

/-- An old reading lives on while only new blocks are written. -/
theorem Rd.old {α : Type} {enc : α → List Value} {sz : Nat} {w w' : World} {A : Option Addr} {xs : List α} (h : Rd enc sz w A xs) {S : List Nat} (k : Keep S w w') (hs : ∀ b, b ∈ S → w.heap.size ≤ b) : Rd enc sz w' A xs := by
  intro i x hx
  obtain ⟨ad, e, hc⟩ := h i x hx
  refine ⟨ad, e, fun j v hv => ?_⟩
  have hcell := hc j v hv
  have hlt := World.block_lt_of_cell? w _ hcell
  exact (World.cell?_of_block (k.block _ hlt (fun hm => by have := hs _ hm; omega))).trans hcell

theorem add_at (ad : Addr) (m j : Nat) (hj : 0 < j) : ad.add (m + j) = ⟨(ad.add m).block, (ad.add m).off + j, none⟩ := by
  unfold Addr.add
  by_cases hm : m = 0
  · subst hm; simp [Nat.ne_of_gt hj]
  · rw [if_neg (by omega), if_neg hm]; simp [Nat.add_assoc]

theorem Rd.drop {α : Type} {enc : α → List Value} {sz : Nat} {w : World} {A : Option Addr} {xs : List α} (h : Rd enc sz w A xs) (k : Nat) : Rd enc sz w (A.map (·.add (k * sz))) (xs.drop k) := by
  intro i x hx
  rw [List.getElem?_drop] at hx
  obtain ⟨ad, e, hc⟩ := h _ x hx
  refine ⟨ad.add (k * sz), by simp [e], fun j v hv => ?_⟩
  rw [add_add, ← Nat.add_assoc, ← Nat.add_mul]
  exact hc j v hv

theorem Rd.take {α : Type} {enc : α → List Value} {sz : Nat} {w : World} {A : Option Addr} {xs : List α} (h : Rd enc sz w A xs) (k : Nat) : Rd enc sz w A (xs.take k) := by
  intro i x hx
  rw [List.getElem?_take] at hx
  split at hx
  · exact h i x hx
  · cases hx

theorem Rd.imp {α β : Type} {enc : α → List Value} {enc' : β → List Value} {sz : Nat} {w : World} {A : Option Addr} {f : β → α} {xs : List β} (h : Rd enc sz w A (xs.map f)) (hf : ∀ x, enc (f x) = enc' x) : Rd enc' sz w A xs := by
  intro i x hx
  obtain ⟨ad, e, hc⟩ := h i (f x) (by simp [hx])
  exact ⟨ad, e, fun j v hv => hc j v (by rw [hf]; exact hv)⟩

section
variable {H : Type} {enc : TypeId × Value → H} {P : Program} {w : World} {base : Nat} {spare : Nat → Bool} {held : Bool}

/-- A slice of structs of one-cell fields: its rows of values, each field's value with its reading. -/
theorem open_rows {r : Reach} {b0 : Nat} {t e : TypeId} {fs : Array Field} {v : Value} {d : DataW H} {ps : List MemPlace} (ht : P.underlying t = some (.slice e)) (he : P.underlying e = some (.struct fs))
    (hone : oneCellFields P fs = true) (hC : P.cellsOf e = fs.size) (hv : Value.okWide P w r b0 t v) (h : DataW.Trod enc P w base spare held t v d ps) :
    ∃ (A : Option Addr) (n c : Nat) (rows : List (List Value)), v = .slice A n c ∧ n ≤ c ∧ c ≤ maxLen ∧ rows.length = n ∧ Rd id fs.size w A rows ∧ (A = none → n = 0 ∧ c = 0) ∧
      (n = 0 ∨ ∃ elems sp, d = .slice elems sp ∧ elems.length = n) ∧
      ∀ (i : Nat) (row : List Value), rows[i]? = some row → row.length = fs.size ∧ ∀ (j : Nat) (f : Field), fs[j]? = some f → ∃ (u : Value) (y : DataW H × List MemPlace) (m : Nat), row[j]? = some u ∧ DataW.trod enc P w base spare held m f.type [u] = some y := by
  obtain ⟨a0, len, cap, rfl⟩ := okWide_slice ht hv
  obtain ⟨fuel, hf⟩ := h
  rcases open_slice ht hf with ⟨hcs, _⟩ | ⟨a, l, c, m, n, D, Pl, hcs, _, hl, hm, hmm, hx, hi⟩
  · simp [Value.cells] at hcs
    obtain ⟨rfl, rfl, rfl⟩ := hcs
    exact ⟨none, 0, 0, [], rfl, Nat.le_refl _, Nat.zero_le _, rfl, Rd.nil _ _ _ _, fun _ => ⟨rfl, rfl⟩, .inl rfl, by simp⟩
  · simp [Value.cells] at hcs
    obtain ⟨rfl, rfl, rfl⟩ := hcs
    have hlm : len ≤ m := by rw [hmm]; split <;> omega
    have hrow : ∀ i, i < len → ∃ row : List Value, row.length = fs.size ∧ (∀ j u, row[j]? = some u → w.cell? (a.add (i * fs.size + j)) = some u) ∧
        ∀ (j : Nat) (f : Field), fs[j]? = some f → ∃ (u : Value) (y : DataW H × List MemPlace) (m : Nat), row[j]? = some u ∧ DataW.trod enc P w base spare held m f.type [u] = some y := by
      intro i hil
      obtain ⟨cs', hc, ht'⟩ := hi i (by omega)
      rw [hC] at hc
      obtain ⟨ys, n', hn', hy, hlen, hyl, hfld⟩ := DataW.trod_struct he ht'
      obtain ⟨_, hcl, hat⟩ := World.cells?_some hc
      refine ⟨cs', hcl, fun j u hju => ?_, fun j f hj => ?_⟩
      · have hjl : j < fs.size := by have := (List.getElem?_eq_some_iff.1 hju).1; omega
        have hcell := hat j hjl
        rw [← Go.Deep.add_add, hcell, hju]
      · obtain ⟨ho, hk⟩ := hone_of hone j f hj
        have hjl : j < fs.size := (Array.getElem?_eq_some_iff.1 hj).1
        have h1 := hfld j f hj
        rw [ho, hk] at h1
        have hone' : (cs'.drop j).take 1 = [cs'[j]'(by omega)] := by
          rw [List.drop_eq_getElem_cons (by omega)]
          rfl
        rw [hone'] at h1
        exact ⟨cs'[j]'(by omega), _, _, List.getElem?_eq_getElem (by omega), h1.trans (List.getElem?_eq_getElem (by omega))⟩
    obtain ⟨rows, hrl, hrp⟩ := list_of hrow
    refine ⟨some a, len, cap, rows, rfl, hl, hm, hrl, fun i row hr => ⟨a, rfl, (hrp i row hr).2.1⟩, fun e => (nomatch e), .inr ⟨_, _, (Prod.mk.inj hx).1, by simp⟩, fun i row hr => ⟨(hrp i row hr).1, (hrp i row hr).2.2⟩⟩
end

end Go.Proofs.Ythcfgechifogeaa
