/- An argument that is a slice of ints, opened. -/
import Derived.Test.YthcfgechifogeaaRow
import Derived.ChangeSlices
import Derived.SizedLaws
namespace Go.Proofs.Ythcfgechifogeaa
open Go.RowKit Go.ChangeShapes Go.WideShapes Go.Deep
set_option linter.unusedSimpArgs false
set_option linter.unusedVariables false

theorem open_intl {H : Type} {enc : TypeId × Value → H} {W : World} {base : Nat} {v0 : Value} {d0 : DataW H} {p0 : List MemPlace} {P : Program} {t e : TypeId} (ht : P.underlying t = some (.slice e)) (he : P.underlying e = some (.int .i64)) (hc : P.cellsOf e = 1) (hb : P.bytesOf e = 8)
    (ok0 : Value.okWide P W .any base t v0) (h0 : DataW.Trod enc P W 0 (fun _ => true) true t v0 d0 p0) (z0 : ∀ n ∈ d0.weights P t, n ≤ reachBytes) :
    ∃ (A : Option Addr) (n c : Nat) (xs : List Int), v0 = .slice A n c ∧ xs.length = n ∧ n ≤ c ∧ Rd intRow 1 W A xs ∧ (∀ x ∈ xs, -9223372036854775808 ≤ x ∧ x ≤ 9223372036854775807) ∧ n * 8 ≤ 140737488351232 := by
  obtain ⟨a0, len, cap, rfl⟩ := okWide_slice ht ok0
  obtain ⟨fuel, hf⟩ := h0
  rcases Go.ChangeShapes.open_ints ht he hc hf with ⟨hcs, _⟩ | ⟨a, l, c, zs, hcs, _, hl, hm, hzl, hx, hi, hw⟩
  · simp [Value.cells] at hcs
    obtain ⟨rfl, rfl, rfl⟩ := hcs
    exact ⟨none, 0, 0, [], rfl, rfl, by omega, Rd.nil _ _ _ _, by simp, by omega⟩
  · simp [Value.cells] at hcs
    obtain ⟨rfl, rfl, rfl⟩ := hcs
    simp at hzl
    refine ⟨some a, len, cap, zs.take len, rfl, by simp; omega, hl, ?_, ?_, ?_⟩
    · intro i x hxi
      refine ⟨a, rfl, fun j v hv => ?_⟩
      rw [List.getElem?_take] at hxi
      split at hxi
      · match j, hv with
        | 0, hv =>
          simp [intRow] at hv
          subst hv
          have hlt := (List.getElem?_eq_some_iff.1 hxi).1
          have h := hi i hlt
          rw [List.getD_eq_getElem?_getD, hxi] at h
          simpa using h
        | j + 1, hv => simp [intRow] at hv
      · cases hxi
    · intro x hxm
      have h := hw x (List.mem_of_mem_take hxm)
      simp [Lit.wf, IntKind.min, IntKind.max, IntKind.signed, IntKind.bits] at h
      omega
    · have hd := (Prod.mk.inj hx).1
      subst hd
      have h := z0 (((lits .i64 (zs.take len)).length + (lits .i64 (zs.drop len)).length) * P.bytesOf e) (by simp [DataW.weights, ht]; exact .inl rfl)
      have e1 : reachBytes = 140737488351232 := by decide
      simp [lits, hb, e1] at h
      omega

end Go.Proofs.Ythcfgechifogeaa
