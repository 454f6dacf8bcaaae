/- Maps that a call made, told as functions: what number stands at each key; ints and pairs of ints as keys. -/
import Derived.Test.YthcfgechifogeaaRow
import Derived.Maps.OwnSet
import Derived.DeepKeys4
import Derived.IntWalk
namespace Go.Proofs.Ythcfgechifogeaa
open Go.RowKit Go.Maps
set_option linter.unusedSimpArgs false
set_option linter.unusedVariables false

/-- Block b is a map that holds just what f says, at all keys of kf. -/
def MapF {κ : Type} (P : Program) (K E : TypeId) (kf : κ → Value) (ok : κ → Prop) (w : World) (b n : Nat) (f : κ → Option Int) : Prop :=
  ∃ D : DataW Unit, w.ownsMap P K (plainElem P E) b n D ∧ ∀ k kl, ok k → keyOf P K (kf k) = some kl → Maps.has D kl = (f k).isSome ∧ D.atKey kl (.lit (.int .i64 0)) = .lit (.int .i64 ((f k).getD 0))

section
variable {κ : Type} {P : Program} {K E : TypeId} {kf : κ → Value} {ok : κ → Prop} {w : World} {b n : Nat} {f : κ → Option Int}

theorem MapF.lt (h : MapF P K E kf ok w b n f) : b < w.heap.size := by obtain ⟨D, h1, _⟩ := h; exact h1.lt
theorem MapF.mono (h : MapF P K E kf ok w b n f) {m : Nat} (hm : n ≤ m) : MapF P K E kf ok w b m f := by obtain ⟨D, h1, h2⟩ := h; exact ⟨D, h1.mono hm, h2⟩
theorem MapF.keep (h : MapF P K E kf ok w b n f) {S : List Nat} {w' : World} (k : Keep S w w') (hb : b ∉ S) : MapF P K E kf ok w' b n f := by
  obtain ⟨D, ⟨es, clock, hh, r⟩, h2⟩ := h
  exact ⟨D, ⟨es, clock, k.blk hh hb, r⟩, h2⟩
theorem MapF.grown (h : MapF P K E kf ok w b n f) {w' : World} {row : Option Nat} (hg : w.grownBy w' row) (hne : some b ≠ row) : MapF P K E kf ok w' b n f := by
  obtain ⟨D, h1, h2⟩ := h
  exact ⟨D, h1.kept hg hne, h2⟩
theorem MapF.made (w : World) (P : Program) (K E : TypeId) (kf : κ → Value) (ok : κ → Prop) : MapF P K E kf ok (w.alloc (.map #[] 0)) w.heap.size 0 (fun _ => none) :=
  ⟨.map [], World.ownsMap_made w P K _, fun k kl _ _ => ⟨by simp [Maps.has], by rw [Maps.atKey_of_not_has (by simp [Maps.has])]; simp⟩⟩
theorem MapF.ext (h : MapF P K E kf ok w b n f) {g : κ → Option Int} (e : ∀ k, ok k → f k = g k) : MapF P K E kf ok w b n g := by
  obtain ⟨D, h1, h2⟩ := h
  exact ⟨D, h1, fun k kl o hk => by rw [← e k o]; exact h2 k kl o hk⟩

/-- 'v, ok := m[k]'. -/
theorem MapF.look (h : MapF P K E kf ok w b n f) (L : Keyed P K) {t : TypeId} (ht : P.underlying t = some (.map K E)) (he : P.underlying E = some (.int .i64)) (hz : (zeroValue E).run P w = .ok (.int .i64 0) w)
    {k : κ} {kl : Lit} (o : ok k) (hk : keyOf P K (kf k) = some kl) :
    (Instr.lookup t (.map (some b)) (kf k) true).run P w = .ok (.tuple #[.int .i64 ((f k).getD 0), .bool (f k).isSome]) w := by
  obtain ⟨D, h1, h2⟩ := h
  obtain ⟨a1, a2⟩ := h2 k kl o hk
  obtain ⟨v, ps, hrun, hv⟩ := h1.look_ok L ht hz (plainElem_int he (by decide)) hk
  obtain ⟨c, rfl, hc, _⟩ := plainElem_int_inv he hv
  rw [a2] at hc
  simp only [Prod.mk.injEq, DataW.lit.injEq, Lit.int.injEq, true_and] at hc
  rw [hrun, a1, ← hc.1]

/-- 'm[k] = v'. -/
theorem MapF.store [DecidableEq κ] (h : MapF P K E kf ok w b n f) (L : Keyed P K) {t : TypeId} (ht : P.underlying t = some (.map K E)) (he : P.underlying E = some (.int .i64)) (hn : n < maxLen)
    (hinj : ∀ k k' kl, ok k → ok k' → keyOf P K (kf k) = some kl → keyOf P K (kf k') = some kl → k = k')
    {k : κ} {kl : Lit} {v : Int} (o : ok k) (hk : keyOf P K (kf k) = some kl) (hv : (Lit.int .i64 v).wf = true) :
    ∃ w', (Instr.mapUpdate t (.map (some b)) (kf k) (.int .i64 v)).run P w = .ok () w' ∧ MapF P K E kf ok w' b (n + 1) (fun x => if x = k then some v else f x) ∧ w.grownBy w' (some b) := by
  obtain ⟨D, h1, h2⟩ := h
  obtain ⟨w', hrun, h3, h4⟩ := h1.update L ht hn hk (plainElem_int he hv)
  refine ⟨w', hrun, ⟨_, h3, fun k' kl' o' hk' => ?_⟩, h4⟩
  by_cases e : k' = k
  · subst e
    obtain rfl : kl = kl' := by rw [hk] at hk'; exact Option.some.inj hk'
    rw [Maps.has_put_same h1.isMap (L.key hk), Maps.atKey_put_same h1.isMap (L.key hk)]
    simp
  · have hne : kl' ≠ kl := fun he => e (hinj _ _ _ o' o hk' (he ▸ hk))
    rw [Maps.has_put_other hne, Maps.atKey_put_other hne]
    simpa [e] using h2 k' kl' o' hk'
end

end Go.Proofs.Ythcfgechifogeaa
