/- append of a list, as one step of a region that draws its order. -/
import Derived.Test.YthcfgechifogeaaRow
import Derived.Maps.AppendAt
import Derived.Deep.RegionLaw
namespace Go.Proofs.Ythcfgechifogeaa
open Go.RowKit
set_option linter.unusedSimpArgs false
set_option linter.unusedVariables false

theorem run_append_list {α : Type} {enc : α → List Value} {P : Program} (W : World) (t ty : TypeId) {e : TypeId} (z : Value) (size bytes : Nat)
    (ht : P.underlying t = some (.slice e)) (hinfo : (P.info? e).map (fun i => (i.zero, i.size, i.bytes)) = some (some z, size, bytes)) (hz : z.cells.size = size) (hs0 : 0 < size) (hb0 : 0 < bytes) (base : Nat)
    (v : Value) (n : Nat) (xs : List Value) {ls : List α} {A : Option Addr} {m c : Nat} (hm : ls.length = m) (hA : A = none → m = 0) (hr : Rd enc size W A ls) (hsz : ∀ y, (enc y).length = size) (h1 : ∀ y, ∀ u ∈ enc y, u.oneCell' = true)
    (HO : W.ownsRow base e size v n xs) (hbase : base ≤ W.heap.size) (hl : (n + m) * bytes ≤ 140737488355328) :
    ∃ v1 w1, (Builtin.append_ #[t, t] ty #[v, .slice A m c]).run P W = .ok v1 w1 ∧ w1.ownsRow base e size v1 (n + m) (xs ++ ls.flatMap enc) ∧ W.grownBy w1 v.ownBlock := by
  obtain ⟨i0, hi, hz0, hz1, hz2⟩ := info_parts hinfo
  have hlen : n + m ≤ 140737488355328 := Nat.le_trans (Nat.le_mul_of_pos_right _ hb0) hl
  rcases A with _ | ad
  · obtain rfl := hA rfl
    obtain rfl := List.eq_nil_of_length_eq_zero hm
    exact ⟨v, W, run_append_of_nil (P := P) W base t ty e i0 size ht hi v n xs HO c, by simpa using HO, World.grownBy.refl W _⟩
  · obtain ⟨v', w', hr', h2, h3, _, _⟩ := run_append_own_at (P := P) W base t ty e i0 z size bytes ht hi hz0 hz1 hz2 hz hs0 v n xs HO ad m c (ls.flatMap enc) (by rw [flat_len hsz, hm]) (fun j u hj => hr.cells hsz hs0 j u hj)
      (fun u hu => by obtain ⟨y, _, hy⟩ := List.mem_flatMap.1 hu; exact h1 y u hy) (by simp only [maxLen]; omega) hl hbase
    exact ⟨v', w', hr', h2, h3⟩

theorem own_slice {w : World} {base : Nat} {e : TypeId} {sz : Nat} {v : Value} {n : Nat} {xs : List Value} (h : w.ownsRow base e sz v n xs) : ∃ A c, v = .slice A n c := by
  rcases h.2 with ⟨rfl, rfl⟩ | ⟨g, cap, cur, rfl, _⟩
  · exact ⟨none, 0, rfl⟩
  · exact ⟨_, _, rfl⟩
theorem step_append_list {α : Type} {enc : α → List Value} {P : Program} {ops : Array Oper} {o : Oper} {a : Act} {K : Act → World → Prop} {Q : Exit → Act → World → Prop} {E : Prop} {W : World} (hgd : o.guard = none) (s x : Operand) (t : TypeId) {e : TypeId} (z : Value) (size bytes : Nat)
    (ho : o.op = .call { callee := .builtin .append, args := #[s, x], argTypes := #[t, t] })
    (ht : P.underlying t = some (.slice e)) (hinfo : (P.info? e).map (fun i => (i.zero, i.size, i.bytes)) = some (some z, size, bytes)) (hz : z.cells.size = size) (hs0 : 0 < size) (hb0 : 0 < bytes) (base : Nat)
    (v : Value) (n : Nat) (xs : List Value) {ls : List α} {A : Option Addr} {m c : Nat} (hs : a.eval s = v) (hx : a.eval x = .slice A m c) (hm : ls.length = m) (hA : A = none → m = 0) (hr : Rd enc size W A ls) (hsz : ∀ y, (enc y).length = size) (h1 : ∀ y, ∀ u ∈ enc y, u.oneCell' = true)
    (HO : W.ownsRow base e size v n xs) (hbase : base ≤ W.heap.size) (hl : (n + m) * bytes ≤ 140737488355328)
    (h : ∀ A1 c1 w1, w1.ownsRow base e size (.slice A1 (n + m) c1) (n + m) (xs ++ ls.flatMap enc) → W.grownBy w1 v.ownBlock → K (a.put o.dst (.slice A1 (n + m) c1)) w1) :
    if Region.wanted o (yielded ops a.tmps) = true then Oper.wp P o a W K Q else E := by
  have hw : Region.wanted o (yielded ops a.tmps) = true := by simp [Region.wanted, hgd]
  rw [if_pos hw]
  obtain ⟨v1, w1, hrun, h2, h3⟩ := run_append_list (P := P) W t o.type z size bytes ht hinfo hz hs0 hb0 base v n xs (c := c) hm hA hr hsz h1 HO hbase hl
  obtain ⟨A1, c1, rfl⟩ := own_slice h2
  unfold Oper.wp
  simp [execOp, ho, resolve, invoke, builtin, hs, hx, hrun, Result.andThen]
  exact h _ _ _ h2 h3

end Go.Proofs.Ythcfgechifogeaa
