/- copy(own, l): own a block known whole, l a list that is read; a row that make laid, its last place. -/
import Derived.Test.YthcfgechifogeaaRow
import Derived.Laws.CopyRow
import Derived.Laws.IdiomCopy
namespace Go.Proofs.Ythcfgechifogeaa
open Go.RowKit
set_option linter.unusedSimpArgs false
set_option linter.unusedVariables false

theorem run_copy_rows {P : Program} (w : World) (dT sT ty elem : TypeId) (g dLen dCap : Nat) (a : Addr) (sLen sCap size m : Nat) (cur : Array Value) (t : TypeId) (cs : List Value)
    (hu : P.underlying dT = some (.slice elem)) (hs : (P.info? elem).map (·.size) = some size) (hm : Nat.min sLen dLen = m)
    (hg : w.heap[g]? = some (.cells cur t (0, 0))) (hn : cs.length = m * size)
    (hsrc : ∀ j v, cs[j]? = some v → w.cell? (a.add j) = some v) (hfit : cs.length ≤ cur.size) (h1 : ∀ v ∈ cs, v.oneCell' = true) :
    (Builtin.copy_ #[dT, sT] ty #[.slice (some ⟨g, 0, none⟩) dLen dCap, .slice (some a) sLen sCap]).run P w =
      .ok (goInt m) (w.setRow g (cs ++ cur.toList.drop cs.length).toArray) := by
  have hl := run_loadCells_list (P := P) w a cs hsrc
  have hst := run_storeCells_at P g 0 t cs 0 cur w hg (by simpa using hfit) h1
  rw [hn] at hl
  cases hq : P.info? elem with
  | none => simp [hq] at hs
  | some i =>
    have hi : i.size = size := by simpa [hq] using hs
    simp [Builtin.copy_, run_underlying hu, Builtin.lenOf, Builtin.firstCells, sizeOf, typeInfo, hq, hi, hm, hl, hst]

theorem run_copy_zero {P : Program} (w : World) (dT sT ty elem : TypeId) (d a : Option Addr) (dLen dCap sCap size : Nat) (hu : P.underlying dT = some (.slice elem)) (hs : (P.info? elem).map (·.size) = some size) :
    (Builtin.copy_ #[dT, sT] ty #[.slice d dLen dCap, .slice a 0 sCap]).run P w = .ok (goInt 0) w := by
  cases hq : P.info? elem with
  | none => simp [hq] at hs
  | some i =>
    have hl : ∀ (x : Addr), (loadCells x 0).run P w = .ok #[] w := fun x => by simpa using run_loadCells_list (P := P) w x [] (by simp)
    cases d <;> cases a <;> simp [Builtin.copy_, run_underlying hu, Builtin.lenOf, Builtin.firstCells, sizeOf, typeInfo, hq, storeCells, hl]

/-- copy(own, l), own a block known whole, l a list that is read. -/
theorem copy_list {α : Type} {enc : α → List Value} {P : Program} {ops : Array Oper} {rest : List Oper} {o : Oper} {a : Act} {Q : Exit → Act → World → Prop} {W : World} (hgd : o.guard = none) (d s : Operand) (t elem : TypeId) (size : Nat)
    (ho : o.op = .call { callee := .builtin .copy, args := #[d, s], argTypes := #[t, t] })
    (hu : P.underlying t = some (.slice elem)) (hs : (P.info? elem).map (·.size) = some size)
    {g dLen dCap sCap n : Nat} {A : Option Addr} {ls : List α} (hd : a.eval d = .slice (some ⟨g, 0, none⟩) dLen dCap) (hx : a.eval s = .slice A n sCap) (hn : ls.length = n) (hle : n ≤ dLen)
    {cur : Array Value} {T : TypeId} (hg : W.heap[g]? = some (.cells cur T (0, 0))) (hr : Rd enc size W A ls) (hsz : ∀ y, (enc y).length = size) (h0 : 0 < size) (h1 : ∀ y, ∀ u ∈ enc y, u.oneCell' = true) (hfit : n * size ≤ cur.size)
    (h : ∀ w', w'.heap[g]? = some (.cells (ls.flatMap enc ++ cur.toList.drop (n * size)).toArray T (0, 0)) → Keep [g] W w' → wpList P ops Q rest (a.put o.dst (goInt n)) w') :
    wpList P ops Q (o :: rest) a W := by
  subst hn
  have hkeep : ∀ cs, Keep [g] W (W.setRow g cs) := fun cs => ⟨rfl, rfl, rfl, by simp [World.setRow], fun k hk hn => setRow_other W g k cs (by simpa using hn)⟩
  refine wpList_plain hgd fun K hK => ?_
  cases ls with
  | nil =>
    have hrun := run_copy_zero (P := P) W t t o.type elem (some ⟨g, 0, none⟩) A dLen dCap sCap size hu hs
    unfold Oper.wp execOp
    simp only [List.length_nil] at hx
    simp only [ho, resolve, invoke, builtin, Sem.run_bind, Sem.run_pure, Result.andThen_ok, List.map_toArray, List.map_cons, List.map_nil, hd, hx, hrun]
    exact hK _ _ (h W (by simpa using hg) (Keep.refl _ _))
  | cons x xs =>
    obtain ⟨ad, hA, _⟩ := hr 0 x rfl
    subst hA
    have hrun := run_copy_rows (P := P) W t t o.type elem g dLen dCap ad (x :: xs).length sCap size (x :: xs).length cur T ((x :: xs).flatMap enc) hu hs (Nat.min_eq_left hle) hg (flat_len hsz _) (fun j u hj => hr.cells hsz h0 j u hj) (by rw [flat_len hsz]; exact hfit)
      (fun u hu => by obtain ⟨y, _, hy⟩ := List.mem_flatMap.1 hu; exact h1 y u hy)
    rw [flat_len hsz] at hrun
    unfold Oper.wp execOp
    simp only [ho, resolve, invoke, builtin, Sem.run_bind, Sem.run_pure, Result.andThen_ok, List.map_toArray, List.map_cons, List.map_nil, hd, hx, hrun]
    exact hK _ _ (h _ (setRow_heap W g _ _ T _ hg) (hkeep _))

theorem made_any {w : World} {base n g sz : Nat} {e : TypeId} {xs : List Value} (h : w.ownsRow base e sz (.slice (some ⟨g, 0, none⟩) n n) n xs) : ∃ cur, w.heap[g]? = some (.cells cur e (0, 0)) ∧ cur.size = n * sz := by
  rcases h.2 with ⟨h', _⟩ | ⟨g', cap, cur, h', _, hh, _, _, hs, _⟩
  · simp at h'
  · simp only [Value.slice.injEq, Option.some.injEq, Addr.mk.injEq, and_true, true_and] at h'
    obtain ⟨rfl, rfl⟩ := h'
    exact ⟨cur, hh, hs⟩
/-- Behind a copied list one place: the mark. -/
theorem cell_back {α : Type} {enc : α → List Value} {sz : Nat} (hsz : ∀ y, (enc y).length = sz) {w : World} {g : Nat} {cur : List Value} {l : List α} {T : TypeId} (h : w.heap[g]? = some (.cells (l.flatMap enc ++ cur).toArray T (0, 0))) (hc : 0 < cur.length) : ∃ z, w.cell? ⟨g, l.length * sz, none⟩ = some z := by
  have hfl := flat_len (enc := enc) (sz := sz) hsz l
  rw [blk_cell h]
  simp only [List.getElem?_toArray]
  exact ⟨_, List.getElem?_eq_getElem (by rw [List.length_append, hfl]; omega)⟩
theorem mark_blk {α : Type} {enc : α → List Value} {sz : Nat} (hsz : ∀ y, (enc y).length = sz) {w : World} {g : Nat} {cur : List Value} {l : List α} {T : TypeId} (h : w.heap[g]? = some (.cells (l.flatMap enc ++ cur).toArray T (0, 0))) (v : Value) :
    (w.setCell ⟨g, l.length * sz, none⟩ v).heap[g]? = some (.cells (l.flatMap enc ++ cur.set 0 v).toArray T (0, 0)) := by
  have hfl := flat_len (enc := enc) (sz := sz) hsz l
  refine (blk_set h (l.length * sz) v).trans ?_
  congr 2
  apply Array.ext'
  simp only [List.setIfInBounds_toArray]
  rw [List.set_append_right _ _ (by rw [hfl]; omega), hfl, Nat.sub_self]
end Go.Proofs.Ythcfgechifogeaa
