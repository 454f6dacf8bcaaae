/- Rows of cells that a walk owns, reads, appends to: no function in sight. -/
import Derived.Test.YthcfgechifogeaaOpen
import Derived.Deep.RegionHeld3
import Derived.Deep.DeepCutAuto
import Derived.Deep.CutBlock
import Derived.Maps.AppendAt
namespace Go.Proofs.Ythcfgechifogeaa
open Go.RowKit
set_option linter.unusedSimpArgs false
set_option linter.unusedVariables false

theorem Keep.cell' {S : List Nat} {w w' : World} (h : Keep S w w') {p : Addr} {v : Value} (hc : w.cell? p = some v) (hs : p.block ∉ S) : w'.cell? p = some v :=
  (World.cell?_of_block (h.block _ (World.block_lt_of_cell? w p hc) hs)).trans hc

/-- What a call leaves that writes nothing old, as rules for the walk. -/
theorem kcell {w w' : World} (h : Keep [] w w') : (∀ b o, b < w.heap.size → w'.cell? ⟨b, o, none⟩ = w.cell? ⟨b, o, none⟩) ∧ (∀ b o, b < w.heap.size → w'.frozen? ⟨b, o, none⟩ = w.frozen? ⟨b, o, none⟩) ∧ (∀ n, n < w.heap.size → n < w'.heap.size) :=
  ⟨fun b o hb => World.cell?_of_block (h.block b hb (by simp)), fun b o hb => World.frozen?_of_block (h.block b hb (by simp)), fun n hn => Nat.lt_of_lt_of_le hn h.size⟩

theorem cell_alloc' {w : World} {p : Addr} {v : Value} (h : w.cell? p = some v) (o : Obj) : (w.alloc o).cell? p = some v :=
  (World.cell?_of_block (Below.heap_alloc w o _ (World.block_lt_of_cell? w p h))).trans h

theorem size_drew' (w : World) : w.drew.heap.size = w.heap.size := rfl

theorem size_alloc' (w : World) (o : Obj) : (w.alloc o).heap.size = w.heap.size + 1 := by simp

theorem cell_drew' {w : World} {p : Addr} {v : Value} (h : w.cell? p = some v) : w.drew.cell? p = some v := h

theorem cell_set' {w : World} {p q : Addr} {v : Value} (h : w.cell? p = some v) (hne : p.block ≠ q.block) (u : Value) : (w.setCell q u).cell? p = some v :=
  (World.cell?_of_block (Below.heap_setCell w q u _ hne)).trans h

theorem cell_set'' {w : World} {p : Addr} {v : Value} (h : w.cell? p = some v) (q : Addr) (u : Value) (hs : q.spot = none) (hne : p.block ≠ q.block ∨ p.off ≠ q.off) : (w.setCell q u).cell? p = some v := by
  by_cases hb : p.block = q.block
  · have ho : p.off ≠ q.off := hne.resolve_left (fun h => h hb)
    unfold World.cell? at h ⊢
    simp only [World.setCell, Array.getElem?_modify, hb]
    rw [hb] at h
    simp only [if_true]
    cases hg : w.heap[q.block]? with
    | none => rw [hg] at h; simp at h
    | some o =>
      rw [hg] at h
      cases o <;> simp_all [Array.getElem?_setIfInBounds]
      omega
  · exact cell_set' h hb u

theorem add_zero_at (b m : Nat) : (⟨b, 0, none⟩ : Addr).add m = ⟨b, m, none⟩ := by unfold Addr.add; split <;> simp_all

/-- Rows that lie in one block, from its begin. -/
theorem Rd.of_block {α : Type} {enc : α → List Value} {sz : Nat} {w : World} {b : Nat} {cs : Array Value} {T : TypeId} {fr : Nat × Nat} {rows : List α} (h : w.heap[b]? = some (.cells cs T fr))
    (hc : ∀ i x j v, rows[i]? = some x → (enc x)[j]? = some v → cs[i * sz + j]? = some v) : Rd enc sz w (some ⟨b, 0, none⟩) rows := by
  intro i x hx
  refine ⟨_, rfl, fun j v hv => ?_⟩
  rw [add_zero_at]
  exact (blk_cell h _).trans (hc i x j v hx hv)

def intRow (x : Int) : List Value := [.int .i64 x]

theorem take_snoc {α : Type} {l : List α} {k : Nat} {x : α} (h : l[k]? = some x) : l.take (k + 1) = l.take k ++ [x] := by
  rw [List.take_add_one, h]; rfl

theorem own_base {w : World} {base : Nat} {e : TypeId} {size n : Nat} {v : Value} {xs : List Value} (h : w.ownsRow base e size v n xs) (k : Nat) (hk : v.ownBlock = some k) : base ≤ k ∧ k < w.heap.size ∧ ∃ cur, w.heap[k]? = some (.cells cur e (0, 0)) := by
  rcases h.2 with ⟨rfl, _⟩ | ⟨g, cap, cur, rfl, hg, hh, _⟩
  · simp [Value.ownBlock] at hk
  · simp [Value.ownBlock] at hk
    subst hk
    exact ⟨hg, blk_lt hh, cur, hh⟩

theorem own_base_le {w : World} {base base' : Nat} {e : TypeId} {size n : Nat} {v : Value} {xs : List Value} (h : w.ownsRow base e size v n xs) (hb : base' ≤ base) : w.ownsRow base' e size v n xs := by
  obtain ⟨h1, h2⟩ := h
  refine ⟨h1, ?_⟩
  rcases h2 with h2 | ⟨g, cap, cur, rfl, hg, rest⟩
  · exact .inl h2
  · exact .inr ⟨g, cap, cur, rfl, Nat.le_trans hb hg, rest⟩
theorem own_ne {w : World} {base : Nat} {e t : TypeId} {size n g : Nat} {v : Value} {xs : List Value} {cs : Array Value} {fr : Nat × Nat} (h : w.ownsRow base e size v n xs) (hg : w.heap[g]? = some (.cells cs t fr)) (hne : e ≠ t) : some g ≠ v.ownBlock := by
  intro he
  obtain ⟨_, _, cur, hc⟩ := own_base h g he.symm
  rw [hg] at hc
  simp only [Option.some.injEq, Obj.cells.injEq] at hc
  exact hne hc.2.1.symm

theorem Keep.grown {S : List Nat} {a w w' : World} {row : Option Nat} (h : Keep S a w) (hg : w.grownBy w' row) (hr : ∀ k, row = some k → k ∈ S ∨ a.heap.size ≤ k) : Keep S a w' :=
  h.then (T := row.toList) ⟨hg.os, hg.tape, hg.output, hg.size, fun k hk hn => hg.block k hk (fun e => hn (by simp [← e]))⟩ (fun k hk => hr k (by simpa using hk))

theorem blk_grown {w w1 : World} {g : Nat} {o : Obj} {row : Option Nat} (h : w.heap[g]? = some o) (hg : w.grownBy w1 row) (hne : some g ≠ row) : w1.heap[g]? = some o := (hg.block g (blk_lt h) hne).trans h

theorem own_keep {w w1 : World} {base : Nat} {e : TypeId} {size n : Nat} {v : Value} {xs : List Value} (h : w.ownsRow base e size v n xs) {S : List Nat} (k : Keep S w w1) (hS : ∀ b, b ∈ S → some b ≠ v.ownBlock) : w1.ownsRow base e size v n xs := by
  obtain ⟨h1, h2⟩ := h
  refine ⟨h1, ?_⟩
  rcases h2 with h2 | ⟨g, cap, cur, rfl, hb, hh, rest⟩
  · exact .inl h2
  · exact .inr ⟨g, cap, cur, rfl, hb, k.blk hh (fun hm => hS g hm rfl), rest⟩

/-- append(v, x), x of several cells, the variadic's box just laid. -/
theorem append_cells {P : Program} {ops : Array Oper} {rest : List Oper} {o : Oper} {a : Act} {Q : Exit → Act → World → Prop} {W : World} (hgd : o.guard = none) (s x : Operand) (t : TypeId) {e : TypeId} (z : Value) (size bytes : Nat)
    (ho : o.op = .call { callee := .builtin .append, args := #[s, x], argTypes := #[t, t] })
    (ht : P.underlying t = some (.slice e)) (hinfo : (P.info? e).map (fun i => (i.zero, i.size, i.bytes)) = some (some z, size, bytes)) (hz : z.cells.size = size) (hs0 : 0 < size) (hb0 : 0 < bytes) (base : Nat)
    (v : Value) (n : Nat) (xs : List Value) {ys : List Value} (hs : a.eval s = v) {N : Nat} (hx : a.eval x = .slice (some ⟨N, 0, none⟩) 1 1) (hN : N = W.heap.size) (hys : ys.length = size) (h1 : ∀ u ∈ ys, u.oneCell' = true)
    (HO : W.ownsRow base e size v n xs) (hbase : base ≤ W.heap.size) (hl : (n + 1) * bytes ≤ 140737488355328)
    (h : ∀ v1 w1, w1.ownsRow base e size v1 (n + 1) (xs ++ ys) → (W.alloc (.cells ys.toArray e)).grownBy w1 v.ownBlock → wpList P ops Q rest (a.put o.dst v1) w1) :
    wpList P ops Q (o :: rest) a (W.alloc (.cells ys.toArray e)) := by
  subst hN
  obtain ⟨i0, hi, hz0, hz1, hz2⟩ := info_parts hinfo
  have hlen : n + 1 ≤ 140737488355328 := Nat.le_trans (Nat.le_mul_of_pos_right _ hb0) hl
  refine wpList_append_own_at (W.alloc (.cells ys.toArray e)) hgd s x t ho base e i0 z size bytes ht hi hz0 hz1 hz2 hz hs0 v n xs hs (HO.alloc _) ⟨W.heap.size, 0, none⟩ 1 1 ys hx (by rw [hys]; simp)
    (fun j u hj => ?_) h1 (by simp only [maxLen]; omega) hl (by simp; omega) ?_
  · rw [add_zero_at]
    exact (blk_cell (blk_new W _) j).trans (by simpa using hj)
  · intro v1 w1 hown hg _ _
    exact h v1 w1 hown hg

theorem flat_get {α : Type} {enc : α → List Value} {sz : Nat} (hsz : ∀ x, (enc x).length = sz) : ∀ (xs : List α) (i j : Nat) (x : α) (v : Value), xs[i]? = some x → (enc x)[j]? = some v → (xs.flatMap enc)[i * sz + j]? = some v
  | [], i, j, x, v, h, _ => by simp at h
  | y :: ys, 0, j, x, v, h, hv => by
    simp at h
    subst h
    rw [List.flatMap_cons, Nat.zero_mul, Nat.zero_add, List.getElem?_append_left (List.getElem?_eq_some_iff.mp hv).1]
    exact hv
  | y :: ys, i + 1, j, x, v, h, hv => by
    simp at h
    rw [List.flatMap_cons, Nat.add_mul, Nat.one_mul, List.getElem?_append_right (by rw [hsz]; omega), hsz]
    have e : i * sz + sz + j - sz = i * sz + j := by omega
    rw [e]
    exact flat_get hsz ys i j x v h hv

/-- A row of its own, as a list that is read. -/
theorem own_rd {α : Type} {enc : α → List Value} {sz : Nat} {w : World} {base : Nat} {e : TypeId} {v : Value} {xs : List α} (hsz : ∀ x, (enc x).length = sz) (h : w.ownsRow base e sz v xs.length (xs.flatMap enc)) :
    ∃ A cap, v = .slice A xs.length cap ∧ xs.length ≤ cap ∧ Rd enc sz w A xs ∧ (∀ ad, A = some ad → ∃ g cur, ad = ⟨g, 0, none⟩ ∧ base ≤ g ∧ w.heap[g]? = some (.cells cur e (0, 0)) ∧ cur.size = cap * sz) := by
  rcases h.2 with ⟨rfl, h0⟩ | ⟨g, cap, cur, rfl, hb, hh, h1, h2, h3, h4⟩
  · refine ⟨none, 0, by rw [h0], by omega, ?_, fun ad h => by simp at h⟩
    rw [List.eq_nil_of_length_eq_zero h0]
    exact Rd.nil _ _ _ _
  · refine ⟨some ⟨g, 0, none⟩, cap, rfl, h1, Rd.of_block hh (fun i x j v hx hv => ?_), fun ad h => ⟨g, cur, (Option.some.inj h).symm, hb, hh, h3⟩⟩
    have hf := flat_get hsz xs i j x v hx hv
    rw [← h4, List.getElem?_take] at hf
    split at hf
    · simpa using hf
    · simp at hf

theorem flat_len {α : Type} {enc : α → List Value} {sz : Nat} (hsz : ∀ x, (enc x).length = sz) (xs : List α) : (xs.flatMap enc).length = xs.length * sz := by
  induction xs with
  | nil => simp
  | cons x r ih => rw [List.flatMap_cons, List.length_append, ih, hsz, List.length_cons, Nat.add_mul]; omega

/-- The cells of a list that is read, one by one. -/
theorem Rd.cells {α : Type} {enc : α → List Value} {sz : Nat} {w : World} {ad : Addr} {xs : List α} (h : Rd enc sz w (some ad) xs) (hsz : ∀ x, (enc x).length = sz) (h0 : 0 < sz) (j : Nat) (u : Value) (hj : (xs.flatMap enc)[j]? = some u) : w.cell? (ad.add j) = some u := by
  have hlt := (List.getElem?_eq_some_iff.1 hj).1
  rw [flat_len hsz] at hlt
  have hq : j / sz < xs.length := Nat.div_lt_of_lt_mul (by rw [Nat.mul_comm]; exact hlt)
  have hr : j % sz < sz := Nat.mod_lt _ h0
  obtain ⟨x, hx⟩ : ∃ x, xs[j / sz]? = some x := ⟨_, List.getElem?_eq_getElem hq⟩
  obtain ⟨v, hv⟩ : ∃ v, (enc x)[j % sz]? = some v := ⟨_, List.getElem?_eq_getElem (by rw [hsz]; exact hr)⟩
  obtain ⟨ad', he, hc⟩ := h _ x hx
  obtain rfl := Option.some.inj he
  have h1 := hc _ v hv
  have h2 := flat_get hsz xs _ _ x v hx hv
  have e : j / sz * sz + j % sz = j := by rw [Nat.mul_comm]; exact Nat.div_add_mod j sz
  rw [e] at h1 h2
  rw [hj] at h2
  rw [h1, Option.some.inj h2]

theorem run_append_of_nil {P : Program} (w : World) (base : Nat) (t ty e : TypeId) (i : TypeInfo) (size : Nat) (ht : P.underlying t = some (.slice e)) (hi : P.info? e = some i)
    (v : Value) (n : Nat) (xs : List Value) (hown : w.ownsRow base e size v n xs) (c : Nat) : (Builtin.append_ #[t, t] ty #[v, .slice none 0 c]).run P w = .ok v w := by
  rcases hown.2 with ⟨rfl, rfl⟩ | ⟨g, cap, cur, rfl, _, _, hnc, _⟩
  · simp [Builtin.append_, run_underlying ht, sizeOf, typeInfo, hi, Builtin.lenOf, Builtin.firstCells]
  · simp [Builtin.append_, run_underlying ht, sizeOf, typeInfo, hi, Builtin.lenOf, Builtin.firstCells, hnc, storeCells]

/-- append(v, l...), l a list that is read: nil, empty or not. -/
theorem append_list {α : Type} {enc : α → List Value} {P : Program} {ops : Array Oper} {rest : List Oper} {o : Oper} {a : Act} {Q : Exit → Act → World → Prop} {W : World} (hgd : o.guard = none) (s x : Operand) (t : TypeId) {e : TypeId} (z : Value) (size bytes : Nat)
    (ho : o.op = .call { callee := .builtin .append, args := #[s, x], argTypes := #[t, t] })
    (ht : P.underlying t = some (.slice e)) (hinfo : (P.info? e).map (fun i => (i.zero, i.size, i.bytes)) = some (some z, size, bytes)) (hz : z.cells.size = size) (hs0 : 0 < size) (hb0 : 0 < bytes) (base : Nat)
    (v : Value) (n : Nat) (xs : List Value) {ls : List α} {A : Option Addr} {m c : Nat} (hs : a.eval s = v) (hx : a.eval x = .slice A m c) (hm : ls.length = m) (hA : A = none → m = 0) (hr : Rd enc size W A ls) (hsz : ∀ y, (enc y).length = size) (h1 : ∀ y, ∀ u ∈ enc y, u.oneCell' = true)
    (HO : W.ownsRow base e size v n xs) (hbase : base ≤ W.heap.size) (hl : (n + m) * bytes ≤ 140737488355328)
    (h : ∀ v1 w1, w1.ownsRow base e size v1 (n + m) (xs ++ ls.flatMap enc) → W.grownBy w1 v.ownBlock → wpList P ops Q rest (a.put o.dst v1) w1) :
    wpList P ops Q (o :: rest) a W := by
  obtain ⟨i0, hi, hz0, hz1, hz2⟩ := info_parts hinfo
  have hlen : n + m ≤ 140737488355328 := Nat.le_trans (Nat.le_mul_of_pos_right _ hb0) hl
  rcases A with _ | ad
  · obtain rfl := hA rfl
    obtain rfl := List.eq_nil_of_length_eq_zero hm
    refine wpList_plain hgd fun K hK => ?_
    have hrun := run_append_of_nil (P := P) W base t o.type e i0 size ht hi v n xs HO c
    unfold Oper.wp execOp
    simp only [ho, resolve, invoke, builtin, Sem.run_bind, Sem.run_pure, Result.andThen_ok, List.map_toArray, List.map_cons, List.map_nil, hs, hx, hrun]
    exact hK _ _ (h v W (by simpa using HO) (World.grownBy.refl W _))
  · refine wpList_append_own_at W hgd s x t ho base e i0 z size bytes ht hi hz0 hz1 hz2 hz hs0 v n xs hs HO ad m c (ls.flatMap enc) hx (by rw [flat_len hsz, hm]) (fun j u hj => hr.cells hsz hs0 j u hj)
      (fun u hu => by obtain ⟨y, _, hy⟩ := List.mem_flatMap.1 hu; exact h1 y u hy) (by simp only [maxLen]; omega) hl hbase ?_
    intro v1 w1 hown hg _ _
    exact h v1 w1 hown hg

end Go.Proofs.Ythcfgechifogeaa
