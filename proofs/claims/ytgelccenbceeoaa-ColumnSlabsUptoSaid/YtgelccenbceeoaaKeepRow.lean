/- append of one element: what the old slice reads stays as it was. -/
import Derived.Test.YtgelccenbceeoaaSlabs
namespace Go.Proofs.Ytgelccenbceeoaa
open Go.RowKit
set_option linter.unusedSimpArgs false
set_option linter.unusedVariables false

theorem run_append_keep {P : Program} (w : World) (base : Nat) (t ty e : TypeId) (i : TypeInfo) (z : Value) (size bytes : Nat) (ht : P.underlying t = some (.slice e)) (hi : P.info? e = some i) (hz : i.zero = some z)
    (hsize : i.size = size) (hby : i.bytes = bytes) (hzs : z.cells.size = size) (hsz : 0 < size) (v : Value) (n : Nat) (xs : List Value) (hown : w.ownsRow base e size v n xs)
    (a : Addr) (m c : Nat) (news : List Value) (hl : news.length = m * size) (hnews : ∀ j u, news[j]? = some u → w.cell? (a.add j) = some u) (h1 : ∀ u ∈ news, u.oneCell' = true)
    (h63 : n + m ≤ maxLen) (hbytes : (n + m) * bytes ≤ 140737488355328) (hbase : base ≤ w.heap.size) :
    ∃ v' w', (Builtin.append_ #[t, t] ty #[v, .slice (some a) m c]).run P w = .ok v' w' ∧ w'.ownsRow base e size v' (n + m) (xs ++ news) ∧ w.grownBy w' v.ownBlock ∧ (v'.ownBlock = v.ownBlock ∨ v'.ownBlock = some w.heap.size) ∧ w'.ownsRow base e size v n xs := by
  obtain ⟨v', w', hr, h2, h3, _, h5⟩ := run_append_own_at (P := P) w base t ty e i z size bytes ht hi hz hsize hby hzs hsz v n xs hown a m c news hl hnews h1 h63 hbytes hbase
  refine ⟨v', w', hr, h2, h3, h5, ?_⟩
  subst hsize
  subst hby
  rcases hown.2 with ⟨rfl, rfl⟩ | ⟨g, cap, cur, rfl, hbg, hg, hnc, hcm, hcs, htake⟩
  · exact ⟨hown.1, .inl ⟨rfl, rfl⟩⟩
  · by_cases hroom : n + m ≤ cap
    · have hfit : n * i.size + news.length ≤ cur.size := by rw [hl, hcs, ← Nat.add_mul]; exact Nat.mul_le_mul_right _ hroom
      have hr' := run_append_room (P := P) w t ty e i ht hi g n cap cur hg a m c news hl hnews h1 hroom hfit
      rw [hr] at hr'
      simp only [Result.ok.injEq] at hr'
      obtain ⟨_, rfl⟩ := hr'
      have hnl : n * i.size ≤ cur.size := by omega
      refine ⟨hown.1, .inr ⟨g, cap, _, rfl, hbg, setRow_heap w g cur _ e _ hg, hnc, hcm, ?_, ?_⟩⟩
      · simp only [List.size_toArray, List.length_append, List.length_take, List.length_drop, Array.length_toList]
        omega
      · simp only [List.append_assoc]
        rw [List.take_append_of_le_length (by simp; omega), List.take_take, Nat.min_self, htake]
    · have holds : ∀ j u, xs[j]? = some u → w.cell? ((⟨g, 0, none⟩ : Addr).add j) = some u := hown.cells (g := g) rfl
      have hr' := run_append_grow (P := P) w t ty e i z ht hi hz ⟨g, 0, none⟩ n cap xs hown.1 holds a m c news hl hnews (by omega) (by simp only [maxLen] at h63; omega) (growslice_fits (by omega) hbytes)
      rw [hr] at hr'
      simp only [Result.ok.injEq] at hr'
      obtain ⟨_, rfl⟩ := hr'
      exact ⟨hown.1, .inr ⟨g, cap, cur, rfl, hbg, (Below.heap_alloc w.drew _ g (blk_lt hg)).trans hg, hnc, hcm, hcs, htake⟩⟩

/-- append(v, x), x of several cells, the variadic's box just laid; v reads as it did. -/
theorem append_cells_keep {P : Program} {ops : Array Oper} {rest : List Oper} {o : Oper} {a : Act} {Q : Exit → Act → World → Prop} {W : World} (hgd : o.guard = none) (s x : Operand) (t : TypeId) {e : TypeId} (z : Value) (size bytes : Nat)
    (ho : o.op = .call { callee := .builtin .append, args := #[s, x], argTypes := #[t, t] })
    (ht : P.underlying t = some (.slice e)) (hinfo : (P.info? e).map (fun i => (i.zero, i.size, i.bytes)) = some (some z, size, bytes)) (hz : z.cells.size = size) (hs0 : 0 < size) (hb0 : 0 < bytes) (base : Nat)
    (v : Value) (n : Nat) (xs : List Value) {ys : List Value} (hs : a.eval s = v) {N : Nat} (hx : a.eval x = .slice (some ⟨N, 0, none⟩) 1 1) (hN : N = W.heap.size) (hys : ys.length = size) (h1 : ∀ u ∈ ys, u.oneCell' = true)
    (HO : W.ownsRow base e size v n xs) (hbase : base ≤ W.heap.size) (hl : (n + 1) * bytes ≤ 140737488355328)
    (h : ∀ v1 w1, w1.ownsRow base e size v1 (n + 1) (xs ++ ys) → (W.alloc (.cells ys.toArray e)).grownBy w1 v.ownBlock → (v1.ownBlock = v.ownBlock ∨ v1.ownBlock = some (W.heap.size + 1)) → w1.ownsRow base e size v n xs → wpList P ops Q rest (a.put o.dst v1) w1) :
    wpList P ops Q (o :: rest) a (W.alloc (.cells ys.toArray e)) := by
  subst hN
  obtain ⟨i0, hi, hz0, hz1, hz2⟩ := info_parts hinfo
  have hlen : n + 1 ≤ 140737488355328 := Nat.le_trans (Nat.le_mul_of_pos_right _ hb0) hl
  refine wpList_plain hgd fun K hK => ?_
  obtain ⟨v', w', hr, h2, h3, h5, h4⟩ := run_append_keep (P := P) (W.alloc (.cells ys.toArray e)) base t o.type e i0 z size bytes ht hi hz0 hz1 hz2 hz hs0 v n xs (HO.alloc _) ⟨W.heap.size, 0, none⟩ 1 1 ys (by rw [hys]; simp)
    (fun j u hj => by rw [add_zero_at]; exact (blk_cell (blk_new W _) j).trans (by simpa using hj)) h1 (by simp only [maxLen]; omega) hl (by simp; omega)
  unfold Oper.wp execOp
  simp only [ho, resolve, invoke, builtin, Sem.run_bind, Sem.run_pure, Result.andThen_ok, List.map_toArray, List.map_cons, List.map_nil, hs, hx, hr]
  exact hK _ _ (h v' w' h2 h3 (by simpa using h5) h4)

/-- A slab that is written into a row. -/
def slabPut (cur : Array Value) (a : Nat) (v0 v1 v2 v3 v4 v5 v6 v7 v8 : Value) : Array Value := (((((((((cur.setIfInBounds a v0).setIfInBounds (a + 1) v1).setIfInBounds (a + 2) v2).setIfInBounds (a + 3) v3).setIfInBounds (a + 4) v4).setIfInBounds (a + 5) v5).setIfInBounds (a + 6) v6).setIfInBounds (a + 7) v7).setIfInBounds (a + 8) v8)
theorem slabPut_size (cur : Array Value) (a : Nat) (v0 v1 v2 v3 v4 v5 v6 v7 v8 : Value) : (slabPut cur a v0 v1 v2 v3 v4 v5 v6 v7 v8).size = cur.size := by simp [slabPut]
theorem slabPut_far (cur : Array Value) (a : Nat) (v0 v1 v2 v3 v4 v5 v6 v7 v8 : Value) (j : Nat) (hj : j < a ∨ a + 9 ≤ j) : (slabPut cur a v0 v1 v2 v3 v4 v5 v6 v7 v8)[j]? = cur[j]? := by
  unfold slabPut
  repeat rw [Array.getElem?_setIfInBounds_ne (by omega)]
theorem slabPut_first (cur : Array Value) (a : Nat) (v0 v1 v2 v3 v4 v5 v6 v7 v8 : Value) (h : a < cur.size) : (slabPut cur a v0 v1 v2 v3 v4 v5 v6 v7 v8)[a]? = some v0 := by
  unfold slabPut
  repeat rw [Array.getElem?_setIfInBounds_ne (by omega)]
  simp [h]
theorem slab_puts {w : World} {n : Nat} {T : TypeId} {cur : Array Value} (hz : w.heap[n]? = some (.cells cur T (0, 0))) (a : Nat) (v0 v1 v2 v3 v4 v5 v6 v7 v8 : Value) :
    (((((((((w.setCell ⟨n, a, none⟩ v0).setCell ⟨n, a + 1, none⟩ v1).setCell ⟨n, a + 2, none⟩ v2).setCell ⟨n, a + 3, none⟩ v3).setCell ⟨n, a + 4, none⟩ v4).setCell ⟨n, a + 5, none⟩ v5).setCell ⟨n, a + 6, none⟩ v6).setCell ⟨n, a + 7, none⟩ v7).setCell ⟨n, a + 8, none⟩ v8).heap[n]? = some (.cells (slabPut cur a v0 v1 v2 v3 v4 v5 v6 v7 v8) T (0, 0)) :=
  blk_set (blk_set (blk_set (blk_set (blk_set (blk_set (blk_set (blk_set (blk_set hz _ _) _ _) _ _) _ _) _ _) _ _) _ _) _ _) _ _

/-- A cell that the old slice reads, or that lies elsewhere. -/
theorem cell_keep {W w1 : World} {base : Nat} {e : TypeId} {size m g k : Nat} {vl u : Value} {ys : List Value} {o : Obj} (h0 : W.ownsRow base e size vl m ys) (h1 : w1.ownsRow base e size vl m ys) (G : (W.alloc o).grownBy w1 vl.ownBlock) (hc : W.cell? ⟨g, k, none⟩ = some u) (hk : k < m * size) : w1.cell? ⟨g, k, none⟩ = some u := by
  by_cases hg : vl.ownBlock = some g
  · rcases h0.2 with ⟨rfl, _⟩ | ⟨g', cap, cur, rfl, _⟩
    · simp [Value.ownBlock] at hg
    · simp only [Value.ownBlock, Option.some.injEq] at hg
      subst hg
      rw [h0.cellAt k hk] at hc
      rw [h1.cellAt k hk]
      exact hc
  · have hlt := World.block_lt_of_cell? W _ hc
    exact (World.cell?_of_block ((G.block g (by simp; simp at hlt; omega) (fun e => hg e.symm)).trans (Below.heap_alloc W o g (by simpa using hlt)))).trans hc

theorem own_slab_put {w : World} {base g n cap i : Nat} {xs : List Value} (h : w.ownsRow base 51 9 (.slice (some ⟨g, 0, none⟩) n cap) n xs) (hi : i < n) (v0 v1 v2 v3 v4 v5 v6 v7 v8 : Value) :
    ∃ xs', (((((((((w.setCell ⟨g, i * 9, none⟩ v0).setCell ⟨g, i * 9 + 1, none⟩ v1).setCell ⟨g, i * 9 + 2, none⟩ v2).setCell ⟨g, i * 9 + 3, none⟩ v3).setCell ⟨g, i * 9 + 4, none⟩ v4).setCell ⟨g, i * 9 + 5, none⟩ v5).setCell ⟨g, i * 9 + 6, none⟩ v6).setCell ⟨g, i * 9 + 7, none⟩ v7).setCell ⟨g, i * 9 + 8, none⟩ v8).ownsRow base 51 9 (.slice (some ⟨g, 0, none⟩) n cap) n xs' ∧ xs'[i * 9]? = some v0 ∧ ∀ j, j ≠ i → xs'[j * 9]? = xs[j * 9]? := by
  rcases h.2 with ⟨h', _⟩ | ⟨g', cap', cur, h', hb, hh, hn, hm, hs, ht⟩
  · simp at h'
  · simp only [Value.slice.injEq, Option.some.injEq, Addr.mk.injEq, and_true, true_and] at h'
    obtain ⟨rfl, rfl⟩ := h'
    have hz : n * 9 ≤ cur.size := by rw [hs]; exact Nat.mul_le_mul_right _ hn
    refine ⟨(slabPut cur (i * 9) v0 v1 v2 v3 v4 v5 v6 v7 v8).toList.take (n * 9), ⟨?_, .inr ⟨g, cap, _, rfl, hb, slab_puts hh (i * 9) v0 v1 v2 v3 v4 v5 v6 v7 v8, hn, hm, by rw [slabPut_size, hs], rfl⟩⟩, ?_, fun j hj => ?_⟩
    · rw [List.length_take, Array.length_toList, slabPut_size]
      omega
    · rw [List.getElem?_take_of_lt (by omega), Array.getElem?_toList]
      exact slabPut_first cur (i * 9) v0 v1 v2 v3 v4 v5 v6 v7 v8 (by omega)
    · rw [← ht, List.getElem?_take, List.getElem?_take, Array.getElem?_toList, Array.getElem?_toList, slabPut_far cur (i * 9) v0 v1 v2 v3 v4 v5 v6 v7 v8 (j * 9) (by omega)]

end Go.Proofs.Ytgelccenbceeoaa
