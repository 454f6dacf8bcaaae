/- Own rows: append keeps what the old slice reads; cells put into them. -/
import Derived.Test.YthcfgechifogeaaTabLent
namespace Go.Proofs.Ythcfgechifogeaa
open Go.RowKit
set_option linter.unusedSimpArgs false
set_option linter.unusedVariables false

theorem run_append_keep {P : Program} (w : World) (base : Nat) (t ty e : TypeId) (i : TypeInfo) (z : Value) (size bytes : Nat) (ht : P.underlying t = some (.slice e)) (hi : P.info? e = some i) (hz : i.zero = some z)
    (hsize : i.size = size) (hby : i.bytes = bytes) (hzs : z.cells.size = size) (hsz : 0 < size) (v : Value) (n : Nat) (xs : List Value) (hown : w.ownsRow base e size v n xs)
    (a : Addr) (m c : Nat) (news : List Value) (hl : news.length = m * size) (hnews : ∀ j u, news[j]? = some u → w.cell? (a.add j) = some u) (h1 : ∀ u ∈ news, u.oneCell' = true)
    (h63 : n + m ≤ maxLen) (hbytes : (n + m) * bytes ≤ 140737488355328) (hbase : base ≤ w.heap.size) :
    ∃ v' w', (Builtin.append_ #[t, t] ty #[v, .slice (some a) m c]).run P w = .ok v' w' ∧ w'.ownsRow base e size v' (n + m) (xs ++ news) ∧ w.grownBy w' v.ownBlock ∧ (v'.ownBlock = v.ownBlock ∨ v'.ownBlock = some w.heap.size) ∧ w'.ownsRow base e size v n xs := by
  obtain ⟨v', w', hr, h2, h3, _, h5⟩ := run_append_own_at (P := P) w base t ty e i z size bytes ht hi hz hsize hby hzs hsz v n xs hown a m c news hl hnews h1 h63 hbytes hbase
  refine ⟨v', w', hr, h2, h3, h5, ?_⟩
  subst hsize
  subst hby
  rcases hown.2 with ⟨rfl, rfl⟩ | ⟨g, cap, cur, rfl, hbg, hg, hnc, hcm, hcs, htake⟩
  · exact ⟨hown.1, .inl ⟨rfl, rfl⟩⟩
  · by_cases hroom : n + m ≤ cap
    · have hfit : n * i.size + news.length ≤ cur.size := by rw [hl, hcs, ← Nat.add_mul]; exact Nat.mul_le_mul_right _ hroom
      have hr' := run_append_room (P := P) w t ty e i ht hi g n cap cur hg a m c news hl hnews h1 hroom hfit
      rw [hr] at hr'
      simp only [Result.ok.injEq] at hr'
      obtain ⟨_, rfl⟩ := hr'
      have hnl : n * i.size ≤ cur.size := by omega
      refine ⟨hown.1, .inr ⟨g, cap, _, rfl, hbg, setRow_heap w g cur _ e _ hg, hnc, hcm, ?_, ?_⟩⟩
      · simp only [List.size_toArray, List.length_append, List.length_take, List.length_drop, Array.length_toList]
        omega
      · simp only [List.append_assoc]
        rw [List.take_append_of_le_length (by simp; omega), List.take_take, Nat.min_self, htake]
    · have holds : ∀ j u, xs[j]? = some u → w.cell? ((⟨g, 0, none⟩ : Addr).add j) = some u := hown.cells (g := g) rfl
      have hr' := run_append_grow (P := P) w t ty e i z ht hi hz ⟨g, 0, none⟩ n cap xs hown.1 holds a m c news hl hnews (by omega) (by simp only [maxLen] at h63; omega) (growslice_fits (by omega) hbytes)
      rw [hr] at hr'
      simp only [Result.ok.injEq] at hr'
      obtain ⟨_, rfl⟩ := hr'
      exact ⟨hown.1, .inr ⟨g, cap, cur, rfl, hbg, (Below.heap_alloc w.drew _ g (blk_lt hg)).trans hg, hnc, hcm, hcs, htake⟩⟩

/-- append(v, x), x of several cells, the variadic's box just laid; v reads as it did. -/
theorem append_cells_keep {P : Program} {ops : Array Oper} {rest : List Oper} {o : Oper} {a : Act} {Q : Exit → Act → World → Prop} {W : World} (hgd : o.guard = none) (s x : Operand) (t : TypeId) {e : TypeId} (z : Value) (size bytes : Nat)
    (ho : o.op = .call { callee := .builtin .append, args := #[s, x], argTypes := #[t, t] })
    (ht : P.underlying t = some (.slice e)) (hinfo : (P.info? e).map (fun i => (i.zero, i.size, i.bytes)) = some (some z, size, bytes)) (hz : z.cells.size = size) (hs0 : 0 < size) (hb0 : 0 < bytes) (base : Nat)
    (v : Value) (n : Nat) (xs : List Value) {ys : List Value} (hs : a.eval s = v) {N : Nat} (hx : a.eval x = .slice (some ⟨N, 0, none⟩) 1 1) (hN : N = W.heap.size) (hys : ys.length = size) (h1 : ∀ u ∈ ys, u.oneCell' = true)
    (HO : W.ownsRow base e size v n xs) (hbase : base ≤ W.heap.size) (hl : (n + 1) * bytes ≤ 140737488355328)
    (h : ∀ v1 w1, w1.ownsRow base e size v1 (n + 1) (xs ++ ys) → (W.alloc (.cells ys.toArray e)).grownBy w1 v.ownBlock → (v1.ownBlock = v.ownBlock ∨ v1.ownBlock = some (W.heap.size + 1)) → w1.ownsRow base e size v n xs → wpList P ops Q rest (a.put o.dst v1) w1) :
    wpList P ops Q (o :: rest) a (W.alloc (.cells ys.toArray e)) := by
  subst hN
  obtain ⟨i0, hi, hz0, hz1, hz2⟩ := info_parts hinfo
  have hlen : n + 1 ≤ 140737488355328 := Nat.le_trans (Nat.le_mul_of_pos_right _ hb0) hl
  refine wpList_plain hgd fun K hK => ?_
  obtain ⟨v', w', hr, h2, h3, h5, h4⟩ := run_append_keep (P := P) (W.alloc (.cells ys.toArray e)) base t o.type e i0 z size bytes ht hi hz0 hz1 hz2 hz hs0 v n xs (HO.alloc _) ⟨W.heap.size, 0, none⟩ 1 1 ys (by rw [hys]; simp)
    (fun j u hj => by rw [add_zero_at]; exact (blk_cell (blk_new W _) j).trans (by simpa using hj)) h1 (by simp only [maxLen]; omega) hl (by simp; omega)
  unfold Oper.wp execOp
  simp only [ho, resolve, invoke, builtin, Sem.run_bind, Sem.run_pure, Result.andThen_ok, List.map_toArray, List.map_cons, List.map_nil, hs, hx, hr]
  exact hK _ _ (h v' w' h2 h3 (by simpa using h5) h4)

/-- A cell that the old slice reads, or that lies elsewhere. -/
theorem cell_keep {W w1 : World} {base : Nat} {e : TypeId} {size m g k : Nat} {vl u : Value} {ys : List Value} {o : Obj} (h0 : W.ownsRow base e size vl m ys) (h1 : w1.ownsRow base e size vl m ys) (G : (W.alloc o).grownBy w1 vl.ownBlock) (hc : W.cell? ⟨g, k, none⟩ = some u) (hk : k < m * size) : w1.cell? ⟨g, k, none⟩ = some u := by
  by_cases hg : vl.ownBlock = some g
  · rcases h0.2 with ⟨rfl, _⟩ | ⟨g', cap, cur, rfl, _⟩
    · simp [Value.ownBlock] at hg
    · simp only [Value.ownBlock, Option.some.injEq] at hg
      subst hg
      rw [h0.cellAt k hk] at hc
      rw [h1.cellAt k hk]
      exact hc
  · have hlt := World.block_lt_of_cell? W _ hc
    exact (World.cell?_of_block ((G.block g (by simp; simp at hlt; omega) (fun e => hg e.symm)).trans (Below.heap_alloc W o g (by simpa using hlt)))).trans hc

/-- The row of an older slice of the same memory lies on. -/
theorem own_pre_keep {W w1 : World} {base : Nat} {e : TypeId} {sz m n : Nat} {vl v : Value} {xs ys : List Value} {o : Obj} (h0 : W.ownsRow base e sz vl m ys) (h1 : w1.ownsRow base e sz vl m ys) (G : (W.alloc o).grownBy w1 vl.ownBlock) (h : W.ownsRow base e sz v n xs) (hn : n ≤ m) (hs : 0 < sz) : w1.ownsRow base e sz v n xs := by
  by_cases hb : vl.ownBlock = v.ownBlock ∧ v.ownBlock ≠ none
  · obtain ⟨hb, hne⟩ := hb
    rcases h.2 with ⟨rfl, _⟩ | ⟨g, cap, cur, rfl, hbg, hg, hnc, hcm, hcs, htk⟩
    · simp [Value.ownBlock] at hne
    · rcases h0.2 with ⟨rfl, _⟩ | ⟨g0, cap0, cur0, rfl, hbg0, hg0, hnc0, hcm0, hcs0, htk0⟩
      · simp [Value.ownBlock] at hb
      · simp only [Value.ownBlock, Option.some.injEq] at hb
        subst hb
        rcases h1.2 with ⟨h1, _⟩ | ⟨g1, cap1, cur1, hv, hbg1, hg1, hnc1, hcm1, hcs1, htk1⟩
        · simp at h1
        · simp only [Value.slice.injEq, Option.some.injEq, Addr.mk.injEq, and_true, true_and] at hv
          obtain ⟨rfl, rfl⟩ := hv
          rw [hg] at hg0
          simp only [Option.some.injEq, Obj.cells.injEq] at hg0
          obtain ⟨rfl, _⟩ := hg0
          have hcap : cap = cap0 := Nat.eq_of_mul_eq_mul_right hs (hcs.symm.trans hcs0)
          subst hcap
          refine ⟨h.1, .inr ⟨_, cap, cur1, rfl, hbg, hg1, hnc, hcm, hcs1, ?_⟩⟩
          have e := congrArg (List.take (n * sz)) (htk1.trans htk0.symm)
          rw [List.take_take, List.take_take, Nat.min_eq_left (Nat.mul_le_mul_right _ hn)] at e
          exact e.trans htk
  · rcases h.2 with ⟨rfl, hx⟩ | ⟨g, cap, cur, rfl, hbg, hg, hnc, hcm, hcs, htk⟩
    · exact ⟨h.1, .inl ⟨rfl, hx⟩⟩
    · refine ⟨h.1, .inr ⟨g, cap, cur, rfl, hbg, ?_, hnc, hcm, hcs, htk⟩⟩
      exact blk_grown (blk_alloc hg o) G (fun e => hb ⟨e.symm, by simp [Value.ownBlock]⟩)
theorem own_setCell {w : World} {base n cap g j sz : Nat} {e : TypeId} {xs : List Value} (h : w.ownsRow base e sz (.slice (some ⟨g, 0, none⟩) n cap) n xs) (u : Value) : (w.setCell ⟨g, j, none⟩ u).ownsRow base e sz (.slice (some ⟨g, 0, none⟩) n cap) n (xs.set j u) := by
  rcases h.2 with ⟨h', _⟩ | ⟨g', cap', cur, h', hb, hh, hn, hm, hs, ht⟩
  · simp at h'
  · simp only [Value.slice.injEq, Option.some.injEq, Addr.mk.injEq, and_true, true_and] at h'
    obtain ⟨rfl, rfl⟩ := h'
    refine ⟨by simpa using h.1, .inr ⟨g, cap, cur.setIfInBounds j u, rfl, hb, blk_set hh j u, hn, hm, by simpa using hs, ?_⟩⟩
    rw [Array.toList_setIfInBounds, List.take_set, ht]
theorem own_cell {w : World} {base n cap g j sz : Nat} {e : TypeId} {xs : List Value} (h : w.ownsRow base e sz (.slice (some ⟨g, 0, none⟩) n cap) n xs) (hj : j < n * sz) : (∃ z, w.cell? ⟨g, j, none⟩ = some z) ∧ w.frozen? ⟨g, j, none⟩ = false := by
  rcases h.2 with ⟨h', _⟩ | ⟨g', cap', cur, h', hb, hh, hn, hm, hs, ht⟩
  · simp at h'
  · simp only [Value.slice.injEq, Option.some.injEq, Addr.mk.injEq, and_true, true_and] at h'
    obtain ⟨rfl, rfl⟩ := h'
    have := Nat.mul_le_mul_right sz hn
    exact ⟨⟨cur[j]'(by omega), (blk_cell hh j).trans (Array.getElem?_eq_getElem _)⟩, blk_free hh j⟩
theorem own_form {w : World} {base n sz : Nat} {e : TypeId} {v : Value} {xs : List Value} (h : w.ownsRow base e sz v n xs) (hn : 0 < n) : ∃ g cap, v = .slice (some ⟨g, 0, none⟩) n cap ∧ n ≤ cap := by
  rcases h.2 with ⟨_, h'⟩ | ⟨g', cap', cur, h', hb, hh, hn, _⟩
  · omega
  · exact ⟨g', cap', h', hn⟩

theorem own_formN {w : World} {b : Nat} {e : TypeId} {size n : Nat} {v : Value} {xs : List Value} (h : w.ownsRow b e size v n xs) (hn : 0 < n) : ∃ g cap, v = .slice (some ⟨g, 0, none⟩) n cap ∧ n ≤ cap ∧ b ≤ g ∧ cap ≤ 9223372036854775807 := by
  rcases h.2 with ⟨_, h'⟩ | ⟨g', cap', cur, h', hb, hh, hn', hm, _⟩
  · omega
  · exact ⟨g', cap', h', hn', hb, hm⟩
theorem own_put4 {w : World} {base n cap g i : Nat} {e : TypeId} {xs : List Value} (h : w.ownsRow base e 4 (.slice (some ⟨g, 0, none⟩) n cap) n xs) (v0 v1 v2 v3 : Value) :
    ((((w.setCell ⟨g, i * 4, none⟩ v0).setCell ⟨g, i * 4 + 1, none⟩ v1).setCell ⟨g, i * 4 + 2, none⟩ v2).setCell ⟨g, i * 4 + 3, none⟩ v3).ownsRow base e 4 (.slice (some ⟨g, 0, none⟩) n cap) n ((((xs.set (i * 4) v0).set (i * 4 + 1) v1).set (i * 4 + 2) v2).set (i * 4 + 3) v3) :=
  own_setCell (own_setCell (own_setCell (own_setCell h v0) v1) v2) v3
theorem own_put5 {w : World} {base n cap g i : Nat} {e : TypeId} {xs : List Value} (h : w.ownsRow base e 5 (.slice (some ⟨g, 0, none⟩) n cap) n xs) (v0 v1 v2 v3 v4 : Value) :
    (((((w.setCell ⟨g, i * 5, none⟩ v0).setCell ⟨g, i * 5 + 1, none⟩ v1).setCell ⟨g, i * 5 + 2, none⟩ v2).setCell ⟨g, i * 5 + 3, none⟩ v3).setCell ⟨g, i * 5 + 4, none⟩ v4).ownsRow base e 5 (.slice (some ⟨g, 0, none⟩) n cap) n (((((xs.set (i * 5) v0).set (i * 5 + 1) v1).set (i * 5 + 2) v2).set (i * 5 + 3) v3).set (i * 5 + 4) v4) :=
  own_setCell (own_setCell (own_setCell (own_setCell (own_setCell h v0) v1) v2) v3) v4
theorem set_row4 (pre post : List GlyphX) (x y : GlyphX) : (((((pre ++ x :: post).flatMap GlyphX.row).set (pre.length * 4) (.int .i64 y.ru)).set (pre.length * 4 + 1) (.int .i64 y.wd)).set (pre.length * 4 + 2) (.int .i64 y.ht)).set (pre.length * 4 + 3) (.int .i64 y.dp) = (pre ++ y :: post).flatMap GlyphX.row := by
  have hl := flat_len row4 pre
  rw [List.flatMap_append, List.flatMap_append, List.flatMap_cons, List.flatMap_cons]
  simp [List.set_append, hl, GlyphX.row]
theorem set_row5 (pre post : List PairX) (x y : PairX) : ((((((pre ++ x :: post).flatMap PairX.row).set (pre.length * 5) (.int .i64 y.lf)).set (pre.length * 5 + 1) (.int .i64 y.rt)).set (pre.length * 5 + 2) (.bool y.is)).set (pre.length * 5 + 3) (.int .i64 y.lg)).set (pre.length * 5 + 4) (.int .i64 y.kn) = (pre ++ y :: post).flatMap PairX.row := by
  have hl := flat_len row5 pre
  rw [List.flatMap_append, List.flatMap_append, List.flatMap_cons, List.flatMap_cons]
  simp [List.set_append, hl, PairX.row]

end Go.Proofs.Ythcfgechifogeaa
