/- The table's iterator over its glyphs: All, by contracts. -/
import Derived.Test.YthcfgechifogeaaTabNew
import Derived.RangeFuncNested
import Derived.RangeFuncBound
import Derived.RangeFuncCalls
import Derived.RangeFuncLeaves
import Derived.Shelf.Abstract
import Derived.Shelf.RegionOpen
import Derived.OwnWalkIn
import Derived.TacticsInMore
import Derived.LoopNIn
import Derived.LoopIn
namespace Go.Proofs.Ythcfgechifogeaa
open Go.RowKit Go.Maps Go.Shelf
set_option linter.unusedSimpArgs false
set_option linter.unusedVariables false
attribute [local go_sem] Oper.semAt_some

theorem all_any (T : Nat) (w : World) : Calls Try.prog 19 #[.pointer (some ⟨T, 0, none⟩)] w fun e w' =>
    e = .returned (.func (.func 48) #[] #[.pointer (some ⟨w.heap.size, 0, none⟩)]) ∧ w' = w.alloc (.cells #[.pointer (some ⟨T, 0, none⟩)] 30) := by
  go_enter Try.func19, Try.ntmps19
  go_wp2
  go_ret
  exact ⟨rfl, rfl⟩

/-- How a glyph is handed to yield. -/
def gEnc (g : GlyphX) : Array Value := #[g.val]

theorem below_keep {n : Nat} {w w' : World} (h : Below n w w') (hn : n ≤ w.heap.size) : ∀ b o, b < n → w.heap[b]? = some o → w'.heap[b]? = some o := fun b o hb ho => (h.block b hb).trans ho

set_option maxRecDepth 100000 in
set_option maxHeartbeats 2000000 in
theorem allG_in (F : Fence) (n : Nat) (hf : F.fn 48) (hro : F.round = none) (hn : 1 ≤ n) (l Bs n₀ : Nat) (t : TabX) (gk pn : Nat) (w0 : World) (hI : IsT w0 t gk pn) (hn₀ : w0.heap.size = n₀) (J Jx : List GlyphX → World → Prop)
    (W : World) (hJ : AbidesFrom W.heap.size J) (hW : Below n₀ w0 W)
    (hY : ∀ pre x W1, J pre W1 → pre.length < t.gs.length → YieldAt F (n - 1) Try.prog l (gEnc x) W1 fun e W' =>
      (e = .returned (.bool true) ∧ J (pre ++ [x]) W' ∧ Below n₀ W1 W') ∨ (e = .returned (.bool false) ∧ Jx (pre ++ [x]) W'))
    (hBs : W.cell? ⟨Bs, 0, none⟩ = some (.pointer (some ⟨t.T, 0, none⟩))) (h0 : J [] W) :
    CallsIn F n Try.prog 48 #[.func (.yield l) #[] #[], .pointer (some ⟨Bs, 0, none⟩)] W fun e W' => (∃ v, e = .returned v) ∧
      ((∃ ys, ys = t.gs ∧ J ys W') ∨ (∃ pre, pre <+: t.gs ∧ Jx pre W')) := by
  have hTn : t.T < n₀ := by rw [← hn₀]; exact blk_lt hI.blk
  have hgl := hI.glen
  obtain ⟨c0, c1, c2, c3, c4, _, _, _, _, _, _⟩ := cells5 ((hW.block t.T hTn).trans hI.blk)
  refine callsIn_of_wp Try.func48 rfl hf ?_ hro
  simp only [Try.ntmps48, List.size_toArray, List.length_cons, List.length_nil, Nat.reduceAdd, Nat.reduceSub, Array.replicate_succ, Array.replicate_zero, List.push_toArray, List.append_toArray, List.nil_append, List.cons_append]
  gi_wp2
  clear c0 c1 c2 c3 c4
  gi_loopw [11] (fun i wr => ∃ k : Nat, k ≤ t.gs.length ∧ i = .int .i64 k ∧ J (t.gs.take k) wr ∧ Below n₀ w0 wr ∧ W.heap.size ≤ wr.heap.size) (fun i _ => t.gs.length - (intOf i).toNat)
  case atStart => exact ⟨0, Nat.zero_le _, rfl, h0, hW, Nat.le_refl _⟩
  case round =>
    obtain ⟨k, hk, rfl, hJs, hB, hsz⟩ := hrel
    by_cases hlt : k < t.gs.length
    · obtain ⟨g, hg⟩ : ∃ g, t.gs[k]? = some g := ⟨t.gs[k], List.getElem?_eq_getElem hlt⟩
      obtain ⟨gb, hA, _, hgb, hc⟩ := own_at row4 hI.gown hg
      have hgn : gb < n₀ := by rw [← hn₀]; exact hgb
      have hc' : ∀ j v, (GlyphX.row g)[j]? = some v → wr.cell? ⟨gb, k * 4 + j, none⟩ = some v := fun j v hv => (World.cell?_of_block (hB.block gb hgn)).trans (hc j v hv)
      have d0 := hc' 0 _ rfl
      have d1 := hc' 1 _ rfl
      have d2 := hc' 2 _ rfl
      have d3 := hc' 3 _ rfl
      rw [Nat.add_zero] at d0
      have HT := hid (take_snoc hg)
      have hJ2 : J (t.gs.take k) (wr.alloc (.cells #[.int .i64 g.ru, .int .i64 g.wd, .int .i64 g.ht, .int .i64 g.dp] 45)) := hJ _ _ _ none hJs (World.grownBy_alloc _ _ _) (fun r e => nomatch e)
      obtain ⟨fn, tmps, assign, body, hy, hR⟩ := hY _ g _ hJ2 (by simp; omega)
      have hgw : gb < wr.heap.size := by have := hB.size; omega
      rw [hA]
      clear hc hc' hg hA
      dsimp only [gEnc, GlyphX.val] at hy
      gi_wp2
      refine hR.mono ?_
      rintro e W3 (⟨rfl, hJ3, hk3⟩ | ⟨rfl, hJx3⟩)
      · have hB3 : Below n₀ w0 W3 := (hB.alloc (by rw [← hn₀]; exact hB.size) _).trans hk3
        have hs3 : W.heap.size ≤ W3.heap.size := by have := hk3.size; simp at this; omega
        rw [← HT.out] at hJ3
        gi_wp2
        go_roundw
        case rel => exact ⟨k + 1, by omega, by go_num, hJ3, hB3, hs3⟩
        case measure => simp [intOf]; omega
      · rw [← HT.out] at hJx3
        gi_wp2
        refine bodyPost_ret (results_none rfl _ _ _) rfl ?_
        exact ⟨⟨_, rfl⟩, .inr ⟨_, List.take_prefix _ _, hJx3⟩⟩
    · obtain rfl : k = t.gs.length := by omega
      rw [List.take_length] at hJs
      gi_wp2
      go_end0
      exact ⟨⟨_, rfl⟩, .inl ⟨_, rfl, hJs⟩⟩

/-- What All hands back: all glyphs, in their order; or a part of them. -/
theorem all_stops (F : Fence) (n : Nat) (hf : F.fn 48) (hro : F.round = none) (hn : 1 ≤ n) (Bs n₀ : Nat) (t : TabX) (gk pn : Nat) (w0 w : World) (hI : IsT w0 t gk pn) (hn₀ : w0.heap.size = n₀) (hw : Below n₀ w0 w)
    (hBs : w.cell? ⟨Bs, 0, none⟩ = some (.pointer (some ⟨t.T, 0, none⟩))) :
    SeqStopsK F n Try.prog 48 #[.pointer (some ⟨Bs, 0, none⟩)] gEnc (Below n₀) (fun ys => ys = t.gs) (fun pre => pre <+: t.gs) t.gs.length w := fun l J Jx W hW hJ hJx hY h0 =>
  allG_in F n hf hro hn l Bs n₀ t gk pn w0 hI hn₀ J Jx W hJ (hw.trans (hW.mono (by have := hw.size; omega))) hY ((hW.cell (p := ⟨Bs, 0, none⟩) (World.block_lt_of_cell? w _ hBs)).trans hBs) h0

end Go.Proofs.Ythcfgechifogeaa
