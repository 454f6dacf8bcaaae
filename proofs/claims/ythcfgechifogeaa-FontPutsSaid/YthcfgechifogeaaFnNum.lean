/- Font: number lays a number behind bytes. -/
import Derived.Test.YthcfgechifogeaaFnApp
import Derived.Test.YthcfgechifogeaaTabFont
namespace Go.Proofs.Ythcfgechifogeaa
open Go.RowKit
set_option linter.unusedSimpArgs false
set_option linter.unusedVariables false

def byV (x : Nat) : Value := .int .u8 (x : Int)
/-- The j-th byte of a number of W bytes. -/
def dig (k W j : Nat) : Nat := k / 2 ^ (8 * (W - 1 - j)) % 256
def digs (k W : Nat) : List Nat := (List.range W).map (dig k W)
def digX (k W i : Nat) : Array Value := #[byV (if 0 < i then dig k W 0 else 0), byV (if 1 < i then dig k W 1 else 0), byV (if 2 < i then dig k W 2 else 0), byV (if 3 < i then dig k W 3 else 0)]
theorem digX_next (k W i : Nat) (h : i < 4) : (digX k W i).setIfInBounds i (byV (dig k W i)) = digX k W (i + 1) := by
  match i, h with
  | 0, _ => simp [digX]
  | 1, _ => simp [digX]
  | 2, _ => simp [digX]
  | 3, _ => simp [digX]

theorem own_some {w : World} {base g n c : Nat} {e : TypeId} {xs : List Value} (h : w.ownsRow base e 1 (.slice (some ⟨g, 0, none⟩) n c) n xs) :
    ∃ cur : Array Value, w.heap[g]? = some (.cells cur e (0, 0)) ∧ n ≤ c ∧ c ≤ maxLen ∧ cur.size = c ∧ cur.toList.take n = xs ∧ base ≤ g ∧ xs.length = n := by
  have hl : xs.length = n := by simpa using h.1
  rcases h.2 with ⟨h1, _⟩ | ⟨g', cap, cur, hv, h2, h3, h4, h5, h6, h7⟩
  · cases h1
  · cases hv
    exact ⟨cur, h3, h4, h5, by simpa using h6, by simpa using h7, h2, hl⟩
theorem own_of {w : World} {base g n c : Nat} {e : TypeId} {xs : List Value} {cur : Array Value} (h : w.heap[g]? = some (.cells cur e (0, 0))) (h1 : n ≤ c) (h2 : c ≤ maxLen) (h3 : cur.size = c) (h4 : cur.toList.take n = xs) (h5 : base ≤ g) (h6 : xs.length = n) :
    w.ownsRow base e 1 (.slice (some ⟨g, 0, none⟩) n c) n xs := ⟨by simpa using h6, .inr ⟨g, c, cur, rfl, h5, h, h1, h2, by simpa using h3, by simpa using h4⟩⟩
theorem digX_get (k W j : Nat) (h : j < W) (h4 : W ≤ 4) : (digX k W W)[j]? = some (byV (dig k W j)) := by
  have : j = 0 ∨ j = 1 ∨ j = 2 ∨ j = 3 := by omega
  rcases this with rfl | rfl | rfl | rfl <;> simp [digX, h]

/-- append of so many noughts goes well, wherever the world has grown. -/
def AppZ (base : Nat) (v : Value) (n : Nat) (xs : List Value) (row : Option Nat) (m : Nat) (w : World) : Prop :=
  ∀ W, Keep [] w W → ∃ g c w', (Builtin.append_ #[66, 3] 66 #[v, .int .i64 m]).run Try.prog W = .ok (.slice (some ⟨g, 0, none⟩) (n + m) c) w' ∧ w'.ownsRow base 5 1 (.slice (some ⟨g, 0, none⟩) (n + m) c) (n + m) (xs ++ List.replicate m (Value.int .u8 0)) ∧
      W.grownBy w' row ∧ (row = some g ∨ g = W.heap.size)
theorem AppZ.own {base : Nat} {v : Value} {n : Nat} {xs : List Value} {w : World} (ho : w.ownsRow base 5 1 v n xs) (hb : base ≤ w.heap.size) {m : Nat} (h0 : 0 < m) (hm : n + m ≤ 140737488355328) : AppZ base v n xs v.ownBlock m w := fun W K => by
  have hs := K.size
  obtain ⟨i, hi, hz0, hz1, hz2⟩ := info_parts (show (Try.prog.info? 5).map (fun i => (i.zero, i.size, i.bytes)) = some (some (.int .u8 0), 1, 1) by kernel_rfl)
  exact run_append_zeros W base _ _ _ 5 i Try.underlying66 Try.underlying3 hi hz0 hz1 hz2 v n xs (own_keep ho K (by simp)) m h0 hm (by omega)
theorem AppZ.lit {base : Nat} {b : Addr} {n : Nat} {xs : List Value} {w : World} (hxl : xs.length = n) (holds : ∀ j u, xs[j]? = some u → w.cell? (b.add j) = some u) (hb : base ≤ w.heap.size) {m : Nat} (h0 : 0 < m) (hm : n + m ≤ 140737488355328) : AppZ base (.slice (some b) n n) n xs none m w := fun W K => by
  have hs := K.size
  obtain ⟨i, hi, hz0, hz1, hz2⟩ := info_parts (show (Try.prog.info? 5).map (fun i => (i.zero, i.size, i.bytes)) = some (some (.int .u8 0), 1, 1) by kernel_rfl)
  exact run_zeros_lit W base _ _ _ 5 i Try.underlying66 Try.underlying3 hi hz0 hz1 hz2 b n xs hxl (fun j u hj => K.cell' (holds j u hj) (by simp)) m h0 hm (by omega)

set_option maxRecDepth 100000 in
set_option maxHeartbeats 1000000 in
theorem number_core (base : Nat) (A0 : Option Addr) (n c0 : Nat) (xs : List Value) (row : Option Nat) (k W : Nat) (w : World) (hap : AppZ base (.slice A0 n c0) n xs row W w) (hrow : ∀ r, row = some r → r < w.heap.size) (hb : base ≤ w.heap.size) (hx0 : xs.length = n) (hk : k ≤ 9223372036854775807) (h1 : 1 ≤ W) (h4 : W ≤ 4) (hn : n ≤ 140737488000000) :
    Calls Try.prog 51 #[.slice A0 n c0, .int .i64 k, .int .i64 W] w fun e w' => ∃ A c, e = .returned (.slice A (n + W) c) ∧ w'.ownsRow base 5 1 (.slice A (n + W) c) (n + W) (xs ++ (digs k W).map byV) ∧ w.grownBy w' row := by
  have X0 := blk_new w (.cells #[.int .u8 0, .int .u8 0, .int .u8 0, .int .u8 0] 122)
  have K0 : Keep [] w (w.alloc (.cells #[.int .u8 0, .int .u8 0, .int .u8 0, .int .u8 0] 122)) := (Keep.refl _ _).alloc _
  have HAP := hid hap
  clear hap
  go_enter Try.func51, Try.ntmps51
  go_wp2_with fail
  generalize w.alloc (.cells #[.int .u8 0, .int .u8 0, .int .u8 0, .int .u8 0] 122) = W0 at *
  go_loopw [11] (fun vi wr => ∃ i : Nat, i ≤ W ∧ vi = .int .i64 i ∧ wr.heap[w.heap.size]? = some (.cells (digX k W i) 122 (0, 0)) ∧ Keep [] w wr) (fun vi _ => W - (intOf vi).toNat)
  case atStart => exact ⟨0, Nat.zero_le _, rfl, by simpa [digX, byV] using X0, K0⟩
  case round =>
    obtain ⟨i, hi, rfl, X, K⟩ := hrel
    by_cases hlt : i < W
    · have hlt' : (i : Int) < (W : Int) := by omega
      have hW4 : (W : Int) ≤ 4 := by omega
      have x0 := blk_free X i
      obtain ⟨y, hy⟩ : ∃ y, (digX k W i)[i]? = some y := ⟨(digX k W i)[i]'(by simp [digX]; omega), Array.getElem?_eq_getElem _⟩
      have x1 := (blk_cell X i).trans hy
      clear hy
      go_wp2
      go_roundw
      case rel =>
        refine ⟨i + 1, hlt, by go_num, ?_, K.set (p := ⟨w.heap.size, i, none⟩) (.inr (Nat.le_refl _)) _⟩
        rw [← digX_next k W i (by omega)]
        exact blk_set X i _
      case measure => simp [intOf]; omega
    · obtain rfl : i = W := by omega
      have hs := K.size
      go_wp2_with (at_builtin; (refine wpList_append_run rfl _ _ 66 3 rfl (v := .slice A0 n c0) (u := .int .i64 i) rfl rfl (Post := fun r w2 => ∃ g c, r = .slice (some ⟨g, 0, none⟩) (n + i) c ∧ w2.ownsRow base 5 1 (.slice (some ⟨g, 0, none⟩) (n + i) c) (n + i) (xs ++ List.replicate i (Value.int .u8 0)) ∧ wr.grownBy w2 row ∧ (row = some g ∨ g = wr.heap.size)) (by obtain ⟨g, c, w', hr, h⟩ := HAP.out wr K; exact ⟨_, w', hr, g, c, rfl, h⟩) ?_; rintro r w2 ⟨g, c, rfl, O2, G2, hg⟩))
      obtain ⟨cur, hcur, hnc, hcm, hcs, htk, hbg, hxl⟩ := own_some O2
      have X2 := blk_grown X G2 (fun e => by have := hrow _ e.symm; omega)
      have hnc' : (n : Int) + (i : Int) ≤ (c : Int) := by omega
      have hn' : (n : Int) ≤ (c : Int) := by omega
      have h4' : (i : Int) ≤ 4 := by omega
      have h1' : (1 : Int) ≤ (i : Int) := by omega
      have hq1 : (n : Int) ≤ (n : Int) + (i : Int) := by omega
      have hq2 : ¬ c = n := by omega
      have hlc : ((digs k i).map byV).length = Nat.min i i := by simp [digs]
      have hsrc : ∀ j u, ((digs k i).map byV)[j]? = some u → w2.drew.cell? ((⟨w.heap.size, 0, none⟩ : Addr).add j) = some u := by
        intro j u hj
        have hji : j < i := by
          have := (List.getElem?_eq_some_iff.1 hj).1
          simpa [digs] using this
        have hu : u = byV (dig k i j) := by simpa [digs, List.getElem?_map, List.getElem?_range hji] using hj.symm
        rw [add_zero_at, hu]
        exact (blk_cell (blk_drew X2) j).trans (digX_get k i j hji h4)
      go_region_law ((refine step_copy_row rfl _ _ 66 66 rfl 5 Try.underlying66 (by kernel_rfl) g n _ _ ⟨w.heap.size, 0, none⟩ _ _ rfl rfl cur 5 (by exact blk_drew hcur) ((digs k i).map byV) hlc hsrc (by rw [hlc]; show n + min i i ≤ _; omega) (by intro u hu; obtain ⟨y, _, rfl⟩ := List.mem_map.1 hu; rfl) ?_))
      have e0 : cur.toList.take n = xs := by
        have h9 := congrArg (List.take n) htk
        rw [List.take_take, Nat.min_eq_left (by omega)] at h9
        rw [h9]
        rw [← hx0]
        exact List.take_left
      have hld : ((digs k i).map byV).length = i := by simp [digs]
      rw [e0]
      go_wp2
      go_ret
      refine ⟨some ⟨g, 0, none⟩, c, rfl, own_of (setRow_heap w2.drew g cur _ 5 _ (blk_drew hcur)) hnc hcm ?_ ?_ hbg (by simp [hx0, digs]), ?_⟩
      · simp [hx0, digs]
        omega
      · simp only [List.append_assoc]
        rw [← List.append_assoc]
        rw [List.take_append_of_le_length (by simp [hx0, digs])]
        exact List.take_of_length_le (by simp [hx0, digs])
      · refine ⟨G2.os.trans K.os, G2.tape.trans K.tape, G2.output.trans K.output, ?_, fun b hb hne => ?_⟩
        · have := G2.size
          simp [World.setRow]
          omega
        · have hbg' : b ≠ g := by
            rintro rfl
            rcases hg with hg | hg
            · exact hne hg.symm
            · omega
          rw [setRow_other _ _ _ _ (fun e => hbg' e)]
          exact (G2.block b (by omega) hne).trans (K.block b hb (by simp))

theorem number_any (base : Nat) (v : Value) (n : Nat) (xs : List Value) (k W : Nat) (w : World) (ho : w.ownsRow base 5 1 v n xs) (hb : base ≤ w.heap.size) (hk : k ≤ 9223372036854775807) (h1 : 1 ≤ W) (h4 : W ≤ 4) (hn : n ≤ 140737488000000) :
    Calls Try.prog 51 #[v, .int .i64 k, .int .i64 W] w fun e w' => ∃ A c, e = .returned (.slice A (n + W) c) ∧ w'.ownsRow base 5 1 (.slice A (n + W) c) (n + W) (xs ++ (digs k W).map byV) ∧ w.grownBy w' v.ownBlock := by
  obtain ⟨A0, c0, rfl⟩ := own_slice' ho
  exact number_core base A0 n c0 xs _ k W w (AppZ.own ho hb (by omega) (by omega)) (fun r e => (own_base ho r e).2.1) hb (by simpa using ho.1) hk h1 h4 hn
theorem number_lit (base : Nat) (b : Addr) (n : Nat) (xs : List Value) (k W : Nat) (w : World) (hxl : xs.length = n) (holds : ∀ j u, xs[j]? = some u → w.cell? (b.add j) = some u) (hb : base ≤ w.heap.size) (hk : k ≤ 9223372036854775807) (h1 : 1 ≤ W) (h4 : W ≤ 4) (hn : n ≤ 140737488000000) :
    Calls Try.prog 51 #[.slice (some b) n n, .int .i64 k, .int .i64 W] w fun e w' => ∃ A c, e = .returned (.slice A (n + W) c) ∧ w'.ownsRow base 5 1 (.slice A (n + W) c) (n + W) (xs ++ (digs k W).map byV) ∧ w.grownBy w' none :=
  number_core base (some b) n n xs none k W w (AppZ.lit hxl holds hb (by omega) (by omega)) (fun r e => nomatch e) hb hxl hk h1 h4 hn

end Go.Proofs.Ythcfgechifogeaa
