/- The reference's meter, by contracts over plain records; and that it answers as the program's. -/
import Derived.Test.YtgelccenbceeoaaMeter
namespace Go.Proofs.Ytgelccenbceeoaa
open Go.RowKit
set_option linter.unusedSimpArgs false
set_option linter.unusedVariables false

/-- What the reference's meter holds: the budgets, what is done, held, held at most, why it refused. -/
structure RS where
  ms : Int
  mc : Int
  dn : Int
  nw : Int
  mt : Int
  wy : Int

def IsR (w : World) (g : Nat) (r : RS) : Prop := w.heap[g]? = some (.cells #[.int .i64 r.ms, .int .i64 r.mc, .int .i64 r.dn, .int .i64 r.nw, .int .i64 r.mt, .int .i64 r.wy] 87 (0, 0))
theorem IsR.keep {S : List Nat} {w w' : World} {g : Nat} {r : RS} (h : IsR w g r) (k : Keep S w w') (hs : g ∉ S) : IsR w' g r := k.blk h hs
def RS.ok (r : RS) : Prop := 0 ≤ r.dn ∧ r.dn ≤ r.ms ∧ r.ms ≤ 9223372036854775807 ∧ 0 ≤ r.nw ∧ r.nw ≤ r.mt ∧ r.mt ≤ r.mc ∧ r.mc ≤ 9223372036854775807
def RS.new (s c : Int) : RS := ⟨s, c, 0, 0, 0, 0⟩
def RS.step (r : RS) (n : Int) : Bool × RS := if n < 0 ∨ r.wy ≠ 0 then (false, r) else if r.ms - r.dn < n then (false, { r with dn := r.ms, wy := 20 }) else (true, { r with dn := r.dn + n })
def RS.hold (r : RS) (n : Int) : Bool × RS := if n < 0 ∨ r.wy ≠ 0 then (false, r) else if r.mc - r.nw < n then (false, { r with nw := r.mc, mt := r.mc, wy := 21 }) else (true, { r with nw := r.nw + n, mt := if r.mt < r.nw + n then r.nw + n else r.mt })
def RS.drop (r : RS) (n : Int) : Bool × RS := if n < 0 ∨ r.nw < n then (false, r) else (true, { r with nw := r.nw - n })

/-- Both count the same. -/
def Like (m : MS) (r : RS) : Prop := r.ms = m.sb ∧ r.mc = m.cb ∧ r.dn = m.sn ∧ r.nw = m.cn ∧ r.mt = m.cp ∧ r.wy = m.rf

theorem Like.new (s c : Int) : Like (MS.new s c) (RS.new s c) := ⟨rfl, rfl, rfl, rfl, rfl, rfl⟩
theorem Like.rok {m : MS} {r : RS} (h : Like m r) (ok : m.ok) : r.ok := by
  unfold Like at h; unfold MS.ok at ok; unfold RS.ok; omega
theorem Like.step {m : MS} {r : RS} (h : Like m r) (n : Int) : (m.step n).1 = (r.step n).1 ∧ Like (m.step n).2 (r.step n).2 := by
  obtain ⟨a, b, c, d, e, f⟩ := h
  unfold MS.step RS.step
  rw [a, c, f]
  by_cases h1 : n < 0 ∨ m.rf ≠ 0
  · rw [if_pos h1, if_pos h1]; exact ⟨rfl, a, b, c, d, e, f⟩
  · rw [if_neg h1, if_neg h1]
    by_cases h2 : m.sb - m.sn < n
    · rw [if_pos h2, if_pos h2]
      refine ⟨rfl, rfl, b, ?_, d, e, rfl⟩
      simp only [MS.addS]; omega
    · rw [if_neg h2, if_neg h2]
      exact ⟨rfl, rfl, b, rfl, d, e, rfl⟩
theorem Like.hold {m : MS} {r : RS} (h : Like m r) (ok : m.ok) (n : Int) : (m.hold n).1 = (r.hold n).1 ∧ Like (m.hold n).2 (r.hold n).2 := by
  unfold MS.ok at ok
  obtain ⟨a, b, c, d, e, f⟩ := h
  unfold MS.hold RS.hold
  rw [b, d, e, f]
  by_cases h1 : n < 0 ∨ m.rf ≠ 0
  · rw [if_pos h1, if_pos h1]; exact ⟨rfl, a, b, c, d, e, f⟩
  · rw [if_neg h1, if_neg h1]
    by_cases h2 : m.cb - m.cn < n
    · rw [if_pos h2, if_pos h2]
      refine ⟨rfl, a, rfl, c, ?_, ?_, rfl⟩
      · simp only [MS.addC]; omega
      · simp only [MS.addC]; split <;> omega
    · rw [if_neg h2, if_neg h2]
      exact ⟨rfl, a, rfl, c, rfl, rfl, rfl⟩
theorem Like.drop {m : MS} {r : RS} (h : Like m r) (n : Int) : (m.drop n).1 = (r.drop n).1 ∧ Like (m.drop n).2 (r.drop n).2 := by
  obtain ⟨a, b, c, d, e, f⟩ := h
  unfold MS.drop RS.drop
  rw [d]
  split
  · exact ⟨rfl, a, b, c, d, e, f⟩
  · exact ⟨rfl, a, b, c, rfl, e, f⟩

theorem rnew_bad (s c : Int) (w : World) (h : s < 0 ∨ c < 0) : Calls Try.prog 25 #[.int .i64 s, .int .i64 c] w fun e w' => e = .returned (.tuple #[.pointer none, .int .i64 1]) ∧ w = w' := by
  by_cases h1 : s < 0
  · go_enter Try.func25, Try.ntmps25
    go_wp2
    go_ret2
    exact ⟨rfl, rfl⟩
  · have h2 : c < 0 := h.resolve_left h1
    go_enter Try.func25, Try.ntmps25
    go_wp2
    go_ret2
    exact ⟨rfl, rfl⟩

theorem rnew_good (s c : Int) (w : World) (h1 : 0 ≤ s) (h2 : 0 ≤ c) : Calls Try.prog 25 #[.int .i64 s, .int .i64 c] w
    fun e w' => e = .returned (.tuple #[.pointer (some ⟨w.heap.size, 0, none⟩), .int .i64 0]) ∧ IsR w' w.heap.size (RS.new s c) ∧ Keep [] w w' ∧ w'.heap.size = w.heap.size + 1 := by
  go_enter Try.func25, Try.ntmps25
  go_wp2
  go_ret2
  exact ⟨rfl, blk_new _ _, (Keep.refl _ _).alloc _, by simp⟩

theorem rstep_any (g : Nat) (r : RS) (n : Int) (w : World) (hg : IsR w g r) (ok : r.ok) : Calls Try.prog 26 #[.pointer (some ⟨g, 0, none⟩), .int .i64 n] w
    fun e w' => e = .returned (.bool (r.step n).1) ∧ IsR w' g (r.step n).2 ∧ Keep [g] w w' := by
  have c0 := blk_cell hg 0
  have c2 := blk_cell hg 2
  have c5 := blk_cell hg 5
  have f0 := blk_free hg 0
  have f2 := blk_free hg 2
  have f5 := blk_free hg 5
  simp only [List.getElem?_toArray, List.getElem?_cons_zero, List.getElem?_cons_succ] at c0 c2 c5
  unfold RS.ok at ok
  by_cases h0 : n < 0
  · have E : r.step n = (false, r) := by unfold RS.step; rw [if_pos (.inl h0)]
    rw [E]
    clear E
    go_enter Try.func26, Try.ntmps26
    go_wp2
    repeat (go_quiet (fail); try go_wp2)
    go_ret
    exact ⟨rfl, hg, by repeat (first | exact Keep.refl _ _ | apply Keep.drew | apply Keep.drewN | refine Keep.set ?_ (.inl (by simp)) _)⟩
  · by_cases h5 : r.wy = 0
    · have hw : (r.wy != 0) = false := by simp [h5]
      by_cases h1 : r.ms - r.dn < n
      · have E : r.step n = (false, { r with dn := r.ms, wy := 20 }) := by unfold RS.step; rw [if_neg (by omega), if_pos h1]
        rw [E]
        clear E h5
        go_enter Try.func26, Try.ntmps26
        go_wp2
        repeat (go_quiet (fail); try go_wp2)
        go_ret
        exact ⟨rfl, by unfold IsR at hg ⊢; simp only [World.drewN, World.drew, World.setCell, Array.getElem?_modify, if_true, hg, Option.map_some]; simp, by repeat (first | exact Keep.refl _ _ | apply Keep.drew | apply Keep.drewN | refine Keep.set ?_ (.inl (by simp)) _)⟩
      · have E : r.step n = (true, { r with dn := r.dn + n }) := by unfold RS.step; rw [if_neg (by omega), if_neg h1]
        rw [E]
        clear E h5
        go_enter Try.func26, Try.ntmps26
        go_wp2
        repeat (go_quiet (fail); try go_wp2)
        go_ret
        exact ⟨rfl, by unfold IsR at hg ⊢; simp only [World.drewN, World.drew, World.setCell, Array.getElem?_modify, if_true, hg, Option.map_some]; simp, by repeat (first | exact Keep.refl _ _ | apply Keep.drew | apply Keep.drewN | refine Keep.set ?_ (.inl (by simp)) _)⟩
    · have hw : (r.wy != 0) = true := by simp [h5]
      have E : r.step n = (false, r) := by unfold RS.step; rw [if_pos (.inr h5)]
      rw [E]
      clear E h5
      go_enter Try.func26, Try.ntmps26
      go_wp2
      repeat (go_quiet (fail); try go_wp2)
      go_ret
      exact ⟨rfl, hg, by repeat (first | exact Keep.refl _ _ | apply Keep.drew | apply Keep.drewN | refine Keep.set ?_ (.inl (by simp)) _)⟩

theorem rhold_any (g : Nat) (r : RS) (n : Int) (w : World) (hg : IsR w g r) (ok : r.ok) : Calls Try.prog 27 #[.pointer (some ⟨g, 0, none⟩), .int .i64 n] w
    fun e w' => e = .returned (.bool (r.hold n).1) ∧ IsR w' g (r.hold n).2 ∧ Keep [g] w w' := by
  have c1 := blk_cell hg 1
  have c3 := blk_cell hg 3
  have c4 := blk_cell hg 4
  have c5 := blk_cell hg 5
  have f1 := blk_free hg 1
  have f3 := blk_free hg 3
  have f4 := blk_free hg 4
  have f5 := blk_free hg 5
  simp only [List.getElem?_toArray, List.getElem?_cons_zero, List.getElem?_cons_succ] at c1 c3 c4 c5
  unfold RS.ok at ok
  by_cases h0 : n < 0
  · have E : r.hold n = (false, r) := by unfold RS.hold; rw [if_pos (.inl h0)]
    rw [E]
    clear E
    go_enter Try.func27, Try.ntmps27
    go_wp2
    repeat (go_quiet (fail); try go_wp2)
    go_ret
    exact ⟨rfl, hg, by repeat (first | exact Keep.refl _ _ | apply Keep.drew | apply Keep.drewN | refine Keep.set ?_ (.inl (by simp)) _)⟩
  · by_cases h5 : r.wy = 0
    · have hw : (r.wy != 0) = false := by simp [h5]
      by_cases h1 : r.mc - r.nw < n
      · have E : r.hold n = (false, { r with nw := r.mc, mt := r.mc, wy := 21 }) := by unfold RS.hold; rw [if_neg (by omega), if_pos h1]
        rw [E]
        clear E h5
        go_enter Try.func27, Try.ntmps27
        go_wp2
        repeat (go_quiet (fail); try go_wp2)
        go_ret
        exact ⟨rfl, by unfold IsR at hg ⊢; simp only [World.drewN, World.drew, World.setCell, Array.getElem?_modify, if_true, hg, Option.map_some]; simp, by repeat (first | exact Keep.refl _ _ | apply Keep.drew | apply Keep.drewN | refine Keep.set ?_ (.inl (by simp)) _)⟩
      · by_cases h2 : r.mt < r.nw + n
        · have E : r.hold n = (true, { r with nw := r.nw + n, mt := r.nw + n }) := by unfold RS.hold; rw [if_neg (by omega), if_neg h1, if_pos h2]
          rw [E]
          clear E h5
          go_enter Try.func27, Try.ntmps27
          go_wp2
          repeat (go_quiet (fail); try go_wp2)
          go_ret
          exact ⟨rfl, by unfold IsR at hg ⊢; simp only [World.drewN, World.drew, World.setCell, Array.getElem?_modify, if_true, hg, Option.map_some]; simp, by repeat (first | exact Keep.refl _ _ | apply Keep.drew | apply Keep.drewN | refine Keep.set ?_ (.inl (by simp)) _)⟩
        · have E : r.hold n = (true, { r with nw := r.nw + n }) := by unfold RS.hold; rw [if_neg (by omega), if_neg h1, if_neg h2]
          rw [E]
          clear E h5
          go_enter Try.func27, Try.ntmps27
          go_wp2
          repeat (go_quiet (fail); try go_wp2)
          go_ret
          exact ⟨rfl, by unfold IsR at hg ⊢; simp only [World.drewN, World.drew, World.setCell, Array.getElem?_modify, if_true, hg, Option.map_some]; simp, by repeat (first | exact Keep.refl _ _ | apply Keep.drew | apply Keep.drewN | refine Keep.set ?_ (.inl (by simp)) _)⟩
    · have hw : (r.wy != 0) = true := by simp [h5]
      have E : r.hold n = (false, r) := by unfold RS.hold; rw [if_pos (.inr h5)]
      rw [E]
      clear E h5
      go_enter Try.func27, Try.ntmps27
      go_wp2
      repeat (go_quiet (fail); try go_wp2)
      go_ret
      exact ⟨rfl, hg, by repeat (first | exact Keep.refl _ _ | apply Keep.drew | apply Keep.drewN | refine Keep.set ?_ (.inl (by simp)) _)⟩

theorem rsteps_any (g : Nat) (r : RS) (w : World) (hg : IsR w g r) : Calls Try.prog 50 #[.pointer (some ⟨g, 0, none⟩)] w
    fun e w' => e = .returned (.int .i64 r.dn) ∧ w = w' := by
  have c0 := blk_cell hg 2
  simp only [List.getElem?_toArray, List.getElem?_cons_zero, List.getElem?_cons_succ] at c0
  go_enter Try.func50, Try.ntmps50
  go_wp2
  repeat (go_quiet (fail); try go_wp2)
  go_ret
  exact ⟨rfl, rfl⟩

theorem rheld_any (g : Nat) (r : RS) (w : World) (hg : IsR w g r) : Calls Try.prog 51 #[.pointer (some ⟨g, 0, none⟩)] w
    fun e w' => e = .returned (.int .i64 r.nw) ∧ w = w' := by
  have c0 := blk_cell hg 3
  simp only [List.getElem?_toArray, List.getElem?_cons_zero, List.getElem?_cons_succ] at c0
  go_enter Try.func51, Try.ntmps51
  go_wp2
  repeat (go_quiet (fail); try go_wp2)
  go_ret
  exact ⟨rfl, rfl⟩

theorem rpeak_any (g : Nat) (r : RS) (w : World) (hg : IsR w g r) : Calls Try.prog 52 #[.pointer (some ⟨g, 0, none⟩)] w
    fun e w' => e = .returned (.int .i64 r.mt) ∧ w = w' := by
  have c0 := blk_cell hg 4
  simp only [List.getElem?_toArray, List.getElem?_cons_zero, List.getElem?_cons_succ] at c0
  go_enter Try.func52, Try.ntmps52
  go_wp2
  repeat (go_quiet (fail); try go_wp2)
  go_ret
  exact ⟨rfl, rfl⟩

theorem rrefused_any (g : Nat) (r : RS) (w : World) (hg : IsR w g r) : Calls Try.prog 53 #[.pointer (some ⟨g, 0, none⟩)] w
    fun e w' => e = .returned (.int .i64 r.wy) ∧ w = w' := by
  have c0 := blk_cell hg 5
  simp only [List.getElem?_toArray, List.getElem?_cons_zero, List.getElem?_cons_succ] at c0
  go_enter Try.func53, Try.ntmps53
  go_wp2
  repeat (go_quiet (fail); try go_wp2)
  go_ret
  exact ⟨rfl, rfl⟩

theorem rdrop_any (g : Nat) (r : RS) (n : Int) (w : World) (hg : IsR w g r) (ok : r.ok) : Calls Try.prog 29 #[.pointer (some ⟨g, 0, none⟩), .int .i64 n] w
    fun e w' => e = .returned (.bool (r.drop n).1) ∧ IsR w' g (r.drop n).2 ∧ Keep [g] w w' := by
  have c3 := blk_cell hg 3
  have f3 := blk_free hg 3
  simp only [List.getElem?_toArray, List.getElem?_cons_zero, List.getElem?_cons_succ] at c3
  unfold RS.ok at ok
  by_cases h0 : n < 0
  · have E : r.drop n = (false, r) := by unfold RS.drop; rw [if_pos (.inl h0)]
    rw [E]
    clear E
    go_enter Try.func29, Try.ntmps29
    go_wp2
    repeat (go_quiet (fail); try go_wp2)
    go_ret
    exact ⟨rfl, hg, by repeat (first | exact Keep.refl _ _ | apply Keep.drew | apply Keep.drewN | refine Keep.set ?_ (.inl (by simp)) _)⟩
  · by_cases h1 : r.nw < n
    · have E : r.drop n = (false, r) := by unfold RS.drop; rw [if_pos (.inr h1)]
      rw [E]
      clear E
      go_enter Try.func29, Try.ntmps29
      go_wp2
      repeat (go_quiet (fail); try go_wp2)
      go_ret
      exact ⟨rfl, hg, by repeat (first | exact Keep.refl _ _ | apply Keep.drew | apply Keep.drewN | refine Keep.set ?_ (.inl (by simp)) _)⟩
    · have E : r.drop n = (true, { r with nw := r.nw - n }) := by unfold RS.drop; rw [if_neg (by omega)]
      rw [E]
      clear E
      go_enter Try.func29, Try.ntmps29
      go_wp2
      repeat (go_quiet (fail); try go_wp2)
      go_ret
      exact ⟨rfl, by unfold IsR at hg ⊢; simp only [World.drewN, World.drew, World.setCell, Array.getElem?_modify, if_true, hg, Option.map_some]; simp, by repeat (first | exact Keep.refl _ _ | apply Keep.drew | apply Keep.drewN | refine Keep.set ?_ (.inl (by simp)) _)⟩

theorem rclone_any (g : Nat) (r : RS) (w : World) (hg : IsR w g r) : Calls Try.prog 31 #[.pointer (some ⟨g, 0, none⟩)] w
    fun e w' => e = .returned (.pointer (some ⟨w.heap.size, 0, none⟩)) ∧ IsR w' w.heap.size r ∧ Keep [] w w' ∧ w'.heap.size = w.heap.size + 1 := by
  have c0 := blk_cell hg 0
  have c1 := blk_cell hg 1
  have c2 := blk_cell hg 2
  have c3 := blk_cell hg 3
  have c4 := blk_cell hg 4
  have c5 := blk_cell hg 5
  simp only [List.getElem?_toArray, List.getElem?_cons_zero, List.getElem?_cons_succ] at c0 c1 c2 c3 c4 c5
  go_enter Try.func31, Try.ntmps31
  go_wp2
  repeat (go_quiet (fail); try go_wp2)
  go_ret
  exact ⟨rfl, blk_new _ _, (Keep.refl _ _).alloc _, by simp⟩

end Go.Proofs.Ytgelccenbceeoaa
