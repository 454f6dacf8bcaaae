/- Runes: Count by a contract. -/
import Derived.Test.YtlkoekcoafddpaaDoorRunAll
namespace Go.Proofs.YtlkoekcoafddpaaDoor
open Go.RowKit Go.Lib Go.Shelf
set_option linter.unusedSimpArgs false
set_option linter.unusedVariables false
attribute [local go_sem] Oper.semAt_some

theorem runesF_len : ∀ (f : Nat) (s : ByteArray) (i : Nat), (runesF f s i).length ≤ f := by
  intro f
  induction f with
  | zero => intro s i; exact Nat.le_refl _
  | succ f ih =>
    intro s i
    unfold runesF
    split
    · cases offAt s i with
      | none => simpa using ih s (i + wideAt s i)
      | some k => simp
    · simp
theorem runes_len (s : ByteArray) : (runesFrom s 0).length ≤ s.size := runesF_len _ s 0
theorem Tabs.size {w : World} (h : Tabs w) : 2 ≤ w.heap.size := by
  have := World.block_lt_of_cell? w _ (h.2 0 (by omega)).1
  simp at this
  omega
theorem turn_blk {W W' : World} {row : Option Nat} {b : Nat} {cs : Array Value} {t : TypeId} {fr : Nat × Nat} (h : W.heap[b]? = some (.cells cs t fr)) (hg : W.grownBy W' row) (hr : ∀ r, row = some r → ∃ o : Obj, W.heap[r]? = some o ∧ o.isCells = false) : W'.heap[b]? = some (.cells cs t fr) :=
  (hg.block b (blk_lt h) (fun e => by obtain ⟨o, ho, hc⟩ := hr b e.symm; rw [h] at ho; cases ho; cases hc)).trans h
/-- What holds between two rounds: so many were counted. -/
structure CntI (s : ByteArray) (N Bs : Nat) (w : World) (pre : List (RuneOf s)) (W : World) : Prop where
  n : W.heap[N]? = some (.cells #[.int .i64 (pre.length : Int)] 3 (0, 0))
  bl : Below w.heap.size w W
theorem CntI.turn {s : ByteArray} {N Bs : Nat} {w : World} {n : Nat} (hn : w.heap.size ≤ n) : OwnFrom n (CntI s N Bs w) := by
  rintro pre W W' row ⟨h1, h5⟩ hg hr
  exact ⟨turn_blk h1 hg (fun r e => (hr r e).2), h5.grown hg h5.size (fun k e => Nat.le_trans hn (hr k e).1)⟩

set_option maxRecDepth 100000 in
set_option maxHeartbeats 2000000 in
theorem count_any (s : ByteArray) (hs : s.size ≤ 4611686018427387904) (w : World) (T : Tabs w) : Calls Tryd.prog 18 #[.string s] w fun e w' => e = .returned (.int .i64 ((runesFrom s 0).length : Int)) ∧ Keep [] w w' := by
  have hb2 := T.size
  have hlen := runes_len s
  have K0 : Keep [] w (w.alloc (.cells #[.int .i64 0] 3)) := (Keep.refl _ _).alloc _
  have R0 := blk_new w (.cells #[.int .i64 0] 3)
  refine (callsIn_wide (n := 20)).1 ?_
  refine callsIn_of_wp_marks Tryd.func18 rfl trivial ?_
  simp only [Tryd.ntmps18, List.size_toArray, List.length_cons, List.length_nil, Nat.reduceAdd, Nat.reduceSub, Array.replicate_succ, Array.replicate_zero, List.push_toArray, List.append_toArray, List.nil_append, List.cons_append]
  rw [wpIn_wide]
  go_wp2_with (go_at_call 23; (with_reducible refine (all_any s _).mono ?_); rintro e w2 ⟨rfl, rfl⟩)
  have R1 := blk_alloc R0 (.cells #[.string s] 9)
  have S1 := blk_new (w.alloc (.cells #[.int .i64 0] 3)) (.cells #[.string s] 9)
  have K1 := K0.alloc (.cells #[.string s] 9)
  have hsz : w.heap.size + 1 < ((w.alloc (.cells #[.int .i64 0] 3)).alloc (.cells #[.string s] 9)).heap.size := by simp
  rw [size_alloc'] at S1
  generalize (w.alloc (.cells #[.int .i64 0] 3)).alloc (.cells #[.string s] 9) = W1 at *
  clear K0 R0
  have hI0 : CntI s w.heap.size (w.heap.size + 1) w [] W1 := ⟨R1, K1.below (Nat.le_refl _) (by simp)⟩
  rw [← wpIn_wide (n := 20)]
  refine wpIn_rangeFunc_ownH rfl (by omega) (gf := 29) (lb := #[.pointer (some ⟨w.heap.size + 1, 0, none⟩)]) rfl trivial (enters_of Tryd.func29 (by kernel_rfl) rfl)
    (runes_stops 19 (by omega) (w.heap.size + 1) w.heap.size s (by omega) W1 (T.keep K1) hb2 K1.size S1) KpS.trans (KpS.putObj (w := W1) (by omega) (by omega)) (Below.refl _ _) (fun _ => rfl)
    (CntI s w.heap.size (w.heap.size + 1) w) (fun _ _ _ => False) (CntI.turn (by omega)) (fun _ _ _ _ _ hs _ _ => hs) hI0
    (fun x a' W => a' = { tmps := #[.string s, undef, .int .i64 0, .pointer (some ⟨w.heap.size, 0, none⟩), .string s, .func (.func 29) #[] #[.pointer (some ⟨w.heap.size + 1, 0, none⟩)], .int .i64 (x.1 : Int), .int .i32 (runeAt s x.1 : Int), undef, undef, undef], defers := [] })
    (fun x a' _ X Y row hs hg hr => hs)
    ?assign ?body ?done ?stop
  case assign =>
    rintro l pre x W K hI hK
    unfold rEnc
    gi_wp2
    exact hK _ _ (KeepsFrom.refl _ _) ⟨KeepsWalks.refl _, Below.refl _ _, fun _ h => h⟩ hI (by simp)
  case body =>
    rintro l pre x a' W hl ⟨r, hr⟩ ⟨g1, g5⟩ rfl hlt
    have c1 : W.cell? ⟨w.heap.size, 0, none⟩ = some (.int .i64 (pre.length : Int)) := blk_cell g1 0
    have f1 := blk_free g1 0
    have hb1 : (pre.length : Int) < 4611686018427387904 := by omega
    have hb0 : (0 : Int) ≤ (pre.length : Int) := by omega
    gi_wp2
    refine ⟨(KeepsOthers.setCell _ _ _).from _, ⟨KeepsWalks.setCell _ _ _, (Below.refl _ _).setCell (p := ⟨w.heap.size, 0, none⟩) (by simp) _, fun o ho => (Below.heap_setCell _ _ _ _ (by simp)).trans ho⟩, ⟨?_, g5.setCell (p := ⟨w.heap.size, 0, none⟩) (by simp) _⟩⟩
    exact (blk_set g1 0 _).trans (by simp)
  case done =>
    rintro D ys W hD hys ⟨g1, g5⟩ hK
    have hl : ys.length = (runesFrom s 0).length := by rw [← hys, List.length_map]
    rw [hl] at g1
    clear hys hl
    have c1 : W.cell? ⟨w.heap.size, 0, none⟩ = some (.int .i64 ((runesFrom s 0).length : Int)) := blk_cell g1 0
    go_wp2
    refine ⟨by simp, .inl ⟨_, _, rfl, run_takeDeferred hK, ?_⟩⟩
    exact ⟨.int .i64 ((runesFrom s 0).length : Int), by simp [results, Tryd.results18, go_sem], rfl, Keep.of_below (g5.trans (belowK_b (w := w) (Nat.le_refl _) W D _ _ (by have := K1.size; omega) hK rfl rfl)) []⟩
  case stop =>
    rintro D c pre W _ _ h _
    exact h.elim

end Go.Proofs.YtlkoekcoafddpaaDoor
