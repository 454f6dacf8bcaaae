/- Runes: Cut by a contract. -/
import Derived.Test.YtlkoekcoafddpaaDoorRunCount
namespace Go.Proofs.YtlkoekcoafddpaaDoor
open Go.RowKit Go.Lib Go.Shelf
set_option linter.unusedSimpArgs false
set_option linter.unusedVariables false
attribute [local go_sem] Oper.semAt_some

theorem rl1 {r : Nat} (h : r < 128) : runeLen (r : Int) = 1 := by unfold runeLen; rw [if_neg (by omega), if_pos (by omega)]
theorem rl2 {r : Nat} (h : 128 ≤ r ∧ r < 2048) : runeLen (r : Int) = 2 := by unfold runeLen; rw [if_neg (by omega), if_neg (by omega), if_pos (by omega)]
theorem rl3 {r : Nat} (h : 2048 ≤ r ∧ r < 65536) (h' : r < 55296 ∨ 57343 < r) : runeLen (r : Int) = 3 := by unfold runeLen; rw [if_neg (by omega), if_neg (by omega), if_neg (by omega), if_neg (by omega), if_pos (by omega)]
theorem rl4 {r : Nat} (h : 65536 ≤ r ∧ r ≤ 1114111) : runeLen (r : Int) = 4 := by unfold runeLen; rw [if_neg (by omega), if_neg (by omega), if_neg (by omega), if_neg (by omega), if_neg (by omega), if_pos (by omega)]
theorem wide_inv {b : Nat} : (wideN b = 1 → b < 128) ∧ (wideN b = 2 → 194 ≤ b ∧ b ≤ 223) ∧ (wideN b = 3 → 224 ≤ b ∧ b ≤ 239) ∧ (wideN b = 4 → 240 ≤ b ∧ b ≤ 244) := by
  rcases classes b with hb | hb | hb | hb | hb | hb | hb | hb | hb | hb
  · rw [wide1 hb]; omega
  · rw [wide0 (.inl hb)]; omega
  · rw [wide2 hb]; omega
  · rw [wide3 (by omega)]; omega
  · rw [wide3 (by omega)]; omega
  · rw [wide3 (by omega)]; omega
  · rw [wide4 (by omega)]; omega
  · rw [wide4 (by omega)]; omega
  · rw [wide4 (by omega)]; omega
  · rw [wide0 (.inr hb)]; omega
theorem len_good {n b0 b1 b2 b3 : Nat} (h : offN n b0 b1 b2 b3 = none) : runeLen (runeN b0 b1 b2 b3 : Int) = (wideN b0 : Int) := by
  have hw := wide_le b0
  obtain ⟨i1, i2, i3, i4⟩ := wide_inv (b := b0)
  obtain ⟨h1, a1, a2, a3⟩ := off_none h
  obtain e | e | e | e : wideN b0 = 1 ∨ wideN b0 = 2 ∨ wideN b0 = 3 ∨ wideN b0 = 4 := by omega
  · have := i1 e
    rw [e]; unfold runeN; rw [if_pos this]; exact rl1 this
  · have := i2 e
    have s1 := st_one (a1 (by omega)).2
    rw [e]; unfold runeN; rw [if_neg (by omega), if_pos (by omega)]; exact rl2 (by omega)
  · have := i3 e
    have s1 := st_one (a1 (by omega)).2
    have s2 := (st_else (.inl (by omega))).1 (a2 (by omega)).2
    rw [e]; unfold runeN; rw [if_neg (by omega), if_neg (by omega), if_pos (by omega)]; exact rl3 (by omega) (by omega)
  · have := i4 e
    have s1 := st_one (a1 (by omega)).2
    have s2 := (st_else (.inl (by omega))).1 (a2 (by omega)).2
    have s3 := (st_else (.inl (by omega))).1 (a3 (by omega)).2
    rw [e]; unfold runeN; rw [if_neg (by omega), if_neg (by omega), if_neg (by omega)]; exact rl4 (by omega)
/-- Where the last of these runes ends. -/
def endOf (s : ByteArray) (l : List (Nat × Nat)) : Nat := match l.getLast? with | some x => x.1 + wideAt s x.1 | none => 0
theorem endOf_snoc (s : ByteArray) (l : List (Nat × Nat)) (x : Nat × Nat) : endOf s (l ++ [x]) = x.1 + wideAt s x.1 := by
  unfold endOf
  rw [List.getLast?_append]
  rfl
def endR {s : ByteArray} (l : List (RuneOf s)) : Nat := endOf s (l.map prj)
theorem endR_snoc {s : ByteArray} (l : List (RuneOf s)) (x : RuneOf s) : endR (l ++ [x]) = x.i + wideAt s x.i := by unfold endR; rw [List.map_append]; exact endOf_snoc s _ (prj x)
theorem endR_le {s : ByteArray} (l : List (RuneOf s)) : endR l ≤ s.size := by
  rcases List.eq_nil_or_concat l with rfl | ⟨r, x, rfl⟩
  · simp [endR, endOf]
  · rw [List.concat_eq_append, endR_snoc]; exact (at_wide x.lt x.ok).2
def cutEnd (s : ByteArray) (n : Int) : Nat := endOf s ((runesFrom s 0).take n.toNat)

theorem below_dn {B : Nat} {a w : World} (h : Below B a w) (n : Nat) : Below B a (w.drewN n) := ⟨h.os, h.tape, h.output, h.size, h.block⟩
/-- What holds between two rounds. -/
structure CutI (s : ByteArray) (n : Int) (N : Nat) (w : World) (pre : List (RuneOf s)) (W : World) : Prop where
  nb : W.heap[N]? = some (.cells #[.int .i64 (n - (pre.length : Int))] 3 (0, 0))
  eb : W.heap[N + 1]? = some (.cells #[.int .i64 (endR pre : Int)] 3 (0, 0))
  bl : Below w.heap.size w W
  le : pre.length ≤ n.toNat
theorem CutI.turn {s : ByteArray} {n : Int} {N : Nat} {w : World} {m : Nat} (hn : w.heap.size ≤ m) : OwnFrom m (CutI s n N w) := by
  rintro pre W W' row ⟨h1, h2, h5, h6⟩ hg hr
  exact ⟨turn_blk h1 hg (fun r e => (hr r e).2), turn_blk h2 hg (fun r e => (hr r e).2), h5.grown hg h5.size (fun k e => Nat.le_trans hn (hr k e).1), h6⟩
def CutX (s : ByteArray) (n : Int) (N : Nat) (w : World) (c : Code) (pre' : List (RuneOf s)) (W : World) : Prop :=
  ∃ pre x, pre' = pre ++ [x] ∧ c = .exit 0 ∧ pre.length = n.toNat ∧ CutI s n N w pre W
theorem CutX.turn {s : ByteArray} {n : Int} {N : Nat} {w : World} {m : Nat} (hn : w.heap.size ≤ m) (c : Code) : OwnFrom m (CutX s n N w c) := by
  rintro pre' W W' row ⟨pre, x, h1, h2, h3, h4⟩ hg hr
  exact ⟨pre, x, h1, h2, h3, CutI.turn hn pre W W' row h4 hg hr⟩

set_option maxRecDepth 100000 in
set_option maxHeartbeats 2000000 in
theorem cut_any (s : ByteArray) (n : Int) (hn : -9223372036854775808 ≤ n ∧ n ≤ 9223372036854775807) (hs : s.size ≤ 4611686018427387904) (w : World) (T : Tabs w) : Calls Tryd.prog 14 #[.string s, .int .i64 n] w fun e w' => e = .returned (.tuple #[.string (s.extract 0 (cutEnd s n)), .string (s.extract (cutEnd s n) s.size)]) ∧ Keep [] w w' := by
  have hb2 := T.size
  have hlen := runes_len s
  have K0 : Keep [] w ((w.alloc (.cells #[.int .i64 n] 3)).alloc (.cells #[.int .i64 0] 3)) := ((Keep.refl _ _).alloc _).alloc _
  have R0 := blk_alloc (blk_new w (.cells #[.int .i64 n] 3)) (.cells #[.int .i64 0] 3)
  have E0 := blk_new (w.alloc (.cells #[.int .i64 n] 3)) (.cells #[.int .i64 0] 3)
  rw [size_alloc'] at E0
  obtain ⟨E, hE⟩ : ∃ E, cutEnd s n = E := ⟨_, rfl⟩
  have HE := hid hE
  rw [hE]
  clear hE
  refine (callsIn_wide (n := 20)).1 ?_
  refine callsIn_of_wp_marks Tryd.func14 rfl trivial ?_
  simp only [Tryd.ntmps14, List.size_toArray, List.length_cons, List.length_nil, Nat.reduceAdd, Nat.reduceSub, Array.replicate_succ, Array.replicate_zero, List.push_toArray, List.append_toArray, List.nil_append, List.cons_append]
  rw [wpIn_wide]
  go_wp2_with (go_at_call 23; (with_reducible refine (all_any s _).mono ?_); rintro e w2 ⟨rfl, rfl⟩)
  have R1 := blk_alloc R0 (.cells #[.string s] 9)
  have E1 := blk_alloc E0 (.cells #[.string s] 9)
  have S1 := blk_new ((w.alloc (.cells #[.int .i64 n] 3)).alloc (.cells #[.int .i64 0] 3)) (.cells #[.string s] 9)
  have K1 := K0.alloc (.cells #[.string s] 9)
  have hsz : w.heap.size + 1 + 1 < (((w.alloc (.cells #[.int .i64 n] 3)).alloc (.cells #[.int .i64 0] 3)).alloc (.cells #[.string s] 9)).heap.size := by simp
  rw [size_alloc', size_alloc'] at S1
  generalize ((w.alloc (.cells #[.int .i64 n] 3)).alloc (.cells #[.int .i64 0] 3)).alloc (.cells #[.string s] 9) = W1 at *
  clear K0 R0 E0
  have hI0 : CutI s n w.heap.size w [] W1 := ⟨by simpa using R1, E1, K1.below (Nat.le_refl _) (by simp), Nat.zero_le _⟩
  rw [← wpIn_wide (n := 20)]
  refine wpIn_rangeFunc_ownH rfl (by omega) (gf := 29) (lb := #[.pointer (some ⟨w.heap.size + 1 + 1, 0, none⟩)]) rfl trivial (enters_of Tryd.func29 (by kernel_rfl) rfl)
    (runes_stops 19 (by omega) (w.heap.size + 1 + 1) w.heap.size s (by omega) W1 (T.keep K1) hb2 K1.size S1) KpS.trans (KpS.putObj (w := W1) (by omega) (by omega)) (Below.refl _ _) (fun _ => rfl)
    (CutI s n w.heap.size w) (CutX s n w.heap.size w) (CutI.turn (by omega)) (CutX.turn (by omega)) hI0
    (fun x a' W => a' = { tmps := #[.string s, .int .i64 n, undef, .pointer (some ⟨w.heap.size, 0, none⟩), .string ⟨#[]⟩, .string ⟨#[]⟩, .pointer (some ⟨w.heap.size + 1, 0, none⟩), .int .i64 (x.1 : Int), .int .i32 (runeAt s x.1 : Int), .string s, .func (.func 29) #[] #[.pointer (some ⟨w.heap.size + 1 + 1, 0, none⟩)], .int .i64 (x.1 : Int), .int .i32 (runeAt s x.1 : Int), undef, undef, undef, undef, undef, undef, undef, undef, undef, undef, undef, undef, undef, undef], defers := [] })
    (fun x a' _ X Y row hs hg hr => hs)
    ?assign ?body ?done ?stop
  case assign =>
    rintro l pre x W K hI hK
    unfold rEnc
    gi_wp2
    exact hK _ _ (KeepsFrom.refl _ _) ⟨KeepsWalks.refl _, Below.refl _ _, fun _ h => h⟩ hI rfl
  case body =>
    rintro l pre x a' W hl ⟨r, hr⟩ hI rfl hlt
    obtain ⟨g1, g2, g5, g6⟩ := hI
    have c1 : W.cell? ⟨w.heap.size, 0, none⟩ = some (.int .i64 (n - (pre.length : Int))) := blk_cell g1 0
    have f1 := blk_free g1 0
    have c2 : W.cell? ⟨w.heap.size + 1, 0, none⟩ = some (.int .i64 (endR pre : Int)) := blk_cell g2 0
    have f2 := blk_free g2 0
    by_cases hgo : pre.length < n.toNat
    · have hd : 0 < n - (pre.length : Int) := by omega
      have hxl := (at_wide x.lt x.ok).2
      have hc := Tryd.utf8_RuneLen (runeAt s x.1 : Int)
      have hlg : runeLen (runeAt s x.1 : Int) = (wideAt s x.1 : Int) := len_good x.ok
      rw [hlg] at hc
      have hw4 : (x.1 : Int) + (wideAt s x.1 : Int) ≤ 4611686018427387904 := by have : x.1 + wideAt s x.1 ≤ s.size := hxl; omega
      gi_wp2_with fail
      refine ⟨trivial, CallsIn.mono (show CallsIn (Fence.wide.inRound l) _ _ _ _ _ _ from callsIn_wide.2 (hc _)) ?_⟩
      rintro e w3 ⟨rfl, rfl⟩
      have d2 : (W.setCell ⟨w.heap.size, 0, none⟩ (.int .i64 (n - (pre.length : Int) - 1))).heap[w.heap.size + 1]? = some (.cells #[.int .i64 (endR pre : Int)] 3 (0, 0)) := (Below.heap_setCell _ _ _ _ (by simp)).trans g2
      have c3 := blk_cell d2 0
      have f3 := blk_free d2 0
      simp only [List.getElem?_toArray, List.getElem?_cons_zero] at c3
      clear hc c1 c2 f1 f2
      gi_wp2
      refine ⟨((KeepsOthers.setCell _ _ _).trans (KeepsOthers.setCell _ _ _)).from _, ⟨(KeepsWalks.setCell _ _ _).trans (KeepsWalks.setCell _ _ _), ((Below.refl _ _).setCell (p := ⟨w.heap.size, 0, none⟩) (by simp) _).setCell (p := ⟨w.heap.size + 1, 0, none⟩) (by simp) _, fun o ho => (Below.heap_setCell _ _ _ _ (by simp <;> omega)).trans ((Below.heap_setCell _ _ _ _ (by simp <;> omega)).trans ho)⟩, ⟨?_, ?_, (g5.setCell (p := ⟨w.heap.size, 0, none⟩) (by simp) _).setCell (p := ⟨w.heap.size + 1, 0, none⟩) (by simp) _, by simp; omega⟩⟩
      · refine (Below.heap_setCell _ _ _ _ (by simp)).trans ((blk_set g1 0 _).trans ?_)
        simp
        omega
      · refine (blk_set d2 0 _).trans ?_
        rw [endR_snoc]
        simp
    · have hd : n - (pre.length : Int) ≤ 0 := by omega
      gi_wp2
      exact ⟨KeepsFrom.refl _ _, pre, x, rfl, rfl, by omega, ⟨g1, g2, g5, g6⟩⟩
  case done =>
    rintro D ys W hD hys ⟨g1, g2, g5, g6⟩ hK
    have he : endR ys = cutEnd s n := by
      unfold cutEnd
      rw [← hys, List.take_of_length_le (by rw [List.length_map]; exact g6)]
      rfl
    have hes := endR_le ys
    rw [he, HE.out] at g2 hes
    clear hys he g1
    have c2 : W.cell? ⟨w.heap.size + 1, 0, none⟩ = some (.int .i64 (E : Int)) := blk_cell g2 0
    have hes' : (E : Int) ≤ (s.size : Int) := by omega
    have he0 : (0 : Int) ≤ (E : Int) := by omega
    go_upto_region 8 with (fail)
    go_quiet (fail)
    go_wp2
    refine ⟨by simp, .inl ⟨_, _, rfl, run_takeDeferred hK, ?_⟩⟩
    exact ⟨.tuple #[.string (s.extract 0 E), .string (s.extract E s.size)], by simp [results, Tryd.results14, go_sem], rfl, Keep.of_below ((below_dn g5 nq).trans (belowK_b (w := w) (Nat.le_refl _) (W.drewN nq) D _ _ (by have := K1.size; omega) hK rfl rfl)) []⟩
  case stop =>
    rintro D c pre' W hD hp ⟨pre, x, rfl, rfl, hl, g1, g2, g5, g6⟩ hK
    have he : endR pre = cutEnd s n := by
      unfold cutEnd
      obtain ⟨r, hr⟩ := hp
      rw [← hr, List.map_append, List.append_assoc, ← hl, List.take_append_of_le_length (by simp), List.take_of_length_le (by simp)]
      rfl
    have hes := endR_le pre
    rw [he, HE.out] at g2 hes
    clear hp he g1
    have c2 : W.cell? ⟨w.heap.size + 1, 0, none⟩ = some (.int .i64 (E : Int)) := blk_cell g2 0
    have hes' : (E : Int) ≤ (s.size : Int) := by omega
    have he0 : (0 : Int) ≤ (E : Int) := by omega
    rw [wpIn_wide]
    go_upto_region 8 with (fail)
    go_quiet (fail)
    go_wp2
    refine ⟨by simp, .inl ⟨_, _, rfl, run_takeDeferred hK, ?_⟩⟩
    exact ⟨.tuple #[.string (s.extract 0 E), .string (s.extract E s.size)], by simp [results, Tryd.results14, go_sem], rfl, Keep.of_below ((below_dn g5 nq).trans (belowK_b (w := w) (Nat.le_refl _) (W.drewN nq) D _ _ (by have := K1.size; omega) hK rfl rfl)) []⟩

end Go.Proofs.YtlkoekcoafddpaaDoor
