/- Runes: the law's goes by a contract. -/
import Derived.Test.YtlkoekcoafddpaaDoorRunCut
import Derived.Test.YtlkoekcoafddpaaDoorStep
namespace Go.Proofs.YtlkoekcoafddpaaDoor
open Go.RowKit Go.Lib Go.Shelf
set_option linter.unusedSimpArgs false
set_option linter.unusedVariables false
attribute [local go_sem] Oper.semAt_some

/-- What goes answers: places and runes, in turn. -/
def flatR (l : List (Nat × Nat)) : List Int := l.flatMap (fun x => [(x.1 : Int), (x.2 : Int)])

theorem flatR_snoc (l : List (Nat × Nat)) (x : Nat × Nat) : flatR (l ++ [x]) = flatR l ++ [(x.1 : Int), (x.2 : Int)] := by simp [flatR]
theorem flatR_len (l : List (Nat × Nat)) : (flatR l).length = 2 * l.length := by
  induction l with
  | nil => rfl
  | cons x r ih =>
    have : flatR (x :: r) = [(x.1 : Int), (x.2 : Int)] ++ flatR r := rfl
    rw [this, List.length_append, ih]
    simp
    omega
def outR {s : ByteArray} (pre : List (RuneOf s)) : List Int := flatR (pre.map prj)
/-- What holds between two rounds. -/
structure GoI (s : ByteArray) (n : Int) (N : Nat) (w : World) (pre : List (RuneOf s)) (W : World) : Prop where
  nb : W.heap[N]? = some (.cells #[.int .i64 (n - (pre.length : Int))] 3 (0, 0))
  ob : ∃ A c, W.heap[N + 1 + 1]? = some (.cells #[.slice A (outR pre).length c] 26 (0, 0)) ∧ W.ownsRow (w.heap.size + 1) 3 1 (.slice A (outR pre).length c) (outR pre).length ((outR pre).flatMap intRow)
  bl : Below w.heap.size w W
  le : pre.length ≤ n.toNat
  sb : W.heap[N + 1 + 1 + 1]? = some (.cells #[.string s] 9 (0, 0))
theorem turn_own {W W' : World} {row : Option Nat} {base : Nat} {e : TypeId} {sz : Nat} {v : Value} {n : Nat} {xs : List Value} (h : W.ownsRow base e sz v n xs) (hg : W.grownBy W' row) (hr : ∀ r, row = some r → ∃ o : Obj, W.heap[r]? = some o ∧ o.isCells = false) : W'.ownsRow base e sz v n xs := by
  obtain ⟨h1, h2⟩ := h
  refine ⟨h1, ?_⟩
  rcases h2 with h2 | ⟨g, cap, cur, rfl, hb, hh, rest⟩
  · exact .inl h2
  · exact .inr ⟨g, cap, cur, rfl, hb, turn_blk hh hg hr, rest⟩
theorem GoI.turn {s : ByteArray} {n : Int} {N : Nat} {w : World} {m : Nat} (hn : w.heap.size ≤ m) : OwnFrom m (GoI s n N w) := by
  rintro pre W W' row ⟨h1, ⟨A, c, h2, h3⟩, h5, h6, h7⟩ hg hr
  exact ⟨turn_blk h1 hg (fun r e => (hr r e).2), ⟨A, c, turn_blk h2 hg (fun r e => (hr r e).2), turn_own h3 hg (fun r e => (hr r e).2)⟩, h5.grown hg h5.size (fun k e => Nat.le_trans hn (hr k e).1), h6, turn_blk h7 hg (fun r e => (hr r e).2)⟩
def GoX (s : ByteArray) (n : Int) (N : Nat) (w : World) (c : Code) (pre' : List (RuneOf s)) (W : World) : Prop :=
  ∃ pre x, pre' = pre ++ [x] ∧ c = .exit 0 ∧ pre.length = n.toNat ∧ GoI s n N w pre W
theorem GoX.turn {s : ByteArray} {n : Int} {N : Nat} {w : World} {m : Nat} (hn : w.heap.size ≤ m) (c : Code) : OwnFrom m (GoX s n N w c) := by
  rintro pre' W W' row ⟨pre, x, h1, h2, h3, h4⟩ hg hr
  exact ⟨pre, x, h1, h2, h3, GoI.turn hn pre W W' row h4 hg hr⟩

set_option maxRecDepth 100000 in
set_option maxHeartbeats 2000000 in
theorem goes_any (s : ByteArray) (n : Int) (hn : -9223372036854775808 ≤ n ∧ n ≤ 9223372036854775807) (hs : s.size ≤ 4398046511104) (w : World) (T : Tabs w) : Calls Tryd.prog 11 #[.string s, .int .i64 n] w fun e w' =>
    ∃ A c, e = .returned (.slice A (flatR ((runesFrom s 0).take n.toNat)).length c) ∧ w'.ownsRow w.heap.size 3 1 (.slice A (flatR ((runesFrom s 0).take n.toNat)).length c) (flatR ((runesFrom s 0).take n.toNat)).length ((flatR ((runesFrom s 0).take n.toNat)).flatMap intRow) ∧ Keep [] w w' := by
  have hb2 := T.size
  have hlen := runes_len s
  obtain ⟨L, hL⟩ : ∃ L, flatR ((runesFrom s 0).take n.toNat) = L := ⟨_, rfl⟩
  have HL := hid hL
  rw [hL]
  clear hL
  refine (callsIn_wide (n := 20)).1 ?_
  refine callsIn_of_wp_marks Tryd.func11 rfl trivial ?_
  simp only [Tryd.ntmps11, List.size_toArray, List.length_cons, List.length_nil, Nat.reduceAdd, Nat.reduceSub, Array.replicate_succ, Array.replicate_zero, List.push_toArray, List.append_toArray, List.nil_append, List.cons_append]
  rw [wpIn_wide]
  go_wp2_with (go_at_call 23; (with_reducible refine (all_any s _).mono ?_); rintro e w2 ⟨rfl, rfl⟩)
  have K1 : Keep [] w ((((w.alloc (.cells #[.int .i64 n] 3)).alloc (.cells #[] 3)).alloc (.cells #[.slice (some ⟨w.heap.size + 1, 0, none⟩) 0 0] 26)).alloc (.cells #[.string s] 9)) := ((((Keep.refl _ _).alloc _).alloc _).alloc _).alloc _
  have R1 := blk_alloc (blk_alloc (blk_alloc (blk_new w (.cells #[.int .i64 n] 3)) (.cells #[] 3)) (.cells #[.slice (some ⟨w.heap.size + 1, 0, none⟩) 0 0] 26)) (.cells #[.string s] 9)
  have M1 := blk_alloc (blk_alloc (blk_new (w.alloc (.cells #[.int .i64 n] 3)) (.cells #[] 3)) (.cells #[.slice (some ⟨w.heap.size + 1, 0, none⟩) 0 0] 26)) (.cells #[.string s] 9)
  have E1 := blk_alloc (blk_new ((w.alloc (.cells #[.int .i64 n] 3)).alloc (.cells #[] 3)) (.cells #[.slice (some ⟨w.heap.size + 1, 0, none⟩) 0 0] 26)) (.cells #[.string s] 9)
  have S1 := blk_new (((w.alloc (.cells #[.int .i64 n] 3)).alloc (.cells #[] 3)).alloc (.cells #[.slice (some ⟨w.heap.size + 1, 0, none⟩) 0 0] 26)) (.cells #[.string s] 9)
  simp only [size_alloc'] at M1 E1 S1
  have hsz : w.heap.size + 1 + 1 + 1 < ((((w.alloc (.cells #[.int .i64 n] 3)).alloc (.cells #[] 3)).alloc (.cells #[.slice (some ⟨w.heap.size + 1, 0, none⟩) 0 0] 26)).alloc (.cells #[.string s] 9)).heap.size := by simp
  generalize (((w.alloc (.cells #[.int .i64 n] 3)).alloc (.cells #[] 3)).alloc (.cells #[.slice (some ⟨w.heap.size + 1, 0, none⟩) 0 0] 26)).alloc (.cells #[.string s] 9) = W1 at *
  have hI0 : GoI s n w.heap.size w [] W1 := ⟨by simpa using R1, ⟨_, 0, E1, by simp [outR, flatR], .inr ⟨w.heap.size + 1, 0, #[], rfl, by omega, M1, by simp [outR, flatR], by decide, by simp, by simp [outR, flatR]⟩⟩, K1.below (Nat.le_refl _) (by simp), Nat.zero_le _, S1⟩
  rw [← wpIn_wide (n := 20)]
  refine wpIn_rangeFunc_ownH rfl (by omega) (gf := 29) (lb := #[.pointer (some ⟨w.heap.size + 1 + 1 + 1, 0, none⟩)]) rfl trivial (enters_of Tryd.func29 (by kernel_rfl) rfl)
    (runes_stops 19 (by omega) (w.heap.size + 1 + 1 + 1) w.heap.size s (by omega) W1 (T.keep K1) hb2 K1.size S1) KpS.trans (KpS.putObj (w := W1) (by omega) (by omega)) (Below.refl _ _) (fun _ => rfl)
    (GoI s n w.heap.size w) (GoX s n w.heap.size w) (GoI.turn (by omega)) (GoX.turn (by omega)) hI0
    (fun x a' W => a' = { tmps := #[.string s, .int .i64 n, undef, .pointer (some ⟨w.heap.size, 0, none⟩), .slice none 0 0, .pointer (some ⟨w.heap.size + 1 + 1, 0, none⟩), .int .i64 (x.1 : Int), .int .i32 (runeAt s x.1 : Int), .slice (some ⟨w.heap.size + 1, 0, none⟩) 0 0, .string s, .func (.func 29) #[] #[.pointer (some ⟨w.heap.size + 1 + 1 + 1, 0, none⟩)], .int .i64 (x.1 : Int), .int .i32 (runeAt s x.1 : Int), undef, undef, undef, undef, undef, undef, undef, undef, undef, undef, undef], defers := [] })
    (fun x a' _ X Y row hs hg hr => hs)
    ?assign ?body ?done ?stop
  case assign =>
    rintro l pre x W K hI hK
    unfold rEnc
    gi_wp2
    exact hK _ _ (KeepsFrom.refl _ _) ⟨KeepsWalks.refl _, Below.refl _ _, fun _ h => h⟩ hI rfl
  case body =>
    rintro l pre x a' W hl ⟨r, hr⟩ hI rfl hlt
    obtain ⟨g1, ⟨A, c, g2, g3⟩, g5, g6, gs⟩ := hI
    have c1 : W.cell? ⟨w.heap.size, 0, none⟩ = some (.int .i64 (n - (pre.length : Int))) := blk_cell g1 0
    have f1 := blk_free g1 0
    by_cases hgo : pre.length < n.toNat
    · have hd : 0 < n - (pre.length : Int) := by omega
      have hne : w.heap.size + 1 + 1 ≠ w.heap.size := by omega
      have KS := (Keep.refl [w.heap.size] W).set (p := ⟨w.heap.size, 0, none⟩) (.inl (by simp)) (.int .i64 (n - (pre.length : Int) - 1))
      have d2 := KS.blk g2 (by simp <;> omega)
      have hr1 : (runeAt s x.1 : Int) ≤ 2147483647 := by have := decode_le s x.1; rw [decode_good x.ok] at this; simp only at this; omega
      have c3 := blk_cell d2 0
      have f3 := blk_free d2 0
      simp only [List.getElem?_toArray, List.getElem?_cons_zero] at c3
      obtain ⟨i0, hi, hz0, hz1, hz2⟩ := info_parts (show (Tryd.prog.info? 3).map (fun i => (i.zero, i.size, i.bytes)) = some (some (.int .i64 0), 1, 8) by kernel_rfl)
      have O0 := own_keep g3 KS (fun b hb => by simp at hb; subst hb; intro e; have := (own_base g3 w.heap.size e.symm).1; omega)
      have hOl : (outR pre).length = 2 * pre.length := by unfold outR; rw [flatR_len, List.length_map]
      have hx0 : (x.1 : Int) ≤ 4398046511104 := by have := x.lt; omega
      have hb1 : (outR pre).length + 2 ≤ maxLen := by simp only [maxLen]; omega
      have hb2' : ((outR pre).length + 2) * 8 ≤ 140737488355328 := by omega
      clear hOl
      have hNW : w.heap.size + 1 + 1 < W.heap.size := blk_lt g2
      have hb3 : w.heap.size + 1 ≤ ((W.setCell ⟨w.heap.size, 0, none⟩ (.int .i64 (n - (pre.length : Int) - 1))).alloc (.cells #[.int .i64 (x.1 : Int), .int .i64 (runeAt s x.1 : Int)] 3)).heap.size := by simp; omega
      have hne4 : some (w.heap.size + 1 + 1) ≠ (Value.slice A (outR pre).length c).ownBlock := own_ne O0 d2 (by decide)
      have hnb : ((W.setCell ⟨w.heap.size, 0, none⟩ (.int .i64 (n - (pre.length : Int) - 1))).alloc (.cells #[.int .i64 (x.1 : Int), .int .i64 (runeAt s x.1 : Int)] 3)).heap[W.heap.size]? = some (.cells #[.int .i64 (x.1 : Int), .int .i64 (runeAt s x.1 : Int)] 3 (0, 0)) := by
        have := blk_new (W.setCell ⟨w.heap.size, 0, none⟩ (.int .i64 (n - (pre.length : Int) - 1))) (.cells #[.int .i64 (x.1 : Int), .int .i64 (runeAt s x.1 : Int)] 3)
        rw [show (W.setCell ⟨w.heap.size, 0, none⟩ (.int .i64 (n - (pre.length : Int) - 1))).heap.size = W.heap.size by simp] at this
        exact this
      gi_wp2_with (gi_at_builtin; (refine wpListIn_append_own _ rfl _ _ 26 rfl (w.heap.size + 1) 3 i0 (.int .i64 0) 1 8 Tryd.underlying26 hi hz0 hz1 hz2 rfl (by decide) _ _ _ rfl (O0.alloc _) ⟨W.heap.size, 0, none⟩ 2 2 [.int .i64 (x.1 : Int), .int .i64 (runeAt s x.1 : Int)] rfl rfl (fun j u hj => by rw [add_zero_at]; exact (blk_cell hnb j).trans (by simpa using hj)) (by intro u hu; simp at hu; rcases hu with rfl | rfl <;> rfl) hb1 hb2' hb3 ?_; intro v1 w1 O1 G1 _; obtain ⟨A1, c1, rfl⟩ := own_slice O1; have hf := blk_grown (blk_alloc d2 _) G1 hne4; have c4 := blk_cell hf 0; have f4 := blk_free hf 0))
      clear hi hz0 hz1 hz2 hnb c4 f4 c3 f3 f1
      replace G1 : ((W.setCell ⟨w.heap.size, 0, none⟩ (.int .i64 (n - (pre.length : Int) - 1))).alloc (.cells #[.int .i64 (x.1 : Int), .int .i64 (runeAt s x.1 : Int)] 3)).grownBy w1 (Value.slice A (outR pre).length c).ownBlock := G1
      have hO : ∀ b, (Value.slice A (outR pre).length c).ownBlock = some b → w.heap.size + 1 ≤ b ∧ ∃ cs, (W.setCell ⟨w.heap.size, 0, none⟩ (.int .i64 (n - (pre.length : Int) - 1))).heap[b]? = some (.cells cs 3 (0, 0)) := fun b hb => ⟨(own_base O0 b hb).1, (own_base O0 b hb).2.2⟩
      have hO2 : ∀ (b : Nat) (o : Obj), (Value.slice A (outR pre).length c).ownBlock = some b → ((W.setCell ⟨w.heap.size, 0, none⟩ (.int .i64 (n - (pre.length : Int) - 1))).alloc (.cells #[.int .i64 (x.1 : Int), .int .i64 (runeAt s x.1 : Int)] 3)).heap[b]? = some o → o.isCells = true := fun b o e ho => by
        obtain ⟨_, cs, hcs⟩ := hO b e
        rw [blk_alloc hcs _] at ho
        cases ho; rfl
      have hneN : some w.heap.size ≠ (Value.slice A (outR pre).length c).ownBlock := fun e => by have := (hO _ e.symm).1; omega
      have hb0 : Below w.heap.size W w1 := (((Below.refl w.heap.size W).setCell (p := ⟨w.heap.size, 0, none⟩) (by simp) _).alloc (by simp; omega) _).grown G1 (by simp; omega) (fun k e => by have := (hO k e).1; omega)
      have hnb1 : (W.setCell ⟨w.heap.size, 0, none⟩ (.int .i64 (n - (pre.length : Int) - 1))).heap[w.heap.size]? = some (.cells #[.int .i64 (n - (pre.length : Int) - 1)] 3 (0, 0)) := (blk_set g1 0 _).trans (by simp)
      have hnb2 := blk_grown (blk_alloc hnb1 _) G1 hneN
      have KS2 := (Keep.refl [w.heap.size + 1 + 1] w1).set (p := ⟨w.heap.size + 1 + 1, 0, none⟩) (.inl (by simp)) (.slice A1 ((outR pre).length + 2) c1)
      have hsb := KS2.blk (blk_grown (blk_alloc (KS.blk gs (by simp <;> omega)) (.cells #[.int .i64 (x.1 : Int), .int .i64 (runeAt s x.1 : Int)] 3)) G1 (own_ne O0 (KS.blk gs (by simp <;> omega)) (by decide))) (by simp <;> omega)
      have hsnoc : outR (pre ++ [x]) = outR pre ++ [(x.1 : Int), (runeAt s x.1 : Int)] := by unfold outR; rw [List.map_append, List.map_cons, List.map_nil, flatR_snoc]; rfl
      have hl2 : (outR (pre ++ [x])).length = (outR pre).length + 2 := by rw [hsnoc]; simp
      refine ⟨((((KeepsOthers.setCell _ _ _).trans (KeepsOthers.alloc _ _)).trans (KeepsOthers.of_grownBy G1 hO2)).trans (KeepsOthers.setCell _ _ _)).from _, ⟨(((KeepsWalks.setCell _ _ _).trans (KeepsWalks.alloc _ _)).trans (KeepsWalks.of_grownBy G1 (fun b o e ho => by have := hO2 b o e ho; cases o <;> first | rfl | cases this))).trans (KeepsWalks.setCell _ _ _), hb0.setCell (p := ⟨w.heap.size + 1 + 1, 0, none⟩) (by simp; omega) _, fun o ho => by rw [gs] at ho; cases ho; exact hsb⟩, ⟨?_, ⟨A1, c1, ?_, ?_⟩, (g5.trans hb0).setCell (p := ⟨w.heap.size + 1 + 1, 0, none⟩) (by simp; omega) _, by simp; omega, hsb⟩⟩
      · exact (KS2.blk hnb2 (by simp <;> omega)).trans (by simp; omega)
      · rw [hl2]
        exact (blk_set hf 0 _).trans (by simp)
      · rw [hl2, hsnoc, List.flatMap_append]
        exact own_keep O1 KS2 (fun b hb => by simp at hb; subst hb; exact own_ne O1 hf (by decide))
    · have hd : n - (pre.length : Int) ≤ 0 := by omega
      gi_wp2
      exact ⟨KeepsFrom.refl _ _, pre, x, rfl, rfl, by omega, ⟨g1, ⟨A, c, g2, g3⟩, g5, g6, gs⟩⟩
  case done =>
    rintro D ys W hD hys ⟨g1, ⟨A, c, g2, g3⟩, g5, g6, gs⟩ hK
    have he : outR ys = L := by
      rw [← HL.out, ← hys, List.take_of_length_le (by simpa using g6)]
      rfl
    rw [he] at g2 g3
    clear hys he g1
    have c2 := blk_cell g2 0
    simp only [List.getElem?_toArray, List.getElem?_cons_zero] at c2
    go_wp2
    refine ⟨by simp, .inl ⟨_, _, rfl, run_takeDeferred hK, ?_⟩⟩
    have hg := grownBy_putObj' W D (.deferred none)
    have hr : ∀ r, some D = some r → ∃ o : Obj, W.heap[r]? = some o ∧ o.isCells = false := fun r e => by cases e; exact ⟨_, hK, rfl⟩
    exact ⟨.slice A L.length c, by simp [results, Tryd.results11, go_sem], A, c, rfl, own_base_le (turn_own g3 hg hr) (Nat.le_succ _), Keep.of_below (g5.trans (belowK_b (w := w) (Nat.le_refl _) W D _ _ (by have := K1.size; omega) hK rfl rfl)) []⟩
  case stop =>
    rintro D c' pre' W hD hp ⟨pre, x, rfl, rfl, hl, g1, ⟨A, c, g2, g3⟩, g5, g6⟩ hK
    have he : outR pre = L := by
      obtain ⟨r, hr⟩ := hp
      rw [← HL.out, ← hr, List.map_append, List.append_assoc, ← hl, List.take_append_of_le_length (by simp), List.take_of_length_le (by simp)]
      rfl
    rw [he] at g2 g3
    clear hp he g1
    have c2 := blk_cell g2 0
    simp only [List.getElem?_toArray, List.getElem?_cons_zero] at c2
    rw [wpIn_wide]
    go_wp2
    refine ⟨by simp, .inl ⟨_, _, rfl, run_takeDeferred hK, ?_⟩⟩
    have hg := grownBy_putObj' W D (.deferred none)
    have hr : ∀ r, some D = some r → ∃ o : Obj, W.heap[r]? = some o ∧ o.isCells = false := fun r e => by cases e; exact ⟨_, hK, rfl⟩
    exact ⟨.slice A L.length c, by simp [results, Tryd.results11, go_sem], A, c, rfl, own_base_le (turn_own g3 hg hr) (Nat.le_succ _), Keep.of_below (g5.trans (belowK_b (w := w) (Nat.le_refl _) W D _ _ (by have := K1.size; omega) hK rfl rfl)) []⟩

end Go.Proofs.YtlkoekcoafddpaaDoor
