/- Runes: the law's within by a contract. -/
import Derived.Test.YtlkoekcoafddpaaDoorRunWithinLaw
import Derived.Laws.EntriesVeiled
namespace Go.Proofs.YtlkoekcoafddpaaDoor
open Go.RowKit Go.Lib Go.Shelf
set_option linter.unusedSimpArgs false
set_option linter.unusedVariables false
attribute [local go_sem] Oper.semAt_some

/-- What holds between two rounds of the outer loop. -/
structure WiI (s : ByteArray) (N : Nat) (w : World) (pre : List (RuneOf s)) (W : World) : Prop where
  nb : W.heap[N]? = some (.cells #[.int .i64 (cntSum (runesFrom s 0) (pre.map prj) : Int)] 3 (0, 0))
  fb : W.heap[N + 1 + 1]? = some (.cells #[.func (.func 29) #[] #[.pointer (some ⟨N + 1, 0, none⟩)]] 45 (0, 0))
  sb : W.heap[N + 1]? = some (.cells #[.string s] 9 (0, 0))
  bl : Below w.heap.size w W
theorem WiI.turn {s : ByteArray} {N : Nat} {w : World} {m : Nat} (hn : w.heap.size ≤ m) : OwnFrom m (WiI s N w) := by
  rintro pre W W' row ⟨h1, h2, h3, h5⟩ hg hr
  exact ⟨turn_blk h1 hg (fun r e => (hr r e).2), turn_blk h2 hg (fun r e => (hr r e).2), turn_blk h3 hg (fun r e => (hr r e).2), h5.grown hg h5.size (fun k e => Nat.le_trans hn (hr k e).1)⟩
/-- And of the inner one. -/
structure WnI (s : ByteArray) (N Bx B c x base : Nat) (W0 : World) (pre : List (RuneOf s)) (W : World) : Prop where
  nb : W.heap[N]? = some (.cells #[.int .i64 ((c + pre.length : Nat) : Int)] 3 (0, 0))
  xb : W.heap[Bx]? = some (.cells #[.int .i64 (x : Int)] 3 (0, 0))
  fb : W.heap[N + 1 + 1]? = some (.cells #[.func (.func 29) #[] #[.pointer (some ⟨N + 1, 0, none⟩)]] 45 (0, 0))
  sb : W.heap[N + 1]? = some (.cells #[.string s] 9 (0, 0))
  le : ∀ y ∈ pre, y.1 ≤ x
  bl : Below base W0 W
  kw : KeepsWalks W0 W
  kf : KeepsFrom B W0 W
theorem WnI.turn {s : ByteArray} {N Bx B c x base : Nat} {W0 : World} {m : Nat} (hb : base ≤ m) (hn : W0.heap.size ≤ m) (h0 : base ≤ W0.heap.size) : OwnFrom m (WnI s N Bx B c x base W0) := by
  rintro pre W W' row ⟨h1, h2, h3, h4, h5, h6, h7, h8⟩ hg hr
  refine ⟨turn_blk h1 hg (fun r e => (hr r e).2), turn_blk h2 hg (fun r e => (hr r e).2), turn_blk h3 hg (fun r e => (hr r e).2), turn_blk h4 hg (fun r e => (hr r e).2), h5, h6.grown hg (Nat.le_trans h0 h6.size) (fun k e => Nat.le_trans hb (hr k e).1), ⟨Nat.le_trans h7.size hg.size, fun k o hk ho => ?_⟩, ownFrom_keepsFrom (β := Unit) hn () W W' row h8 hg hr⟩
  refine (hg.block k (Array.getElem?_eq_some_iff.1 (h7.same k o hk ho)).1 (fun e => ?_)).trans (h7.same k o hk ho)
  have h9 := (hr k e.symm).1
  have h10 := (Array.getElem?_eq_some_iff.1 hk).1
  omega
def WnX (s : ByteArray) (N Bx B c x base : Nat) (W0 : World) (cd : Code) (pre' : List (RuneOf s)) (W : World) : Prop :=
  ∃ pre y, pre' = pre ++ [y] ∧ cd = .exit 2 ∧ x < y.1 ∧ WnI s N Bx B c x base W0 pre W
theorem WnX.turn {s : ByteArray} {N Bx B c x base : Nat} {W0 : World} {m : Nat} (hb : base ≤ m) (hn : W0.heap.size ≤ m) (h0 : base ≤ W0.heap.size) (cd : Code) : OwnFrom m (WnX s N Bx B c x base W0 cd) := by
  rintro pre' W W' row ⟨pre, y, h1, h2, h3, h4⟩ hg hr
  exact ⟨pre, y, h1, h2, h3, WnI.turn hb hn h0 pre W W' row h4 hg hr⟩

set_option maxRecDepth 100000 in
set_option maxHeartbeats 4000000 in
theorem within_any (s : ByteArray) (hs : s.size ≤ 4398046511104) (hlen : (runesFrom s 0).length ≤ 1000000) (w : World) (T : Tabs w) : Calls Tryd.prog 13 #[.string s] w fun e w' =>
    e = .returned (.int .i64 (tri (runesFrom s 0).length : Int)) ∧ Keep [] w w' := by
  have hb2 := T.size
  have HT := hid (cnt_all s)
  refine (callsIn_wide (n := 20)).1 ?_
  refine callsIn_of_wp_marks Tryd.func13 rfl trivial ?_
  simp only [Tryd.ntmps13, List.size_toArray, List.length_cons, List.length_nil, Nat.reduceAdd, Nat.reduceSub, Array.replicate_succ, Array.replicate_zero, List.push_toArray, List.append_toArray, List.nil_append, List.cons_append]
  rw [wpIn_wide]
  have R1 := blk_alloc (blk_alloc (blk_new w (.cells #[.int .i64 0] 3)) (.cells #[.string s] 9)) (.cells #[.func (.func 29) #[] #[.pointer (some ⟨w.heap.size + 1, 0, none⟩)]] 45)
  have S1 := blk_alloc (blk_new (w.alloc (.cells #[.int .i64 0] 3)) (.cells #[.string s] 9)) (.cells #[.func (.func 29) #[] #[.pointer (some ⟨w.heap.size + 1, 0, none⟩)]] 45)
  have F1 := blk_new ((w.alloc (.cells #[.int .i64 0] 3)).alloc (.cells #[.string s] 9)) (.cells #[.func (.func 29) #[] #[.pointer (some ⟨w.heap.size + 1, 0, none⟩)]] 45)
  have K1 := (((Keep.refl [] w).alloc (.cells #[.int .i64 0] 3)).alloc (.cells #[.string s] 9)).alloc (.cells #[.func (.func 29) #[] #[.pointer (some ⟨w.heap.size + 1, 0, none⟩)]] 45)
  simp only [size_alloc'] at S1 F1
  have hsz := blk_lt F1
  go_wp2_with (go_at_call 23; (with_reducible refine (all_any s _).mono ?_); rintro e w2 ⟨rfl, rfl⟩)
  generalize ((w.alloc (.cells #[.int .i64 0] 3)).alloc (.cells #[.string s] 9)).alloc (.cells #[.func (.func 29) #[] #[.pointer (some ⟨w.heap.size + 1, 0, none⟩)]] 45) = W1 at *
  have hI0 : WiI s w.heap.size w [] W1 := ⟨R1, F1, S1, K1.below (Nat.le_refl _) (by simp)⟩
  have hlc := hid (fun m => cntSum_le (runesFrom s 0) m)
  rw [← wpIn_wide (n := 20)]
  refine wpIn_rangeFunc_ownH rfl (by omega) (gf := 29) (lb := #[.pointer (some ⟨w.heap.size + 1, 0, none⟩)]) rfl trivial (enters_of Tryd.func29 (by kernel_rfl) rfl)
    (runes_stops 19 (by omega) (w.heap.size + 1) w.heap.size s (by omega) W1 (T.keep K1) hb2 K1.size S1) KpS.trans (KpS.putObj (w := W1) (by omega) (by omega)) (Below.refl _ _) (fun _ => rfl)
    (WiI s w.heap.size w) (fun _ _ _ => False) (WiI.turn (by omega)) (fun _ _ _ _ _ hs _ _ => hs) hI0
    (fun x a' W => ∃ Bx, w.heap.size + 1 + 1 < Bx ∧ W.heap[Bx]? = some (.cells #[.int .i64 (x.1 : Int)] 3 (0, 0)) ∧ a' = { tmps := #[.string s, undef, .int .i64 0, .pointer (some ⟨w.heap.size, 0, none⟩), .pointer (some ⟨w.heap.size + 1 + 1, 0, none⟩), .pointer (some ⟨Bx, 0, none⟩), undef, .string s, .func (.func 29) #[] #[.pointer (some ⟨w.heap.size + 1, 0, none⟩)], .func (.func 29) #[] #[.pointer (some ⟨w.heap.size + 1, 0, none⟩)], .int .i64 (x.1 : Int), .int .i32 (runeAt s x.1 : Int), undef, undef, undef, undef, undef, undef, undef, undef, undef], defers := [] })
    (fun x a' _ X Y row hs hg hr => by obtain ⟨Bx, h1, h2, h3⟩ := hs; exact ⟨Bx, h1, turn_blk h2 hg (fun r e => (hr r e).2), h3⟩)
    ?assign ?body ?done ?stop
  case assign =>
    rintro l pre x W K ⟨nb, fb, sb, bl⟩ hK
    unfold rEnc
    gi_wp2
    have hb := blk_lt fb
    exact hK _ _ ((KeepsOthers.alloc _ _).from _) ⟨KeepsWalks.alloc _ _, (Below.refl _ W).alloc bl.size _, fun _ h => blk_alloc h _⟩ ⟨blk_alloc nb _, blk_alloc fb _, blk_alloc sb _, bl.alloc bl.size _⟩ ⟨W.heap.size, hb, blk_new W _, rfl⟩
  case body =>
    rintro l pre x a' W hl ⟨r, hr⟩ ⟨nb, fb, sb, bl⟩ ⟨Bx, hBx, hX, rfl⟩ hlt
    have cf : W.cell? ⟨w.heap.size + 1 + 1, 0, none⟩ = some (.func (.func 29) #[] #[.pointer (some ⟨w.heap.size + 1, 0, none⟩)]) := blk_cell fb 0
    gi_wp2
    have hc0 := hlc.out (pre.map prj)
    have hcl : cntSum (runesFrom s 0) (pre.map prj) ≤ 1000000000000 := by
      refine Nat.le_trans hc0 ?_
      have h1 : (pre.map prj).length ≤ 1000000 := by rw [List.length_map]; omega
      exact Nat.mul_le_mul h1 hlen
    have hszW := blk_lt hX
    refine wpIn_rangeFunc_ownN (l₀ := l) (r₀ := r) rfl hr (by omega) (gf := 29) (lb := #[.pointer (some ⟨w.heap.size + 1, 0, none⟩)]) rfl trivial (enters_of Tryd.func29 (by kernel_rfl) rfl)
      ((runes_stops 17 (by omega) (w.heap.size + 1) w.heap.size s (by omega) W (T.below bl hb2) hb2 bl.size sb).inRound l) KpS.trans (KpS.putObj (w := W) bl.size (by omega)) (Below.refl _ _) (fun _ => rfl)
      (WnI s w.heap.size Bx W1.heap.size (cntSum (runesFrom s 0) (pre.map prj)) x.1 w.heap.size W) (WnX s w.heap.size Bx W1.heap.size (cntSum (runesFrom s 0) (pre.map prj)) x.1 w.heap.size W) (WnI.turn bl.size (Nat.le_refl _) bl.size) (WnX.turn bl.size (Nat.le_refl _) bl.size)
      ⟨by simpa using nb, hX, fb, sb, fun y hy => absurd hy (by simp), Below.refl _ _, KeepsWalks.refl _, KeepsFrom.refl _ _⟩
      (fun y a'' W' => a'' = { tmps := #[.string s, undef, .int .i64 0, .pointer (some ⟨w.heap.size, 0, none⟩), .pointer (some ⟨w.heap.size + 1 + 1, 0, none⟩), .pointer (some ⟨Bx, 0, none⟩), .int .i64 (y.1 : Int), .string s, .func (.func 29) #[] #[.pointer (some ⟨w.heap.size + 1, 0, none⟩)], .func (.func 29) #[] #[.pointer (some ⟨w.heap.size + 1, 0, none⟩)], .int .i64 (x.1 : Int), .int .i32 (runeAt s x.1 : Int), .func (.func 29) #[] #[.pointer (some ⟨w.heap.size + 1, 0, none⟩)], .int .i64 (y.1 : Int), .int .i32 (runeAt s y.1 : Int), undef, undef, undef, undef, undef, undef], defers := [] })
      (fun y a'' _ X Y row hs hg hr => hs)
      ?assign2 ?body2 ?done2 ?stop2
    case assign2 =>
      rintro l2 pre' y W' K hI hK
      unfold rEnc
      gi_wp2
      exact hK _ _ (KeepsFrom.refl _ _) ⟨KeepsWalks.refl _, Below.refl _ _, fun _ h => h⟩ hI rfl
    case body2 =>
      rintro l2 pre' y a'' W' hl2 ⟨r2, hr2⟩ ⟨nb2, xb2, fb2, sb2, le2, bl2, kw2, kf2⟩ rfl hlt2
      have c1 : W'.cell? ⟨w.heap.size, 0, none⟩ = some (.int .i64 ((cntSum (runesFrom s 0) (pre.map prj) + pre'.length : Nat) : Int)) := blk_cell nb2 0
      have f1 := blk_free nb2 0
      have c2 : W'.cell? ⟨Bx, 0, none⟩ = some (.int .i64 (x.1 : Int)) := blk_cell xb2 0
      by_cases hgo : x.1 < y.1
      · have hgo2 : (x.1 : Int) < (y.1 : Int) := by omega
        gi_wp2
        exact ⟨KeepsFrom.refl _ _, pre', y, rfl, rfl, hgo, ⟨nb2, xb2, fb2, sb2, le2, bl2, kw2, kf2⟩⟩
      · have hgo2 : ¬ (x.1 : Int) < (y.1 : Int) := by omega
        have hpl : pre'.length ≤ 1000000 := by omega
        obtain ⟨C, hC⟩ : ∃ C, cntSum (runesFrom s 0) (pre.map prj) + pre'.length = C := ⟨_, rfl⟩
        have hC2 : C ≤ 2000000000000 := by omega
        rw [hC] at c1
        gi_wp2
        have KS := (Keep.refl [w.heap.size] W').set (p := ⟨w.heap.size, 0, none⟩) (.inl (by simp)) (.int .i64 ((C : Int) + 1))
        refine ⟨(KeepsOthers.setCell _ _ _).from _, ⟨KeepsWalks.setCell _ _ _, (Below.refl _ _).setCell (p := ⟨w.heap.size, 0, none⟩) (by simp) _, fun o ho => (Below.heap_setCell _ _ _ _ (by simp <;> omega)).trans ho⟩, ⟨?_, KS.blk xb2 (by simp <;> omega), KS.blk fb2 (by simp <;> omega), KS.blk sb2 (by simp <;> omega), ?_, bl2.setCell (p := ⟨w.heap.size, 0, none⟩) (by simp) _, kw2.trans (KeepsWalks.setCell _ _ _), kf2.trans ((KeepsOthers.setCell _ _ _).from _)⟩⟩
        · refine (blk_set nb2 0 _).trans ?_
          simp
          omega
        · intro z hz
          rcases List.mem_append.1 hz with hz | hz
          · exact le2 z hz
          · obtain rfl : z = y := by simpa using hz
            omega
    case done2 =>
      rintro ys W' hys ⟨nb2, xb2, fb2, sb2, le2, bl2, kw2, kf2⟩
      gi_wp2
      refine ⟨kf2, ⟨kw2, bl2, fun o ho => by rw [sb] at ho; cases ho; exact sb2⟩, ⟨?_, fb2, sb2, bl.trans bl2⟩⟩
      rw [List.map_append, List.map_cons, List.map_nil, cntSum_snoc]
      have := cnt_done (p := x.1) hys (fun z hz => by obtain ⟨z', hz', rfl⟩ := List.mem_map.1 hz; exact le2 z' hz')
      rw [List.length_map] at this
      rw [show cntLe (runesFrom s 0) (prj x).1 = ys.length from this]
      exact nb2
    case stop2 =>
      rintro c pre'' W' hp ⟨pre', y, rfl, rfl, hxy, nb2, xb2, fb2, sb2, le2, bl2, kw2, kf2⟩
      gi_wp2
      refine ⟨kf2, ⟨kw2, bl2, fun o ho => by rw [sb] at ho; cases ho; exact sb2⟩, ⟨?_, fb2, sb2, bl.trans bl2⟩⟩
      rw [List.map_append, List.map_cons, List.map_nil, cntSum_snoc]
      rw [List.map_append, List.map_cons, List.map_nil] at hp
      have := cnt_stop (p := x.1) hp (fun z hz => by obtain ⟨z', hz', rfl⟩ := List.mem_map.1 hz; exact le2 z' hz') hxy
      rw [List.length_map] at this
      rw [show cntLe (runesFrom s 0) (prj x).1 = pre'.length from this]
      exact nb2
  case done =>
    rintro D ys W hD hys ⟨nb, fb, sb, bl⟩ hK
    rw [hys, HT.out] at nb
    obtain ⟨R, hR⟩ : ∃ R, tri (runesFrom s 0).length = R := ⟨_, rfl⟩
    rw [hR] at nb
    have HR := hid hR
    have c1 : W.cell? ⟨w.heap.size, 0, none⟩ = some (.int .i64 (R : Int)) := blk_cell nb 0
    clear hR hys
    go_wp2
    refine ⟨by simp, .inl ⟨_, _, rfl, run_takeDeferred hK, ?_⟩⟩
    exact ⟨.int .i64 (R : Int), by simp [results, Tryd.results13, go_sem], by rw [HR.out], Keep.of_below (bl.trans (belowK_b (w := w) (Nat.le_refl _) W D _ _ (by have := K1.size; omega) hK rfl rfl)) []⟩
  case stop =>
    rintro D c pre W _ _ h _
    exact h.elim

end Go.Proofs.YtlkoekcoafddpaaDoor
