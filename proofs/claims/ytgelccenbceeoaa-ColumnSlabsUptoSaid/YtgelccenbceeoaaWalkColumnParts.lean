/- ColumnParts' walk. -/
import Derived.Test.YtgelccenbceeoaaColumnLaw
import Derived.Test.YtgelccenbceeoaaShown17
namespace Go.Proofs.Ytgelccenbceeoaa
open Go.RowKit
set_option linter.unusedSimpArgs false
set_option linter.unusedVariables false

/-- Paragraphs and lines as they lie in the world. -/
structure Laid (w : World) (A B : Option Addr) (c d : Nat) (ps : List ParX) (ls : List LinesX) : Prop where
  p : Rd ParX.row 7 w A ps
  l : Rd LinesX.row 1 w B ls
  x : ∀ x ∈ ls, Rd LineX.row 14 w x.a x.l
  hc : ps.length ≤ c
  hd : ls.length ≤ d
  cm : c ≤ 9223372036854775807
  dm : d ≤ 9223372036854775807
  pm : ∀ p ∈ ps, p.pn ≤ 9223372036854775807
  lm : ∀ x ∈ ls, x.l.length ≤ x.cap ∧ x.cap ≤ 9223372036854775807
  an : A = none → c = 0
  bn : B = none → d = 0
  xn : ∀ x ∈ ls, x.a = none → x.cap = 0

theorem Laid.old {w w' : World} {A B : Option Addr} {c d : Nat} {ps : List ParX} {ls : List LinesX} (h : Laid w A B c d ps ls) {S : List Nat} (k : Keep S w w') (hs : ∀ b, b ∈ S → w.heap.size ≤ b) : Laid w' A B c d ps ls :=
  { h with p := h.p.old k hs, l := h.l.old k hs, x := fun y hy => (h.x y hy).old k hs }

theorem Laid.beyond {w : World} {A B : Option Addr} {c d : Nat} {ps : List ParX} {ls : List LinesX} (h : Laid w A B c d ps ls) :
    Calls Try.prog 37 #[.slice A ps.length c, .slice B ls.length d] w fun e w' => e = .returned (.bool (beyondB ps ls)) ∧ Keep [] w w' :=
  beyond_any A B c d ps ls w h.p h.l (Nat.le_trans h.hc h.cm) (Nat.le_trans h.hd h.dm) h.pm (fun x hx => Nat.le_trans (h.lm x hx).1 (h.lm x hx).2)

/-- What Slabs leaves of something laid of old. -/
theorem Laid.fit {w0 w : World} {A B : Option Addr} {c d : Nat} {ps : List ParX} {ls : List LinesX} (h : Laid w0 A B c d ps ls) (g : Nat) (m0 : MS) (k : Keep [] w0 w) (hg0 : w0.heap.size ≤ g) (hg : IsM w g m0) (ok : m0.ok) (hlen : ps.length = ls.length) (ht : totalN ps ls ≤ 2147483647)
    (h0 : m0.rf = 0) (hs : (2147483647 : Int) ≤ m0.sb - m0.sn) (hc : (2147483647 : Int) ≤ m0.cb - m0.cn) {n m : Nat} (hn : ps.length = n) (hm : ls.length = m) :
    Calls Try.prog 38 #[.pointer (some ⟨g, 0, none⟩), .slice A n c, .slice B m d] w fun e w' => SlabsFit g m0 (slabsAll 0 0 ps ls) w e w' := by
  have key : ∀ W, Keep [g] w W → Laid W A B c d ps ls := fun W K => h.old (k.then K (T := [g]) (S := []) (by simp; omega)) (by simp)
  exact slabs_fit g m0 A B n m c d ps ls w hg ok hn hm (fun W K => (key W K).p) (fun W K => (key W K).l) (fun W K => (key W K).x) hlen ht h0 hs hc

theorem totalN_take (ps : List ParX) (ls : List LinesX) (k : Nat) (h : totalN ps ls ≤ 2147483647) : totalN (ps.take k) (ls.take k) ≤ 2147483647 := by
  have h1 := sumN_take_le ParX.pn ps k
  have h2 := sumN_take_le (fun x : LinesX => x.l.length) ls k
  unfold totalN at *
  simp only [List.length_take]
  omega
theorem totalN_drop (ps : List ParX) (ls : List LinesX) (k : Nat) (h : totalN ps ls ≤ 2147483647) : totalN (ps.drop k) (ls.drop k) ≤ 2147483647 := by
  have h1 := sumN_take_drop ParX.pn ps k
  have h2 := sumN_take_drop (fun x : LinesX => x.l.length) ls k
  unfold totalN at *
  simp only [List.length_drop]
  omega
theorem Laid.take {w : World} {A B : Option Addr} {c d : Nat} {ps : List ParX} {ls : List LinesX} (h : Laid w A B c d ps ls) (k : Nat) : Laid w A B c d (ps.take k) (ls.take k) :=
  { h with p := h.p.take k, l := h.l.take k, x := fun y hy => h.x y (List.mem_of_mem_take hy), hc := by have := h.hc; simp; omega, hd := by have := h.hd; simp; omega, pm := fun p hp => h.pm p (List.mem_of_mem_take hp), lm := fun x hx => h.lm x (List.mem_of_mem_take hx), xn := fun x hx => h.xn x (List.mem_of_mem_take hx) }

theorem isM_drew {w : World} {g : Nat} {m : MS} (h : IsM w g m) : IsM w.drew g m := h

/-- A slice's address behind its first k elements. -/
def cutAt (A : Option Addr) (c k sz : Nat) : Option Addr := if c = k then A else A.map (·.add (k * sz))
theorem Rd.cut {α : Type} {enc : α → List Value} {sz : Nat} {w : World} {A : Option Addr} {xs : List α} (h : Rd enc sz w A xs) {c k : Nat} (hc : xs.length ≤ c) : Rd enc sz w (cutAt A c k sz) (xs.drop k) := by
  unfold cutAt
  split
  · rw [List.drop_eq_nil_of_le (by omega)]
    exact Rd.nil _ _ _ _
  · exact h.drop k
theorem Laid.drop {w : World} {A B : Option Addr} {c d : Nat} {ps : List ParX} {ls : List LinesX} (h : Laid w A B c d ps ls) (k : Nat) : Laid w (cutAt A c k 7) (cutAt B d k 1) (c - k) (d - k) (ps.drop k) (ls.drop k) where
  p := h.p.cut h.hc
  l := h.l.cut h.hd
  x := fun y hy => h.x y (List.mem_of_mem_drop hy)
  hc := by have := h.hc; simp; omega
  hd := by have := h.hd; simp; omega
  cm := by have := h.cm; omega
  dm := by have := h.dm; omega
  pm := fun p hp => h.pm p (List.mem_of_mem_drop hp)
  lm := fun x hx => h.lm x (List.mem_of_mem_drop hx)
  an := fun e => by
    unfold cutAt at e
    split at e
    · have := h.an e; omega
    · have := h.an (by simpa using e); omega
  bn := fun e => by
    unfold cutAt at e
    split at e
    · have := h.bn e; omega
    · have := h.bn (by simpa using e); omega
  xn := fun x hx => h.xn x (List.mem_of_mem_drop hx)

/-- What a call of Slabs, and the box of its fault, leave behind. -/
def PartOut (g : Nat) (m0 : MS) (R : List Slab) (W : World) (v b : Value) (wc : World) : Prop :=
  ∃ (A : Option Addr) (cap bb : Nat) (m1 : MS), v = .slice A R.length cap ∧ b = .pointer (some ⟨bb, 0, none⟩) ∧ W.heap.size ≤ bb ∧ wc.heap[bb]? = some (.cells #[.int .i64 0, .int .i64 0] 59 (0, 0)) ∧ Fit g m0 R W A cap m1 wc

theorem PartOut.after {g : Nat} {m0 m1 : MS} {R : List Slab} {W w5 : World} {A : Option Addr} {cap : Nat} (f : Fit g m0 R W.drew A cap m1 w5) (hg : g < W.heap.size) :
    PartOut g m0 R W (.slice A R.length cap) (.pointer (some ⟨w5.heap.size, 0, none⟩)) (w5.alloc (.cells #[.int .i64 0, .int .i64 0] 59)) :=
  ⟨A, cap, _, m1, rfl, rfl, f.k.size, blk_new _ _, f.move (S := []) (Keep.refl [] W).drew ((Keep.refl [] _).alloc _) (by simp) hg⟩

theorem PartOut.before {g : Nat} {m0 m1 : MS} {R : List Slab} {W w5 : World} {A : Option Addr} {cap : Nat} (f : Fit g m0 R (W.alloc (.cells #[.int .i64 0, .int .i64 0] 59)).drew A cap m1 w5) (hg : g < W.heap.size) :
    PartOut g m0 R W (.slice A R.length cap) (.pointer (some ⟨W.heap.size, 0, none⟩)) ((w5.setCell ⟨W.heap.size, 0, none⟩ (.int .i64 0)).setCell ⟨W.heap.size, 1, none⟩ (.int .i64 0)) :=
  ⟨A, cap, _, m1, rfl, rfl, Nat.le_refl _, (blk_set (blk_set (f.k.blk (blk_drew (blk_new W _)) (by simp; omega)) 0 _) 1 _).trans (by simp), f.move (S := [W.heap.size]) ((Keep.refl [] W).alloc _).drew (((Keep.refl [W.heap.size] _).set (.inl (by simp)) _).set (.inl (by simp)) _) (by simp) hg⟩

set_option maxHeartbeats 3200000 in
set_option maxRecDepth 100000 in
theorem walkParts (A B : Option Addr) (c d : Nat) (ps : List ParX) (ls : List LinesX) (cut : Int) (w : World) (L : Laid w A B c d ps ls) :
    Calls Try.prog 8 #[.slice A ps.length c, .slice B ls.length d, .int .i64 cut] w fun e w' => e = .returned (.bool true) ∧ Below w.heap.size w w' := by
  have b1 : (ps.length : Int) ≤ 9223372036854775807 := by have := L.hc; have := L.cm; omega
  have b2 : (ls.length : Int) ≤ 9223372036854775807 := by have := L.hd; have := L.dm; omega
  go_enter Try.func8, Try.ntmps8
  go_wp2_with fail
  refine L.beyond.mono ?_
  rintro e w1 ⟨rfl, K1⟩
  cases hB : beyondB ps ls with
  | true =>
    go_wp2
    go_ret
    exact ⟨rfl, K1.below (Nat.le_refl _) (by simp)⟩
  | false =>
    have ht : totalN ps ls ≤ 2147483647 := by unfold beyondB at hB; simpa using hB
    go_wp2_with fail
    refine (shown17 _).mono ?_
    rintro e w2 ⟨rfl, K2⟩
    have K12 := K1.trans K2
    clear K1 K2 hB
    by_cases hlen : ps.length = ls.length
    · by_cases h0 : cut < 0
      · have hne : ((ps.length : Int) != (ls.length : Int)) = false := by simp; omega
        go_wp2
        go_ret
        exact ⟨rfl, K12.below (Nat.le_refl _) (by simp)⟩
      · by_cases h1 : (ps.length : Int) < cut
        · have hne : ((ps.length : Int) != (ls.length : Int)) = false := by simp; omega
          go_wp2
          go_ret
          exact ⟨rfl, K12.below (Nat.le_refl _) (by simp)⟩
        · obtain ⟨k, rfl⟩ : ∃ k : Nat, cut = k := ⟨cut.toNat, by omega⟩
          have hk : k ≤ ps.length := by omega
          have Hlen := hid hlen
          rw [← hlen]
          clear hlen h0 h1
          have hk2 : (k : Int) ≤ (ps.length : Int) := by omega
          have hk3 : (0 : Int) ≤ (k : Int) := by omega
          have hkc : (k : Int) ≤ (c : Int) := by have := L.hc; omega
          have hkd : (k : Int) ≤ (d : Int) := by have := L.hd; have := Hlen.out; omega
          go_wp2_with fail
          refine (new_good 1099511627776 1099511627776 _ (by omega) (by omega)).mono ?_
          rintro e w3 ⟨rfl, M3, K3, s3⟩
          have K13 := K12.trans K3
          have g0 := K12.size
          generalize w2.heap.size = g at *
          clear K12 K3
          go_wp2_with fail
          refine (L.fit g (MS.new 1099511627776 1099511627776) K13 g0 M3 (by simp [MS.ok, MS.new]) Hlen.out ht rfl (by simp [MS.new]) (by simp [MS.new]) rfl Hlen.out.symm).mono ?_
          rintro e w4 ⟨A4, c4, m4, rfl, T4⟩
          have K4 := T4.k
          have M4 := T4.m
          have ok4 := T4.ok
          have N4 := blk_new w4 (.cells #[.int .i64 0, .int .i64 0] 59)
          have M4' : IsM _ g m4 := blk_alloc M4 (.cells #[.int .i64 0, .int .i64 0] 59)
          have H4 : Hid (m4.sn = (slabsAll 0 0 ps ls).length ∧ m4.cn = (slabsAll 0 0 ps ls).length ∧ m4.sb = 1099511627776 ∧ m4.cb = 1099511627776) := hid ⟨T4.sn.trans (by simp [MS.new]), T4.cn.trans (by simp [MS.new]), T4.sb, T4.cb⟩
          have rf4' := hid T4.rf
          have q4 := slabsAll_len ps ls 0 0
          have q4' : (slabsAll 0 0 ps ls).length ≤ 2147483647 := by have h : sumN (fun x : LinesX => x.l.length) ls ≤ totalN ps ls := (by unfold totalN; omega); omega
          clear q4
          go_upto_region 11 with (fail)
          have KD : Keep [] w4 (w4.alloc (.cells #[.int .i64 0, .int .i64 0] 59)) := (Keep.refl _ _).alloc _
          generalize w4.alloc (.cells #[.int .i64 0, .int .i64 0] 59) = W4 at *
          have z4 : w4.heap.size < W4.heap.size := blk_lt N4
          have gW : g < W4.heap.size := blk_lt M4'
          have K14 : Keep [] w W4 := (K13.then K4 (by simp; omega)).trans KD
          have C5 := (L.take k).fit g m4 K14.drew g0 (isM_drew M4') ok4 (by simp; rw [Hlen.out]) (totalN_take _ _ _ ht) rf4'.out (by have := H4.out; omega) (by have := H4.out; omega) (n := k) (m := k) (by simp; omega) (by have := Hlen.out; simp; omega)
          have C5' := (L.take k).fit g m4 (K14.alloc (.cells #[.int .i64 0, .int .i64 0] 59)).drew g0 (isM_drew (blk_alloc M4' (.cells #[.int .i64 0, .int .i64 0] 59))) ok4 (by simp; rw [Hlen.out]) (totalN_take _ _ _ ht) rf4'.out (by have := H4.out; omega) (by have := H4.out; omega) (n := k) (m := k) (by simp; omega) (by have := Hlen.out; simp; omega)
          go_cut [11, 12] (fun v b wc => PartOut g m4 (slabsAll 0 0 (ps.take k) (ls.take k)) W4 v b wc)
          case first =>
            go_region_held3 (fun w' => Keep [g] W4 w') ((repeat (with_reducible first | exact Keep.refl _ _ | refine Keep.drew ?_ | refine Keep.alloc ?_ _ | refine Keep.set ?_ (.inr (by first | exact Nat.le_refl _ | assumption)) _ | refine Keep.trans (S := [g]) ?_ (by assumption)))) ((go_at_call 38; (first | (with_reducible refine C5.mono ?_) | (with_reducible refine C5'.mono ?_)); rintro e w5 ⟨A5, c5, m5, rfl, T5⟩; have K5 := T5.k; have z5 := K5.size; (try simp only [size_drew', size_alloc'] at z5); (try have N5 := K5.blk (blk_drew (blk_new W4 (.cells #[.int .i64 0, .int .i64 0] 59))) (by simp; omega)); (try have x0 := blk_cell N5 0); (try have x1 := blk_cell N5 1); (try have y0 := blk_free N5 0); (try have y1 := blk_free N5 1); (try simp only [List.getElem?_toArray, List.getElem?_cons_zero, List.getElem?_cons_succ] at x0 x1)))
            all_goals go_wp2
            all_goals go_meet
            · exact PartOut.after T5 gW
            · exact PartOut.before T5 gW
          case rest =>
            clear C5 C5'
            obtain ⟨A5, c5, b5, m5, rfl, rfl, hb5, N5, T5⟩ := hcut
            rename World => W5
            have g4 : g < w4.heap.size := blk_lt M4
            have N4' := T5.k.blk N4 (by simp; omega)
            have K15 : Keep [] w W5 := K14.then T5.k (by simp; omega)
            have R4 : Rd Slab.row 9 W5 A4 (slabsAll 0 0 ps ls) := (T4.r.old KD (by simp)).keep T5.k (fun ad h hm => by have := (T4.hb ad h).1; simp at hm; omega)
            have F4 : Hid (∀ ad, A4 = some ad → ad = ⟨ad.block, 0, none⟩ ∧ g < ad.block) := hid fun ad h => ⟨T4.ha ad h, by have := (T4.hb ad h).1; omega⟩
            have H5 : Hid (m5.sn ≤ 4294967294 ∧ m5.cn ≤ 4294967294 ∧ m5.sb = 1099511627776 ∧ m5.cb = 1099511627776) := by
              have q5 := slabsAll_len (ps.take k) (ls.take k) 0 0
              have q6 := sumN_take_le (fun x : LinesX => x.l.length) ls k
              have q7 : sumN (fun x : LinesX => x.l.length) ls ≤ totalN ps ls := by unfold totalN; omega
              have := T5.sn; have := T5.cn; have := T5.sb; have := T5.cb; have := H4.out
              exact hid ⟨by omega, by omega, by omega, by omega⟩
            have hc4 := T4.hc
            have M5 := T5.m
            have gc : g < W5.heap.size := blk_lt M5
            have n5 := blk_lt N5
            clear N4 M4' KD K14 K13 T4 M4 M3 K4 ok4
            go_upto_region 12 with (fail)
            have C6 := (L.drop k).fit g m5 K15.drew g0 (isM_drew M5) T5.ok (by simp; rw [Hlen.out]) (totalN_drop _ _ _ ht) T5.rf (by have := H5.out; omega) (by have := H5.out; omega) (n := ps.length - k) (m := ps.length - k) (by simp) (by have := Hlen.out; simp; omega)
            have C6' := (L.drop k).fit g m5 (K15.alloc (.cells #[.int .i64 0, .int .i64 0] 59)).drew g0 (isM_drew (blk_alloc M5 (.cells #[.int .i64 0, .int .i64 0] 59))) T5.ok (by simp; rw [Hlen.out]) (totalN_drop _ _ _ ht) T5.rf (by have := H5.out; omega) (by have := H5.out; omega) (n := ps.length - k) (m := ps.length - k) (by simp) (by have := Hlen.out; simp; omega)
            unfold cutAt at C6 C6'
            simp only [Nat.mul_one] at C6 C6'
            go_cut [13, 14] (fun v b wd => PartOut g m5 (slabsAll 0 0 (ps.drop k) (ls.drop k)) W5 v b wd)
            case first =>
              by_cases e1 : c = k <;> by_cases e2 : d = k
              all_goals
                (try subst e1)
                (try subst e2)
                (try simp only [if_true, if_false, Nat.sub_self] at C6 C6')
                (try simp only [e1, if_true, if_false, Nat.sub_self] at C6 C6')
                (try simp only [e2, if_true, if_false, Nat.sub_self] at C6 C6')
                go_region_held3 (fun w' => Keep [g] W5 w') ((repeat (with_reducible first | exact Keep.refl _ _ | refine Keep.drew ?_ | refine Keep.alloc ?_ _ | refine Keep.set ?_ (.inr (by first | exact Nat.le_refl _ | assumption)) _ | refine Keep.trans (S := [g]) ?_ (by assumption)))) ((go_at_call 38; (first | (with_reducible refine C6.mono ?_) | (with_reducible refine C6'.mono ?_)); rintro e w5 ⟨A6, c6, m6, rfl, T6⟩; have K6 := T6.k; have z6 := K6.size; (try simp only [size_drew', size_alloc'] at z6); (try have N6 := K6.blk (blk_drew (blk_new W5 (.cells #[.int .i64 0, .int .i64 0] 59))) (by simp; omega)); (try have x0 := blk_cell N6 0); (try have x1 := blk_cell N6 1); (try have y0 := blk_free N6 0); (try have y1 := blk_free N6 1); (try simp only [List.getElem?_toArray, List.getElem?_cons_zero, List.getElem?_cons_succ] at x0 x1)))
              all_goals go_wp2
              all_goals go_meet
              all_goals first
                | exact PartOut.after T6 gc
                | exact PartOut.before T6 gc
            case rest =>
              clear C6 C6'
              obtain ⟨A6, c6, b6, m6, rfl, rfl, hb6, N6, T6⟩ := hcut
              obtain ⟨t, hall, htl, hrel⟩ := parts_at k ps ls Hlen.out hk
              have n4 := blk_lt N4'
              have N4 := T6.k.blk N4' (by simp; omega)
              have N5' := T6.k.blk N5 (by simp; omega)
              have K16 : Keep [] w wc := K15.then T6.k (by simp; omega)
              have R5 := T5.r.keep T6.k (fun ad h hm => by have := (T5.hb ad h).1; simp at hm; omega)
              have R4' := R4.keep T6.k (fun ad h hm => by have := (F4.out ad h).2; simp at hm; omega)
              have F5 : Hid (∀ ad, A5 = some ad → ad = ⟨ad.block, 0, none⟩) := hid fun ad h => T5.ha ad h
              have F6 : Hid (∀ ad, A6 = some ad → ad = ⟨ad.block, 0, none⟩) := hid fun ad h => T6.ha ad h
              have R6 := T6.r
              have hc5 := T5.hc
              have hc6 := T6.hc
              have hpr : Hid (∀ (j : Nat) (y : Slab), (slabsAll 0 0 (ps.drop k) (ls.drop k))[j]? = some y → 0 ≤ y.pr ∧ y.pr ≤ 2147483647) := hid (slabsAll_pr_at (by have h : (ps.drop k).length ≤ totalN ps ls := (by unfold totalN; simp; omega); omega))
              clear R4 N4' N5 T5 T6 K15 H4 H5 rf4' M5 gc n5 n4 gW z4 hb5 hb6 L
              rw [hall] at R4' hc4 q4' ⊢
              generalize slabsAll 0 0 (ps.take k) (ls.take k) = a at *
              generalize slabsAll 0 0 (ps.drop k) (ls.drop k) = b at *
              rw [List.length_append, htl] at hc4 q4' ⊢
              have Hall := hid hall
              have Htl := hid htl
              have Hrel := hid hrel
              clear hall htl hrel
              have x0 := blk_cell N4 0
              have x1 := blk_cell N4 1
              have x2 := blk_cell N5' 0
              have x3 := blk_cell N5' 1
              have x4 := blk_cell N6 0
              have x5 := blk_cell N6 1
              simp only [List.getElem?_toArray, List.getElem?_cons_zero, List.getElem?_cons_succ] at x0 x1 x2 x3 x4 x5
              have hac : (a.length : Int) ≤ (c4 : Int) := by omega
              have hab : (a.length : Int) + (b.length : Int) ≤ 2147483647 := by omega
              have hanat : (0 : Int) ≤ (a.length : Int) := by omega
              go_wp2_with fail
              refine (sameSlabs_same A4 A5 a.length a.length c4 c5 a wc rfl rfl (by have h := R4'.take a.length; simpa using h) R5 (by omega)).mono ?_
              rintro e w7 ⟨rfl, K7⟩
              have K17 := K16.trans K7
              clear x0 x1 x2 x3 x4 x5 N4 N5' N6
              go_wp2_with fail
              go_loopw [15] (fun vi wr => ∃ i : Nat, i ≤ b.length ∧ vi = .int .i64 i ∧ Keep [] w7 wr) (fun vi _ => b.length - (intOf vi).toNat)
              case atStart => exact ⟨0, Nat.zero_le _, rfl, Keep.refl _ _⟩
              case round =>
                obtain ⟨i, hi, rfl, K⟩ := hrel
                by_cases hlt : i < b.length
                · obtain ⟨y, hy⟩ : ∃ y, b[i]? = some y := ⟨b[i], List.getElem?_eq_getElem hlt⟩
                  obtain ⟨x, hx⟩ : ∃ x, t[i]? = some x := ⟨t[i]'(by rw [Htl.out]; exact hlt), List.getElem?_eq_getElem (by rw [Htl.out]; exact hlt)⟩
                  obtain ⟨hxy, hz, hnz⟩ := Hrel.out i x y hx hy
                  obtain ⟨hp0, hp1⟩ := hpr.out i y hy
                  obtain ⟨ad4, hA4, hcs⟩ := (R4'.old K7 (by simp)).old K (by simp) (a.length + i) x (by rw [List.getElem?_append_right (by omega), Nat.add_sub_cancel_left]; exact hx)
                  obtain ⟨g4, rfl⟩ : ∃ n, ad4 = ⟨n, 0, none⟩ := ⟨_, (F4.out ad4 hA4).1⟩
                  obtain ⟨ad6, hA6, hds⟩ := (R6.old K7 (by simp)).old K (by simp) i y hy
                  obtain ⟨g6, rfl⟩ : ∃ n, ad6 = ⟨n, 0, none⟩ := ⟨_, F6.out ad6 hA6⟩
                  subst hA4 hA6
                  obtain ⟨lx, hlx⟩ : ∃ lx, lx = x.ld := ⟨_, rfl⟩
                  rw [← hlx] at hxy hz hnz
                  subst hxy
                  clear hlx hx
                  have d0 := hcs 0 _ rfl
                  have d1 := hcs 1 _ rfl
                  have d2 := hcs 2 _ rfl
                  have d3 := hcs 3 _ rfl
                  have d4 := hcs 4 _ rfl
                  have d5 := hcs 5 _ rfl
                  have d6 := hcs 6 _ rfl
                  have d7 := hcs 7 _ rfl
                  have d8 := hcs 8 _ rfl
                  have e0 := hds 0 _ rfl
                  have e1 := hds 1 _ rfl
                  have e2 := hds 2 _ rfl
                  have e3 := hds 3 _ rfl
                  have e4 := hds 4 _ rfl
                  have e5 := hds 5 _ rfl
                  have e6 := hds 6 _ rfl
                  have e7 := hds 7 _ rfl
                  have e8 := hds 8 _ rfl
                  rw [add_zero_at] at d0 d1 d2 d3 d4 d5 d6 d7 d8 e0 e1 e2 e3 e4 e5 e6 e7 e8
                  rw [Nat.add_zero] at d0 e0
                  clear hcs hds hy
                  have n4 := World.block_lt_of_cell? _ _ d0
                  have n6 := World.block_lt_of_cell? _ _ e0
                  simp only at n4 n6
                  go_upto_region 21 with (fail)
                  clear d0 d1 d2 d3 d4 d5 d6 d7 d8 e0 e1 e2 e3 e4 e5 e6 e7 e8
                  by_cases hi0 : i = 0
                  · subst hi0
                    have hle := hz rfl
                    clear hz hnz
                    go_wp2
                    go_roundw
                    case rel => exact ⟨0 + 1, hlt, by go_num, by repeat (with_reducible first | exact K | refine Keep.alloc ?_ _ | refine Keep.set ?_ (.inr (by first | (simp; done) | omega)) _)⟩
                    case measure => simp [intOf]; omega
                  · have hle := hnz hi0
                    subst hle
                    clear hz hnz
                    have hi0' : (i : Int) ≠ 0 := by omega
                    go_wp2
                    go_roundw
                    case rel => exact ⟨i + 1, hlt, by go_num, by repeat (with_reducible first | exact K | refine Keep.alloc ?_ _ | refine Keep.set ?_ (.inr (by first | (simp; done) | omega)) _)⟩
                    case measure => simp [intOf]; omega
                · obtain rfl : i = b.length := by omega
                  go_wp2
                  go_ret
                  exact ⟨rfl, (K17.trans K).below (Nat.le_refl _) (by simp)⟩
    · have hne : ((ps.length : Int) != (ls.length : Int)) = true := by simp; omega
      go_wp2
      go_ret
      exact ⟨rfl, K12.below (Nat.le_refl _) (by simp)⟩

end Go.Proofs.Ytgelccenbceeoaa
