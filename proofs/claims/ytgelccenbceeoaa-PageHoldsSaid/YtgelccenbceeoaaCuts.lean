/- page.Cuts, by a contract. -/
import Derived.Test.YtgelccenbceeoaaPageFits
import Derived.Test.YtgelccenbceeoaaSlabs
namespace Go.Proofs.Ytgelccenbceeoaa
open Go.RowKit
set_option linter.unusedSimpArgs false
set_option linter.unusedVariables false

/-- Where the loops stand: what is out, the meter, the result's cells. -/
structure CutRel (g gb : Nat) (w wr : World) (v : Value) (out : List CutX) (m : MS) : Prop where
  own : wr.ownsRow w.heap.size 75 4 v out.length (out.flatMap CutX.row)
  isM : IsM wr g m
  ok : m.ok
  keep : Keep [g] w wr
  blk : wr.heap[gb]? = some (.cells #[.int .i64 0, .int .i64 0] 59 (0, 0))

theorem CutRel.move {g gb : Nat} {w W W' : World} {v : Value} {out : List CutX} {m : MS} (R : CutRel g gb w W v out m) (k : Keep [] W W') : CutRel g gb w W' v out m :=
  ⟨own_keep R.own k (by simp), R.isM.keep k (by simp), R.ok, R.keep.trans (k.mono (by simp)), k.blk R.blk (by simp)⟩
theorem CutRel.step {g gb : Nat} {w W W' : World} {v : Value} {out : List CutX} {m m' : MS} (R : CutRel g gb w W v out m) (k : Keep [g] W W') (hM : IsM W' g m') (ok : m'.ok) (hne : gb ≠ g) : CutRel g gb w W' v out m' :=
  ⟨own_keep R.own k (by simpa using own_ne R.own R.isM (by decide)), hM, ok, R.keep.trans k, k.blk R.blk (by simp; omega)⟩
theorem CutRel.grown {g gb : Nat} {w W W' : World} {v v1 : Value} {out : List CutX} {m : MS} {s : CutX} {o : Obj} (R : CutRel g gb w W v out m) (hgr : (W.alloc o).grownBy W' v.ownBlock)
    (hown : W'.ownsRow w.heap.size 75 4 v1 (out.length + 1) (out.flatMap CutX.row ++ s.row)) : CutRel g gb w W' v1 (out ++ [s]) m :=
  ⟨by simpa using hown, blk_grown (blk_alloc R.isM _) hgr (own_ne R.own R.isM (by decide)), R.ok, Keep.grown (R.keep.alloc _) hgr (fun k hk => .inr (own_base R.own k hk).1), blk_grown (blk_alloc R.blk _) hgr (own_ne R.own R.blk (by decide))⟩

theorem cuts_bad (g : Nat) (A : Option Addr) (n c : Nat) (h : Int) (w : World) (hh : h < 1 ∨ 536870912 < h) :
    Calls Try.prog 44 #[.pointer (some ⟨g, 0, none⟩), .slice A n c, .int .i64 h] w fun e w' => e = .returned (.tuple #[.slice none 0 0, .agg #[.int .i64 180, .int .i64 0]]) ∧ Keep [] w w' := by
  by_cases h1 : h < 1
  · go_enter Try.func44, Try.ntmps44
    go_wp2
    exact bodyPost_ret (v := .tuple #[.slice none 0 0, .agg #[.int .i64 180, .int .i64 0]]) (by simp [results, Try.results44, go_sem]) rfl ⟨rfl, (Keep.refl _ _).alloc _⟩
  · have h2 : 536870912 < h := by omega
    go_enter Try.func44, Try.ntmps44
    go_wp2
    exact bodyPost_ret (v := .tuple #[.slice none 0 0, .agg #[.int .i64 180, .int .i64 0]]) (by simp [results, Try.results44, go_sem]) rfl ⟨rfl, (Keep.refl _ _).alloc _⟩

/-- What Cuts leaves. -/
def CutsPost (g : Nat) (R : Bool × List CutX × MS) (w : World) (e : Ending) (w' : World) : Prop :=
  ∃ v : Value, e = .returned (.tuple #[v, .agg #[.int .i64 (if R.1 = true then 0 else R.2.2.rf), .int .i64 0]]) ∧
    w'.ownsRow w.heap.size 75 4 v (if R.1 = true then R.2.1 else []).length ((if R.1 = true then R.2.1 else []).flatMap CutX.row) ∧ IsM w' g R.2.2 ∧ Keep [g] w w'

/-- The way out where a charge is refused. -/
theorem CutsPost.refused {g : Nat} {R : Bool × List CutX × MS} {w W : World} {m : MS} {v : Value} {out : List CutX} {u1 u2 : Value} (C : CutRel g w.heap.size w W v out m) (h : R.1 = false ∧ R.2.2 = m) (hg : g < w.heap.size) :
    CutsPost g R w (.returned (.tuple #[.slice none 0 0, .agg #[.int .i64 m.rf, .int .i64 0]])) ((W.setCell ⟨w.heap.size, 0, none⟩ u1).setCell ⟨w.heap.size, 1, none⟩ u2) := by
  refine ⟨.slice none 0 0, ?_, ?_, ?_, (C.keep.set (.inr (Nat.le_refl _)) _).set (.inr (Nat.le_refl _)) _⟩
  · rw [h.1, h.2]; simp
  · rw [h.1]; simp [World.ownsRow_nil]
  · rw [h.2]; exact blk_far (blk_far C.isM (by simp; omega) _) (by simp; omega) _

set_option maxHeartbeats 6400000 in
set_option maxRecDepth 100000 in
theorem cuts_any (g : Nat) (m0 : MS) (A : Option Addr) (c : Nat) (l : List Slab) (h : Int) (w : World) (hg : IsM w g m0) (ok : m0.ok) (hr : ∀ W, Keep [g] w W → Rd Slab.row 9 W A l) (hl : l.length ≤ 1099511627776) (hc : l.length ≤ c) (hof : OfIn l) (h1 : 1 ≤ h) (h2 : h ≤ 536870912) (N : Nat) (hN : l.length = N) :
    Calls Try.prog 44 #[.pointer (some ⟨g, 0, none⟩), .slice A N c, .int .i64 h] w fun e w' => CutsPost g (cutsAll l h m0) w e w' := by
  subst hN
  have hlt := blk_lt hg
  have hCO : CutsOn (cutsAll l h m0) (cutsGo l h (l.length - 0) m0 0) [] := ⟨rfl, rfl, fun _ => rfl⟩
  generalize cutsAll l h m0 = R at *
  have HCO := hid hCO
  clear hCO
  go_enter Try.func44, Try.ntmps44
  go_wp2_with fail
  have R0 : CutRel g w.heap.size w (w.alloc (.cells #[.int .i64 0, .int .i64 0] 59)) (.slice none 0 0) [] m0 := ⟨World.ownsRow_nil _ _ _ _, blk_alloc hg _, ok, (Keep.refl _ _).alloc _, blk_new _ _⟩
  go_loopw [9, 8] (fun va vo wr => ∃ (a : Nat) (out : List CutX) (m : MS), a ≤ l.length ∧ va = .int .i64 a ∧ out.length ≤ a ∧ Hid (CutsOn R (cutsGo l h (l.length - a) m a) out) ∧ CutRel g w.heap.size w wr vo out m) (fun va _ _ => l.length - (intOf va).toNat)
  case atStart => exact ⟨0, [], m0, Nat.zero_le _, rfl, Nat.le_refl _, HCO, R0⟩
  case round =>
    obtain ⟨a, out, m, ha1, rfl, hoa, HC, C⟩ := hrel
    clear R0 HCO
    by_cases ha : a < l.length
    · obtain ⟨n, hX1, hX2, han, hnl⟩ := cutOf_range (h := h) ha
      obtain ⟨fo, ov, hX⟩ : ∃ fo ov, cutOf l h a = ⟨a, n, fo, ov⟩ := ⟨(cutOf l h a).forced, (cutOf l h a).over, by rw [← hX1, ← hX2]⟩
      have hsp : (cutOf l h a).span = n - a := by unfold CutX.span; rw [hX1, hX2]; omega
      have HX := hid hX
      have HX2 := hid hX2
      have Hsp := hid hsp
      clear hX hX1 hX2 hsp
      go_wp2_with fail
      refine (cut_any A c l a h _ (hr _ C.keep) (by omega) hc ha hof _ rfl).mono ?_
      rintro e w1 ⟨rfl, K1⟩
      rw [HX.out]
      simp only [CutX.row]
      have C1 := (C.move K1).move ((Keep.refl [] w1).alloc (.cells #[.int .i64 a, .int .i64 n, .bool fo, .bool ov] 75))
      have B1 := blk_new w1 (.cells #[.int .i64 a, .int .i64 n, .bool fo, .bool ov] 75)
      have hbw : w.heap.size < w1.heap.size := by have := blk_lt C.blk; have := K1.size; omega
      have hbo : some w1.heap.size ≠ u8.ownBlock := fun he => by have h1 := (own_base C.own _ he.symm).2.1; have h2 := K1.size; omega
      have hn9 : (n : Int) ≤ 1099511627776 := by omega
      have han' : (a : Int) < (n : Int) := by omega
      clear C K1
      go_wp2_with fail
      generalize w1.alloc (.cells #[.int .i64 a, .int .i64 n, .bool fo, .bool ov] 75) = W1 at *
      generalize w1.heap.size = bc at *
      go_loopw [31] (fun vj wi => ∃ (j : Nat) (m' : MS), j ≤ n - a ∧ vj = .int .i64 j ∧ Hid (stepN m (n - a) = stepN m' (n - a - j)) ∧ CutRel g w.heap.size w wi u8 out m' ∧ wi.heap[bc]? = some (.cells #[.int .i64 a, .int .i64 n, .bool fo, .bool ov] 75 (0, 0))) (fun vj _ => n - a - (intOf vj).toNat)
      case atStart => exact ⟨0, m, Nat.zero_le _, rfl, hid (by rw [Nat.sub_zero]), C1, B1⟩
      case round =>
        clear C1 B1
        obtain ⟨j, m', hj1, rfl, HS, C, B⟩ := hrel
        by_cases hj : j < n - a
        · obtain ⟨q, hq⟩ : ∃ q, n - a - j = q + 1 := ⟨n - a - j - 1, by omega⟩
          have hS := HS.out
          rw [hq, stepN_succ] at hS
          obtain ⟨b1, m1, e1⟩ : ∃ b m1, m'.step 1 = (b, m1) := ⟨_, _, rfl⟩
          have ok1 := MS.ok_step C.ok 1
          rw [e1] at ok1 hS
          simp only at ok1 hS
          have H1 := hid e1
          have Hq := hid hq
          clear e1 hq HS
          have hj' : (j : Int) < (n : Int) - (a : Int) := by omega
          go_wp2_with fail
          refine (step_any g m' 1 _ C.isM C.ok).mono ?_
          rintro e w4 ⟨rfl, hM4, K4⟩
          rw [H1.out] at hM4 ⊢
          simp only at hM4 ⊢
          have C4 := C.step K4 hM4 ok1 (by omega)
          cases b1 with
          | false =>
            have HF := hid (show stepN m (n - a) = (false, m1) by rw [hS]; rfl)
            clear hS
            go_wp2_with fail
            refine (refused_any g m1 _ hM4).mono ?_
            rintro e w' ⟨rfl, rfl⟩
            have x0 := blk_cell C4.blk 0
            have x1 := blk_cell C4.blk 1
            have y0 := blk_free C4.blk 0
            have y1 := blk_free C4.blk 1
            simp only [List.getElem?_toArray, List.getElem?_cons_zero, List.getElem?_cons_succ] at x0 x1
            go_wp2
            exact bodyPost_ret (v := .tuple #[.slice none 0 0, .agg #[.int .i64 m1.rf, .int .i64 0]]) (by simp [results, Try.results44, go_sem, x0, x1, y0, y1]) rfl (CutsPost.refused C4 (by have h := cutsOn_steps HC.out ha (by rw [Hsp.out, HF.out]; simp); rw [Hsp.out, HF.out] at h; exact h) hlt)
          | true =>
            have HS2 := hid (show stepN m (n - a) = stepN m1 q by rw [hS, if_pos rfl])
            have B4 := K4.blk B (by simp; omega)
            clear hS
            go_wp2
            go_roundw
            case rel => exact ⟨j + 1, m1, hj, by go_num, hid (by rw [HS2.out]; congr 1; have := Hq.out; omega), C4, B4⟩
            case measure => simp [intOf]; omega
        · obtain rfl : j = n - a := by omega
          have HT := hid (show stepN m (n - a) = (true, m') by rw [HS.out, Nat.sub_self]; rfl)
          have hjn : ((n - a : Nat) : Int) = (n : Int) - (a : Int) := by omega
          rw [hjn]
          obtain ⟨b2, m2, e2⟩ : ∃ b m2, m'.hold 1 = (b, m2) := ⟨_, _, rfl⟩
          have ok2 := MS.ok_hold C.ok 1
          rw [e2] at ok2
          have H2 := hid e2
          clear e2 HS hjn hj hj1
          go_wp2_with fail
          refine (hold_any g m' 1 _ C.isM C.ok).mono ?_
          rintro e w4 ⟨rfl, hM4, K4⟩
          rw [H2.out] at hM4 ⊢
          simp only at hM4 ok2 ⊢
          have C4 := C.step K4 hM4 ok2 (by omega)
          cases b2 with
          | false =>
            go_wp2_with fail
            refine (refused_any g m2 _ hM4).mono ?_
            rintro e w' ⟨rfl, rfl⟩
            have x0 := blk_cell C4.blk 0
            have x1 := blk_cell C4.blk 1
            have y0 := blk_free C4.blk 0
            have y1 := blk_free C4.blk 1
            simp only [List.getElem?_toArray, List.getElem?_cons_zero, List.getElem?_cons_succ] at x0 x1
            go_wp2
            exact bodyPost_ret (v := .tuple #[.slice none 0 0, .agg #[.int .i64 m2.rf, .int .i64 0]]) (by simp [results, Try.results44, go_sem, x0, x1, y0, y1]) rfl (CutsPost.refused C4 (by have h := cutsOn_hold HC.out ha (by rw [Hsp.out, HT.out]) (by rw [Hsp.out, HT.out]; simp only; rw [H2.out]; simp); rw [Hsp.out, HT.out] at h; simp only at h; rw [H2.out] at h; exact h) hlt)
          | true =>
            have B4 := K4.blk B (by simp; omega)
            have HC2 := hid (cutsOn_step HC.out ha HX2.out han (by rw [Hsp.out, HT.out]) (by rw [Hsp.out, HT.out]; simp only; rw [H2.out]))
            rw [Hsp.out, HT.out, HX.out] at HC2
            simp only at HC2
            rw [H2.out] at HC2
            have x0 := blk_cell B4 0
            have x1 := blk_cell B4 1
            have x2 := blk_cell B4 2
            have x3 := blk_cell B4 3
            simp only [List.getElem?_toArray, List.getElem?_cons_zero, List.getElem?_cons_succ] at x0 x1 x2 x3
            go_wp2_with (at_builtin; (refine append_cells rfl _ _ 71 (.agg #[.int .i64 0, .int .i64 0, .bool false, .bool false]) 4 24 rfl (by kernel_rfl) (by kernel_rfl) (by kernel_rfl) (by decide) (by decide) w.heap.size u8 out.length _ rfl rfl (by simp) rfl (by simp [Value.oneCell']) C4.own (Nat.le_of_lt (blk_lt C4.blk)) (by omega) ?_; rintro v1 w9 hown hgr; have B9 := blk_grown (blk_alloc B4 (.cells #[.int .i64 a, .int .i64 n, .bool fo, .bool ov] 75)) hgr hbo; have z1 := blk_cell B9 1; simp only [List.getElem?_toArray, List.getElem?_cons_zero, List.getElem?_cons_succ] at z1))
            have C9 := C4.grown (s := ⟨a, n, fo, ov⟩) hgr hown
            go_wp2
            go_roundw
            case rel => exact ⟨n, _, m2, hnl, rfl, by simp; omega, HC2, C9⟩
            case measure => simp [intOf]; omega
    · obtain rfl : a = l.length := by omega
      have HD := hid (cutsOn_done HC.out ha)
      have x0 := blk_cell C.blk 0
      have x1 := blk_cell C.blk 1
      have y0 := blk_free C.blk 0
      have y1 := blk_free C.blk 1
      have hgb : some w.heap.size ≠ u8.ownBlock := own_ne C.own C.blk (by decide)
      simp only [List.getElem?_toArray, List.getElem?_cons_zero, List.getElem?_cons_succ] at x0 x1
      go_wp2
      refine bodyPost_ret (v := .tuple #[u8, .agg #[.int .i64 0, .int .i64 0]]) (by simp [results, Try.results44, go_sem, x0, x1, y0, y1]) rfl (show CutsPost g R w _ _ from ⟨u8, ?_, ?_, ?_, ?_⟩)
      · rw [HD.out.1]; simp
      · rw [HD.out.1, HD.out.2.2]; exact own_keep C.own (((Keep.refl [w.heap.size] _).set (.inl (by simp)) _).set (.inl (by simp)) _) (by simpa using hgb)
      · rw [HD.out.2.1]; exact blk_far (blk_far C.isM (by simp; omega) _) (by simp; omega) _
      · exact (C.keep.set (.inr (by simp)) _).set (.inr (by simp)) _

end Go.Proofs.Ytgelccenbceeoaa
