/- page.fits, cut, by contracts. -/
import Derived.Test.YtgelccenbceeoaaPage
import Derived.ScopeJumps
import Derived.WalkMore
namespace Go.Proofs.Ytgelccenbceeoaa
open Go.RowKit
set_option linter.unusedSimpArgs false
set_option linter.unusedVariables false

theorem tall_len (A : Option Addr) (c n : Nat) (l : List Slab) (w : World) (hn : l.length = n) (hr : Rd Slab.row 9 w A l) (hl : n ≤ 1152921504606846976) (hc : n ≤ c) :
    Calls Try.prog 34 #[.slice A n c] w fun e w' => e = .returned (.int .i64 (tall l)) ∧ Keep [] w w' := by
  subst hn
  exact tall_any A c l w hr hl hc

set_option maxHeartbeats 1600000 in
theorem fits_any (A : Option Addr) (c : Nat) (l : List Slab) (a : Nat) (h : Int) (w : World) (hr : Rd Slab.row 9 w A l) (hl : l.length ≤ 1152921504606846976) (hc : l.length ≤ c) (ha : a ≤ l.length) (N : Nat) (hN : l.length = N) :
    Calls Try.prog 65 #[.slice A N c, .int .i64 a, .int .i64 h] w fun e w' => e = .returned (.int .i64 (fitsN l h a)) ∧ Keep [] w w' := by
  subst hN
  go_enter Try.func65, Try.ntmps65
  go_wp2_with fail
  go_loopw [7] (fun vk wr => ∃ k : Nat, a ≤ k ∧ k ≤ l.length ∧ vk = .int .i64 k ∧ Hid (fitsN l h a = fitsGo l h a (l.length - k) k) ∧ Keep [] w wr) (fun vk _ => l.length - (intOf vk).toNat)
  case atStart => exact ⟨a, Nat.le_refl _, ha, rfl, hid rfl, Keep.refl _ _⟩
  case round =>
    obtain ⟨k, hk1, hk2, rfl, HF, K⟩ := hrel
    by_cases hlt : k < l.length
    · obtain ⟨s, hs⟩ : ∃ s, l[k]? = some s := ⟨l[k], List.getElem?_eq_getElem hlt⟩
      obtain ⟨ad, hA, _⟩ := hr k s hs
      subst hA
      have hR : Rd Slab.row 9 wr (some (ad.add (a * 9))) ((l.drop a).take (k + 1 - a)) := ((hr.old K (by simp)).drop a).take _
      have hlen : ((l.drop a).take (k + 1 - a)).length = k + 1 - a := by simp; omega
      obtain ⟨X, hX⟩ : ∃ X, X = (l.drop a).take (k + 1 - a) := ⟨_, rfl⟩
      rw [← hX] at hR hlen
      have HX := hid hX
      have Hlen := hid hlen
      clear hX hlen hs
      have hca : ¬ c = a := by omega
      have h1 : (k : Int) < (l.length : Int) := by omega
      have h2 : (a : Int) ≤ (k : Int) + 1 := by omega
      have h3 : (k : Int) + 1 ≤ (c : Int) := by omega
      have h4 : ((k : Int) + 1).toNat = k + 1 := by omega
      have h5 : (0 : Int) ≤ (k : Int) + 1 := by omega
      have h6 : (k : Int) ≤ 1152921504606846976 := by omega
      go_wp2_with fail
      refine (tall_len (some (ad.add (a * 9))) (c - a) (k + 1 - a) X _ Hlen.out hR (by omega) (by omega)).mono ?_
      rintro e w2 ⟨rfl, K2⟩
      clear h2 h3 h4 h5
      by_cases hT : tall X ≤ h
      · go_wp2
        go_roundw
        case rel => exact ⟨k + 1, by omega, hlt, by go_num, hid (HF.out.trans (fitsGo_go hlt (by rw [← HX.out]; exact hT))), K.trans K2⟩
        case measure => simp [intOf]; omega
      · have hT' : h < tall X := by omega
        go_wp2
        go_ret
        refine ⟨?_, K.trans K2⟩
        rw [HF.out, fitsGo_stop (by rw [← HX.out]; omega)]
        rfl
    · obtain rfl : k = l.length := by omega
      go_wp2
      go_ret
      refine ⟨?_, K⟩
      rw [HF.out, Nat.sub_self]
      rfl

def CutAt (A : Option Addr) (c : Nat) (l : List Slab) (a : Nat) (h : Int) (k : Nat) (w : World) (a' : Act) (w' : World) : Prop :=
  ∃ (m : Nat) (kk : Int) (u9 u10 u11 u12 u13 u14 u15 u16 u17 u18 u19 u20 u21 u22 u23 u24 u25 u26 u27 u28 u29 u30 u31 u32 u33 u34 u35 u36 u37 u38 u39 u40 : Value), a' = { tmps := #[.slice A l.length c, .int .i64 a, .int .i64 h, undef, undef, undef, .pointer (some ⟨w.heap.size, 0, none⟩), .int .i64 kk, .int .i64 m, u9, u10, u11, u12, u13, u14, u15, u16, u17, u18, u19, u20, u21, u22, u23, u24, u25, u26, u27, u28, u29, u30, u31, u32, u33, u34, u35, u36, u37, u38, u39, u40], defers := [] } ∧ kk = (k : Int) ∧ a ≤ m ∧ m ≤ k ∧ back l a (k - a) = back l a (m - a) ∧ Keep [] w w' ∧ w'.heap[w.heap.size]? = some (.cells #[.int .i64 0, .int .i64 0, .bool false, .bool false] 75 (0, 0))

set_option maxHeartbeats 3200000 in
set_option maxRecDepth 100000 in
theorem cut_any (A : Option Addr) (c : Nat) (l : List Slab) (a : Nat) (h : Int) (w : World) (hr : Rd Slab.row 9 w A l) (hl : l.length ≤ 1152921504606846976) (hc : l.length ≤ c) (ha : a < l.length) (hof : OfIn l) (N : Nat) (hN : l.length = N) :
    Calls Try.prog 62 #[.slice A N c, .int .i64 a, .int .i64 h] w fun e w' => e = .returned (.agg (cutOf l h a).row.toArray) ∧ Keep [] w w' := by
  subst hN
  have hk := fitsN_range (l := l) (h := h) (a := a) (by omega)
  by_cases hka : fitsN l h a = a
  · have HC : Hid (cutOf l h a = ⟨a, a + 1, !goodN l a, true⟩) := hid (by unfold cutOf; rw [if_pos hka])
    go_enter Try.func62, Try.ntmps62
    go_wp2_with fail
    refine wp_scope_jumps 0 (fun _ _ => False) (fun _ _ => 0) rfl ?_ (fun _ _ h => h.elim)
    go_wp2_with fail
    have K0 : Keep [] w (w.alloc (.cells #[.int .i64 0, .int .i64 0, .bool false, .bool false] 75)) := (Keep.refl [] w).alloc _
    refine (fits_any A c l a h _ (hr.old K0 (by simp)) hl hc (by omega) _ rfl).mono ?_
    rintro e w1 ⟨rfl, K1⟩
    rw [hka]
    have B1 := K1.blk (blk_new w (.cells #[.int .i64 0, .int .i64 0, .bool false, .bool false] 75)) (by simp)
    have K2 := K0.trans K1
    have ha9 : (a : Int) ≤ 1152921504606846976 := by omega
    clear hka K0 K1 hk
    go_wp2_with fail
    refine (good_any A c l a w1 (hr.old K2 (by simp)) (by omega) hof _ rfl).mono ?_
    rintro e w2 ⟨rfl, K3⟩
    rw [good_nat]
    have B2 := K3.blk B1 (by simp)
    have K4 := K2.trans K3
    have x0 := blk_cell B2 0
    have x1 := blk_cell B2 1
    have x2 := blk_cell B2 2
    have x3 := blk_cell B2 3
    have y0 := blk_free B2 0
    have y1 := blk_free B2 1
    have y2 := blk_free B2 2
    have y3 := blk_free B2 3
    simp only [List.getElem?_toArray, List.getElem?_cons_zero, List.getElem?_cons_succ] at x0 x1 x2 x3
    go_wp2_with fail
    simp only [Exit.jump]
    refine bodyPost_ret (v := .agg #[.int .i64 a, .int .i64 (a + 1), .bool (!goodN l a), .bool true]) (by simp [results, Try.results62, go_sem, x0, x1, x2, x3, y0, y1, y2, y3]) rfl ⟨?_, ?_⟩
    · rw [HC.out]; rfl
    · repeat (with_reducible first | exact K4 | refine Keep.set ?_ (.inr (Nat.le_refl _)) _)
  · have hk2 : a < fitsN l h a := by omega
    have HC0 : cutOf l h a = cutBy l a (fitsN l h a) (back l a (fitsN l h a - a)) := by unfold cutOf; rw [if_neg hka]
    have hF := hid (fits_any A c l a h (w.alloc (.cells #[.int .i64 0, .int .i64 0, .bool false, .bool false] 75)) (hr.old ((Keep.refl [] w).alloc (.cells #[.int .i64 0, .int .i64 0, .bool false, .bool false] 75)) (by simp)) hl hc (by omega) _ rfl)
    generalize fitsN l h a = k at *
    have HC := hid HC0
    clear HC0
    have hka' : ((k : Int) == (a : Int)) = false := by simp; omega
    go_enter Try.func62, Try.ntmps62
    go_wp2_with fail
    refine wp_scope_jumps 0 (CutAt A c l a h k w) (fun a' _ => (intOf (a'.tmps.getD 8 undef)).toNat) rfl ?_ ?_
    · go_wp2_with fail
      have K0 : Keep [] w (w.alloc (.cells #[.int .i64 0, .int .i64 0, .bool false, .bool false] 75)) := (Keep.refl [] w).alloc _
      refine hF.out.mono ?_
      rintro e w1 ⟨rfl, K1⟩
      have B1 := K1.blk (blk_new w (.cells #[.int .i64 0, .int .i64 0, .bool false, .bool false] 75)) (by simp)
      have K2 := K0.trans K1
      clear K0 K1
      go_wp2
      go_step3
      obtain ⟨m', rfl⟩ : ∃ m', k = m' + 1 := ⟨k - 1, by omega⟩
      have hm9 : (m' : Int) + 1 ≤ 1152921504606846976 := by omega
      have hma' : (((m' + 1 : Nat) : Int) == (a : Int)) = false := by simp; omega
      have hma2 : ((m' : Int) + 1 == (a : Int)) = false := by simp; omega
      go_wp2_with fail
      refine (good_any A c l _ _ (hr.old K2 (by simp)) (by omega) hof _ rfl).mono ?_
      rintro e w5 ⟨rfl, K5⟩
      have hg : ∀ z : Int, z = (m' : Int) → good l z = goodN l m' := fun z hz => by rw [hz, good_nat]
      rw [hg _ (by omega)]
      clear hg hma' hma2
      have B5 := K5.blk B1 (by simp)
      have K6 := K2.trans K5
      cases hgo : goodN l m' with
      | true =>
        have x0 := blk_cell B5 0
        have x1 := blk_cell B5 1
        have x2 := blk_cell B5 2
        have x3 := blk_cell B5 3
        have y0 := blk_free B5 0
        have y1 := blk_free B5 1
        have y2 := blk_free B5 2
        have y3 := blk_free B5 3
        simp only [List.getElem?_toArray, List.getElem?_cons_zero, List.getElem?_cons_succ] at x0 x1 x2 x3
        go_wp2_with fail
        simp only [Exit.jump]
        refine bodyPost_ret (v := .agg #[.int .i64 a, .int .i64 (m' + 1), .bool false, .bool false]) (by simp [results, Try.results62, go_sem, x0, x1, x2, x3, y0, y1, y2, y3]) rfl ⟨?_, ?_⟩
        · rw [HC.out, show m' + 1 - a = m' - a + 1 by omega, back, show a + (m' - a) = m' by omega, if_pos hgo]; rfl
        · repeat (with_reducible first | exact K6 | refine Keep.set ?_ (.inr (Nat.le_refl _)) _)
      | false =>
        go_wp2_with fail
        go_step3
        exact ⟨rfl, ⟨m', (m' : Int) + 1, _, _, _, _, _, _, _, _, _, _, _, _, _, _, _, _, _, _, _, _, _, _, _, _, _, _, _, _, _, _, _, _, rfl, by simp, by omega, by omega, by rw [show m' + 1 - a = m' - a + 1 by omega, back, show a + (m' - a) = m' by omega, if_neg (by simp [hgo])], K6, B5⟩⟩
    · rintro a' w' ⟨m, _, u9, u10, u11, u12, u13, u14, u15, u16, u17, u18, u19, u20, u21, u22, u23, u24, u25, u26, u27, u28, u29, u30, u31, u32, u33, u34, u35, u36, u37, u38, u39, u40, rfl, rfl, hm1, hm2, hb, K2, B1⟩
      have Hb := hid hb
      clear hb hF
      by_cases hma : m = a
      · subst hma
        have x0 := blk_cell B1 0
        have x1 := blk_cell B1 1
        have x2 := blk_cell B1 2
        have x3 := blk_cell B1 3
        have y0 := blk_free B1 0
        have y1 := blk_free B1 1
        have y2 := blk_free B1 2
        have y3 := blk_free B1 3
        simp only [List.getElem?_toArray, List.getElem?_cons_zero, List.getElem?_cons_succ] at x0 x1 x2 x3
        go_wp2_with fail
        simp only [Exit.jump]
        refine bodyPost_ret (v := .agg #[.int .i64 m, .int .i64 k, .bool true, .bool false]) (by simp [results, Try.results62, go_sem, x0, x1, x2, x3, y0, y1, y2, y3]) rfl ⟨?_, ?_⟩
        · rw [HC.out, Hb.out, Nat.sub_self]; rfl
        · repeat (with_reducible first | exact K2 | refine Keep.set ?_ (.inr (Nat.le_refl _)) _)
      · obtain ⟨m', rfl⟩ : ∃ m', m = m' + 1 := ⟨m - 1, by omega⟩
        have hm9 : (m' : Int) + 1 ≤ 1152921504606846976 := by omega
        have hma' : (((m' + 1 : Nat) : Int) == (a : Int)) = false := by simp; omega
        have hma2 : ((m' : Int) + 1 == (a : Int)) = false := by simp; omega
        go_wp2_with fail
        refine (good_any A c l _ _ (hr.old K2 (by simp)) (by omega) hof _ rfl).mono ?_
        rintro e w5 ⟨rfl, K5⟩
        have hg : ∀ z : Int, z = (m' : Int) → good l z = goodN l m' := fun z hz => by rw [hz, good_nat]
        rw [hg _ (by omega)]
        clear hg hma' hma2
        have B5 := K5.blk B1 (by simp)
        have K6 := K2.trans K5
        cases hgo : goodN l m' with
        | true =>
          have x0 := blk_cell B5 0
          have x1 := blk_cell B5 1
          have x2 := blk_cell B5 2
          have x3 := blk_cell B5 3
          have y0 := blk_free B5 0
          have y1 := blk_free B5 1
          have y2 := blk_free B5 2
          have y3 := blk_free B5 3
          simp only [List.getElem?_toArray, List.getElem?_cons_zero, List.getElem?_cons_succ] at x0 x1 x2 x3
          go_wp2_with fail
          simp only [Exit.jump]
          refine bodyPost_ret (v := .agg #[.int .i64 a, .int .i64 (m' + 1), .bool false, .bool false]) (by simp [results, Try.results62, go_sem, x0, x1, x2, x3, y0, y1, y2, y3]) rfl ⟨?_, ?_⟩
          · rw [HC.out, Hb.out, show m' + 1 - a = m' - a + 1 by omega, back, show a + (m' - a) = m' by omega, if_pos hgo]; rfl
          · repeat (with_reducible first | exact K6 | refine Keep.set ?_ (.inr (Nat.le_refl _)) _)
        | false =>
          go_wp2_with fail
          go_step3
          exact ⟨rfl, ⟨m', k, _, _, _, _, _, _, _, _, _, _, _, _, _, _, _, _, _, _, _, _, _, _, _, _, _, _, _, _, _, _, _, _, rfl, rfl, by omega, by omega, by rw [Hb.out, show m' + 1 - a = m' - a + 1 by omega, back, show a + (m' - a) = m' by omega, if_neg (by simp [hgo])], K6, B5⟩, by simp [intOf]⟩

end Go.Proofs.Ytgelccenbceeoaa
