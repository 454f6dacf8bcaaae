/- The reference's fits and page, by contracts. -/
import Derived.Test.YtgelccenbceeoaaPageFits
import Derived.Test.YtgelccenbceeoaaRefGood
import Derived.Test.YtgelccenbceeoaaRef17
namespace Go.Proofs.Ytgelccenbceeoaa
open Go.RowKit
set_option linter.unusedSimpArgs false
set_option linter.unusedVariables false

theorem rtall_len (A : Option Addr) (c n : Nat) (l : List Slab) (w : World) (hn : l.length = n) (hr : Rd Slab.row 9 w A l) (hl : n ≤ 1152921504606846976) (hc : n ≤ c) :
    Calls Try.prog 35 #[.slice A n c] w fun e w' => e = .returned (.int .i64 (tall l)) ∧ Keep [] w w' := by
  subst hn
  rw [← rtall_eq]
  exact rtall_any A c l w hr hl

set_option maxHeartbeats 1600000 in
theorem rfits_any (A : Option Addr) (c : Nat) (l : List Slab) (a : Nat) (h : Int) (w : World) (hr : Rd Slab.row 9 w A l) (hl : l.length ≤ 1152921504606846976) (hc : l.length ≤ c) (ha : a ≤ l.length) (N : Nat) (hN : l.length = N) :
    Calls Try.prog 66 #[.slice A N c, .int .i64 a, .int .i64 h] w fun e w' => e = .returned (.int .i64 (fitsN l h a)) ∧ Keep [] w w' := by
  subst hN
  go_enter Try.func66, Try.ntmps66
  go_wp2_with fail
  go_loopw [7] (fun vk wr => ∃ k : Nat, a ≤ k ∧ k ≤ l.length ∧ vk = .int .i64 k ∧ Hid (fitsN l h a = fitsGo l h a (l.length - k) k) ∧ Keep [] w wr) (fun vk _ => l.length - (intOf vk).toNat)
  case atStart => exact ⟨a, Nat.le_refl _, ha, rfl, hid rfl, Keep.refl _ _⟩
  case round =>
    obtain ⟨k, hk1, hk2, rfl, HF, K⟩ := hrel
    by_cases hlt : k < l.length
    · obtain ⟨s, hs⟩ : ∃ s, l[k]? = some s := ⟨l[k], List.getElem?_eq_getElem hlt⟩
      obtain ⟨ad, hA, _⟩ := hr k s hs
      subst hA
      have hR : Rd Slab.row 9 wr (some (ad.add (a * 9))) ((l.drop a).take (k + 1 - a)) := ((hr.old K (by simp)).drop a).take _
      have hlen : ((l.drop a).take (k + 1 - a)).length = k + 1 - a := by simp; omega
      obtain ⟨X, hX⟩ : ∃ X, X = (l.drop a).take (k + 1 - a) := ⟨_, rfl⟩
      rw [← hX] at hR hlen
      have HX := hid hX
      have Hlen := hid hlen
      clear hX hlen hs
      have hca : ¬ c = a := by omega
      have h1 : (k : Int) < (l.length : Int) := by omega
      have h2 : (a : Int) ≤ (k : Int) + 1 := by omega
      have h3 : (k : Int) + 1 ≤ (c : Int) := by omega
      have h4 : ((k : Int) + 1).toNat = k + 1 := by omega
      have h5 : (0 : Int) ≤ (k : Int) + 1 := by omega
      have h6 : (k : Int) ≤ 1152921504606846976 := by omega
      go_wp2_with fail
      refine (rtall_len (some (ad.add (a * 9))) (c - a) (k + 1 - a) X _ Hlen.out hR (by omega) (by omega)).mono ?_
      rintro e w2 ⟨rfl, K2⟩
      clear h2 h3 h4 h5
      by_cases hT : tall X ≤ h
      · go_wp2
        go_roundw
        case rel => exact ⟨k + 1, by omega, hlt, by go_num, hid (HF.out.trans (fitsGo_go hlt (by rw [← HX.out]; exact hT))), K.trans K2⟩
        case measure => simp [intOf]; omega
      · have hT' : h < tall X := by omega
        go_wp2
        go_ret
        refine ⟨?_, K.trans K2⟩
        rw [HF.out, fitsGo_stop (by rw [← HX.out]; omega)]
        rfl
    · obtain rfl : k = l.length := by omega
      go_wp2
      go_ret
      refine ⟨?_, K⟩
      rw [HF.out, Nat.sub_self]
      rfl

set_option maxHeartbeats 3200000 in
set_option maxRecDepth 100000 in
theorem rpage_any (A : Option Addr) (c : Nat) (l : List Slab) (a : Nat) (h : Int) (w : World) (hr : Rd Slab.row 9 w A l) (hl : l.length ≤ 1152921504606846976) (hc : l.length ≤ c) (ha : a < l.length) (hof : OfIn l) (N : Nat) (hN : l.length = N) :
    Calls Try.prog 63 #[.slice A N c, .int .i64 a, .int .i64 h] w fun e w' => e = .returned (.agg (cutOf l h a).row.toArray) ∧ Keep [] w w' := by
  subst hN
  have hk := fitsN_range (l := l) (h := h) (a := a) (by omega)
  by_cases hka : fitsN l h a = a
  · have HC : Hid (cutOf l h a = ⟨a, a + 1, !goodN l a, true⟩) := hid (by unfold cutOf; rw [if_pos hka])
    go_enter Try.func63, Try.ntmps63
    go_wp2_with fail
    have K0 : Keep [] w (w.alloc (.cells #[.int .i64 0, .int .i64 0, .bool false, .bool false] 75)) := (Keep.refl [] w).alloc _
    refine (rfits_any A c l a h _ (hr.old K0 (by simp)) hl hc (by omega) _ rfl).mono ?_
    rintro e w1 ⟨rfl, K1⟩
    rw [hka]
    have B1 := K1.blk (blk_new w (.cells #[.int .i64 0, .int .i64 0, .bool false, .bool false] 75)) (by simp)
    have K2 := K0.trans K1
    have ha9 : (a : Int) ≤ 1152921504606846976 := by omega
    clear hka K0 K1 hk
    go_wp2_with fail
    refine (rgood_any A c l a w1 (hr.old K2 (by simp)) (by omega) hof _ rfl).mono ?_
    rintro e w2 ⟨rfl, K3⟩
    rw [good_nat]
    have B2 := K3.blk B1 (by simp)
    have K4 := K2.trans K3
    have x0 := blk_cell B2 0
    have x1 := blk_cell B2 1
    have x2 := blk_cell B2 2
    have x3 := blk_cell B2 3
    have y0 := blk_free B2 0
    have y1 := blk_free B2 1
    have y2 := blk_free B2 2
    have y3 := blk_free B2 3
    simp only [List.getElem?_toArray, List.getElem?_cons_zero, List.getElem?_cons_succ] at x0 x1 x2 x3
    go_wp2_with fail
    refine bodyPost_ret (v := .agg #[.int .i64 a, .int .i64 (a + 1), .bool (!goodN l a), .bool true]) (by simp [results, Try.results63, go_sem, x0, x1, x2, x3, y0, y1, y2, y3]) rfl ⟨?_, ?_⟩
    · rw [HC.out]; rfl
    · repeat (with_reducible first | exact K4 | refine Keep.set ?_ (.inr (Nat.le_refl _)) _)
  · have hk2 : a < fitsN l h a := by omega
    have HC0 : cutOf l h a = cutBy l a (fitsN l h a) (back l a (fitsN l h a - a)) := by unfold cutOf; rw [if_neg hka]
    have hF := hid (rfits_any A c l a h (w.alloc (.cells #[.int .i64 0, .int .i64 0, .bool false, .bool false] 75)) (hr.old ((Keep.refl [] w).alloc (.cells #[.int .i64 0, .int .i64 0, .bool false, .bool false] 75)) (by simp)) hl hc (by omega) _ rfl)
    generalize fitsN l h a = k at *
    have HC := hid HC0
    clear HC0
    have hka' : ((k : Int) == (a : Int)) = false := by simp; omega
    have hk9 : (k : Int) ≤ 1152921504606846976 := by omega
    go_enter Try.func63, Try.ntmps63
    go_wp2_with fail
    have K0 : Keep [] w (w.alloc (.cells #[.int .i64 0, .int .i64 0, .bool false, .bool false] 75)) := (Keep.refl [] w).alloc _
    refine hF.out.mono ?_
    rintro e w1 ⟨rfl, K1⟩
    have B1 := K1.blk (blk_new w (.cells #[.int .i64 0, .int .i64 0, .bool false, .bool false] 75)) (by simp)
    have K2 := K0.trans K1
    clear K0 K1 hF
    go_wp2_with fail
    go_loopw [8] (fun vn wr => ∃ q : Nat, q + a ≤ k ∧ vn = .int .i64 ((a : Int) + q - 1) ∧ Hid (back l a (k - a) = back l a q) ∧ Keep [] w wr ∧ wr.heap[w.heap.size]? = some (.cells #[.int .i64 0, .int .i64 0, .bool false, .bool false] 75 (0, 0))) (fun vn _ => (intOf vn - a + 1).toNat)
    case atStart => exact ⟨k - a, by omega, by congr 1; omega, hid rfl, K2, B1⟩
    case round =>
      clear K2 B1
      obtain ⟨q, hq, rfl, HB, K2, B1⟩ := hrel
      by_cases h0 : q = 0
      · subst h0
        have hz : ((a : Int) + ((0 : Nat) : Int) - 1) = (a : Int) - 1 := by omega
        rw [hz]
        have x0 := blk_cell B1 0
        have x1 := blk_cell B1 1
        have x2 := blk_cell B1 2
        have x3 := blk_cell B1 3
        have y0 := blk_free B1 0
        have y1 := blk_free B1 1
        have y2 := blk_free B1 2
        have y3 := blk_free B1 3
        simp only [List.getElem?_toArray, List.getElem?_cons_zero, List.getElem?_cons_succ] at x0 x1 x2 x3
        go_wp2_with fail
        refine bodyPost_ret (v := .agg #[.int .i64 a, .int .i64 k, .bool true, .bool false]) (by simp [results, Try.results63, go_sem, x0, x1, x2, x3, y0, y1, y2, y3]) rfl ⟨?_, ?_⟩
        · rw [HC.out, HB.out]; rfl
        · repeat (with_reducible first | exact K2 | refine Keep.set ?_ (.inr (Nat.le_refl _)) _)
      · obtain ⟨p, rfl⟩ : ∃ p, q = p + 1 := ⟨q - 1, by omega⟩
        have hz : ((a : Int) + ((p + 1 : Nat) : Int) - 1) = ((a + p : Nat) : Int) := by omega
        rw [hz]
        have hge : (a : Int) ≤ ((a + p : Nat) : Int) := by omega
        have hap : a + p + 1 ≤ k := by omega
        have HP := hid (show back l a (p + 1) = if goodN l (a + p) = true then some (a + p + 1) else back l a p from rfl)
        clear hz
        obtain ⟨z, hz⟩ : ∃ z, z = a + p := ⟨_, rfl⟩
        rw [← hz] at hge HP hap ⊢
        have HZ := hid hz
        clear hz
        have hz9 : (z : Int) ≤ 1152921504606846976 := by omega
        go_wp2_with fail
        refine (rgood_any A c l _ _ (hr.old K2 (by simp)) (by omega) hof _ rfl).mono ?_
        rintro e w5 ⟨rfl, K5⟩
        rw [good_nat]
        have B5 := K5.blk B1 (by simp)
        have K6 := K2.trans K5
        cases hgo : goodN l z with
        | true =>
          have x0 := blk_cell B5 0
          have x1 := blk_cell B5 1
          have x2 := blk_cell B5 2
          have x3 := blk_cell B5 3
          have y0 := blk_free B5 0
          have y1 := blk_free B5 1
          have y2 := blk_free B5 2
          have y3 := blk_free B5 3
          simp only [List.getElem?_toArray, List.getElem?_cons_zero, List.getElem?_cons_succ] at x0 x1 x2 x3
          go_wp2_with fail
          refine bodyPost_ret (v := .agg #[.int .i64 a, .int .i64 (z + 1), .bool false, .bool false]) (by simp [results, Try.results63, go_sem, x0, x1, x2, x3, y0, y1, y2, y3]) rfl ⟨?_, ?_⟩
          · rw [HC.out, HB.out, HP.out, if_pos hgo]; rfl
          · repeat (with_reducible first | exact K6 | refine Keep.set ?_ (.inr (Nat.le_refl _)) _)
        | false =>
          go_wp2
          go_roundw
          case rel => exact ⟨p, by omega, by congr 1; have := HZ.out; omega, hid (by rw [HB.out, HP.out, if_neg (by simp [hgo])]), K6, B5⟩
          case measure => simp [intOf]; have := HZ.out; omega

end Go.Proofs.Ytgelccenbceeoaa
