/- PageHolds' walk. -/
import Derived.Test.YtgelccenbceeoaaWalkPageGood
import Derived.Test.YtgelccenbceeoaaHoldsLaw
import Derived.Deep.CutBlock
import Derived.Test.YtgelccenbceeoaaHeldLex
namespace Go.Proofs.Ytgelccenbceeoaa
open Go.RowKit
set_option linter.unusedSimpArgs false
set_option linter.unusedVariables false

set_option maxHeartbeats 12800000 in
set_option maxRecDepth 100000 in
theorem walkHolds (A : Option Addr) (c : Nat) (l : List Slab) (h : Int) (w : World) (hr : Rd Slab.row 9 w A l) (hc : l.length ≤ c) (hl : c ≤ 9223372036854775807) (hof : OfIn l) :
    Calls Try.prog 13 #[.slice A l.length c, .int .i64 h] w fun e w' => e = .returned (.bool true) ∧ Below w.heap.size w w' := by
  have hl' : (l.length : Int) ≤ 9223372036854775807 := by omega
  go_enter Try.func13, Try.ntmps13
  go_wp2_with fail
  refine (shown18 _).mono ?_
  rintro e w1 ⟨rfl, K1⟩
  by_cases h600 : 600 < l.length
  · have h600' : (600 : Int) < (l.length : Int) := by omega
    go_wp2
    go_ret
    exact ⟨rfl, K1.below (Nat.le_refl _) (by simp)⟩
  · have h600' : (l.length : Int) ≤ 600 := by omega
    have e600 : decide ((600 : Int) < (l.length : Int)) = false := decide_eq_false (by omega)
    go_wp2_with fail
    refine (great_any _).mono ?_
    rintro e w2 ⟨rfl, M2, K2, s2⟩
    have S2 := hid s2
    clear s2
    have K12 := K1.trans K2
    have g0 := K1.size
    generalize w1.heap.size = g at *
    clear K1 K2
    by_cases hh : h < 1 ∨ 536870912 < h
    · go_wp2_with fail
      refine (cuts_bad g A l.length c h _ hh).mono ?_
      rintro e w3 ⟨rfl, K3⟩
      rcases hh with h1 | h1
      · go_wp2
        go_ret
        exact ⟨rfl, ((K12.trans K3).alloc _).below (Nat.le_refl _) (by simp)⟩
      · have h2 : 1 ≤ h := by omega
        go_wp2
        go_ret
        exact ⟨rfl, ((K12.trans K3).alloc _).below (Nat.le_refl _) (by simp)⟩
    · obtain ⟨m', r1, r2, r3⟩ := cutsGo_fits (l := l) (h := h) l.length big18 0 big18_ok rfl (by omega) (by simp [big18, MS.new]; omega) (by simp [big18, MS.new]; omega) (by omega)
      have q1 := cutsL_len (l := l) (h := h) l.length 0 (by omega)
      go_wp2_with fail
      refine (cuts_any g big18 A c l h w2 M2 big18_ok (fun W K => hr.old (K12.then K (T := [g]) (S := []) (by simp; omega)) (by simp)) (by omega) hc hof (by omega) (by omega) _ rfl).mono ?_
      rintro e w3 ⟨v, rfl, O, M3, K3⟩
      rw [show cutsAll l h big18 = _ from r1] at O M3 ⊢
      simp only [if_true] at O M3 ⊢
      obtain ⟨A3, c3, rfl, hc3, R3, hA3⟩ := own_rd (enc := CutX.row) (fun _ => rfl) O
      have K13 := K12.then K3 (T := [g]) (S := []) (by simp; omega)
      have hcs : Hid (cutsL l h 0 = cutsL l h 0) := hid rfl
      have r2' : Hid (m'.sn = (l.length : Int)) := hid (by rw [r2]; simp [big18, MS.new])
      have r3' : Hid (m'.cn = ((cutsL l h 0).length : Int)) := hid (by rw [r3]; simp [big18, MS.new])
      have R4 := R3.old ((Keep.refl [] w3).alloc (.cells #[.int .i64 0, .int .i64 0] 59)) (by simp)
      have K14 := K13.alloc (.cells #[.int .i64 0, .int .i64 0] 59)
      have M4 : IsM _ g m' := blk_alloc M3 (.cells #[.int .i64 0, .int .i64 0] 59)
      obtain ⟨CS, hCS⟩ : ∃ CS, CS = cutsL l h 0 := ⟨_, rfl⟩
      rw [← hCS] at R4 r3' q1 hc3 ⊢
      have HCS := hid hCS
      clear hcs hCS r1 r2 r3 R3 O M3 M2 hA3 K12 K13 K3
      go_wp2_with fail
      generalize w3.alloc (.cells #[.int .i64 0, .int .i64 0] 59) = W at *
      go_loopw [10, 9] (fun vi va wr => ∃ i a : Nat, i ≤ CS.length ∧ a ≤ l.length ∧ vi = .int .i64 i ∧ va = .int .i64 a ∧ Hid (CS.drop i = cutsL l h a) ∧ Keep [] W wr) (fun vi _ _ => CS.length - (intOf vi).toNat)
      case atStart => exact ⟨0, 0, Nat.zero_le _, Nat.zero_le _, rfl, rfl, hid (by rw [List.drop_zero]; exact HCS.out), Keep.refl _ _⟩
      case round =>
        obtain ⟨i, a, hi, hal, rfl, rfl, HD, K⟩ := hrel
        by_cases hlt : i < CS.length
        · have ha : a < l.length := by
            rcases Nat.lt_or_ge a l.length with h1 | h1
            · exact h1
            · have h2 := congrArg List.length HD.out
              rw [cutsL_nil (by omega)] at h2
              simp at h2
              omega
          obtain ⟨n, fo, ov, hX, han, hnl, hov, hf1, hf2, hfo, hf3, hf4⟩ := cut_facts (h := h) ha
          have hdr := HD.out
          rw [cutsL_cons ha (n := n) (by rw [hX]) han, hX, List.drop_eq_getElem_cons hlt] at hdr
          obtain ⟨hx, hd2⟩ := List.cons.inj hdr
          have hCi : CS[i]? = some ⟨a, n, fo, ov⟩ := by rw [List.getElem?_eq_getElem hlt, hx]
          have HD2 := hid hd2
          obtain ⟨ad, hA, hcs⟩ := (R4.old K (by simp)) i _ hCi
          subst hA
          have d0 := hcs 0 _ rfl
          have d1 := hcs 1 _ rfl
          have d2 := hcs 2 _ rfl
          have d3 := hcs 3 _ rfl
          rw [add_at _ _ _ (by omega)] at d1 d2 d3
          rw [Nat.add_zero] at d0
          have Hov := hid hov
          have Hfo := hid hfo
          have Hf := hid (And.intro hf1 (And.intro hf2 (And.intro hf3 hf4)))
          have hkr := fitsN_range (l := l) (h := h) (a := a) (by omega)
          have han' : (a : Int) < (n : Int) := by omega
          have hnl' : (n : Int) ≤ (l.length : Int) := by omega
          clear hX hov hfo hf1 hf2 hf3 hf4 hdr hx hd2 hCi hcs
          have e2 : decide (n ≤ a) = false := decide_eq_false (by omega)
          have e3 : decide (l.length < n) = false := decide_eq_false (by omega)
          go_upto_block 2 with (fail)
          clear e2 e3
          have K2 := K.alloc (.cells #[.int .i64 a, .int .i64 n, .bool fo, .bool ov] 75)
          have B2 := blk_new wr (.cells #[.int .i64 a, .int .i64 n, .bool fo, .bool ov] 75)
          generalize wr.alloc (.cells #[.int .i64 a, .int .i64 n, .bool fo, .bool ov] 75) = W2 at *
          generalize wr.heap.size = bc at *
          have hbc := blk_lt B2
          clear d0 d1 d2 d3 K
          go_cut [12] (fun vk wc => vk = .int .i64 (fitsN l h a) ∧ Keep [] W2 wc)
          case first =>
            go_wp2_with fail
            go_loopw [12] (fun vk wi => ∃ k : Nat, a ≤ k ∧ k ≤ l.length ∧ vk = .int .i64 k ∧ Hid (fitsN l h a = fitsGo l h a (l.length - k) k) ∧ Keep [] W2 wi) (fun vk _ => l.length - (intOf vk).toNat)
            case atStart => exact ⟨a, Nat.le_refl _, hal, rfl, hid rfl, Keep.refl _ _⟩
            case round =>
              obtain ⟨k, hk1, hk2, rfl, HF, K⟩ := hrel
              have B3 := K.blk B2 (by simp)
              have x0 := blk_cell B3 0
              have x1 := blk_cell B3 1
              have x2 := blk_cell B3 2
              have x3 := blk_cell B3 3
              simp only [List.getElem?_toArray, List.getElem?_cons_zero, List.getElem?_cons_succ] at x0 x1 x2 x3
              by_cases hlt : k < l.length
              · obtain ⟨s, hs⟩ : ∃ s, l[k]? = some s := ⟨l[k], List.getElem?_eq_getElem hlt⟩
                obtain ⟨ad, hA, _⟩ := hr k s hs
                subst hA
                have KK : Keep [] w _ := (K14.trans K2).trans K
                have hR : Rd Slab.row 9 _ (some (ad.add (a * 9))) ((l.drop a).take (k + 1 - a)) := ((hr.old KK (by simp)).drop a).take _
                have hlen : ((l.drop a).take (k + 1 - a)).length = k + 1 - a := by simp; omega
                obtain ⟨X, hX⟩ : ∃ X, X = (l.drop a).take (k + 1 - a) := ⟨_, rfl⟩
                rw [← hX] at hR hlen
                have HX := hid hX
                have Hlen := hid hlen
                clear hX hlen hs
                have hca : ¬ c = a := by omega
                have h1 : (k : Int) < (l.length : Int) := by omega
                have h2 : (a : Int) ≤ (k : Int) + 1 := by omega
                have h3 : (k : Int) + 1 ≤ (c : Int) := by omega
                have h4 : ((k : Int) + 1).toNat = k + 1 := by omega
                have h5 : (0 : Int) ≤ (k : Int) + 1 := by omega
                have h6 : (k : Int) ≤ 600 := by omega
                go_wp2_with fail
                refine (tall_len (some (ad.add (a * 9))) (c - a) (k + 1 - a) X _ Hlen.out hR (by omega) (by omega)).mono ?_
                rintro e w5 ⟨rfl, K5⟩
                clear h2 h3 h4 h5
                by_cases hT : tall X ≤ h
                · go_wp2
                  go_roundw
                  case rel => exact ⟨k + 1, by omega, hlt, by go_num, hid (HF.out.trans (fitsGo_go hlt (by rw [← HX.out]; exact hT))), K.trans K5⟩
                  case measure => simp [intOf]; omega
                · have hT' : h < tall X := by omega
                  go_wp2
                  go_meet
                  refine ⟨?_, K.trans K5⟩
                  rw [HF.out, fitsGo_stop (by rw [← HX.out]; omega)]
              · obtain rfl : k = l.length := by omega
                go_wp2
                go_meet
                refine ⟨?_, K⟩
                rw [HF.out, Nat.sub_self]
                rfl
          case rest =>
            obtain ⟨rfl, K3⟩ := hcut
            rename World => W3
            generalize fitsN l h a = kk at *
            have B3 := K3.blk B2 (by simp)
            have KK : Keep [] w W3 := (K14.trans K2).trans K3
            have x0 := blk_cell B3 0
            have x1 := blk_cell B3 1
            have x2 := blk_cell B3 2
            have x3 := blk_cell B3 3
            simp only [List.getElem?_toArray, List.getElem?_cons_zero, List.getElem?_cons_succ] at x0 x1 x2 x3
            have han600 : (n : Int) ≤ 600 := by omega
            go_upto_region 21 with (fail)
            go_cut [142] (fun v wc => v = .bool false ∧ Keep [] W2 wc)
            case first =>
              have E2 : IntKind.i64.wrap ((n : Int) - 1) = (n : Int) - 1 := IntWalk.i64_in _ (by omega)
              have hgn : good l ((n : Int) - 1) = goodN l (n - 1) := by rw [show (n : Int) - 1 = ((n - 1 : Nat) : Int) by omega, good_nat]
              have Hgn := hid hgn
              clear hgn
              by_cases hka : kk = a
              · have hn := Hf.out.1 hka
                have hov := Hov.out
                rw [decide_eq_true hka] at hov
                subst hov
                have hb1 : ((kk : Int) == (a : Int)) = true := by simp [hka]
                have hb2 : (kk == a) = true := by simp [hka]
                have hb3 : ((n : Int) != (a : Int) + 1) = false := by simp; omega
                have hb4 : ((n : Int) == (a : Int) + 1) = true := by simp; omega
                have hb5 : (n != a + 1) = false := by simp; omega
                have E1 : IntKind.i64.wrap ((a : Int) + 1) = (a : Int) + 1 := IntWalk.i64_in _ (by omega)
                clear hka hn
                refine wp_region_held_lex 37 (fun w' => w'.cell? ⟨bc, 0, none⟩ = some (.int .i64 a) ∧ w'.cell? ⟨bc, 1, none⟩ = some (.int .i64 n) ∧ w'.cell? ⟨bc, 2, none⟩ = some (.bool fo) ∧ w'.cell? ⟨bc, 3, none⟩ = some (.bool true) ∧ Keep [] W2 w') (by kernel_rfl) (by simp) (by kernel_rfl) (by kernel_rfl) (fun _ _ d _ _ h => by cases d <;> exact h) ⟨x0, x1, x2, x3, K3.drew⟩ ?_
                simp only [List.take_succ_cons, List.take_zero]
                refine heldL_yes (v := ?_) rfl (fun w hSw => ?_) ?_
                rotate_left
                · (obtain ⟨y0, y1, y2, y3, _⟩ := hSw; go_simp; (try with_reducible rfl))
                (try simp only [Act.put, List.setIfInBounds_toArray, List.set_cons_zero, List.set_cons_succ])
                refine heldL_yes (v := ?_) rfl (fun w hSw => ?_) ?_
                rotate_left
                · (obtain ⟨y0, y1, y2, y3, _⟩ := hSw; go_simp; (try with_reducible rfl))
                (try simp only [Act.put, List.setIfInBounds_toArray, List.set_cons_zero, List.set_cons_succ])
                refine heldL_yes (v := ?_) rfl (fun w hSw => ?_) ?_
                rotate_left
                · (obtain ⟨y0, y1, y2, y3, _⟩ := hSw; go_simp; (try with_reducible rfl))
                (try simp only [Act.put, List.setIfInBounds_toArray, List.set_cons_zero, List.set_cons_succ])
                refine heldL_yes (v := ?_) rfl (fun w hSw => ?_) ?_
                rotate_left
                · (obtain ⟨y0, y1, y2, y3, _⟩ := hSw; go_simp; (try with_reducible rfl))
                (try simp only [Act.put, List.setIfInBounds_toArray, List.set_cons_zero, List.set_cons_succ])
                refine heldL_yes (v := ?_) rfl (fun w hSw => ?_) ?_
                rotate_left
                · (obtain ⟨y0, y1, y2, y3, _⟩ := hSw; go_simp; (try with_reducible rfl))
                (try simp only [Act.put, List.setIfInBounds_toArray, List.set_cons_zero, List.set_cons_succ])
                refine heldL_yes (v := ?_) rfl (fun w hSw => ?_) ?_
                rotate_left
                · (obtain ⟨y0, y1, y2, y3, _⟩ := hSw; go_simp; (try with_reducible rfl))
                (try simp only [Act.put, List.setIfInBounds_toArray, List.set_cons_zero, List.set_cons_succ])
                refine heldL_yes (v := ?_) rfl (fun w hSw => ?_) ?_
                rotate_left
                · (obtain ⟨y0, y1, y2, y3, _⟩ := hSw; go_simp; (try with_reducible rfl))
                (try simp only [Act.put, List.setIfInBounds_toArray, List.set_cons_zero, List.set_cons_succ])
                refine heldL_yes (v := ?_) rfl (fun w hSw => ?_) ?_
                rotate_left
                · (obtain ⟨y0, y1, y2, y3, _⟩ := hSw; go_simp; (try with_reducible rfl))
                (try simp only [Act.put, List.setIfInBounds_toArray, List.set_cons_zero, List.set_cons_succ])
                refine heldL_yes (v := ?_) rfl (fun w hSw => ?_) ?_
                rotate_left
                · (obtain ⟨y0, y1, y2, y3, _⟩ := hSw; go_simp; (try with_reducible rfl))
                (try simp only [Act.put, List.setIfInBounds_toArray, List.set_cons_zero, List.set_cons_succ])
                refine heldL_yes (v := ?_) rfl (fun w hSw => ?_) ?_
                rotate_left
                · (obtain ⟨y0, y1, y2, y3, _⟩ := hSw; go_simp; (try with_reducible rfl))
                (try simp only [Act.put, List.setIfInBounds_toArray, List.set_cons_zero, List.set_cons_succ])
                refine heldL_yes (v := ?_) rfl (fun w hSw => ?_) ?_
                rotate_left
                · (obtain ⟨y0, y1, y2, y3, _⟩ := hSw; go_simp; (try with_reducible rfl))
                (try simp only [Act.put, List.setIfInBounds_toArray, List.set_cons_zero, List.set_cons_succ])
                refine heldL_yes (v := ?_) rfl (fun w hSw => ?_) ?_
                rotate_left
                · (obtain ⟨y0, y1, y2, y3, _⟩ := hSw; go_simp; (try with_reducible rfl))
                (try simp only [Act.put, List.setIfInBounds_toArray, List.set_cons_zero, List.set_cons_succ])
                refine heldL_yes (v := ?_) rfl (fun w hSw => ?_) ?_
                rotate_left
                · (obtain ⟨y0, y1, y2, y3, _⟩ := hSw; go_simp; (try with_reducible rfl))
                (try simp only [Act.put, List.setIfInBounds_toArray, List.set_cons_zero, List.set_cons_succ])
                refine heldL_yes (v := ?_) rfl (fun w hSw => ?_) ?_
                rotate_left
                · (obtain ⟨y0, y1, y2, y3, _⟩ := hSw; go_simp; (try with_reducible rfl))
                (try simp only [Act.put, List.setIfInBounds_toArray, List.set_cons_zero, List.set_cons_succ])
                refine heldL_yes (v := ?_) rfl (fun w hSw => ?_) ?_
                rotate_left
                · (obtain ⟨y0, y1, y2, y3, _⟩ := hSw; go_simp; (try with_reducible rfl))
                (try simp only [Act.put, List.setIfInBounds_toArray, List.set_cons_zero, List.set_cons_succ])
                refine heldL_yes (v := ?_) rfl (fun w hSw => ?_) ?_
                rotate_left
                · (obtain ⟨y0, y1, y2, y3, _⟩ := hSw; go_simp; (try with_reducible rfl))
                (try simp only [Act.put, List.setIfInBounds_toArray, List.set_cons_zero, List.set_cons_succ])
                refine heldL_yes (v := ?_) rfl (fun w hSw => ?_) ?_
                rotate_left
                · (obtain ⟨y0, y1, y2, y3, _⟩ := hSw; go_simp; (try with_reducible rfl))
                (try simp only [Act.put, List.setIfInBounds_toArray, List.set_cons_zero, List.set_cons_succ])
                refine heldL_yes (v := ?_) rfl (fun w hSw => ?_) ?_
                rotate_left
                · (obtain ⟨y0, y1, y2, y3, _⟩ := hSw; go_simp; (try with_reducible rfl))
                (try simp only [Act.put, List.setIfInBounds_toArray, List.set_cons_zero, List.set_cons_succ])
                refine heldL_yes (v := ?_) rfl (fun w hSw => ?_) ?_
                rotate_left
                · (obtain ⟨y0, y1, y2, y3, _⟩ := hSw; go_simp; (try with_reducible rfl))
                (try simp only [Act.put, List.setIfInBounds_toArray, List.set_cons_zero, List.set_cons_succ])
                refine heldL_yes (v := ?_) rfl (fun w hSw => ?_) ?_
                rotate_left
                · (obtain ⟨y0, y1, y2, y3, _⟩ := hSw; go_simp; (try with_reducible rfl))
                (try simp only [Act.put, List.setIfInBounds_toArray, List.set_cons_zero, List.set_cons_succ])
                refine heldL_yes (v := ?_) rfl (fun w hSw => ?_) ?_
                rotate_left
                · (obtain ⟨y0, y1, y2, y3, _⟩ := hSw; go_simp; (try with_reducible rfl))
                (try simp only [Act.put, List.setIfInBounds_toArray, List.set_cons_zero, List.set_cons_succ])
                refine heldL_yes (v := ?_) rfl (fun w hSw => ?_) ?_
                rotate_left
                · (obtain ⟨y0, y1, y2, y3, _⟩ := hSw; go_simp; (try with_reducible rfl))
                (try simp only [Act.put, List.setIfInBounds_toArray, List.set_cons_zero, List.set_cons_succ])
                refine heldL_yes (v := ?_) rfl (fun w hSw => ?_) ?_
                rotate_left
                · (obtain ⟨y0, y1, y2, y3, _⟩ := hSw; go_simp; (try with_reducible rfl))
                (try simp only [Act.put, List.setIfInBounds_toArray, List.set_cons_zero, List.set_cons_succ])
                refine heldL_yes (v := ?_) rfl (fun w hSw => ?_) ?_
                rotate_left
                · (obtain ⟨y0, y1, y2, y3, _⟩ := hSw; go_simp; (try with_reducible rfl))
                (try simp only [Act.put, List.setIfInBounds_toArray, List.set_cons_zero, List.set_cons_succ])
                refine heldL_no rfl ?_
                (try simp only [Act.put, List.setIfInBounds_toArray, List.set_cons_zero, List.set_cons_succ])
                refine heldL_no rfl ?_
                (try simp only [Act.put, List.setIfInBounds_toArray, List.set_cons_zero, List.set_cons_succ])
                refine heldL_no rfl ?_
                (try simp only [Act.put, List.setIfInBounds_toArray, List.set_cons_zero, List.set_cons_succ])
                refine heldL_no rfl ?_
                (try simp only [Act.put, List.setIfInBounds_toArray, List.set_cons_zero, List.set_cons_succ])
                refine heldL_yes (v := ?_) rfl (fun w hSw => ?_) ?_
                rotate_left
                · (obtain ⟨y0, y1, y2, y3, _⟩ := hSw; go_simp; (try with_reducible rfl))
                (try simp only [Act.put, List.setIfInBounds_toArray, List.set_cons_zero, List.set_cons_succ])
                refine heldL_yes (v := ?_) rfl (fun w hSw => ?_) ?_
                rotate_left
                · (obtain ⟨y0, y1, y2, y3, _⟩ := hSw; go_simp; (try with_reducible rfl))
                (try simp only [Act.put, List.setIfInBounds_toArray, List.set_cons_zero, List.set_cons_succ])
                refine heldL_yes (v := ?_) rfl (fun w hSw => ?_) ?_
                rotate_left
                · (obtain ⟨y0, y1, y2, y3, _⟩ := hSw; go_simp; (try with_reducible rfl))
                (try simp only [Act.put, List.setIfInBounds_toArray, List.set_cons_zero, List.set_cons_succ])
                refine heldL_yes (v := ?_) rfl (fun w hSw => ?_) ?_
                rotate_left
                · (obtain ⟨y0, y1, y2, y3, _⟩ := hSw; go_simp; (try with_reducible rfl))
                (try simp only [Act.put, List.setIfInBounds_toArray, List.set_cons_zero, List.set_cons_succ])
                refine heldL_yes (v := ?_) rfl (fun w hSw => ?_) ?_
                rotate_left
                · (obtain ⟨y0, y1, y2, y3, _⟩ := hSw; go_simp; (try with_reducible rfl))
                (try simp only [Act.put, List.setIfInBounds_toArray, List.set_cons_zero, List.set_cons_succ])
                refine heldL_yes (v := ?_) rfl (fun w hSw => ?_) ?_
                rotate_left
                · (obtain ⟨y0, y1, y2, y3, _⟩ := hSw; go_simp; (try with_reducible rfl))
                (try simp only [Act.put, List.setIfInBounds_toArray, List.set_cons_zero, List.set_cons_succ])
                refine heldL_yes (v := ?_) rfl (fun w hSw => ?_) ?_
                rotate_left
                · (obtain ⟨y0, y1, y2, y3, _⟩ := hSw; go_simp; (try with_reducible rfl))
                (try simp only [Act.put, List.setIfInBounds_toArray, List.set_cons_zero, List.set_cons_succ])
                refine heldL_yes (v := ?_) rfl (fun w hSw => ?_) ?_
                rotate_left
                · (obtain ⟨y0, y1, y2, y3, _⟩ := hSw; go_simp; (try with_reducible rfl))
                (try simp only [Act.put, List.setIfInBounds_toArray, List.set_cons_zero, List.set_cons_succ])
                refine heldL_yes (v := ?_) rfl (fun w hSw => ?_) ?_
                rotate_left
                · (obtain ⟨y0, y1, y2, y3, _⟩ := hSw; go_simp; (try with_reducible rfl))
                (try simp only [Act.put, List.setIfInBounds_toArray, List.set_cons_zero, List.set_cons_succ])
                refine heldL_nil ?_
                change wpAnyH _ _ _ _ _ (3 + 1) _ _ _
                refine wpAnyH_lone (k := 37) (o := ?oaa) (by kernel_rfl) ?hoaa ?hhaa
                case hoaa => (simp only [List.getElem?_toArray, List.getElem?_cons_zero, List.getElem?_cons_succ]; rfl)
                intro K hK
                rw [if_pos (by rfl)]
                go_simp
                (with_reducible refine (good_any A c l _ _ (hr.old KK.drew (by simp)) (by omega) hof _ rfl).mono ?_)
                rintro e w5 ⟨rfl, K5⟩
                rw [Hgn.out]
                (try go_wp2_with fail)
                refine hK.out _ _ ⟨K5.cell' (cell_drew' x0) (by simp), K5.cell' (cell_drew' x1) (by simp), K5.cell' (cell_drew' x2) (by simp), K5.cell' (cell_drew' x3) (by simp), K3.drew.trans K5⟩ (fun hHeld2 => ?_)
                clear hK K
                (try simp only [Act.put, List.setIfInBounds_toArray, List.set_cons_zero, List.set_cons_succ])
                change wpAnyH _ _ _ _ _ (2 + 1) _ _ _
                refine wpAnyH_take (i := 38) (oi := ?oa38) (v := ?va38) ?hia38 (by kernel_rfl) (by kernel_rfl) (by kernel_rfl) ?hQa38 (.inl ⟨?hwa38, ?hya38⟩) hHeld2 ?resta38
                case hia38 => (simp only [List.getElem?_toArray, List.getElem?_cons_zero, List.getElem?_cons_succ]; rfl)
                case hQa38 => exact fun _ _ _ h => h
                case hwa38 => rfl
                case hya38 => (intro w hSw; go_simp; (try with_reducible rfl))
                (try simp only [Act.put, List.setIfInBounds_toArray, List.set_cons_zero, List.set_cons_succ])
                change wpAnyH _ _ _ _ _ (1 + 1) _ _ _
                refine wpAnyH_take (i := 39) (oi := ?oa39) (v := ?va39) ?hia39 (by kernel_rfl) (by kernel_rfl) (by kernel_rfl) ?hQa39 (.inl ⟨?hwa39, ?hya39⟩) hHeld2 ?resta39
                case hia39 => (simp only [List.getElem?_toArray, List.getElem?_cons_zero, List.getElem?_cons_succ]; rfl)
                case hQa39 => exact fun _ _ _ h => h
                case hwa39 => rfl
                case hya39 => (intro w hSw; go_simp; (try with_reducible rfl))
                (try simp only [Act.put, List.setIfInBounds_toArray, List.set_cons_zero, List.set_cons_succ])
                change wpAnyH _ _ _ _ _ (0 + 1) _ _ _
                refine wpAnyH_take (i := 40) (oi := ?oa40) (v := ?va40) ?hia40 (by kernel_rfl) (by kernel_rfl) (by kernel_rfl) ?hQa40 (.inl ⟨?hwa40, ?hya40⟩) hHeld2 ?resta40
                case hia40 => (simp only [List.getElem?_toArray, List.getElem?_cons_zero, List.getElem?_cons_succ]; rfl)
                case hQa40 => exact fun _ _ _ h => h
                case hwa40 => rfl
                case hya40 => (intro w hSw; go_simp; (try with_reducible rfl))
                (try simp only [Act.put, List.setIfInBounds_toArray, List.set_cons_zero, List.set_cons_succ])
                refine wpAnyH_done (by kernel_rfl) ?_ _
                (try go_wp2)
                go_meet
                exact ⟨by first | rfl | (rw [Hfo.out]; simp; done) | simp [Hfo.out], K3.drew.trans K5⟩
              · have hov := Hov.out
                rw [decide_eq_false hka] at hov
                subst hov
                have hnk := Hf.out.2.1 hka
                have hb1 : ((kk : Int) == (a : Int)) = false := by simp; omega
                have hb2 : (kk == a) = false := by simp; omega
                have hb3 : decide (kk < n) = false := decide_eq_false (by omega)
                have hb4 : decide ((kk : Int) < (n : Int)) = false := decide_eq_false (by omega)
                clear hka
                refine wp_region_held_lex 37 (fun w' => w'.cell? ⟨bc, 0, none⟩ = some (.int .i64 a) ∧ w'.cell? ⟨bc, 1, none⟩ = some (.int .i64 n) ∧ w'.cell? ⟨bc, 2, none⟩ = some (.bool fo) ∧ w'.cell? ⟨bc, 3, none⟩ = some (.bool false) ∧ Keep [] W2 w') (by kernel_rfl) (by simp) (by kernel_rfl) (by kernel_rfl) (fun _ _ d _ _ h => by cases d <;> exact h) ⟨x0, x1, x2, x3, K3.drew⟩ ?_
                simp only [List.take_succ_cons, List.take_zero]
                refine heldL_yes (v := ?_) rfl (fun w hSw => ?_) ?_
                rotate_left
                · (obtain ⟨y0, y1, y2, y3, _⟩ := hSw; go_simp; (try with_reducible rfl))
                (try simp only [Act.put, List.setIfInBounds_toArray, List.set_cons_zero, List.set_cons_succ])
                refine heldL_yes (v := ?_) rfl (fun w hSw => ?_) ?_
                rotate_left
                · (obtain ⟨y0, y1, y2, y3, _⟩ := hSw; go_simp; (try with_reducible rfl))
                (try simp only [Act.put, List.setIfInBounds_toArray, List.set_cons_zero, List.set_cons_succ])
                refine heldL_yes (v := ?_) rfl (fun w hSw => ?_) ?_
                rotate_left
                · (obtain ⟨y0, y1, y2, y3, _⟩ := hSw; go_simp; (try with_reducible rfl))
                (try simp only [Act.put, List.setIfInBounds_toArray, List.set_cons_zero, List.set_cons_succ])
                refine heldL_yes (v := ?_) rfl (fun w hSw => ?_) ?_
                rotate_left
                · (obtain ⟨y0, y1, y2, y3, _⟩ := hSw; go_simp; (try with_reducible rfl))
                (try simp only [Act.put, List.setIfInBounds_toArray, List.set_cons_zero, List.set_cons_succ])
                refine heldL_yes (v := ?_) rfl (fun w hSw => ?_) ?_
                rotate_left
                · (obtain ⟨y0, y1, y2, y3, _⟩ := hSw; go_simp; (try with_reducible rfl))
                (try simp only [Act.put, List.setIfInBounds_toArray, List.set_cons_zero, List.set_cons_succ])
                refine heldL_yes (v := ?_) rfl (fun w hSw => ?_) ?_
                rotate_left
                · (obtain ⟨y0, y1, y2, y3, _⟩ := hSw; go_simp; (try with_reducible rfl))
                (try simp only [Act.put, List.setIfInBounds_toArray, List.set_cons_zero, List.set_cons_succ])
                refine heldL_yes (v := ?_) rfl (fun w hSw => ?_) ?_
                rotate_left
                · (obtain ⟨y0, y1, y2, y3, _⟩ := hSw; go_simp; (try with_reducible rfl))
                (try simp only [Act.put, List.setIfInBounds_toArray, List.set_cons_zero, List.set_cons_succ])
                refine heldL_yes (v := ?_) rfl (fun w hSw => ?_) ?_
                rotate_left
                · (obtain ⟨y0, y1, y2, y3, _⟩ := hSw; go_simp; (try with_reducible rfl))
                (try simp only [Act.put, List.setIfInBounds_toArray, List.set_cons_zero, List.set_cons_succ])
                refine heldL_yes (v := ?_) rfl (fun w hSw => ?_) ?_
                rotate_left
                · (obtain ⟨y0, y1, y2, y3, _⟩ := hSw; go_simp; (try with_reducible rfl))
                (try simp only [Act.put, List.setIfInBounds_toArray, List.set_cons_zero, List.set_cons_succ])
                refine heldL_yes (v := ?_) rfl (fun w hSw => ?_) ?_
                rotate_left
                · (obtain ⟨y0, y1, y2, y3, _⟩ := hSw; go_simp; (try with_reducible rfl))
                (try simp only [Act.put, List.setIfInBounds_toArray, List.set_cons_zero, List.set_cons_succ])
                refine heldL_yes (v := ?_) rfl (fun w hSw => ?_) ?_
                rotate_left
                · (obtain ⟨y0, y1, y2, y3, _⟩ := hSw; go_simp; (try with_reducible rfl))
                (try simp only [Act.put, List.setIfInBounds_toArray, List.set_cons_zero, List.set_cons_succ])
                refine heldL_no rfl ?_
                (try simp only [Act.put, List.setIfInBounds_toArray, List.set_cons_zero, List.set_cons_succ])
                refine heldL_no rfl ?_
                (try simp only [Act.put, List.setIfInBounds_toArray, List.set_cons_zero, List.set_cons_succ])
                refine heldL_no rfl ?_
                (try simp only [Act.put, List.setIfInBounds_toArray, List.set_cons_zero, List.set_cons_succ])
                refine heldL_no rfl ?_
                (try simp only [Act.put, List.setIfInBounds_toArray, List.set_cons_zero, List.set_cons_succ])
                refine heldL_no rfl ?_
                (try simp only [Act.put, List.setIfInBounds_toArray, List.set_cons_zero, List.set_cons_succ])
                refine heldL_no rfl ?_
                (try simp only [Act.put, List.setIfInBounds_toArray, List.set_cons_zero, List.set_cons_succ])
                refine heldL_yes (v := ?_) rfl (fun w hSw => ?_) ?_
                rotate_left
                · (obtain ⟨y0, y1, y2, y3, _⟩ := hSw; go_simp; (try with_reducible rfl))
                (try simp only [Act.put, List.setIfInBounds_toArray, List.set_cons_zero, List.set_cons_succ])
                refine heldL_yes (v := ?_) rfl (fun w hSw => ?_) ?_
                rotate_left
                · (obtain ⟨y0, y1, y2, y3, _⟩ := hSw; go_simp; (try with_reducible rfl))
                (try simp only [Act.put, List.setIfInBounds_toArray, List.set_cons_zero, List.set_cons_succ])
                refine heldL_yes (v := ?_) rfl (fun w hSw => ?_) ?_
                rotate_left
                · (obtain ⟨y0, y1, y2, y3, _⟩ := hSw; go_simp; (try with_reducible rfl))
                (try simp only [Act.put, List.setIfInBounds_toArray, List.set_cons_zero, List.set_cons_succ])
                refine heldL_yes (v := ?_) rfl (fun w hSw => ?_) ?_
                rotate_left
                · (obtain ⟨y0, y1, y2, y3, _⟩ := hSw; go_simp; (try with_reducible rfl))
                (try simp only [Act.put, List.setIfInBounds_toArray, List.set_cons_zero, List.set_cons_succ])
                refine heldL_yes (v := ?_) rfl (fun w hSw => ?_) ?_
                rotate_left
                · (obtain ⟨y0, y1, y2, y3, _⟩ := hSw; go_simp; (try with_reducible rfl))
                (try simp only [Act.put, List.setIfInBounds_toArray, List.set_cons_zero, List.set_cons_succ])
                refine heldL_yes (v := ?_) rfl (fun w hSw => ?_) ?_
                rotate_left
                · (obtain ⟨y0, y1, y2, y3, _⟩ := hSw; go_simp; (try with_reducible rfl))
                (try simp only [Act.put, List.setIfInBounds_toArray, List.set_cons_zero, List.set_cons_succ])
                refine heldL_yes (v := ?_) rfl (fun w hSw => ?_) ?_
                rotate_left
                · (obtain ⟨y0, y1, y2, y3, _⟩ := hSw; go_simp; (try with_reducible rfl))
                (try simp only [Act.put, List.setIfInBounds_toArray, List.set_cons_zero, List.set_cons_succ])
                refine heldL_yes (v := ?_) rfl (fun w hSw => ?_) ?_
                rotate_left
                · (obtain ⟨y0, y1, y2, y3, _⟩ := hSw; go_simp; (try with_reducible rfl))
                (try simp only [Act.put, List.setIfInBounds_toArray, List.set_cons_zero, List.set_cons_succ])
                refine heldL_yes (v := ?_) rfl (fun w hSw => ?_) ?_
                rotate_left
                · (obtain ⟨y0, y1, y2, y3, _⟩ := hSw; go_simp; (try with_reducible rfl))
                (try simp only [Act.put, List.setIfInBounds_toArray, List.set_cons_zero, List.set_cons_succ])
                refine heldL_yes (v := ?_) rfl (fun w hSw => ?_) ?_
                rotate_left
                · (obtain ⟨y0, y1, y2, y3, _⟩ := hSw; go_simp; (try with_reducible rfl))
                (try simp only [Act.put, List.setIfInBounds_toArray, List.set_cons_zero, List.set_cons_succ])
                refine heldL_yes (v := ?_) rfl (fun w hSw => ?_) ?_
                rotate_left
                · (obtain ⟨y0, y1, y2, y3, _⟩ := hSw; go_simp; (try with_reducible rfl))
                (try simp only [Act.put, List.setIfInBounds_toArray, List.set_cons_zero, List.set_cons_succ])
                refine heldL_yes (v := ?_) rfl (fun w hSw => ?_) ?_
                rotate_left
                · (obtain ⟨y0, y1, y2, y3, _⟩ := hSw; go_simp; (try with_reducible rfl))
                (try simp only [Act.put, List.setIfInBounds_toArray, List.set_cons_zero, List.set_cons_succ])
                refine heldL_yes (v := ?_) rfl (fun w hSw => ?_) ?_
                rotate_left
                · (obtain ⟨y0, y1, y2, y3, _⟩ := hSw; go_simp; (try with_reducible rfl))
                (try simp only [Act.put, List.setIfInBounds_toArray, List.set_cons_zero, List.set_cons_succ])
                refine heldL_yes (v := ?_) rfl (fun w hSw => ?_) ?_
                rotate_left
                · (obtain ⟨y0, y1, y2, y3, _⟩ := hSw; go_simp; (try with_reducible rfl))
                (try simp only [Act.put, List.setIfInBounds_toArray, List.set_cons_zero, List.set_cons_succ])
                refine heldL_yes (v := ?_) rfl (fun w hSw => ?_) ?_
                rotate_left
                · (obtain ⟨y0, y1, y2, y3, _⟩ := hSw; go_simp; (try with_reducible rfl))
                (try simp only [Act.put, List.setIfInBounds_toArray, List.set_cons_zero, List.set_cons_succ])
                refine heldL_yes (v := ?_) rfl (fun w hSw => ?_) ?_
                rotate_left
                · (obtain ⟨y0, y1, y2, y3, _⟩ := hSw; go_simp; (try with_reducible rfl))
                (try simp only [Act.put, List.setIfInBounds_toArray, List.set_cons_zero, List.set_cons_succ])
                refine heldL_yes (v := ?_) rfl (fun w hSw => ?_) ?_
                rotate_left
                · (obtain ⟨y0, y1, y2, y3, _⟩ := hSw; go_simp; (try with_reducible rfl))
                (try simp only [Act.put, List.setIfInBounds_toArray, List.set_cons_zero, List.set_cons_succ])
                refine heldL_yes (v := ?_) rfl (fun w hSw => ?_) ?_
                rotate_left
                · (obtain ⟨y0, y1, y2, y3, _⟩ := hSw; go_simp; (try with_reducible rfl))
                (try simp only [Act.put, List.setIfInBounds_toArray, List.set_cons_zero, List.set_cons_succ])
                refine heldL_yes (v := ?_) rfl (fun w hSw => ?_) ?_
                rotate_left
                · (obtain ⟨y0, y1, y2, y3, _⟩ := hSw; go_simp; (try with_reducible rfl))
                (try simp only [Act.put, List.setIfInBounds_toArray, List.set_cons_zero, List.set_cons_succ])
                refine heldL_yes (v := ?_) rfl (fun w hSw => ?_) ?_
                rotate_left
                · (obtain ⟨y0, y1, y2, y3, _⟩ := hSw; go_simp; (try with_reducible rfl))
                (try simp only [Act.put, List.setIfInBounds_toArray, List.set_cons_zero, List.set_cons_succ])
                refine heldL_nil ?_
                change wpAnyH _ _ _ _ _ (3 + 1) _ _ _
                refine wpAnyH_lone (k := 37) (o := ?oab) (by kernel_rfl) ?hoab ?hhab
                case hoab => (simp only [List.getElem?_toArray, List.getElem?_cons_zero, List.getElem?_cons_succ]; rfl)
                intro K hK
                rw [if_pos (by rfl)]
                go_simp
                (with_reducible refine (good_any A c l _ _ (hr.old KK.drew (by simp)) (by omega) hof _ rfl).mono ?_)
                rintro e w5 ⟨rfl, K5⟩
                rw [Hgn.out]
                (try go_wp2_with fail)
                refine hK.out _ _ ⟨K5.cell' (cell_drew' x0) (by simp), K5.cell' (cell_drew' x1) (by simp), K5.cell' (cell_drew' x2) (by simp), K5.cell' (cell_drew' x3) (by simp), K3.drew.trans K5⟩ (fun hHeld2 => ?_)
                clear hK K
                (try simp only [Act.put, List.setIfInBounds_toArray, List.set_cons_zero, List.set_cons_succ])
                change wpAnyH _ _ _ _ _ (2 + 1) _ _ _
                refine wpAnyH_take (i := 38) (oi := ?ob38) (v := ?vb38) ?hib38 (by kernel_rfl) (by kernel_rfl) (by kernel_rfl) ?hQb38 (.inl ⟨?hwb38, ?hyb38⟩) hHeld2 ?restb38
                case hib38 => (simp only [List.getElem?_toArray, List.getElem?_cons_zero, List.getElem?_cons_succ]; rfl)
                case hQb38 => exact fun _ _ _ h => h
                case hwb38 => rfl
                case hyb38 => (intro w hSw; go_simp; (try with_reducible rfl))
                (try simp only [Act.put, List.setIfInBounds_toArray, List.set_cons_zero, List.set_cons_succ])
                change wpAnyH _ _ _ _ _ (1 + 1) _ _ _
                refine wpAnyH_take (i := 39) (oi := ?ob39) (v := ?vb39) ?hib39 (by kernel_rfl) (by kernel_rfl) (by kernel_rfl) ?hQb39 (.inl ⟨?hwb39, ?hyb39⟩) hHeld2 ?restb39
                case hib39 => (simp only [List.getElem?_toArray, List.getElem?_cons_zero, List.getElem?_cons_succ]; rfl)
                case hQb39 => exact fun _ _ _ h => h
                case hwb39 => rfl
                case hyb39 => (intro w hSw; go_simp; (try with_reducible rfl))
                (try simp only [Act.put, List.setIfInBounds_toArray, List.set_cons_zero, List.set_cons_succ])
                change wpAnyH _ _ _ _ _ (0 + 1) _ _ _
                refine wpAnyH_take (i := 40) (oi := ?ob40) (v := ?vb40) ?hib40 (by kernel_rfl) (by kernel_rfl) (by kernel_rfl) ?hQb40 (.inl ⟨?hwb40, ?hyb40⟩) hHeld2 ?restb40
                case hib40 => (simp only [List.getElem?_toArray, List.getElem?_cons_zero, List.getElem?_cons_succ]; rfl)
                case hQb40 => exact fun _ _ _ h => h
                case hwb40 => rfl
                case hyb40 => (intro w hSw; go_simp; (try with_reducible rfl))
                (try simp only [Act.put, List.setIfInBounds_toArray, List.set_cons_zero, List.set_cons_succ])
                refine wpAnyH_done (by kernel_rfl) ?_ _
                (try go_wp2)
                go_meet
                exact ⟨by first | rfl | (rw [Hfo.out]; simp; done) | simp [Hfo.out], K3.drew.trans K5⟩
            case rest =>
              obtain ⟨rfl, K4⟩ := hcut
              rename World => W4
              clear x0 x1 x2 x3 B3 KK K3
              have B4 := K4.blk B2 (by simp)
              have x0 := blk_cell B4 0
              have x1 := blk_cell B4 1
              have x2 := blk_cell B4 2
              have x3 := blk_cell B4 3
              simp only [List.getElem?_toArray, List.getElem?_cons_zero, List.getElem?_cons_succ] at x0 x1 x2 x3
              go_wp2_with fail
              clear x0 x1 x2 x3
              go_loopw [15, 13, 14] (fun vn vg vl wi => ∃ q : Nat, a ≤ q ∧ q ≤ kk ∧ vn = .int .i64 q ∧ vg = .int .i64 ((scan l a (q - a)).1 : Int) ∧ vl = .int .i64 ((scan l a (q - a)).2 : Int) ∧ Keep [] W2 wi) (fun vn _ _ _ => kk - (intOf vn).toNat)
              case atStart => exact ⟨a, Nat.le_refl _, hkr.1, rfl, by rw [Nat.sub_self]; rfl, by rw [Nat.sub_self]; rfl, K4⟩
              case round =>
                clear K4 B4
                obtain ⟨q, hq1, hq2, rfl, rfl, rfl, K5⟩ := hrel
                have hsl := scan_le l a (q - a)
                by_cases hq : q < kk
                · have hsc : scan l a (q + 1 - a) = if goodN l q = true then ((scan l a (q - a)).1 + 1, q) else scan l a (q - a) := by
                    rw [show q + 1 - a = q - a + 1 by omega, scan, show a + (q - a) = q by omega]
                  have hq' : (q : Int) < (kk : Int) := by omega
                  have hs3 := hsl.1
                  obtain ⟨s1, s2, hs⟩ : ∃ s1 s2, scan l a (q - a) = (s1, s2) := ⟨_, _, rfl⟩
                  rw [hs] at hsc hs3 ⊢
                  simp only at hsc hs3 ⊢
                  have HSC := hid hsc
                  clear hsc hs hsl
                  have hs1 : (s1 : Int) ≤ 600 := by omega
                  have hq600 : (q : Int) ≤ 600 := by omega
                  go_wp2_with fail
                  refine (good_any A c l _ _ (hr.old ((K14.trans K2).trans K5) (by simp)) (by omega) hof _ rfl).mono ?_
                  rintro e w6 ⟨rfl, K6⟩
                  rw [good_nat]
                  cases hg : goodN l q with
                  | true =>
                    go_wp2
                    go_roundw
                    case rel => exact ⟨q + 1, by omega, hq, by go_num, by rw [HSC.out, if_pos hg]; simp, by rw [HSC.out, if_pos hg], K5.trans K6⟩
                    case measure => simp [intOf]; omega
                  | false =>
                    go_wp2
                    go_roundw
                    case rel => exact ⟨q + 1, by omega, hq, by go_num, by rw [HSC.out, if_neg (by simp [hg])], by rw [HSC.out, if_neg (by simp [hg])], K5.trans K6⟩
                    case measure => simp [intOf]; omega
                · obtain rfl : q = kk := by omega
                  have B5 := K5.blk B2 (by simp)
                  have x0 := blk_cell B5 0
                  have x1 := blk_cell B5 1
                  have x2 := blk_cell B5 2
                  have x3 := blk_cell B5 3
                  simp only [List.getElem?_toArray, List.getElem?_cons_zero, List.getElem?_cons_succ] at x0 x1 x2 x3
                  by_cases hka : q = a
                  · have hov := Hov.out
                    rw [decide_eq_true hka] at hov
                    subst hov
                    go_wp2
                    go_roundw
                    case rel => exact ⟨i + 1, n, hlt, hnl, by go_num, rfl, HD2, K2.trans K5⟩
                    case measure => simp [intOf]; omega
                  · have hov := Hov.out
                    rw [decide_eq_false hka] at hov
                    subst hov
                    have h3 := Hf.out.2.2.1 hka
                    have h4 := Hf.out.2.2.2 hka
                    generalize (scan l a (q - a)).1 = s1 at *
                    generalize (scan l a (q - a)).2 = s2 at *
                    rcases Nat.eq_zero_or_pos s1 with h0 | h0
                    · have h5 := h4 h0
                      subst h0 h5
                      clear h3 h4
                      go_wp2
                      go_roundw
                      case rel => exact ⟨i + 1, _, hlt, hnl, by go_num, rfl, HD2, K2.trans K5⟩
                      case measure => simp [intOf]; omega
                    · have h5 := h3 h0
                      have h0' : (0 : Int) < (s1 : Int) := by omega
                      have hne : ((s1 : Int) == 0) = false := by simp; omega
                      have hs2 : (s2 : Int) ≤ 600 := by omega
                      clear h3 h4
                      subst h5
                      go_wp2
                      go_roundw
                      case rel => exact ⟨i + 1, _, hlt, hnl, by go_num, by first | rfl | simp, HD2, K2.trans K5⟩
                      case measure => simp [intOf]; omega
        · obtain rfl : i = CS.length := by omega
          have hae : a = l.length := by
            rcases Nat.lt_or_ge a l.length with h1 | h1
            · exfalso
              obtain ⟨n, h2, h3, h4, h5⟩ := cutOf_range (h := h) h1
              have h6 := HD.out
              rw [List.drop_length, cutsL_cons h1 h3 h4] at h6
              cases h6
            · omega
          subst hae
          clear HD hi hal hlt
          go_wp2_with fail
          refine (steps_any g m' _ (M4.keep K (by simp))).mono ?_
          rintro e w5 ⟨rfl, rfl⟩
          rw [r2'.out]
          go_wp2_with fail
          refine (held_any g m' _ (M4.keep K (by simp))).mono ?_
          rintro e w5 ⟨rfl, rfl⟩
          rw [r3'.out]
          go_wp2
          go_ret
          exact ⟨rfl, (K14.trans K).below (Nat.le_refl _) (by simp)⟩

end Go.Proofs.Ytgelccenbceeoaa
