/- Fault: FaultFound. -/
import Derived.Test.YtihiffemeodfhaaDoorFtWalks
namespace Go.Proofs.YtihiffemeodfhaaDoor
open Go.RowKit Go.Extern.Stop Go.Stop Go.Extern
set_option linter.unusedSimpArgs false
set_option linter.unusedVariables false

set_option maxRecDepth 100000 in
set_option maxHeartbeats 4000000 in
theorem rclass_any (k : Int) (w : World) : Calls Tryd.prog 14 #[.int .i64 k] w fun e w' => e = .returned (.int .i64 (clsN k : Int)) ∧ w' = w := by
  rcases cls_cases k with ⟨h0, h⟩ | h
  · rw [h0]
    have e0 := eqf h.1
    have e1 := eqf h.2.1
    have e2 := eqf h.2.2.1
    have e3 := eqf h.2.2.2.1
    have e4 := eqf h.2.2.2.2.1
    have e5 := eqf h.2.2.2.2.2.1
    have e6 := eqf h.2.2.2.2.2.2.1
    have e7 := eqf h.2.2.2.2.2.2.2.1
    have e8 := eqf h.2.2.2.2.2.2.2.2.1
    have e9 := eqf h.2.2.2.2.2.2.2.2.2.1
    have e10 := eqf h.2.2.2.2.2.2.2.2.2.2.1
    have e11 := eqf h.2.2.2.2.2.2.2.2.2.2.2.1
    have e12 := eqf h.2.2.2.2.2.2.2.2.2.2.2.2.1
    have e13 := eqf h.2.2.2.2.2.2.2.2.2.2.2.2.2.1
    have e14 := eqf h.2.2.2.2.2.2.2.2.2.2.2.2.2.2.1
    have e15 := eqf h.2.2.2.2.2.2.2.2.2.2.2.2.2.2.2.1
    have e16 := eqf h.2.2.2.2.2.2.2.2.2.2.2.2.2.2.2.2.1
    have e17 := eqf h.2.2.2.2.2.2.2.2.2.2.2.2.2.2.2.2.2.1
    have e18 := eqf h.2.2.2.2.2.2.2.2.2.2.2.2.2.2.2.2.2.2.1
    have e19 := eqf h.2.2.2.2.2.2.2.2.2.2.2.2.2.2.2.2.2.2.2.1
    have e20 := eqf h.2.2.2.2.2.2.2.2.2.2.2.2.2.2.2.2.2.2.2.2
    clear h h0
    go_enter Tryd.func14, Tryd.ntmps14
    go_wp2
    go_ret
    exact ⟨rfl, rfl⟩
  · rcases h with rfl | rfl | rfl | rfl | rfl | rfl | rfl | rfl | rfl | rfl | rfl | rfl | rfl | rfl | rfl | rfl | rfl | rfl | rfl | rfl | rfl
    all_goals
      go_enter Tryd.func14, Tryd.ntmps14
      go_wp2
      go_ret
      exact ⟨by simp [clsN], rfl⟩

theorem cls_six (k : Int) : clsN k = 0 ∨ clsN k ∈ six := by
  unfold clsN
  repeat' split
  all_goals simp [six]
theorem clsIn_six : ∀ e : Er, e.clsIn six
  | .loc _ _ k => cls_six k
  | .oth => trivial
  | .wrap e => clsIn_six e
theorem isC_first {e : Er} {b : Nat} {a k : Int} (h : e.first = some (b, a, k)) (j : Nat) : isC j e = (clsN k == j) := by
  induction e with
  | loc b' a' k' => simp [Er.first] at h; obtain ⟨_, _, rfl⟩ := h; rfl
  | oth => simp [Er.first] at h
  | wrap e ih => exact ih h
def firstF (e : Er) : Option (Int × Int) := e.first.map (·.2)
theorem faultOf_some {e : Er} {a k : Int} (h : firstF e = some (a, k)) : faultOf e = (k, a, true) ∧ ∃ b, e.first = some (b, a, k) := by
  unfold firstF at h
  cases hf : e.first with
  | none => rw [hf] at h; cases h
  | some x =>
    obtain ⟨b, a', k'⟩ := x
    rw [hf] at h
    simp at h
    obtain ⟨rfl, rfl⟩ := h
    refine ⟨?_, b, rfl⟩
    unfold faultOf
    rw [hf]
theorem faultOf_none {e : Er} (h : firstF e = none) : faultOf e = (0, 0, false) := by
  unfold firstF at h
  unfold faultOf
  cases hf : e.first with
  | none => rfl
  | some x => rw [hf] at h; cases h
theorem abs_of (d : Int) (h : -9223372036854775808 ≤ d ∧ d ≤ 9223372036854775807) : ∃ n : Nat, (if d < 0 then -(d + 1) else d) = (n : Int) ∧ n ≤ 9223372036854775807 :=
  ⟨(if d < 0 then -(d + 1) else d).toNat, by split <;> omega, by split <;> omega⟩

set_option maxRecDepth 100000 in
set_option maxHeartbeats 8000000 in
theorem walkFound (k a d l s : Int) (hd : -9223372036854775808 ≤ d ∧ d ≤ 9223372036854775807) (hl : -9223372036854775808 ≤ l ∧ l ≤ 9223372036854775807) (S : Nat → Addr) (w : World) (C : Cls six S w) (H : Hnd w) :
    Calls Tryd.prog 5 #[.int .i64 k, .int .i64 a, .int .i64 d, .int .i64 l, .int .i64 s] w fun e w' => e = .returned (.bool true) ∧ Below w.heap.size w w' := by
  obtain ⟨dn, hdn, hdn1⟩ := abs_of d hd
  obtain ⟨ln, hln, hln1⟩ := abs_of l hl
  have HD := hid hdn
  have HL := hid hln
  clear hdn hln
  go_enter Tryd.func5, Tryd.ntmps5
  go_wp2_with fail
  refine (shown_any _ S _ C H (by simp [six]) (by simp [six])).mono ?_
  rintro e w1 ⟨rfl, K1⟩
  go_upto_if 27 with (fail)
  go_cut [2] from 28 to 30 (fun v wc => v = .int .i64 (dn : Int) ∧ wc = w1)
  case first =>
    by_cases hneg : d < 0
    · have hv : -(d + 1) = (dn : Int) := by rw [← HD.out, if_pos hneg]
      have HV := hid hv
      clear hv
      go_wp2
      go_meet
      exact ⟨by rw [← HV.out], rfl⟩
    · have hv : d = (dn : Int) := by rw [← HD.out, if_neg hneg]
      have HV := hid hv
      clear hv
      go_wp2
      go_meet
      exact ⟨by rw [← HV.out], rfl⟩
  case rest =>
  obtain ⟨rfl, rfl⟩ := hcut
  go_upto_if 32 with (fail)
  go_cut [3] from 33 to 35 (fun v wd => v = .int .i64 (ln : Int) ∧ wd = wc)
  case first =>
    by_cases hneg : l < 0
    · have hv : -(l + 1) = (ln : Int) := by rw [← HL.out, if_pos hneg]
      have HV := hid hv
      clear hv
      go_wp2
      go_meet
      exact ⟨by rw [← HV.out], rfl⟩
    · have hv : l = (ln : Int) := by rw [← HL.out, if_neg hneg]
      have HV := hid hv
      clear hv
      go_wp2
      go_meet
      exact ⟨by rw [← HV.out], rfl⟩
  case rest =>
  obtain ⟨rfl, rfl⟩ := hcut
  have K2 := K1.alloc (.cells #[.int .i64 k, .int .i64 a] 33)
  have F2 := blk_new wc (.cells #[.int .i64 k, .int .i64 a] 33)
  obtain ⟨o, ho⟩ : ∃ o : Bool, (s.tmod 2 == 1) = o := ⟨_, rfl⟩
  go_upto_if 43 with (fail)
  obtain ⟨W2, hW2⟩ : ∃ W, wc.alloc (.cells #[.int .i64 k, .int .i64 a] 33) = W := ⟨_, rfl⟩
  rw [hW2] at K2 F2 ⊢
  clear hW2
  obtain ⟨F, hF⟩ : ∃ F, wc.heap.size = F := ⟨_, rfl⟩
  rw [hF] at F2 ⊢
  clear hF K1
  go_cut [12] from 44 to 48 (fun v wd => ∃ er : Er, v = er.val ∧ er.In wd ∧ Hid (firstF er = if o then some (s, s) else none) ∧ Keep [] W2 wd)
  case first =>
    cases o with
    | true =>
      have R := blk_new W2 (.cells #[.int .i64 s, .int .i64 s] 39)
      have K := (Keep.refl [] W2).alloc (.cells #[.int .i64 s, .int .i64 s] 39)
      go_wp2
      go_meet
      exact ⟨.loc W2.heap.size s s, rfl, R, hid rfl, K⟩
    | false =>
      go_wp2
      go_meet
      exact ⟨.oth, rfl, trivial, hid rfl, Keep.refl _ _⟩
  case rest =>
  obtain ⟨er0, rfl, hI0, HF0, K3⟩ := hcut
  obtain ⟨W3, hW3⟩ : ∃ W, W = wc := ⟨_, rfl⟩
  subst hW3
  have K4 := K2.trans K3
  have F4 := K3.blk F2 (by simp)
  clear K2 F2 K3
  obtain ⟨nb, hnb⟩ : ∃ nb, ln % 9 = nb := ⟨_, rfl⟩
  have hnb9 : nb ≤ 8 := by omega
  have hnbi : (ln : Int) % 9 = (nb : Int) := by omega
  clear hnb
  go_wp2_with fail
  go_loopw [12, 13] (fun v12 v13 wr => ∃ (er : Er) (i : Nat), i ≤ nb ∧ v12 = er.val ∧ v13 = .int .i64 (i : Int) ∧ er.In W3 ∧ Hid (firstF er = if o then some (s, s) else none) ∧ wr = W3) (fun _ v13 _ => 9 - (RowKit.intOf v13).toNat)
  case atStart => exact ⟨er0, 0, Nat.zero_le _, rfl, rfl, hI0, HF0, rfl⟩
  case round =>
    clear hI0 HF0
    obtain ⟨er, i, hi, rfl, rfl, hI, HF, rfl⟩ := hrel
    by_cases hlt : i < nb
    · have hlt2 : (i : Int) < (nb : Int) := by omega
      have HF2 : Hid (firstF (Er.wrap er) = if o then some (s, s) else none) := HF
      obtain ⟨ty, vv, hvv⟩ := val_iface er
      rw [hvv]
      have HV := hid hvv
      clear hvv
      go_wp2
      go_roundw
      case rel => exact ⟨.wrap er, i + 1, hlt, by rw [← HV.out]; rfl, by go_num, hI, HF2, trivial⟩
      case measure => simp [RowKit.intOf]; omega
    · obtain rfl : i = nb := by omega
      have hofE := of_any er wr (H.keep K4) hI
      obtain ⟨ty, vv, hvv⟩ := val_iface er
      rw [hvv] at hofE ⊢
      clear hvv hI
      go_upto_if 60 with (fail)
      clear hnbi
      go_cut [10, 14, 15, 16, 17] from 61 to 85 (fun v10 _ _ _ _ we => v10 = .bool false ∧ Keep [] wr we)
      case first =>
        cases o with
        | true =>
          obtain ⟨hf, _⟩ := faultOf_some (show firstF er = some (s, s) from HF.out)
          rw [hf] at hofE
          have HF2 := hid hf
          clear hf
          go_wp2_with fail
          refine hofE.mono ?_
          rintro x w5 ⟨rfl, K5⟩
          have B := blk_new w5 (.cells #[.int .i64 s, .int .i64 s] 33)
          have b0 := blk_cell B 0
          have b1 := blk_cell B 1
          simp only [List.getElem?_toArray, List.getElem?_cons_zero, List.getElem?_cons_succ] at b0 b1
          have KK := K5.alloc (.cells #[.int .i64 s, .int .i64 s] 33)
          go_wp2
          go_meet
          exact ⟨rfl, KK⟩
        | false =>
          have hf := faultOf_none (show firstF er = none from HF.out)
          rw [hf] at hofE
          have HF2 := hid hf
          clear hf
          go_wp2_with fail
          refine hofE.mono ?_
          rintro x w5 ⟨rfl, K5⟩
          have B := blk_new w5 (.cells #[.int .i64 0, .int .i64 0] 33)
          have b0 := blk_cell B 0
          have b1 := blk_cell B 1
          simp only [List.getElem?_toArray, List.getElem?_cons_zero, List.getElem?_cons_succ] at b0 b1
          have KK := K5.alloc (.cells #[.int .i64 0, .int .i64 0] 33)
          go_wp2
          go_meet
          exact ⟨rfl, KK⟩
      case rest =>
      obtain ⟨rfl, K5⟩ := hcut
      obtain ⟨W5, hW5⟩ : ∃ W, W = wc := ⟨_, rfl⟩
      subst hW5
      have K6 := K4.trans K5
      have F5 := K5.blk F4 (by simp)
      have f0 := blk_cell F5 0
      have f1 := blk_cell F5 1
      simp only [List.getElem?_toArray, List.getElem?_cons_zero, List.getElem?_cons_succ] at f0 f1
      have L6 := blk_new W5 (.cells #[.int .i64 a, .int .i64 k] 39)
      have F6 := blk_alloc F5 (.cells #[.int .i64 a, .int .i64 k] 39)
      have K7 := K6.alloc (.cells #[.int .i64 a, .int .i64 k] 39)
      clear hofE K4 K5 F4 F5 HF ho
      obtain ⟨md, hmd⟩ : ∃ md, dn % 9 = md := ⟨_, rfl⟩
      have hmd9 : md ≤ 8 := by omega
      have hmdi : (dn : Int) % 9 = (md : Int) := by omega
      clear hmd
      go_wp2_with fail
      obtain ⟨b0, hb0⟩ : ∃ b, W5.heap.size = b := ⟨_, rfl⟩
      rw [hb0] at L6 ⊢
      clear hb0
      generalize W5.alloc (.cells #[.int .i64 a, .int .i64 k] 39) = W6 at *
      go_loopw [12, 18] (fun v12 v18 wr => ∃ (er : Er) (i : Nat), i ≤ md ∧ v12 = er.val ∧ v18 = .int .i64 (i : Int) ∧ er.In W6 ∧ Hid (er.first = some (b0, a, k)) ∧ wr = W6) (fun _ v18 _ => 9 - (RowKit.intOf v18).toNat)
      case atStart => exact ⟨.loc b0 a k, 0, Nat.zero_le _, rfl, rfl, L6, hid rfl, rfl⟩
      case round =>
        clear L6
        obtain ⟨er, i, hi, rfl, rfl, hI, HF, rfl⟩ := hrel
        by_cases hlt : i < md
        · have hlt2 : (i : Int) < (md : Int) := by omega
          have HF2 : Hid ((Er.wrap er).first = some (b0, a, k)) := HF
          obtain ⟨ty, vv, hvv⟩ := val_iface er
          rw [hvv]
          have HV := hid hvv
          clear hvv
          go_wp2
          go_roundw
          case rel => exact ⟨.wrap er, i + 1, hlt, by rw [← HV.out]; rfl, by go_num, hI, HF2, trivial⟩
          case measure => simp [RowKit.intOf]; omega
        · obtain rfl : i = md := by omega
          have hofE := of_any er wr (H.keep K7) hI
          have hfo : faultOf er = (k, a, true) := by unfold faultOf; rw [HF.out]
          rw [hfo] at hofE
          have his := fun W (k' : Keep [] wr W) (j : Nat) (hj : j ∈ six) (hj0 : j ≠ 0) => is_any six S j hj hj0 er W ((C.keep K7).keep k') (hI.keep k') (clsIn_six er)
          have hic := fun j => isC_first HF.out j
          have HIC := hid hic
          obtain ⟨ty, vv, hvv⟩ := val_iface er
          rw [hvv] at hofE his ⊢
          have HFO := hid hfo
          clear hvv hI hfo hic
          go_wp2_with fail
          refine hofE.mono ?_
          rintro x w8 ⟨rfl, K8⟩
          have F8 := blk_alloc (K8.blk F6 (by simp)) (.cells #[.int .i64 k, .int .i64 a] 33)
          have B8 := blk_new w8 (.cells #[.int .i64 k, .int .i64 a] 33)
          have K9 := K8.alloc (.cells #[.int .i64 k, .int .i64 a] 33)
          have g0 := blk_cell F8 0
          have g1 := blk_cell F8 1
          have b0' := blk_cell B8 0
          have b1' := blk_cell B8 1
          simp only [List.getElem?_toArray, List.getElem?_cons_zero, List.getElem?_cons_succ] at g0 g1 b0' b1'
          clear hofE F6 F8 B8
          go_wp2_with fail
          refine (rclass_any k _).mono ?_
          rintro x w9 ⟨rfl, rfl⟩
          go_wp2_with fail
          refine (classes_any S _ (C.keep (K7.trans K9))).mono ?_
          rintro x w10 ⟨rfl, rfl⟩
          have K10 := K9.alloc (.cells (six.map (clsV S)).toArray 27)
          have L10 := blk_new (w8.alloc (.cells #[.int .i64 k, .int .i64 a] 33)) (.cells (six.map (clsV S)).toArray 27)
          rw [size_alloc'] at L10
          clear g0 g1 b0' b1'
          go_wp2_with fail
          have hl : ∀ i, i < 6 → (six.map (clsV S)).toArray[i]? = some (Value.iface 84 (.pointer (some (S (i + 1))))) := fun i hi => by
            obtain rfl | rfl | rfl | rfl | rfl | rfl : i = 0 ∨ i = 1 ∨ i = 2 ∨ i = 3 ∨ i = 4 ∨ i = 5 := by omega
            all_goals rfl
          have HLL := hid hl
          clear hl
          generalize (w8.alloc (.cells #[.int .i64 k, .int .i64 a] 33)).alloc (.cells (six.map (clsV S)).toArray 27) = W10 at *
          go_loopw [23] (fun v23 wq => ∃ i : Nat, i ≤ 6 ∧ v23 = .int .i64 (i : Int) ∧ Keep [] W10 wq) (fun v23 _ => 6 - (RowKit.intOf v23).toNat)
          case atStart => exact ⟨0, Nat.zero_le _, rfl, Keep.refl _ _⟩
          case round =>
            obtain ⟨i, hi, rfl, K⟩ := hrel
            by_cases hlt : i < 6
            · have hlt2 : (i : Int) < 6 := by omega
              have hj : i + 1 ∈ six := by
                obtain rfl | rfl | rfl | rfl | rfl | rfl : i = 0 ∨ i = 1 ∨ i = 2 ∨ i = 3 ∨ i = 4 ∨ i = 5 := by omega
                all_goals simp [six]
              have c0 := (blk_cell (K.blk L10 (by simp)) i).trans (HLL.out i hlt)
              have hi1 := his _ (K10.trans K) (i + 1) hj (by omega)
              obtain ⟨r, hr⟩ : ∃ r, isC (i + 1) er = r := ⟨_, rfl⟩
              rw [hr] at hi1
              have hq : ((clsN k : Int) == (i : Int) + 1) = r := by
                rw [← hr, HIC.out, Bool.eq_iff_iff]
                simp
                omega
              clear hr
              generalize S (i + 1) = sa at *
              go_wp2_with fail
              refine hi1.mono ?_
              rintro x w11 ⟨rfl, K11⟩
              clear hi1
              go_wp2
              go_roundw
              case rel => exact ⟨i + 1, hlt, by go_num, K.trans K11⟩
              case measure => simp [RowKit.intOf]; omega
            · obtain rfl : i = 6 := by omega
              go_wp2
              go_ret
              exact ⟨rfl, ((K7.trans K10).trans K).below (Nat.le_refl _) (by simp)⟩

end Go.Proofs.YtihiffemeodfhaaDoor
