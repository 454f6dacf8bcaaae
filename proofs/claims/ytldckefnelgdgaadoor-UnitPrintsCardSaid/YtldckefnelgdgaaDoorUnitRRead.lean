/- Layer 8: the reference's Read, by a contract. -/
import Derived.Test.YtldckefnelgdgaaDoorUnitRef
namespace Go.Proofs.YtldckefnelgdgaaDoor
open Go.RowKit
set_option linter.unusedSimpArgs false
set_option linter.unusedVariables false

theorem qr_step {v num low q r d : Nat} (hl : 1 ≤ low) (hq : q = v * num / low) (hr : r = v * num % low) : (10 * v + d) * num / low = 10 * q + (10 * r + d * num) / low ∧ (10 * v + d) * num % low = (10 * r + d * num) % low := by
  have h := Nat.div_add_mod (v * num) low
  rw [← hq, ← hr] at h
  have e : (10 * v + d) * num = low * (10 * q) + (10 * r + d * num) := by
    rw [Nat.add_mul, Nat.mul_assoc, ← h, Nat.mul_add, Nat.mul_left_comm 10 low q]
    omega
  rw [e, Nat.mul_add_div (by omega), Nat.mul_add_mod]
  exact ⟨rfl, rfl⟩

theorem valL_take_le (t : List UInt8) (i : Nat) : valL (t.take i) ≤ valL t := by
  have e : valL t = valF (valL (t.take i)) (t.drop i) := by
    have := valF_app 0 (t.take i) (t.drop i)
    rw [List.take_append_drop] at this
    exact this
  rw [e, valF_split]
  have : 1 ≤ 10 ^ (t.drop i).length := Nat.one_le_pow _ _ (by omega)
  exact Nat.le_trans (Nat.le_mul_of_pos_right _ this) (Nat.le_add_right _ _)

theorem qr_out {v n num low : Nat} (hv : v ≤ n) (h : 70368744177664 < v * num / low) : qr n num low = none := by
  unfold qr
  rw [if_pos]
  left
  exact Nat.lt_of_lt_of_le h (Nat.div_le_div_right (Nat.mul_le_mul_right _ hv))

/-- Where the point is asked for. -/
def CutAt (l : List UInt8) (vt va vk : Value) : Prop := ∃ n k at_, cutX l = some (n, k, at_) ∧ vt = .string (B (l.take n ++ (l.drop (n + 1)).take k)) ∧ va = .int .i64 (at_ : Int) ∧ vk = .int .i64 (k : Int)

set_option maxHeartbeats 6400000 in
set_option maxRecDepth 100000 in
theorem rread_any (l : List UInt8) (size : Int) (w : World) (hs : l.length ≤ 1152921504606846976) (s0 : -9223372036854775808 ≤ size) (s1 : size ≤ 9223372036854775807) :
    Calls Tryd.prog 9 #[.string (B l), .int .i64 size] w fun e w' => e = .returned (.tuple #[.int .i64 (readX l size).1, .int .i64 (readX l size).2]) ∧ Keep [] w w' := by
  have hz := B_size l
  have hl2 := dgL_le l
  have C1 := fun w => rdigits_any (B l) 0 w (by rw [hz]; omega) (by omega)
  rw [B_list, List.drop_zero] at C1
  obtain ⟨N, hN⟩ : ∃ N, N = dgL l := ⟨_, rfl⟩
  rw [← hN] at C1 hl2
  have H1 := hid C1
  clear C1
  by_cases h1 : N < 1 ∨ 15 < N
  · have hX : cutX l = none := by unfold cutX; rw [if_pos (by rw [← hN]; exact h1)]
    have HR := hid (show readX l size = (0, 80) by unfold readX; rw [hX])
    have key : (N : Int) < 1 ∨ ((1 : Int) ≤ (N : Int) ∧ (15 : Int) < (N : Int)) := by omega
    clear h1 hX hN
    rcases key with k1 | ⟨k1, k2⟩
    all_goals
      go_enter Tryd.func9, Tryd.ntmps9
      go_wp2_with fail
      refine (H1.out _).mono ?_
      rintro e w1 ⟨rfl, rfl⟩
      go_wp2
      go_ret2
      exact ⟨by rw [HR.out]; rfl, Keep.refl _ _⟩
  · have n1 : (1 : Int) ≤ (N : Int) := by omega
    have n2 : (N : Int) ≤ 15 := by omega
    have eT : (B l).extract 0 N = B (l.take N) := by rw [ext_to, B_list]
    have hX0 : cutX l = if l[N]? = some 46 then (if dgL (l.drop (N + 1)) < 1 ∨ 4 < dgL (l.drop (N + 1)) then none else some (N, dgL (l.drop (N + 1)), N + 1 + dgL (l.drop (N + 1)))) else some (N, 0, N) := by
      unfold cutX; rw [← hN, if_neg h1]
    have dk : decide ((N : Int) < 1) = false := decide_eq_false (by omega)
    have C2 := fun w => rdigits_any (B l) (N + 1) w (by rw [hz]; omega) (by omega)
    rw [B_list, show ((N + 1 : Nat) : Int) = (N : Int) + 1 by omega] at C2
    have hk := dgL_le (l.drop (N + 1))
    rw [List.length_drop] at hk
    obtain ⟨k, hk'⟩ : ∃ k, k = dgL (l.drop (N + 1)) := ⟨_, rfl⟩
    rw [← hk'] at hk hX0
    simp only [← hk'] at C2
    have H2 := hid C2
    have HX0 := hid hX0
    clear C2 hk' h1 hN hX0
    obtain ⟨V, hV⟩ : ∃ V : Int × Int, V = readX l size := ⟨_, rfl⟩
    have HV0 := hid hV
    rw [← hV]
    clear hV
    have hNl : (N : Int) ≤ (l.length : Int) := by omega
    go_enter Tryd.func9, Tryd.ntmps9
    go_wp2_with fail
    refine (H1.out _).mono ?_
    rintro e w1 ⟨rfl, rfl⟩
    go_upto_region 7 with (fail)
    go_cut [40] (fun v wc => v = .bool (decide (l[N]? = some 46)) ∧ wc = w)
    case first =>
      by_cases hlt : N < l.length
      · have hlt2 : N < (B l).size := by omega
        have hb := bytes_at (B l) N hlt2
        rw [B_list] at hb
        have hlt' : (N : Int) < (l.length : Int) := by omega
        have dk2 : decide ((N : Int) < (l.length : Int)) = true := decide_eq_true hlt'
        obtain ⟨c, hc⟩ : ∃ c, c = (B l)[N]'hlt2 := ⟨_, rfl⟩
        rw [← hc] at hb
        have hcn : (((B l)[N]'hlt2).toNat : Int) = (c.toNat : Int) := by rw [hc]
        obtain ⟨n, hn⟩ : ∃ n : Int, n = (c.toNat : Int) := ⟨_, rfl⟩
        rw [← hn] at hcn
        have HB := hid (show decide (l[N]? = some 46) = (n == 46) by
          rw [hb, hn]
          by_cases h : c = 46
          · subst h; rfl
          · have h2 : ¬ (c.toNat : Int) = 46 := fun e => h (UInt8.toNat_inj.1 (by have : (46 : UInt8).toNat = 46 := rfl; omega))
            have h3 : ((c.toNat : Int) == 46) = false := by simp [h2]
            rw [h3]
            exact decide_eq_false (fun e => h (Option.some.inj e)))
        clear hb hc hn hlt
        go_wp2
        go_meet
        exact ⟨by rw [HB.out], rfl⟩
      · have dk2 : decide ((N : Int) < (l.length : Int)) = false := decide_eq_false (by omega)
        have HB := hid (show decide (l[N]? = some 46) = false from decide_eq_false (fun e => hlt (List.getElem?_eq_some_iff.1 e).1))
        go_wp2
        go_meet
        exact ⟨by rw [HB.out], rfl⟩
    case rest =>
      obtain ⟨rfl, rfl⟩ := hcut
      rename World => W0
      obtain ⟨bp, hbp⟩ : ∃ bp, bp = decide (l[N]? = some 46) := ⟨_, rfl⟩
      rw [← hbp]
      go_upto_if 40 with (fail)
      go_cut [7, 8, 9] (fun vt va vk wc => CutAt l vt va vk ∧ wc = W0)
      case first =>
        cases bp with
        | true =>
          have hp : l[N]? = some 46 := of_decide_eq_true hbp.symm
          have hlt := (List.getElem?_eq_some_iff.1 hp).1
          have hX := HX0.out.trans (if_pos hp)
          have eP : (B l).extract (N + 1) (N + 1 + k) = B ((l.drop (N + 1)).take k) := by rw [ext_B, B_list]; congr 2; omega
          have eA : B (l.take N) ++ B ((l.drop (N + 1)).take k) = B (l.take N ++ (l.drop (N + 1)).take k) := B_append _ _
          have z1 := B_size (l.take N)
          have z2 := B_size ((l.drop (N + 1)).take k)
          have z3 : (l.take N).length = N := by rw [List.length_take]; omega
          have z4 : ((l.drop (N + 1)).take k).length = k := by rw [List.length_take, List.length_drop]; omega
          by_cases hbad : k < 1 ∨ 4 < k
          · have HV := hid (HV0.out.trans (show readX l size = (0, 80) by unfold readX; rw [hX.trans (if_pos hbad)]))
            have key : (k : Int) < 1 ∨ ((1 : Int) ≤ (k : Int) ∧ (4 : Int) < (k : Int)) := by omega
            clear hbad hX hp hbp HV0
            rcases key with k1 | ⟨k1, k2⟩
            all_goals
              go_wp2_with fail
              refine (H2.out _).mono ?_
              rintro e w2 ⟨rfl, rfl⟩
              go_wp2
              go_ret2
              exact ⟨by rw [HV.out]; rfl, Keep.refl _ _⟩
          · have k1 : (1 : Int) ≤ (k : Int) := by omega
            have k2 : (k : Int) ≤ 4 := by omega
            have dk3 : decide ((k : Int) < 1) = false := decide_eq_false (by omega)
            have b1 : (N : Int) + 1 ≤ (N : Int) + 1 + (k : Int) := by omega
            have b2 : (N : Int) + 1 + (k : Int) ≤ (l.length : Int) := by omega
            have b3 : ((N : Int) + 1).toNat = N + 1 := by omega
            have b4 : ((N : Int) + 1 + (k : Int)).toNat = N + 1 + k := by omega
            have b5 : (0 : Int) ≤ (N : Int) + 1 := by omega
            have HC := hid (show CutAt l (.string (B (l.take N ++ (l.drop (N + 1)).take k))) (.int .i64 ((N : Int) + 1 + (k : Int))) (.int .i64 (k : Int)) from ⟨N, k, N + 1 + k, hX.trans (if_neg hbad), rfl, rfl, rfl⟩)
            clear hbad hX hp hbp HV0
            generalize (l.drop (N + 1)).take k = pp at *
            generalize l.take N = aa at *
            go_wp2_with fail
            refine (H2.out _).mono ?_
            rintro e w2 ⟨rfl, rfl⟩
            go_wp2
            go_meet
            exact ⟨HC.out, rfl⟩
        | false =>
          have hp : ¬ l[N]? = some 46 := of_decide_eq_false hbp.symm
          have hX := HX0.out.trans (if_neg hp)
          have HC := hid (show CutAt l (.string (B (l.take N))) (.int .i64 (N : Int)) (.int .i64 0) from ⟨N, 0, N, hX, by rw [List.take_zero, List.append_nil], rfl, rfl⟩)
          clear hX hp hbp HV0
          go_wp2
          go_meet
          exact ⟨HC.out, rfl⟩
      case rest =>
        clear hbp
        obtain ⟨⟨n, K, at_, hX, rfl, rfl, rfl⟩, rfl⟩ := hcut
        obtain ⟨f1, f2, f3, f4, f5, f6, f7, f8, f9⟩ := cutX_facts hX
        have HR : Hid (V = match unitX (l.drop at_) size with
          | none => (0, 80)
          | some (num, den) => if l.drop at_ = [101, 109] ∧ (size < 0 ∨ 70368744177664 < size) then (0, 81) else (qrV (qr (valL (l.take n ++ (l.drop (n + 1)).take K)) num.toNat (den.toNat * 10 ^ K)), qrE (qr (valL (l.take n ++ (l.drop (n + 1)).take K)) num.toNat (den.toNat * 10 ^ K)))) := hid (HV0.out.trans (by
          unfold readX; rw [hX]; rfl))
        have hA := f4.app f5
        have hlen : (l.take n ++ (l.drop (n + 1)).take K).length ≤ 19 := by rw [List.length_append]; omega
        generalize l.take n ++ (l.drop (n + 1)).take K = t at *
        have eU : (B l).extract at_ l.length = B (l.drop at_) := by rw [← B_size l, ext_from, B_list]
        have hat : (at_ : Int) ≤ (l.length : Int) := by omega
        have C3 := fun w => runit_any (l.drop at_) size w
        obtain ⟨u, hu⟩ : ∃ u, u = l.drop at_ := ⟨_, rfl⟩
        rw [← hu] at eU HR
        simp only [← hu] at C3
        have hul := B_toList u
        have HA := hid hA
        unfold UnitPost at C3
        have K4 : (K : Int) ≤ 4 := by omega
        clear hX HV0 HX0 H2 H1 hk hl2 n1 n2 eT dk hNl f1 f2 f4 f5 f6 f7 f8 f9 hA hu
        cases hz : unitX u size with
        | none =>
          rw [hz] at C3 HR
          have HC := hid C3
          clear C3 hz
          go_wp2_with fail
          refine (HC.out _).mono ?_
          rintro e w2 ⟨rfl, rfl⟩
          go_wp2
          go_ret2
          exact ⟨by rw [HR.out]; rfl, Keep.refl _ _⟩
        | some x =>
          obtain ⟨num, den⟩ := x
          rw [hz] at C3 HR
          have HC := hid C3
          clear C3
          have facts : (u = [101, 109] ∧ num = size ∧ den = 1) ∨ (u ≠ [101, 109] ∧ 1 ≤ den ∧ den ≤ 127 ∧ 0 ≤ num ∧ num ≤ 23592960) := by
            unfold unitX at hz
            by_cases h : u = [101, 109]
            · rw [if_pos h] at hz
              simp only [Option.some.injEq, Prod.mk.injEq] at hz
              exact .inl ⟨h, hz.1.symm, hz.2.symm⟩
            · rw [if_neg h] at hz
              rcases unit0_facts hz with ⟨h2, _⟩ | ⟨h2, a, b, c, d⟩
              · exact absurd h2 h
              · exact .inr ⟨h, a, b, by omega, d⟩
          clear hz
          have fin : (∃ (NN dn : Nat), 1 ≤ dn ∧ dn ≤ 127 ∧ NN ≤ 70368744177664 ∧ num = (NN : Int) ∧ den = (dn : Int) ∧ ((u == [101, 109]) = true ∧ 0 ≤ size ∧ size ≤ 70368744177664 ∨ (u == [101, 109]) = false) ∧ V = (qrV (qr (valL t) NN (dn * 10 ^ K)), qrE (qr (valL t) NN (dn * 10 ^ K)))) ∨ ((u == [101, 109]) = true ∧ (size < 0 ∨ 70368744177664 < size) ∧ V = (0, 81)) := by
            have hV := HR.out
            rcases facts with ⟨h1, rfl, rfl⟩ | ⟨h1, h2, h3, h4, h5⟩
            · by_cases hrg : num < 0 ∨ 70368744177664 < num
              · exact .inr ⟨by rw [h1]; rfl, hrg, hV.trans (if_pos ⟨h1, hrg⟩)⟩
              · exact .inl ⟨num.toNat, 1, by omega, by omega, by omega, by omega, rfl, .inl ⟨by rw [h1]; rfl, by omega, by omega⟩, hV.trans (if_neg (show ¬ (u = [101, 109] ∧ (num < 0 ∨ 70368744177664 < num)) from fun h => hrg h.2))⟩
            · exact .inl ⟨num.toNat, den.toNat, by omega, by omega, by omega, by omega, by omega, .inr (by rw [beq_eq_false_iff_ne]; exact h1), hV.trans (if_neg (show ¬ (u = [101, 109] ∧ (size < 0 ∨ 70368744177664 < size)) from fun h => h1 h.1))⟩
          clear facts HR
          rcases fin with ⟨NN, dn, d0, d1, m0, rfl, rfl, hcase, hV⟩ | ⟨hb, hrg, hV⟩
          · have HV := hid hV
            clear hV
            have tail : True := trivial
            rcases hcase with ⟨hb, z0, z1⟩ | hb
            all_goals
              go_wp2_with fail
              refine (HC.out _).mono ?_
              rintro e w2 ⟨rfl, rfl⟩
              go_wp2_with fail
              have hp10 : ∀ i, i ≤ 4 → (10 : Nat) ^ i ≤ 10000 := fun i hi => by
                have h1 : (10 : Nat) ^ i ≤ 10 ^ 4 := Nat.pow_le_pow_right (by omega) hi
                have e4 : (10 : Nat) ^ 4 = 10000 := by decide
                omega
              have H10 := hid hp10
              clear hp10
              go_loop [14, 13] (fun vi vl => ∃ i : Nat, i ≤ K ∧ vi = .int .i64 (i : Int) ∧ vl = .int .i64 ((dn * 10 ^ i : Nat) : Int)) (fun vi _ => K - (intOf vi).toNat)
              case atStart => exact ⟨0, Nat.zero_le _, rfl, by simp⟩
              case round =>
                obtain ⟨i, hi, rfl, rfl⟩ := hrel
                have hlow : dn * 10 ^ i ≤ 127 * 10000 := Nat.mul_le_mul d1 (H10.out i (by omega))
                have hlow1 : 1 ≤ dn * 10 ^ i := Nat.mul_pos (by omega) (Nat.one_le_pow _ _ (by omega))
                have hnext := hid (show ((dn * 10 ^ (i + 1) : Nat) : Int) = 10 * ((dn * 10 ^ i : Nat) : Int) by rw [Nat.pow_succ, ← Nat.mul_assoc]; omega)
                by_cases hlt : i < K
                · have hlt' : (i : Int) < (K : Int) := by omega
                  obtain ⟨L, hL⟩ : ∃ L : Int, L = ((dn * 10 ^ i : Nat) : Int) := ⟨_, rfl⟩
                  rw [← hL] at hnext ⊢
                  have L0 : 1 ≤ L := by omega
                  have L1 : L ≤ 1270000 := by omega
                  clear hlow hlow1 hL
                  go_wp2
                  go_round
                  case rel => exact ⟨i + 1, hlt, by go_num, by rw [hnext.out]⟩
                  case measure => simp [intOf]; omega
                · obtain rfl : i = K := by omega
                  clear hnext hlt hi
                  obtain ⟨LW, hLW⟩ : ∃ LW, LW = dn * 10 ^ i := ⟨_, rfl⟩
                  rw [← hLW] at HV hlow hlow1 ⊢
                  clear hLW
                  have htz := B_size t
                  obtain ⟨L, hL0⟩ : ∃ x : Int, x = (LW : Int) := ⟨_, rfl⟩
                  rw [← hL0]
                  have HL := hid hL0
                  have L0 : 1 ≤ L := by omega
                  have L1 : L ≤ 1270000 := by omega
                  clear hL0
                  go_wp2_with fail
                  go_loop [17, 15, 16, 18] (fun vi vq vr _ => ∃ j : Nat, j ≤ t.length ∧ vi = .int .i64 (j : Int) ∧ vq = .int .i64 ((valL (t.take j) * NN / LW : Nat) : Int) ∧ vr = .int .i64 ((valL (t.take j) * NN % LW : Nat) : Int) ∧ valL (t.take j) * NN / LW ≤ 70368744177664) (fun vi _ _ _ => t.length - (intOf vi).toNat)
                  case atStart => exact ⟨0, Nat.zero_le _, rfl, by simp [valL, valF], by simp [valL, valF], by simp [valL, valF]⟩
                  case round =>
                    obtain ⟨j, hj, rfl, rfl, rfl, hq⟩ := hrel
                    have hr : valL (t.take j) * NN % LW < LW := Nat.mod_lt _ (by omega)
                    by_cases hjt : j < t.length
                    · obtain ⟨c, hc⟩ : ∃ c, t[j]? = some c := ⟨t[j], List.getElem?_eq_getElem hjt⟩
                      have hdg := digit_of HA.out hc
                      have hlt2 : j < (B t).size := by omega
                      have hb := bytes_at (B t) j hlt2
                      rw [B_list, hc] at hb
                      have hbc : ((B t)[j]'hlt2).toNat = c.toNat := congrArg UInt8.toNat (Option.some.inj hb).symm
                      have hsn : valL (t.take (j + 1)) = 10 * valL (t.take j) + (c.toNat - 48) := by rw [take_snoc hc]; exact valF_snoc 0 _ _
                      obtain ⟨q1, q2⟩ := qr_step (v := valL (t.take j)) (num := NN) (low := LW) (d := c.toNat - 48) hlow1 rfl rfl
                      rw [← hsn] at q1 q2
                      have hle := valL_take_le t (j + 1)
                      have ho := fun h => qr_out (num := NN) (low := LW) hle h
                      rw [q1] at ho
                      obtain ⟨qn, hqn⟩ : ∃ x, x = valL (t.take j) * NN / LW := ⟨_, rfl⟩
                      obtain ⟨rn, hrn⟩ : ∃ x, x = valL (t.take j) * NN % LW := ⟨_, rfl⟩
                      rw [← hqn] at q1 ho hq ⊢
                      rw [← hrn] at q1 q2 ho hr ⊢
                      obtain ⟨pn, hpn⟩ : ∃ x, x = (c.toNat - 48) * NN := ⟨_, rfl⟩
                      have hpb : (c.toNat - 48) * NN ≤ 9 * 70368744177664 := Nat.mul_le_mul (by omega) m0
                      rw [← hpn] at q1 q2 ho hpb
                      obtain ⟨mn, hmn⟩ : ∃ x, x = 10 * rn + pn := ⟨_, rfl⟩
                      rw [← hmn] at q1 q2 ho
                      have cQ : (mn : Int) / (LW : Int) = ((mn / LW : Nat) : Int) := rfl
                      have cR : (mn : Int) % (LW : Int) = ((mn % LW : Nat) : Int) := rfl
                      have hqb : mn / LW ≤ mn := Nat.div_le_self _ _
                      obtain ⟨q3, hq3⟩ : ∃ x, x = mn / LW := ⟨_, rfl⟩
                      obtain ⟨r3, hr3⟩ : ∃ x, x = mn % LW := ⟨_, rfl⟩
                      rw [← hq3] at q1 ho cQ hqb
                      rw [← hr3] at q2 cR
                      obtain ⟨n, hn⟩ : ∃ n : Int, n = (c.toNat : Int) := ⟨_, rfl⟩
                      have hbn : (((B t)[j]'hlt2).toNat : Int) = n := by rw [hn, hbc]
                      obtain ⟨d, hd⟩ : ∃ d : Int, d = n - 48 := ⟨_, rfl⟩
                      have hw : IntKind.u8.wrap (n - 48) = d := by rw [hd]; simp [IntKind.wrap, IntKind.bits, IntKind.signed]; omega
                      obtain ⟨P, hP⟩ : ∃ P : Int, P = (pn : Int) := ⟨_, rfl⟩
                      have p0 : d * (NN : Int) = P := by
                        rw [hP, hpn, Int.natCast_mul]
                        congr 1
                        omega
                      have p1 : wrap64 (d * (NN : Int)) = P := by rw [p0]; unfold wrap64; clear cQ cR p0; omega
                      obtain ⟨Q, hQ⟩ : ∃ x : Int, x = (qn : Int) := ⟨_, rfl⟩
                      obtain ⟨R, hR⟩ : ∃ x : Int, x = (rn : Int) := ⟨_, rfl⟩
                      have hL := HL.out
                      obtain ⟨M, hM⟩ : ∃ x : Int, x = (mn : Int) := ⟨_, rfl⟩
                      obtain ⟨Q1, hQ1⟩ : ∃ x : Int, x = (q3 : Int) := ⟨_, rfl⟩
                      obtain ⟨R1, hR1⟩ : ∃ x : Int, x = (r3 : Int) := ⟨_, rfl⟩
                      obtain ⟨Q2, hQ2⟩ : ∃ x : Int, x = 10 * Q + Q1 := ⟨_, rfl⟩
                      have e1 : 10 * R + P = M := by clear cQ cR p0 p1; omega
                      have e2 : 10 * Q + Q1 = Q2 := hQ2.symm
                      rw [← hM, ← hL, ← hQ1] at cQ
                      rw [← hM, ← hL, ← hR1] at cR
                      rw [← hQ, ← hR]
                      have b0 : 0 ≤ Q ∧ Q ≤ 70368744177664 ∧ 0 ≤ R ∧ R ≤ 1270000 ∧ 0 ≤ P ∧ P ≤ 633318697598976 ∧ 0 ≤ d ∧ d ≤ 9 ∧ 0 ≤ Q1 ∧ Q1 ≤ 700000000000000 ∧ 0 ≤ M ∧ M ≤ 700000000000000 ∧ 0 ≤ Q2 ∧ Q2 ≤ 2000000000000000 := by clear cQ cR p0 p1; omega
                      obtain ⟨c0, c1, c2, c3, c4, c5, c6, c7, c8, c9, c11, c12, c13, c14⟩ := b0
                      have hjt' : (j : Int) < (t.length : Int) := by omega
                      have A1 := hid (show ((valL (t.take (j + 1)) * NN / LW : Nat) : Int) = Q2 by rw [q1]; clear cQ cR p0 p1; omega)
                      have A2 := hid (show ((valL (t.take (j + 1)) * NN % LW : Nat) : Int) = R1 by rw [q2]; exact hR1.symm)
                      have A3 := hid (show 70368744177664 < Q2 → qr (valL t) NN LW = none from fun h => ho (by clear cQ cR p0 p1; omega))
                      have A4 := hid (show valL (t.take (j + 1)) * NN / LW = 10 * qn + q3 from q1)
                      have A5 := hid (show ((10 * qn + q3 : Nat) : Int) = Q2 by clear cQ cR p0 p1; omega)
                      clear hc hdg hb hbc hsn q1 q2 hle ho hqn hrn hpn hpb hmn hqb hq3 hr3 hn hd hP p0 hQ hR hM hQ1 hR1 hQ2 hq hr hL
                      by_cases hov : 70368744177664 < Q2
                      · have HN := hid (A3.out hov)
                        go_wp2
                        go_ret2
                        exact ⟨by rw [HV.out, HN.out]; rfl, Keep.refl _ _⟩
                      · go_wp2
                        go_round
                        case rel => exact ⟨j + 1, hjt, by go_num, by rw [A1.out], by rw [A2.out, ← cR], by rw [A4.out]; have := A5.out; omega⟩
                        case measure => simp [intOf]; omega
                    · obtain rfl : j = t.length := by omega
                      rw [List.take_length] at hq hr ⊢
                      have hQ0 : qr (valL t) NN LW = if 70368744177664 < valL t * NN / LW ∨ (valL t * NN / LW = 70368744177664 ∧ 0 < valL t * NN % LW) then none else some (if LW ≤ 2 * (valL t * NN % LW) then valL t * NN / LW + 1 else valL t * NN / LW) := rfl
                      obtain ⟨Y, hY⟩ : ∃ Y, Y = qr (valL t) NN LW := ⟨_, rfl⟩
                      rw [← hY] at HV hQ0
                      generalize valL t * NN / LW = qn at *
                      generalize valL t * NN % LW = rn at *
                      have hL := HL.out
                      have key : ((qn : Int) = 70368744177664 ∧ 0 < rn ∧ Y = none) ∨ ((((qn : Int) == 70368744177664) = false ∨ (((qn : Int) == 70368744177664) = true ∧ rn = 0)) ∧ ((L ≤ 2 * (rn : Int) ∧ Y = some (qn + 1)) ∨ (2 * (rn : Int) < L ∧ Y = some qn))) := by
                        by_cases c1 : qn = 70368744177664 ∧ 0 < rn
                        · exact .inl ⟨by omega, c1.2, hQ0.trans (if_pos (.inr c1))⟩
                        · refine .inr ⟨?_, ?_⟩
                          · by_cases c2 : qn = 70368744177664
                            · exact .inr ⟨by simp [c2], by omega⟩
                            · exact .inl (by simp; omega)
                          · have h1 : Y = some (if LW ≤ 2 * rn then qn + 1 else qn) := hQ0.trans (if_neg (by omega))
                            by_cases c3 : LW ≤ 2 * rn
                            · exact .inl ⟨by omega, by rw [h1, if_pos c3]⟩
                            · exact .inr ⟨by omega, by rw [h1, if_neg c3]⟩
                      clear hY hQ0 hL HA
                      have hq' : (qn : Int) ≤ 70368744177664 := by omega
                      have hr0 : (0 : Int) ≤ (rn : Int) := by omega
                      have hr1 : (rn : Int) ≤ 1270000 := by omega
                      rcases key with ⟨c1, c2, c3⟩ | ⟨c1, c2⟩
                      · have HY := hid c3
                        have c2' : (0 : Int) < (rn : Int) := by omega
                        have c4 : ((qn : Int) == 70368744177664) = true := by simp [c1]
                        clear c1 c3
                        go_wp2
                        go_ret2
                        exact ⟨by rw [HV.out, HY.out]; rfl, Keep.refl _ _⟩
                      · rcases c1 with c1 | ⟨c1, c4⟩
                        · rcases c2 with ⟨c5, c6⟩ | ⟨c5, c6⟩
                          all_goals
                            have HY := hid c6
                            clear c6
                            go_wp2
                            go_ret2
                            exact ⟨by rw [HV.out, HY.out]; rfl, Keep.refl _ _⟩
                        · have c7 : decide ((0 : Int) < (rn : Int)) = false := decide_eq_false (by omega)
                          subst c4
                          rcases c2 with ⟨c5, c6⟩ | ⟨c5, c6⟩
                          · exfalso; omega
                          · have HY := hid c6
                            clear c6
                            go_wp2
                            go_ret2
                            exact ⟨by rw [HV.out, HY.out]; rfl, Keep.refl _ _⟩
          · have HV := hid hV
            have key : size < 0 ∨ (0 ≤ size ∧ 70368744177664 < size) := by omega
            clear hV hrg
            rcases key with k1 | ⟨k1, k2⟩
            all_goals
              go_wp2_with fail
              refine (HC.out _).mono ?_
              rintro e w2 ⟨rfl, rfl⟩
              go_wp2
              go_ret2
              exact ⟨by rw [HV.out]; rfl, Keep.refl _ _⟩

end Go.Proofs.YtldckefnelgdgaaDoor
