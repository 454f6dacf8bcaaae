/- Runes: RunesTells. -/
import Derived.Test.YtlkoekcoafddpaaDoorRunWithin
import Derived.Test.YtlkoekcoafddpaaDoorRunRef2
import Derived.StillTailTactics
namespace Go.Proofs.YtlkoekcoafddpaaDoor
open Go.RowKit Go.Lib
set_option linter.unusedSimpArgs false
set_option linter.unusedVariables false

/-- append(v, x, y), the variadic's box just laid. -/
theorem append_two {P : Program} {ops : Array Oper} {rest : List Oper} {o : Oper} {a : Act} {Q : Exit → Act → World → Prop} {W : World} (hgd : o.guard = none) (s x : Operand) (t : TypeId) {e : TypeId} (z : Value) (size bytes : Nat)
    (ho : o.op = .call { callee := .builtin .append, args := #[s, x], argTypes := #[t, t] })
    (ht : P.underlying t = some (.slice e)) (hinfo : (P.info? e).map (fun i => (i.zero, i.size, i.bytes)) = some (some z, size, bytes)) (hz : z.cells.size = size) (hs0 : 0 < size) (hb0 : 0 < bytes) (base : Nat)
    (v : Value) (n : Nat) (xs : List Value) {ys : List Value} (hs : a.eval s = v) {N : Nat} (hx : a.eval x = .slice (some ⟨N, 0, none⟩) 2 2) (hN : N = W.heap.size) (hys : ys.length = 2 * size) (h1 : ∀ u ∈ ys, u.oneCell' = true)
    (HO : W.ownsRow base e size v n xs) (hbase : base ≤ W.heap.size) (hl : (n + 2) * bytes ≤ 140737488355328)
    (h : ∀ v1 w1, w1.ownsRow base e size v1 (n + 2) (xs ++ ys) → (W.alloc (.cells ys.toArray e)).grownBy w1 v.ownBlock → wpList P ops Q rest (a.put o.dst v1) w1) :
    wpList P ops Q (o :: rest) a (W.alloc (.cells ys.toArray e)) := by
  subst hN
  obtain ⟨i0, hi, hz0, hz1, hz2⟩ := info_parts hinfo
  have hlen : n + 2 ≤ 140737488355328 := Nat.le_trans (Nat.le_mul_of_pos_right _ hb0) hl
  refine wpList_append_own_at (W.alloc (.cells ys.toArray e)) hgd s x t ho base e i0 z size bytes ht hi hz0 hz1 hz2 hz hs0 v n xs hs (HO.alloc _) ⟨W.heap.size, 0, none⟩ 2 2 ys hx hys
    (fun j u hj => ?_) h1 (by simp only [maxLen]; omega) hl (by simp; omega) ?_
  · rw [add_zero_at]
    exact (blk_cell (blk_new W _) j).trans (by simpa using hj)
  · intro v1 w1 hown hg _ _
    exact h v1 w1 hown hg

/-- append(v, x, y), in a region that draws its order. -/
theorem step_append_two {P : Program} {ops : Array Oper} {o : Oper} {a : Act} {K : Act → World → Prop} {Q : Exit → Act → World → Prop} {E : Prop} {W : World} (hgd : o.guard = none) (s x : Operand) (t : TypeId) {e : TypeId} (z : Value) (size bytes : Nat)
    (ho : o.op = .call { callee := .builtin .append, args := #[s, x], argTypes := #[t, t] })
    (ht : P.underlying t = some (.slice e)) (hinfo : (P.info? e).map (fun i => (i.zero, i.size, i.bytes)) = some (some z, size, bytes)) (hz : z.cells.size = size) (hs0 : 0 < size) (hb0 : 0 < bytes) (base : Nat)
    (v : Value) (n : Nat) (xs : List Value) {ys : List Value} (hs : a.eval s = v) {N : Nat} (hx : a.eval x = .slice (some ⟨N, 0, none⟩) 2 2) (hN : W.heap[N]? = some (.cells ys.toArray e (0, 0))) (hys : ys.length = 2 * size) (h1 : ∀ u ∈ ys, u.oneCell' = true)
    (HO : W.ownsRow base e size v n xs) (hbase : base ≤ W.heap.size) (hl : (n + 2) * bytes ≤ 140737488355328)
    (h : ∀ A1 c1 w1, w1.ownsRow base e size (.slice A1 (n + 2) c1) (n + 2) (xs ++ ys) → W.grownBy w1 v.ownBlock → K (a.put o.dst (.slice A1 (n + 2) c1)) w1) :
    if Region.wanted o (yielded ops a.tmps) = true then Oper.wp P o a W K Q else E := by
  have hw : Region.wanted o (yielded ops a.tmps) = true := by simp [Region.wanted, hgd]
  rw [if_pos hw]
  obtain ⟨i0, hi, hz0, hz1, hz2⟩ := info_parts hinfo
  have hlen : n + 2 ≤ 140737488355328 := Nat.le_trans (Nat.le_mul_of_pos_right _ hb0) hl
  obtain ⟨v1, w1, hrun, h2, h3, _, _⟩ := run_append_own_at (P := P) W base t o.type e i0 z size bytes ht hi hz0 hz1 hz2 hz hs0 v n xs HO ⟨N, 0, none⟩ 2 2 ys hys
    (fun j u hj => by rw [add_zero_at]; exact (blk_cell hN j).trans (by simpa using hj)) h1 (by simp only [maxLen]; omega) hl hbase
  obtain ⟨A1, c1, rfl⟩ := own_slice h2
  unfold Oper.wp
  simp [execOp, ho, resolve, invoke, builtin, hs, hx, hrun, Result.andThen]
  exact h _ _ _ h2 h3

theorem same_at (A A' : Option Addr) (c c' n n' : Nat) (xs : List Int) (w : World) (h1 : Rd intRow 1 w A xs) (h2 : Rd intRow 1 w A' xs) (hn : n = xs.length) (hn' : n' = xs.length) (hl : xs.length ≤ 4611686018427387904) :
    Calls Tryd.prog 12 #[.slice A n c, .slice A' n' c'] w fun e w' => e = .returned (.bool true) ∧ Keep [] w w' := by
  subst hn
  subst hn'
  exact same_ints A A' c c' xs w h1 h2 hl
theorem flat_take (R : List (Nat × Nat)) : ∀ so : Nat, flatR (R.take so) = (flatR R).take (2 * so) := by
  induction R with
  | nil => intro so; simp [flatR]
  | cons x r ih =>
    intro so
    cases so with
    | zero => simp [flatR]
    | succ n =>
      have h := ih n
      have e : 2 * (n + 1) = 2 * n + 1 + 1 := by omega
      rw [e]
      simpa [flatR] using h

set_option maxRecDepth 100000 in
set_option maxHeartbeats 8000000 in
theorem walkTells (s : ByteArray) (hs : s.size ≤ 1099511627776) (many : Int) (hm : -9223372036854775808 ≤ many ∧ many ≤ 9223372036854775807) (w : World) (T : Tabs w) : Calls Tryd.prog 3 #[.string s, .int .i64 many] w fun e w' => e = .returned (.bool true) ∧ Below w.heap.size w w' := by
  have hRL := runes_len s
  have hra := read_any s (by omega)
  obtain ⟨R, hR⟩ : ∃ R, runesFrom s 0 = R := ⟨_, rfl⟩
  have HR := hid hR
  rw [hR] at hra hRL
  clear hR
  go_enter Tryd.func3, Tryd.ntmps3
  go_wp2_with fail
  refine (shown_any _ T).mono ?_
  rintro e w1 ⟨rfl, K1⟩
  go_wp2_with fail
  refine (hra _).mono ?_
  rintro e w2 ⟨A, c, rfl, O2, K2⟩
  have K2' := K1.trans K2
  have O2' := own_base_le (base' := w.heap.size) O2 K1.size
  have hz2 := K2'.size
  have P0 : (w2.alloc (.cells #[] 3)).ownsRow w.heap.size 3 1 (.slice (some ⟨w2.heap.size, 0, none⟩) 0 0) 0 ((flatR ([] : List (Nat × Nat))).flatMap intRow) := ⟨by simp [flatR], .inr ⟨w2.heap.size, 0, #[], rfl, hz2, blk_new w2 _, by simp, by decide, by simp, by simp [flatR]⟩⟩
  have OL := O2'.alloc (.cells #[] 3)
  have K3 := K2'.alloc (.cells #[] 3)
  clear hra O2 O2' K1 K2
  go_wp2_with fail
  generalize w2.alloc (.cells #[] 3) = W3 at *
  go_loopw [9, 10] (fun v9 v10 wr => ∃ (i : Nat) (B : Option Addr) (d : Nat), i ≤ R.length ∧ v10 = .int .i64 (i : Int) ∧ v9 = .slice B (2 * i) d ∧ wr.ownsRow w.heap.size 3 1 (.slice B (2 * i) d) (2 * i) ((flatR (R.take i)).flatMap intRow) ∧ wr.ownsRow w.heap.size 28 2 (.slice A R.length c) R.length (R.flatMap placeRow) ∧ Keep [] w wr) (fun _ v10 _ => R.length - (RowKit.intOf v10).toNat)
  case atStart => exact ⟨0, _, 0, Nat.zero_le _, rfl, rfl, P0, OL, K3⟩
  case round =>
    clear P0 OL K3 K2'
    obtain ⟨i, B, d, hi, rfl, rfl, OB, OL, K⟩ := hrel
    have hz := K.size
    by_cases hlt : i < R.length
    · have hlt2 : (i : Int) < (R.length : Int) := by omega
      obtain ⟨x, hx⟩ : ∃ x, R[i]? = some x := ⟨R[i], List.getElem?_eq_getElem hlt⟩
      have RD : Rd placeRow 2 wr A R := by
        obtain ⟨A, cap, h1, h2, h3, _⟩ := own_rd (enc := placeRow) (fun _ => rfl) OL
        cases h1
        exact h3
      obtain ⟨ad, hA, hcs⟩ := RD i x hx
      have d0 : wr.cell? (ad.add (i * 2)) = some (.int .i64 (x.1 : Int)) := hcs 0 _ rfl
      have d1 : wr.cell? ⟨(ad.add (i * 2)).block, (ad.add (i * 2)).off + 1, none⟩ = some (.int .i64 (x.2 : Int)) := by rw [← add_at ad (i * 2) 1 (by omega)]; exact hcs 1 _ rfl
      have HT := hid (take_snoc hx)
      clear hcs hx RD
      subst hA
      go_upto_region 9 with (fail)
      go_region_law ((refine step_append_two rfl _ _ 26 (.int .i64 0) 1 8 rfl (by kernel_rfl) (by kernel_rfl) (by kernel_rfl) (by decide) (by decide) w.heap.size (.slice B (2 * i) d) (2 * i) _ rfl rfl (by first | exact blk_new _ _ | exact blk_drew (blk_new _ _)) rfl (by simp [Value.oneCell']) (own_keep OB (S := []) (by repeat (with_reducible first | exact Keep.refl _ _ | refine Keep.drew ?_ | refine Keep.drewN ?_ _ | refine Keep.alloc ?_ _)) (by simp)) (by simp <;> omega) (by omega) ?_; intro B1 d1 w1 O1 G1))
      all_goals
        have e1 : (flatR (R.take i)).flatMap intRow ++ [Value.int .i64 (x.1 : Int), Value.int .i64 (x.2 : Int)] = (flatR (R.take (i + 1))).flatMap intRow := by rw [HT.out, flatR_snoc, List.flatMap_append]; rfl
        rw [e1] at O1
        have OL1 := own_grown (own_keep OL (S := []) (by repeat (with_reducible first | exact Keep.refl _ _ | refine Keep.drew ?_ | refine Keep.drewN ?_ _ | refine Keep.alloc ?_ _)) (by simp)) G1 (fun g h e => by
          obtain ⟨_, _, cs, hcs⟩ := own_base OL g h
          exact own_ne OB hcs (by decide) e.symm)
        have K1 := (K.trans (S := []) (by repeat (with_reducible first | exact Keep.refl _ _ | refine Keep.drew ?_ | refine Keep.drewN ?_ _ | refine Keep.alloc ?_ _))).grown G1 (fun k e => .inr (own_base OB k e).1)
        go_wp2
        go_roundw
        case rel => exact ⟨i + 1, B1, d1, hlt, by go_num, rfl, O1, OL1, K1⟩
        case measure => simp [RowKit.intOf]; omega
    · obtain rfl : i = R.length := by omega
      rw [List.take_length] at OB
      have TR := T.keep K
      have hnv : ∃ m0 : Nat, (if many < 0 then -(many + 1) else many) = (m0 : Int) ∧ m0 ≤ 9223372036854775807 := ⟨(if many < 0 then -(many + 1) else many).toNat, by split <;> omega, by split <;> omega⟩
      obtain ⟨m0, hm0, hm1⟩ := hnv
      have HM0 := hid hm0
      clear hm0
      go_upto_if 54 with (fail)
      have hz3 := K.size
      obtain ⟨W4, hW4⟩ : ∃ W, W = wr := ⟨_, rfl⟩
      subst hW4
      go_cut [11] from 55 to 57 (fun v wc => v = .int .i64 (m0 : Int) ∧ wc = W4)
      case first =>
        by_cases hneg : many < 0
        · have hv : -(many + 1) = (m0 : Int) := by rw [← HM0.out, if_pos hneg]
          have HV := hid hv
          clear hv
          go_wp2
          go_meet
          exact ⟨by rw [← HV.out], rfl⟩
        · have hv : many = (m0 : Int) := by rw [← HM0.out, if_neg hneg]
          have HV := hid hv
          clear hv
          go_wp2
          go_meet
          exact ⟨by rw [← HV.out], rfl⟩
      case rest =>
        obtain ⟨rfl, rfl⟩ := hcut
        have hRL2 : (R.length : Int) ≤ 1099511627776 := by omega
        have hk : m0 % (R.length + 2) ≤ R.length + 1 := by have := Nat.mod_lt m0 (show 0 < R.length + 2 by omega); omega
        obtain ⟨k, hkk⟩ : ∃ k, m0 % (R.length + 2) = k := ⟨_, rfl⟩
        rw [hkk] at hk
        have HK := hid hkk
        clear hkk
        have hr0 : ¬ ((R.length : Int) + 2 = 0) := by omega
        go_upto_region 13 with (fail)
        go_cut [11] from 58 to 62 (fun v wd => v = .int .i64 (k : Int) ∧ wd = wc)
        case first =>
          go_wp2
          go_meet
          exact ⟨by rw [← HK.out]; simp, rfl⟩
        case rest =>
          obtain ⟨rfl, rfl⟩ := hcut
          have hk2 : (k : Int) ≤ (R.length : Int) + 1 := by omega
          obtain ⟨so, hso⟩ : ∃ so, min k R.length = so := ⟨_, rfl⟩
          have HSO := hid hso
          have hso1 : so ≤ R.length := by omega
          clear hso
          obtain ⟨gt, hgt⟩ : ∃ gt, decide (R.length < k) = gt := ⟨_, rfl⟩
          have hgt2 : decide ((R.length : Int) < (k : Int)) = gt := by rw [← hgt]; simp
          have HGT : Hid (gt = true ↔ R.length < k) := hid (by rw [← hgt]; simp)
          go_upto_if 67 with (fail)
          clear hgt hgt2
          go_cut [12] from 68 to 69 (fun v we => v = .int .i64 (so : Int) ∧ we = wc)
          case first =>
            cases gt with
            | true =>
              have hv : R.length = so := by have := HGT.out.1 rfl; rw [← HSO.out]; omega
              have HV := hid hv
              clear hv
              go_wp2
              go_meet
              exact ⟨by rw [← HV.out], rfl⟩
            | false =>
              have hv : k = so := by
                have : ¬ R.length < k := fun h => by have := HGT.out.2 h; cases this
                rw [← HSO.out]
                omega
              have HV := hid hv
              clear hv
              go_wp2
              go_meet
              exact ⟨by rw [← HV.out], rfl⟩
          case rest =>
            obtain ⟨rfl, rfl⟩ := hcut
            have hga := goes_all s (by omega)
            have hgk := goes_any s (k : Int) (by omega) (by omega)
            rw [HR.out] at hga hgk
            rw [Int.toNat_natCast] at hgk
            go_wp2_with fail
            refine (hga _ TR).mono ?_
            rintro e w4 ⟨A4, c4, rfl, O4, K4⟩
            have K4' := K.trans K4
            go_wp2_with fail
            refine (hgk _ (T.keep K4')).mono ?_
            rintro e w5 ⟨A5, c5, rfl, O5, K5⟩
            have K5' := K4'.trans K5
            clear hga hgk
            have hfl := flatR_len R
            have OBf : w5.ownsRow w.heap.size 3 1 (.slice B (flatR R).length d) (flatR R).length ((flatR R).flatMap intRow) := by rw [hfl]; exact own_keep OB (K4.trans K5) (by simp)
            obtain ⟨RB, hcap⟩ : Rd intRow 1 w5 B (flatR R) ∧ (flatR R).length ≤ d := by
              obtain ⟨A, cap, h1, h2, h3, _⟩ := own_rd (enc := intRow) (fun _ => rfl) OBf
              cases h1
              exact ⟨h3, h2⟩
            have R4 : Rd intRow 1 w5 A4 (flatR R) := by
              obtain ⟨A, cap, h1, h2, h3, _⟩ := own_rd (enc := intRow) (fun _ => rfl) (own_keep O4 K5 (by simp))
              cases h1
              exact h3
            have R5 : Rd intRow 1 w5 A5 (flatR (R.take k)) := by
              obtain ⟨A, cap, h1, h2, h3, _⟩ := own_rd (enc := intRow) (fun _ => rfl) O5
              cases h1
              exact h3
            have hkt : R.take k = R.take so := by
              rw [← HSO.out]
              by_cases h : k ≤ R.length
              · rw [Nat.min_eq_left h]
              · rw [Nat.min_eq_right (by omega), List.take_length, List.take_of_length_le (by omega)]
            have hl5 : (flatR (R.take k)).length = 2 * so := by rw [hkt, flatR_len, List.length_take]; omega
            have RB2 : Rd intRow 1 w5 B (flatR (R.take k)) := by rw [hkt, flat_take]; exact RB.take (2 * so)
            have hcap2 : (2 : Int) * (so : Int) ≤ (d : Int) := by omega
            have hso0 : (0 : Int) ≤ 2 * (so : Int) := by omega
            have hs1 := same_at A4 B c4 d (flatR R).length (2 * R.length) (flatR R) w5 R4 RB rfl hfl.symm (by omega)
            have HL5 := hid hl5
            have hle5 : (flatR (R.take k)).length ≤ 4611686018427387904 := by omega
            rw [hkt] at R5 RB2 HL5 hle5
            clear hfl hl5 OBf hcap RB O4 OB OL R4
            go_wp2_with fail
            refine hs1.mono ?_
            rintro e w6 ⟨rfl, K6⟩
            clear hs1
            have R56 := R5.old K6 (by simp)
            have RB6 := RB2.old K6 (by simp)
            have hs2 := same_at A5 B c5 d (flatR (R.take so)).length (2 * so) (flatR (R.take so)) w6 R56 RB6 rfl HL5.out.symm hle5
            clear R5 RB2 R56 RB6 hle5
            go_wp2_with fail
            refine hs2.mono ?_
            rintro e w7 ⟨rfl, K7⟩
            have K7' := (K5'.trans K6).trans K7
            clear hs2 K4 K4' K5 K5' K6 K7 O5 HL5
            have T7 := T.keep K7'
            go_upto_region 21 with (fail)
            go_cut [105] from 91 to 105 (fun v wf => v = .bool false ∧ Keep [] w7 wf)
            case first =>
              by_cases h60 : R.length ≤ 60
              · have h60i : (R.length : Int) ≤ 60 := by omega
                obtain ⟨t, ht⟩ : ∃ t, tri R.length = t := ⟨_, rfl⟩
                have htt := tri_half R.length
                rw [ht] at htt
                obtain ⟨P, hP⟩ : ∃ P : Nat, R.length * (R.length + 1) = P := ⟨_, rfl⟩
                have hPle : P ≤ 60 * 61 := by rw [← hP]; exact Nat.mul_le_mul h60 (by omega)
                rw [hP] at htt
                have hPi : (R.length : Int) * ((R.length : Int) + 1) = (P : Int) := by rw [← hP]; simp
                have hP1 : (P : Int) ≤ 3660 := by omega
                have hq : (P : Int) / 2 = (t : Int) := by omega
                have hwi := within_any s (by omega) (by rw [HR.out]; omega) w7 T7
                rw [HR.out, ht] at hwi
                clear ht htt hP hPle
                go_wp2_with fail
                refine hwi.mono ?_
                rintro e w8 ⟨rfl, K8⟩
                clear hwi
                go_wp2
                go_meet
                exact ⟨rfl, K8⟩
              · have h60i : ¬ (R.length : Int) ≤ 60 := by omega
                go_wp2
                go_meet
                exact ⟨rfl, Keep.refl _ _⟩
            case rest =>
              obtain ⟨rfl, K8⟩ := hcut
              obtain ⟨w8, hW8⟩ : ∃ W, W = wc := ⟨_, rfl⟩
              subst hW8
              have K8' := K7'.trans K8
              go_wp2_with fail
              refine (cut_any s many hm (by omega) _ (T.keep K8')).mono ?_
              rintro e w9 ⟨rfl, K9⟩
              have K9' := K8'.trans K9
              go_wp2_with fail
              refine (rcut_any s many hm (by omega) _).mono ?_
              rintro e w10 ⟨rfl, K10⟩
              have K10' := K9'.trans K10
              go_wp2_with fail
              refine (cut_any s (k : Int) (by omega) (by omega) _ (T.keep K10')).mono ?_
              rintro e w11 ⟨rfl, K11⟩
              have K11' := K10'.trans K11
              go_wp2_with fail
              refine (rcut_any s (k : Int) (by omega) (by omega) _).mono ?_
              rintro e w12 ⟨rfl, K12⟩
              have K12' := K11'.trans K12
              go_wp2_with fail
              refine (check_any s (by omega) _ (T.keep K12')).mono ?_
              rintro e w13 ⟨rfl, K13⟩
              have K13' := K12'.trans K13
              go_wp2_with fail
              refine (rcheck_any s (by omega) _).mono ?_
              rintro e w14 ⟨rfl, K14⟩
              have K14' := K13'.trans K14
              go_wp2_with fail
              refine (count_at s R.length (by omega) (by rw [HR.out]) _ (T.keep K14')).mono ?_
              rintro e w15 ⟨rfl, K15⟩
              have K15' := K14'.trans K15
              go_wp2
              go_ret
              exact ⟨rfl, K15'.below (Nat.le_refl _) (by simp)⟩

end Go.Proofs.YtlkoekcoafddpaaDoor
