/- bits.Div64, by a contract. -/
import Derived.Test.YtldckefnelgdgaaBase
import Derived.Test.YtldckefnelgdgaaShelf
import Derived.Test.YtldckefnelgdgaaDivLaw
import Derived.Deep.RegionHeld3
import Derived.Deep.DeepCutAuto
import Derived.Deep.CutBlock
import Derived.Outline
import Derived.LoopTactic
import Derived.Laws.Bits64
import Derived.Laws.BitsLemmas
import Derived.Lib.ItoaNum
namespace Go.Proofs.Ytldckefnelgdgaa
open Go.RowKit
set_option linter.unusedSimpArgs false
set_option linter.unusedVariables false

theorem and_lo (a : Nat) (ha : a < 18446744073709551616) : bits .and .u64 (a : Int) 4294967295 = ((a % 4294967296 : Nat) : Int) := by
  have h1 : (BitVec.ofInt 64 (a : Int)).toNat = a := by
    rw [BitVec.ofInt_natCast, BitVec.toNat_ofNat]; exact Nat.mod_eq_of_lt (by omega)
  have h2 : (BitVec.ofInt 64 4294967295).toNat = 4294967295 := by decide
  have e : a &&& 4294967295 = a % 4294967296 := Nat.and_two_pow_sub_one_eq_mod a 32
  show IntKind.u64.wrap ((BitVec.ofInt 64 (a : Int) &&& BitVec.ofInt 64 4294967295).toNat : Int) = _
  rw [BitVec.toNat_and, h1, h2, IntKind.wrap_u64, e]
  omega

theorem or_apart (a c s : Nat) (hc : c < 2 ^ s) (h : a * 2 ^ s + c < 18446744073709551616) : bits .or .u64 ((a * 2 ^ s : Nat) : Int) (c : Int) = ((a * 2 ^ s + c : Nat) : Int) := by
  have h1 : (BitVec.ofInt 64 ((a * 2 ^ s : Nat) : Int)).toNat = a * 2 ^ s := by
    rw [BitVec.ofInt_natCast, BitVec.toNat_ofNat]; exact Nat.mod_eq_of_lt (by omega)
  have h2 : (BitVec.ofInt 64 (c : Int)).toNat = c := by
    rw [BitVec.ofInt_natCast, BitVec.toNat_ofNat]; exact Nat.mod_eq_of_lt (by omega)
  have e : a * 2 ^ s ||| c = a * 2 ^ s + c := by
    rw [← Nat.shiftLeft_eq, ← Nat.shiftLeft_add_eq_or_of_lt hc]
  show IntKind.u64.wrap ((BitVec.ofInt 64 ((a * 2 ^ s : Nat) : Int) ||| BitVec.ofInt 64 (c : Int)).toNat : Int) = _
  rw [BitVec.toNat_or, h1, h2, IntKind.wrap_u64, e]
  omega

theorem wrap_nat (a : Nat) : IntKind.u64.wrap (a : Int) = ((a % 18446744073709551616 : Nat) : Int) := by
  rw [IntKind.wrap_u64]; omega
theorem wrap_small {a : Nat} (h : a < 18446744073709551616) : IntKind.u64.wrap (a : Int) = (a : Int) := by
  rw [IntKind.wrap_u64]; omega
theorem pow_cast (b : Nat) : (2 : Int) ^ b = ((2 ^ b : Nat) : Int) := by simp

/-- Where a guess of a half word stands. -/
def KnRel (D n v1 : Nat) (vq vr : Value) : Prop := ∃ (q r : Nat) (iq ir : Int), vq = .int .u64 iq ∧ vr = .int .u64 ir ∧ Hid (iq = q) ∧ Hid (ir = r) ∧ Hid (D ≤ q ∧ q ≤ 4294967297 ∧ q * v1 + r = n ∧ r < 4294967296)

def DivPost (hi lo y : Nat) (w : World) (e : Ending) (w' : World) : Prop :=
  e = .returned (.tuple #[.int .u64 ((hi * 18446744073709551616 + lo) / y : Nat), .int .u64 ((hi * 18446744073709551616 + lo) % y : Nat)]) ∧ ∃ n, w' = w.drewN n

set_option maxHeartbeats 1600000 in
set_option maxRecDepth 100000 in
theorem div64_low (lo y : Nat) (w : World) (hy : 0 < y) (hlo : lo < 18446744073709551616) (hy2 : y < 18446744073709551616) :
    Calls Try.prog 36 #[.int .u64 ((0 : Nat) : Int), .int .u64 lo, .int .u64 y] w fun e w' => DivPost 0 lo y w e w' := by
  have h0 : ((y : Int) == 0) = false := by simp; omega
  have h1 : ¬ (y : Int) ≤ 0 := by omega
  have Hlo := hid hlo
  have Hy := hid hy2
  clear hlo hy2
  go_enter Try.func36, Try.ntmps36
  go_wp2
  go_quiet (fail)
  go_wp2
  go_ret2
  show DivPost 0 lo y w (.returned (.tuple #[.int .u64 (IntKind.u64.wrap ((lo : Int) / (y : Int))), .int .u64 ((lo : Int) % (y : Int))])) _
  refine ⟨?_, nq, rfl⟩
  rw [Nat.zero_mul, Nat.zero_add, ← Int.natCast_ediv, ← Int.natCast_emod, wrap_small (Nat.lt_of_le_of_lt (Nat.div_le_self _ _) Hlo.out)]

set_option maxHeartbeats 3200000 in
set_option maxRecDepth 100000 in
theorem div64_high (hi lo y : Nat) (w : World) (hh : 0 < hi) (hy : hi < y) (hlo : lo < 18446744073709551616) (hy2 : y < 18446744073709551616) :
    Calls Try.prog 36 #[.int .u64 hi, .int .u64 lo, .int .u64 y] w fun e w' => DivPost hi lo y w e w' := by
  have h0 : ((y : Int) == 0) = false := by simp; omega
  have h1 : ¬ (y : Int) ≤ (hi : Int) := by omega
  have h1' : decide (y ≤ hi) = false := by simp; omega
  have h2 : ((hi : Int) == 0) = false := by simp; omega
  obtain ⟨b1, b2, b3⟩ : 1 ≤ Lib.bitLen y ∧ 2 ^ (Lib.bitLen y - 1) ≤ y ∧ y < 2 ^ Lib.bitLen y := Lib.bitLenAux_bounds 64 y hy2 (by omega)
  have b4 : Lib.bitLen y ≤ 64 := Lib.bitLen_le y 64 (Nat.le_refl _) hy2
  obtain ⟨u1, u2⟩ := shift_up b4 b1 b2 b3
  obtain ⟨t1, t2⟩ := shift_two (hi := hi) (lo := lo) b4 hy hlo
  have k := kn_all (X := hi * 18446744073709551616 + lo) (y := y) (s := 64 - Lib.bitLen y) (by omega) t1
  have Hlo := hid hlo
  have Hy := hid hy2
  have B2 := hid b2
  have B3 := hid b3
  have U1 := hid u1
  have U2 := hid u2
  have T1 := hid t1
  have T2 := hid t2
  have HK := hid k
  clear hlo hy2 b2 b3 u1 u2 t1 t2 k
  go_enter Try.func36, Try.ntmps36
  go_wp2_with fail
  refine (Try.bits_LeadingZeros64 _ _ (by omega) (by have := Hy.out; omega)).mono ?_
  rintro e w' ⟨rfl, rfl⟩
  simp only [Int.toNat_natCast]
  generalize Lib.bitLen y = b at *
  have hb2 : (b : Int) ≤ 64 := by omega
  go_upto_region 15 with (fail)
  have e1 : IntKind.u64.wrap ((y : Int) * 2 ^ (64 - b)) = ((y * 2 ^ (64 - b) : Nat) : Int) := by
    rw [pow_cast, ← Int.natCast_mul]; exact wrap_small U2.out
  have e2 : ((y * 2 ^ (64 - b) : Nat) : Int) / 4294967296 = ((y * 2 ^ (64 - b) / 4294967296 : Nat) : Int) := by omega
  have e3 := and_lo (y * 2 ^ (64 - b)) U2.out
  have e5 : IntKind.u64.wrap ((lo : Int) * 2 ^ (64 - b)) = ((lo * 2 ^ (64 - b) % 18446744073709551616 : Nat) : Int) := by
    rw [pow_cast, ← Int.natCast_mul]; exact wrap_nat _
  have e6 : ((lo * 2 ^ (64 - b) % 18446744073709551616 : Nat) : Int) / 4294967296 = ((lo * 2 ^ (64 - b) % 18446744073709551616 / 4294967296 : Nat) : Int) := by omega
  have e7 := and_lo (lo * 2 ^ (64 - b) % 18446744073709551616) (Nat.mod_lt _ (by omega))
  have hp : 0 < 2 ^ b := Nat.pow_pos (by omega)
  have e2b : 2 ^ b * 2 ^ (64 - b) = 18446744073709551616 := by rw [← Nat.pow_add, show b + (64 - b) = 64 by omega]
  have hc : lo / 2 ^ b < 2 ^ (64 - b) := by rw [Nat.div_lt_iff_lt_mul hp, Nat.mul_comm, e2b]; exact Hlo.out
  have hn64 : hi * 2 ^ (64 - b) + lo / 2 ^ b < 18446744073709551616 := Nat.lt_trans T2.out U2.out
  have e8 : IntKind.u64.wrap ((hi : Int) * 2 ^ (64 - b)) = ((hi * 2 ^ (64 - b) : Nat) : Int) := by
    rw [pow_cast, ← Int.natCast_mul]; exact wrap_small (Nat.lt_of_le_of_lt (Nat.le_add_right _ _) hn64)
  have e9 : (lo : Int) / 2 ^ (64 - (64 - b)) = ((lo / 2 ^ b : Nat) : Int) := by
    rw [show 64 - (64 - b) = b by omega, pow_cast, ← Int.natCast_ediv]
  have e10 := or_apart hi (lo / 2 ^ b) (64 - b) hc hn64
  rw [e1, e2, e3, e5, e6, e7, e8, e9, e10]
  clear e1 e2 e3 e5 e6 e7 e8 e9 e10 e2b hc
  have hk := HK.out
  have hu1 := U1.out
  have hu2 := U2.out
  have ht2 := T2.out
  obtain ⟨u, hu⟩ : ∃ u, u = lo * 2 ^ (64 - b) % 18446744073709551616 := ⟨_, rfl⟩
  rw [← hu] at hk ⊢
  have hu3 : u < 18446744073709551616 := by rw [hu]; exact Nat.mod_lt _ (by omega)
  obtain ⟨n, hn⟩ : ∃ n, n = hi * 2 ^ (64 - b) + lo / 2 ^ b := ⟨_, rfl⟩
  rw [← hn] at hk ht2 hn64 ⊢
  have hyp : y * 2 ^ (64 - b) = y * 2 ^ (64 - b) / 4294967296 * 4294967296 + y * 2 ^ (64 - b) % 4294967296 := by omega
  obtain ⟨v1, hv1⟩ : ∃ v1, v1 = y * 2 ^ (64 - b) / 4294967296 := ⟨_, rfl⟩
  obtain ⟨v0, hv0⟩ : ∃ v0, v0 = y * 2 ^ (64 - b) % 4294967296 := ⟨_, rfl⟩
  have hb1 : 2147483648 ≤ v1 ∧ v1 < 4294967296 ∧ v0 < 4294967296 := by omega
  rw [← hv1, ← hv0] at hyp ⊢
  rw [hyp] at hk ht2 ⊢
  obtain ⟨n1, hn1⟩ : ∃ n1, n1 = u / 4294967296 := ⟨_, rfl⟩
  obtain ⟨n0, hn0⟩ : ∃ n0, n0 = u % 4294967296 := ⟨_, rfl⟩
  have hb2' : n1 < 4294967296 ∧ n0 < 4294967296 := by omega
  rw [← hn1, ← hn0] at hk ⊢
  obtain ⟨s, hs⟩ : ∃ s, s = 64 - b := ⟨_, rfl⟩
  rw [← hs] at hk
  have HK2 := hid hk
  have HV := hid ht2
  have HB1 := hid hb1
  have HB2 := hid hb2'
  have HN := hid hn64
  clear hk hu1 hu2 ht2 hu hu3 hn hyp hv1 hv0 hb1 hn1 hn0 hb2' hn64 HK U1 U2 T1 T2 B2 B3 Hlo Hy hp
  have hz : ¬ v1 = 0 := by have := HB1.out; omega
  go_upto_block 0 with (fail)
  have f1 : IntKind.u64.wrap ((n : Int) / (v1 : Int)) = ((n / v1 : Nat) : Int) := by
    rw [← Int.natCast_ediv]; exact wrap_small (Nat.lt_of_le_of_lt (Nat.div_le_self _ _) HN.out)
  have f2 : IntKind.u64.wrap (((n / v1 : Nat) : Int) * (v1 : Int)) = ((n / v1 * v1 : Nat) : Int) := by
    rw [← Int.natCast_mul]; exact wrap_small (Nat.lt_of_le_of_lt (Nat.div_mul_le_self _ _) HN.out)
  have f3 : IntKind.u64.wrap ((n : Int) - ((n / v1 * v1 : Nat) : Int)) = ((n % v1 : Nat) : Int) := by
    have h := Nat.div_add_mod n v1
    rw [Nat.mul_comm] at h
    have e : (n : Int) - ((n / v1 * v1 : Nat) : Int) = ((n % v1 : Nat) : Int) := by omega
    rw [e]; exact wrap_small (Nat.lt_of_le_of_lt (Nat.mod_le _ _) HN.out)
  rw [f1, f2, f3]
  clear f1 f2 f3
  have K0 := kn_first HB1.out.1 HB1.out.2.2 HV.out HB2.out.1
  obtain ⟨D, hD⟩ : ∃ D, D = (n * 4294967296 + n1) / (v1 * 4294967296 + v0) := ⟨_, rfl⟩
  have HD := hid hD
  rw [← hD] at K0
  have HK0 := hid K0
  clear hD K0
  obtain ⟨q0, hq0⟩ : ∃ q0, q0 = n / v1 := ⟨_, rfl⟩
  obtain ⟨r0, hr0⟩ : ∃ r0, r0 = n % v1 := ⟨_, rfl⟩
  have HIq0 : Hid (D ≤ q0 ∧ q0 ≤ 4294967297 ∧ q0 * v1 + r0 = n ∧ r0 < 4294967296) := hid (by rw [hq0, hr0]; have := HK0.out; have := HB1.out; exact ⟨by omega, by omega, by omega, by omega⟩)
  rw [← hq0, ← hr0]
  clear hq0 hr0 HK0 hz
  obtain ⟨V, hV⟩ : ∃ V : Int, V = ((v1 * 4294967296 + v0 : Nat) : Int) := ⟨_, rfl⟩
  obtain ⟨iv1, hiv1⟩ : ∃ x : Int, x = (v1 : Int) := ⟨_, rfl⟩
  obtain ⟨iv0, hiv0⟩ : ∃ x : Int, x = (v0 : Int) := ⟨_, rfl⟩
  obtain ⟨inn, hinn⟩ : ∃ x : Int, x = (n : Int) := ⟨_, rfl⟩
  obtain ⟨in1, hin1⟩ : ∃ x : Int, x = (n1 : Int) := ⟨_, rfl⟩
  obtain ⟨in0, hin0⟩ : ∃ x : Int, x = (n0 : Int) := ⟨_, rfl⟩
  obtain ⟨iq0, hiq0⟩ : ∃ x : Int, x = (q0 : Int) := ⟨_, rfl⟩
  obtain ⟨ir0, hir0⟩ : ∃ x : Int, x = (r0 : Int) := ⟨_, rfl⟩
  obtain ⟨iD, hiD⟩ : ∃ x : Int, x = (D : Int) := ⟨_, rfl⟩
  rw [← hV, ← hiv1, ← hiv0, ← hinn, ← hin1, ← hin0, ← hiq0, ← hir0]
  have LV := hid hV
  have Lv1 := hid hiv1
  have Lv0 := hid hiv0
  have Ln := hid hinn
  have Ln1 := hid hin1
  have Ln0 := hid hin0
  have Lq0 := hid hiq0
  have Lr0 := hid hir0
  have LD := hid hiD
  clear hV hiv1 hiv0 hinn hin1 hin0 hiq0 hir0 hiD
  go_cut [15, 16] (fun vq vr wc => vq = .int .u64 iD ∧ wc = w')
  case first =>
    go_wp2_with fail
    go_loop [15, 16] (fun vq vr => KnRel D n v1 vq vr) (fun vq _ => (intOf vq).toNat)
    case atStart => exact ⟨q0, r0, iq0, ir0, rfl, rfl, Lq0, Lr0, HIq0⟩
    case round =>
      clear HIq0
      obtain ⟨q, r, iq, ir, rfl, rfl, Lq, Lr, HI⟩ := hrel
      by_cases hB : 4294967296 ≤ q
      · have hB' : (4294967296 : Int) ≤ iq := by rw [Lq.out]; omega
        have HBn := hid hB
        clear hB
        obtain ⟨iq1, hiq1⟩ : ∃ x : Int, x = ((q - 1 : Nat) : Int) := ⟨_, rfl⟩
        obtain ⟨ir1, hir1⟩ : ∃ x : Int, x = ((r + v1 : Nat) : Int) := ⟨_, rfl⟩
        have hov : D < q := by rw [HD.out]; exact kn_over HV.out HB2.out.1 HB1.out.1 HI.out.2.2.1 (.inl HBn.out)
        have p1 : IntKind.u64.wrap (iq - 1) = iq1 := by
          have e : iq - 1 = ((q - 1 : Nat) : Int) := by rw [Lq.out]; omega
          rw [e, hiq1]; exact wrap_small (by have := HI.out; omega)
        have p2 : IntKind.u64.wrap (ir + iv1) = ir1 := by
          have e : ir + iv1 = ((r + v1 : Nat) : Int) := by rw [Lr.out, Lv1.out]; omega
          rw [e, hir1]; exact wrap_small (by have := HI.out; have := HB1.out; omega)
        have Lq1 := hid hiq1
        have Lr1 := hid hir1
        have Hov := hid hov
        clear hiq1 hir1 hov
        by_cases hR : 4294967296 ≤ ir1
        · have HR := hid hR
          go_wp2
          go_meet
          refine ⟨?_, rfl⟩
          have hq := kn_break (q := q - 1) (n := n) (n1 := n1) (r := r + v1) HB1.out.1 HB1.out.2.2 (by have := HI.out; omega) (by have h1 := HR.out; have h2 := Lr1.out; omega) (kn_pred HI.out.2.2.1 (by have := Hov.out; omega)) (by rw [← HD.out]; have := Hov.out; omega)
          rw [Lq1.out, hq, LD.out, HD.out]
        · have hR' : ir1 < 4294967296 := by omega
          have HI2 : Hid (D ≤ q - 1 ∧ q - 1 ≤ 4294967297 ∧ (q - 1) * v1 + (r + v1) = n ∧ r + v1 < 4294967296) := hid ⟨by have := Hov.out; omega, by have := HI.out; omega, kn_pred HI.out.2.2.1 (by have := Hov.out; omega), by have := Lr1.out; omega⟩
          clear hR
          go_wp2
          go_round
          case rel => exact (show KnRel D n v1 _ _ from ⟨q - 1, r + v1, iq1, ir1, rfl, rfl, Lq1, Lr1, HI2⟩)
          case measure =>
            have h1 := Lq.out
            have h2 := Lq1.out
            have h3 := Hov.out
            simp [intOf]
            omega
      · have hB' : iq < 4294967296 := by rw [Lq.out]; omega
        have hBn : q < 4294967296 := by omega
        have HBn := hid hBn
        clear hB hBn
        obtain ⟨iqv, hiqv⟩ : ∃ x : Int, x = ((q * v0 : Nat) : Int) := ⟨_, rfl⟩
        obtain ⟨ibr, hibr⟩ : ∃ x : Int, x = ((4294967296 * r : Nat) : Int) := ⟨_, rfl⟩
        obtain ⟨isum, hisum⟩ : ∃ x : Int, x = ((4294967296 * r + n1 : Nat) : Int) := ⟨_, rfl⟩
        have g1 : IntKind.u64.wrap (iq * iv0) = iqv := by
          rw [Lq.out, Lv0.out, ← Int.natCast_mul, hiqv]
          exact wrap_small (by
            have h1 : q * v0 ≤ 4294967295 * 4294967295 := Nat.mul_le_mul (by have := HBn.out; omega) (by have := HB1.out; omega)
            omega)
        have g2 : IntKind.u64.wrap (4294967296 * ir) = ibr := by
          have e : 4294967296 * ir = ((4294967296 * r : Nat) : Int) := by rw [Lr.out]; omega
          rw [e, hibr]; exact wrap_small (by have := HI.out; omega)
        have g3 : IntKind.u64.wrap (ibr + in1) = isum := by
          have e : ibr + in1 = ((4294967296 * r + n1 : Nat) : Int) := by rw [hibr, Ln1.out]; omega
          rw [e, hisum]; exact wrap_small (by have := HI.out; have := HB2.out; omega)
        have Lqv := hid hiqv
        have Lsum := hid hisum
        clear hiqv hibr hisum
        by_cases hG : isum < iqv
        · have HG : Hid (4294967296 * r + n1 < q * v0) := hid (by have h1 := Lqv.out; have h2 := Lsum.out; omega)
          obtain ⟨iq1, hiq1⟩ : ∃ x : Int, x = ((q - 1 : Nat) : Int) := ⟨_, rfl⟩
          obtain ⟨ir1, hir1⟩ : ∃ x : Int, x = ((r + v1 : Nat) : Int) := ⟨_, rfl⟩
          have hov : D < q := by rw [HD.out]; exact kn_over HV.out HB2.out.1 HB1.out.1 HI.out.2.2.1 (.inr HG.out)
          have p1 : IntKind.u64.wrap (iq - 1) = iq1 := by
            have e : iq - 1 = ((q - 1 : Nat) : Int) := by rw [Lq.out]; omega
            rw [e, hiq1]; exact wrap_small (by have := HI.out; omega)
          have p2 : IntKind.u64.wrap (ir + iv1) = ir1 := by
            have e : ir + iv1 = ((r + v1 : Nat) : Int) := by rw [Lr.out, Lv1.out]; omega
            rw [e, hir1]; exact wrap_small (by have := HI.out; have := HB1.out; omega)
          have Lq1 := hid hiq1
          have Lr1 := hid hir1
          have Hov := hid hov
          clear hiq1 hir1 hov
          by_cases hR : 4294967296 ≤ ir1
          · have HR := hid hR
            go_wp2
            go_meet
            refine ⟨?_, rfl⟩
            have hq := kn_break (q := q - 1) (n := n) (n1 := n1) (r := r + v1) HB1.out.1 HB1.out.2.2 (by have := HI.out; omega) (by have h1 := HR.out; have h2 := Lr1.out; omega) (kn_pred HI.out.2.2.1 (by have := Hov.out; omega)) (by rw [← HD.out]; have := Hov.out; omega)
            rw [Lq1.out, hq, LD.out, HD.out]
          · have hR' : ir1 < 4294967296 := by omega
            have HI2 : Hid (D ≤ q - 1 ∧ q - 1 ≤ 4294967297 ∧ (q - 1) * v1 + (r + v1) = n ∧ r + v1 < 4294967296) := hid ⟨by have := Hov.out; omega, by have := HI.out; omega, kn_pred HI.out.2.2.1 (by have := Hov.out; omega), by have := Lr1.out; omega⟩
            clear hR
            go_wp2
            go_round
            case rel => exact (show KnRel D n v1 _ _ from ⟨q - 1, r + v1, iq1, ir1, rfl, rfl, Lq1, Lr1, HI2⟩)
            case measure =>
              have h1 := Lq.out
              have h2 := Lq1.out
              have h3 := Hov.out
              simp [intOf]
              omega
        · have HG : Hid (q * v0 ≤ 4294967296 * r + n1) := hid (by have h1 := Lqv.out; have h2 := Lsum.out; omega)
          have hG' : ¬ isum < iqv := hG
          go_wp2
          go_meet
          refine ⟨?_, rfl⟩
          have hq := kn_done (q := q) (n := n) (n1 := n1) HB1.out.1 HI.out.2.2.1 (by rw [← HD.out]; exact HI.out.1) HG.out
          rw [Lq.out, hq, LD.out, HD.out]
  case rest =>
    obtain ⟨hc1, hc2⟩ := hcut
    subst hc2
    subst hc1
    clear Lq0 Lr0 HIq0
    have hz' : ¬ iv1 = 0 := by have := Lv1.out; have := HB1.out; omega
    obtain ⟨r1, hr1⟩ : ∃ r1, r1 = (n * 4294967296 + n1) % (v1 * 4294967296 + v0) := ⟨_, rfl⟩
    have HVr : Hid (r1 < v1 * 4294967296 + v0) := hid (by rw [hr1]; exact Nat.mod_lt _ (by have := HB1.out; omega))
    have hdm := Nat.div_add_mod (n * 4294967296 + n1) (v1 * 4294967296 + v0)
    rw [← HD.out, ← hr1] at hdm
    have hV64 : v1 * 4294967296 + v0 < 18446744073709551616 := by have := HB1.out; omega
    have HDB : Hid (D < 4294967296) := hid (by rw [HD.out]; exact kn_top HV.out HB2.out.1)
    have hk2 := HK2.out
    rw [← HD.out, ← hr1] at hk2
    have HK3 := hid hk2
    have HR1 := hid hr1
    clear hk2 hr1 HK2
    obtain ⟨Y, hY⟩ : ∃ Y : Nat, Y = (v1 * 4294967296 + v0) * D := ⟨_, rfl⟩
    rw [← hY] at hdm
    obtain ⟨ia1, hia1⟩ : ∃ x : Int, x = ((n * 4294967296 % 18446744073709551616 : Nat) : Int) := ⟨_, rfl⟩
    obtain ⟨ia2, hia2⟩ : ∃ x : Int, x = (((n * 4294967296 % 18446744073709551616 + n1) % 18446744073709551616 : Nat) : Int) := ⟨_, rfl⟩
    obtain ⟨ia3, hia3⟩ : ∃ x : Int, x = ((Y % 18446744073709551616 : Nat) : Int) := ⟨_, rfl⟩
    obtain ⟨iR, hiR⟩ : ∃ x : Int, x = (r1 : Int) := ⟨_, rfl⟩
    have a1 : IntKind.u64.wrap (inn * 4294967296) = ia1 := by
      rw [IntKind.wrap_u64, Ln.out, hia1]; omega
    have a2 : IntKind.u64.wrap (ia1 + in1) = ia2 := by
      rw [IntKind.wrap_u64, Ln1.out, hia1, hia2]; omega
    have a3 : IntKind.u64.wrap (iD * V) = ia3 := by
      rw [LD.out, LV.out, ← Int.natCast_mul, Nat.mul_comm, ← hY, hia3]; exact wrap_nat _
    have a4 : IntKind.u64.wrap (ia2 - ia3) = iR := by
      have h := HVr.out
      rw [IntKind.wrap_u64, hia2, hia3, hiR]; omega
    obtain ⟨iq2, hiq2⟩ : ∃ x : Int, x = ((r1 / v1 : Nat) : Int) := ⟨_, rfl⟩
    obtain ⟨im, him⟩ : ∃ x : Int, x = ((r1 / v1 * v1 : Nat) : Int) := ⟨_, rfl⟩
    obtain ⟨ir2, hir2⟩ : ∃ x : Int, x = ((r1 % v1 : Nat) : Int) := ⟨_, rfl⟩
    have hr64 : r1 < 18446744073709551616 := Nat.lt_trans HVr.out hV64
    have p1 : IntKind.u64.wrap (iR.tdiv iv1) = iq2 := by
      rw [Int.tdiv_eq_ediv_of_nonneg (by rw [hiR]; omega), hiR, Lv1.out, ← Int.natCast_ediv, hiq2]; exact wrap_small (Nat.lt_of_le_of_lt (Nat.div_le_self _ _) hr64)
    have p2 : IntKind.u64.wrap (iq2 * iv1) = im := by
      rw [hiq2, Lv1.out, ← Int.natCast_mul, him]; exact wrap_small (Nat.lt_of_le_of_lt (Nat.div_mul_le_self _ _) hr64)
    have p3 : IntKind.u64.wrap (iR - im) = ir2 := by
      have h := Nat.div_add_mod r1 v1
      rw [Nat.mul_comm] at h
      have e : iR - im = ((r1 % v1 : Nat) : Int) := by rw [hiR, him]; omega
      rw [e, hir2]; exact wrap_small (Nat.lt_of_le_of_lt (Nat.mod_le _ _) hr64)
    have K0 := kn_first HB1.out.1 HB1.out.2.2 HVr.out HB2.out.2
    obtain ⟨E, hE⟩ : ∃ E, E = (r1 * 4294967296 + n0) / (v1 * 4294967296 + v0) := ⟨_, rfl⟩
    have HE := hid hE
    rw [← hE] at K0
    have HK0 := hid K0
    have HEB : Hid (E < 4294967296) := hid (by rw [hE]; exact kn_top HVr.out HB2.out.2)
    obtain ⟨iE, hiE⟩ : ∃ x : Int, x = (E : Int) := ⟨_, rfl⟩
    have LE := hid hiE
    obtain ⟨q2, hq2⟩ : ∃ q2, q2 = r1 / v1 := ⟨_, rfl⟩
    obtain ⟨r2, hr2⟩ : ∃ r2, r2 = r1 % v1 := ⟨_, rfl⟩
    have HIq2 : Hid (E ≤ q2 ∧ q2 ≤ 4294967297 ∧ q2 * v1 + r2 = r1 ∧ r2 < 4294967296) := hid (by rw [hq2, hr2]; have := HK0.out; have := HB1.out; exact ⟨by omega, by omega, by omega, by omega⟩)
    have Liq2 : Hid (iq2 = q2) := hid (by rw [hiq2, hq2])
    have Lir2 : Hid (ir2 = r2) := hid (by rw [hir2, hr2])
    have LR := hid hiR
    have HV64 := hid hV64
    clear hE K0 HK0 hiE hq2 hr2 hiq2 hir2 him hiR hia1 hia2 hia3 hY hdm hV64 hr64
    go_upto_block 2 with (fail)
    clear a1 a2 a3 a4 p1 p2 p3
    go_cut [18, 16] (fun vq vr wd => vq = .int .u64 iE ∧ wd = wc)
    case first =>
      go_wp2_with fail
      go_loop [18, 16] (fun vq vr => KnRel E r1 v1 vq vr) (fun vq _ => (intOf vq).toNat)
      case atStart => exact ⟨q2, r2, iq2, ir2, rfl, rfl, Liq2, Lir2, HIq2⟩
      case round =>
        clear HIq2
        obtain ⟨q, r, iq, ir, rfl, rfl, Lq, Lr, HI⟩ := hrel
        by_cases hB : 4294967296 ≤ q
        · have hB' : (4294967296 : Int) ≤ iq := by rw [Lq.out]; omega
          have HBn := hid hB
          clear hB
          obtain ⟨iq1, hiq1⟩ : ∃ x : Int, x = ((q - 1 : Nat) : Int) := ⟨_, rfl⟩
          obtain ⟨ir1, hir1⟩ : ∃ x : Int, x = ((r + v1 : Nat) : Int) := ⟨_, rfl⟩
          have hov : E < q := by rw [HE.out]; exact kn_over HVr.out HB2.out.2 HB1.out.1 HI.out.2.2.1 (.inl HBn.out)
          have p1 : IntKind.u64.wrap (iq - 1) = iq1 := by
            have e : iq - 1 = ((q - 1 : Nat) : Int) := by rw [Lq.out]; omega
            rw [e, hiq1]; exact wrap_small (by have := HI.out; omega)
          have p2 : IntKind.u64.wrap (ir + iv1) = ir1 := by
            have e : ir + iv1 = ((r + v1 : Nat) : Int) := by rw [Lr.out, Lv1.out]; omega
            rw [e, hir1]; exact wrap_small (by have := HI.out; have := HB1.out; omega)
          have Lq1 := hid hiq1
          have Lr1 := hid hir1
          have Hov := hid hov
          clear hiq1 hir1 hov
          by_cases hR : 4294967296 ≤ ir1
          · have HR := hid hR
            go_wp2
            go_meet
            refine ⟨?_, rfl⟩
            have hq := kn_break (q := q - 1) (n := r1) (n1 := n0) (r := r + v1) HB1.out.1 HB1.out.2.2 (by have := HI.out; omega) (by have h1 := HR.out; have h2 := Lr1.out; omega) (kn_pred HI.out.2.2.1 (by have := Hov.out; omega)) (by rw [← HE.out]; have := Hov.out; omega)
            rw [Lq1.out, hq, LE.out, HE.out]
          · have hR' : ir1 < 4294967296 := by omega
            have HI2 : Hid (E ≤ q - 1 ∧ q - 1 ≤ 4294967297 ∧ (q - 1) * v1 + (r + v1) = r1 ∧ r + v1 < 4294967296) := hid ⟨by have := Hov.out; omega, by have := HI.out; omega, kn_pred HI.out.2.2.1 (by have := Hov.out; omega), by have := Lr1.out; omega⟩
            clear hR
            go_wp2
            go_round
            case rel => exact (show KnRel E r1 v1 _ _ from ⟨q - 1, r + v1, iq1, ir1, rfl, rfl, Lq1, Lr1, HI2⟩)
            case measure =>
              have h1 := Lq.out
              have h2 := Lq1.out
              have h3 := Hov.out
              simp [intOf]
              omega
        · have hB' : iq < 4294967296 := by rw [Lq.out]; omega
          have hBn : q < 4294967296 := by omega
          have HBn := hid hBn
          clear hB hBn
          obtain ⟨iqv, hiqv⟩ : ∃ x : Int, x = ((q * v0 : Nat) : Int) := ⟨_, rfl⟩
          obtain ⟨ibr, hibr⟩ : ∃ x : Int, x = ((4294967296 * r : Nat) : Int) := ⟨_, rfl⟩
          obtain ⟨isum, hisum⟩ : ∃ x : Int, x = ((4294967296 * r + n0 : Nat) : Int) := ⟨_, rfl⟩
          have g1 : IntKind.u64.wrap (iq * iv0) = iqv := by
            rw [Lq.out, Lv0.out, ← Int.natCast_mul, hiqv]
            exact wrap_small (by
              have h1 : q * v0 ≤ 4294967295 * 4294967295 := Nat.mul_le_mul (by have := HBn.out; omega) (by have := HB1.out; omega)
              omega)
          have g2 : IntKind.u64.wrap (4294967296 * ir) = ibr := by
            have e : 4294967296 * ir = ((4294967296 * r : Nat) : Int) := by rw [Lr.out]; omega
            rw [e, hibr]; exact wrap_small (by have := HI.out; omega)
          have g3 : IntKind.u64.wrap (ibr + in0) = isum := by
            have e : ibr + in0 = ((4294967296 * r + n0 : Nat) : Int) := by rw [hibr, Ln0.out]; omega
            rw [e, hisum]; exact wrap_small (by have := HI.out; have := HB2.out; omega)
          have Lqv := hid hiqv
          have Lsum := hid hisum
          clear hiqv hibr hisum
          by_cases hG : isum < iqv
          · have HG : Hid (4294967296 * r + n0 < q * v0) := hid (by have h1 := Lqv.out; have h2 := Lsum.out; omega)
            obtain ⟨iq1, hiq1⟩ : ∃ x : Int, x = ((q - 1 : Nat) : Int) := ⟨_, rfl⟩
            obtain ⟨ir1, hir1⟩ : ∃ x : Int, x = ((r + v1 : Nat) : Int) := ⟨_, rfl⟩
            have hov : E < q := by rw [HE.out]; exact kn_over HVr.out HB2.out.2 HB1.out.1 HI.out.2.2.1 (.inr HG.out)
            have p1 : IntKind.u64.wrap (iq - 1) = iq1 := by
              have e : iq - 1 = ((q - 1 : Nat) : Int) := by rw [Lq.out]; omega
              rw [e, hiq1]; exact wrap_small (by have := HI.out; omega)
            have p2 : IntKind.u64.wrap (ir + iv1) = ir1 := by
              have e : ir + iv1 = ((r + v1 : Nat) : Int) := by rw [Lr.out, Lv1.out]; omega
              rw [e, hir1]; exact wrap_small (by have := HI.out; have := HB1.out; omega)
            have Lq1 := hid hiq1
            have Lr1 := hid hir1
            have Hov := hid hov
            clear hiq1 hir1 hov
            by_cases hR : 4294967296 ≤ ir1
            · have HR := hid hR
              go_wp2
              go_meet
              refine ⟨?_, rfl⟩
              have hq := kn_break (q := q - 1) (n := r1) (n1 := n0) (r := r + v1) HB1.out.1 HB1.out.2.2 (by have := HI.out; omega) (by have h1 := HR.out; have h2 := Lr1.out; omega) (kn_pred HI.out.2.2.1 (by have := Hov.out; omega)) (by rw [← HE.out]; have := Hov.out; omega)
              rw [Lq1.out, hq, LE.out, HE.out]
            · have hR' : ir1 < 4294967296 := by omega
              have HI2 : Hid (E ≤ q - 1 ∧ q - 1 ≤ 4294967297 ∧ (q - 1) * v1 + (r + v1) = r1 ∧ r + v1 < 4294967296) := hid ⟨by have := Hov.out; omega, by have := HI.out; omega, kn_pred HI.out.2.2.1 (by have := Hov.out; omega), by have := Lr1.out; omega⟩
              clear hR
              go_wp2
              go_round
              case rel => exact (show KnRel E r1 v1 _ _ from ⟨q - 1, r + v1, iq1, ir1, rfl, rfl, Lq1, Lr1, HI2⟩)
              case measure =>
                have h1 := Lq.out
                have h2 := Lq1.out
                have h3 := Hov.out
                simp [intOf]
                omega
          · have HG : Hid (q * v0 ≤ 4294967296 * r + n0) := hid (by have h1 := Lqv.out; have h2 := Lsum.out; omega)
            have hG' : ¬ isum < iqv := hG
            go_wp2
            go_meet
            refine ⟨?_, rfl⟩
            have hq := kn_done (q := q) (n := r1) (n1 := n0) HB1.out.1 HI.out.2.2.1 (by rw [← HE.out]; exact HI.out.1) HG.out
            rw [Lq.out, hq, LE.out, HE.out]
    case rest =>
      obtain ⟨hc1, hc2⟩ := hcut
      subst hc2
      subst hc1
      have hdm := Nat.div_add_mod (r1 * 4294967296 + n0) (v1 * 4294967296 + v0)
      obtain ⟨F, hF⟩ : ∃ F, F = (r1 * 4294967296 + n0) % (v1 * 4294967296 + v0) := ⟨_, rfl⟩
      have hk3 := HK3.out
      rw [← HE.out, ← hF] at hdm hk3
      have hF64 : F < 18446744073709551616 := by rw [hF]; exact Nat.lt_trans (Nat.mod_lt _ (by have := HB1.out; omega)) HV64.out
      obtain ⟨Y, hY⟩ : ∃ Y : Nat, Y = (v1 * 4294967296 + v0) * E := ⟨_, rfl⟩
      rw [← hY] at hdm
      obtain ⟨ib1, hib1⟩ : ∃ x : Int, x = ((D * 4294967296 : Nat) : Int) := ⟨_, rfl⟩
      obtain ⟨iQ, hiQ⟩ : ∃ x : Int, x = ((D * 4294967296 + E : Nat) : Int) := ⟨_, rfl⟩
      obtain ⟨ib3, hib3⟩ : ∃ x : Int, x = ((r1 * 4294967296 % 18446744073709551616 : Nat) : Int) := ⟨_, rfl⟩
      obtain ⟨ib4, hib4⟩ : ∃ x : Int, x = (((r1 * 4294967296 % 18446744073709551616 + n0) % 18446744073709551616 : Nat) : Int) := ⟨_, rfl⟩
      obtain ⟨ib5, hib5⟩ : ∃ x : Int, x = ((Y % 18446744073709551616 : Nat) : Int) := ⟨_, rfl⟩
      obtain ⟨iF, hiF⟩ : ∃ x : Int, x = (F : Int) := ⟨_, rfl⟩
      have c1 : IntKind.u64.wrap (iD * 4294967296) = ib1 := by
        have h := HDB.out
        rw [IntKind.wrap_u64, LD.out, hib1]; omega
      have c2 : IntKind.u64.wrap (ib1 + iE) = iQ := by
        have h := HDB.out
        have h2 := HEB.out
        rw [IntKind.wrap_u64, LE.out, hib1, hiQ]; omega
      have c3 : IntKind.u64.wrap (iR * 4294967296) = ib3 := by
        rw [IntKind.wrap_u64, LR.out, hib3]; omega
      have c4 : IntKind.u64.wrap (ib3 + in0) = ib4 := by
        rw [IntKind.wrap_u64, Ln0.out, hib3, hib4]; omega
      have c5 : IntKind.u64.wrap (iE * V) = ib5 := by
        rw [LE.out, LV.out, ← Int.natCast_mul, Nat.mul_comm, ← hY, hib5]; exact wrap_nat _
      have c6 : IntKind.u64.wrap (ib4 - ib5) = iF := by
        rw [IntKind.wrap_u64, hib4, hib5, hiF]; omega
      have HF := hid hiF
      have HQ := hid hiQ
      have HK4 := hid hk3
      clear hF hdm hk3 hF64 hY hib1 hiQ hib3 hib4 hib5 hiF
      go_wp2
      go_ret2
      show DivPost hi lo y wc (.returned (.tuple #[.int .u64 iQ, .int .u64 (iF / 2 ^ (64 - b))])) wc
      refine ⟨?_, 0, rfl⟩
      rw [HQ.out, HF.out, pow_cast, ← Int.natCast_ediv, HK4.out.1, ← hs, HK4.out.2]

theorem div64_any (hi lo y : Nat) (w : World) (hy : hi < y) (hlo : lo < 18446744073709551616) (hy2 : y < 18446744073709551616) :
    Calls Try.prog 36 #[.int .u64 hi, .int .u64 lo, .int .u64 y] w fun e w' => DivPost hi lo y w e w' := by
  rcases Nat.eq_zero_or_pos hi with rfl | h
  · exact div64_low lo y w hy hlo hy2
  · exact div64_high hi lo y w h hy hlo hy2

end Go.Proofs.Ytldckefnelgdgaa
