/- Layer 8: Number, and the reference's, by contracts. -/
import Derived.Test.YtldckefnelgdgaaDoorUnitGlob
namespace Go.Proofs.YtldckefnelgdgaaDoor
open Go.RowKit
set_option linter.unusedSimpArgs false
set_option linter.unusedVariables false

def numX (l : List UInt8) : Int × Int := if l.length ≠ dgL l ∨ l.length < 1 ∨ 9 < l.length then (0, 80) else ((valL l : Int), 0)

theorem all_digits {l : List UInt8} (h : l.length = dgL l) : AllD l := by
  have := AllD.take_dg l (dgL l) (Nat.le_refl _)
  rwa [← h, List.take_length] at this

set_option maxHeartbeats 1600000 in
theorem unumber_any (l : List UInt8) (w : World) (G : Glob w) (hs : l.length ≤ 1152921504606846976) : Calls Tryd.prog 10 #[.string (B l)] w fun e w' => e = .returned (.tuple #[.int .i64 (numX l).1, .int .i64 (numX l).2]) ∧ Keep [] w w' := by
  have hz := B_size l
  have C1 := udigits_any (B l) w (by rw [hz]; omega)
  rw [B_list] at C1
  obtain ⟨D, hD⟩ : ∃ D : Int, D = (dgL l : Int) := ⟨_, rfl⟩
  rw [← hD] at C1
  have H1 := hid C1
  clear C1
  by_cases hok : l.length = dgL l ∧ 1 ≤ l.length ∧ l.length ≤ 9
  · obtain ⟨h1, h2, h3⟩ := hok
    have HX := hid (show numX l = ((valL l : Int), 0) by unfold numX; rw [if_neg (by omega)])
    have hA := all_digits h1
    have hv := valL_lt hA
    have C2 := fun w' (k : Keep [] w w') => atoi_any l hA (by intro h; rw [h] at h2; simp at h2) (by omega) w' (G.keep k)
    have H2 := hid C2
    have h10 : (10 : Nat) ^ l.length ≤ 10 ^ 9 := Nat.pow_le_pow_right (by omega) h3
    have e9 : (10 : Nat) ^ 9 = 1000000000 := by decide
    rw [e9] at h10
    have HV := hid (show valL l < 9223372036854775808 by omega)
    obtain rfl : D = (l.length : Int) := by omega
    have h2' : (1 : Int) ≤ (l.length : Int) := by omega
    have h3' : (l.length : Int) ≤ 9 := by omega
    have k1 : decide ((l.length : Int) < 1) = false := decide_eq_false (by omega)
    clear h1 hD hA hv C2 h10 h2 h3
    go_enter Tryd.func10, Tryd.ntmps10
    go_wp2_with fail
    refine H1.out.mono ?_
    rintro e w1 ⟨rfl, K1⟩
    have HK := hid K1
    go_wp2_with fail
    refine (H2.out _ HK.out).mono ?_
    rintro e w2 ⟨v, er, rfl, K2, hv⟩
    have hv2 := hid (hv HV.out)
    clear hv
    go_wp2
    go_ret2
    exact ⟨by rw [HX.out, hv2.out]; rfl, HK.out.trans K2⟩
  · have HX := hid (show numX l = (0, 80) by unfold numX; rw [if_pos (by omega)])
    have hl2 := dgL_le l
    have key : ((D != (l.length : Int)) = true) ∨ ((D != (l.length : Int)) = false ∧ (l.length : Int) < 1) ∨ ((D != (l.length : Int)) = false ∧ 1 ≤ (l.length : Int) ∧ 9 < (l.length : Int)) := by
      by_cases h : D = (l.length : Int)
      · by_cases h2 : (l.length : Int) < 1
        · exact .inr (.inl ⟨by simp [h], h2⟩)
        · exact .inr (.inr ⟨by simp [h], by omega, by omega⟩)
      · exact .inl (by simp [h])
    clear hok hD hl2
    rcases key with k1 | ⟨k1, k2⟩ | ⟨k1, k2, k3⟩
    all_goals
      go_enter Tryd.func10, Tryd.ntmps10
      go_wp2_with fail
      refine H1.out.mono ?_
      rintro e w1 ⟨rfl, K1⟩
      go_wp2
      go_ret2
      exact ⟨by rw [HX.out]; rfl, K1⟩

theorem digit_of {l : List UInt8} {k : Nat} {c : UInt8} (hA : AllD l) (h : l[k]? = some c) : 48 ≤ c.toNat ∧ c.toNat ≤ 57 := hA c (List.mem_of_getElem? h)

set_option maxHeartbeats 1600000 in
theorem rnumber_any (l : List UInt8) (w : World) (hs : l.length ≤ 1152921504606846976) : Calls Tryd.prog 11 #[.string (B l)] w fun e w' => e = .returned (.tuple #[.int .i64 (numX l).1, .int .i64 (numX l).2]) ∧ Keep [] w w' := by
  have hz := B_size l
  have C1 := rdigits_any (B l) 0 w (by rw [hz]; omega) (by omega)
  rw [B_list, List.drop_zero] at C1
  obtain ⟨D, hD⟩ : ∃ D : Int, D = (dgL l : Int) := ⟨_, rfl⟩
  rw [← hD] at C1
  have H1 := hid C1
  clear C1
  have hl2 := dgL_le l
  by_cases hok : l.length = dgL l ∧ 1 ≤ l.length ∧ l.length ≤ 9
  · obtain ⟨h1, h2, h3⟩ := hok
    have HX := hid (show numX l = ((valL l : Int), 0) by unfold numX; rw [if_neg (by omega)])
    have hA := all_digits h1
    obtain rfl : D = (l.length : Int) := by omega
    have h2' : (1 : Int) ≤ (l.length : Int) := by omega
    have h3' : (l.length : Int) ≤ 9 := by omega
    have k1 : decide ((l.length : Int) < 1) = false := decide_eq_false (by omega)
    have k2 : decide ((9 : Int) < (l.length : Int)) = false := decide_eq_false (by omega)
    have HA := hid hA
    clear h1 hD hA hl2
    go_enter Tryd.func11, Tryd.ntmps11
    go_wp2_with fail
    refine H1.out.mono ?_
    rintro e w1 ⟨rfl, rfl⟩
    go_wp2_with fail
    go_loop [6, 5] (fun vi vu => ∃ i : Nat, i ≤ l.length ∧ vi = .int .i64 i ∧ vu = .int .i64 (valL (l.take i) : Int)) (fun vi _ => l.length - (intOf vi).toNat)
    case atStart => exact ⟨0, Nat.zero_le _, rfl, rfl⟩
    case round =>
      obtain ⟨i, hi, rfl, rfl⟩ := hrel
      by_cases hlt : i < l.length
      · obtain ⟨c, hc⟩ : ∃ c, l[i]? = some c := ⟨l[i], List.getElem?_eq_getElem hlt⟩
        have hdg := digit_of HA.out hc
        have hlt2 : i < (B l).size := by omega
        have hb := bytes_at (B l) i hlt2
        rw [B_list, hc] at hb
        have hbc : ((B l)[i]'hlt2).toNat = c.toNat := congrArg UInt8.toNat (Option.some.inj hb).symm
        have hsn : valL (l.take (i + 1)) = 10 * valL (l.take i) + (c.toNat - 48) := by rw [take_snoc hc]; exact valF_snoc 0 _ _
        have hbound : valL (l.take i) < 1000000000 := by
          have h1 := valL_lt (l := l.take i) (fun x hx => HA.out x (List.mem_of_mem_take hx))
          have h4 : (l.take i).length ≤ 9 := by rw [List.length_take]; omega
          have h5 : (10 : Nat) ^ (l.take i).length ≤ 10 ^ 9 := Nat.pow_le_pow_right (by omega) h4
          have e9 : (10 : Nat) ^ 9 = 1000000000 := by decide
          omega
        obtain ⟨U, hU⟩ : ∃ U : Int, U = (valL (l.take i) : Int) := ⟨_, rfl⟩
        obtain ⟨n, hn⟩ : ∃ n : Int, n = (c.toNat : Int) := ⟨_, rfl⟩
        have hbn : (((B l)[i]'hlt2).toNat : Int) = n := by rw [hn, hbc]
        obtain ⟨d, hd⟩ : ∃ d : Int, d = n - 48 := ⟨_, rfl⟩
        have hw : IntKind.u8.wrap (n - 48) = d := by rw [hd]; simp [IntKind.wrap, IntKind.bits, IntKind.signed]; omega
        have hs1 := hid (show ((valL (l.take (i + 1)) : Nat) : Int) = 10 * U + d by omega)
        have d0 : 0 ≤ d := by omega
        have d1 : d ≤ 9 := by omega
        have u0 : 0 ≤ U := by omega
        have u1 : U < 1000000000 := by omega
        have hi2 : (i : Int) < (l.length : Int) := by omega
        rw [← hU]
        clear hc hdg hb hbc hsn hbound hU hn hd
        go_wp2
        go_round
        case rel => exact ⟨i + 1, hlt, by go_num, by rw [hs1.out]⟩
        case measure => simp [intOf]; omega
      · obtain rfl : i = l.length := by omega
        rw [List.take_length]
        go_wp2
        go_ret2
        exact ⟨by rw [HX.out]; rfl, Keep.refl _ _⟩
  · have HX := hid (show numX l = (0, 80) by unfold numX; rw [if_pos (by omega)])
    have key : D < 1 ∨ (1 ≤ D ∧ 9 < D) ∨ (1 ≤ D ∧ D ≤ 9 ∧ D < (l.length : Int)) := by omega
    clear hok hD hl2
    rcases key with k1 | ⟨k1, k2⟩ | ⟨k1, k2, k3⟩
    all_goals
      go_enter Tryd.func11, Tryd.ntmps11
      go_wp2_with fail
      refine H1.out.mono ?_
      rintro e w1 ⟨rfl, rfl⟩
      go_wp2
      go_ret2
      exact ⟨by rw [HX.out]; rfl, Keep.refl _ _⟩

end Go.Proofs.YtldckefnelgdgaaDoor
