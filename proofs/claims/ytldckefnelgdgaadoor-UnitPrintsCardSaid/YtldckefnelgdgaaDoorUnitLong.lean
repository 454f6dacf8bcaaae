/- Layer 8: long, by a contract; the padding of the part. -/
import Derived.Test.YtldckefnelgdgaaDoorUnitGlob
namespace Go.Proofs.YtldckefnelgdgaaDoor
open Go.RowKit
set_option linter.unusedSimpArgs false
set_option linter.unusedVariables false

/-- The part in four digits. -/
def pad (l : List UInt8) : List UInt8 := (l ++ [48, 48, 48, 48]).take 4
theorem pad_eq {l : List UInt8} (h : l.length ≤ 4) : pad l = l ++ List.replicate (4 - l.length) 48 := by
  unfold pad
  match l, h with
  | [], _ => rfl
  | [a], _ => rfl
  | [a, b], _ => rfl
  | [a, b, c], _ => rfl
  | [a, b, c, d], _ => rfl
  | a :: b :: c :: d :: e :: r, h => simp at h
theorem pad_len {l : List UInt8} (h : l.length ≤ 4) : (pad l).length = 4 := by rw [pad_eq h]; simp; omega
theorem pad_D {l : List UInt8} (h : l.length ≤ 4) (hD : AllD l) : AllD (pad l) := by rw [pad_eq h]; exact hD.app (AllD.zeros _)
theorem pad_app (l : List UInt8) : B l ++ ⟨#[48, 48, 48, 48]⟩ = B (l ++ [48, 48, 48, 48]) := B_append l [48, 48, 48, 48]
theorem pad_ext (l : List UInt8) : (B (l ++ [48, 48, 48, 48])).extract 0 4 = B (pad l) := by rw [ext_to, B_list]; rfl

theorem pad_qr {a p : List UInt8} {num den : Nat} (hp : p.length ≤ 4) (hd : 1 ≤ den) : qr (valL (a ++ pad p)) num (10000 * den) = qr (valL (a ++ p)) num (den * 10 ^ p.length) := by
  have h10 : ∀ j, 1 ≤ 10 ^ j := fun j => Nat.one_le_pow _ _ (by omega)
  have e : (10000 : Nat) = 10 ^ p.length * 10 ^ (4 - p.length) := by rw [← Nat.pow_add, show p.length + (4 - p.length) = 4 by omega]
  rw [pad_eq hp, ← List.append_assoc, valL_zeros]
  have e2 : 10000 * den = den * 10 ^ p.length * 10 ^ (4 - p.length) := by rw [Nat.mul_assoc, ← e, Nat.mul_comm]
  rw [e2]
  exact qr_scale (h10 _) (Nat.mul_pos (by omega) (h10 _))

theorem val_pad {a p : List UInt8} (hp : p.length = 4) : valL (a ++ p) = valL a * 10000 + valL p := by
  have : valL (a ++ p) = valF (valL a) p := valF_app 0 a p
  rw [this, valF_split, hp]

set_option maxHeartbeats 1600000 in
theorem utold_zero (n den : Int) (w : World) (n0 : -9223372036854775808 ≤ n) (n1 : n ≤ 9223372036854775807) (hd : 1 ≤ den) (hd2 : den ≤ 1270000) :
    Calls Tryd.prog 19 #[.int .i64 n, .int .i64 0, .int .i64 den] w fun e w' => ToldU (some 0) w e w' := by
  have cL : bits .and .i64 0 1048575 = 0 := by decide
  have dz : ¬ den = 0 := by omega
  have dk : decide (den ≤ 0) = false := decide_eq_false (by omega)
  by_cases hp : 0 < n
  · have dk1 : decide (0 < n) = true := decide_eq_true hp
    go_enter Tryd.func19, Tryd.ntmps19
    go_upto_region 1 with (fail)
    go_quiet (fail)
    go_wp2
    go_ret2
    exact ⟨rfl, (Keep.refl _ _).drewN _⟩
  · have dk1 : decide (0 < n) = false := decide_eq_false hp
    go_enter Tryd.func19, Tryd.ntmps19
    go_upto_region 1 with (fail)
    go_quiet (fail)
    go_wp2
    go_ret2
    exact ⟨rfl, (Keep.refl _ _).drewN _⟩

set_option maxHeartbeats 1600000 in
theorem ulong_any (a p : List UInt8) (num den : Nat) (w : World) (G : Glob w) (ha : AllD a) (hal : a.length = 15) (hp : AllD p) (hpl : p.length ≤ 4) (hm : num ≤ 70368744177664) (hd : 1 ≤ den) (hd2 : den ≤ 127) (hnd : num = 0 ∨ den ≤ num) :
    Calls Tryd.prog 18 #[.string (B a), .string (B p), .int .i64 (num : Int), .int .i64 (den : Int)] w fun e w' => ToldU (qr (valL (a ++ pad p)) num (10000 * den)) w e w' := by
  have hpz := B_size p
  have eA := pad_app p
  have eE := pad_ext p
  have hqz : (B (p ++ [48, 48, 48, 48])).size = p.length + 4 := by rw [B_size]; simp
  have hpd := pad_D hpl hp
  have hpdl := pad_len hpl
  have hv := valL_lt ha
  have hvp := valL_lt hpd
  rw [hal] at hv
  rw [hpdl] at hvp
  have hN := val_pad (a := a) hpdl
  have C1 := atoi_any a ha (by intro h; rw [h] at hal; simp at hal) (by omega) w G
  have C2 := fun w' (k : Keep [] w w') => atoi_any (pad p) hpd (by intro h; rw [h] at hpdl; simp at hpdl) (by omega) w' (G.keep k)
  rw [hN]
  generalize pad p = pp at *
  generalize p ++ [48, 48, 48, 48] = p4 at *
  obtain ⟨V, hV⟩ : ∃ V, V = valL a := ⟨_, rfl⟩
  obtain ⟨F, hF⟩ : ∃ F, F = valL pp := ⟨_, rfl⟩
  rw [← hV] at hv hN C1 ⊢
  rw [← hF] at hvp hN ⊢
  simp only [← hF] at C2
  have e15 : (10 : Nat) ^ 15 = 1000000000000000 := by decide
  have e4 : (10 : Nat) ^ 4 = 10000 := by decide
  rw [e15] at hv
  rw [e4] at hvp
  have H1 := hid C1
  have H2 := hid C2
  obtain ⟨Y, hY⟩ : ∃ Y, Y = qr (V * 10000 + F) num (10000 * den) := ⟨_, rfl⟩
  rw [← hY]
  clear C1 C2 hN hV hF
  have hpz2 : (p.length : Int) ≤ 4 := by omega
  by_cases hbig : 140737488355328 < V ∧ 0 < num
  · obtain ⟨b1, b2⟩ := hbig
    have HQ := hid (show Y = none from hY.trans <| qr_huge (by omega) (by
      have h1 : den ≤ num := by omega
      have h2 : 1407374883553280000 * den ≤ (V * 10000 + F) * num := Nat.mul_le_mul (by omega) h1
      omega))
    clear hY
    obtain ⟨M, hM⟩ : ∃ M : Int, M = (num : Int) := ⟨_, rfl⟩
    rw [← hM]
    have hM0 : 0 < M := by omega
    clear hM
    go_enter Tryd.func18, Tryd.ntmps18
    go_wp2_with fail
    refine H1.out.mono ?_
    rintro e w1 ⟨v, er, rfl, K1, hv1⟩
    have k1 : 140737488355328 < v := by rw [hv1 (by omega)]; omega
    clear hv1
    go_wp2
    go_ret2
    exact ⟨by rw [HQ.out]; rfl, K1⟩
  · by_cases h0 : num = 0
    · subst h0
      have HQ := hid (show Y = some 0 from hY.trans (qr_zero (by omega)))
      clear hY
      obtain ⟨D, hD⟩ : ∃ D : Int, D = (den : Int) := ⟨_, rfl⟩
      rw [← hD]
      have hD0 : 1 ≤ D := by omega
      have hD1 : D ≤ 127 := by omega
      have C3 : ∀ (n : Int) (w : World), -9223372036854775808 ≤ n → n ≤ 9223372036854775807 → Calls Tryd.prog 19 #[.int .i64 n, .int .i64 0, .int .i64 (10000 * D)] w fun e w' => e = .returned (.tuple #[.int .i64 0, .int .i64 0]) ∧ Keep [] w w' := fun n w a b => utold_zero n (10000 * D) w a b (by omega) (by omega)
      have H3 := hid C3
      clear hD hbig C3
      go_enter Tryd.func18, Tryd.ntmps18
      go_wp2_with fail
      refine H1.out.mono ?_
      rintro e w1 ⟨v, er, rfl, K1, hv1⟩
      have HK := hid K1
      have hv2 := hv1 (by omega)
      have v0 : 0 ≤ v := by omega
      have v1 : v ≤ 1000000000000000 := by omega
      clear hv1 hv2
      by_cases hvb : 140737488355328 < v
      all_goals
        go_wp2_with fail
        refine (H2.out _ HK.out).mono ?_
        rintro e w2 ⟨f, er2, rfl, K2, hf1⟩
        have hf2 := hf1 (by omega)
        have f0 : 0 ≤ f := by omega
        have f1 : f ≤ 10000 := by omega
        clear hf1 hf2
        obtain ⟨X, hX⟩ : ∃ X, X = wrap64 (10000 * v + f) := ⟨_, rfl⟩
        have X0 : -9223372036854775808 ≤ X ∧ X ≤ 9223372036854775807 := by rw [hX]; unfold wrap64; omega
        obtain ⟨X1, hX1⟩ : ∃ X, X = wrap64 (10000 * v) := ⟨_, rfl⟩
        have hX2 : wrap64 (10000 * v) = X1 := hX1.symm
        obtain ⟨X3, hX3⟩ : ∃ X, X = wrap64 (X1 + f) := ⟨_, rfl⟩
        have hX4 : wrap64 (X1 + f) = X3 := hX3.symm
        have X30 : -9223372036854775808 ≤ X3 ∧ X3 ≤ 9223372036854775807 := by rw [hX3]; unfold wrap64; omega
        have HX := hid X30
        clear hX hX1 hX3 X0 X30 v1
        go_wp2_with fail
        first
          | (with_reducible refine (H3.out X3 _ HX.out.1 HX.out.2).mono ?_)
          | (with_reducible refine (H3.out (10000 * v + f) _ (by omega) (by omega)).mono ?_)
        rintro e w3 ⟨rfl, K3⟩
        go_wp2
        go_ret2
        exact ⟨by rw [HQ.out]; rfl, (HK.out.trans K2).trans K3⟩
    · have hle : V ≤ 140737488355328 := by omega
      have C3 := fun w => utold_any (V * 10000 + F) num (10000 * den) w (by omega) hm (by omega) (by omega)
      rw [← hY] at C3
      rw [show ((V * 10000 + F : Nat) : Int) = 10000 * (V : Int) + (F : Int) by omega, show ((10000 * den : Nat) : Int) = 10000 * (den : Int) by omega] at C3
      clear hY
      have H3 := hid C3
      clear C3
      go_enter Tryd.func18, Tryd.ntmps18
      go_wp2_with fail
      refine H1.out.mono ?_
      rintro e w1 ⟨v, er, rfl, K1, hv1⟩
      obtain rfl := hv1 (by omega)
      have HK := hid K1
      have hle' : (V : Int) ≤ 140737488355328 := by omega
      have dk : decide ((140737488355328 : Int) < (V : Int)) = false := decide_eq_false (by omega)
      go_wp2_with fail
      refine (H2.out _ HK.out).mono ?_
      rintro e w2 ⟨f, er2, rfl, K2, hf1⟩
      obtain rfl := hf1 (by omega)
      go_wp2_with fail
      with_reducible refine (H3.out _).mono ?_
      rintro e w3 ⟨rfl, K3⟩
      go_wp2
      go_ret2
      exact ⟨rfl, (HK.out.trans K2).trans K3⟩

end Go.Proofs.YtldckefnelgdgaaDoor
