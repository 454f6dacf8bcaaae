/- Layer 8: the document's examples; the walks of UnitNames, UnitReads, UnitPrints. -/
import Derived.Test.YtldckefnelgdgaaDoorUnitRRead
import Derived.Test.YtldckefnelgdgaaDoorUnitPrint
namespace Go.Proofs.YtldckefnelgdgaaDoor
open Go.RowKit
set_option linter.unusedSimpArgs false
set_option linter.unusedVariables false

theorem ex1 : readX [49, 46, 53, 101, 109] 7 = (11, 0) := by decide +kernel
theorem ex2 : readX [49, 109, 109] 0 = (185771, 0) := by decide +kernel
theorem ex3 : readX [49, 48, 55, 51, 55, 52, 49, 56, 50, 52, 46, 48, 48, 48, 49] 0 = (0, 81) := by decide +kernel
theorem ex4 : numX [50, 48, 48] = (200, 0) := by decide +kernel
theorem ex5 : printX 655361 = ([54, 53, 53, 51, 54, 49, 115, 112], 0) := by
  have h1 : Lib.decDigits 6 = [54] := by rw [Lib.decDigits, dif_pos (by decide)]; rfl
  have h2 : Lib.decDigits 65 = [54, 53] := by rw [Lib.decDigits, dif_neg (by decide)]; show Lib.decDigits 6 ++ _ = _; rw [h1]; rfl
  have h3 : Lib.decDigits 655 = [54, 53, 53] := by rw [Lib.decDigits, dif_neg (by decide)]; show Lib.decDigits 65 ++ _ = _; rw [h2]; rfl
  have h4 : Lib.decDigits 6553 = [54, 53, 53, 51] := by rw [Lib.decDigits, dif_neg (by decide)]; show Lib.decDigits 655 ++ _ = _; rw [h3]; rfl
  have h5 : Lib.decDigits 65536 = [54, 53, 53, 51, 54] := by rw [Lib.decDigits, dif_neg (by decide)]; show Lib.decDigits 6553 ++ _ = _; rw [h4]; rfl
  have h6 : Lib.decDigits 655361 = [54, 53, 53, 51, 54, 49] := by rw [Lib.decDigits, dif_neg (by decide)]; show Lib.decDigits 65536 ++ _ = _; rw [h5]; rfl
  show (if (655361 : Int) < 0 ∨ 70368744177664 < (655361 : Int) then (([] : List UInt8), (1 : Int)) else if (655361 : Int) % 65536 = 0 then (Lib.decDigits 10, 0) else (Lib.decDigits 655361 ++ [115, 112], 0)) = _
  rw [if_neg (by decide), if_neg (by decide), h6]
  rfl

set_option maxHeartbeats 1600000 in
theorem shown08 (w : World) (G : Glob w) : Calls Tryd.prog 7 #[] w fun e w' => e = .returned (.bool true) ∧ Keep [] w w' := by
  have R1 := fun w (G : Glob w) => uread_any [49, 46, 53, 101, 109] 7 w G (by decide) (by omega) (by omega)
  have R2 := fun w (G : Glob w) => uread_any [49, 109, 109] 0 w G (by decide) (by omega) (by omega)
  have R3 := fun w (G : Glob w) => uread_any [49, 48, 55, 51, 55, 52, 49, 56, 50, 52, 46, 48, 48, 48, 49] 0 w G (by decide) (by omega) (by omega)
  have R4 := fun w (G : Glob w) => unumber_any [50, 48, 48] w G (by decide)
  have R5 := fun w (G : Glob w) => uprint_any 655361 w G
  rw [ex1] at R1
  rw [ex2] at R2
  rw [ex3] at R3
  rw [ex4] at R4
  rw [ex5] at R5
  have H1 : Hid (∀ w (G : Glob w), Calls Tryd.prog 8 #[.string ⟨#[49, 46, 53, 101, 109]⟩, .int .i64 7] w fun e w' => e = .returned (.tuple #[.int .i64 11, .int .i64 0]) ∧ Keep [] w w') := hid R1
  have H2 : Hid (∀ w (G : Glob w), Calls Tryd.prog 8 #[.string ⟨#[49, 109, 109]⟩, .int .i64 0] w fun e w' => e = .returned (.tuple #[.int .i64 185771, .int .i64 0]) ∧ Keep [] w w') := hid R2
  have H3 : Hid (∀ w (G : Glob w), Calls Tryd.prog 8 #[.string ⟨#[49, 48, 55, 51, 55, 52, 49, 56, 50, 52, 46, 48, 48, 48, 49]⟩, .int .i64 0] w fun e w' => e = .returned (.tuple #[.int .i64 0, .int .i64 81]) ∧ Keep [] w w') := hid R3
  have H4 : Hid (∀ w (G : Glob w), Calls Tryd.prog 10 #[.string ⟨#[50, 48, 48]⟩] w fun e w' => e = .returned (.tuple #[.int .i64 200, .int .i64 0]) ∧ Keep [] w w') := hid R4
  have H5 : Hid (∀ w (G : Glob w), Calls Tryd.prog 12 #[.int .i64 655361] w fun e w' => e = .returned (.tuple #[.string ⟨#[54, 53, 53, 51, 54, 49, 115, 112]⟩, .int .i64 0]) ∧ Keep [] w w') := hid R5
  clear R1 R2 R3 R4 R5
  have HG := hid G
  go_enter Tryd.func7, Tryd.ntmps7
  go_wp2_with fail
  with_reducible refine (H1.out _ HG.out).mono ?_
  rintro e w1 ⟨rfl, K1⟩
  have HK1 := hid K1
  go_wp2_with fail
  with_reducible refine (H2.out _ (HG.out.keep HK1.out)).mono ?_
  rintro e w2 ⟨rfl, K2⟩
  have HK2 := hid (HK1.out.trans K2)
  go_wp2_with fail
  with_reducible refine (H5.out _ (HG.out.keep HK2.out)).mono ?_
  rintro e w3 ⟨rfl, K3⟩
  have HK3 := hid (HK2.out.trans K3)
  go_wp2_with fail
  with_reducible refine (H3.out _ (HG.out.keep HK3.out)).mono ?_
  rintro e w4 ⟨rfl, K4⟩
  have HK4 := hid (HK3.out.trans K4)
  go_wp2_with fail
  with_reducible refine (H4.out _ (HG.out.keep HK4.out)).mono ?_
  rintro e w5 ⟨rfl, K5⟩
  go_wp2
  go_ret
  exact ⟨rfl, HK4.out.trans K5⟩

theorem walkNames (w : World) (G : Glob w) : Calls Tryd.prog 6 #[] w fun e w' => e = .returned (.bool true) ∧ Below w.heap.size w w' := by
  go_enter Tryd.func6, Tryd.ntmps6
  go_wp2_with fail
  refine (shown08 _ G).mono ?_
  rintro e w1 ⟨rfl, K1⟩
  go_wp2
  go_ret
  exact ⟨rfl, K1.below (Nat.le_refl _) (by simp)⟩

theorem walkReads (s : ByteArray) (hs : s.size ≤ 140737488355328) (size : Int) (s0 : -9223372036854775808 ≤ size) (s1 : size ≤ 9223372036854775807) (w : World) (G : Glob w) : Calls Tryd.prog 3 #[.string s, .int .i64 size] w fun e w' => e = .returned (.bool true) ∧ Below w.heap.size w w' := by
  obtain ⟨l, rfl⟩ : ∃ l, s = B l := ⟨s.data.toList, (B_of s).symm⟩
  rw [B_size] at hs
  have HG := hid G
  have R1 := fun w (G : Glob w) => uread_any l size w G (by omega) s0 s1
  have R2 := fun w => rread_any l size w (by omega) s0 s1
  have R3 := fun w (G : Glob w) => unumber_any l w G (by omega)
  have R4 := fun w => rnumber_any l w (by omega)
  generalize readX l size = V at *
  generalize numX l = U at *
  obtain ⟨v1, v2⟩ := V
  obtain ⟨u1, u2⟩ := U
  simp only at R1 R2 R3 R4
  have H1 := hid R1
  have H2 := hid R2
  have H3 := hid R3
  have H4 := hid R4
  clear R1 R2 R3 R4
  go_enter Tryd.func3, Tryd.ntmps3
  go_wp2_with fail
  refine (shown08 _ G).mono ?_
  rintro e w1 ⟨rfl, K1⟩
  have HK1 := hid K1
  go_wp2_with fail
  with_reducible refine (H1.out _ (HG.out.keep HK1.out)).mono ?_
  rintro e w2 ⟨rfl, K2⟩
  have HK2 := hid (HK1.out.trans K2)
  go_wp2_with fail
  with_reducible refine (H2.out _).mono ?_
  rintro e w3 ⟨rfl, K3⟩
  have HK3 := hid (HK2.out.trans K3)
  go_wp2_with fail
  with_reducible refine (H3.out _ (HG.out.keep HK3.out)).mono ?_
  rintro e w4 ⟨rfl, K4⟩
  have HK4 := hid (HK3.out.trans K4)
  go_wp2_with fail
  with_reducible refine (H4.out _).mono ?_
  rintro e w5 ⟨rfl, K5⟩
  go_wp2
  go_ret
  exact ⟨rfl, (HK4.out.trans K5).below (Nat.le_refl _) (by simp)⟩

/-! What Print wrote is read as it was. -/
theorem isDg_of {c : UInt8} (h : 48 ≤ c.toNat ∧ c.toNat ≤ 57) : isDg c = true := decide_eq_true h
theorem dgL_app : ∀ (a r : List UInt8), AllD a → (∀ c, r[0]? = some c → isDg c = false) → dgL (a ++ r) = a.length
  | [], r, _, h => by
    cases r with
    | nil => rfl
    | cons c r => show (if isDg c = true then dgL r + 1 else 0) = 0; rw [h c rfl]; rfl
  | c :: a, r, hA, h => by
    show (if isDg c = true then dgL (a ++ r) + 1 else 0) = a.length + 1
    rw [if_pos (isDg_of (hA c (by simp))), dgL_app a r (fun x hx => hA x (by simp [hx])) h]

theorem dig_toNat {d : Nat} (h : d < 10) : (UInt8.ofNat (48 + d)).toNat = 48 + d := by
  rw [UInt8.toNat_ofNat']
  exact Nat.mod_eq_of_lt (by omega)
theorem dec_facts : ∀ (m n : Nat), n ≤ m → AllD (Lib.decDigits n) ∧ valL (Lib.decDigits n) = n ∧ 1 ≤ (Lib.decDigits n).length := by
  intro m
  induction m with
  | zero =>
    intro n hn
    obtain rfl : n = 0 := by omega
    rw [Lib.decDigits, dif_pos (by omega)]
    exact ⟨fun c hc => by simp at hc; subst hc; decide, by decide, by simp⟩
  | succ m ih =>
    intro n hn
    rw [Lib.decDigits]
    by_cases h : n < 10
    · rw [dif_pos h]
      have := dig_toNat h
      refine ⟨fun c hc => ?_, ?_, by simp⟩
      · simp only [List.mem_singleton] at hc
        subst hc
        omega
      · show 10 * 0 + ((UInt8.ofNat (48 + n)).toNat - 48) = n
        omega
    · rw [dif_neg h]
      obtain ⟨h1, h2, h3⟩ := ih (n / 10) (by omega)
      have hd := dig_toNat (Nat.mod_lt n (show 10 > 0 by omega))
      refine ⟨h1.app (fun c hc => ?_), ?_, by simp⟩
      · simp only [List.mem_singleton] at hc
        subst hc
        omega
      · have : valL (Lib.decDigits (n / 10) ++ [UInt8.ofNat (48 + n % 10)]) = 10 * valL (Lib.decDigits (n / 10)) + ((UInt8.ofNat (48 + n % 10)).toNat - 48) := valF_snoc 0 _ _
        rw [this, h2, hd]
        omega

theorem qr_exact {n num : Nat} (h : n * num ≤ 70368744177664) : qr n num 1 = some (n * num) := by
  unfold qr
  rw [Nat.div_one, Nat.mod_one, if_neg (by omega), if_neg (by omega)]

theorem read_print {d : Int} (h0 : 0 ≤ d) (h1 : d ≤ 70368744177664) (size : Int) : readX (printX d).1 size = (d, 0) := by
  obtain ⟨n, rfl⟩ : ∃ n : Nat, d = (n : Int) := ⟨d.toNat, by omega⟩
  have hp : printX (n : Int) = if (n : Int) % 65536 = 0 then (Lib.decDigits (n / 65536), 0) else (Lib.decDigits n ++ [115, 112], 0) := by
    unfold printX
    rw [if_neg (by omega)]
    rfl
  rw [hp]
  by_cases hm : (n : Int) % 65536 = 0
  · rw [if_pos hm]
    obtain ⟨a1, a2, a3⟩ := dec_facts (n / 65536) (n / 65536) (Nat.le_refl _)
    have hl := decDigits_len (n / 65536) 9 (by have : (10 : Nat) ^ 10 = 10000000000 := (by decide); omega)
    show readX (Lib.decDigits (n / 65536)) size = _
    generalize Lib.decDigits (n / 65536) = a at *
    have hdg : dgL a = a.length := by have := dgL_app a [] a1 (by simp); rwa [List.append_nil] at this
    have hX : cutX a = some (a.length, 0, a.length) := by
      unfold cutX
      rw [hdg, if_neg (by omega), if_neg (by simp)]
    unfold readX
    rw [hX]
    show (match unitX (a.drop a.length) size with | none => ((0 : Int), (80 : Int)) | some (num, den) => if a.drop a.length = [101, 109] ∧ (size < 0 ∨ 70368744177664 < size) then (0, 81) else (qrV (qr (valL (textX a a.length 0)) num.toNat (den.toNat * 10 ^ 0)), qrE (qr (valL (textX a a.length 0)) num.toNat (den.toNat * 10 ^ 0)))) = _
    have ht : textX a a.length 0 = a := by unfold textX; simp
    rw [List.drop_length, ht, a2]
    show (qrV (qr (n / 65536) 65536 1), qrE (qr (n / 65536) 65536 1)) = _
    rw [qr_exact (by omega)]
    show (((n / 65536 * 65536 : Nat) : Int), (0 : Int)) = _
    congr 1
    omega
  · rw [if_neg hm]
    obtain ⟨a1, a2, a3⟩ := dec_facts n n (Nat.le_refl _)
    have hl := decDigits_len n 13 (by have : (10 : Nat) ^ 14 = 100000000000000 := (by decide); omega)
    show readX (Lib.decDigits n ++ [115, 112]) size = _
    generalize Lib.decDigits n = a at *
    have hdg : dgL (a ++ [115, 112]) = a.length := dgL_app a [115, 112] a1 (fun c hc => by simp at hc; subst hc; decide)
    have hat : (a ++ [115, 112])[a.length]? = some 115 := by rw [List.getElem?_append_right (Nat.le_refl _)]; simp
    have hX : cutX (a ++ [115, 112]) = some (a.length, 0, a.length) := by
      unfold cutX
      rw [hdg, if_neg (by omega), hat, if_neg (by decide)]
    unfold readX
    rw [hX]
    have ht : textX (a ++ [115, 112]) a.length 0 = a := by unfold textX; simp
    have hdr : (a ++ [115, 112]).drop a.length = [115, 112] := by simp
    show (match unitX ((a ++ [115, 112]).drop a.length) size with | none => ((0 : Int), (80 : Int)) | some (num, den) => if (a ++ [115, 112]).drop a.length = [101, 109] ∧ (size < 0 ∨ 70368744177664 < size) then (0, 81) else (qrV (qr (valL (textX (a ++ [115, 112]) a.length 0)) num.toNat (den.toNat * 10 ^ 0)), qrE (qr (valL (textX (a ++ [115, 112]) a.length 0)) num.toNat (den.toNat * 10 ^ 0)))) = _
    rw [hdr, ht, a2]
    show (if ([115, 112] : List UInt8) = [101, 109] ∧ (size < 0 ∨ 70368744177664 < size) then ((0 : Int), (81 : Int)) else (qrV (qr n 1 1), qrE (qr n 1 1))) = _
    rw [if_neg (fun h => absurd h.1 (by decide)), qr_exact (by omega), Nat.mul_one]
    rfl

theorem print_len (d : Int) : (printX d).1.length ≤ 100 := by
  unfold printX
  split
  · simp
  · split
    · have := decDigits_len (d.toNat / 65536) 18 (by have : (10 : Nat) ^ 19 = 10000000000000000000 := (by decide); omega)
      simp; omega
    · have := decDigits_len d.toNat 18 (by have : (10 : Nat) ^ 19 = 10000000000000000000 := (by decide); omega)
      simp; omega

theorem walkPrints (d : Int) (size : Int) (s0 : -9223372036854775808 ≤ size) (s1 : size ≤ 9223372036854775807) (w : World) (G : Glob w) : Calls Tryd.prog 4 #[.int .i64 d, .int .i64 size] w fun e w' => e = .returned (.bool true) ∧ Below w.heap.size w w' := by
  have HG := hid G
  have R1 := fun w (G : Glob w) => uprint_any d w G
  have R2 := fun w (G : Glob w) => rprint_any d w G
  have hpl := print_len d
  by_cases hok : d < 0 ∨ 70368744177664 < d
  · have hp : printX d = ([], 1) := by unfold printX; rw [if_pos hok]
    rw [hp] at R1 R2
    have H1 : Hid (∀ w (G : Glob w), Calls Tryd.prog 12 #[.int .i64 d] w fun e w' => e = .returned (.tuple #[.string (B []), .int .i64 1]) ∧ Keep [] w w') := hid R1
    have H2 : Hid (∀ w (G : Glob w), Calls Tryd.prog 13 #[.int .i64 d] w fun e w' => e = .returned (.tuple #[.string (B []), .int .i64 1]) ∧ Keep [] w w') := hid R2
    clear R1 R2 hp hpl
    go_enter Tryd.func4, Tryd.ntmps4
    go_wp2_with fail
    refine (shown08 _ G).mono ?_
    rintro e w1 ⟨rfl, K1⟩
    have HK1 := hid K1
    go_wp2_with fail
    with_reducible refine (H1.out _ (HG.out.keep HK1.out)).mono ?_
    rintro e w2 ⟨rfl, K2⟩
    have HK2 := hid (HK1.out.trans K2)
    go_wp2_with fail
    with_reducible refine (H2.out _ (HG.out.keep HK2.out)).mono ?_
    rintro e w3 ⟨rfl, K3⟩
    go_wp2
    go_ret
    exact ⟨rfl, (HK2.out.trans K3).below (Nat.le_refl _) (by simp)⟩
  · have hr := read_print (d := d) (by omega) (by omega) size
    have R3 := fun w (G : Glob w) => uread_any (printX d).1 size w G (by omega) s0 s1
    rw [hr] at R3
    have h2 : (printX d).2 = 0 := by unfold printX; rw [if_neg hok]; split <;> rfl
    rw [h2] at R1 R2
    generalize (printX d).1 = x at *
    have H1 := hid R1
    have H2 := hid R2
    have H3 := hid R3
    clear R1 R2 R3 hr h2 hok
    go_enter Tryd.func4, Tryd.ntmps4
    go_wp2_with fail
    refine (shown08 _ G).mono ?_
    rintro e w1 ⟨rfl, K1⟩
    have HK1 := hid K1
    go_wp2_with fail
    with_reducible refine (H1.out _ (HG.out.keep HK1.out)).mono ?_
    rintro e w2 ⟨rfl, K2⟩
    have HK2 := hid (HK1.out.trans K2)
    go_wp2_with fail
    with_reducible refine (H2.out _ (HG.out.keep HK2.out)).mono ?_
    rintro e w3 ⟨rfl, K3⟩
    have HK3 := hid (HK2.out.trans K3)
    go_wp2_with fail
    with_reducible refine (H3.out _ (HG.out.keep HK3.out)).mono ?_
    rintro e w4 ⟨rfl, K4⟩
    go_wp2
    go_ret
    exact ⟨rfl, (HK3.out.trans K4).below (Nat.le_refl _) (by simp)⟩

end Go.Proofs.YtldckefnelgdgaaDoor
