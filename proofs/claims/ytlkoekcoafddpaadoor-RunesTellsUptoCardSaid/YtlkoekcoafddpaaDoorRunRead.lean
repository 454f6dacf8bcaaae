/- Runes: the reference's Read by a contract. -/
import Derived.Test.YtlkoekcoafddpaaDoorRunRef1
import Derived.Test.YtlkoekcoafddpaaDoorRunFirstLaw
import Derived.Test.YtlkoekcoafddpaaDoorStep
import Derived.OwnWalk
namespace Go.Proofs.YtlkoekcoafddpaaDoor
open Go.RowKit Go.Lib
set_option linter.unusedSimpArgs false
set_option linter.unusedVariables false

def placeRow (x : Nat × Nat) : List Value := [.int .i64 (x.1 : Int), .int .i64 (x.2 : Int)]
/-- The rune so far, m bytes of it read. -/
def accN (n b0 b1 b2 b3 : Nat) : Nat → Nat
  | 0 => 0
  | 1 => if n = 1 then b0 else if n = 2 then b0 % 32 else if n = 3 then b0 % 16 else b0 % 8
  | 2 => accN n b0 b1 b2 b3 1 * 64 + b1 % 64
  | 3 => accN n b0 b1 b2 b3 2 * 64 + b2 % 64
  | _ + 4 => accN n b0 b1 b2 b3 3 * 64 + b3 % 64
def accAt (s : ByteArray) (i m : Nat) : Nat := accN (wideAt s i) (B s i) (B s (i + 1)) (B s (i + 2)) (B s (i + 3)) m
theorem acc_next (s : ByteArray) (i m : Nat) (h1 : 1 ≤ m) (h2 : m < 4) : accAt s i (m + 1) = accAt s i m * 64 + B s (i + m) % 64 := by
  obtain rfl | rfl | rfl : m = 1 ∨ m = 2 ∨ m = 3 := by omega
  all_goals simp only [accAt, Nat.reduceAdd, accN]
theorem acc_rune (s : ByteArray) (i : Nat) (h : offAt s i = none) : accAt s i (wideAt s i) = runeAt s i := by
  obtain ⟨h1, h2, _⟩ := at_none h
  obtain ⟨i1, i2, i3, i4⟩ := wide_inv (b := B s i)
  unfold accAt runeAt runeN
  have hw : wideAt s i = wideN (B s i) := rfl
  obtain e | e | e | e : wideAt s i = 1 ∨ wideAt s i = 2 ∨ wideAt s i = 3 ∨ wideAt s i = 4 := by omega
  · have := i1 (hw.symm.trans e)
    rw [e, if_pos this]; simp [accN]
  · have := i2 (hw.symm.trans e)
    rw [e, if_neg (by omega), if_pos (by omega)]; simp [accN]
  · have := i3 (hw.symm.trans e)
    rw [e, if_neg (by omega), if_neg (by omega), if_pos (by omega)]; simp [accN]
  · have := i4 (hw.symm.trans e)
    rw [e, if_neg (by omega), if_neg (by omega), if_neg (by omega)]; simp [accN]
theorem acc_le (s : ByteArray) (i m : Nat) (h : m ≤ 4) : accAt s i m ≤ 1073741823 := by
  have h0 := B_lt s i
  have h1 := B_lt s (i + 1)
  have h2 := B_lt s (i + 2)
  have h3 := B_lt s (i + 3)
  unfold accAt
  obtain rfl | rfl | rfl | rfl | rfl : m = 0 ∨ m = 1 ∨ m = 2 ∨ m = 3 ∨ m = 4 := by omega
  all_goals simp only [accN]
  all_goals (try split) <;> (try split) <;> (try split) <;> omega
/-- What Read tells beside the runes. -/
def readX (o : Option (Nat × Nat)) : Int × Bool := match o with | none => (0, false) | some (i, k) => (((i + k : Nat) : Int), true)

set_option maxRecDepth 100000 in
set_option maxHeartbeats 4000000 in
theorem read_any (s : ByteArray) (hs : s.size ≤ 4398046511104) (w : World) : Calls Tryd.prog 10 #[.string s] w fun e w' =>
    ∃ A c, e = .returned (.tuple #[.slice A (runesFrom s 0).length c, .int .i64 (readX (badFrom s 0)).1, .bool (readX (badFrom s 0)).2]) ∧ w'.ownsRow w.heap.size 28 2 (.slice A (runesFrom s 0).length c) (runesFrom s 0).length ((runesFrom s 0).flatMap placeRow) ∧ Keep [] w w' := by
  have hRL := runes_len s
  obtain ⟨R, hR⟩ : ∃ R, runesFrom s 0 = R := ⟨_, rfl⟩
  have HR := hid hR
  obtain ⟨X, hX⟩ : ∃ X, badFrom s 0 = X := ⟨_, rfl⟩
  have HX := hid hX
  rw [hR] at hRL
  rw [hR, hX]
  clear hR hX
  have O0 : (w.alloc (.cells #[] 28)).ownsRow w.heap.size 28 2 (.slice (some ⟨w.heap.size, 0, none⟩) 0 0) 0 (([] : List (Nat × Nat)).flatMap placeRow) := ⟨by simp, .inr ⟨w.heap.size, 0, #[], rfl, Nat.le_refl _, blk_new w _, by simp, by decide, by simp, by simp⟩⟩
  have K0 := (Keep.refl [] w).alloc (.cells #[] 28)
  go_enter Tryd.func10, Tryd.ntmps10
  go_wp2_with fail
  generalize w.alloc (.cells #[] 28) = W0 at *
  go_loopw [5, 6, 7, 8, 9, 10] (fun v5 v6 _ _ _ _ wr => ∃ (p : Nat) (pre : List (Nat × Nat)) (A : Option Addr) (c : Nat), p ≤ s.size ∧ v5 = .slice A pre.length c ∧ v6 = .int .i64 (p : Int) ∧ wr.ownsRow w.heap.size 28 2 (.slice A pre.length c) pre.length (pre.flatMap placeRow) ∧ Keep [] w wr ∧ Hid (pre ++ runesFrom s p = R) ∧ Hid (badFrom s p = X)) (fun _ v6 _ _ _ _ _ => s.size - (RowKit.intOf v6).toNat)
  case atStart => exact ⟨0, [], _, 0, Nat.zero_le _, rfl, rfl, O0, K0, HR, HX⟩
  case round =>
    clear O0 K0
    obtain ⟨p, pre, A, c, hp, rfl, rfl, O, K, HP, HB⟩ := hrel
    by_cases hlt : p < s.size
    · have hlt2 : (p : Int) < (s.size : Int) := by omega
      have hb0 := B_in hlt
      have hbl : (B s p : Int) < 256 := by have := B_lt s p; omega
      go_wp2_with fail
      refine (rwide_any (B s p) _).mono ?_
      rintro e w1 ⟨rfl, rfl⟩
      have hwr : wideN (B s p) = wideAt s p := rfl
      rw [hwr]
      have hw4 : wideAt s p ≤ 4 := wide_le (B s p)
      obtain ⟨n, hn⟩ : ∃ n, wideAt s p = n := ⟨_, rfl⟩
      rw [hn] at hw4 ⊢
      have HN := hid hn
      clear hwr hn
      by_cases h0 : n = 0
      · subst h0
        have ho := some_mk0 HN.out
        have hR : pre = R := by rw [← HP.out, (runes_bad hlt ho).1, List.append_nil]
        have hX : readX X = ((p : Int), true) := by rw [← HB.out, (runes_bad hlt ho).2]; rfl
        go_wp2
        go_ret3
        rw [hX]
        subst hR
        exact ⟨A, c, rfl, O, K⟩
      · have hn0 : ((n : Int) == 0) = false := by simp; omega
        go_upto_if 28 with (fail)
        go_cut [9] from 29 to 34 (fun v wc => v = .int .i64 (accAt s p 1 : Int) ∧ Keep [] w1 wc)
        case first =>
          have hacc : accAt s p 1 = if n = 1 then B s p else if n = 2 then B s p % 32 else if n = 3 then B s p % 16 else B s p % 8 := by unfold accAt; rw [HN.out]; simp only [accN]
          have HAC := hid hacc
          clear hacc HN
          obtain rfl | rfl | rfl | rfl : n = 1 ∨ n = 2 ∨ n = 3 ∨ n = 4 := by omega
          all_goals
            go_wp2
            go_meet
            refine ⟨?_, ?_⟩
            · rw [HAC.out]; simp
            · first | exact Keep.refl _ _ | exact (Keep.refl _ _).alloc _
        case rest =>
          obtain ⟨rfl, K2⟩ := hcut
          obtain ⟨W2, hW2⟩ : ∃ W, W = wc := ⟨_, rfl⟩
          subst hW2
          have O2 := own_keep O K2 (by simp)
          have K3 := K.trans K2
          clear O K K2
          go_wp2_with fail
          go_loopw [9, 10] (fun v9 v10 wq => ∃ m : Nat, 1 ≤ m ∧ m ≤ n ∧ v10 = .int .i64 (m : Int) ∧ v9 = .int .i64 (accAt s p m : Int) ∧ Keep [] W2 wq ∧ Hid (∀ j, 1 ≤ j → j < m → Stands s p j)) (fun _ v10 _ => n - (RowKit.intOf v10).toNat)
          case atStart => exact ⟨1, by omega, by omega, rfl, rfl, Keep.refl _ _, hid (fun j h1 h2 => by omega)⟩
          case round =>
            obtain ⟨m, hm1, hm2, rfl, rfl, K4, HS⟩ := hrel
            by_cases hmn : m < n
            · have hmn2 : (m : Int) < (n : Int) := by omega
              have hw : wideAt s p = n := HN.out
              have hac := acc_le s p m (by omega)
              have hnx := acc_next s p m hm1 (by omega)
              by_cases hin : p + m < s.size
              · have hin2 : (p : Int) + (m : Int) < (s.size : Int) := by omega
                have hb1 := B_in hin
                have hbl1 : (B s (p + m) : Int) < 256 := by have := B_lt s (p + m); omega
                have HNX := hid hnx
                have HW := hid hw
                obtain ⟨st, hst⟩ : ∃ st, decide (stN (B s p) m (B s (p + m))) = st := ⟨_, rfl⟩
                have HST : Hid (st = true ↔ stN (B s p) m (B s (p + m))) := hid (by rw [← hst]; simp)
                have hcc := rstands_any (B s p) m (B s (p + m)) wr
                rw [hst] at hcc
                clear hnx hw hst
                go_wp2_with fail
                refine hcc.mono ?_
                rintro e w3 ⟨rfl, rfl⟩
                clear hcc
                cases st with
                | true =>
                  have HS2 : Hid (∀ j, 1 ≤ j → j < m + 1 → Stands s p j) := hid (fun j h1 h2 => by
                    by_cases e : j = m
                    · subst e; exact ⟨hin, HST.out.1 rfl⟩
                    · exact HS.out j h1 (by omega))
                  clear HS HST
                  go_wp2
                  go_roundw
                  case rel => exact ⟨m + 1, by omega, hmn, by go_num, by rw [HNX.out]; go_num, K4, HS2⟩
                  case measure => simp [RowKit.intOf]; omega
                | false =>
                  have ho : offAt s p = some m := some_mk hm1 (by rw [HW.out]; exact hmn) HS.out (fun h => by have := HST.out.2 h.2; cases this)
                  have hR : pre = R := by rw [← HP.out, (runes_bad hlt ho).1, List.append_nil]
                  have hX : readX X = (((p + m : Nat) : Int), true) := by rw [← HB.out, (runes_bad hlt ho).2]; rfl
                  clear HST HS
                  go_wp2
                  go_ret3
                  rw [hX]
                  subst hR
                  exact ⟨A, c, by simp, own_keep O2 K4 (by simp), K3.trans K4⟩
              · have hin2 : (s.size : Int) ≤ (p : Int) + (m : Int) := by omega
                have ho : offAt s p = some m := some_mk hm1 (by rw [hw]; exact hmn) HS.out (fun h => hin h.1)
                have hR : pre = R := by rw [← HP.out, (runes_bad hlt ho).1, List.append_nil]
                have hX : readX X = (((p + m : Nat) : Int), true) := by rw [← HB.out, (runes_bad hlt ho).2]; rfl
                clear hnx hw
                go_wp2
                go_ret3
                rw [hX]
                subst hR
                exact ⟨A, c, by simp, own_keep O2 K4 (by simp), K3.trans K4⟩
            · obtain rfl : m = n := by omega
              have ho : offAt s p = none := none_mk (by rw [HN.out]; omega) (fun j h1 h2 => HS.out j h1 (by rw [HN.out] at h2; exact h2))
              have hac : accAt s p m = runeAt s p := by rw [← acc_rune s p ho, HN.out]
              obtain ⟨hg1, hg2⟩ := runes_good hlt ho
              obtain ⟨hw1, hw2⟩ := at_wide hlt ho
              rw [HN.out] at hg1 hg2 hw2
              have HP2 : Hid ((pre ++ [(p, runeAt s p)]) ++ runesFrom s (p + m) = R) := hid (by rw [← HP.out, hg1]; simp)
              have HB2 : Hid (badFrom s (p + m) = X) := hid (hg2.symm.trans HB.out)
              have hpl : pre.length < R.length := by rw [← HP.out, hg1]; simp
              have O4 := own_keep O2 K4 (by simp)
              have K5 := K3.trans K4
              have hz := K5.size
              have hpz : (p : Int) + (m : Int) ≤ 4398046511104 := by omega
              rw [hac]
              have hm0 : (m : Int) ≤ 4 := by omega
              clear hac hg1 hg2 ho HS K3 K4 O2 HP HB hn0 hb0
              go_wp2_with (at_builtin; (refine append_cells rfl _ _ 23 (.agg #[.int .i64 0, .int .i64 0]) 2 16 rfl (by kernel_rfl) (by kernel_rfl) (by kernel_rfl) (by decide) (by decide) w.heap.size (.slice A pre.length c) pre.length _ rfl rfl rfl rfl (by simp [Value.oneCell']) O4 hz (by omega) ?_; rintro v1 w5 O5 G5; obtain ⟨A1, c1, rfl⟩ := own_slice O5))
              have e1 : pre.flatMap placeRow ++ [Value.int .i64 (p : Int), Value.int .i64 (runeAt s p : Int)] = (pre ++ [(p, runeAt s p)]).flatMap placeRow := by simp [placeRow]
              have e2 : pre.length + 1 = (pre ++ [(p, runeAt s p)]).length := by simp
              rw [e1] at O5
              go_roundw
              case rel => exact ⟨p + m, pre ++ [(p, runeAt s p)], A1, c1, hw2, by rw [← e2], by go_num, by rw [← e2]; exact O5, (K5.alloc _).grown G5 (fun k e => .inr (own_base O4 k e).1), HP2, HB2⟩
              case measure => simp [RowKit.intOf]; omega
    · obtain rfl : p = s.size := by omega
      have hpl : pre.length = R.length := by rw [← HP.out, (runes_end hlt).1, List.append_nil]
      have hpr : pre = R := by rw [← HP.out, (runes_end hlt).1, List.append_nil]
      have hX : readX X = (0, false) := by rw [← HB.out, (runes_end hlt).2]; rfl
      go_wp2
      go_ret3
      rw [hX]
      subst hpr
      exact ⟨A, c, rfl, O, K⟩

end Go.Proofs.YtlkoekcoafddpaaDoor
