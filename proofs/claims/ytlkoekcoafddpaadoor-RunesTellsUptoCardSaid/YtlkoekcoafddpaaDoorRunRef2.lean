/- Runes: the reference's Check and Cut by contracts. -/
import Derived.Test.YtlkoekcoafddpaaDoorRunRead
import Derived.Test.YtlkoekcoafddpaaDoorRunJoin
import Derived.Deep.RegionHeld3
namespace Go.Proofs.YtlkoekcoafddpaaDoor
open Go.RowKit Go.Lib
set_option linter.unusedSimpArgs false
set_option linter.unusedVariables false

set_option maxRecDepth 100000 in
set_option maxHeartbeats 2000000 in
theorem rcheck_any (s : ByteArray) (hs : s.size ≤ 4398046511104) (w : World) : Calls Tryd.prog 17 #[.string s] w fun e w' => e = .returned (.agg #[.int .i64 (faultX (badFrom s 0)).1, .int .i64 (faultX (badFrom s 0)).2]) ∧ Keep [] w w' := by
  have K0 := (Keep.refl [] w).alloc (.cells #[.int .i64 0, .int .i64 0] 36)
  have R0 := blk_new w (.cells #[.int .i64 0, .int .i64 0] 36)
  obtain ⟨F, hF⟩ : ∃ F, faultX (badFrom s 0) = F := ⟨_, rfl⟩
  have HF := hid hF
  rw [hF]
  clear hF
  go_enter Tryd.func17, Tryd.ntmps17
  go_wp2_with fail
  refine (read_any s hs _).mono ?_
  rintro e w2 ⟨A, c, rfl, O, K2⟩
  have R2 := K2.blk R0 (by simp)
  have K3 := K0.trans K2
  clear R0 K0 K2 O
  obtain ⟨r0, r1, _, _, rs⟩ : w2.cell? ⟨w.heap.size, 0, none⟩ = some (.int .i64 0) ∧ w2.cell? ⟨w.heap.size, 1, none⟩ = some (.int .i64 0) ∧ w2.frozen? ⟨w.heap.size, 0, none⟩ = false ∧ w2.frozen? ⟨w.heap.size, 1, none⟩ = false ∧ w.heap.size < w2.heap.size := ⟨blk_cell R2 0, blk_cell R2 1, blk_free R2 0, blk_free R2 1, blk_lt R2⟩
  cases hb : badFrom s 0 with
  | none =>
    have hF : F = (0, 0) := by rw [← HF.out, hb]; rfl
    have hX1 : (readX (none : Option (Nat × Nat))).1 = 0 := rfl
    have hX2 : (readX (none : Option (Nat × Nat))).2 = false := rfl
    go_wp2
    have S1 := set2' (a' := .int .i64 0) (b' := .int .i64 0) R2
    have K4 := keep2 (n := w.heap.size) (a := .int .i64 0) (b := .int .i64 0) K3 (.inr (Nat.le_refl _))
    generalize (w2.setCell ⟨w.heap.size, 0, none⟩ (.int .i64 0)).setCell ⟨w.heap.size, 1, none⟩ (.int .i64 0) = W5 at *
    have y0 := blk_cell S1 0
    have y1 := blk_cell S1 1
    simp only [List.getElem?_toArray, List.getElem?_cons_zero, List.getElem?_cons_succ] at y0 y1
    exact bodyPost_ret (v := .agg #[.int .i64 0, .int .i64 0]) (by simp [results, Tryd.results17, go_sem, y0, y1]) rfl ⟨by rw [hF], K4⟩
  | some x =>
    obtain ⟨i, k⟩ := x
    have hF : F = (40, ((i + k : Nat) : Int)) := by rw [← HF.out, hb]; rfl
    obtain ⟨q, hq⟩ : ∃ q, ((i + k : Nat) : Int) = q := ⟨_, rfl⟩
    have hX1 : (readX (some (i, k))).1 = q := hq
    have hX2 : (readX (some (i, k))).2 = true := rfl
    rw [hq] at hF
    clear hq
    go_wp2
    have S1 := set2' (a' := .int .i64 40) (b' := .int .i64 q) R2
    have K4 := keep2 (n := w.heap.size) (a := .int .i64 40) (b := .int .i64 q) K3 (.inr (Nat.le_refl _))
    generalize (w2.setCell ⟨w.heap.size, 0, none⟩ (.int .i64 40)).setCell ⟨w.heap.size, 1, none⟩ (.int .i64 q) = W5 at *
    have y0 := blk_cell S1 0
    have y1 := blk_cell S1 1
    simp only [List.getElem?_toArray, List.getElem?_cons_zero, List.getElem?_cons_succ] at y0 y1
    exact bodyPost_ret (v := .agg #[.int .i64 40, .int .i64 q]) (by simp [results, Tryd.results17, go_sem, y0, y1]) rfl ⟨by rw [hF], K4⟩

theorem width_at {s : ByteArray} {i : Nat} (h : offAt s i = none) : widthX (runeAt s i : Int) = (wideAt s i : Int) := by
  have hl : runeLen (runeAt s i : Int) = (wideAt s i : Int) := len_good h
  have hw := (at_none h).1
  have h1 : (runeAt s i : Int) ≤ 1114111 ∧ ((runeAt s i : Int) < 55296 ∨ 57343 < (runeAt s i : Int)) := by
    unfold runeLen at hl
    repeat' split at hl
    all_goals omega
  rw [width_good (by omega) h1.1 h1.2]
  exact hl

set_option maxRecDepth 100000 in
set_option maxHeartbeats 4000000 in
theorem rcut_any (s : ByteArray) (n : Int) (hn : -9223372036854775808 ≤ n ∧ n ≤ 9223372036854775807) (hs : s.size ≤ 4398046511104) (w : World) : Calls Tryd.prog 15 #[.string s, .int .i64 n] w fun e w' => e = .returned (.tuple #[.string (s.extract 0 (cutEnd s n)), .string (s.extract (cutEnd s n) s.size)]) ∧ Keep [] w w' := by
  obtain ⟨E, hE⟩ : ∃ E, cutEnd s n = E := ⟨_, rfl⟩
  have HE := hid hE
  have hRL := runes_len s
  have HM : Hid (∀ x ∈ runesFrom s 0, x.1 < s.size ∧ offAt s x.1 = none ∧ x.2 = runeAt s x.1) := hid (fun x hx => runes_mem s _ 0 x hx)
  obtain ⟨L, hL⟩ : ∃ L, runesFrom s 0 = L := ⟨_, rfl⟩
  have HL := hid hL
  have hra := read_any s hs
  rw [hL] at hra HM hRL
  rw [hE]
  clear hE hL
  go_enter Tryd.func15, Tryd.ntmps15
  go_wp2_with fail
  refine (hra _).mono ?_
  rintro e w1 ⟨A, c, rfl, O1, K1⟩
  have RD : Rd placeRow 2 w1 A L := by
    obtain ⟨A, cap, h1, h2, h3, _⟩ := own_rd (enc := placeRow) (fun _ => rfl) O1
    cases h1
    exact h3
  clear hra O1
  go_wp2_with fail
  go_loopw [9, 10] (fun v9 v10 wr => ∃ i : Nat, i ≤ L.length ∧ (i : Int) ≤ max n 0 ∧ v9 = .int .i64 (endOf s (L.take i) : Int) ∧ v10 = .int .i64 (i : Int) ∧ Keep [] w1 wr) (fun _ v10 _ => L.length - (RowKit.intOf v10).toNat)
  case atStart => exact ⟨0, Nat.zero_le _, by omega, rfl, rfl, Keep.refl _ _⟩
  case round =>
    obtain ⟨i, hi, hin, rfl, rfl, K⟩ := hrel
    by_cases hgo : i < L.length ∧ (i : Int) < n
    · obtain ⟨hlt, hlt2⟩ := hgo
      have hlt3 : (i : Int) < (L.length : Int) := by omega
      obtain ⟨x, hx⟩ : ∃ x, L[i]? = some x := ⟨L[i], List.getElem?_eq_getElem hlt⟩
      obtain ⟨ad, hA, hcs⟩ := RD.old K (by simp) i x hx
      have d0 : wr.cell? (ad.add (i * 2)) = some (.int .i64 (x.1 : Int)) := hcs 0 _ rfl
      have d1 : wr.cell? ⟨(ad.add (i * 2)).block, (ad.add (i * 2)).off + 1, none⟩ = some (.int .i64 (x.2 : Int)) := by rw [← add_at ad (i * 2) 1 (by omega)]; exact hcs 1 _ rfl
      obtain ⟨m1, m2, m3⟩ := HM.out x (List.mem_of_getElem? hx)
      have hwa := width_at m2
      rw [← m3] at hwa
      have hc := rwidth_any (x.2 : Int)
      rw [hwa] at hc
      have HT : Hid (endOf s (L.take (i + 1)) = x.1 + wideAt s x.1) := hid (by rw [take_snoc hx, endOf_snoc])
      have hwl := (at_wide m1 m2).2
      have hwi : (x.1 : Int) + (wideAt s x.1 : Int) ≤ 4398046511104 := by omega
      clear hcs hx m3 hwa RD HL
      subst hA
      go_upto_region 6 with (fail)
      go_quiet ((go_at_call 20; exact Calls.quiet_of_same (hc _)))
      go_wp2
      go_roundw
      case rel => exact ⟨i + 1, hlt, by omega, by rw [HT.out]; simp, by go_num, K.drewN _⟩
      case measure => simp [RowKit.intOf]; omega
    · have hend : endOf s (L.take i) = E := by
        rw [← HE.out]
        unfold cutEnd
        rw [HL.out]
        by_cases h1 : i < L.length
        · have h2 : ¬ (i : Int) < n := fun h => hgo ⟨h1, h⟩
          have h3 : n.toNat = i := by omega
          rw [h3]
        · rw [List.take_of_length_le (by omega), List.take_of_length_le (by omega)]
      have hes : E ≤ s.size := by
        rw [← HE.out]
        unfold cutEnd endOf
        cases hg : ((runesFrom s 0).take n.toNat).getLast? with
        | none => simp
        | some x =>
          have hm := List.mem_of_mem_take (List.mem_of_getLast? hg)
          obtain ⟨m1, m2, _⟩ := runes_mem s _ 0 x hm
          exact (at_wide m1 m2).2
      rw [hend]
      have hes' : (E : Int) ≤ (s.size : Int) := by omega
      have he0 : (0 : Int) ≤ (E : Int) := by omega
      clear hend hes RD
      by_cases h1 : i < L.length
      · have h1i : (i : Int) < (L.length : Int) := by omega
        have h2 : ¬ (i : Int) < n := fun h => hgo ⟨h1, h⟩
        clear hgo
        go_upto_region 7 with (fail)
        go_quiet (fail)
        go_wp2
        go_ret2
        exact ⟨rfl, K1.trans (K.drewN _)⟩
      · have h1i : ¬ (i : Int) < (L.length : Int) := by omega
        clear hgo
        go_upto_region 7 with (fail)
        go_quiet (fail)
        go_wp2
        go_ret2
        exact ⟨rfl, K1.trans (K.drewN _)⟩

end Go.Proofs.YtlkoekcoafddpaaDoor
