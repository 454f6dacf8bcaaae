/- Runes: stands by a contract. -/
import Derived.Test.YtlkoekcoafddpaaDoorRunDec
namespace Go.Proofs.YtlkoekcoafddpaaDoor
open Go.RowKit
set_option linter.unusedSimpArgs false
set_option linter.unusedVariables false

theorem B_in {s : ByteArray} {j : Nat} (h : j < s.size) : (s[j]'h).toNat = B s j := by unfold B; rw [get_in _ _ h]

set_option maxRecDepth 100000 in
set_option maxHeartbeats 2000000 in
/-- What stands tells, where the rune can't be told. -/
theorem stands_any (s : ByteArray) (k : Nat) (hs0 : 0 < s.size) (hs : s.size ≤ 9223372036854775807) (h : offAt s 0 = some k) (w : World) : Calls Tryd.prog 28 #[.string s] w fun e w' => e = .returned (.int .i64 (k : Int)) ∧ w' = w := by
  have hi0 : (0 : Int) < (s.size : Int) := by omega
  have hc := second_any (B s 0) (B_lt s 0) w
  rw [← B_in hs0] at hc
  have hS := at_some h
  simp only [wideAt, Nat.zero_add, Stands] at hS
  obtain ⟨W, hW⟩ : ∃ W, secW (s[0]'hs0).toNat = W := ⟨_, rfl⟩
  obtain ⟨L, hL⟩ : ∃ L, secL (s[0]'hs0).toNat = L := ⟨_, rfl⟩
  obtain ⟨H, hH⟩ : ∃ H, secH (s[0]'hs0).toNat = H := ⟨_, rfl⟩
  rw [hW, hL, hH] at hc
  have hX : (W = 0 ∧ k = 0) ∨ (1 ≤ k ∧ k < W ∧ W ≤ 4 ∧ (∀ j, 1 ≤ j → j < k → j < s.size ∧ (if j = 1 then L else 128) ≤ B s j ∧ B s j ≤ (if j = 1 then H else 191)) ∧ (k < s.size → B s k < (if k = 1 then L else 128) ∨ (if k = 1 then H else 191) < B s k)) := by
    rw [B_in hs0] at hW hL hH
    rcases hS with ⟨h0, rfl⟩ | ⟨h1, h2, h3, h4⟩
    · exact .inl ⟨by rw [← hW, sec_wide (.inr h0)]; exact h0, rfl⟩
    · have hw := wide_le (B s 0)
      have hlo := sec_lo (b := B s 0) (by omega)
      have hbig : 194 ≤ B s 0 := by
        rcases Nat.lt_or_ge (B s 0) 128 with hb | hb
        · rw [wide1 hb] at h2; omega
        · rcases Nat.lt_or_ge (B s 0) 194 with hb' | hb'
          · rw [wide0 (.inl ⟨hb, hb'⟩)] at h2; omega
          · exact hb'
      rw [sec_wide (.inl hbig)] at hW
      have hloj : ∀ j, 1 ≤ j → (if j = 1 then L else 128) = loN (B s 0) j ∧ (if j = 1 then H else 191) = hiN (B s 0) j := fun j hj => by
        by_cases e : j = 1
        · subst e; rw [if_pos rfl, if_pos rfl, ← hL, ← hH]; exact hlo
        · rw [if_neg e, if_neg e, (lo_two (by omega)).1, (lo_two (by omega)).2]; exact ⟨rfl, rfl⟩
      refine .inr ⟨h1, by omega, by omega, fun j j1 j2 => ?_, fun hk => ?_⟩
      · rw [(hloj j j1).1, (hloj j j1).2]
        exact h3 j j1 j2
      · rw [(hloj k h1).1, (hloj k h1).2]
        have : ¬ stN (B s 0) k (B s k) := fun x => h4 ⟨hk, x⟩
        unfold stN at this
        omega
  have HX := hid hX
  clear hS hX hW hL hH h
  go_enter Tryd.func28, Tryd.ntmps28
  go_wp2_with fail
  refine hc.mono ?_
  rintro e w1 ⟨rfl, rfl⟩
  clear hc
  go_wp2_with fail
  go_loopw [6, 4, 5] (fun vn vl vh wr => ∃ j : Nat, j ≤ k ∧ vn = .int .i64 j ∧ vl = .int .u8 ((if j ≤ 1 then L else 128 : Nat) : Int) ∧ vh = .int .u8 ((if j ≤ 1 then H else 191 : Nat) : Int) ∧ wr = w1) (fun vn _ _ _ => k - (intOf vn).toNat)
  case atStart => exact ⟨0, Nat.zero_le _, rfl, by simp, by simp, rfl⟩
  case round =>
    obtain ⟨j, hj, rfl, rfl, rfl, rfl⟩ := hrel
    obtain ⟨lo, hlo⟩ : ∃ lo, (if j ≤ 1 then L else 128 : Nat) = lo := ⟨_, rfl⟩
    obtain ⟨hi, hhi⟩ : ∃ hi, (if j ≤ 1 then H else 191 : Nat) = hi := ⟨_, rfl⟩
    rw [hlo, hhi]
    have hr1 : (j : Int) ≤ 9223372036854775806 := by rcases HX.out with ⟨_, rfl⟩ | ⟨_, _, _, _, _⟩ <;> omega
    by_cases hk0 : k = 0
    · obtain rfl : W = 0 := by rcases HX.out with ⟨h, _⟩ | ⟨h, _⟩ <;> omega
      subst hk0
      obtain rfl : j = 0 := by omega
      clear hlo hhi
      go_wp2
      go_ret
      exact ⟨rfl, rfl⟩
    obtain ⟨h1, h2, h3, h4, h5⟩ : 1 ≤ k ∧ k < W ∧ W ≤ 4 ∧ (∀ j, 1 ≤ j → j < k → j < s.size ∧ (if j = 1 then L else 128) ≤ B s j ∧ B s j ≤ (if j = 1 then H else 191)) ∧ (k < s.size → B s k < (if k = 1 then L else 128) ∨ (if k = 1 then H else 191) < B s k) := by
      rcases HX.out with ⟨_, h⟩ | h
      · exact absurd h hk0
      · exact h
    have hW1 : (j : Int) < (W : Int) := by omega
    have hj3 : (0 : Int) ≤ (j : Int) := by omega
    by_cases hj0 : j = 0
    · subst hj0
      have HL := hid hlo
      have HH := hid hhi
      clear h4 h5 hlo hhi
      go_wp2
      go_roundw
      case rel => exact ⟨1, by omega, rfl, by rw [← HL.out]; rfl, by rw [← HH.out]; rfl, trivial⟩
      case measure => simp [intOf]; omega
    have hj4 : (0 : Int) < (j : Int) := by omega
    have hloj : (if j ≤ 1 then L else 128) = (if j = 1 then L else 128 : Nat) := by by_cases e : j = 1 <;> simp [e]; omega
    have hhij : (if j ≤ 1 then H else 191) = (if j = 1 then H else 191 : Nat) := by by_cases e : j = 1 <;> simp [e]; omega
    by_cases hjk : j < k
    · obtain ⟨a1, a2, a3⟩ := h4 j (by omega) hjk
      rw [← hloj, hlo] at a2
      rw [← hhij, hhi] at a3
      rw [← B_in a1] at a2 a3
      have a1' : (j : Int) < (s.size : Int) := by omega
      have e2 : (lo : Int) ≤ ((s[j]'a1).toNat : Int) := by omega
      have e3 : ((s[j]'a1).toNat : Int) ≤ (hi : Int) := by omega
      clear h4 h5 hlo hhi hloj hhij a2 a3
      go_wp2
      go_roundw
      case rel => exact ⟨j + 1, by omega, by go_num, by rw [if_neg (by omega)]; rfl, by rw [if_neg (by omega)]; rfl, trivial⟩
      case measure => simp [intOf]; omega
    · obtain rfl : j = k := by omega
      by_cases hks : j < s.size
      · have a2 := h5 hks
        rw [← hloj, ← hhij, hlo, hhi, ← B_in hks] at a2
        have a1' : (j : Int) < (s.size : Int) := by omega
        rcases a2 with a2 | a2
        · have b1 : ((s[j]'hks).toNat : Int) < (lo : Int) := by omega
          clear h4 h5 hlo hhi hloj hhij
          go_wp2
          go_ret
          exact ⟨rfl, rfl⟩
        · have b1 : (hi : Int) < ((s[j]'hks).toNat : Int) := by omega
          clear h4 h5 hlo hhi hloj hhij
          go_wp2
          all_goals (go_ret; exact ⟨rfl, rfl⟩)
      · have a1' : (s.size : Int) ≤ (j : Int) := by omega
        clear h4 h5 hlo hhi hloj hhij
        go_wp2
        go_ret
        exact ⟨rfl, rfl⟩

end Go.Proofs.YtlkoekcoafddpaaDoor
