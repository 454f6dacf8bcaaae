/- The bound of the statements of layer 17. -/
import Derived.Test.YtgelccenbceeoaaSlabs
namespace Go.Proofs.Ytgelccenbceeoaa
open Go.RowKit
set_option linter.unusedSimpArgs false
set_option linter.unusedVariables false

/-- A count that stays just above the bound. -/
def capN (m : Nat) : Nat := if m ≤ 2147483647 then m else 2147483648
theorem capN_le (m : Nat) : capN m ≤ 2147483648 := by unfold capN; split <;> omega
theorem capN_cap (m k : Nat) : capN (capN m + k) = capN (m + k) := by unfold capN; (repeat' split) <;> omega
theorem capN_of {m : Nat} (h : m ≤ 2147483647) : capN m = m := by unfold capN; rw [if_pos h]
theorem capN_big {m : Nat} (h : ¬ m ≤ 2147483647) : capN m = 2147483648 := by unfold capN; rw [if_neg h]

theorem more_any (n k : Nat) (w : World) (hk : k ≤ 9223372036854775807) : Calls Try.prog 58 #[.int .i64 n, .int .i64 k] w fun e w' => e = .returned (.int .i64 (capN (n + k))) ∧ w = w' := by
  by_cases h1 : n ≤ 2147483647
  · have g1 : (n : Int) ≤ 2147483647 := by omega
    have g0 : (0 : Int) ≤ n := by omega
    have g2 : (0 : Int) ≤ k := by omega
    by_cases h2 : n + k ≤ 2147483647
    · have g3 : (k : Int) ≤ 2147483647 - n := by omega
      rw [capN_of h2]
      go_enter Try.func58, Try.ntmps58
      go_wp2
      go_ret
      exact ⟨by simp, rfl⟩
    · have g3 : 2147483647 - (n : Int) < k := by omega
      rw [capN_big h2]
      go_enter Try.func58, Try.ntmps58
      go_wp2
      go_ret
      exact ⟨rfl, rfl⟩
  · have g1 : 2147483647 < (n : Int) := by omega
    rw [capN_big (by omega)]
    go_enter Try.func58, Try.ntmps58
    go_wp2
    go_ret
    exact ⟨rfl, rfl⟩

def sumN {α : Type} (f : α → Nat) : List α → Nat
  | [] => 0
  | x :: xs => f x + sumN f xs
theorem sumN_snoc {α : Type} (f : α → Nat) : ∀ (l : List α) (x : α), sumN f (l ++ [x]) = sumN f l + f x
  | [], x => by simp [sumN]
  | y :: ys, x => by simp only [List.cons_append, sumN, sumN_snoc f ys x]; omega
theorem sumN_take {α : Type} (f : α → Nat) {l : List α} {i : Nat} {x : α} (h : l[i]? = some x) : sumN f (l.take (i + 1)) = sumN f (l.take i) + f x := by rw [take_snoc h, sumN_snoc]
theorem sumN_take_le {α : Type} (f : α → Nat) : ∀ (l : List α) (i : Nat), sumN f (l.take i) ≤ sumN f l
  | [], i => by simp [sumN]
  | x :: xs, 0 => by simp [sumN]
  | x :: xs, i + 1 => by have := sumN_take_le f xs i; simp only [List.take_succ_cons, sumN]; omega
theorem sumN_mem {α : Type} (f : α → Nat) : ∀ (l : List α) (x : α), x ∈ l → f x ≤ sumN f l
  | y :: ys, x, h => by
    rcases List.mem_cons.1 h with rfl | h
    · simp only [sumN]; omega
    · have := sumN_mem f ys x h; simp only [sumN]; omega

/-- All that paragraphs and lines have. -/
def totalN (ps : List ParX) (ls : List LinesX) : Nat := ps.length + ls.length + sumN ParX.pn ps + sumN (fun x => x.l.length) ls
def beyondB (ps : List ParX) (ls : List LinesX) : Bool := decide (2147483647 < totalN ps ls)

set_option maxHeartbeats 1600000 in
theorem beyond_any (A B : Option Addr) (c d : Nat) (ps : List ParX) (ls : List LinesX) (w : World) (hp : Rd ParX.row 7 w A ps) (hl : Rd LinesX.row 1 w B ls) (h1 : ps.length ≤ 9223372036854775807) (h2 : ls.length ≤ 9223372036854775807)
    (h3 : ∀ p ∈ ps, p.pn ≤ 9223372036854775807) (h4 : ∀ x ∈ ls, x.l.length ≤ 9223372036854775807) :
    Calls Try.prog 37 #[.slice A ps.length c, .slice B ls.length d] w fun e w' => e = .returned (.bool (beyondB ps ls)) ∧ Keep [] w w' := by
  go_enter Try.func37, Try.ntmps37
  go_wp2_with fail
  refine (more_any _ _ _ h2).mono ?_
  rintro e w' ⟨rfl, rfl⟩
  go_wp2_with fail
  obtain ⟨P, hP⟩ : ∃ P, P = ps.length + ls.length := ⟨_, rfl⟩
  rw [← hP]
  have HP := hid hP
  clear hP
  go_loopw [6, 5] (fun vi vn wr => ∃ i : Nat, i ≤ ps.length ∧ vi = .int .i64 i ∧ vn = .int .i64 (capN (P + sumN ParX.pn (ps.take i))) ∧ Keep [] w wr) (fun vi _ _ => ps.length - (intOf vi).toNat)
  case atStart => exact ⟨0, Nat.zero_le _, rfl, by simp [sumN], Keep.refl _ _⟩
  case round =>
    obtain ⟨i, hi, rfl, rfl, K⟩ := hrel
    have q1 := sumN_take_le ParX.pn ps i
    obtain ⟨Q, hQ⟩ : ∃ Q, Q = P + sumN ParX.pn (ps.take i) := ⟨_, rfl⟩
    rw [← hQ]
    by_cases hlt : i < ps.length
    · by_cases hb : Q ≤ 2147483647
      · rw [capN_of hb]
        have hb' : (Q : Int) ≤ 2147483647 := by omega
        obtain ⟨x, hx⟩ : ∃ x, ps[i]? = some x := ⟨ps[i], List.getElem?_eq_getElem hlt⟩
        have hxm := h3 x (List.mem_of_getElem? hx)
        have HS := hid (sumN_take ParX.pn hx)
        obtain ⟨bd, hB, hbs⟩ := hp.old K (by simp) i x hx
        subst hB
        have f0 := hbs 0 _ rfl
        rw [Nat.add_zero] at f0
        have HQ := hid hQ
        clear hbs hx hQ
        go_wp2_with fail
        refine (more_any _ _ _ hxm).mono ?_
        rintro e w' ⟨rfl, rfl⟩
        go_wp2
        go_roundw
        case rel => exact ⟨i + 1, hlt, by go_num, by rw [HS.out, HQ.out, Nat.add_assoc], K⟩
        case measure => simp [intOf]; omega
      · rw [capN_big hb]
        have HB : Hid (2147483647 < totalN ps ls) := hid (by have := HP.out; unfold totalN; omega)
        have HQ := hid hQ
        clear hQ
        go_wp2_with fail
        go_loopw [7, 5] (fun vi vn wr => vi = .int .i64 0 ∧ vn = .int .i64 2147483648 ∧ Keep [] w wr) (fun vi _ _ => 0)
        case atStart => exact ⟨rfl, rfl, K⟩
        case round =>
          obtain ⟨rfl, rfl, K'⟩ := hrel
          go_wp2
          all_goals
            go_ret
            refine ⟨?_, K'⟩
            unfold beyondB
            rw [decide_eq_true HB.out]
            rfl
    · obtain rfl : i = ps.length := by omega
      rw [List.take_length] at hQ
      have HQ := hid hQ
      clear hQ q1 hi hlt
      go_wp2_with fail
      go_loopw [7, 5] (fun vi vn wr => ∃ i : Nat, i ≤ ls.length ∧ vi = .int .i64 i ∧ vn = .int .i64 (capN (Q + sumN (fun x => x.l.length) (ls.take i))) ∧ Keep [] w wr) (fun vi _ _ => ls.length - (intOf vi).toNat)
      case atStart => exact ⟨0, Nat.zero_le _, rfl, by simp [sumN], K⟩
      case round =>
        clear K
        obtain ⟨i, hi, rfl, rfl, K⟩ := hrel
        have q1 := sumN_take_le (fun x : LinesX => x.l.length) ls i
        obtain ⟨M, hM⟩ : ∃ M, M = Q + sumN (fun x : LinesX => x.l.length) (ls.take i) := ⟨_, rfl⟩
        rw [← hM]
        by_cases hlt : i < ls.length
        · by_cases hb : M ≤ 2147483647
          · rw [capN_of hb]
            have hb' : (M : Int) ≤ 2147483647 := by omega
            obtain ⟨x, hx⟩ : ∃ x, ls[i]? = some x := ⟨ls[i], List.getElem?_eq_getElem hlt⟩
            have hxm := h4 x (List.mem_of_getElem? hx)
            have HS := hid (sumN_take (fun x : LinesX => x.l.length) hx)
            obtain ⟨bd, hB, hbs⟩ := hl.old K (by simp) i x hx
            subst hB
            have f0 := hbs 0 _ rfl
            rw [Nat.add_zero, Nat.mul_one] at f0
            have HM := hid hM
            clear hbs hx hM
            go_wp2_with fail
            refine (more_any _ _ _ hxm).mono ?_
            rintro e w' ⟨rfl, rfl⟩
            go_wp2
            go_roundw
            case rel => exact ⟨i + 1, hlt, by go_num, by rw [HS.out, HM.out, Nat.add_assoc], K⟩
            case measure => simp [intOf]; omega
          · rw [capN_big hb]
            have HB : Hid (2147483647 < totalN ps ls) := hid (by have := HP.out; have := HQ.out; unfold totalN; omega)
            clear hM
            go_wp2
            go_ret
            refine ⟨?_, K⟩
            unfold beyondB
            rw [decide_eq_true HB.out]
            rfl
        · obtain rfl : i = ls.length := by omega
          rw [List.take_length] at hM
          have HB : Hid (M = totalN ps ls) := hid (by have := HP.out; have := HQ.out; unfold totalN; omega)
          clear hM hi q1 hlt
          by_cases hb : M ≤ 2147483647
          · rw [capN_of hb]
            have hb' : (M : Int) ≤ 2147483647 := by omega
            go_wp2
            go_ret
            refine ⟨?_, K⟩
            unfold beyondB
            rw [← HB.out, decide_eq_false (show ¬ 2147483647 < M by omega), decide_eq_false (show ¬ (2147483647 : Int) < (M : Int) by omega)]
            rfl
          · rw [capN_big hb]
            go_wp2
            go_ret
            refine ⟨?_, K⟩
            unfold beyondB
            rw [← HB.out, decide_eq_true (show 2147483647 < M by omega)]
            rfl

end Go.Proofs.Ytgelccenbceeoaa
