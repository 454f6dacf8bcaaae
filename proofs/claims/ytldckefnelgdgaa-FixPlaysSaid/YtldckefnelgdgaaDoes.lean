/- does: one call on both Calcs. -/
import Derived.Test.YtldckefnelgdgaaRefScale
import Derived.Test.YtldckefnelgdgaaRow
import Derived.StillTailTactics
namespace Go.Proofs.Ytldckefnelgdgaa
open Go.RowKit
set_option linter.unusedSimpArgs false
set_option linter.unusedVariables false

def DoesPost (g q : Nat) (w : World) (e : Ending) (w' : World) : Prop := e = .returned (.bool true) ∧ ∃ bad', IsC w' g bad' ∧ IsB w' q bad' ∧ Keep [g, q] w w'

set_option maxHeartbeats 6400000 in
set_option maxRecDepth 100000 in
theorem does_any (g q : Nat) (bad : Bool) (k on a b c : Int) (w : World) (hg : IsC w g bad) (hq : IsB w q bad) (a0 : -9223372036854775808 ≤ a) (a1 : a ≤ 9223372036854775807) (b0 : -9223372036854775808 ≤ b) (b1 : b ≤ 9223372036854775807) :
    Calls Try.prog 16 #[.agg #[.pointer (some ⟨g, 0, none⟩), .pointer (some ⟨q, 0, none⟩)], .agg #[.int .i64 k, .int .i64 on, .int .i64 a, .int .i64 b, .int .i64 c]] w fun e w' => DoesPost g q w e w' := by
  have hlg := blk_lt hg
  have hlq := blk_lt hq
  have hgq : ¬ g = q := fun e => by unfold IsC at hg; unfold IsB at hq; rw [e, hq] at hg; simp at hg
  have hqg : ¬ q = g := fun e => hgq e.symm
  go_enter Try.func16, Try.ntmps16
  go_upto_region 1 with (fail)
  have KW : Keep [] w _ := ((Keep.refl [] w).alloc (.cells #[.pointer (some ⟨g, 0, none⟩), .pointer (some ⟨q, 0, none⟩)] 38)).alloc (.cells #[.int .i64 k, .int .i64 on, .int .i64 a, .int .i64 b, .int .i64 c] 40)
  have B1 := blk_alloc (blk_new w (.cells #[.pointer (some ⟨g, 0, none⟩), .pointer (some ⟨q, 0, none⟩)] 38)) (.cells #[.int .i64 k, .int .i64 on, .int .i64 a, .int .i64 b, .int .i64 c] 40)
  have B2 := blk_new (w.alloc (.cells #[.pointer (some ⟨g, 0, none⟩), .pointer (some ⟨q, 0, none⟩)] 38)) (.cells #[.int .i64 k, .int .i64 on, .int .i64 a, .int .i64 b, .int .i64 c] 40)
  rw [size_alloc'] at B2
  have n1 : ¬ w.heap.size = g := by omega
  have n2 : ¬ w.heap.size = q := by omega
  have n3 : ¬ w.heap.size + 1 = g := by omega
  have n4 : ¬ w.heap.size + 1 = q := by omega
  have HG := hid (hg.keep KW (by simp))
  have HQ := hid (hq.keep KW (by simp))
  have p0 := blk_cell B1 0
  have p1 := blk_cell B1 1
  have s0 := blk_cell B2 0
  have s2 := blk_cell B2 2
  have s3 := blk_cell B2 3
  have s4 := blk_cell B2 4
  simp only [List.getElem?_toArray, List.getElem?_cons_zero, List.getElem?_cons_succ] at p0 p1 s0 s2 s3 s4
  clear hlg hlq hg hq B1 B2
  generalize (w.alloc (.cells #[.pointer (some ⟨g, 0, none⟩), .pointer (some ⟨q, 0, none⟩)] 38)).alloc (.cells #[.int .i64 k, .int .i64 on, .int .i64 a, .int .i64 b, .int .i64 c] 40) = W1 at *
  have HKW := hid KW
  clear KW
  obtain ⟨x1, hx1⟩ : ∃ x, x = w.heap.size + 1 := ⟨_, rfl⟩
  rw [← hx1] at n3 n4 s0 s2 s3 s4 ⊢
  clear hx1
  generalize w.heap.size = x0 at *
  have C0d : IsC W1.drew g bad := HG.out
  have R0d : IsB W1.drew q bad := HQ.out
  by_cases k1 : k = 1
  · subst k1
    clear HG HQ
    go_upto_region 3 with (fail)
    go_region_held3 (fun w' => w'.cell? ⟨x0, 0, none⟩ = some (.pointer (some ⟨g, 0, none⟩)) ∧ w'.cell? ⟨x0, 1, none⟩ = some (.pointer (some ⟨q, 0, none⟩)) ∧ w'.cell? ⟨x1, 2, none⟩ = some (.int .i64 a) ∧ w'.cell? ⟨x1, 3, none⟩ = some (.int .i64 b)) ((go_split_ands; refine ⟨?_, ?_, ?_, ?_⟩ <;> (repeat (with_reducible first | assumption | refine cell_drew' ?_ | refine Keep.cell' (S := [g]) (by assumption) ?_ (by simp [n1, n2, n3, n4]) | refine Keep.cell' (S := [q]) (by assumption) ?_ (by simp [n1, n2, n3, n4]))))) (first | (go_at_call 19; (first | (with_reducible refine (calc_add g bad a b _ C0d).mono ?_) | (with_reducible refine (calc_add g bad a b _ (C0d.keep KR (by simp [hgq]))).mono ?_)); rintro e w5 ⟨rfl, CS1, KS⟩) | (go_at_call 26; (first | (with_reducible refine (radd_any q bad a b _ R0d).mono ?_) | (with_reducible refine (radd_any q bad a b _ (R0d.keep KS (by simp [hqg]))).mono ?_)); rintro e w6 ⟨rfl, RS1, KR⟩))
    all_goals
      first
        | (have T : DoesPost g q w (.returned (.bool true)) w6 := ⟨rfl, _, CS1.keep KR (by simp [hgq]), RS1, (HKW.out.mono (by simp)).trans (((Keep.refl [g, q] W1).drew.trans (KS.mono (by simp))).trans (KR.mono (by simp)))⟩)
        | (have T : DoesPost g q w (.returned (.bool true)) w5 := ⟨rfl, _, CS1, RS1.keep KS (by simp [hqg]), (HKW.out.mono (by simp)).trans (((Keep.refl [g, q] W1).drew.trans (KR.mono (by simp))).trans (KS.mono (by simp)))⟩)
      clear CS1 RS1 KS KR
      go_wp2
      go_ret
      exact T
  by_cases k2 : k = 2
  · subst k2
    clear HG HQ
    go_upto_region 5 with (fail)
    go_region_held3 (fun w' => w'.cell? ⟨x0, 0, none⟩ = some (.pointer (some ⟨g, 0, none⟩)) ∧ w'.cell? ⟨x0, 1, none⟩ = some (.pointer (some ⟨q, 0, none⟩)) ∧ w'.cell? ⟨x1, 2, none⟩ = some (.int .i64 a) ∧ w'.cell? ⟨x1, 3, none⟩ = some (.int .i64 b)) ((go_split_ands; refine ⟨?_, ?_, ?_, ?_⟩ <;> (repeat (with_reducible first | assumption | refine cell_drew' ?_ | refine Keep.cell' (S := [g]) (by assumption) ?_ (by simp [n1, n2, n3, n4]) | refine Keep.cell' (S := [q]) (by assumption) ?_ (by simp [n1, n2, n3, n4]))))) (first | (go_at_call 17; (first | (with_reducible refine (calc_sub g bad a b _ C0d).mono ?_) | (with_reducible refine (calc_sub g bad a b _ (C0d.keep KR (by simp [hgq]))).mono ?_)); rintro e w5 ⟨rfl, CS1, KS⟩) | (go_at_call 27; (first | (with_reducible refine (rsub_any q bad a b _ R0d).mono ?_) | (with_reducible refine (rsub_any q bad a b _ (R0d.keep KS (by simp [hqg]))).mono ?_)); rintro e w6 ⟨rfl, RS1, KR⟩))
    all_goals
      first
        | (have T : DoesPost g q w (.returned (.bool true)) w6 := ⟨rfl, _, CS1.keep KR (by simp [hgq]), RS1, (HKW.out.mono (by simp)).trans (((Keep.refl [g, q] W1).drew.trans (KS.mono (by simp))).trans (KR.mono (by simp)))⟩)
        | (have T : DoesPost g q w (.returned (.bool true)) w5 := ⟨rfl, _, CS1, RS1.keep KS (by simp [hqg]), (HKW.out.mono (by simp)).trans (((Keep.refl [g, q] W1).drew.trans (KR.mono (by simp))).trans (KS.mono (by simp)))⟩)
      clear CS1 RS1 KS KR
      go_wp2
      go_ret
      exact T
  by_cases k3 : k = 3
  · subst k3
    clear HG HQ
    go_upto_region 7 with (fail)
    go_region_held3 (fun w' => w'.cell? ⟨x0, 0, none⟩ = some (.pointer (some ⟨g, 0, none⟩)) ∧ w'.cell? ⟨x0, 1, none⟩ = some (.pointer (some ⟨q, 0, none⟩)) ∧ w'.cell? ⟨x1, 2, none⟩ = some (.int .i64 a)) ((go_split_ands; refine ⟨?_, ?_, ?_⟩ <;> (repeat (with_reducible first | assumption | refine cell_drew' ?_ | refine Keep.cell' (S := [g]) (by assumption) ?_ (by simp [n1, n2, n3, n4]) | refine Keep.cell' (S := [q]) (by assumption) ?_ (by simp [n1, n2, n3, n4]))))) (first | (go_at_call 28; (first | (with_reducible refine (calc_neg g bad a _ C0d a0 a1).mono ?_) | (with_reducible refine (calc_neg g bad a _ (C0d.keep KR (by simp [hgq])) a0 a1).mono ?_)); rintro e w5 ⟨rfl, CS1, KS⟩) | (go_at_call 29; (first | (with_reducible refine (rneg_any q bad a _ R0d).mono ?_) | (with_reducible refine (rneg_any q bad a _ (R0d.keep KS (by simp [hqg]))).mono ?_)); rintro e w6 ⟨rfl, RS1, KR⟩))
    all_goals
      first
        | (have T : DoesPost g q w (.returned (.bool true)) w6 := ⟨rfl, _, CS1.keep KR (by simp [hgq]), RS1, (HKW.out.mono (by simp)).trans (((Keep.refl [g, q] W1).drew.trans (KS.mono (by simp))).trans (KR.mono (by simp)))⟩)
        | (have T : DoesPost g q w (.returned (.bool true)) w5 := ⟨rfl, _, CS1, RS1.keep KS (by simp [hqg]), (HKW.out.mono (by simp)).trans (((Keep.refl [g, q] W1).drew.trans (KR.mono (by simp))).trans (KS.mono (by simp)))⟩)
      clear CS1 RS1 KS KR
      go_wp2
      go_ret
      exact T
  by_cases k4 : k = 4
  · subst k4
    clear HG HQ
    go_upto_region 9 with (fail)
    go_region_held3 (fun w' => w'.cell? ⟨x0, 0, none⟩ = some (.pointer (some ⟨g, 0, none⟩)) ∧ w'.cell? ⟨x0, 1, none⟩ = some (.pointer (some ⟨q, 0, none⟩)) ∧ w'.cell? ⟨x1, 2, none⟩ = some (.int .i64 a) ∧ w'.cell? ⟨x1, 3, none⟩ = some (.int .i64 b)) ((go_split_ands; refine ⟨?_, ?_, ?_, ?_⟩ <;> (repeat (with_reducible first | assumption | refine cell_drew' ?_ | refine Keep.cell' (S := [g]) (by assumption) ?_ (by simp [n1, n2, n3, n4]) | refine Keep.cell' (S := [q]) (by assumption) ?_ (by simp [n1, n2, n3, n4]))))) (first | (go_at_call 18; (first | (with_reducible refine (calc_times g bad a b _ C0d a0 a1 b0 b1).mono ?_) | (with_reducible refine (calc_times g bad a b _ (C0d.keep KR (by simp [hgq])) a0 a1 b0 b1).mono ?_)); rintro e w5 ⟨rfl, CS1, KS⟩) | (go_at_call 30; (first | (with_reducible refine (rtimes_any q bad a b _ R0d).mono ?_) | (with_reducible refine (rtimes_any q bad a b _ (R0d.keep KS (by simp [hqg]))).mono ?_)); rintro e w6 ⟨rfl, RS1, KR⟩))
    all_goals
      first
        | (have T : DoesPost g q w (.returned (.bool true)) w6 := ⟨rfl, _, CS1.keep KR (by simp [hgq]), RS1, (HKW.out.mono (by simp)).trans (((Keep.refl [g, q] W1).drew.trans (KS.mono (by simp))).trans (KR.mono (by simp)))⟩)
        | (have T : DoesPost g q w (.returned (.bool true)) w5 := ⟨rfl, _, CS1, RS1.keep KS (by simp [hqg]), (HKW.out.mono (by simp)).trans (((Keep.refl [g, q] W1).drew.trans (KR.mono (by simp))).trans (KS.mono (by simp)))⟩)
      clear CS1 RS1 KS KR
      go_wp2
      go_ret
      exact T
  by_cases k5 : k = 5
  · subst k5
    clear HG HQ
    go_upto_region 11 with (fail)
    go_region_held3 (fun w' => w'.cell? ⟨x0, 0, none⟩ = some (.pointer (some ⟨g, 0, none⟩)) ∧ w'.cell? ⟨x0, 1, none⟩ = some (.pointer (some ⟨q, 0, none⟩)) ∧ w'.cell? ⟨x1, 2, none⟩ = some (.int .i64 a) ∧ w'.cell? ⟨x1, 3, none⟩ = some (.int .i64 b) ∧ w'.cell? ⟨x1, 4, none⟩ = some (.int .i64 c)) ((go_split_ands; refine ⟨?_, ?_, ?_, ?_, ?_⟩ <;> (repeat (with_reducible first | assumption | refine cell_drew' ?_ | refine Keep.cell' (S := [g]) (by assumption) ?_ (by simp [n1, n2, n3, n4]) | refine Keep.cell' (S := [q]) (by assumption) ?_ (by simp [n1, n2, n3, n4]))))) (first | (go_at_call 13; (first | (with_reducible refine (calc_scale g bad a b c _ C0d).mono ?_) | (with_reducible refine (calc_scale g bad a b c _ (C0d.keep KR (by simp [hgq]))).mono ?_)); rintro e w5 ⟨rfl, CS1, KS⟩) | (go_at_call 31; (first | (with_reducible refine (rscale_any q bad a b c _ R0d).mono ?_) | (with_reducible refine (rscale_any q bad a b c _ (R0d.keep KS (by simp [hqg]))).mono ?_)); rintro e w6 ⟨rfl, RS1, KR⟩))
    all_goals
      first
        | (have T : DoesPost g q w (.returned (.bool true)) w6 := ⟨rfl, _, CS1.keep KR (by simp [hgq]), RS1, (HKW.out.mono (by simp)).trans (((Keep.refl [g, q] W1).drew.trans (KS.mono (by simp))).trans (KR.mono (by simp)))⟩)
        | (have T : DoesPost g q w (.returned (.bool true)) w5 := ⟨rfl, _, CS1, RS1.keep KS (by simp [hqg]), (HKW.out.mono (by simp)).trans (((Keep.refl [g, q] W1).drew.trans (KR.mono (by simp))).trans (KS.mono (by simp)))⟩)
      clear CS1 RS1 KS KR
      go_wp2
      go_ret
      exact T
  have e1 : (k == 1) = false := by simp [k1]
  have e2 : (k == 2) = false := by simp [k2]
  have e3 : (k == 3) = false := by simp [k3]
  have e4 : (k == 4) = false := by simp [k4]
  have e5 : (k == 5) = false := by simp [k5]
  clear k1 k2 k3 k4 k5
  go_wp2
  go_ret
  exact ⟨rfl, _, HG.out, HQ.out, HKW.out.mono (by simp)⟩

end Go.Proofs.Ytldckefnelgdgaa
