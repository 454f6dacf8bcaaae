/- Runes: the law's examples. -/
import Derived.Test.YtlkoekcoafddpaaDoorRunCut
namespace Go.Proofs.YtlkoekcoafddpaaDoor
open Go.RowKit Go.Lib
set_option linter.unusedSimpArgs false
set_option linter.unusedVariables false

theorem check_at (s : ByteArray) (a b : Int) (hs : s.size ≤ 4611686018427387904) (h : faultX (badFrom s 0) = (a, b)) (w : World) (T : Tabs w) : Calls Tryd.prog 16 #[.string s] w fun e w' => e = .returned (.agg #[.int .i64 a, .int .i64 b]) ∧ Keep [] w w' := by
  have := check_any s hs w T
  rw [h] at this
  exact this
theorem count_at (s : ByteArray) (n : Nat) (hs : s.size ≤ 4611686018427387904) (h : (runesFrom s 0).length = n) (w : World) (T : Tabs w) : Calls Tryd.prog 18 #[.string s] w fun e w' => e = .returned (.int .i64 (n : Int)) ∧ Keep [] w w' := by
  have := count_any s hs w T
  rw [h] at this
  exact this
theorem cut_at (s : ByteArray) (n : Int) (a b : ByteArray) (hn : -9223372036854775808 ≤ n ∧ n ≤ 9223372036854775807) (hs : s.size ≤ 4611686018427387904) (h : (s.extract 0 (cutEnd s n), s.extract (cutEnd s n) s.size) = (a, b)) (w : World) (T : Tabs w) : Calls Tryd.prog 14 #[.string s, .int .i64 n] w fun e w' => e = .returned (.tuple #[.string a, .string b]) ∧ Keep [] w w' := by
  have := cut_any s n hn hs w T
  rw [(Prod.mk.inj h).1, (Prod.mk.inj h).2] at this
  exact this

set_option maxRecDepth 100000 in
set_option maxHeartbeats 2000000 in
theorem shown_any (w : World) (T : Tabs w) : Calls Tryd.prog 9 #[] w fun e w' => e = .returned (.bool true) ∧ Keep [] w w' := by
  have A := fun W k => cut_at ⟨#[97, 226, 130, 172, 98, 226, 130, 60]⟩ 2 ⟨#[97, 226, 130, 172]⟩ ⟨#[98, 226, 130, 60]⟩ (by omega) (by decide) (by kernel_rfl) W (T.keep (w' := W) k)
  have C1 := fun W k => check_at ⟨#[97, 195, 169]⟩ 0 0 (by decide) (by kernel_rfl) W (T.keep (w' := W) k)
  have C2 := fun W k => check_at ⟨#[226, 130, 60]⟩ 40 2 (by decide) (by kernel_rfl) W (T.keep (w' := W) k)
  have C3 := fun W k => check_at ⟨#[237, 160, 128]⟩ 40 1 (by decide) (by kernel_rfl) W (T.keep (w' := W) k)
  have C4 := fun W k => count_at ⟨#[239, 191, 189, 255]⟩ 1 (by decide) (by kernel_rfl) W (T.keep (w' := W) k)
  have D1 : ∀ W, Calls Tryd.prog 19 #[.int .i64 55296] W fun e w' => e = .returned (.int .i64 0) ∧ w' = W := fun W => width_any 55296 W
  have D2 : ∀ W, Calls Tryd.prog 19 #[.int .i64 65536] W fun e w' => e = .returned (.int .i64 4) ∧ w' = W := fun W => width_any 65536 W
  have D3 : ∀ W, Calls Tryd.prog 21 #[.int .i64 13] W fun e w' => e = .returned (.bool true) ∧ w' = W := fun W => blank_any 13 W
  have D4 : ∀ W, Calls Tryd.prog 21 #[.int .i64 160] W fun e w' => e = .returned (.bool false) ∧ w' = W := fun W => blank_any 160 W
  have hfd : ∀ w : World, (Instr.field 36 (.agg #[.int .i64 40, .int .i64 1]) 1).run Tryd.prog w = .ok (.int .i64 1) w := fun _ => by kernel_rfl
  have hnf : ∀ (w : World) (b : Nat), (binOp .eql 45 (.func (.func 29) #[] #[.pointer (some ⟨b, 0, none⟩)]) .nilFunc).run Tryd.prog w = .ok (.bool false) w := fun w b => by kernel_rfl
  go_enter Tryd.func9, Tryd.ntmps9
  go_wp2_with fail
  refine (all_any _ _).mono ?_
  rintro e w1 ⟨rfl, rfl⟩
  have K1 : Keep [] w (w.alloc (.cells #[.string ⟨#[97]⟩] 9)) := (Keep.refl _ _).alloc _
  go_wp2_with fail
  refine (A _ K1).mono ?_
  rintro e w2 ⟨rfl, K2⟩
  have K2' := K1.trans K2
  go_wp2_with fail
  refine (C1 _ K2').mono ?_
  rintro e w3 ⟨rfl, K3⟩
  have K3' := K2'.trans K3
  go_wp2_with fail
  refine (C2 _ K3').mono ?_
  rintro e w4 ⟨rfl, K4⟩
  have K4' := K3'.trans K4
  go_wp2_with fail
  refine (C3 _ K4').mono ?_
  rintro e w5 ⟨rfl, K5⟩
  have K5' := K4'.trans K5
  go_wp2_with fail
  refine (C4 _ K5').mono ?_
  rintro e w6 ⟨rfl, K6⟩
  have K6' := K5'.trans K6
  go_wp2_with fail
  refine (D1 _).mono ?_
  rintro e w7 ⟨rfl, rfl⟩
  go_wp2_with fail
  refine (D2 _).mono ?_
  rintro e w7 ⟨rfl, rfl⟩
  go_wp2_with fail
  refine (D3 _).mono ?_
  rintro e w7 ⟨rfl, rfl⟩
  go_wp2_with fail
  refine (D4 _).mono ?_
  rintro e w7 ⟨rfl, rfl⟩
  go_wp2
  go_ret
  exact ⟨rfl, K6'⟩

end Go.Proofs.YtlkoekcoafddpaaDoor
