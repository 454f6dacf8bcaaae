/- Font: the check sum, by contracts (the program's and the reference's). -/
import Derived.Test.YthcfgechifogeaaFnNum
import Derived.Test.YthcfgechifogeaaStep
import Derived.Laws.BitsAllLaws
namespace Go.Proofs.Ythcfgechifogeaa
open Go.RowKit
set_option linter.unusedSimpArgs false
set_option linter.unusedVariables false

def byRow (x : Nat) : List Value := [byV x]
/-- One step of the sum. -/
def sumStep (s c : Nat) : Nat := (s ^^^ c) * 16777619 % 4294967296
def sumX (l : List Nat) : Nat := l.foldl sumStep 2166136261
theorem sumX_snoc (l : List Nat) (x : Nat) : sumX (l ++ [x]) = sumStep (sumX l) x := by unfold sumX; rw [List.foldl_append, List.foldl_cons, List.foldl_nil]
theorem sumStep_lt (a b : Nat) : sumStep a b < 4294967296 := Nat.mod_lt _ (by omega)
theorem sumX_lt (l : List Nat) : sumX l < 4294967296 := by
  rcases List.eq_nil_or_concat l with rfl | ⟨l', x, rfl⟩
  · unfold sumX; rw [List.foldl_nil]; omega
  · rw [List.concat_eq_append, sumX_snoc]
    exact sumStep_lt _ _

set_option maxRecDepth 100000 in
set_option maxHeartbeats 1000000 in
theorem sum_any (A : Option Addr) (c : Nat) (l : List Nat) (w : World) (h : Rd byRow 1 w A l) (hl : l.length ≤ 140737488355328) (hb : ∀ x ∈ l, x < 256) :
    Calls Try.prog 52 #[.slice A l.length c] w fun e w' => e = .returned (.int .u32 (sumX l : Int)) ∧ w' = w := by
  go_enter Try.func52, Try.ntmps52
  go_wp2_with fail
  go_loopw [3, 8] (fun vs vi wr => ∃ i : Nat, i ≤ l.length ∧ vi = .int .i64 i ∧ vs = .int .u32 (sumX (l.take i) : Int) ∧ wr = w) (fun _ vi _ => l.length - (intOf vi).toNat)
  case atStart => exact ⟨0, Nat.zero_le _, rfl, rfl, rfl⟩
  case round =>
    obtain ⟨i, hi, rfl, rfl, rfl⟩ := hrel
    by_cases hlt : i < l.length
    · have hlt' : (i : Int) < (l.length : Int) := by omega
      obtain ⟨x, hx⟩ : ∃ x, l[i]? = some x := ⟨l[i], List.getElem?_eq_getElem hlt⟩
      obtain ⟨ad, hA, hcs⟩ := h i x hx
      have d0 : wr.cell? (ad.add i) = some (.int .u8 (x : Int)) := by have := hcs 0 _ rfl; rwa [Nat.add_zero, Nat.mul_one] at this
      have hxb := hb x (List.mem_of_getElem? hx)
      have hs := sumX_lt (l.take i)
      have HX := hid (take_snoc hx)
      subst hA
      clear hcs hx
      obtain ⟨S, hS⟩ : ∃ S, sumX (l.take i) = S := ⟨_, rfl⟩
      rw [hS] at hs ⊢
      have HS := hid hS
      clear hS
      go_wp2
      have hxo : bits .xor .u32 (S : Int) (x : Int) = ((S ^^^ x : Nat) : Int) := u32_xor_nat S x (by omega) (by omega)
      refine ⟨⟨i + 1, hlt, by go_num, ?_, trivial⟩, by simp [intOf]; omega⟩
      rw [HX.out, sumX_snoc, HS.out, hxo]
      unfold sumStep
      simp only [Int.natCast_mul, Int.natCast_emod]
      rfl
    · obtain rfl : i = l.length := by omega
      rw [List.take_length]
      go_wp2
      go_ret
      exact ⟨rfl, rfl⟩

end Go.Proofs.Ythcfgechifogeaa
