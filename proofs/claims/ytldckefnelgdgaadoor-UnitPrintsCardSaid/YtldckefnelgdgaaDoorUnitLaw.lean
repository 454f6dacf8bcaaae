/- Layer 8: what a length's text says: the plain words. -/
import Derived.Test.YtldckefnelgdgaaDoorUnitDig
import Derived.Test.YtldckefnelgdgaaDoorUnitTold
import Derived.Test.YtldckefnelgdgaaDoorShelf
import Derived.Lib.AtoiAllCases
import Derived.Lib.AtoiTie
namespace Go.Proofs.YtldckefnelgdgaaDoor
open Go.RowKit
set_option linter.unusedSimpArgs false
set_option linter.unusedVariables false

def B (l : List UInt8) : ByteArray := ⟨l.toArray⟩
theorem B_size (l : List UInt8) : (B l).size = l.length := by show l.toArray.size = _; simp
theorem B_list (l : List UInt8) : (B l).data.toList = l := rfl
theorem B_toList (l : List UInt8) : (B l).toList = l := by rw [ByteArray.toList_eq]; rfl
theorem B_of (s : ByteArray) : B s.data.toList = s := by unfold B; rw [Array.toArray_toList]
theorem ext_B (s : ByteArray) (a b : Nat) : s.extract a b = B ((s.data.toList.drop a).take (b - a)) := by
  have h := ByteArray.extract_mk s.data.toList a b
  rw [Array.toArray_toList] at h
  exact h
theorem ext_from (s : ByteArray) (a : Nat) : s.extract a s.size = B (s.data.toList.drop a) := by
  rw [ext_B, List.take_of_length_le (by rw [List.length_drop, bytes_len]; omega)]
theorem ext_to (s : ByteArray) (b : Nat) : s.extract 0 b = B (s.data.toList.take b) := by rw [ext_B]; simp
theorem B_append (x y : List UInt8) : B x ++ B y = B (x ++ y) := ByteArray.mk_append_mk x y

/-- Digits alone. -/
def AllD (l : List UInt8) : Prop := ∀ c ∈ l, 48 ≤ c.toNat ∧ c.toNat ≤ 57
/-- The number that digits spell. -/
def valF (n : Nat) (l : List UInt8) : Nat := l.foldl (fun n c => 10 * n + (c.toNat - 48)) n
def valL (l : List UInt8) : Nat := valF 0 l
theorem valF_snoc (n : Nat) (l : List UInt8) (c : UInt8) : valF n (l ++ [c]) = 10 * valF n l + (c.toNat - 48) := by unfold valF; rw [List.foldl_append]; rfl
theorem valF_app (n : Nat) (a b : List UInt8) : valF n (a ++ b) = valF (valF n a) b := by unfold valF; rw [List.foldl_append]
theorem valF_split (n : Nat) (l : List UInt8) : valF n l = n * 10 ^ l.length + valL l := by
  induction l generalizing n with
  | nil => simp [valF, valL]
  | cons c r ih =>
    have h1 := ih (10 * n + (c.toNat - 48))
    have h2 := ih (10 * 0 + (c.toNat - 48))
    show valF (10 * n + (c.toNat - 48)) r = n * 10 ^ (r.length + 1) + valF (10 * 0 + (c.toNat - 48)) r
    rw [h1, h2, Nat.pow_succ, Nat.add_mul, Nat.add_mul]
    have e : 10 * n * 10 ^ r.length = n * (10 ^ r.length * 10) := by rw [Nat.mul_comm 10 n, Nat.mul_assoc, Nat.mul_comm 10]
    omega
theorem valL_lt {l : List UInt8} (h : AllD l) : valL l < 10 ^ l.length := by
  induction l with
  | nil => simp [valL, valF]
  | cons c r ih =>
    have h1 := ih (fun x hx => h x (by simp [hx]))
    have h2 := h c (by simp)
    have e : valL (c :: r) = valF (10 * 0 + (c.toNat - 48)) r := rfl
    rw [e, valF_split, List.length_cons, Nat.pow_succ]
    have : (10 * 0 + (c.toNat - 48)) * 10 ^ r.length ≤ 9 * 10 ^ r.length := Nat.mul_le_mul_right _ (by omega)
    omega

theorem AllD.app {a b : List UInt8} (ha : AllD a) (hb : AllD b) : AllD (a ++ b) := fun c hc => by
  rcases List.mem_append.1 hc with h | h
  · exact ha c h
  · exact hb c h
theorem AllD.take_dg : ∀ (l : List UInt8) (k : Nat), k ≤ dgL l → AllD (l.take k)
  | [], k, h => by intro c hc; simp at hc
  | c :: r, 0, h => by intro x hx; simp at hx
  | c :: r, k + 1, h => by
    unfold dgL at h
    split at h
    · rename_i hd
      intro x hx
      rw [List.take_succ_cons] at hx
      rcases List.mem_cons.1 hx with rfl | hx
      · exact of_decide_eq_true hd
      · exact AllD.take_dg r k (by omega) x hx
    · omega
theorem AllD.zeros (n : Nat) : AllD (List.replicate n 48) := fun c hc => by
  rw [List.mem_replicate] at hc
  rw [hc.2]
  decide
theorem valL_zeros (l : List UInt8) (n : Nat) : valL (l ++ List.replicate n 48) = valL l * 10 ^ n := by
  induction n with
  | zero => simp
  | succ n ih =>
    have : l ++ List.replicate (n + 1) 48 = (l ++ List.replicate n 48) ++ [48] := by rw [List.replicate_succ', List.append_assoc]
    rw [this]
    unfold valL at ih ⊢
    rw [valF_snoc, ih, Nat.pow_succ]
    have : (48 : UInt8).toNat - 48 = 0 := by decide
    rw [this, Nat.add_zero, Nat.mul_comm 10, Nat.mul_assoc]

/-! strconv's words. -/
theorem parse_digits : ∀ (l : List UInt8) (acc : Nat), AllD l → acc < 18446744073709551616 → Lib.parseUint10 acc l = if valF acc l < 18446744073709551616 then .ok (valF acc l) else .range
  | [], acc, _, h => by rw [if_pos (show valF acc [] < 18446744073709551616 from h)]; rfl
  | c :: r, acc, hD, h => by
    have hc := hD c (by simp)
    have hr : AllD r := fun x hx => hD x (by simp [hx])
    have e : valF acc (c :: r) = valF (10 * acc + (c.toNat - 48)) r := rfl
    have hge : 10 * acc + (c.toNat - 48) ≤ valF acc (c :: r) := by
      rw [e, valF_split]
      have : 1 ≤ 10 ^ r.length := Nat.one_le_pow _ _ (by omega)
      exact Nat.le_trans (Nat.le_mul_of_pos_right _ this) (Nat.le_add_right _ _)
    simp only [Lib.parseUint10]
    rw [if_pos (by omega)]
    split
    · rw [if_neg (by omega)]
    · split
      · rw [if_neg (by omega)]
      · have := parse_digits r (acc * 10 + (c.toNat - 48)) hr (by omega)
        rw [this, e, Nat.mul_comm acc 10]

theorem atoi_digits {l : List UInt8} (h : AllD l) (hl : l ≠ []) : Lib.atoiAll l = if valL l < 9223372036854775808 then .ok (valL l : Int) else .range := by
  cases l with
  | nil => exact absurd rfl hl
  | cons c r =>
    have hc := h c (by simp)
    rw [Lib.atoiAll_plain c r (by omega) (by omega)]
    have hp : Lib.parseMag (c :: r) = if valL (c :: r) < 18446744073709551616 then .ok (valL (c :: r)) else .range := by
      unfold Lib.parseMag
      rw [if_neg (by simp), parse_digits _ 0 h (by omega)]
      rfl
    rw [hp]
    by_cases h1 : valL (c :: r) < 9223372036854775808
    · rw [if_pos (by omega), if_pos h1]
      simp [Lib.signless]
      omega
    · rw [if_neg h1]
      by_cases h2 : valL (c :: r) < 18446744073709551616
      · rw [if_pos h2]
        simp [Lib.signless]
        omega
      · rw [if_neg h2]
        rfl

/-! A length's text in parts. -/
/-- How many digits; how many behind the point; where the unit begins. -/
def cutX (l : List UInt8) : Option (Nat × Nat × Nat) :=
  if dgL l < 1 ∨ 15 < dgL l then none else
  if l[dgL l]? = some 46 then
    (if dgL (l.drop (dgL l + 1)) < 1 ∨ 4 < dgL (l.drop (dgL l + 1)) then none else some (dgL l, dgL (l.drop (dgL l + 1)), dgL l + 1 + dgL (l.drop (dgL l + 1))))
  else some (dgL l, 0, dgL l)

/-- The units, and em: num (of em: the size), den. -/
def unit0 (u : List UInt8) : Option (Int × Int) :=
  if u = [] then some (65536, 1) else if u = [112, 116] then some (65536, 1) else if u = [105, 110] then some (4718592, 1) else if u = [109, 109] then some (23592960, 127) else if u = [115, 112] then some (1, 1) else if u = [101, 109] then some (0, 1) else none
def unitX (u : List UInt8) (size : Int) : Option (Int × Int) := if u = [101, 109] then some (size, 1) else unit0 u

def textX (l : List UInt8) (n k : Nat) : List UInt8 := l.take n ++ (l.drop (n + 1)).take k

/-- What a length's text reads as: its number and its fault. -/
def readX (l : List UInt8) (size : Int) : Int × Int :=
  match cutX l with
  | none => (0, 80)
  | some (n, k, at_) => match unitX (l.drop at_) size with
    | none => (0, 80)
    | some (num, den) => if l.drop at_ = [101, 109] ∧ (size < 0 ∨ 70368744177664 < size) then (0, 81) else (qrV (qr (valL (textX l n k)) num.toNat (den.toNat * 10 ^ k)), qrE (qr (valL (textX l n k)) num.toNat (den.toNat * 10 ^ k)))

theorem cutX_facts {l : List UInt8} {n k at_ : Nat} (h : cutX l = some (n, k, at_)) : 1 ≤ n ∧ n ≤ 15 ∧ k ≤ 4 ∧ AllD (l.take n) ∧ AllD ((l.drop (n + 1)).take k) ∧ n ≤ at_ ∧ at_ ≤ l.length ∧ (l.take n).length = n ∧ ((l.drop (n + 1)).take k).length = k := by
  unfold cutX at h
  split at h
  · cases h
  · rename_i h1
    have hn := dgL_le l
    split at h
    · rename_i hp
      split at h
      · cases h
      · rename_i h2
        have hk := dgL_le (l.drop (dgL l + 1))
        rw [List.length_drop] at hk
        have hlt := (List.getElem?_eq_some_iff.1 hp).1
        simp only [Option.some.injEq, Prod.mk.injEq] at h
        obtain ⟨rfl, rfl, rfl⟩ := h
        exact ⟨by omega, by omega, by omega, AllD.take_dg _ _ (Nat.le_refl _), AllD.take_dg _ _ (Nat.le_refl _), by omega, by omega, by simp; omega, by simp; omega⟩
    · simp only [Option.some.injEq, Prod.mk.injEq] at h
      obtain ⟨rfl, rfl, rfl⟩ := h
      exact ⟨by omega, by omega, by omega, AllD.take_dg _ _ (Nat.le_refl _), (by intro c hc; simp at hc), by omega, hn, by simp; omega, by simp⟩

theorem qr_scale {n num d c : Nat} (hc : 1 ≤ c) (hd : 1 ≤ d) : qr (n * c) num (d * c) = qr n num d := by
  have e1 : n * c * num / (d * c) = n * num / d := by rw [Nat.mul_right_comm, Nat.mul_div_mul_right _ _ (by omega)]
  have e2 : n * c * num % (d * c) = n * num % d * c := by rw [Nat.mul_right_comm, Nat.mul_mod_mul_right]
  unfold qr
  rw [e1, e2]
  have k1 : (0 < n * num % d * c) ↔ (0 < n * num % d) := ⟨fun h => Nat.pos_of_mul_pos_right h, fun h => Nat.mul_pos h (by omega)⟩
  have k2 : (d * c ≤ 2 * (n * num % d * c)) ↔ (d ≤ 2 * (n * num % d)) := by
    rw [← Nat.mul_assoc]
    exact Nat.mul_le_mul_right_iff (by omega)
  simp only [k1, k2]

theorem qr_zero {n d : Nat} (hd : 1 ≤ d) : qr n 0 d = some 0 := by
  unfold qr
  rw [Nat.mul_zero, Nat.zero_div, Nat.zero_mod, if_neg (by omega), if_neg (by omega)]

theorem qr_huge {n num d : Nat} (hd : 1 ≤ d) (h : 70368744177664 * d + d ≤ n * num) : qr n num d = none := by
  unfold qr
  rw [if_pos]
  left
  have : 70368744177665 ≤ n * num / d := by
    rw [Nat.le_div_iff_mul_le (by omega)]
    omega
  omega

end Go.Proofs.YtldckefnelgdgaaDoor
