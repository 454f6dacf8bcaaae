/- Runes: what a text's bytes tell, in plain numbers. -/
import Derived.WalkKit
import Derived.Lib.DecodeN
namespace Go.Proofs.YtlkoekcoafddpaaDoor
open Go.Lib
set_option linter.unusedSimpArgs false
set_option linter.unusedVariables false

/-- How many bytes a rune has that begins with this one; what may stand behind; the first offset that can't; the rune. -/
def wideN (b : Nat) : Nat := if b < 128 then 1 else if 194 ≤ b ∧ b ≤ 223 then 2 else if 224 ≤ b ∧ b ≤ 239 then 3 else if 240 ≤ b ∧ b ≤ 244 then 4 else 0
def loN (f n : Nat) : Nat := if n = 1 ∧ f = 240 then 144 else if n = 1 ∧ f = 224 then 160 else 128
def hiN (f n : Nat) : Nat := if n = 1 ∧ f = 244 then 143 else if n = 1 ∧ f = 237 then 159 else 191
def stN (f n c : Nat) : Prop := loN f n ≤ c ∧ c ≤ hiN f n
instance (f n c : Nat) : Decidable (stN f n c) := by unfold stN; infer_instance
def offN (n b0 b1 b2 b3 : Nat) : Option Nat :=
  if wideN b0 = 0 then some 0 else if 2 ≤ wideN b0 ∧ ¬ (1 < n ∧ stN b0 1 b1) then some 1 else if 3 ≤ wideN b0 ∧ ¬ (2 < n ∧ stN b0 2 b2) then some 2
  else if 4 ≤ wideN b0 ∧ ¬ (3 < n ∧ stN b0 3 b3) then some 3 else none
def runeN (b0 b1 b2 b3 : Nat) : Nat :=
  if b0 < 128 then b0 else if b0 ≤ 223 then b0 % 32 * 64 + b1 % 64 else if b0 ≤ 239 then (b0 % 16 * 64 + b1 % 64) * 64 + b2 % 64 else ((b0 % 8 * 64 + b1 % 64) * 64 + b2 % 64) * 64 + b3 % 64
/-- How many bytes a rune has; -1: it is none. -/
def lenN (r : Nat) : Nat := if r < 128 then 1 else if r < 2048 then 2 else if r < 65536 then 3 else 4

theorem classes (b : Nat) : b < 128 ∨ (128 ≤ b ∧ b < 194) ∨ (194 ≤ b ∧ b ≤ 223) ∨ b = 224 ∨ ((225 ≤ b ∧ b ≤ 236) ∨ (238 ≤ b ∧ b ≤ 239)) ∨ b = 237 ∨ b = 240 ∨ (241 ≤ b ∧ b ≤ 243) ∨ b = 244 ∨ 245 ≤ b := by omega
theorem wide1 {b : Nat} (h : b < 128) : wideN b = 1 := by unfold wideN; rw [if_pos h]
theorem wide0 {b : Nat} (h : (128 ≤ b ∧ b < 194) ∨ 245 ≤ b) : wideN b = 0 := by unfold wideN; rw [if_neg (by omega), if_neg (by omega), if_neg (by omega), if_neg (by omega)]
theorem wide2 {b : Nat} (h : 194 ≤ b ∧ b ≤ 223) : wideN b = 2 := by unfold wideN; rw [if_neg (by omega), if_pos h]
theorem wide3 {b : Nat} (h : 224 ≤ b ∧ b ≤ 239) : wideN b = 3 := by unfold wideN; rw [if_neg (by omega), if_neg (by omega), if_pos h]
theorem wide4 {b : Nat} (h : 240 ≤ b ∧ b ≤ 244) : wideN b = 4 := by unfold wideN; rw [if_neg (by omega), if_neg (by omega), if_neg (by omega), if_pos h]

theorem st_else {f n c : Nat} (h : n ≠ 1 ∨ (f ≠ 224 ∧ f ≠ 237 ∧ f ≠ 240 ∧ f ≠ 244)) : stN f n c ↔ 128 ≤ c ∧ c ≤ 191 := by
  unfold stN loN hiN
  rw [if_neg (by omega), if_neg (by omega), if_neg (by omega), if_neg (by omega)]
theorem st_224 {c : Nat} : stN 224 1 c ↔ 160 ≤ c ∧ c ≤ 191 := by simp [stN, loN, hiN]
theorem st_237 {c : Nat} : stN 237 1 c ↔ 128 ≤ c ∧ c ≤ 159 := by simp [stN, loN, hiN]
theorem st_240 {c : Nat} : stN 240 1 c ↔ 144 ≤ c ∧ c ≤ 191 := by simp [stN, loN, hiN]
theorem st_244 {c : Nat} : stN 244 1 c ↔ 128 ≤ c ∧ c ≤ 143 := by simp [stN, loN, hiN]
/-- The offset, by how wide the rune would be. -/
theorem off0 {n b0 b1 b2 b3 : Nat} (h : wideN b0 = 0) : offN n b0 b1 b2 b3 = some 0 := by unfold offN; rw [if_pos h]
theorem off1 {n b0 b1 b2 b3 : Nat} (h : wideN b0 = 1) : offN n b0 b1 b2 b3 = none := by unfold offN; rw [h, if_neg (by omega), if_neg (by omega), if_neg (by omega), if_neg (by omega)]
theorem off2 {n b0 b1 b2 b3 : Nat} (h : wideN b0 = 2) : offN n b0 b1 b2 b3 = if 1 < n ∧ stN b0 1 b1 then none else some 1 := by
  unfold offN
  rw [h, if_neg (by omega)]
  by_cases h1 : 1 < n ∧ stN b0 1 b1
  · rw [if_neg (fun x => x.2 h1), if_neg (by omega), if_neg (by omega), if_pos h1]
  · rw [if_pos ⟨by omega, h1⟩, if_neg h1]
theorem off3 {n b0 b1 b2 b3 : Nat} (h : wideN b0 = 3) : offN n b0 b1 b2 b3 = if 1 < n ∧ stN b0 1 b1 then (if 2 < n ∧ stN b0 2 b2 then none else some 2) else some 1 := by
  unfold offN
  rw [h, if_neg (by omega)]
  by_cases h1 : 1 < n ∧ stN b0 1 b1
  · rw [if_neg (fun x => x.2 h1), if_pos h1]
    by_cases h2 : 2 < n ∧ stN b0 2 b2
    · rw [if_neg (fun x => x.2 h2), if_neg (by omega), if_pos h2]
    · rw [if_pos ⟨by omega, h2⟩, if_neg h2]
  · rw [if_pos ⟨by omega, h1⟩, if_neg h1]
theorem off4 {n b0 b1 b2 b3 : Nat} (h : wideN b0 = 4) : offN n b0 b1 b2 b3 = if 1 < n ∧ stN b0 1 b1 then (if 2 < n ∧ stN b0 2 b2 then (if 3 < n ∧ stN b0 3 b3 then none else some 3) else some 2) else some 1 := by
  unfold offN
  rw [h, if_neg (by omega)]
  by_cases h1 : 1 < n ∧ stN b0 1 b1
  · rw [if_neg (fun x => x.2 h1), if_pos h1]
    by_cases h2 : 2 < n ∧ stN b0 2 b2
    · rw [if_neg (fun x => x.2 h2), if_pos h2]
      by_cases h3 : 3 < n ∧ stN b0 3 b3
      · rw [if_neg (fun x => x.2 h3), if_pos h3]
      · rw [if_pos ⟨by omega, h3⟩, if_neg h3]
    · rw [if_pos ⟨by omega, h2⟩, if_neg h2]
  · rw [if_pos ⟨by omega, h1⟩, if_neg h1]
/-- What stands second, in numbers. -/
theorem st_one {f c : Nat} (h : stN f 1 c) : 128 ≤ c ∧ c ≤ 191 ∧ (f = 224 → 160 ≤ c) ∧ (f = 237 → c ≤ 159) ∧ (f = 240 → 144 ≤ c) ∧ (f = 244 → c ≤ 143) := by
  unfold stN loN hiN at h
  repeat' split at h
  all_goals omega
theorem st_not {f c : Nat} (h : ¬ stN f 1 c) : c < 128 ∨ 191 < c ∨ (f = 224 ∧ c < 160) ∨ (f = 237 ∧ 159 < c) ∨ (f = 240 ∧ c < 144) ∨ (f = 244 ∧ 143 < c) := by
  unfold stN loN hiN at h
  repeat' split at h
  all_goals omega

/-- The decoder's ways, one at a time. -/
theorem dn1 {n b0 b1 b2 b3 : Nat} (h : b0 < 128) : decodeN n b0 b1 b2 b3 = (b0, 1) := by unfold decodeN; rw [if_pos h]
theorem dn2 {n b0 b1 b2 b3 : Nat} (h : 192 ≤ b0 ∧ b0 ≤ 223) : decodeN n b0 b1 b2 b3 = if 1 < n ∧ b1 / 64 = 2 then (if b0 % 32 * 64 + b1 % 64 ≥ 128 then (b0 % 32 * 64 + b1 % 64, 2) else (65533, 1)) else (65533, 1) := by
  unfold decodeN
  rw [if_neg (by omega)]
  by_cases h1 : 1 < n ∧ b1 / 64 = 2
  · rw [if_pos ⟨by omega, h1⟩, if_pos h1]
  · rw [if_neg (fun x => h1 x.2), if_neg (fun x => by omega), if_neg (fun x => by omega), if_neg h1]
theorem dn3 {n b0 b1 b2 b3 : Nat} (h : 224 ≤ b0 ∧ b0 ≤ 239) : decodeN n b0 b1 b2 b3 = if (1 < n ∧ b1 / 64 = 2) ∧ (2 < n ∧ b2 / 64 = 2) then
    (if b0 % 16 * 4096 + b1 % 64 * 64 + b2 % 64 ≥ 2048 ∧ (b0 % 16 * 4096 + b1 % 64 * 64 + b2 % 64 < 55296 ∨ (57344 ≤ b0 % 16 * 4096 + b1 % 64 * 64 + b2 % 64 ∧ b0 % 16 * 4096 + b1 % 64 * 64 + b2 % 64 ≤ 1114111)) then (b0 % 16 * 4096 + b1 % 64 * 64 + b2 % 64, 3) else (65533, 1)) else (65533, 1) := by
  unfold decodeN
  rw [if_neg (by omega), if_neg (fun x => by omega)]
  by_cases h1 : (1 < n ∧ b1 / 64 = 2) ∧ (2 < n ∧ b2 / 64 = 2)
  · rw [if_pos ⟨by omega, h1⟩, if_pos h1]
  · rw [if_neg (fun x => h1 x.2), if_neg (fun x => by omega), if_neg h1]
theorem dn4 {n b0 b1 b2 b3 : Nat} (h : 240 ≤ b0 ∧ b0 ≤ 247) : decodeN n b0 b1 b2 b3 = if (1 < n ∧ b1 / 64 = 2) ∧ (2 < n ∧ b2 / 64 = 2) ∧ (3 < n ∧ b3 / 64 = 2) then
    (if b0 % 8 * 262144 + b1 % 64 * 4096 + b2 % 64 * 64 + b3 % 64 ≥ 65536 ∧ (b0 % 8 * 262144 + b1 % 64 * 4096 + b2 % 64 * 64 + b3 % 64 < 55296 ∨ (57344 ≤ b0 % 8 * 262144 + b1 % 64 * 4096 + b2 % 64 * 64 + b3 % 64 ∧ b0 % 8 * 262144 + b1 % 64 * 4096 + b2 % 64 * 64 + b3 % 64 ≤ 1114111)) then (b0 % 8 * 262144 + b1 % 64 * 4096 + b2 % 64 * 64 + b3 % 64, 4) else (65533, 1)) else (65533, 1) := by
  unfold decodeN
  rw [if_neg (by omega), if_neg (fun x => by omega), if_neg (fun x => by omega)]
  by_cases h1 : (1 < n ∧ b1 / 64 = 2) ∧ (2 < n ∧ b2 / 64 = 2) ∧ (3 < n ∧ b3 / 64 = 2)
  · rw [if_pos ⟨by omega, h1⟩, if_pos h1]
  · rw [if_neg (fun x => h1 x.2), if_neg h1]
theorem dn0 {n b0 b1 b2 b3 : Nat} (h : (128 ≤ b0 ∧ b0 < 192) ∨ (248 ≤ b0 ∧ b0 < 256)) : decodeN n b0 b1 b2 b3 = (65533, 1) := by
  unfold decodeN
  rw [if_neg (by omega), if_neg (fun x => by omega), if_neg (fun x => by omega), if_neg (fun x => by omega)]

theorem dec_good {n b0 b1 b2 b3 : Nat} (h : offN n b0 b1 b2 b3 = none) : decodeN n b0 b1 b2 b3 = (runeN b0 b1 b2 b3, wideN b0) := by
  by_cases c1 : b0 < 128
  · rw [wide1 c1, dn1 c1]; unfold runeN; rw [if_pos c1]
  by_cases c2 : 194 ≤ b0 ∧ b0 ≤ 223
  · have e := wide2 c2
    rw [off2 e] at h
    split at h
    · rename_i hs
      have h1 := st_one hs.2
      rw [dn2 (by omega), if_pos ⟨hs.1, by omega⟩, if_pos (by omega), e]
      unfold runeN
      rw [if_neg (by omega), if_pos (by omega)]
    · cases h
  by_cases c3 : 224 ≤ b0 ∧ b0 ≤ 239
  · have e := wide3 c3
    rw [off3 e] at h
    split at h
    · rename_i hs
      split at h
      · rename_i ht
        have h1 := st_one hs.2
        have h2 := (st_else (.inl (by omega))).1 ht.2
        have v : b0 % 16 * 4096 + b1 % 64 * 64 + b2 % 64 = (b0 % 16 * 64 + b1 % 64) * 64 + b2 % 64 := by omega
        rw [dn3 (by omega), if_pos ⟨⟨hs.1, by omega⟩, ht.1, by omega⟩, if_pos (by clear v; omega), e, v]
        unfold runeN
        rw [if_neg (by omega), if_neg (by omega), if_pos (by omega)]
      · cases h
    · cases h
  by_cases c4 : 240 ≤ b0 ∧ b0 ≤ 244
  · have e := wide4 c4
    rw [off4 e] at h
    split at h
    · rename_i hs
      split at h
      · rename_i ht
        split at h
        · rename_i hu
          have h1 := st_one hs.2
          have h2 := (st_else (.inl (by omega))).1 ht.2
          have h3 := (st_else (.inl (by omega))).1 hu.2
          have v : b0 % 8 * 262144 + b1 % 64 * 4096 + b2 % 64 * 64 + b3 % 64 = ((b0 % 8 * 64 + b1 % 64) * 64 + b2 % 64) * 64 + b3 % 64 := by omega
          rw [dn4 (by omega), if_pos ⟨⟨hs.1, by omega⟩, ⟨ht.1, by omega⟩, hu.1, by omega⟩, if_pos (by clear v; omega), e, v]
          unfold runeN
          rw [if_neg (by omega), if_neg (by omega), if_neg (by omega)]
        · cases h
      · cases h
    · cases h
  · rw [off0 (wide0 (by omega))] at h
    cases h
theorem dec_bad {n b0 b1 b2 b3 k : Nat} (h0 : b0 < 256) (h1 : b1 < 256) (h2 : b2 < 256) (h3 : b3 < 256) (h : offN n b0 b1 b2 b3 = some k) : decodeN n b0 b1 b2 b3 = (65533, 1) := by
  by_cases c1 : b0 < 128
  · rw [off1 (wide1 c1)] at h; cases h
  by_cases c2 : 194 ≤ b0 ∧ b0 ≤ 223
  · rw [off2 (wide2 c2)] at h
    split at h
    · cases h
    · rename_i hs
      rw [dn2 (by omega), if_neg (fun x => hs ⟨x.1, (st_else (.inr (by omega))).2 (by omega)⟩)]
  by_cases c3 : 224 ≤ b0 ∧ b0 ≤ 239
  · rw [off3 (wide3 c3)] at h
    rw [dn3 (by omega)]
    split
    · rename_i x
      split at h
      · rename_i hs
        split at h
        · cases h
        · rename_i ht
          exact absurd ⟨x.2.1, (st_else (.inl (by omega))).2 (by omega)⟩ ht
      · rename_i hs
        have := st_not (fun y => hs ⟨x.1.1, y⟩)
        rw [if_neg (by omega)]
    · rfl
  by_cases c4 : 240 ≤ b0 ∧ b0 ≤ 244
  · rw [off4 (wide4 c4)] at h
    rw [dn4 (by omega)]
    split
    · rename_i x
      split at h
      · rename_i hs
        split at h
        · rename_i ht
          split at h
          · cases h
          · rename_i hu
            exact absurd ⟨x.2.2.1, (st_else (.inl (by omega))).2 (by omega)⟩ hu
        · rename_i ht
          exact absurd ⟨x.2.1.1, (st_else (.inl (by omega))).2 (by omega)⟩ ht
      · rename_i hs
        have := st_not (fun y => hs ⟨x.1.1, y⟩)
        rw [if_neg (by omega)]
    · rfl
  · by_cases c5 : 192 ≤ b0 ∧ b0 < 194
    · rw [dn2 (by omega)]
      split
      · rw [if_neg (by omega)]
      · rfl
    by_cases c6 : 245 ≤ b0 ∧ b0 ≤ 247
    · rw [dn4 (by omega)]
      split
      · rw [if_neg (by omega)]
      · rfl
    · exact dn0 (by omega)

/-! ### a text -/
def B (s : ByteArray) (i : Nat) : Nat := (s.get! i).toNat
theorem B_lt (s : ByteArray) (i : Nat) : B s i < 256 := (s.get! i).toNat_lt
def offAt (s : ByteArray) (i : Nat) : Option Nat := offN (s.size - i) (B s i) (B s (i + 1)) (B s (i + 2)) (B s (i + 3))
def runeAt (s : ByteArray) (i : Nat) : Nat := runeN (B s i) (B s (i + 1)) (B s (i + 2)) (B s (i + 3))
def wideAt (s : ByteArray) (i : Nat) : Nat := wideN (B s i)
theorem decode_good {s : ByteArray} {i : Nat} (h : offAt s i = none) : Utf8.decode s i = (runeAt s i, wideAt s i) := (decode_at s i).trans (dec_good h)
theorem decode_bad {s : ByteArray} {i k : Nat} (h : offAt s i = some k) : Utf8.decode s i = (65533, 1) := (decode_at s i).trans (dec_bad (B_lt _ _) (B_lt _ _) (B_lt _ _) (B_lt _ _) h)
theorem wide_le (b : Nat) : wideN b ≤ 4 := by
  unfold wideN
  repeat' split
  all_goals omega
theorem good_wide {n b0 b1 b2 b3 : Nat} (hn : 1 ≤ n) (h : offN n b0 b1 b2 b3 = none) : 1 ≤ wideN b0 ∧ wideN b0 ≤ n := by
  have hw := wide_le b0
  obtain e | e | e | e | e : wideN b0 = 0 ∨ wideN b0 = 1 ∨ wideN b0 = 2 ∨ wideN b0 = 3 ∨ wideN b0 = 4 := by omega
  · rw [off0 e] at h; cases h
  · omega
  · rw [off2 e] at h
    split at h
    · rename_i x; omega
    · cases h
  · rw [off3 e] at h
    repeat' split at h
    all_goals first | (cases h; done) | omega
  · rw [off4 e] at h
    repeat' split at h
    all_goals first | (cases h; done) | omega

theorem wide_one {b : Nat} (h : wideN b = 1) : b < 128 := by
  unfold wideN at h
  repeat' split at h
  all_goals first | assumption | omega
/-- A rune that reads as the mark of an error, and is none, has three bytes. -/
theorem rune_mark {n b0 b1 b2 b3 : Nat} (h : offN n b0 b1 b2 b3 = none) (hr : runeN b0 b1 b2 b3 = 65533) : wideN b0 ≠ 1 := by
  intro e
  have := wide_one e
  unfold runeN at hr
  rw [if_pos this] at hr
  omega
theorem get_past (s : ByteArray) (j : Nat) (h : ¬ j < s.size) : s.get! j = default := by
  show s.data[j]! = default
  exact getElem!_neg s.data j h
theorem get_in (s : ByteArray) (j : Nat) (h : j < s.size) : s.get! j = s[j] := by
  show s.data[j]! = _
  exact getElem!_pos s.data j h
theorem get_ext (s : ByteArray) (a j : Nat) : (s.extract a s.size).get! j = s.get! (a + j) := by
  by_cases h : a + j < s.size
  · have h1 : j < (s.extract a s.size).size := by simp [ByteArray.size_extract]; omega
    rw [get_in _ _ h1, get_in _ _ h]
    exact ByteArray.getElem_extract ..
  · rw [get_past _ _ h, get_past _ _ (by simp [ByteArray.size_extract]; omega)]
theorem off_ext (s : ByteArray) (a i : Nat) : offAt (s.extract a s.size) i = offAt s (a + i) := by
  unfold offAt B
  rw [get_ext, get_ext, get_ext, get_ext]
  have e : (s.extract a s.size).size - i = s.size - (a + i) := by simp [ByteArray.size_extract]; omega
  rw [e]
  rfl

/-- The offset that is told is the first that can't stand. -/
theorem off_some {n b0 b1 b2 b3 k : Nat} (h : offN n b0 b1 b2 b3 = some k) : (wideN b0 = 0 ∧ k = 0) ∨ (1 ≤ k ∧ k < wideN b0 ∧ (1 < k → 1 < n ∧ stN b0 1 b1) ∧ (2 < k → 2 < n ∧ stN b0 2 b2) ∧ (k = 1 → ¬ (1 < n ∧ stN b0 1 b1)) ∧ (k = 2 → ¬ (2 < n ∧ stN b0 2 b2)) ∧ (k = 3 → ¬ (3 < n ∧ stN b0 3 b3))) := by
  have hw := wide_le b0
  obtain e | e | e | e | e : wideN b0 = 0 ∨ wideN b0 = 1 ∨ wideN b0 = 2 ∨ wideN b0 = 3 ∨ wideN b0 = 4 := by omega
  · rw [off0 e] at h; cases h; exact .inl ⟨e, rfl⟩
  · rw [off1 e] at h; cases h
  · rw [off2 e] at h
    split at h
    · cases h
    · rename_i x
      cases h
      exact .inr ⟨by omega, by omega, fun y => by omega, fun y => by omega, fun _ => x, fun y => by omega, fun y => by omega⟩
  · rw [off3 e] at h
    split at h
    · rename_i x
      split at h
      · cases h
      · rename_i y
        cases h
        exact .inr ⟨by omega, by omega, fun _ => x, fun z => by omega, fun z => by omega, fun _ => y, fun z => by omega⟩
    · rename_i x
      cases h
      exact .inr ⟨by omega, by omega, fun y => by omega, fun y => by omega, fun _ => x, fun y => by omega, fun y => by omega⟩
  · rw [off4 e] at h
    split at h
    · rename_i x
      split at h
      · rename_i y
        split at h
        · cases h
        · rename_i z
          cases h
          exact .inr ⟨by omega, by omega, fun _ => x, fun _ => y, fun t => by omega, fun t => by omega, fun _ => z⟩
      · rename_i y
        cases h
        exact .inr ⟨by omega, by omega, fun _ => x, fun z => by omega, fun z => by omega, fun _ => y, fun z => by omega⟩
    · rename_i x
      cases h
      exact .inr ⟨by omega, by omega, fun y => by omega, fun y => by omega, fun _ => x, fun y => by omega, fun y => by omega⟩
theorem off_none {n b0 b1 b2 b3 : Nat} (h : offN n b0 b1 b2 b3 = none) : 1 ≤ wideN b0 ∧ (1 < wideN b0 → 1 < n ∧ stN b0 1 b1) ∧ (2 < wideN b0 → 2 < n ∧ stN b0 2 b2) ∧ (3 < wideN b0 → 3 < n ∧ stN b0 3 b3) := by
  have hw := wide_le b0
  obtain e | e | e | e | e : wideN b0 = 0 ∨ wideN b0 = 1 ∨ wideN b0 = 2 ∨ wideN b0 = 3 ∨ wideN b0 = 4 := by omega
  · rw [off0 e] at h; cases h
  · exact ⟨by omega, fun y => by omega, fun y => by omega, fun y => by omega⟩
  · rw [off2 e] at h
    split at h
    · rename_i x
      exact ⟨by omega, fun _ => x, fun y => by omega, fun y => by omega⟩
    · cases h
  · rw [off3 e] at h
    split at h
    · rename_i x
      split at h
      · rename_i y
        exact ⟨by omega, fun _ => x, fun _ => y, fun y => by omega⟩
      · cases h
    · cases h
  · rw [off4 e] at h
    split at h
    · rename_i x
      split at h
      · rename_i y
        split at h
        · rename_i z
          exact ⟨by omega, fun _ => x, fun _ => y, fun _ => z⟩
        · cases h
      · cases h
    · cases h
/-- The m-th byte behind a first one stands. -/
def Stands (s : ByteArray) (i m : Nat) : Prop := i + m < s.size ∧ stN (B s i) m (B s (i + m))
theorem at_some {s : ByteArray} {i k : Nat} (h : offAt s i = some k) : (wideAt s i = 0 ∧ k = 0) ∨ (1 ≤ k ∧ k < wideAt s i ∧ (∀ m, 1 ≤ m → m < k → Stands s i m) ∧ ¬ Stands s i k) := by
  have hw := wide_le (B s i)
  rcases off_some h with h | ⟨h1, h2, a1, a2, c1, c2, c3⟩
  · exact .inl h
  · refine .inr ⟨h1, h2, fun m m1 m2 => ?_, fun hk => ?_⟩
    · obtain rfl | rfl : m = 1 ∨ m = 2 := by omega
      · have := a1 m2; exact ⟨by omega, this.2⟩
      · have := a2 m2; exact ⟨by omega, this.2⟩
    · have hk1 := hk.1
      obtain rfl | rfl | rfl : k = 1 ∨ k = 2 ∨ k = 3 := by omega
      · exact c1 rfl ⟨by omega, hk.2⟩
      · exact c2 rfl ⟨by omega, hk.2⟩
      · exact c3 rfl ⟨by omega, hk.2⟩
theorem at_none {s : ByteArray} {i : Nat} (h : offAt s i = none) : 1 ≤ wideAt s i ∧ wideAt s i ≤ 4 ∧ ∀ m, 1 ≤ m → m < wideAt s i → Stands s i m := by
  have hw := wide_le (B s i)
  obtain ⟨h1, a1, a2, a3⟩ := off_none h
  refine ⟨h1, hw, fun m m1 m2 => ?_⟩
  unfold wideAt at m2
  obtain rfl | rfl | rfl : m = 1 ∨ m = 2 ∨ m = 3 := by omega
  · have := a1 m2; exact ⟨by omega, this.2⟩
  · have := a2 m2; exact ⟨by omega, this.2⟩
  · have := a3 m2; exact ⟨by omega, this.2⟩

/-- The runes from a place on, with their places; the place of the byte that can't stand, and of the rune that it breaks. -/
def runesF : Nat → ByteArray → Nat → List (Nat × Nat)
  | 0, _, _ => []
  | f + 1, s, i => if i < s.size then (match offAt s i with | none => (i, runeAt s i) :: runesF f s (i + wideAt s i) | some _ => []) else []
def badF : Nat → ByteArray → Nat → Option (Nat × Nat)
  | 0, _, _ => none
  | f + 1, s, i => if i < s.size then (match offAt s i with | none => badF f s (i + wideAt s i) | some k => some (i, k)) else none
def runesFrom (s : ByteArray) (i : Nat) : List (Nat × Nat) := runesF (s.size - i) s i
def badFrom (s : ByteArray) (i : Nat) : Option (Nat × Nat) := badF (s.size - i) s i
theorem at_wide {s : ByteArray} {i : Nat} (hi : i < s.size) (h : offAt s i = none) : 1 ≤ wideAt s i ∧ i + wideAt s i ≤ s.size := by
  have := good_wide (by omega) h
  unfold wideAt
  omega
theorem runesF_fuel : ∀ (f g : Nat) (s : ByteArray) (i : Nat), s.size - i ≤ f → s.size - i ≤ g → runesF f s i = runesF g s i := by
  intro f
  induction f with
  | zero =>
    intro g s i h1 h2
    cases g with
    | zero => rfl
    | succ g => unfold runesF; rw [if_neg (by omega)]
  | succ f ih =>
    intro g s i h1 h2
    cases g with
    | zero => unfold runesF; rw [if_neg (by omega)]
    | succ g =>
      unfold runesF
      split
      · rename_i hi
        cases h : offAt s i with
        | none =>
          have := at_wide hi h
          simp only
          rw [ih g s (i + wideAt s i) (by omega) (by omega)]
        | some k => rfl
      · rfl
theorem badF_fuel : ∀ (f g : Nat) (s : ByteArray) (i : Nat), s.size - i ≤ f → s.size - i ≤ g → badF f s i = badF g s i := by
  intro f
  induction f with
  | zero =>
    intro g s i h1 h2
    cases g with
    | zero => rfl
    | succ g => unfold badF; rw [if_neg (by omega)]
  | succ f ih =>
    intro g s i h1 h2
    cases g with
    | zero => unfold badF; rw [if_neg (by omega)]
    | succ g =>
      unfold badF
      split
      · rename_i hi
        cases h : offAt s i with
        | none =>
          have := at_wide hi h
          simp only
          rw [ih g s (i + wideAt s i) (by omega) (by omega)]
        | some k => rfl
      · rfl
theorem runes_end {s : ByteArray} {i : Nat} (h : ¬ i < s.size) : runesFrom s i = [] ∧ badFrom s i = none := by
  unfold runesFrom badFrom
  rw [show s.size - i = 0 by omega]
  exact ⟨rfl, rfl⟩
theorem runes_good {s : ByteArray} {i : Nat} (hi : i < s.size) (h : offAt s i = none) : runesFrom s i = (i, runeAt s i) :: runesFrom s (i + wideAt s i) ∧ badFrom s i = badFrom s (i + wideAt s i) := by
  have hw := at_wide hi h
  obtain ⟨n, hn⟩ : ∃ n, s.size - i = n + 1 := ⟨s.size - i - 1, by omega⟩
  constructor
  · unfold runesFrom
    rw [hn]
    conv => lhs; unfold runesF
    rw [if_pos hi, h]
    simp only
    rw [runesF_fuel n (s.size - (i + wideAt s i)) s _ (by omega) (by omega)]
  · unfold badFrom
    rw [hn]
    conv => lhs; unfold badF
    rw [if_pos hi, h]
    simp only
    exact badF_fuel n (s.size - (i + wideAt s i)) s _ (by omega) (by omega)
theorem runes_bad {s : ByteArray} {i k : Nat} (hi : i < s.size) (h : offAt s i = some k) : runesFrom s i = [] ∧ badFrom s i = some (i, k) := by
  obtain ⟨n, hn⟩ : ∃ n, s.size - i = n + 1 := ⟨s.size - i - 1, by omega⟩
  constructor
  · unfold runesFrom
    rw [hn]
    unfold runesF
    rw [if_pos hi, h]
  · unfold badFrom
    rw [hn]
    unfold badF
    rw [if_pos hi, h]

end Go.Proofs.YtlkoekcoafddpaaDoor
