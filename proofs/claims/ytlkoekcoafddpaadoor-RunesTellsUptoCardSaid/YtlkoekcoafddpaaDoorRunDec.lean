/- Runes: broken, second, stands by contracts. -/
import Derived.Test.YtlkoekcoafddpaaDoorRow
import Derived.Test.YtlkoekcoafddpaaDoorRunLaw
import Derived.Test.YtlkoekcoafddpaaDoorShelf
import Derived.OwnWalk
namespace Go.Proofs.YtlkoekcoafddpaaDoor
open Go.RowKit
set_option linter.unusedSimpArgs false
set_option linter.unusedVariables false

/-- The library's tables lie there. -/
def Tabs (w : World) : Prop := Lib.Utf8Tabs 0 1 w
theorem Tabs.keep {w w' : World} (h : Tabs w) (k : Keep [] w w') : Tabs w' :=
  ⟨fun c hc => k.cell' (h.1 c hc) (by simp), fun i hi => ⟨k.cell' (h.2 i hi).1 (by simp), k.cell' (h.2 i hi).2 (by simp)⟩⟩
theorem decode_any (s : ByteArray) (w : World) (T : Tabs w) : Calls Tryd.prog 30 #[.string s] w fun e w' => e = .returned (.tuple #[.int .i32 (Lib.decodeGo s).1, .int .i64 (Lib.decodeGo s).2]) ∧ Keep [] w w' :=
  (Tryd.utf8_DecodeRuneInString s w T).mono fun e w' h => ⟨h.1, Keep.of_below h.2 []⟩
theorem decodeGo_ext {s : ByteArray} {i : Nat} (h : i < s.size) : Lib.decodeGo (s.extract i s.size) = Utf8.decode s i := by
  unfold Lib.decodeGo
  rw [if_neg (by simp [ByteArray.size_extract]; omega), Lib.decode_at, Lib.decode_at, get_ext, get_ext, get_ext, get_ext]
  have e : (s.extract i s.size).size - 0 = s.size - i := by simp [ByteArray.size_extract]
  rw [e]
  rfl
theorem bad_mark {s : ByteArray} {i : Nat} (h : (Utf8.decode s i).1 ≠ 65533) : (offAt s i).isSome = false := by
  cases e : offAt s i with
  | none => rfl
  | some k => rw [decode_bad e] at h; exact absurd rfl h
theorem bad_width {s : ByteArray} {i : Nat} (h : (Utf8.decode s i).1 = 65533) : decide ((Utf8.decode s i).2 = 1) = (offAt s i).isSome := by
  cases e : offAt s i with
  | none =>
    rw [decode_good e] at h ⊢
    have := rune_mark e h
    exact decide_eq_false (by simpa [wideAt] using this)
  | some k => rw [decode_bad e]; rfl

set_option maxRecDepth 100000 in
theorem broken_any (s : ByteArray) (i : Nat) (h : i < s.size) (hs : s.size ≤ 9223372036854775807) (w : World) (T : Tabs w) : Calls Tryd.prog 27 #[.string s, .int .i64 (i : Int), .int .i32 ((Utf8.decode s i).1 : Int)] w fun e w' =>
    e = .returned (.bool (offAt s i).isSome) ∧ Keep [] w w' := by
  have hle := decode_le s i
  by_cases hr : (Utf8.decode s i).1 = 65533
  · have hb := bad_width hr
    have hd := decode_any (s.extract i s.size) w T
    rw [decodeGo_ext h] at hd
    obtain ⟨b, hbb⟩ : ∃ b, (offAt s i).isSome = b := ⟨_, rfl⟩
    rw [hr] at hd ⊢
    rw [hbb] at hb ⊢
    obtain ⟨n, hn⟩ : ∃ n, (Utf8.decode s i).2 = n := ⟨_, rfl⟩
    rw [hn] at hb hd
    have hb' : ((n : Int) == 1) = b := by rw [← hb]; by_cases e : n = 1 <;> simp [e]; omega
    clear hb hbb hr hn
    go_enter Tryd.func27, Tryd.ntmps27
    go_wp2_with fail
    refine hd.mono ?_
    rintro e w1 ⟨rfl, K1⟩
    go_wp2
    go_ret
    exact ⟨rfl, K1⟩
  · rw [bad_mark hr]
    obtain ⟨r, hrr⟩ : ∃ r, (Utf8.decode s i).1 = r := ⟨_, rfl⟩
    rw [hrr] at hr hle ⊢
    have hne : ((r : Int) != 65533) = true := by simp; omega
    clear hrr hr
    go_enter Tryd.func27, Tryd.ntmps27
    go_wp2
    go_ret
    exact ⟨rfl, Keep.refl _ _⟩

/-- What may stand behind a first byte. -/
def secW (b : Nat) : Nat := if 194 ≤ b ∧ b ≤ 223 then 2 else if b = 224 then 3 else if b = 237 then 3 else if 225 ≤ b ∧ b ≤ 239 then 3 else if b = 240 then 4 else if b = 244 then 4 else if 241 ≤ b ∧ b ≤ 243 then 4 else 0
def secL (b : Nat) : Nat := if 194 ≤ b ∧ b ≤ 223 then 128 else if b = 224 then 160 else if b = 237 then 128 else if 225 ≤ b ∧ b ≤ 239 then 128 else if b = 240 then 144 else if b = 244 then 128 else if 241 ≤ b ∧ b ≤ 243 then 128 else 0
def secH (b : Nat) : Nat := if 194 ≤ b ∧ b ≤ 223 then 191 else if b = 224 then 191 else if b = 237 then 159 else if 225 ≤ b ∧ b ≤ 239 then 191 else if b = 240 then 191 else if b = 244 then 143 else if 241 ≤ b ∧ b ≤ 243 then 191 else 0
set_option maxRecDepth 100000 in
set_option maxHeartbeats 2000000 in
theorem second_any (b : Nat) (h : b < 256) (w : World) : Calls Tryd.prog 31 #[.int .u8 (b : Int)] w fun e w' => e = .returned (.tuple #[.int .i64 (secW b), .int .u8 (secL b), .int .u8 (secH b)]) ∧ w' = w := by
  go_enter Tryd.func31, Tryd.ntmps31
  go_wp2
  all_goals ((try simp only [beq_iff_eq, beq_eq_false_iff_ne, ne_eq] at *); go_ret3; refine ⟨?_, rfl⟩; unfold secW secL secH; (repeat' split) <;> first | rfl | (exfalso; omega))

theorem sec_wide {b : Nat} (h : 194 ≤ b ∨ wideN b = 0) : secW b = wideN b := by
  rcases classes b with hb | hb | hb | hb | hb | hb | hb | hb | hb | hb
  · rw [wide1 hb] at h; omega
  · rw [wide0 (.inl hb)]; unfold secW; simp only [show ¬ (194 ≤ b ∧ b ≤ 223) by omega, show ¬ b = 224 by omega, show ¬ b = 237 by omega, show ¬ (225 ≤ b ∧ b ≤ 239) by omega, show ¬ b = 240 by omega, show ¬ b = 244 by omega, show ¬ (241 ≤ b ∧ b ≤ 243) by omega, if_false]
  · rw [wide2 hb]; unfold secW; rw [if_pos hb]
  · rw [wide3 (by omega)]; subst hb; rfl
  · rw [wide3 (by omega)]; unfold secW; simp only [show ¬ (194 ≤ b ∧ b ≤ 223) by omega, show ¬ b = 224 by omega, show ¬ b = 237 by omega, show (225 ≤ b ∧ b ≤ 239) by omega, if_false, and_self, if_true]
  · rw [wide3 (by omega)]; subst hb; rfl
  · rw [wide4 (by omega)]; subst hb; rfl
  · rw [wide4 (by omega)]; unfold secW; simp only [show ¬ (194 ≤ b ∧ b ≤ 223) by omega, show ¬ b = 224 by omega, show ¬ b = 237 by omega, show ¬ (225 ≤ b ∧ b ≤ 239) by omega, show ¬ b = 240 by omega, show ¬ b = 244 by omega, show (241 ≤ b ∧ b ≤ 243) by omega, if_false, and_self, if_true]
  · rw [wide4 (by omega)]; subst hb; rfl
  · rw [wide0 (.inr hb)]; unfold secW; simp only [show ¬ (194 ≤ b ∧ b ≤ 223) by omega, show ¬ b = 224 by omega, show ¬ b = 237 by omega, show ¬ (225 ≤ b ∧ b ≤ 239) by omega, show ¬ b = 240 by omega, show ¬ b = 244 by omega, show ¬ (241 ≤ b ∧ b ≤ 243) by omega, if_false]
theorem sec_lo {b : Nat} (h : 1 < wideN b) : secL b = loN b 1 ∧ secH b = hiN b 1 := by
  rcases classes b with hb | hb | hb | hb | hb | hb | hb | hb | hb | hb
  · rw [wide1 hb] at h; omega
  · rw [wide0 (.inl hb)] at h; omega
  · unfold secL secH loN hiN; simp only [hb, show ¬ b = 224 by omega, show ¬ b = 237 by omega, show ¬ b = 240 by omega, show ¬ b = 244 by omega, and_false, and_self, if_true, if_false]
  · subst hb; exact ⟨rfl, rfl⟩
  · unfold secL secH loN hiN; simp only [show ¬ (194 ≤ b ∧ b ≤ 223) by omega, show (225 ≤ b ∧ b ≤ 239) by omega, show ¬ b = 224 by omega, show ¬ b = 237 by omega, show ¬ b = 240 by omega, show ¬ b = 244 by omega, and_false, and_self, if_true, if_false]
  · subst hb; exact ⟨rfl, rfl⟩
  · subst hb; exact ⟨rfl, rfl⟩
  · unfold secL secH loN hiN; simp only [show ¬ (194 ≤ b ∧ b ≤ 223) by omega, show ¬ (225 ≤ b ∧ b ≤ 239) by omega, show (241 ≤ b ∧ b ≤ 243) by omega, show ¬ b = 224 by omega, show ¬ b = 237 by omega, show ¬ b = 240 by omega, show ¬ b = 244 by omega, and_false, and_self, if_true, if_false]
  · subst hb; exact ⟨rfl, rfl⟩
  · rw [wide0 (.inr hb)] at h; omega
theorem lo_two {b m : Nat} (h : 2 ≤ m) : loN b m = 128 ∧ hiN b m = 191 := by
  unfold loN hiN
  rw [if_neg (by omega), if_neg (by omega), if_neg (by omega), if_neg (by omega)]
  exact ⟨rfl, rfl⟩

end Go.Proofs.YtlkoekcoafddpaaDoor
