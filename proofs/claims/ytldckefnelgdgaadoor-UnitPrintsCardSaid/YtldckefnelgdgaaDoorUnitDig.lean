/- Layer 8: how many digits a text begins with, by contracts. -/
import Derived.Test.YtldckefnelgdgaaDoorRow
import Derived.Laws.RangeAny
import Derived.Laws.Strings3
import Derived.Laws.Concat
import Derived.Outline
import Derived.LoopTactic
namespace Go.Proofs.YtldckefnelgdgaaDoor
open Go.RowKit
set_option linter.unusedSimpArgs false
set_option linter.unusedVariables false

def isDg (c : UInt8) : Bool := decide (48 ≤ c.toNat ∧ c.toNat ≤ 57)
/-- How many digits a text begins with. -/
def dgL : List UInt8 → Nat
  | [] => 0
  | c :: r => if isDg c = true then dgL r + 1 else 0

theorem dgL_le : ∀ l : List UInt8, dgL l ≤ l.length
  | [] => Nat.le_refl _
  | c :: r => by
    have := dgL_le r
    unfold dgL
    split <;> simp <;> omega
theorem dgL_at {l : List UInt8} {k : Nat} {c : UInt8} (h : l[k]? = some c) : dgL (l.drop k) = if isDg c = true then dgL (l.drop (k + 1)) + 1 else 0 := by
  have hlt := (List.getElem?_eq_some_iff.1 h).1
  rw [List.drop_eq_getElem_cons hlt]
  have e : l[k] = c := (List.getElem?_eq_some_iff.1 h).2
  rw [e]
  rfl
theorem dgL_end {l : List UInt8} {k : Nat} (h : l.length ≤ k) : dgL (l.drop k) = 0 := by
  rw [List.drop_eq_nil_of_le h]; rfl

theorem bytes_at (s : ByteArray) (k : Nat) (h : k < s.size) : s.data.toList[k]? = some (s[k]'h) := by
  have h' : k < s.data.toList.length := by simpa using h
  rw [List.getElem?_eq_getElem h']
  rfl
theorem bytes_len (s : ByteArray) : s.data.toList.length = s.size := Array.length_toList

theorem cell_iter {w : World} (s : ByteArray) (p : Nat) : Keep [] w (w.iter s p) := (Keep.refl [] w).alloc _

set_option maxHeartbeats 1600000 in
theorem udigits_any (s : ByteArray) (w : World) (hs : s.size ≤ 9223372036854775807) : Calls Tryd.prog 22 #[.string s] w fun e w' => e = .returned (.int .i64 (dgL s.data.toList : Int)) ∧ Keep [] w w' := by
  obtain ⟨D, hD⟩ : ∃ D, D = dgL s.data.toList := ⟨_, rfl⟩
  have hl := bytes_len s
  rw [← hD]
  have HD := hid hD
  clear hD
  go_enter Tryd.func22, Tryd.ntmps22
  go_wp2
  go_loopw [3, 4] (fun _ _ w' => ∃ pos : Nat, w' = w.iter s pos ∧ pos ≤ s.size ∧ Hid (D = pos + dgL (s.data.toList.drop pos))) (fun _ _ w' => s.size - w'.iterPos w.heap.size)
  case atStart => exact ⟨0, rfl, Nat.zero_le _, hid (by rw [HD.out]; simp)⟩
  case round =>
    obtain ⟨pos, rfl, hp, HP⟩ := hrel
    by_cases hlt : pos < s.size
    · have hb := bytes_at s pos hlt
      have hg := dgL_at hb
      by_cases ha : (s[pos]'hlt).toNat < 128
      · have hnx : ∀ ty, (Instr.next (.pointer (some ⟨w.heap.size, 0, none⟩)) true ty).run Tryd.prog (w.iter s pos) = _ := fun ty => run_next_ascii w s pos ty hlt ha
        obtain ⟨c, hc⟩ : ∃ c, c = (s[pos]'hlt) := ⟨_, rfl⟩
        rw [← hc] at hnx hg ha
        obtain ⟨n, hn⟩ : ∃ n : Int, n = (c.toNat : Int) := ⟨_, rfl⟩
        rw [← hn] at hnx
        by_cases hdg : 48 ≤ n ∧ n ≤ 57
        · obtain ⟨h0, h1⟩ := hdg
          have HG := hid (hg.trans (if_pos (decide_eq_true (by omega))))
          clear hb hc hn hg
          go_wp2
          go_roundw
          case rel => exact ⟨pos + 1, rfl, by omega, hid (by rw [HP.out, HG.out]; omega)⟩
          case measure => simp; omega
        · have HG := hid (hg.trans (if_neg (by simp only [isDg, decide_eq_true_eq]; omega)))
          have key : n < 48 ∨ (48 ≤ n ∧ 57 < n) := by omega
          clear hb hc hn hg hdg
          rcases key with k1 | ⟨k1, k2⟩
          all_goals
            go_wp2
            go_ret
            exact ⟨by rw [HP.out, HG.out]; simp, cell_iter _ _⟩
      · have hnx : ∀ ty, (Instr.next (.pointer (some ⟨w.heap.size, 0, none⟩)) true ty).run Tryd.prog (w.iter s pos) = _ := fun ty => run_next_any w s pos ty hlt
        have hh := (decode_high s pos hlt (by omega)).1
        have HG := hid (hg.trans (if_neg (by simp only [isDg, decide_eq_true_eq]; omega)))
        generalize (Utf8.decode s pos).1 = n at *
        generalize (Utf8.decode s pos).2 = m at *
        have k1 : (48 : Int) ≤ (n : Int) := by omega
        have k2 : (57 : Int) < (n : Int) := by omega
        clear hb hg ha
        go_wp2
        go_ret
        exact ⟨by rw [HP.out, HG.out]; simp, cell_iter _ _⟩
    · have hnx : ∀ ty, (Instr.next (.pointer (some ⟨w.heap.size, 0, none⟩)) true ty).run Tryd.prog (w.iter s pos) = _ := fun ty => run_next_end w s pos ty hlt
      obtain rfl : pos = s.size := by omega
      have HE := hid (dgL_end (l := s.data.toList) (k := s.size) (by omega))
      go_wp2
      go_ret
      exact ⟨by rw [HP.out, HE.out]; rfl, cell_iter _ _⟩

set_option maxHeartbeats 1600000 in
theorem rdigits_any (s : ByteArray) (at_ : Nat) (w : World) (hs : s.size ≤ 2305843009213693952) (ha : at_ ≤ 2305843009213693952) : Calls Tryd.prog 20 #[.string s, .int .i64 (at_ : Int)] w fun e w' => e = .returned (.int .i64 (dgL (s.data.toList.drop at_) : Int)) ∧ w = w' := by
  obtain ⟨D, hD⟩ : ∃ D, D = dgL (s.data.toList.drop at_) := ⟨_, rfl⟩
  have hl := bytes_len s
  have hDl : D ≤ s.size := by have := dgL_le (s.data.toList.drop at_); rw [List.length_drop] at this; omega
  rw [← hD]
  have HD := hid hD
  clear hD
  go_enter Tryd.func20, Tryd.ntmps20
  go_wp2
  go_loop [5] (fun v => ∃ k : Nat, v = .int .i64 (k : Int) ∧ k ≤ D ∧ Hid (D = k + dgL (s.data.toList.drop (at_ + k)))) (fun v => D - (intOf v).toNat)
  case atStart => exact ⟨0, rfl, Nat.zero_le _, hid (by rw [HD.out]; simp)⟩
  case round =>
    obtain ⟨k, rfl, hk, HP⟩ := hrel
    by_cases hlt : at_ + k < s.size
    · have hb := bytes_at s (at_ + k) hlt
      have hg := dgL_at hb
      have hlt' : (at_ : Int) + (k : Int) < (s.size : Int) := by omega
      have ht : ((at_ : Int) + (k : Int)).toNat = at_ + k := by omega
      obtain ⟨n, hn⟩ : ∃ n : Int, ((s[at_ + k]'hlt).toNat : Int) = n := ⟨_, rfl⟩
      have n0 : 0 ≤ n := by omega
      have n1 : n ≤ 255 := by have := (s[at_ + k]'hlt).toNat_lt; omega
      by_cases hdg : 48 ≤ n ∧ n ≤ 57
      · obtain ⟨h0, h1⟩ := hdg
        have HG := hid (hg.trans (if_pos (decide_eq_true (by omega))))
        have hkD : k < D := by have := HP.out; have := HG.out; omega
        clear hb hg
        go_wp2
        go_round
        case rel => exact ⟨k + 1, by go_num, hkD, hid (by rw [HP.out, HG.out, Nat.add_assoc at_ k 1]; omega)⟩
        case measure => simp [intOf]; omega
      · have HG := hid (hg.trans (if_neg (by simp only [isDg, decide_eq_true_eq]; omega)))
        have key : n < 48 ∨ (48 ≤ n ∧ 57 < n) := by omega
        clear hb hg hdg
        rcases key with k1 | ⟨k1, k2⟩
        all_goals
          go_wp2
          go_ret
          exact ⟨by rw [HP.out, HG.out]; simp, rfl⟩
    · have HE := hid (dgL_end (l := s.data.toList) (k := at_ + k) (by omega))
      have hlt' : decide ((at_ : Int) + (k : Int) < (s.size : Int)) = false := decide_eq_false (by omega)
      go_wp2
      go_ret
      exact ⟨by rw [HP.out, HE.out]; rfl, rfl⟩

end Go.Proofs.YtldckefnelgdgaaDoor
