/- What the document's examples of layer 18 need. -/
import Derived.Test.YtgelccenbceeoaaCuts
import Derived.Test.YtgelccenbceeoaaLists
namespace Go.Proofs.Ytgelccenbceeoaa
open Go.RowKit
set_option linter.unusedSimpArgs false
set_option linter.unusedVariables false

def natRow (x : Nat) : List Value := [.int .i64 x]
def lineSlab (i k n : Nat) : Slab := ⟨i, k, 7, 2, 12, 0, 0, k, n⟩
def linesK (i n : Nat) : Nat → Nat → List Slab
  | _, 0 => []
  | k, c + 1 => lineSlab i k n :: linesK i n (k + 1) c
def linesOf : Nat → List Nat → List Slab
  | _, [] => []
  | i, n :: r => linesK i n 0 n ++ linesOf (i + 1) r

structure LineRel (w wr : World) (v : Value) (out : List Slab) : Prop where
  own : wr.ownsRow w.heap.size 51 9 v out.length (out.flatMap Slab.row)
  keep : Keep [] w wr

def LinesPost (L : List Slab) (w : World) (e : Ending) (w' : World) : Prop := ∃ v, e = .returned v ∧ LineRel w w' v L

set_option maxHeartbeats 3200000 in
set_option maxRecDepth 100000 in
theorem lines_any (A : Option Addr) (c : Nat) (many : List Nat) (w : World) (hr : Rd natRow 1 w A many) (hn : many.length ≤ 1000) (hsm : ∀ n ∈ many, n ≤ 1000) (hL : (linesOf 0 many).length ≤ 1000000) (N : Nat) (hN : many.length = N) :
    Calls Try.prog 61 #[.slice A N c] w fun e w' => LinesPost (linesOf 0 many) w e w' := by
  subst hN
  obtain ⟨ALL, hALL⟩ : ∃ ALL, ALL = linesOf 0 many := ⟨_, rfl⟩
  rw [← hALL] at hL ⊢
  have HALL := hid hALL
  clear hALL
  go_enter Try.func61, Try.ntmps61
  go_wp2_with fail
  have R0 : LineRel w (w.alloc (.cells #[] 51)) (.slice (some ⟨w.heap.size, 0, none⟩) 0 0) [] := ⟨World.ownsRow_lit w #[] 0 (Nat.le_refl _) (by simp [maxLen]) rfl, (Keep.refl _ _).alloc _⟩
  go_loopw [4, 3] (fun vi vo wr => ∃ (i : Nat) (out : List Slab), i ≤ many.length ∧ vi = .int .i64 i ∧ Hid (ALL = out ++ linesOf i (many.drop i)) ∧ LineRel w wr vo out) (fun vi _ _ => many.length - (intOf vi).toNat)
  case atStart => exact ⟨0, [], Nat.zero_le _, rfl, hid (by rw [HALL.out]; rfl), R0⟩
  case round =>
    clear R0
    obtain ⟨i, out, hi, rfl, HA, C⟩ := hrel
    by_cases hlt : i < many.length
    · obtain ⟨n, hni⟩ : ∃ n, many[i]? = some n := ⟨many[i], List.getElem?_eq_getElem hlt⟩
      have hnm := hsm n (List.mem_of_getElem? hni)
      have hd : many.drop i = n :: many.drop (i + 1) := by rw [List.drop_eq_getElem_cons hlt]; rw [List.getElem?_eq_getElem hlt] at hni; rw [Option.some.inj hni]
      have HA2 : Hid (ALL = out ++ (linesK i n 0 (n - 0) ++ linesOf (i + 1) (many.drop (i + 1)))) := by
        have h := HA.out
        rw [hd] at h
        exact hid h
      have HNI := hid hni
      clear hni hd HA
      go_wp2_with fail
      go_loopw [5, 3] (fun vk vo wi => ∃ (k : Nat) (out' : List Slab), k ≤ n ∧ vk = .int .i64 k ∧ Hid (ALL = out' ++ (linesK i n k (n - k) ++ linesOf (i + 1) (many.drop (i + 1)))) ∧ LineRel w wi vo out') (fun vk _ _ => n - (intOf vk).toNat)
      case atStart => exact ⟨0, out, Nat.zero_le _, rfl, HA2, C⟩
      case round =>
        clear C HA2
        obtain ⟨k, out', hk, rfl, HA3, C⟩ := hrel
        obtain ⟨ad, hA, hcs⟩ := hr.old C.keep (by simp) i n HNI.out
        subst hA
        have f0 := hcs 0 _ rfl
        rw [Nat.add_zero, Nat.mul_one] at f0
        clear hcs
        by_cases hlt2 : k < n
        · have HA4 : Hid (ALL = (out' ++ [lineSlab i k n]) ++ (linesK i n (k + 1) (n - (k + 1)) ++ linesOf (i + 1) (many.drop (i + 1)))) := by
            have h := HA3.out
            rw [show n - k = n - (k + 1) + 1 by omega, linesK] at h
            show ALL = _
            rw [h]
            simp
          have hol : (out'.length + 1) * 72 ≤ 140737488355328 := by have := congrArg List.length HA4.out; simp at this; omega
          clear HA3
          go_wp2_with (at_builtin; (refine append_cells rfl _ _ 49 (.agg #[.int .i64 0, .int .i64 0, .int .i64 0, .int .i64 0, .int .i64 0, .int .i64 0, .int .i64 0, .int .i64 0, .int .i64 0]) 9 72 rfl (by kernel_rfl) (by kernel_rfl) (by kernel_rfl) (by decide) (by decide) w.heap.size u3 out'.length _ rfl rfl (by simp) rfl (by simp [Value.oneCell']) C.own C.keep.size hol ?_; rintro v1 w9 hown hgr))
          have C9 : LineRel w w9 v1 (out' ++ [lineSlab i k n]) := ⟨by simpa [lineSlab, Slab.row] using hown, Keep.grown (C.keep.alloc _) hgr (fun b hb => .inr (own_base C.own b hb).1)⟩
          go_wp2
          go_roundw
          case rel => exact ⟨k + 1, _, hlt2, by go_num, HA4, C9⟩
          case measure => simp [intOf]; omega
        · obtain rfl : k = n := by omega
          have HA5 : Hid (ALL = out' ++ linesOf (i + 1) (many.drop (i + 1))) := by
            have h := HA3.out
            rw [Nat.sub_self] at h
            exact hid h
          clear HA3
          go_wp2
          go_roundw
          case rel => exact ⟨i + 1, _, hlt, by go_num, HA5, C⟩
          case measure => simp [intOf]; omega
    · obtain rfl : i = many.length := by omega
      have HF : Hid (ALL = out) := by
        have h := HA.out
        rw [List.drop_length] at h
        exact hid (by simpa [linesOf] using h)
      clear HA
      go_wp2
      go_ret
      exact ⟨_, rfl, by rw [HF.out]; exact C⟩

theorem great_any (w : World) : Calls Try.prog 43 #[] w fun e w' => e = .returned (.pointer (some ⟨w.heap.size, 0, none⟩)) ∧ IsM w' w.heap.size (MS.new 1152921504606846976 1152921504606846976) ∧ Keep [] w w' ∧ w'.heap.size = w.heap.size + 1 := by
  go_enter Try.func43, Try.ntmps43
  go_wp2_with fail
  refine (new_good 1152921504606846976 1152921504606846976 _ (by omega) (by omega)).mono ?_
  rintro e w0 ⟨rfl, hM0, hK0, hs0⟩
  go_wp2
  go_ret
  exact ⟨rfl, hM0, hK0, hs0⟩

set_option maxHeartbeats 1600000 in
set_option maxRecDepth 100000 in
theorem same_same (A B : Option Addr) (n m c d : Nat) (l : List CutX) (w : World) (hn : l.length = n) (hm : l.length = m) (hr : Rd CutX.row 4 w A l) (hs : Rd CutX.row 4 w B l) (hl : l.length ≤ 1099511627776) :
    Calls Try.prog 46 #[.slice A n c, .slice B m d] w fun e w' => e = .returned (.bool true) ∧ Keep [] w w' := by
  subst hn hm
  go_enter Try.func46, Try.ntmps46
  go_wp2_with fail
  go_loopw [5] (fun vi wr => ∃ i : Nat, i ≤ l.length ∧ vi = .int .i64 i ∧ Keep [] w wr) (fun vi _ => l.length - (intOf vi).toNat)
  case atStart => exact ⟨0, Nat.zero_le _, rfl, Keep.refl _ _⟩
  case round =>
    obtain ⟨i, hi, rfl, K⟩ := hrel
    by_cases hlt : i < l.length
    · obtain ⟨y, hy⟩ : ∃ y, l[i]? = some y := ⟨l[i], List.getElem?_eq_getElem hlt⟩
      obtain ⟨ad, hA, hcs⟩ := hr.old K (by simp) i y hy
      obtain ⟨bd, hB, hds⟩ := hs.old K (by simp) i y hy
      subst hA hB
      have d0 := hcs 0 _ rfl
      have d1 := hcs 1 _ rfl
      have d2 := hcs 2 _ rfl
      have d3 := hcs 3 _ rfl
      have e0 := hds 0 _ rfl
      have e1 := hds 1 _ rfl
      have e2 := hds 2 _ rfl
      have e3 := hds 3 _ rfl
      rw [add_at _ _ _ (by omega)] at d1 d2 d3 e1 e2 e3
      rw [Nat.add_zero] at d0 e0
      clear hcs hds hy
      go_upto_region 6 with (fail)
      go_quiet (fail)
      go_wp2
      go_roundw
      case rel => exact ⟨i + 1, hlt, by go_num, K.drewN _⟩
      case measure => simp [intOf]; omega
    · obtain rfl : i = l.length := by omega
      go_wp2
      go_ret
      exact ⟨rfl, K⟩

end Go.Proofs.Ytgelccenbceeoaa
