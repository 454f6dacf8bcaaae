/- The document's examples of layer 18. -/
import Derived.Test.YtgelccenbceeoaaEx18
namespace Go.Proofs.Ytgelccenbceeoaa
open Go.RowKit
set_option linter.unusedSimpArgs false
set_option linter.unusedVariables false

def OwnPost (g n : Nat) (cs : List CutX) (w : World) (e : Ending) (w' : World) : Prop :=
  ∃ (A : Option Addr) (cap : Nat), e = .returned (.tuple #[.slice A n cap, .agg #[.int .i64 0, .int .i64 0]]) ∧ Rd CutX.row 4 w' A cs ∧ Keep [g] w w'

theorem cuts_own {w1 w : World} {v : Value} {L : List Slab} {g : Nat} {m0 : MS} {h : Int} {cs : List CutX} {n : Nat} (C : LineRel w1 w v L) (hg : IsM w g m0) (ok : m0.ok) (hgl : g < w1.heap.size) (hL : L.length ≤ 1099511627776) (hof : OfIn L) (h1 : 1 ≤ h) (h2 : h ≤ 536870912)
    (r1 : (cutsAll L h m0).1 = true) (r2 : (cutsAll L h m0).2.1 = cs) (hn : cs.length = n) :
    ∃ (A : Option Addr) (cap : Nat), v = .slice A L.length cap ∧ Calls Try.prog 44 #[.pointer (some ⟨g, 0, none⟩), .slice A L.length cap, .int .i64 h] w fun e w' => OwnPost g n cs w e w' := by
  subst hn
  obtain ⟨A, cap, rfl, hc, hr, hA⟩ := own_rd (enc := Slab.row) (fun _ => rfl) C.own
  refine ⟨A, cap, rfl, (cuts_any g m0 A cap L h w hg ok (fun W K => hr.keep K (fun ad e hm => ?_)) hL hc hof h1 h2 _ rfl).mono ?_⟩
  · obtain ⟨g', cur, rfl, hb, _⟩ := hA ad e
    simp at hm
    omega
  · rintro e w' ⟨v', he, O, M', K'⟩
    rw [if_pos r1] at he O
    rw [r2] at O
    obtain ⟨A', cap', rfl, hc', hr', _⟩ := own_rd (enc := CutX.row) (fun _ => rfl) O
    exact ⟨A', cap', he, hr', K'⟩

def big18 : MS := MS.new 1152921504606846976 1152921504606846976
theorem big18_ok : big18.ok := by simp [MS.ok, big18, MS.new]

theorem nat_block {W : World} {vs : Array Value} (xs : List Nat) (h : vs = (xs.flatMap natRow).toArray) : Rd natRow 1 (W.alloc (.cells vs 3)) (some ⟨W.heap.size, 0, none⟩) xs := by
  subst h
  exact Rd.of_block (blk_new _ _) (fun i x j v hx hv => by simpa using flat_get (enc := natRow) (sz := 1) (fun _ => rfl) xs i j x v hx hv)

theorem cut_block {W : World} {vs : Array Value} (cs : List CutX) (h : vs = (cs.flatMap CutX.row).toArray) : Rd CutX.row 4 (W.alloc (.cells vs 75)) (some ⟨W.heap.size, 0, none⟩) cs := by
  subst h
  exact Rd.of_block (blk_new _ _) (fun i x j v hx hv => by simpa using flat_get (enc := CutX.row) (sz := 4) (fun _ => rfl) cs i j x v hx hv)

def cs1 : List CutX := [⟨0, 3, false, false⟩, ⟨3, 5, false, false⟩]
theorem cs1_ok : (cutsAll (linesOf 0 [5]) 33 big18).1 = true := by kernel_rfl
theorem cs1_is : (cutsAll (linesOf 0 [5]) 33 big18).2.1 = cs1 := by kernel_rfl
theorem of1 : OfIn (linesOf 0 [5]) := by
  intro s hs
  simp [linesOf, linesK, lineSlab] at hs
  rcases hs with rfl | rfl | rfl | rfl | rfl <;> simp
def cs2 : List CutX := [⟨0, 2, true, false⟩, ⟨2, 3, false, false⟩]
theorem cs2_ok : (cutsAll (linesOf 0 [3]) 21 big18).1 = true := by kernel_rfl
theorem cs2_is : (cutsAll (linesOf 0 [3]) 21 big18).2.1 = cs2 := by kernel_rfl
theorem of2 : OfIn (linesOf 0 [3]) := by
  intro s hs
  simp [linesOf, linesK, lineSlab] at hs
  rcases hs with rfl | rfl | rfl <;> simp
def cs3 : List CutX := [⟨0, 1, true, true⟩, ⟨1, 2, false, true⟩]
theorem cs3_ok : (cutsAll (linesOf 0 [2]) 8 big18).1 = true := by kernel_rfl
theorem cs3_is : (cutsAll (linesOf 0 [2]) 8 big18).2.1 = cs3 := by kernel_rfl
theorem of3 : OfIn (linesOf 0 [2]) := by
  intro s hs
  simp [linesOf, linesK, lineSlab] at hs
  rcases hs with rfl | rfl <;> simp
def cs4 : List CutX := [⟨0, 2, false, false⟩, ⟨2, 4, false, false⟩]
theorem cs4_ok : (cutsAll (linesOf 0 [2, 2]) 33 big18).1 = true := by kernel_rfl
theorem cs4_is : (cutsAll (linesOf 0 [2, 2]) 33 big18).2.1 = cs4 := by kernel_rfl
theorem of4 : OfIn (linesOf 0 [2, 2]) := by
  intro s hs
  simp [linesOf, linesK, lineSlab] at hs
  rcases hs with rfl | rfl | rfl | rfl <;> simp

set_option maxHeartbeats 6400000 in
set_option maxRecDepth 100000 in
theorem shown18 (w : World) : Calls Try.prog 40 #[] w fun e w' => e = .returned (.bool true) ∧ Keep [] w w' := by
  go_enter Try.func40, Try.ntmps40
  have KW0 : Keep [] w w := Keep.refl _ _
  go_wp2_with fail
  refine (great_any _).mono ?_
  rintro e a1 ⟨rfl, M1, Ka1, sa1⟩
  have Sa1 := hid sa1
  clear sa1
  go_wp2_with fail
  refine (lines_any (some ⟨a1.heap.size, 0, none⟩) 1 [5] _ (nat_block [5] rfl) (by simp) (by simp) (by decide) 1 rfl).mono ?_
  rintro e b1 ⟨v1, rfl, C1⟩
  have Kb1 : Keep [] a1 b1 := ((Keep.refl [] a1).alloc (.cells #[.int .i64 5] 3)).trans C1.keep
  have N1 : IsM b1 w.heap.size big18 := M1.keep Kb1 (by simp)
  obtain ⟨A1, c1, rfl, D1⟩ := cuts_own C1 N1 big18_ok (by have h := Sa1.out; simp; omega) (by decide) of1 (by omega) (by omega) cs1_ok cs1_is (n := 2) rfl
  go_wp2_with fail
  refine D1.mono ?_
  rintro e d1 ⟨E1, p1, rfl, R1, Kd1⟩
  have Ke1 : Keep [] w d1 := (Ka1.trans Kb1).then Kd1 (fun k hk => .inr (by simp at hk; omega))
  clear M1 C1 N1 D1 Sa1 Kb1 Ka1 Kd1
  go_wp2_with fail
  have F1 := blk_new d1 (.cells #[.int .i64 0, .int .i64 0] 59)
  have R1' := R1.old ((Keep.refl [] _).alloc (.cells #[.int .i64 0, .int .i64 0] 59)) (by simp)
  have Ks1 := Ke1.alloc (.cells #[.int .i64 0, .int .i64 0] 59)
  generalize d1.alloc (.cells #[.int .i64 0, .int .i64 0] 59) = P1 at *
  have KW1 := KW0.trans Ks1
  refine (great_any _).mono ?_
  rintro e a2 ⟨rfl, M2, Ka2, sa2⟩
  have Sa2 := hid sa2
  clear sa2
  go_wp2_with fail
  refine (lines_any (some ⟨a2.heap.size, 0, none⟩) 1 [3] _ (nat_block [3] rfl) (by simp) (by simp) (by decide) 1 rfl).mono ?_
  rintro e b2 ⟨v2, rfl, C2⟩
  have Kb2 : Keep [] a2 b2 := ((Keep.refl [] a2).alloc (.cells #[.int .i64 3] 3)).trans C2.keep
  have N2 : IsM b2 P1.heap.size big18 := M2.keep Kb2 (by simp)
  obtain ⟨A2, c2, rfl, D2⟩ := cuts_own C2 N2 big18_ok (by have h := Sa2.out; simp; omega) (by decide) of2 (by omega) (by omega) cs2_ok cs2_is (n := 2) rfl
  go_wp2_with fail
  refine D2.mono ?_
  rintro e d2 ⟨E2, p2, rfl, R2, Kd2⟩
  have Ke2 : Keep [] P1 d2 := (Ka2.trans Kb2).then Kd2 (fun k hk => .inr (by simp at hk; omega))
  clear M2 C2 N2 D2 Sa2 Kb2 Ka2 Kd2
  go_wp2_with fail
  have F2 := blk_new d2 (.cells #[.int .i64 0, .int .i64 0] 59)
  have R2' := R2.old ((Keep.refl [] _).alloc (.cells #[.int .i64 0, .int .i64 0] 59)) (by simp)
  have Ks2 := Ke2.alloc (.cells #[.int .i64 0, .int .i64 0] 59)
  generalize d2.alloc (.cells #[.int .i64 0, .int .i64 0] 59) = P2 at *
  have KW2 := KW1.trans Ks2
  have R12 := R1'.old Ks2 (by simp)
  have F12 := Ks2.blk F1 (by simp)
  refine (great_any _).mono ?_
  rintro e a3 ⟨rfl, M3, Ka3, sa3⟩
  have Sa3 := hid sa3
  clear sa3
  go_wp2_with fail
  refine (lines_any (some ⟨a3.heap.size, 0, none⟩) 1 [2] _ (nat_block [2] rfl) (by simp) (by simp) (by decide) 1 rfl).mono ?_
  rintro e b3 ⟨v3, rfl, C3⟩
  have Kb3 : Keep [] a3 b3 := ((Keep.refl [] a3).alloc (.cells #[.int .i64 2] 3)).trans C3.keep
  have N3 : IsM b3 P2.heap.size big18 := M3.keep Kb3 (by simp)
  obtain ⟨A3, c3, rfl, D3⟩ := cuts_own C3 N3 big18_ok (by have h := Sa3.out; simp; omega) (by decide) of3 (by omega) (by omega) cs3_ok cs3_is (n := 2) rfl
  go_wp2_with fail
  refine D3.mono ?_
  rintro e d3 ⟨E3, p3, rfl, R3, Kd3⟩
  have Ke3 : Keep [] P2 d3 := (Ka3.trans Kb3).then Kd3 (fun k hk => .inr (by simp at hk; omega))
  clear M3 C3 N3 D3 Sa3 Kb3 Ka3 Kd3
  go_wp2_with fail
  have F3 := blk_new d3 (.cells #[.int .i64 0, .int .i64 0] 59)
  have R3' := R3.old ((Keep.refl [] _).alloc (.cells #[.int .i64 0, .int .i64 0] 59)) (by simp)
  have Ks3 := Ke3.alloc (.cells #[.int .i64 0, .int .i64 0] 59)
  generalize d3.alloc (.cells #[.int .i64 0, .int .i64 0] 59) = P3 at *
  have KW3 := KW2.trans Ks3
  have R13 := R12.old Ks3 (by simp)
  have R23 := R2'.old Ks3 (by simp)
  have F13 := Ks3.blk F12 (by simp)
  refine (great_any _).mono ?_
  rintro e a4 ⟨rfl, M4, Ka4, sa4⟩
  have Sa4 := hid sa4
  clear sa4
  go_wp2_with fail
  refine (lines_any (some ⟨a4.heap.size, 0, none⟩) 2 [2, 2] _ (nat_block [2, 2] rfl) (by simp) (by simp) (by decide) 2 rfl).mono ?_
  rintro e b4 ⟨v4, rfl, C4⟩
  have Kb4 : Keep [] a4 b4 := ((Keep.refl [] a4).alloc (.cells #[.int .i64 2, .int .i64 2] 3)).trans C4.keep
  have N4 : IsM b4 P3.heap.size big18 := M4.keep Kb4 (by simp)
  obtain ⟨A4, c4, rfl, D4⟩ := cuts_own C4 N4 big18_ok (by have h := Sa4.out; simp; omega) (by decide) of4 (by omega) (by omega) cs4_ok cs4_is (n := 2) rfl
  go_wp2_with fail
  refine D4.mono ?_
  rintro e d4 ⟨E4, p4, rfl, R4, Kd4⟩
  have Ke4 : Keep [] P3 d4 := (Ka4.trans Kb4).then Kd4 (fun k hk => .inr (by simp at hk; omega))
  clear M4 C4 N4 D4 Sa4 Kb4 Ka4 Kd4
  go_wp2_with fail
  have F4 := blk_new d4 (.cells #[.int .i64 0, .int .i64 0] 59)
  have R4' := R4.old ((Keep.refl [] _).alloc (.cells #[.int .i64 0, .int .i64 0] 59)) (by simp)
  have Ks4 := Ke4.alloc (.cells #[.int .i64 0, .int .i64 0] 59)
  generalize d4.alloc (.cells #[.int .i64 0, .int .i64 0] 59) = P4 at *
  have KW4 := KW3.trans Ks4
  have R14 := R13.old Ks4 (by simp)
  have R24 := R23.old Ks4 (by simp)
  have R34 := R3'.old Ks4 (by simp)
  have F14 := Ks4.blk F13 (by simp)
  refine (great_any _).mono ?_
  rintro e a5 ⟨rfl, M5, Ka5, sa5⟩
  clear sa5
  go_wp2_with fail
  refine (cuts_bad P4.heap.size none 0 0 0 _ (by omega)).mono ?_
  rintro e d5 ⟨rfl, Kd5⟩
  have Ke5 := Ka5.trans Kd5
  clear M5 Ka5 Kd5
  have T1 := R14.old Ke5 (by simp)
  have T2 := R24.old Ke5 (by simp)
  have T3 := R34.old Ke5 (by simp)
  have T4 := R4'.old Ke5 (by simp)
  have G1 := Ke5.blk F14 (by simp)
  have KX := KW4.trans Ke5
  clear R1 R2 R3 R4 R1' R2' R3' R12 R13 R23 R14 R24 R34 R4' F1 F2 F3 F4 F12 F13 F14 KW0 KW1 KW2 KW3 KW4 Ks1 Ks2 Ks3 Ks4 Ke1 Ke2 Ke3 Ke4 Ke5
  go_upto_region 6 with (fail)
  have K50 : Keep [] d5 (d5.alloc (.cells #[.int .i64 180, .int .i64 0] 59)) := (Keep.refl _ _).alloc _
  have G5 := blk_new d5 (.cells #[.int .i64 180, .int .i64 0] 59)
  have H1 := blk_alloc G1 (.cells #[.int .i64 180, .int .i64 0] 59)
  have T10 := T1.old K50 (by simp)
  have T20 := T2.old K50 (by simp)
  have T30 := T3.old K50 (by simp)
  have T40 := T4.old K50 (by simp)
  have KX0 := KX.trans K50
  generalize d5.alloc (.cells #[.int .i64 180, .int .i64 0] 59) = X0 at *
  clear T1 T2 T3 T4 KX K50 G1
  go_wp2_with fail
  have Ka1 : Keep [] X0 (X0.alloc (.cells #[.int .i64 0, .int .i64 3, .bool false, .bool false, .int .i64 3, .int .i64 5, .bool false, .bool false] 75)) := (Keep.refl _ _).alloc _
  refine (same_same E1 (some ⟨X0.heap.size, 0, none⟩) 2 2 p1 2 cs1 _ rfl rfl (T10.old Ka1 (by simp)) (cut_block cs1 rfl) (by show 2 ≤ 1099511627776; omega)).mono ?_
  rintro e X1 ⟨rfl, Kb1⟩
  have Kc1 := Ka1.trans Kb1
  have KX1 := KX0.trans Kc1
  have T21 := T20.old Kc1 (by simp)
  have T31 := T30.old Kc1 (by simp)
  have T41 := T40.old Kc1 (by simp)
  go_wp2_with fail
  have Ka2 : Keep [] X1 (X1.alloc (.cells #[.int .i64 0, .int .i64 2, .bool true, .bool false, .int .i64 2, .int .i64 3, .bool false, .bool false] 75)) := (Keep.refl _ _).alloc _
  refine (same_same E2 (some ⟨X1.heap.size, 0, none⟩) 2 2 p2 2 cs2 _ rfl rfl (T21.old Ka2 (by simp)) (cut_block cs2 rfl) (by show 2 ≤ 1099511627776; omega)).mono ?_
  rintro e X2 ⟨rfl, Kb2⟩
  have Kc2 := Ka2.trans Kb2
  have KX2 := KX1.trans Kc2
  have T32 := T31.old Kc2 (by simp)
  have T42 := T41.old Kc2 (by simp)
  go_wp2_with fail
  have Ka3 : Keep [] X2 (X2.alloc (.cells #[.int .i64 0, .int .i64 1, .bool true, .bool true, .int .i64 1, .int .i64 2, .bool false, .bool true] 75)) := (Keep.refl _ _).alloc _
  refine (same_same E3 (some ⟨X2.heap.size, 0, none⟩) 2 2 p3 2 cs3 _ rfl rfl (T32.old Ka3 (by simp)) (cut_block cs3 rfl) (by show 2 ≤ 1099511627776; omega)).mono ?_
  rintro e X3 ⟨rfl, Kb3⟩
  have Kc3 := Ka3.trans Kb3
  have KX3 := KX2.trans Kc3
  have T43 := T42.old Kc3 (by simp)
  go_wp2_with fail
  have Ka4 : Keep [] X3 (X3.alloc (.cells #[.int .i64 0, .int .i64 2, .bool false, .bool false, .int .i64 2, .int .i64 4, .bool false, .bool false] 75)) := (Keep.refl _ _).alloc _
  refine (same_same E4 (some ⟨X3.heap.size, 0, none⟩) 2 2 p4 2 cs4 _ rfl rfl (T43.old Ka4 (by simp)) (cut_block cs4 rfl) (by show 2 ≤ 1099511627776; omega)).mono ?_
  rintro e X4 ⟨rfl, Kb4⟩
  have Kc4 := Ka4.trans Kb4
  have KX4 := KX3.trans Kc4
  have KK := ((Kc1.trans Kc2).trans Kc3).trans Kc4
  have L1 := KK.blk H1 (by simp)
  have L5 := KK.blk G5 (by simp)
  have x0 := blk_cell L1 0
  have x1 := blk_cell L1 1
  have x2 := blk_cell L5 0
  have x3 := blk_cell L5 1
  simp only [List.getElem?_toArray, List.getElem?_cons_zero, List.getElem?_cons_succ] at x0 x1 x2 x3
  go_wp2
  go_ret
  exact ⟨rfl, KX4⟩

end Go.Proofs.Ytgelccenbceeoaa
