/- Font: the law's shown, great, same, by contracts. -/
import Derived.Test.YthcfgechifogeaaFnGet
import Derived.Test.YthcfgechifogeaaFnPut
namespace Go.Proofs.Ythcfgechifogeaa
open Go.RowKit Go.Maps
set_option linter.unusedSimpArgs false
set_option linter.unusedVariables false

def shownB : List Nat := fontB 1000 [] []
theorem shown_get : getX shownB 100 100 = (some (1000, [], []), 0, 0, mHeld 100 100 13 0) := by kernel_rfl
theorem shown_get2 : getX [80, 70, 49, 64, 1] 100 100 = (none, 60, 4, mBad 100 100 60 5) := by kernel_rfl
theorem shown_all : AllB shownB := fontB_all _ _ _
theorem shown_check : checkX 1000 [] [] = 0 := check_ok (by omega) (by simp) (fun i h => by simp at h) (fun i h => by simp at h)
theorem SB_take (l : List Nat) (n : Nat) : (SB l).extract 0 n = SB (l.take n) := by
  have h := ByteArray.extract_mk (l.map UInt8.ofNat) 0 n
  unfold SB
  rw [List.map_take]
  simpa using h
theorem put_shown (w : World) : Calls Try.prog 26 #[.agg #[.int .i64 1000, .slice none 0 0, .slice none 0 0]] w fun e w' => e = .returned (.tuple #[.string (SB shownB), .int .i64 0]) ∧ Keep [] w w' := by
  have h := put_any ⟨1000, none, 0, none, 0, [], []⟩ w ⟨Rd.nil _ _ _ _, Rd.nil _ _ _ _, fun _ => rfl, fun _ => rfl, fun _ h => (nomatch h), fun _ h => (nomatch h), Nat.zero_le _, Nat.zero_le _⟩
  simp only [shown_check, putS, if_true] at h
  exact h
theorem get_shown (g : Nat) (w : World) (hm : IsM w g (MS.new 100 100)) : Calls Try.prog 29 #[.pointer (some ⟨g, 0, none⟩), .string (SB shownB)] w fun e w' =>
    (∃ A c B d, e = .returned (.tuple #[.agg #[.int .i64 1000, .slice A 0 c, .slice B 0 d], .agg #[.int .i64 0, .int .i64 0]])) ∧ IsM w' g (mHeld 100 100 13 0) ∧ Keep [g] w w' := by
  refine (get_any g (SB shownB) 100 100 w hm (by omega) (by omega) (by omega) (by omega) (by rw [SB_size]; simp [shownB, fontB, bodyB, headB, digs_len])).mono ?_
  rintro e w' ⟨K, M, f, rfl, _, _, hf⟩
  rw [LB_SB shown_all, shown_get] at *
  simp only [Option.getD_some, Prod.mk.injEq] at hf
  obtain ⟨h1, h2, h3⟩ := hf
  refine ⟨⟨f.ga, f.gc, f.pa, f.pc, ?_⟩, M, K⟩
  unfold FontX.val
  rw [h1, h2, h3]
  rfl
theorem get_shown2 (g : Nat) (w : World) (hm : IsM w g (MS.new 100 100)) : Calls Try.prog 29 #[.pointer (some ⟨g, 0, none⟩), .string ⟨#[80, 70, 49, 64, 1]⟩] w fun e w' =>
    (∃ A c B d, e = .returned (.tuple #[.agg #[.int .i64 0, .slice A 0 c, .slice B 0 d], .agg #[.int .i64 60, .int .i64 4]])) ∧ IsM w' g (mBad 100 100 60 5) ∧ Keep [g] w w' := by
  refine (get_any g ⟨#[80, 70, 49, 64, 1]⟩ 100 100 w hm (by omega) (by omega) (by omega) (by omega) (by decide)).mono ?_
  rintro e w' ⟨K, M, f, rfl, _, _, hf⟩
  have e0 : LB ⟨#[80, 70, 49, 64, 1]⟩ = [80, 70, 49, 64, 1] := by rfl
  rw [e0, shown_get2] at M hf ⊢
  simp only [Option.getD_none, Prod.mk.injEq] at hf
  obtain ⟨h1, h2, h3⟩ := hf
  refine ⟨⟨f.ga, f.gc, f.pa, f.pc, ?_⟩, M, K⟩
  unfold FontX.val
  rw [h1, h2, h3]
  rfl

set_option maxHeartbeats 4000000 in
set_option maxRecDepth 100000 in
theorem shown06 (w : World) : Calls Try.prog 24 #[] w fun e w' => e = .returned (.bool true) ∧ Keep [] w w' := by
  have GT := get_shown
  have PT := put_shown w
  obtain ⟨T, hT⟩ : ∃ T, SB shownB = T := ⟨_, rfl⟩
  have hT1 : T.size = 13 := by rw [← hT]; kernel_rfl
  have hT2 : T.extract 0 9 = ⟨#[80, 70, 49, 3, 232, 0, 0, 0, 0]⟩ := by rw [← hT]; kernel_rfl
  rw [hT] at GT PT
  clear hT
  go_enter Try.func24, Try.ntmps24
  go_wp2_with fail
  refine PT.mono ?_
  rintro e w1 ⟨rfl, K1⟩
  go_wp2_with fail
  refine (new_good 100 100 w1 (by omega) (by omega)).mono ?_
  rintro e w2 ⟨rfl, M2, K2, hs2⟩
  go_wp2_with fail
  refine (GT w1.heap.size w2 M2).mono ?_
  rintro e w3 ⟨⟨A, c, B, d, rfl⟩, M3, K3⟩
  go_wp2_with fail
  have X5 := blk_alloc (blk_new w3 (.cells #[.int .i64 1000, .slice A 0 c, .slice B 0 d] 25)) (.cells #[.int .i64 0, .int .i64 0] 60)
  have X6 := blk_new (w3.alloc (.cells #[.int .i64 1000, .slice A 0 c, .slice B 0 d] 25)) (.cells #[.int .i64 0, .int .i64 0] 60)
  rw [size_alloc'] at X6
  have M4 := blk_alloc (blk_alloc M3 (.cells #[.int .i64 1000, .slice A 0 c, .slice B 0 d] 25)) (.cells #[.int .i64 0, .int .i64 0] 60)
  have K4 : Keep [] w ((w3.alloc (.cells #[.int .i64 1000, .slice A 0 c, .slice B 0 d] 25)).alloc (.cells #[.int .i64 0, .int .i64 0] 60)) := ((((K1.trans K2).then K3 (by simp; exact K1.size)).alloc _).alloc _)
  have hlt3 := blk_lt M3
  generalize (w3.alloc (.cells #[.int .i64 1000, .slice A 0 c, .slice B 0 d] 25)).alloc (.cells #[.int .i64 0, .int .i64 0] 60) = W4 at *
  generalize w3.heap.size = n3 at *
  generalize w1.heap.size = g1 at *
  clear M3 K3 M2 K2 hs2 K1
  refine (new_good 100 100 W4 (by omega) (by omega)).mono ?_
  rintro e w5 ⟨rfl, M5, K5, hs5⟩
  go_wp2_with fail
  refine (get_shown2 W4.heap.size w5 M5).mono ?_
  rintro e w6 ⟨⟨A2, c2, B2, d2, rfl⟩, M6, K6⟩
  have hl4 := blk_lt X6
  have K56 := K5.then (S := []) K6 (by simp)
  have KA : Keep [] W4 ((w6.alloc (.cells #[.int .i64 0, .slice A2 0 c2, .slice B2 0 d2] 25)).alloc (.cells #[.int .i64 60, .int .i64 4] 60)) := (K56.alloc _).alloc _
  have X5' := KA.blk X5 (by simp)
  have X6' := KA.blk X6 (by simp)
  have M4' : IsM _ g1 (mHeld 100 100 13 0) := KA.blk M4 (by simp)
  have M6' : IsM _ W4.heap.size (mBad 100 100 60 5) := IsM.keep M6 (((Keep.refl [] w6).alloc (.cells #[.int .i64 0, .slice A2 0 c2, .slice B2 0 d2] 25)).alloc (.cells #[.int .i64 60, .int .i64 4] 60)) (by simp)
  have X10 := blk_new (w6.alloc (.cells #[.int .i64 0, .slice A2 0 c2, .slice B2 0 d2] 25)) (.cells #[.int .i64 60, .int .i64 4] 60)
  rw [size_alloc'] at X10
  go_upto_region 8 with (fail)
  generalize (w6.alloc (.cells #[.int .i64 0, .slice A2 0 c2, .slice B2 0 d2] 25)).alloc (.cells #[.int .i64 60, .int .i64 4] 60) = W7 at *
  obtain ⟨x0, x1, x2, _, _, _, xs⟩ := cells3 X5'
  obtain ⟨y0, y1, _, _, ys⟩ := cells2 X6'
  obtain ⟨z0, z1, _, _, zs⟩ := cells2 X10
  go_wp2_with fail
  refine (steps_any g1 _ W7 M4').mono ?_
  rintro e w8 ⟨rfl, rfl⟩
  go_wp2_with fail
  refine (held_any g1 _ W7 M4').mono ?_
  rintro e w8 ⟨rfl, rfl⟩
  go_wp2_with fail
  refine (steps_any W4.heap.size _ W7 M6').mono ?_
  rintro e w8 ⟨rfl, rfl⟩
  go_wp2
  go_ret
  exact ⟨rfl, K4.trans KA⟩

theorem walkFontNumbers (w : World) : Calls Try.prog 10 #[] w fun e w' => e = .returned (.bool true) ∧ Below w.heap.size w w' := by
  go_enter Try.func10, Try.ntmps10
  go_wp2_with fail
  refine (shown06 _).mono ?_
  rintro e w1 ⟨rfl, K⟩
  go_wp2
  go_ret
  exact ⟨rfl, K.below (Nat.le_refl _) (by simp)⟩

set_option maxHeartbeats 1000000 in
theorem great_any (w : World) : Calls Try.prog 30 #[] w fun e w' => ∃ g, e = .returned (.pointer (some ⟨g, 0, none⟩)) ∧ w.heap.size ≤ g ∧ IsM w' g (MS.new 1152921504606846976 1152921504606846976) ∧ Keep [] w w' := by
  go_enter Try.func30, Try.ntmps30
  go_wp2_with fail
  refine (new_good 1152921504606846976 1152921504606846976 w (by omega) (by omega)).mono ?_
  rintro e w1 ⟨rfl, M, K, _⟩
  go_wp2
  go_ret
  exact ⟨_, rfl, Nat.le_refl _, M, K⟩
end Go.Proofs.Ythcfgechifogeaa
