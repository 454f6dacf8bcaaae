/- The reference's paired and behind. -/
import Derived.Test.YthcfgechifogeaaTabRef
namespace Go.Proofs.Ythcfgechifogeaa
open Go.RowKit Go.Maps
set_option linter.unusedSimpArgs false
set_option linter.unusedVariables false

set_option maxHeartbeats 2000000 in
theorem rpaired_any (em : Int) (A B : Option Addr) (c m d : Nat) (gs : List GlyphX) (p : PairX) (w : World) (hr : Rd GlyphX.row 4 w A gs) (hl : gs.length ≤ 9223372036854775807) (hg : GoodW gs) :
    Calls Try.prog 75 #[.agg #[.int .i64 em, .slice A gs.length c, .slice B m d], p.val] w fun e w' => e = .returned (.bool (fineX gs p)) ∧ Keep [] w w' := by
  obtain ⟨a, ha⟩ : ∃ a, gFind gs p.lf = a := ⟨_, rfl⟩
  obtain ⟨b, hb⟩ : ∃ b, gFind gs p.rt = b := ⟨_, rfl⟩
  have E := hid (show fineX gs p = fineO gs p a b by unfold fineX; rw [ha, hb])
  have ra : ∀ g, a = some g → 0 ≤ g.wd ∧ g.wd ≤ 16384 := fun g e => hg g (gFind_mem (ha.trans e))
  have rb : ∀ g, b = some g → 0 ≤ g.wd ∧ g.wd ≤ 16384 := fun g e => hg g (gFind_mem (hb.trans e))
  have HA := hid ha
  have HB := hid hb
  have RA := hid ra
  have RB := hid rb
  have HR : ∀ W, Keep [] w W → Rd GlyphX.row 4 W A gs := fun W K => hr.old K (by simp)
  have HRR := hid HR
  clear ha hb ra rb hg hr HR
  unfold PairX.val
  have K0 : Keep [] w ((w.alloc (.cells #[.int .i64 em, .slice A gs.length c, .slice B m d] 25)).alloc (.cells #[.int .i64 p.lf, .int .i64 p.rt, .bool p.is, .int .i64 p.lg, .int .i64 p.kn] 52)) := ((Keep.refl _ _).alloc _).alloc _
  have F0 := blk_alloc (blk_new w (.cells #[.int .i64 em, .slice A gs.length c, .slice B m d] 25)) (.cells #[.int .i64 p.lf, .int .i64 p.rt, .bool p.is, .int .i64 p.lg, .int .i64 p.kn] 52)
  have P0 := blk_new (w.alloc (.cells #[.int .i64 em, .slice A gs.length c, .slice B m d] 25)) (.cells #[.int .i64 p.lf, .int .i64 p.rt, .bool p.is, .int .i64 p.lg, .int .i64 p.kn] 52)
  rw [size_alloc'] at P0
  go_enter Try.func75, Try.ntmps75
  go_upto_region 1 with (fail)
  generalize (w.alloc (.cells #[.int .i64 em, .slice A gs.length c, .slice B m d] 25)).alloc (.cells #[.int .i64 p.lf, .int .i64 p.rt, .bool p.is, .int .i64 p.lg, .int .i64 p.kn] 52) = W0 at *
  obtain ⟨f0, f1, f2, _, _, _, fs⟩ := cells3 F0
  obtain ⟨x0, x1, x2, x3, x4, _, _, _, _, _, ps⟩ := cells5' P0
  go_wp2_with fail
  refine (rglyph_any em A B c m d gs p.lf a _ HA.out (HRR.out _ K0) hl).mono ?_
  rintro e w1 ⟨rfl, K1⟩
  clear f0 f1 f2 x0 x1 x2 x3 x4
  have K1' := K0.trans K1
  obtain ⟨f0, f1, f2, _, _, _, fs1⟩ := cells3 (K1.blk F0 (by simp))
  obtain ⟨x0, x1, x2, x3, x4, _, _, _, _, _, ps1⟩ := cells5' (K1.blk P0 (by simp))
  have K1a := K1'.alloc (.cells #[.int .i64 (a.getD GlyphX.zero).ru, .int .i64 (a.getD GlyphX.zero).wd, .int .i64 (a.getD GlyphX.zero).ht, .int .i64 (a.getD GlyphX.zero).dp] 45)
  go_wp2_with fail
  refine (rglyph_any em A B c m d gs p.rt b _ HB.out (HRR.out _ K1a) hl).mono ?_
  rintro e w2 ⟨rfl, K2⟩
  have K2' := K1a.trans K2
  have F2 := K2.blk (blk_alloc (K1.blk F0 (by simp)) (.cells #[.int .i64 (a.getD GlyphX.zero).ru, .int .i64 (a.getD GlyphX.zero).wd, .int .i64 (a.getD GlyphX.zero).ht, .int .i64 (a.getD GlyphX.zero).dp] 45)) (by simp)
  have P2 := K2.blk (blk_alloc (K1.blk P0 (by simp)) (.cells #[.int .i64 (a.getD GlyphX.zero).ru, .int .i64 (a.getD GlyphX.zero).wd, .int .i64 (a.getD GlyphX.zero).ht, .int .i64 (a.getD GlyphX.zero).dp] 45)) (by simp)
  have A2 := K2.blk (blk_new w1 (.cells #[.int .i64 (a.getD GlyphX.zero).ru, .int .i64 (a.getD GlyphX.zero).wd, .int .i64 (a.getD GlyphX.zero).ht, .int .i64 (a.getD GlyphX.zero).dp] 45)) (by simp)
  clear f0 f1 f2 x0 x1 x2 x3 x4 K1 K2 K1a K1' K0 F0 P0
  obtain ⟨f0, f1, f2, _, _, _, fs2⟩ := cells3 F2
  obtain ⟨x0, x1, x2, x3, x4, _, _, _, _, _, ps2⟩ := cells5' P2
  obtain ⟨a0, a1, a2, a3, _, _, _, _, as2⟩ := cells4 A2
  generalize w1.heap.size = q1 at *
  generalize w.heap.size = q0 at *
  clear F2 P2 A2
  cases a with
  | none =>
    go_wp2
    go_ret
    exact ⟨ret_bool (by rw [E.out]; cases b <;> rfl), K2'.alloc _⟩
  | some a =>
    cases b with
    | none =>
      go_wp2
      go_ret
      exact ⟨ret_bool (by rw [E.out]; rfl), K2'.alloc _⟩
    | some b =>
      obtain ⟨ra1, ra2⟩ := RA.out a rfl
      obtain ⟨rb1, rb2⟩ := RB.out b rfl
      simp only [Option.getD_some, Option.isSome_some] at a0 a1 a2 a3 ⊢
      cases hs : p.is with
      | true =>
        rw [hs] at x2
        obtain ⟨g, hc⟩ : ∃ g, gFind gs p.lg = g := ⟨_, rfl⟩
        have E' := hid (show fineX gs p = (g.isSome && p.kn == 0) by rw [E.out]; simp only [fineO, hs, if_true]; rw [hc])
        have HC := hid hc
        clear hc hs
        go_wp2_with fail
        refine (rglyph_any em A B c m d gs p.lg g _ HC.out (HRR.out _ (K2'.alloc _)) hl).mono ?_
        rintro e w3 ⟨rfl, K3⟩
        have f4 := K3.cell' (cell_alloc' x4 (.cells #[.int .i64 b.ru, .int .i64 b.wd, .int .i64 b.ht, .int .i64 b.dp] 45)) (by simp)
        have KB := (K2'.alloc (.cells #[.int .i64 b.ru, .int .i64 b.wd, .int .i64 b.ht, .int .i64 b.dp] 45)).trans K3
        have s3 := Nat.lt_of_lt_of_le ps2 (Nat.le_trans (Nat.le_of_lt (Nat.lt_succ_self _)) (by simpa using K3.size))
        clear K3 K2' x0 x1 x2 x3 x4 a0 a1 a2 a3 f0 f1 f2
        cases g with
        | none =>
          simp only [Option.getD_none, Option.isSome_none, GlyphX.zero]
          go_wp2
          go_ret
          exact ⟨ret_bool (by rw [E'.out]; simp), KB.alloc _⟩
        | some g =>
          simp only [Option.getD_some, Option.isSome_some]
          go_wp2
          go_ret
          exact ⟨ret_bool (by rw [E'.out]; simp), KB.alloc _⟩
      | false =>
        rw [hs] at x2
        have E' := hid (show fineX gs p = (p.lg == 0 && p.kn != 0 && decide (p.kn ≤ 16384) && decide (-(min a.wd b.wd) ≤ p.kn)) by rw [E.out]; simp only [fineO, hs, if_false, Bool.false_eq_true])
        clear hs
        by_cases hab : b.wd < a.wd
        · have E2 := hid (show min a.wd b.wd = b.wd by omega)
          go_wp2
          all_goals
            go_ret
            refine ⟨ret_bool ?_, K2'.alloc _⟩
            rw [E'.out, E2.out]
            simp [*]
            try omega
        · have E2 := hid (show min a.wd b.wd = a.wd by omega)
          have hab' : a.wd ≤ b.wd := by omega
          clear hab
          go_wp2
          all_goals
            go_ret
            refine ⟨ret_bool ?_, K2'.alloc _⟩
            rw [E'.out, E2.out]
            simp [*]
            try omega

theorem rbehind_at (p q : PairX) (v : Bool) (w : World) (h : behindX p q ↔ v = true) :
    Calls Try.prog 76 #[p.val, q.val] w fun e w' => e = .returned (.bool v) ∧ Keep [] w w' := by
  unfold PairX.val
  have H := hid h
  clear h
  go_enter Try.func76, Try.ntmps76
  go_wp2
  all_goals
    go_ret
    refine ⟨ret_bool ?_, ((Keep.refl _ _).alloc _).alloc _⟩
    have hh := H.out
    unfold behindX at hh
    cases v
    all_goals
      simp at hh ⊢
      try omega

end Go.Proofs.Ythcfgechifogeaa
