/- Font: the law's same, at two fonts that are. -/
import Derived.Test.YthcfgechifogeaaFnShown
namespace Go.Proofs.Ythcfgechifogeaa
open Go.RowKit Go.Maps
set_option linter.unusedSimpArgs false
set_option linter.unusedVariables false

set_option maxHeartbeats 2000000 in
set_option maxRecDepth 100000 in
theorem glyphs_same (A A' : Option Addr) (c c' : Nat) (gs : List GlyphX) (w : World) (h1 : Rd GlyphX.row 4 w A gs) (h3 : Rd GlyphX.row 4 w A' gs) (hg : gs.length ≤ 9223372036854775807) :
    Calls Try.prog 55 #[.slice A gs.length c, .slice A' gs.length c'] w fun e w' => e = .returned (.bool true) ∧ Keep [] w w' := by
  go_enter Try.func55, Try.ntmps55
  go_wp2_with fail
  go_loopw [5] (fun vi wr => ∃ i : Nat, i ≤ gs.length ∧ vi = .int .i64 i ∧ Keep [] w wr) (fun vi _ => gs.length - (intOf vi).toNat)
  case atStart => exact ⟨0, Nat.zero_le _, rfl, Keep.refl _ _⟩
  case round =>
    obtain ⟨i, hi, rfl, K⟩ := hrel
    by_cases hlt : i < gs.length
    · obtain ⟨y, hy⟩ : ∃ y, gs[i]? = some y := ⟨gs[i], List.getElem?_eq_getElem hlt⟩
      obtain ⟨ad, hA, hcs⟩ := h1.old K (by simp) i y hy
      obtain ⟨bd, hB, hds⟩ := h3.old K (by simp) i y hy
      have d0 := hcs 0 _ rfl
      have d1 := hcs 1 _ rfl
      have d2 := hcs 2 _ rfl
      have d3 := hcs 3 _ rfl
      have e0 := hds 0 _ rfl
      have e1 := hds 1 _ rfl
      have e2 := hds 2 _ rfl
      have e3 := hds 3 _ rfl
      rw [add_at _ _ _ (by omega)] at d1 d2 d3 e1 e2 e3
      rw [Nat.add_zero] at d0 e0
      have H1 := hid h1
      have H3 := hid h3
      clear hcs hds hy h1 h3
      subst hA hB
      go_upto_region 6 with (fail)
      go_quiet (fail)
      go_wp2
      go_roundw
      case rel => exact ⟨i + 1, hlt, by go_num, K.drewN _⟩
      case measure => simp [intOf]; omega
    · obtain rfl : i = gs.length := by omega
      go_wp2
      go_ret
      exact ⟨rfl, K⟩
set_option maxHeartbeats 2000000 in
set_option maxRecDepth 100000 in
theorem pairs_same (A A' : Option Addr) (c c' : Nat) (ps : List PairX) (w : World) (h1 : Rd PairX.row 5 w A ps) (h3 : Rd PairX.row 5 w A' ps) (hg : ps.length ≤ 9223372036854775807) :
    Calls Try.prog 56 #[.slice A ps.length c, .slice A' ps.length c'] w fun e w' => e = .returned (.bool true) ∧ Keep [] w w' := by
  go_enter Try.func56, Try.ntmps56
  go_wp2_with fail
  go_loopw [5] (fun vi wr => ∃ i : Nat, i ≤ ps.length ∧ vi = .int .i64 i ∧ Keep [] w wr) (fun vi _ => ps.length - (intOf vi).toNat)
  case atStart => exact ⟨0, Nat.zero_le _, rfl, Keep.refl _ _⟩
  case round =>
    obtain ⟨i, hi, rfl, K⟩ := hrel
    by_cases hlt : i < ps.length
    · obtain ⟨y, hy⟩ : ∃ y, ps[i]? = some y := ⟨ps[i], List.getElem?_eq_getElem hlt⟩
      obtain ⟨ad, hA, hcs⟩ := h1.old K (by simp) i y hy
      obtain ⟨bd, hB, hds⟩ := h3.old K (by simp) i y hy
      have d0 := hcs 0 _ rfl
      have d1 := hcs 1 _ rfl
      have d2 := hcs 2 _ rfl
      have d3 := hcs 3 _ rfl
      have d4 := hcs 4 _ rfl
      have e0 := hds 0 _ rfl
      have e1 := hds 1 _ rfl
      have e2 := hds 2 _ rfl
      have e3 := hds 3 _ rfl
      have e4 := hds 4 _ rfl
      rw [add_at _ _ _ (by omega)] at d1 d2 d3 d4 e1 e2 e3 e4
      rw [Nat.add_zero] at d0 e0
      have H1 := hid h1
      have H3 := hid h3
      clear hcs hds hy h1 h3
      subst hA hB
      go_upto_region 6 with (fail)
      go_quiet (fail)
      go_wp2
      go_roundw
      case rel => exact ⟨i + 1, hlt, by go_num, K.drewN _⟩
      case measure => simp [intOf]; omega
    · obtain rfl : i = ps.length := by omega
      go_wp2
      go_ret
      exact ⟨rfl, K⟩

/-- A font that lies there. -/
structure FLies (w : World) (em : Int) (gs : List GlyphX) (ps : List PairX) (v : Value) : Prop where
  ex : ∃ A c B d, v = .agg #[.int .i64 em, .slice A gs.length c, .slice B ps.length d] ∧ Rd GlyphX.row 4 w A gs ∧ Rd PairX.row 5 w B ps
theorem FLies.old {w w' : World} {em : Int} {gs : List GlyphX} {ps : List PairX} {v : Value} (h : FLies w em gs ps v) (K : Keep [] w w') : FLies w' em gs ps v := by
  obtain ⟨A, c, B, d, rfl, h1, h2⟩ := h.ex
  exact ⟨A, c, B, d, rfl, h1.old K (by simp), h2.old K (by simp)⟩

set_option maxHeartbeats 2000000 in
set_option maxRecDepth 100000 in
theorem same06 (em : Int) (gs : List GlyphX) (ps : List PairX) (v v' : Value) (w : World) (h : FLies w em gs ps v) (h' : FLies w em gs ps v') (hg : gs.length ≤ 9223372036854775807) (hp : ps.length ≤ 9223372036854775807) :
    Calls Try.prog 28 #[v, v'] w fun e w' => e = .returned (.bool true) ∧ Keep [] w w' := by
  obtain ⟨A, c, B, d, rfl, h1, h2⟩ := h.ex
  obtain ⟨A', c', B', d', rfl, h3, h4⟩ := h'.ex
  have K0 : Keep [] w ((w.alloc (.cells #[.int .i64 em, .slice A gs.length c, .slice B ps.length d] 25)).alloc (.cells #[.int .i64 em, .slice A' gs.length c', .slice B' ps.length d'] 25)) := ((Keep.refl _ _).alloc _).alloc _
  have F0 := blk_alloc (blk_new w (.cells #[.int .i64 em, .slice A gs.length c, .slice B ps.length d] 25)) (.cells #[.int .i64 em, .slice A' gs.length c', .slice B' ps.length d'] 25)
  have G0 := blk_new (w.alloc (.cells #[.int .i64 em, .slice A gs.length c, .slice B ps.length d] 25)) (.cells #[.int .i64 em, .slice A' gs.length c', .slice B' ps.length d'] 25)
  rw [size_alloc'] at G0
  go_enter Try.func28, Try.ntmps28
  go_upto_region 1 with (fail)
  generalize (w.alloc (.cells #[.int .i64 em, .slice A gs.length c, .slice B ps.length d] 25)).alloc (.cells #[.int .i64 em, .slice A' gs.length c', .slice B' ps.length d'] 25) = W0 at *
  obtain ⟨f0, f1, f2, _, _, _, fs⟩ := cells3 F0
  obtain ⟨g0, g1, g2, _, _, _, gs'⟩ := cells3 G0
  go_wp2_with fail
  refine (glyphs_same A A' c c' gs W0 (h1.old K0 (by simp)) (h3.old K0 (by simp)) hg).mono ?_
  rintro e w1 ⟨rfl, K1⟩
  clear f0 f1 f2 g0 g1 g2 fs gs'
  obtain ⟨f0, f1, f2, _, _, _, fs⟩ := cells3 (K1.blk F0 (by simp))
  obtain ⟨g0, g1, g2, _, _, _, gs'⟩ := cells3 (K1.blk G0 (by simp))
  go_wp2_with fail
  refine (pairs_same B B' d d' ps w1 (h2.old (K0.trans K1) (by simp)) (h4.old (K0.trans K1) (by simp)) hp).mono ?_
  rintro e w2 ⟨rfl, K2⟩
  clear f0 f1 f2 g0 g1 g2 fs gs'
  obtain ⟨f0, f1, f2, _, _, _, fs⟩ := cells3 ((K1.trans K2).blk F0 (by simp))
  obtain ⟨g0, g1, g2, _, _, _, gs'⟩ := cells3 ((K1.trans K2).blk G0 (by simp))
  go_wp2
  go_ret
  exact ⟨rfl, (K0.trans K1).trans K2⟩
end Go.Proofs.Ythcfgechifogeaa
