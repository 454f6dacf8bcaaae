/- The law's same, at two fonts that are; its plain font; the bound. -/
import Derived.Test.YthcfgechifogeaaTabNew
import Derived.Test.YthcfgechifogeaaTabRef
namespace Go.Proofs.Ythcfgechifogeaa
open Go.RowKit Go.Maps
set_option linter.unusedSimpArgs false
set_option linter.unusedVariables false

set_option maxHeartbeats 2000000 in
set_option maxRecDepth 100000 in
theorem same_same (em : Int) (A B A' B' : Option Addr) (c d c' d' : Nat) (gs : List GlyphX) (ps : List PairX) (w : World) (h1 : Rd GlyphX.row 4 w A gs) (h2 : Rd PairX.row 5 w B ps) (h3 : Rd GlyphX.row 4 w A' gs) (h4 : Rd PairX.row 5 w B' ps)
    (hg : gs.length ≤ 2147483647) (hp : ps.length ≤ 2147483647) :
    Calls Try.prog 23 #[.agg #[.int .i64 em, .slice A gs.length c, .slice B ps.length d], .agg #[.int .i64 em, .slice A' gs.length c', .slice B' ps.length d']] w fun e w' => e = .returned (.bool true) ∧ Keep [] w w' := by
  have K0 : Keep [] w ((w.alloc (.cells #[.int .i64 em, .slice A gs.length c, .slice B ps.length d] 25)).alloc (.cells #[.int .i64 em, .slice A' gs.length c', .slice B' ps.length d'] 25)) := ((Keep.refl _ _).alloc _).alloc _
  have F0 := blk_alloc (blk_new w (.cells #[.int .i64 em, .slice A gs.length c, .slice B ps.length d] 25)) (.cells #[.int .i64 em, .slice A' gs.length c', .slice B' ps.length d'] 25)
  have G0 := blk_new (w.alloc (.cells #[.int .i64 em, .slice A gs.length c, .slice B ps.length d] 25)) (.cells #[.int .i64 em, .slice A' gs.length c', .slice B' ps.length d'] 25)
  rw [size_alloc'] at G0
  go_enter Try.func23, Try.ntmps23
  go_upto_region 1 with (fail)
  generalize (w.alloc (.cells #[.int .i64 em, .slice A gs.length c, .slice B ps.length d] 25)).alloc (.cells #[.int .i64 em, .slice A' gs.length c', .slice B' ps.length d'] 25) = W0 at *
  obtain ⟨f0, f1, f2, _, _, _, fs⟩ := cells3 F0
  obtain ⟨g0, g1, g2, _, _, _, gs'⟩ := cells3 G0
  go_wp2_with fail
  clear f0 f1 f2 g0 g1 g2 fs gs'
  go_loopw [5] (fun vi wr => ∃ i : Nat, i ≤ gs.length ∧ vi = .int .i64 i ∧ Keep [] W0 wr) (fun vi _ => gs.length - (intOf vi).toNat)
  case atStart => exact ⟨0, Nat.zero_le _, rfl, Keep.refl _ _⟩
  case round =>
    obtain ⟨i, hi, rfl, K⟩ := hrel
    obtain ⟨f0, f1, f2, _, _, _, fs⟩ := cells3 (K.blk F0 (by simp))
    obtain ⟨g0, g1, g2, _, _, _, gs'⟩ := cells3 (K.blk G0 (by simp))
    by_cases hlt : i < gs.length
    · obtain ⟨y, hy⟩ : ∃ y, gs[i]? = some y := ⟨gs[i], List.getElem?_eq_getElem hlt⟩
      obtain ⟨ad, hA, hcs⟩ := h1.old (K0.trans K) (by simp) i y hy
      obtain ⟨bd, hB, hds⟩ := h3.old (K0.trans K) (by simp) i y hy
      have d0 := hcs 0 _ rfl
      have d1 := hcs 1 _ rfl
      have d2 := hcs 2 _ rfl
      have d3 := hcs 3 _ rfl
      have e0 := hds 0 _ rfl
      have e1 := hds 1 _ rfl
      have e2 := hds 2 _ rfl
      have e3 := hds 3 _ rfl
      rw [add_at _ _ _ (by omega)] at d1 d2 d3 e1 e2 e3
      rw [Nat.add_zero] at d0 e0
      have H1 := hid h1
      have H3 := hid h3
      clear hcs hds hy h1 h3
      subst hA hB
      go_upto_region 6 with (fail)
      go_quiet (fail)
      go_wp2
      go_roundw
      case rel => exact ⟨i + 1, hlt, by go_num, K.drewN _⟩
      case measure => simp [intOf]; omega
    · obtain rfl : i = gs.length := by omega
      go_wp2_with fail
      clear f0 f1 f2 g0 g1 g2 fs gs'
      rename_i hrel1 _ _ _ _ _ _
      go_loopw [6] (fun vi wr => ∃ i : Nat, i ≤ ps.length ∧ vi = .int .i64 i ∧ Keep [] W0 wr) (fun vi _ => ps.length - (intOf vi).toNat)
      case atStart => exact ⟨0, Nat.zero_le _, rfl, K⟩
      case round =>
        clear K
        obtain ⟨i, hi, rfl, K⟩ := hrel
        obtain ⟨f0, f1, f2, _, _, _, fs⟩ := cells3 (K.blk F0 (by simp))
        obtain ⟨g0, g1, g2, _, _, _, gs'⟩ := cells3 (K.blk G0 (by simp))
        by_cases hlt : i < ps.length
        · obtain ⟨y, hy⟩ : ∃ y, ps[i]? = some y := ⟨ps[i], List.getElem?_eq_getElem hlt⟩
          obtain ⟨ad, hA, hcs⟩ := h2.old (K0.trans K) (by simp) i y hy
          obtain ⟨bd, hB, hds⟩ := h4.old (K0.trans K) (by simp) i y hy
          have d0 := hcs 0 _ rfl
          have d1 := hcs 1 _ rfl
          have d2 := hcs 2 _ rfl
          have d3 := hcs 3 _ rfl
          have d4 := hcs 4 _ rfl
          have e0 := hds 0 _ rfl
          have e1 := hds 1 _ rfl
          have e2 := hds 2 _ rfl
          have e3 := hds 3 _ rfl
          have e4 := hds 4 _ rfl
          rw [add_at _ _ _ (by omega)] at d1 d2 d3 d4 e1 e2 e3 e4
          rw [Nat.add_zero] at d0 e0
          have H2 := hid h2
          have H4 := hid h4
          clear hcs hds hy h2 h4
          subst hA hB
          go_upto_region 11 with (fail)
          go_quiet (fail)
          go_wp2
          go_roundw
          case rel => exact ⟨i + 1, hlt, by go_num, K.drewN _⟩
          case measure => simp [intOf]; omega
        · obtain rfl : i = ps.length := by omega
          go_wp2
          go_ret
          exact ⟨rfl, K0.trans K⟩

theorem more_small (n k : Int) (w : World) (h0 : 0 ≤ n) (h1 : 0 ≤ k) (h : n + k ≤ 2147483647) : Calls Try.prog 36 #[.int .i64 n, .int .i64 k] w fun e w' => e = .returned (.int .i64 (n + k)) ∧ w = w' := by
  have hd : decide (2147483647 < n) = false := by simp; omega
  have hd2 : decide (2147483647 - n < k) = false := by simp; omega
  go_enter Try.func36, Try.ntmps36
  go_wp2
  go_ret
  exact ⟨rfl, rfl⟩
theorem more_great (n k : Int) (w : World) (h0 : 0 ≤ n) (h1 : 0 ≤ k) (h2 : n ≤ 9223372036854775807) (h3 : k ≤ 9223372036854775807) (h : 2147483647 < n + k) : Calls Try.prog 36 #[.int .i64 n, .int .i64 k] w fun e w' => e = .returned (.int .i64 2147483648) ∧ w = w' := by
  by_cases hn : 2147483647 < n
  · have hd : decide (2147483647 < n) = true := by simpa using hn
    go_enter Try.func36, Try.ntmps36
    go_wp2
    go_ret
    exact ⟨rfl, rfl⟩
  · have hd : decide (2147483647 < n) = false := by simp; omega
    have hd2 : decide (2147483647 - n < k) = true := by simp; omega
    go_enter Try.func36, Try.ntmps36
    go_wp2
    go_ret
    exact ⟨rfl, rfl⟩

theorem beyond_any (em : Int) (A B : Option Addr) (n m c d : Nat) (w : World) (hn : n ≤ 9223372036854775807) (hm : m ≤ 9223372036854775807) :
    Calls Try.prog 12 #[.agg #[.int .i64 em, .slice A n c, .slice B m d]] w fun e w' => e = .returned (.bool (decide (2147483647 < n + m))) ∧ Keep [] w w' := by
  by_cases h : n + m ≤ 2147483647
  · have E := hid (show decide (2147483647 < n + m) = false by simp; omega)
    have hd : decide ((2147483647 : Int) < (n : Int) + (m : Int)) = false := by simp; omega
    rw [E.out]
    go_enter Try.func12, Try.ntmps12
    go_wp2_with fail
    refine (more_small n m _ (by omega) (by omega) (by omega)).mono ?_
    rintro e w1 ⟨rfl, rfl⟩
    go_wp2
    go_ret
    exact ⟨rfl, (Keep.refl _ _).alloc _⟩
  · have E := hid (show decide (2147483647 < n + m) = true by simp; omega)
    rw [E.out]
    go_enter Try.func12, Try.ntmps12
    go_wp2_with fail
    refine (more_great n m _ (by omega) (by omega) (by omega) (by omega) (by omega)).mono ?_
    rintro e w1 ⟨rfl, rfl⟩
    go_wp2
    go_ret
    exact ⟨rfl, (Keep.refl _ _).alloc _⟩

end Go.Proofs.Ythcfgechifogeaa
