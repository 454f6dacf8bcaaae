/- The law's still: the lent font is as it was; then it is written over. -/
import Derived.Test.YthcfgechifogeaaTabKeepG
namespace Go.Proofs.Ythcfgechifogeaa
open Go.RowKit Go.Maps
set_option linter.unusedSimpArgs false
set_option linter.unusedVariables false

theorem rd_pre {α : Type} {enc : α → List Value} {sz : Nat} {w : World} {A : Option Addr} {xs ys : List α} (h : Rd enc sz w A (xs ++ ys)) : Rd enc sz w A xs := fun i x hx => h i x (by rw [List.getElem?_append_left (List.getElem?_eq_some_iff.1 hx).1]; exact hx)

theorem keep4' {S : List Nat} {u w : World} {n a b c d : Nat} (k : Keep S u w) (h : n ∈ S) (x y z t : Value) : Keep S u ((((w.setCell ⟨n, a, none⟩ x).setCell ⟨n, b, none⟩ y).setCell ⟨n, c, none⟩ z).setCell ⟨n, d, none⟩ t) :=
  (((k.set (.inl h) _).set (.inl h) _).set (.inl h) _).set (.inl h) _
theorem keep5' {S : List Nat} {u w : World} {n a b c d e : Nat} (k : Keep S u w) (h : n ∈ S) (x y z t r : Value) : Keep S u (((((w.setCell ⟨n, a, none⟩ x).setCell ⟨n, b, none⟩ y).setCell ⟨n, c, none⟩ z).setCell ⟨n, d, none⟩ t).setCell ⟨n, e, none⟩ r) :=
  ((((k.set (.inl h) _).set (.inl h) _).set (.inl h) _).set (.inl h) _).set (.inl h) _

set_option maxHeartbeats 2000000 in
set_option maxRecDepth 100000 in
theorem still_any (em : Int) (g p c d c' d' base : Nat) (A B : Option Addr) (gs : List GlyphX) (ps : List PairX) (w : World) (h1 : w.ownsRow base 45 4 (.slice (some ⟨g, 0, none⟩) (gs.length + 1) c) (gs.length + 1) ((gs ++ [markG]).flatMap GlyphX.row))
    (h2 : w.ownsRow base 52 5 (.slice (some ⟨p, 0, none⟩) (ps.length + 1) d) (ps.length + 1) ((ps ++ [markP]).flatMap PairX.row)) (h3 : Rd GlyphX.row 4 w A gs) (h4 : Rd PairX.row 5 w B ps) (hg : gs.length ≤ 2147483647) (hp : ps.length ≤ 2147483647) :
    Calls Try.prog 17 #[.agg #[.int .i64 em, .slice (some ⟨g, 0, none⟩) gs.length c, .slice (some ⟨p, 0, none⟩) ps.length d], .agg #[.int .i64 em, .slice A gs.length c', .slice B ps.length d']] w fun e w' => e = .returned (.bool true) ∧ Keep [g, p] w w' := by
  have K0 : Keep [] w ((w.alloc (.cells #[.int .i64 em, .slice (some ⟨g, 0, none⟩) gs.length c, .slice (some ⟨p, 0, none⟩) ps.length d] 25)).alloc (.cells #[.int .i64 em, .slice A gs.length c', .slice B ps.length d'] 25)) := ((Keep.refl _ _).alloc _).alloc _
  have F0 := blk_alloc (blk_new w (.cells #[.int .i64 em, .slice (some ⟨g, 0, none⟩) gs.length c, .slice (some ⟨p, 0, none⟩) ps.length d] 25)) (.cells #[.int .i64 em, .slice A gs.length c', .slice B ps.length d'] 25)
  have G0 := blk_new (w.alloc (.cells #[.int .i64 em, .slice (some ⟨g, 0, none⟩) gs.length c, .slice (some ⟨p, 0, none⟩) ps.length d] 25)) (.cells #[.int .i64 em, .slice A gs.length c', .slice B ps.length d'] 25)
  rw [size_alloc'] at G0
  go_enter Try.func17, Try.ntmps17
  go_upto_region 1 with (fail)
  generalize (w.alloc (.cells #[.int .i64 em, .slice (some ⟨g, 0, none⟩) gs.length c, .slice (some ⟨p, 0, none⟩) ps.length d] 25)).alloc (.cells #[.int .i64 em, .slice A gs.length c', .slice B ps.length d'] 25) = W0 at *
  have hgc : (gs.length : Int) + 1 ≤ (c : Int) := by
    obtain ⟨_, _, e, hc, _⟩ := own_rd row4 (xs := gs ++ [markG]) (by simpa using h1)
    simp at e hc
    omega
  have hpc : (ps.length : Int) + 1 ≤ (d : Int) := by
    obtain ⟨_, _, e, hc, _⟩ := own_rd row5 (xs := ps ++ [markP]) (by simpa using h2)
    simp at e hc
    omega
  have O1 := own_keep h1 K0 (by simp)
  have O2 := own_keep h2 K0 (by simp)
  have R3 := h3.old K0 (by simp)
  have R4 := h4.old K0 (by simp)
  have hne : g ≠ p := fun e => by
    obtain ⟨_, _, _, hcs⟩ := own_base h2 p (by simp [Value.ownBlock])
    exact own_ne h1 hcs (by decide) (by simp [Value.ownBlock, e])
  obtain ⟨f0, f1, f2, _, _, _, fs⟩ := cells3 F0
  obtain ⟨g0, g1, g2, _, _, _, gs'⟩ := cells3 G0
  clear h1 h2 h3 h4
  have R1 : Rd GlyphX.row 4 W0 (some ⟨g, 0, none⟩) gs := by
    obtain ⟨_, _, e, _, hr, _⟩ := own_rd row4 (xs := gs ++ [markG]) (by simpa using O1)
    simp at e
    obtain ⟨rfl, _⟩ := e
    exact rd_pre hr
  have R2 : Rd PairX.row 5 W0 (some ⟨p, 0, none⟩) ps := by
    obtain ⟨_, _, e, _, hr, _⟩ := own_rd row5 (xs := ps ++ [markP]) (by simpa using O2)
    simp at e
    obtain ⟨rfl, _⟩ := e
    exact rd_pre hr
  have m0 : W0.cell? ⟨g, gs.length * 4, none⟩ = some (.int .i64 (-77)) := by
    obtain ⟨b, e, _, _, h⟩ := own_at row4 (xs := gs ++ [markG]) (n := gs.length + 1) (by simpa using O1) (i := gs.length) (x := markG) (by simp)
    simp at e
    subst e
    exact h 0 _ rfl
  have n0 : W0.cell? ⟨p, ps.length * 5, none⟩ = some (.int .i64 (-77)) := by
    obtain ⟨b, e, _, _, h⟩ := own_at row5 (xs := ps ++ [markP]) (n := ps.length + 1) (by simpa using O2) (i := ps.length) (x := markP) (by simp)
    simp at e
    subst e
    exact h 0 _ rfl
  go_upto_region 3 with (fail)
  have CS := same_same em (some ⟨g, 0, none⟩) (some ⟨p, 0, none⟩) A B c d c' d' gs ps W0 R1 R2 R3 R4 hg hp
  clear R1 R2 R3 R4
  go_wp2_with fail
  refine CS.mono ?_
  clear CS
  rintro e w3 ⟨rfl, K3⟩
  have O1' := own_keep O1 K3 (by simp)
  have O2' := own_keep O2 K3 (by simp)
  have m1 := K3.cell' m0 (by simp)
  have n1 := K3.cell' n0 (by simp)
  have F3 := K3.blk F0 (by simp)
  have G3 := K3.blk G0 (by simp)
  have KW : Keep [g, p] w w3 := (K0.trans K3).mono (by simp)
  clear f0 f1 f2 fs g0 g1 g2 gs' m0 n0 O1 O2 K3 K0 F0 G0
  obtain ⟨g0, g1, g2, _, _, _, gs'⟩ := cells3 G3
  go_wp2_with fail
  clear g0 g1 g2 gs' m1 n1 F3 G3
  go_loopw [8] (fun vi wr => ∃ (i : Nat) (xs : List Value), i ≤ gs.length + 1 ∧ vi = .int .i64 i ∧ wr.ownsRow base 45 4 (.slice (some ⟨g, 0, none⟩) (gs.length + 1) c) (gs.length + 1) xs ∧ Keep [g] w3 wr) (fun vi _ => gs.length + 1 - (intOf vi).toNat)
  case atStart => exact ⟨0, _, Nat.zero_le _, rfl, O1', Keep.refl _ _⟩
  case round =>
    clear O1'
    obtain ⟨i, xs, hi, rfl, OX, K⟩ := hrel
    by_cases hlt : i < gs.length + 1
    · obtain ⟨⟨u0, e0⟩, f0⟩ := own_cell (j := i * 4) OX (by omega)
      obtain ⟨⟨u1, e1⟩, f1⟩ := own_cell (j := i * 4 + 1) OX (by omega)
      obtain ⟨⟨u2, e2⟩, f2⟩ := own_cell (j := i * 4 + 2) OX (by omega)
      obtain ⟨⟨u3, e3⟩, f3⟩ := own_cell (j := i * 4 + 3) OX (by omega)
      have OY := hid (own_put4 (i := i) OX (.int .i64 97) (.int .i64 1) (.int .i64 0) (.int .i64 0))
      have hi2 : (i : Int) < (gs.length : Int) + 1 := by omega
      have hi3 : (0 : Int) ≤ (i : Int) := by omega
      go_wp2
      go_roundw
      case rel => exact ⟨i + 1, _, hlt, by go_num, OY.out, keep4' K (by simp) _ _ _ _⟩
      case measure => simp [intOf]; omega
    · obtain rfl : i = gs.length + 1 := by omega
      have O2r := own_keep O2' K (by simp [Value.ownBlock, Ne.symm hne]; exact fun e => hne e)
      go_wp2_with fail
      have KX : Keep [g, p] w3 wr := K.mono (by simp)
      clear K OX O2'
      go_loopw [9] (fun vi wr => ∃ (i : Nat) (xs : List Value), i ≤ ps.length + 1 ∧ vi = .int .i64 i ∧ wr.ownsRow base 52 5 (.slice (some ⟨p, 0, none⟩) (ps.length + 1) d) (ps.length + 1) xs ∧ Keep [g, p] w3 wr) (fun vi _ => ps.length + 1 - (intOf vi).toNat)
      case atStart => exact ⟨0, _, Nat.zero_le _, rfl, O2r, KX⟩
      case round =>
        clear O2r KX
        obtain ⟨i, xs, hi, rfl, OX, K⟩ := hrel
        by_cases hlt : i < ps.length + 1
        · obtain ⟨⟨u0, e0⟩, f0⟩ := own_cell (j := i * 5) OX (by omega)
          obtain ⟨⟨u1, e1⟩, f1⟩ := own_cell (j := i * 5 + 1) OX (by omega)
          obtain ⟨⟨u2, e2⟩, f2⟩ := own_cell (j := i * 5 + 2) OX (by omega)
          obtain ⟨⟨u3, e3⟩, f3⟩ := own_cell (j := i * 5 + 3) OX (by omega)
          obtain ⟨⟨u4, e4⟩, f4⟩ := own_cell (j := i * 5 + 4) OX (by omega)
          have OY := hid (own_put5 (i := i) OX (.int .i64 97) (.int .i64 97) (.bool false) (.int .i64 0) (.int .i64 1))
          have hi2 : (i : Int) < (ps.length : Int) + 1 := by omega
          have hi3 : (0 : Int) ≤ (i : Int) := by omega
          go_wp2
          go_roundw
          case rel => exact ⟨i + 1, _, hlt, by go_num, OY.out, keep5' K (by simp) _ _ _ _ _⟩
          case measure => simp [intOf]; omega
        · obtain rfl : i = ps.length + 1 := by omega
          go_wp2
          go_ret
          exact ⟨rfl, KW.trans K⟩

end Go.Proofs.Ythcfgechifogeaa
