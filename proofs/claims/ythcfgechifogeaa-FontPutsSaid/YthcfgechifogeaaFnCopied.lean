/- Font: the law's copied; a font's lists are small by the reach. -/
import Derived.Test.YthcfgechifogeaaFnOpen
import Derived.Test.YthcfgechifogeaaFnSame
import Derived.Test.YthcfgechifogeaaCopyList
import Derived.SizedLaws
namespace Go.Proofs.Ythcfgechifogeaa
open Go.RowKit Go.Deep
set_option linter.unusedSimpArgs false
set_option linter.unusedVariables false

theorem slice_weight {H : Type} {enc : TypeId × Value → H} {P : Program} {w : World} {base : Nat} {spare : Nat → Bool} {held : Bool} {t e : TypeId} {fuel : Nat} {A : Option Addr} {n c : Nat} {y : DataW H × List MemPlace} (ht : P.underlying t = some (.slice e))
    (h : DataW.trod enc P w base spare held fuel t [.slice A n c] = some y) (z : ∀ k ∈ y.1.weights P t, k ≤ reachBytes) : n * P.bytesOf e ≤ reachBytes := by
  rcases open_slice ht h with ⟨h1, _⟩ | ⟨a, l, c', m, n', D, Pl, h1, _, hl, hm, hmm, hx, hi⟩
  · simp at h1
    rw [h1.2.1]
    simp
  · simp at h1
    obtain ⟨_, rfl, _⟩ := h1
    subst hx
    have hz := z ((n + (m - n)) * P.bytesOf e) (by simp [DataW.weights, ht])
    exact Nat.le_trans (Nat.mul_le_mul_right _ (by omega)) hz
set_option maxRecDepth 100000 in
theorem font_small {H : Type} {enc : TypeId × Value → H} {W : World} {f : FontX} {d0 : DataW H} {p0 : List MemPlace} (h0 : DataW.Trod enc Try.prog W 0 (fun _ => true) true 25 f.val d0 p0) (z0 : ∀ n ∈ d0.weights Try.prog 25, n ≤ reachBytes) : f.gs.length ≤ 4398046511104 ∧ f.ps.length ≤ 4398046511104 := by
  obtain ⟨fuel, hf⟩ := h0
  obtain ⟨ys, n, _, hD, hcl, hyl, hfld⟩ := DataW.trod_struct Try.underlying25 hf
  have hc1 : Try.prog.cellsOf 3 = 1 := by kernel_rfl
  have hcg : Try.prog.cellsOf 22 = 1 := by kernel_rfl
  have hcp : Try.prog.cellsOf 23 = 1 := by kernel_rfl
  have hbg : Try.prog.bytesOf 45 = 32 := by kernel_rfl
  have hbp : Try.prog.bytesOf 52 = 40 := by kernel_rfl
  have hr : reachBytes = 140737488351232 := by decide
  match ys, hyl with
  | [y0, y1, y2], _ =>
    have g1 := hfld 1 _ rfl
    have g2 := hfld 2 _ rfl
    simp [FontX.val, Value.cells, hcg, hcp] at g1 g2
    simp only [Prod.mk.injEq] at hD
    obtain ⟨rfl, _⟩ := hD
    have zw : ∀ k ∈ DataW.weightsEach Try.prog [3, 22, 23] [y0.1, y1.1, y2.1], k ≤ reachBytes := by
      have e : (DataW.agg [y0.1, y1.1, y2.1]).weights Try.prog 25 = DataW.weightsEach Try.prog [3, 22, 23] [y0.1, y1.1, y2.1] := by
        rw [DataW.weights, Try.underlying25]
        rfl
      rw [← e]
      exact z0
    have w1 := slice_weight Try.underlying22 g1 (fun k hk => zw k (DataW.weights_mem_each (j := 1) rfl rfl k hk))
    have w2 := slice_weight Try.underlying23 g2 (fun k hk => zw k (DataW.weights_mem_each (j := 2) rfl rfl k hk))
    rw [hbg, hr] at w1
    rw [hbp, hr] at w2
    omega
theorem glyph_one (y : GlyphX) : ∀ u ∈ GlyphX.row y, u.oneCell' = true := fun u hu => by simp [GlyphX.row] at hu; rcases hu with rfl | rfl | rfl | rfl <;> rfl
theorem pair_one (y : PairX) : ∀ u ∈ PairX.row y, u.oneCell' = true := fun u hu => by simp [PairX.row] at hu; rcases hu with rfl | rfl | rfl | rfl | rfl <;> rfl

/-- A copied font: its blocks, each with a mark behind. -/
def Copied (w : World) (gs : List GlyphX) (ps : List PairX) (g p : Nat) : Prop :=
  (∃ u : List Value, u.length = 4 ∧ w.heap[g]? = some (.cells (gs.flatMap GlyphX.row ++ u.set 0 (.int .i64 (-77))).toArray 45 (0, 0))) ∧
  (∃ u : List Value, u.length = 5 ∧ w.heap[p]? = some (.cells (ps.flatMap PairX.row ++ u.set 0 (.int .i64 (-77))).toArray 52 (0, 0)))

set_option maxHeartbeats 4000000 in
set_option maxRecDepth 100000 in
theorem copied_any (f : FontX) (w : World) (h : IsF w f) (hg : f.gs.length ≤ 4398046511104) (hp : f.ps.length ≤ 4398046511104) : Calls Try.prog 25 #[f.val] w fun e w' =>
    ∃ g p, e = .returned (.agg #[.int .i64 f.em, .slice (some ⟨g, 0, none⟩) f.gs.length (f.gs.length + 1), .slice (some ⟨p, 0, none⟩) f.ps.length (f.ps.length + 1)]) ∧ w.heap.size ≤ g ∧ w.heap.size ≤ p ∧ Copied w' f.gs f.ps g p ∧ Keep [] w w' := by
  obtain ⟨em, ga, gc, pa, pc, gs, ps⟩ := f
  have hgr := h.gr
  have hpr := h.pr
  simp only [FontX.val] at *
  clear h
  obtain ⟨i0, hi, hz0, hz1, hz2⟩ := info_parts (show (Try.prog.info? 45).map (fun i => (i.zero, i.size, i.bytes)) = some (some (.agg #[.int .i64 0, .int .i64 0, .int .i64 0, .int .i64 0]), 4, 32) by kernel_rfl)
  obtain ⟨j0, ji, jz0, jz1, jz2⟩ := info_parts (show (Try.prog.info? 52).map (fun i => (i.zero, i.size, i.bytes)) = some (some (.agg #[.int .i64 0, .int .i64 0, .bool false, .int .i64 0, .int .i64 0]), 5, 40) by kernel_rfl)
  have K0 : Keep [] w ((w.alloc (.cells #[.int .i64 em, .slice ga gs.length gc, .slice pa ps.length pc] 25)).alloc (.cells #[.int .i64 0, .slice none 0 0, .slice none 0 0] 25)) := ((Keep.refl _ _).alloc _).alloc _
  have F0 := blk_alloc (blk_new w (.cells #[.int .i64 em, .slice ga gs.length gc, .slice pa ps.length pc] 25)) (.cells #[.int .i64 0, .slice none 0 0, .slice none 0 0] 25)
  have R0 := blk_new (w.alloc (.cells #[.int .i64 em, .slice ga gs.length gc, .slice pa ps.length pc] 25)) (.cells #[.int .i64 0, .slice none 0 0, .slice none 0 0] 25)
  rw [size_alloc'] at R0
  go_enter Try.func25, Try.ntmps25
  go_upto_region 1 with (fail)
  generalize (w.alloc (.cells #[.int .i64 em, .slice ga gs.length gc, .slice pa ps.length pc] 25)).alloc (.cells #[.int .i64 0, .slice none 0 0, .slice none 0 0] 25) = W0 at *
  generalize hn0 : w.heap.size = n0 at *
  have r1 := hgr.old K0 (by simp)
  have r2 := hpr.old K0 (by simp)
  clear hgr hpr
  obtain ⟨f0, f1, f2, _, _, _, fs⟩ := cells3 F0
  have e1 : IntKind.i64.wrap ((gs.length : Int) + 1) = ((gs.length + 1 : Nat) : Int) := IntWalk.i64_in _ (by omega)
  have e2 : IntKind.i64.wrap ((ps.length : Int) + 1) = ((ps.length + 1 : Nat) : Int) := IntWalk.i64_in _ (by omega)
  go_upto_region 2 with (first | ((with_reducible refine wpList_make_full _ rfl _ _ _ rfl W0.heap.size 45 i0 (.agg #[.int .i64 0, .int .i64 0, .int .i64 0, .int .i64 0]) 4 (by kernel_rfl) hi hz0 hz1 .i64 .i64 _ _ (gs.length + 1) rfl rfl (by simp) (by simp) (by rw [hz2]; omega) (by simp [maxLen]; omega) (Nat.le_refl _) ?_); rintro w4 O4 G4))
  obtain ⟨cur, B4, hcs⟩ := made_any O4
  have K4 : Keep [] W0 w4 := Keep.grown (Keep.refl _ _) G4 (by simp)
  have F4 := K4.blk F0 (by simp)
  have R4 := K4.blk R0 (by simp)
  have s1 := r1.old K4 (by simp)
  have s2 := r2.old K4 (by simp)
  have K04 := K0.trans K4
  have hg0 := blk_lt R0
  have H2 := hid r2
  clear f0 f1 f2 F0 R0 r1 r2 O4 G4 hi hz0 hz1 hz2
  obtain ⟨f0, f1, f2, _, _, _, fs'⟩ := cells3 F4
  generalize hgg : W0.heap.size = g at *
  go_upto_region 3 with (first | ((with_reducible refine copy_list (enc := GlyphX.row) rfl _ _ 22 45 4 rfl (by kernel_rfl) (by kernel_rfl) rfl rfl rfl (by omega) B4 s1 (fun _ => rfl) (by omega) glyph_one (by rw [hcs]; omega) ?_); rintro w5 B5 K5))
  obtain ⟨z5, x5⟩ := cell_back (enc := GlyphX.row) (sz := 4) (fun _ => rfl) B5 (by simp; omega)
  have y5 := blk_free B5 (gs.length * 4)
  have F5 := K5.blk F4 (by simp; omega)
  clear f0 f1 f2
  obtain ⟨f0, f1, f2, _, _, _, fs5⟩ := cells3 F5
  go_upto_region 4 with (fail)
  have KS : Keep [g] w4 (w5.setCell ⟨g, gs.length * 4, none⟩ (.int .i64 (-77))) := K5.set (.inl (by simp)) _
  have K6 : Keep [] W0 (w5.setCell ⟨g, gs.length * 4, none⟩ (.int .i64 (-77))) := K4.then (S := []) KS (by simp; omega)
  have B6 := mark_blk (enc := GlyphX.row) (sz := 4) (fun _ => rfl) B5 (.int .i64 (-77))
  have F6 := KS.blk F4 (by simp; omega)
  have R6 := KS.blk R4 (by simp; omega)
  have hul : (cur.toList.drop (gs.length * 4)).length = 4 := by simp <;> omega
  generalize w5.setCell ⟨g, gs.length * 4, none⟩ (.int .i64 (-77)) = W6 at *
  generalize cur.toList.drop (gs.length * 4) = u at *
  clear f0 f1 f2 K4 K5 KS B4 B5 F4 F5 R4 s1 s2 K04 x5 y5 hcs
  have t2 := H2.out.old K6 (by simp)
  have hg6 := blk_lt B6
  obtain ⟨f0, f1, f2, _, _, _, fs6⟩ := cells3 F6
  go_upto_region 5 with (first | ((with_reducible refine wpList_make_full _ rfl _ _ _ rfl W6.heap.size 52 j0 (.agg #[.int .i64 0, .int .i64 0, .bool false, .int .i64 0, .int .i64 0]) 5 (by kernel_rfl) ji jz0 jz1 .i64 .i64 _ _ (ps.length + 1) rfl rfl (by simp) (by simp) (by rw [jz2]; omega) (by simp [maxLen]; omega) (Nat.le_refl _) ?_); rintro w7 O7 G7))
  obtain ⟨cur, B7, hcs⟩ := made_any O7
  have K7 : Keep [] W6 w7 := Keep.grown (Keep.refl _ _) G7 (by simp)
  have F7 := K7.blk F6 (by simp)
  have R7 := K7.blk R6 (by simp)
  have t7 := t2.old K7 (by simp)
  have B6' := K7.blk B6 (by simp)
  clear f0 f1 f2 O7 G7 ji jz0 jz1 jz2
  obtain ⟨f0, f1, f2, _, _, _, fs7⟩ := cells3 F7
  generalize hpp : W6.heap.size = p at *
  go_upto_region 6 with (first | ((with_reducible refine copy_list (enc := PairX.row) rfl _ _ 23 52 5 rfl (by kernel_rfl) (by kernel_rfl) rfl rfl rfl (by omega) B7 t7 (fun _ => rfl) (by omega) pair_one (by rw [hcs]; omega) ?_); rintro w8 B8 K8))
  obtain ⟨z8, x8⟩ := cell_back (enc := PairX.row) (sz := 5) (fun _ => rfl) B8 (by simp; omega)
  have y8 := blk_free B8 (ps.length * 5)
  have F8 := K8.blk F7 (by simp; omega)
  clear f0 f1 f2
  obtain ⟨f0, f1, f2, _, _, _, fs8⟩ := cells3 F8
  go_upto_region 7 with (fail)
  have KS : Keep [p] w7 (w8.setCell ⟨p, ps.length * 5, none⟩ (.int .i64 (-77))) := K8.set (.inl (by simp)) _
  have K9 : Keep [] W6 (w8.setCell ⟨p, ps.length * 5, none⟩ (.int .i64 (-77))) := K7.then (S := []) KS (by simp; omega)
  have B9 := mark_blk (enc := PairX.row) (sz := 5) (fun _ => rfl) B8 (.int .i64 (-77))
  have F9 := KS.blk F7 (by simp; omega)
  have R9 := KS.blk R7 (by simp; omega)
  have B6'' := KS.blk B6' (by simp; omega)
  have hvl : (cur.toList.drop (ps.length * 5)).length = 5 := by simp <;> omega
  generalize w8.setCell ⟨p, ps.length * 5, none⟩ (.int .i64 (-77)) = W9 at *
  generalize cur.toList.drop (ps.length * 5) = v at *
  clear f0 f1 f2 K7 K8 KS B7 B8 F7 F8 R7 t2 t7 x8 y8 hcs B6 B6' F6 R6
  have KF := (K0.trans K6).trans K9
  obtain ⟨f0, f1, f2, _, _, _, fs9⟩ := cells3 F9
  obtain ⟨r0, r1, r2, rf0, rf1, rf2, rs9⟩ := cells3 R9
  go_region
  have RZ := blk_drew (blk_set (blk_set (blk_set R9 0 (.int .i64 em)) 1 (.slice (some ⟨g, 0, none⟩) gs.length (gs.length + 1))) 2 (.slice (some ⟨p, 0, none⟩) ps.length (ps.length + 1)))
  have KZ : Keep [n0 + 1] W9 (((W9.setCell ⟨n0 + 1, 0, none⟩ (.int .i64 em)).setCell ⟨n0 + 1, 1, none⟩ (.slice (some ⟨g, 0, none⟩) gs.length (gs.length + 1))).setCell ⟨n0 + 1, 2, none⟩ (.slice (some ⟨p, 0, none⟩) ps.length (ps.length + 1))).drew := ((((Keep.refl _ _).set (.inl (by simp)) _).set (.inl (by simp)) _).set (.inl (by simp)) _).drew
  generalize (((W9.setCell ⟨n0 + 1, 0, none⟩ (.int .i64 em)).setCell ⟨n0 + 1, 1, none⟩ (.slice (some ⟨g, 0, none⟩) gs.length (gs.length + 1))).setCell ⟨n0 + 1, 2, none⟩ (.slice (some ⟨p, 0, none⟩) ps.length (ps.length + 1))).drew = WZ at *
  clear f0 f1 f2 r0 r1 r2
  obtain ⟨z0, z1, z2, _, _, _, _⟩ := cells3 RZ
  go_wp2
  refine bodyPost_ret (v := .agg #[.int .i64 em, .slice (some ⟨g, 0, none⟩) gs.length (gs.length + 1), .slice (some ⟨p, 0, none⟩) ps.length (ps.length + 1)]) (by simp [results, Try.results25, go_sem, z0, z1, z2]) rfl ?_
  have hsz : n0 ≤ p := by have := K6.size; omega
  exact ⟨g, p, rfl, by omega, by omega, ⟨⟨u, hul, KZ.blk B6'' (by simp; omega)⟩, ⟨v, hvl, KZ.blk B9 (by simp; omega)⟩⟩, KF.then (S := []) KZ (by simp; omega)⟩
end Go.Proofs.Ythcfgechifogeaa
