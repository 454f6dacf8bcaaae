/- The law's lent: a font in memory of its own, with a mark behind each list. -/
import Derived.Test.YthcfgechifogeaaTabSame
import Derived.Test.YthcfgechifogeaaStep
import Derived.Test.YthcfgechifogeaaTabFont
namespace Go.Proofs.Ythcfgechifogeaa
open Go.RowKit Go.Maps
set_option linter.unusedSimpArgs false
set_option linter.unusedVariables false

def markG : GlyphX := ⟨-77, 0, 0, 0⟩
def markP : PairX := ⟨-77, 0, false, 0, 0⟩
/-- A lent font: its lists lie at the head of two blocks, each with the mark behind it, and room for it. -/
structure IsLent (w : World) (base : Nat) (f : FontX) (g p : Nat) : Prop where
  ga : f.ga = some ⟨g, 0, none⟩
  pa : f.pa = some ⟨p, 0, none⟩
  gown : w.ownsRow base 45 4 (.slice f.ga (f.gs.length + 1) f.gc) (f.gs.length + 1) ((f.gs ++ [markG]).flatMap GlyphX.row)
  pown : w.ownsRow base 52 5 (.slice f.pa (f.ps.length + 1) f.pc) (f.ps.length + 1) ((f.ps ++ [markP]).flatMap PairX.row)
theorem own_other {w w1 : World} {base : Nat} {e : TypeId} {sz n : Nat} {v : Value} {xs : List Value} {row : Option Nat} (h : w.ownsRow base e sz v n xs) (hg : w.grownBy w1 row) (hne : ∀ b, v.ownBlock = some b → some b ≠ row) : w1.ownsRow base e sz v n xs := by
  obtain ⟨k1, k2⟩ := h
  refine ⟨k1, ?_⟩
  rcases k2 with k2 | ⟨g, cap, cur, hv, hgb, hh, rest⟩
  · exact .inl k2
  · exact .inr ⟨g, cap, cur, hv, hgb, blk_grown hh hg (hne g (by rw [hv]; rfl)), rest⟩
theorem own_some {w : World} {base : Nat} {e : TypeId} {sz n c : Nat} {A : Option Addr} {xs : List Value} (h : w.ownsRow base e sz (.slice A (n + 1) c) (n + 1) xs) : ∃ g, A = some ⟨g, 0, none⟩ ∧ n + 1 ≤ c := by
  rcases h.2 with ⟨h1, h2⟩ | ⟨g, cap, cur, hv, _, _, hc, _⟩
  · omega
  · simp at hv
    obtain ⟨rfl, rfl⟩ := hv
    exact ⟨g, rfl, hc⟩
def LentPost (f : FontX) (w : World) (e : Ending) (w' : World) : Prop :=
  ∃ x : FontX, ∃ g p, e = .returned x.val ∧ x.em = f.em ∧ x.gs = f.gs ∧ x.ps = f.ps ∧ IsLent w' w.heap.size x g p ∧ Keep [] w w'

set_option maxHeartbeats 2000000 in
set_option maxRecDepth 100000 in
theorem lent_any (f : FontX) (w : World) (h : IsF w f) : Calls Try.prog 14 #[f.val] w fun e w' => LentPost f w e w' := by
  obtain ⟨em, ga, gc, pa, pc, gs, ps⟩ := f
  have hgl : gs.length ≤ 2147483647 := h.gl
  have hpl : ps.length ≤ 2147483647 := h.pl_
  have hA : ga = none → gs.length = 0 := h.gn
  have hP : pa = none → ps.length = 0 := h.pn
  simp only [FontX.val]
  go_enter Try.func14, Try.ntmps14
  go_upto_region 2 with (fail)
  have K0 : Keep [] w (((w.alloc (.cells #[.int .i64 em, .slice ga gs.length gc, .slice pa ps.length pc] 25)).alloc (.cells #[.int .i64 0, .slice none 0 0, .slice none 0 0] 25)).alloc (.cells #[.int .i64 em, .slice none 0 0, .slice none 0 0] 25)) := (((Keep.refl _ _).alloc _).alloc _).alloc _
  have F0 := blk_alloc (blk_alloc (blk_new w (.cells #[.int .i64 em, .slice ga gs.length gc, .slice pa ps.length pc] 25)) (.cells #[.int .i64 0, .slice none 0 0, .slice none 0 0] 25)) (.cells #[.int .i64 em, .slice none 0 0, .slice none 0 0] 25)
  have Z0 := blk_alloc (blk_new (w.alloc (.cells #[.int .i64 em, .slice ga gs.length gc, .slice pa ps.length pc] 25)) (.cells #[.int .i64 0, .slice none 0 0, .slice none 0 0] 25)) (.cells #[.int .i64 em, .slice none 0 0, .slice none 0 0] 25)
  have X0 := blk_new ((w.alloc (.cells #[.int .i64 em, .slice ga gs.length gc, .slice pa ps.length pc] 25)).alloc (.cells #[.int .i64 0, .slice none 0 0, .slice none 0 0] 25)) (.cells #[.int .i64 em, .slice none 0 0, .slice none 0 0] 25)
  simp only [size_alloc'] at Z0 X0
  generalize ((w.alloc (.cells #[.int .i64 em, .slice ga gs.length gc, .slice pa ps.length pc] 25)).alloc (.cells #[.int .i64 0, .slice none 0 0, .slice none 0 0] 25)).alloc (.cells #[.int .i64 em, .slice none 0 0, .slice none 0 0] 25) = W0 at *
  have nfx : w.heap.size ≠ w.heap.size + 1 + 1 := by omega
  have nzx : w.heap.size + 1 ≠ w.heap.size + 1 + 1 := by omega
  have hx0 : w.heap.size ≤ w.heap.size + 1 + 1 := by omega
  have hz0 : w.heap.size ≤ w.heap.size + 1 := by omega
  generalize hX : w.heap.size + 1 + 1 = X at *
  generalize hZ : w.heap.size + 1 = Z at *
  clear hX hZ
  obtain ⟨f0, f1, f2, _, _, _, fs⟩ := cells3 F0
  obtain ⟨x0, x1, x2, xf0, xf1, xf2, xs⟩ := cells3 X0
  have r0 := h.gr.old K0 (by simp)
  have hb0 : w.heap.size ≤ W0.heap.size := K0.size
  go_upto_region 3 with (at_builtin; (refine append_list (enc := GlyphX.row) rfl _ _ 22 (.agg #[.int .i64 0, .int .i64 0, .int .i64 0, .int .i64 0]) 4 32 rfl (by kernel_rfl) (by kernel_rfl) (by kernel_rfl) (by decide) (by decide) w.heap.size (.slice none 0 0) 0 [] rfl rfl rfl hA r0 row4 one4 (World.ownsRow_nil W0 w.heap.size 45 4) hb0 (by omega) ?_; rintro v1 w1 O1 G1; (try simp only [Nat.zero_add, List.nil_append] at O1); (try rw [Nat.zero_add]); obtain ⟨A1, c1, rfl⟩ := own_slice O1; obtain ⟨t0, t1, t2, tf0, tf1, tf2, ts⟩ := cells3 (blk_grown X0 G1 (by simp [Value.ownBlock]))))
  clear f0 f1 f2 fs x0 x1 x2 xf0 xf1 xf2 xs t0 t1 t2 tf0 tf1 tf2 ts r0
  have K1 : Keep [] w (w1.setCell ⟨X, 1, none⟩ (.slice A1 gs.length c1)) := (Keep.grown K0 G1 (fun k hk => by simp [Value.ownBlock] at hk)).set (p := ⟨X, 1, none⟩) (.inr hx0) _
  have KS1 : Keep [X] w1 (w1.setCell ⟨X, 1, none⟩ (.slice A1 gs.length c1)) := (Keep.refl _ _).set (.inl (by simp)) _
  have XX := blk_grown X0 G1 (by simp [Value.ownBlock])
  have F1 := KS1.blk (blk_grown F0 G1 (by simp [Value.ownBlock])) (by simpa using nfx)
  have Z1 := KS1.blk (blk_grown Z0 G1 (by simp [Value.ownBlock])) (by simpa using nzx)
  have X1 := (blk_set XX 1 (.slice A1 gs.length c1)).trans (show _ = some (.cells #[.int .i64 em, .slice A1 gs.length c1, .slice none 0 0] 25 (0, 0)) by simp)
  have P1 := own_keep O1 KS1 (fun b hb => by simp at hb; subst hb; exact own_ne O1 XX (by decide))
  clear XX KS1 O1 G1 K0 F0 Z0 X0 hb0
  generalize w1.setCell ⟨X, 1, none⟩ (.slice A1 gs.length c1) = W1 at *
  obtain ⟨f0, f1, f2, _, _, _, fs⟩ := cells3 F1
  obtain ⟨x0, x1, x2, xf0, xf1, xf2, xs⟩ := cells3 X1
  have hb1 : w.heap.size ≤ W1.heap.size := K1.size
  go_upto_region 4 with (at_builtin; (refine append_cells rfl _ _ 22 (.agg #[.int .i64 0, .int .i64 0, .int .i64 0, .int .i64 0]) 4 32 rfl (by kernel_rfl) (by kernel_rfl) (by kernel_rfl) (by decide) (by decide) w.heap.size (.slice A1 gs.length c1) gs.length _ rfl rfl (by simp) rfl (by simp [Value.oneCell']) P1 hb1 (by omega) ?_; rintro v2 w2 O2 G2; obtain ⟨A2, c2, rfl⟩ := own_slice O2; obtain ⟨t0, t1, t2, tf0, tf1, tf2, ts⟩ := cells3 (blk_grown (blk_alloc X1 _) G2 (own_ne P1 X1 (by decide)))))
  clear f0 f1 f2 fs x0 x1 x2 xf0 xf1 xf2 xs t0 t1 t2 tf0 tf1 tf2 ts
  have K2 : Keep [] w (w2.setCell ⟨X, 1, none⟩ (.slice A2 (gs.length + 1) c2)) := (Keep.grown (K1.alloc _) G2 (fun k hk => .inr (own_base P1 k hk).1)).set (p := ⟨X, 1, none⟩) (.inr hx0) _
  have KS2 : Keep [X] w2 (w2.setCell ⟨X, 1, none⟩ (.slice A2 (gs.length + 1) c2)) := (Keep.refl _ _).set (.inl (by simp)) _
  have XX := blk_grown (blk_alloc X1 _) G2 (own_ne P1 X1 (by decide))
  have F2 := KS2.blk (blk_grown (blk_alloc F1 _) G2 (own_ne P1 F1 (by decide))) (by simpa using nfx)
  have Z2 := KS2.blk (blk_grown (blk_alloc Z1 _) G2 (own_ne P1 Z1 (by decide))) (by simpa using nzx)
  have X2 := (blk_set XX 1 (.slice A2 (gs.length + 1) c2)).trans (show _ = some (.cells #[.int .i64 em, .slice A2 (gs.length + 1) c2, .slice none 0 0] 25 (0, 0)) by simp)
  have O2' : w2.ownsRow w.heap.size 45 4 (.slice A2 (gs.length + 1) c2) (gs.length + 1) ((gs ++ [markG]).flatMap GlyphX.row) := by rw [List.flatMap_append]; exact O2
  have P2 := own_keep O2' KS2 (fun b hb => by simp at hb; subst hb; exact own_ne O2' XX (by decide))
  clear XX KS2 O2 O2' G2 K1 F1 Z1 X1 P1 hb1
  generalize w2.setCell ⟨X, 1, none⟩ (.slice A2 (gs.length + 1) c2) = W2 at *
  obtain ⟨f0, f1, f2, _, _, _, fs⟩ := cells3 F2
  obtain ⟨x0, x1, x2, xf0, xf1, xf2, xs⟩ := cells3 X2
  have r2 := h.pr.old K2 (by simp)
  have hb2 : w.heap.size ≤ W2.heap.size := K2.size
  go_upto_region 5 with (at_builtin; (refine append_list (enc := PairX.row) rfl _ _ 23 (.agg #[.int .i64 0, .int .i64 0, .bool false, .int .i64 0, .int .i64 0]) 5 40 rfl (by kernel_rfl) (by kernel_rfl) (by kernel_rfl) (by decide) (by decide) w.heap.size (.slice none 0 0) 0 [] rfl rfl rfl hP r2 row5 one5 (World.ownsRow_nil W2 w.heap.size 52 5) hb2 (by omega) ?_; rintro v3 w3 O3 G3; (try simp only [Nat.zero_add, List.nil_append] at O3); (try rw [Nat.zero_add]); obtain ⟨A3, c3, rfl⟩ := own_slice O3; obtain ⟨t0, t1, t2, tf0, tf1, tf2, ts⟩ := cells3 (blk_grown X2 G3 (by simp [Value.ownBlock]))))
  clear f0 f1 f2 fs x0 x1 x2 xf0 xf1 xf2 xs t0 t1 t2 tf0 tf1 tf2 ts r2
  have K3 : Keep [] w (w3.setCell ⟨X, 2, none⟩ (.slice A3 ps.length c3)) := (Keep.grown K2 G3 (fun k hk => by simp [Value.ownBlock] at hk)).set (p := ⟨X, 2, none⟩) (.inr hx0) _
  have KG3 : Keep [] W2 w3 := Keep.grown (Keep.refl _ _) G3 (fun k hk => by simp [Value.ownBlock] at hk)
  have KS3 : Keep [X] w3 (w3.setCell ⟨X, 2, none⟩ (.slice A3 ps.length c3)) := (Keep.refl _ _).set (.inl (by simp)) _
  have XX := blk_grown X2 G3 (by simp [Value.ownBlock])
  have F3 := KS3.blk (blk_grown F2 G3 (by simp [Value.ownBlock])) (by simpa using nfx)
  have Z3 := KS3.blk (blk_grown Z2 G3 (by simp [Value.ownBlock])) (by simpa using nzx)
  have X3 := (blk_set XX 2 (.slice A3 ps.length c3)).trans (show _ = some (.cells #[.int .i64 em, .slice A2 (gs.length + 1) c2, .slice A3 ps.length c3] 25 (0, 0)) by simp)
  have P3 := own_keep (own_keep P2 KG3 (by simp)) KS3 (fun b hb => by simp at hb; subst hb; exact own_ne (own_keep P2 KG3 (by simp)) XX (by decide))
  have Q3 := own_keep O3 KS3 (fun b hb => by simp at hb; subst hb; exact own_ne O3 XX (by decide))
  clear XX KS3 KG3 O3 G3 K2 F2 Z2 X2 P2 hb2
  generalize w3.setCell ⟨X, 2, none⟩ (.slice A3 ps.length c3) = W3 at *
  obtain ⟨f0, f1, f2, _, _, _, fs⟩ := cells3 F3
  obtain ⟨x0, x1, x2, xf0, xf1, xf2, xs⟩ := cells3 X3
  have hb3 : w.heap.size ≤ W3.heap.size := K3.size
  go_upto_region 6 with (at_builtin; (refine append_cells rfl _ _ 23 (.agg #[.int .i64 0, .int .i64 0, .bool false, .int .i64 0, .int .i64 0]) 5 40 rfl (by kernel_rfl) (by kernel_rfl) (by kernel_rfl) (by decide) (by decide) w.heap.size (.slice A3 ps.length c3) ps.length _ rfl rfl (by simp) rfl (by simp [Value.oneCell']) Q3 hb3 (by omega) ?_; rintro v4 w4 O4 G4; obtain ⟨A4, c4, rfl⟩ := own_slice O4; obtain ⟨t0, t1, t2, tf0, tf1, tf2, ts⟩ := cells3 (blk_grown (blk_alloc X3 _) G4 (own_ne Q3 X3 (by decide)))))
  clear f0 f1 f2 fs x0 x1 x2 xf0 xf1 xf2 xs t0 t1 t2 tf0 tf1 tf2 ts
  have K4 : Keep [] w (w4.setCell ⟨X, 2, none⟩ (.slice A4 (ps.length + 1) c4)) := (Keep.grown (K3.alloc _) G4 (fun k hk => .inr (own_base Q3 k hk).1)).set (p := ⟨X, 2, none⟩) (.inr hx0) _
  have KS4 : Keep [X] w4 (w4.setCell ⟨X, 2, none⟩ (.slice A4 (ps.length + 1) c4)) := (Keep.refl _ _).set (.inl (by simp)) _
  have XX := blk_grown (blk_alloc X3 _) G4 (own_ne Q3 X3 (by decide))
  have F4 := KS4.blk (blk_grown (blk_alloc F3 _) G4 (own_ne Q3 F3 (by decide))) (by simpa using nfx)
  have Z4 := KS4.blk (blk_grown (blk_alloc Z3 _) G4 (own_ne Q3 Z3 (by decide))) (by simpa using nzx)
  have X4 := (blk_set XX 2 (.slice A4 (ps.length + 1) c4)).trans (show _ = some (.cells #[.int .i64 em, .slice A2 (gs.length + 1) c2, .slice A4 (ps.length + 1) c4] 25 (0, 0)) by simp)
  have P3' : w4.ownsRow w.heap.size 45 4 (.slice A2 (gs.length + 1) c2) (gs.length + 1) ((gs ++ [markG]).flatMap GlyphX.row) := own_other (P3.alloc _) G4 (fun b hb => by
    obtain ⟨_, _, cs, hcs⟩ := own_base P3 b hb
    exact own_ne Q3 hcs (by decide))
  have O4' : w4.ownsRow w.heap.size 52 5 (.slice A4 (ps.length + 1) c4) (ps.length + 1) ((ps ++ [markP]).flatMap PairX.row) := by rw [List.flatMap_append]; exact O4
  have P4 := own_keep P3' KS4 (fun b hb => by simp at hb; subst hb; exact own_ne P3' XX (by decide))
  have Q4 := own_keep O4' KS4 (fun b hb => by simp at hb; subst hb; exact own_ne O4' XX (by decide))
  clear XX KS4 O4 O4' P3' G4 K3 F3 Z3 X3 P3 Q3 hb3
  generalize w4.setCell ⟨X, 2, none⟩ (.slice A4 (ps.length + 1) c4) = W4 at *
  obtain ⟨g, rfl, hc2⟩ := own_some P4
  obtain ⟨p, rfl, hc4⟩ := own_some Q4
  have hc2' : (gs.length : Int) ≤ (c2 : Int) := by omega
  have hc4' : (ps.length : Int) ≤ (c4 : Int) := by omega
  obtain ⟨f0, f1, f2, _, _, _, fs⟩ := cells3 F4
  obtain ⟨x0, x1, x2, xf0, xf1, xf2, xs⟩ := cells3 X4
  go_upto_region 7 with (fail)
  clear f0 f1 f2 fs x0 x1 x2 xf0 xf1 xf2 xs
  have K5 := K4.set (p := ⟨X, 1, none⟩) (.inr hx0) (.slice (some ⟨g, 0, none⟩) gs.length c2)
  have KS5 : Keep [X] W4 (W4.setCell ⟨X, 1, none⟩ (.slice (some ⟨g, 0, none⟩) gs.length c2)) := (Keep.refl _ _).set (.inl (by simp)) _
  have F5 := KS5.blk F4 (by simpa using nfx)
  have Z5 := KS5.blk Z4 (by simpa using nzx)
  have X5 := (blk_set X4 1 (.slice (some ⟨g, 0, none⟩) gs.length c2)).trans (show _ = some (.cells #[.int .i64 em, .slice (some ⟨g, 0, none⟩) gs.length c2, .slice (some ⟨p, 0, none⟩) (ps.length + 1) c4] 25 (0, 0)) by simp)
  have P5 := own_keep P4 KS5 (fun b hb => by simp at hb; subst hb; exact own_ne P4 X4 (by decide))
  have Q5 := own_keep Q4 KS5 (fun b hb => by simp at hb; subst hb; exact own_ne Q4 X4 (by decide))
  clear KS5 K4 F4 Z4 X4 P4 Q4
  generalize W4.setCell ⟨X, 1, none⟩ (.slice (some ⟨g, 0, none⟩) gs.length c2) = W5 at *
  obtain ⟨f0, f1, f2, _, _, _, fs⟩ := cells3 F5
  obtain ⟨x0, x1, x2, xf0, xf1, xf2, xs⟩ := cells3 X5
  go_upto_region 8 with (fail)
  clear f0 f1 f2 fs x0 x1 x2 xf0 xf1 xf2 xs
  have K6 := K5.set (p := ⟨X, 2, none⟩) (.inr hx0) (.slice (some ⟨p, 0, none⟩) ps.length c4)
  have KS6 : Keep [X] W5 (W5.setCell ⟨X, 2, none⟩ (.slice (some ⟨p, 0, none⟩) ps.length c4)) := (Keep.refl _ _).set (.inl (by simp)) _
  have Z6 := KS6.blk Z5 (by simpa using nzx)
  have X6 := (blk_set X5 2 (.slice (some ⟨p, 0, none⟩) ps.length c4)).trans (show _ = some (.cells #[.int .i64 em, .slice (some ⟨g, 0, none⟩) gs.length c2, .slice (some ⟨p, 0, none⟩) ps.length c4] 25 (0, 0)) by simp)
  have P6 := own_keep P5 KS6 (fun b hb => by simp at hb; subst hb; exact own_ne P5 X5 (by decide))
  have Q6 := own_keep Q5 KS6 (fun b hb => by simp at hb; subst hb; exact own_ne Q5 X5 (by decide))
  clear KS6 K5 Z5 X5 P5 Q5 F5
  generalize W5.setCell ⟨X, 2, none⟩ (.slice (some ⟨p, 0, none⟩) ps.length c4) = W6 at *
  obtain ⟨x0, x1, x2, xf0, xf1, xf2, xs⟩ := cells3 X6
  obtain ⟨z0, z1, z2, zf0, zf1, zf2, zs⟩ := cells3 Z6
  go_wp2
  have K7 := keep3 (a := .int .i64 em) (b := .slice (some ⟨g, 0, none⟩) gs.length c2) (c := .slice (some ⟨p, 0, none⟩) ps.length c4) K6 (n := Z) (.inr hz0)
  have KS7 := keep3 (n := Z) (a := .int .i64 em) (b := .slice (some ⟨g, 0, none⟩) gs.length c2) (c := .slice (some ⟨p, 0, none⟩) ps.length c4) (Keep.refl [Z] W6) (.inl (by simp))
  have Z7 := set3' (a' := .int .i64 em) (b' := .slice (some ⟨g, 0, none⟩) gs.length c2) (c' := .slice (some ⟨p, 0, none⟩) ps.length c4) Z6
  have P7 := own_keep P6 KS7 (fun b hb => by simp at hb; subst hb; exact own_ne P6 Z6 (by decide))
  have Q7 := own_keep Q6 KS7 (fun b hb => by simp at hb; subst hb; exact own_ne Q6 Z6 (by decide))
  generalize ((W6.setCell ⟨Z, 0, none⟩ (.int .i64 em)).setCell ⟨Z, 1, none⟩ (.slice (some ⟨g, 0, none⟩) gs.length c2)).setCell ⟨Z, 2, none⟩ (.slice (some ⟨p, 0, none⟩) ps.length c4) = W7 at *
  obtain ⟨y0, y1, y2, _⟩ := cells3 Z7
  exact bodyPost_ret (v := .agg #[.int .i64 em, .slice (some ⟨g, 0, none⟩) gs.length c2, .slice (some ⟨p, 0, none⟩) ps.length c4]) (by simp [results, Try.results14, go_sem, y0, y1, y2]) rfl ⟨⟨em, some ⟨g, 0, none⟩, c2, some ⟨p, 0, none⟩, c4, gs, ps⟩, g, p, rfl, rfl, rfl, rfl, ⟨rfl, rfl, P7, Q7⟩, K7⟩

end Go.Proofs.Ythcfgechifogeaa
