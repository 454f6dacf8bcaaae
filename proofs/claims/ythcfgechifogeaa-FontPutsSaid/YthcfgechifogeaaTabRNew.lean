/- The reference's New, Glyph, Pair, Font. -/
import Derived.Test.YthcfgechifogeaaTabCheckR
import Derived.Test.YthcfgechifogeaaStep
import Derived.StillTailTactics
namespace Go.Proofs.Ythcfgechifogeaa
open Go.RowKit Go.Maps
set_option linter.unusedSimpArgs false
set_option linter.unusedVariables false

/-- The reference's table. -/
structure RTabX where
  T : Nat
  base : Nat
  em : Int
  ga : Option Addr
  gc : Nat
  pa : Option Addr
  pc : Nat
  gs : List GlyphX
  ps : List PairX
structure IsRT (w : World) (t : RTabX) : Prop where
  blk : w.heap[t.T]? = some (.cells #[.int .i64 t.em, .slice t.ga t.gs.length t.gc, .slice t.pa t.ps.length t.pc] 90 (0, 0))
  gown : w.ownsRow t.base 45 4 (.slice t.ga t.gs.length t.gc) t.gs.length (t.gs.flatMap GlyphX.row)
  pown : w.ownsRow t.base 52 5 (.slice t.pa t.ps.length t.pc) t.ps.length (t.ps.flatMap PairX.row)
  bT : t.base ≤ t.T
  glen : t.gs.length ≤ 1024
  plen : t.ps.length ≤ 4096
theorem IsRT.keep {w w' : World} {t : RTabX} (h : IsRT w t) {S : List Nat} (k : Keep S w w') (hs : ∀ b, b ∈ S → b < t.base) : IsRT w' t := by
  have ne : ∀ v b, Value.ownBlock v = some b → ∀ {e n sz xs}, w.ownsRow t.base e sz v n xs → b ∉ S := fun v b hb e n sz xs ho hm => by
    have := (own_base ho b hb).1
    have := hs b hm
    omega
  exact ⟨k.blk h.blk (fun hm => by have := hs _ hm; have := h.bT; omega), own_keep h.gown k (fun b hm e => ne _ b e.symm h.gown hm), own_keep h.pown k (fun b hm e => ne _ b e.symm h.pown hm), h.bT, h.glen, h.plen⟩

def RNewPost (f : FontX) (w : World) (e : Ending) (w' : World) : Prop :=
  (checkX f.em f.gs f.ps ≠ 0 ∧ e = .returned (.tuple #[.pointer none, .int .i64 (checkX f.em f.gs f.ps)]) ∧ Keep [] w w') ∨
  (checkX f.em f.gs f.ps = 0 ∧ ∃ t : RTabX, e = .returned (.tuple #[.pointer (some ⟨t.T, 0, none⟩), .int .i64 0]) ∧ IsRT w' t ∧ t.em = f.em ∧ t.gs = f.gs ∧ t.ps = f.ps ∧ t.base = w.heap.size ∧ Keep [] w w')
theorem RNewPost.bad {em : Int} {ga pa : Option Addr} {gc pc : Nat} {gs : List GlyphX} {ps : List PairX} {w w' : World} {e : Ending} {c : Int} (h : checkX em gs ps = c) (hc : c ≠ 0) (he : e = .returned (.tuple #[.pointer none, .int .i64 c])) (K : Keep [] w w') :
    RNewPost ⟨em, ga, gc, pa, pc, gs, ps⟩ w e w' := .inl ⟨by simp only [h]; exact hc, by simp only [h]; exact he, K⟩

set_option maxHeartbeats 2000000 in
set_option maxRecDepth 100000 in
theorem rnew_any (f : FontX) (w : World) (h : IsF w f) : Calls Try.prog 16 #[f.val] w fun e w' => RNewPost f w e w' := by
  have CK : ∀ W, Keep [] w W → Calls Try.prog 43 #[f.val] W fun e w' => e = .returned (.int .i64 (checkX f.em f.gs f.ps)) ∧ Keep [] W w' := fun W K => rcheck_any f W (h.old K (by simp))
  obtain ⟨em, ga, gc, pa, pc, gs, ps⟩ := f
  simp only [FontX.val] at CK ⊢
  obtain ⟨c, hc⟩ : ∃ c, checkX em gs ps = c := ⟨_, rfl⟩
  rw [hc] at CK
  have HC := hid hc
  have HK := hid CK
  clear hc CK
  have K0 : Keep [] w (w.alloc (.cells #[.int .i64 em, .slice ga gs.length gc, .slice pa ps.length pc] 25)) := (Keep.refl _ _).alloc _
  have F0 := blk_new w (.cells #[.int .i64 em, .slice ga gs.length gc, .slice pa ps.length pc] 25)
  by_cases h0 : c = 0
  · subst h0
    have hz := check_zero HC.out
    have z1 : gs.length ≤ 1024 := by omega
    have z2 : ps.length ≤ 4096 := by omega
    clear hz
    go_enter Try.func16, Try.ntmps16
    go_wp2_with fail
    refine (HK.out _ K0).mono ?_
    rintro e w1 ⟨rfl, K1⟩
    have F1 := K1.blk F0 (by simp)
    obtain ⟨f0, f1, f2, _, _, _, fs⟩ := cells3 F1
    go_upto_region 6 with (fail)
    have K2 := (K0.trans K1).alloc (.cells #[.int .i64 em, .slice none 0 0, .slice none 0 0] 90)
    have F2 := blk_alloc F1 (.cells #[.int .i64 em, .slice none 0 0, .slice none 0 0] 90)
    have T2 := blk_new w1 (.cells #[.int .i64 em, .slice none 0 0, .slice none 0 0] 90)
    have hT : w.heap.size < w1.heap.size := fs
    clear f0 f1 f2 fs F1 K1
    generalize w1.alloc (.cells #[.int .i64 em, .slice none 0 0, .slice none 0 0] 90) = W2 at *
    generalize w1.heap.size = T at *
    obtain ⟨f0, f1, f2, _, _, _, fs⟩ := cells3 F2
    obtain ⟨t0, t1, t2, y0, y1, y2, ts⟩ := cells3 T2
    have hA : ga = none → gs.length = 0 := h.gn
    have hP : pa = none → ps.length = 0 := h.pn
    have hbs : w.heap.size ≤ W2.drew.heap.size := Nat.le_of_lt fs
    have r3 := h.gr.old K2.drew (by simp)
    go_region_law ((refine step_append_list (enc := GlyphX.row) rfl _ _ 22 (.agg #[.int .i64 0, .int .i64 0, .int .i64 0, .int .i64 0]) 4 32 rfl (by kernel_rfl) (by kernel_rfl) (by kernel_rfl) (by decide) (by decide) w.heap.size (.slice none 0 0) 0 [] rfl rfl rfl hA r3 row4 one4 (World.ownsRow_nil _ w.heap.size 45 4) hbs (by omega) ?_; intro A4 c4 w4 O4 G4; (try simp only [Nat.zero_add, List.nil_append] at O4); (try rw [Nat.zero_add]); obtain ⟨u0, u1, u2, yy0, yy1, yy2, us⟩ := cells3 (blk_grown (blk_drew T2) G4 (by simp [Value.ownBlock]))))
    all_goals
      have K4 : Keep [] w w4 := Keep.grown K2.drew G4 (fun k hk => by simp [Value.ownBlock] at hk)
      have F4 := blk_grown (blk_drew F2) G4 (by simp [Value.ownBlock])
      have T4 := blk_grown (blk_drew T2) G4 (by simp [Value.ownBlock])
      have T5 := (blk_set T4 1 (.slice A4 gs.length c4)).trans (show _ = some (.cells #[.int .i64 em, .slice A4 gs.length c4, .slice none 0 0] 90 (0, 0)) by simp)
      have F5 := blk_far F4 (p := ⟨T, 1, none⟩) (by simp; omega) (.slice A4 gs.length c4)
      have K5 := K4.set (p := ⟨T, 1, none⟩) (.inr (by simp; omega)) (.slice A4 gs.length c4)
      have G5 := own_keep O4 ((Keep.refl [T] w4).set (p := ⟨T, 1, none⟩) (.inl (by simp)) (.slice A4 gs.length c4)) (fun b hb => by simp at hb; subst hb; exact own_ne O4 T4 (by decide))
      clear u0 u1 u2 yy0 yy1 yy2 us O4 G4 T4 F4 K4 r3 hbs T2 F2 K2 f0 f1 f2 t0 t1 t2 y0 y1 y2 ts fs
      generalize w4.setCell ⟨T, 1, none⟩ (.slice A4 gs.length c4) = W5 at *
      obtain ⟨f0, f1, f2, _, _, _, fs⟩ := cells3 F5
      obtain ⟨t0, t1, t2, y0, y1, y2, ts⟩ := cells3 T5
      have hbs : w.heap.size ≤ W5.drew.heap.size := Nat.le_of_lt fs
      have r6 := h.pr.old K5.drew (by simp)
      go_wp2_with fail
      go_region_law ((refine step_append_list (enc := PairX.row) rfl _ _ 23 (.agg #[.int .i64 0, .int .i64 0, .bool false, .int .i64 0, .int .i64 0]) 5 40 rfl (by kernel_rfl) (by kernel_rfl) (by kernel_rfl) (by decide) (by decide) w.heap.size (.slice none 0 0) 0 [] rfl rfl rfl hP r6 row5 one5 (World.ownsRow_nil _ w.heap.size 52 5) hbs (by omega) ?_; intro A7 c7 w7 O7 G7; (try simp only [Nat.zero_add, List.nil_append] at O7); (try rw [Nat.zero_add]); obtain ⟨u0, u1, u2, yy0, yy1, yy2, us⟩ := cells3 (blk_grown (blk_drew T5) G7 (by simp [Value.ownBlock]))))
      all_goals
        go_wp2
        go_ret2
        have T7 := blk_grown (blk_drew T5) G7 (by simp [Value.ownBlock])
        have K7 : Keep [] w w7 := Keep.grown K5.drew G7 (fun k hk => by simp [Value.ownBlock] at hk)
        have KS : Keep [T] w7 (w7.setCell ⟨T, 2, none⟩ (.slice A7 ps.length c7)) := (Keep.refl _ _).set (.inl (by simp)) _
        have GG : Keep [] W5.drew w7 := ⟨G7.os, G7.tape, G7.output, G7.size, fun k hk _ => G7.block k hk (by simp [Value.ownBlock])⟩
        have G6 := own_keep (own_keep G5 ((Keep.refl [] W5).drew) (by simp)) GG (by simp)
        have G8 := own_keep G6 KS (fun b hb => by simp at hb; subst hb; exact own_ne G6 T7 (by decide))
        have P8 := own_keep O7 KS (fun b hb => by simp at hb; subst hb; exact own_ne O7 T7 (by decide))
        have T8 := (blk_set T7 2 (.slice A7 ps.length c7)).trans (show _ = some (.cells #[.int .i64 em, .slice A4 gs.length c4, .slice A7 ps.length c7] 90 (0, 0)) by simp)
        exact .inr ⟨HC.out, ⟨T, w.heap.size, em, A4, c4, A7, c7, gs, ps⟩, rfl, ⟨T8, G8, P8, Nat.le_of_lt hT, z1, z2⟩, rfl, rfl, rfl, rfl, K7.set (.inr (Nat.le_of_lt hT)) _⟩
  · have h1 : (c == 0) = false := by simpa using h0
    have h2 := hid h0
    clear h0
    go_enter Try.func16, Try.ntmps16
    go_wp2_with fail
    refine (HK.out _ K0).mono ?_
    rintro e w1 ⟨rfl, K1⟩
    go_wp2
    go_ret2
    exact RNewPost.bad HC.out h2.out rfl (K0.trans K1)

end Go.Proofs.Ythcfgechifogeaa
