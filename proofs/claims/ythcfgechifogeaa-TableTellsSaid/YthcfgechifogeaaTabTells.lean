/- TableTells' walk. -/
import Derived.Test.YthcfgechifogeaaTabAns
namespace Go.Proofs.Ythcfgechifogeaa
open Go.RowKit Go.Maps
set_option linter.unusedSimpArgs false
set_option linter.unusedVariables false

/-- The lists of a lent font, with their marks. -/
structure Lnt (w : World) (base g c p d : Nat) (gs : List GlyphX) (ps : List PairX) : Prop where
  go : w.ownsRow base 45 4 (.slice (some ⟨g, 0, none⟩) (gs.length + 1) c) (gs.length + 1) ((gs ++ [markG]).flatMap GlyphX.row)
  po : w.ownsRow base 52 5 (.slice (some ⟨p, 0, none⟩) (ps.length + 1) d) (ps.length + 1) ((ps ++ [markP]).flatMap PairX.row)
theorem Lnt.keep {w w' : World} {base g c p d : Nat} {gs : List GlyphX} {ps : List PairX} (h : Lnt w base g c p d gs ps) (k : Keep [] w w') : Lnt w' base g c p d gs ps := ⟨own_keep h.go k (by simp), own_keep h.po k (by simp)⟩
theorem Lnt.rds {w : World} {base g c p d : Nat} {gs : List GlyphX} {ps : List PairX} (h : Lnt w base g c p d gs ps) : Rd GlyphX.row 4 w (some ⟨g, 0, none⟩) gs ∧ Rd PairX.row 5 w (some ⟨p, 0, none⟩) ps := by
  obtain ⟨_, _, e, _, hr, _⟩ := own_rd row4 (xs := gs ++ [markG]) (by simpa using h.go)
  obtain ⟨_, _, e', _, hr', _⟩ := own_rd row5 (xs := ps ++ [markP]) (by simpa using h.po)
  simp at e e'
  obtain ⟨rfl, _⟩ := e
  obtain ⟨rfl, _⟩ := e'
  exact ⟨rd_pre hr, rd_pre hr'⟩
theorem Lnt.lt {w : World} {base g c p d : Nat} {gs : List GlyphX} {ps : List PairX} (h : Lnt w base g c p d gs ps) : (base ≤ g ∧ g < w.heap.size) ∧ base ≤ p ∧ p < w.heap.size := by
  have h1 := own_base h.go g (by simp [Value.ownBlock])
  have h2 := own_base h.po p (by simp [Value.ownBlock])
  exact ⟨⟨h1.1, h1.2.1⟩, h2.1, h2.2.1⟩
theorem lent_at (em : Int) (fa fb : Option Addr) (fc fd : Nat) (gs : List GlyphX) (ps : List PairX) (w : World) (h : IsF w ⟨em, fa, fc, fb, fd, gs, ps⟩) : Calls Try.prog 14 #[.agg #[.int .i64 em, .slice fa gs.length fc, .slice fb ps.length fd]] w fun e w' =>
    ∃ g c p d, e = .returned (.agg #[.int .i64 em, .slice (some ⟨g, 0, none⟩) gs.length c, .slice (some ⟨p, 0, none⟩) ps.length d]) ∧ Lnt w' w.heap.size g c p d gs ps ∧ Keep [] w w' := by
  refine (lent_any _ w h).mono ?_
  rintro e w' ⟨⟨em', ga, gc, pa, pc, gs', ps'⟩, g, p, rfl, h1, h2, h3, L, K⟩
  simp only at h1 h2 h3
  subst h1 h2 h3
  have l1 := L.ga
  have l2 := L.pa
  simp only at l1 l2
  subst l1 l2
  exact ⟨g, gc, p, pc, rfl, ⟨L.gown, L.pown⟩, K⟩
theorem Lnt.isF {w w0 : World} {em : Int} {base g c p d fc fd : Nat} {fa fb : Option Addr} {gs : List GlyphX} {ps : List PairX} (h : Lnt w base g c p d gs ps) (hf : IsF w0 ⟨em, fa, fc, fb, fd, gs, ps⟩) : IsF w ⟨em, some ⟨g, 0, none⟩, c, some ⟨p, 0, none⟩, d, gs, ps⟩ :=
  ⟨h.rds.1, h.rds.2, fun e => by simp at e, fun e => by simp at e, hf.gi, hf.pi_, hf.gl, hf.pl_⟩

set_option maxHeartbeats 2000000 in
set_option maxRecDepth 100000 in
theorem walkTells (f : FontX) (A : Option Addr) (ac : Nat) (asks : List AskX) (w : World) (h : OpenF w f) (hr : Rd AskX.row 2 w A asks) (hi : ∀ x ∈ asks, x.inI) (hn : asks.length ≤ 9223372036854775807) :
    Calls Try.prog 3 #[f.val, .slice A asks.length ac] w fun e w' => e = .returned (.bool true) ∧ Below w.heap.size w w' := by
  obtain ⟨em, fa, fc, fb, fd, gs, ps⟩ := f
  unfold FontX.val
  have K0 : Keep [] w (w.alloc (.cells #[.int .i64 em, .slice fa gs.length fc, .slice fb ps.length fd] 25)) := (Keep.refl _ _).alloc _
  have F0 := blk_new w (.cells #[.int .i64 em, .slice fa gs.length fc, .slice fb ps.length fd] 25)
  by_cases hb : 2147483647 < gs.length + ps.length
  · have HB := hid (show decide (2147483647 < gs.length + ps.length) = true by simpa using hb)
    clear hb
    go_enter Try.func3, Try.ntmps3
    go_wp2_with fail
    refine (beyond_at ⟨em, fa, fc, fb, fd, gs, ps⟩ true _ h.gl h.pl_ HB.out).mono ?_
    rintro e w1 ⟨rfl, K1⟩
    go_wp2
    go_ret
    exact ⟨rfl, (K0.trans K1).below (Nat.le_refl _) (by simp)⟩
  have HB := hid (show decide (2147483647 < gs.length + ps.length) = false by simp; omega)
  have HF := hid (h.isF (by simpa using Nat.le_of_not_lt hb))
  clear hb
  go_enter Try.func3, Try.ntmps3
  go_wp2_with fail
  refine (beyond_at ⟨em, fa, fc, fb, fd, gs, ps⟩ false _ h.gl h.pl_ HB.out).mono ?_
  rintro e w1 ⟨rfl, K1⟩
  have F1 := K1.blk F0 (by simp)
  have K1' := K0.trans K1
  clear K0 K1 F0
  go_wp2_with fail
  refine (shown_any _).mono ?_
  rintro e w2 ⟨rfl, K2⟩
  have F2 := K2.blk F1 (by simp)
  have K2' := K1'.trans K2
  clear K1' K2 F1
  obtain ⟨f0, f1, f2, _, _, _, fs⟩ := cells3 F2
  have HF2 := hid (HF.out.old K2' (by simp))
  go_wp2_with fail
  refine (lent_at em fa fb fc fd gs ps _ HF2.out).mono ?_
  clear f0 f1 f2 fs
  rintro e w3 ⟨g, c, p, d, rfl, L3, K3⟩
  have X3 := blk_new w3 (.cells #[.int .i64 em, .slice (some ⟨g, 0, none⟩) gs.length c, .slice (some ⟨p, 0, none⟩) ps.length d] 25)
  have K4 := K3.alloc (.cells #[.int .i64 em, .slice (some ⟨g, 0, none⟩) gs.length c, .slice (some ⟨p, 0, none⟩) ps.length d] 25)
  have L4 := L3.keep ((Keep.refl [] w3).alloc (.cells #[.int .i64 em, .slice (some ⟨g, 0, none⟩) gs.length c, .slice (some ⟨p, 0, none⟩) ps.length d] 25))
  have F4 := K4.blk F2 (by simp)
  have K4' := K2'.trans K4
  have hsz2 := K2'.size
  go_upto_region 6 with (fail)
  generalize w3.alloc (.cells #[.int .i64 em, .slice (some ⟨g, 0, none⟩) gs.length c, .slice (some ⟨p, 0, none⟩) ps.length d] 25) = W4 at *
  generalize w3.heap.size = X at *
  generalize w2.heap.size = b2 at *
  clear K3 L3 K2' F2 K4
  obtain ⟨x0, x1, x2, _, _, _, xs⟩ := cells3 X3
  go_wp2_with fail
  refine (new_at ⟨em, some ⟨g, 0, none⟩, c, some ⟨p, 0, none⟩, d, gs, ps⟩ _ (L4.isF HF.out)).mono ?_
  clear x0 x1 x2 xs
  have hlt := L4.lt
  rintro e w5 (⟨hc, rfl, K5⟩ | ⟨hc, t, rfl, I5, tem, tgs, tps, tb, K5⟩)
  · have F5 := K5.blk F4 (by simp)
    have X5 := K5.blk X3 (by simp)
    have L5 := L4.keep K5
    have K5' := K4'.trans K5
    clear F4 X3 L4 K4' K5
    obtain ⟨f0, f1, f2, _, _, _, fs⟩ := cells3 F5
    simp only at hc ⊢
    go_wp2_with fail
    refine (rnew_any ⟨em, fa, fc, fb, fd, gs, ps⟩ _ (HF.out.old K5' (by simp))).mono ?_
    clear f0 f1 f2 fs
    rintro e w6 (⟨_, rfl, K6⟩ | ⟨hc', _⟩)
    · have hd1 : (checkX em gs ps == 0) = false := by simpa using hc
      have F6 := K6.blk F5 (by simp)
      have X6 := K6.blk X5 (by simp)
      have L6 := L5.keep K6
      have K6' := K5'.trans K6
      simp only at *
      generalize checkX em gs ps = e0 at *
      have CS := still_any em g p c d fc fd b2 fa fb gs ps w6 L6.go L6.po (HF.out.old K6' (by simp)).gr (HF.out.old K6' (by simp)).pr HF.out.gl HF.out.pl_
      clear F5 X5 L5 K5' K6 hc
      obtain ⟨f0, f1, f2, _, _, _, fs⟩ := cells3 F6
      obtain ⟨x0, x1, x2, _, _, _, xs⟩ := cells3 X6
      go_wp2_with fail
      refine CS.mono ?_
      clear f0 f1 f2 fs x0 x1 x2 xs
      rintro e w7 ⟨rfl, K7⟩
      go_wp2
      go_ret
      exact ⟨rfl, (K6'.then K7 (fun k hk => .inr (by simp at hk; omega))).below (Nat.le_refl _) (by simp)⟩
    · exact absurd hc' hc
  · have F5 := K5.blk F4 (by simp)
    have X5 := K5.blk X3 (by simp)
    have L5 := L4.keep K5
    have K5' := K4'.trans K5
    have ht1 : ∀ b, b ∈ [g, p] → b < t.base := fun b hb => by simp at hb; rw [tb]; omega
    clear F4 X3 L4 K4' K5 tb
    obtain ⟨f0, f1, f2, _, _, _, fs⟩ := cells3 F5
    go_wp2_with fail
    refine (rnew_any ⟨em, fa, fc, fb, fd, gs, ps⟩ _ (HF.out.old K5' (by simp))).mono ?_
    clear f0 f1 f2 fs
    rintro e w6 (⟨hc', _⟩ | ⟨_, u, rfl, J6, uem, ugs, ups, ub, K6⟩)
    · exact absurd hc hc'
    · have F6 := K6.blk F5 (by simp)
      have X6 := K6.blk X5 (by simp)
      have L6 := L5.keep K6
      have K6' := K5'.trans K6
      have I6 := I5.keep K6 (by simp)
      have hu1 : ∀ b, b ∈ [g, p] → b < u.base := fun b hb => by have h5 := L5.lt; simp at hb; rw [ub]; omega
      simp only at tem tgs tps uem ugs ups
      have CS := still_any em g p c d fc fd b2 fa fb gs ps w6 L6.go L6.po (HF.out.old K6' (by simp)).gr (HF.out.old K6' (by simp)).pr HF.out.gl HF.out.pl_
      have HT := hid (And.intro tem (And.intro tgs tps))
      have HU := hid (And.intro uem (And.intro ugs ups))
      clear F5 X5 L5 K5' K6 I5 ub tem tgs tps uem ugs ups
      obtain ⟨f0, f1, f2, _, _, _, fs⟩ := cells3 F6
      obtain ⟨x0, x1, x2, _, _, _, xs⟩ := cells3 X6
      go_wp2_with fail
      refine CS.mono ?_
      clear f0 f1 f2 fs x0 x1 x2 xs CS
      rintro e w7 ⟨rfl, K7⟩
      have I7 : IsT w7 t t.gs.length t.ps.length := by
        have := I6.keep K7 ht1
        rw [HT.out.2.1, HT.out.2.2]
        exact this
      have J7 := J6.keep K7 hu1
      have KW : Keep [] w w7 := K6'.then K7 (fun k hk => .inr (by simp at hk; omega))
      clear I6 J6 K7 K6' F6 X6 L6 ht1 hu1
      go_wp2_with fail
      refine (answers_any t u A ac asks _ I7 J7 (HT.out.1.trans HU.out.1.symm) (HT.out.2.1.trans HU.out.2.1.symm) (HT.out.2.2.trans HU.out.2.2.symm) (hr.old KW (by simp)) hi hn).mono ?_
      rintro e w8 ⟨rfl, K8⟩
      go_wp2_with fail
      refine (answers_any t u A ac asks _ (I7.keep K8 (by simp)) (J7.keep K8 (by simp)) (HT.out.1.trans HU.out.1.symm) (HT.out.2.1.trans HU.out.2.1.symm) (HT.out.2.2.trans HU.out.2.2.symm) (hr.old (KW.trans K8) (by simp)) hi hn).mono ?_
      rintro e w9 ⟨rfl, K9⟩
      go_wp2
      go_ret
      exact ⟨rfl, ((KW.trans K8).trans K9).below (Nat.le_refl _) (by simp)⟩

end Go.Proofs.Ythcfgechifogeaa
