/- The document's examples hold: shown. -/
import Derived.Test.YthcfgechifogeaaTabSame
import Derived.Test.YthcfgechifogeaaTabFont
namespace Go.Proofs.Ythcfgechifogeaa
open Go.RowKit Go.Maps
set_option linter.unusedSimpArgs false
set_option linter.unusedVariables false

def plainGs : List GlyphX := [⟨97, 500, 700, 200⟩, ⟨98, 400, 700, 0⟩, ⟨102, 300, 700, 0⟩, ⟨64257, 500, 700, 0⟩]
def plainPs (k : Int) : List PairX := [⟨97, 98, false, 0, k⟩, ⟨102, 97, true, 64257, 0⟩]
def plainF (g p : Nat) (k : Int) : FontX := ⟨1000, some ⟨g, 0, none⟩, 4, some ⟨p, 0, none⟩, 2, plainGs, plainPs k⟩

theorem plain_good : GoodG plainGs := by
  intro i hi
  have : i < 4 := hi
  match i, this with
  | 0, _ => exact ⟨by decide, fun q h => by omega, by decide, by decide, by decide⟩
  | 1, _ => exact ⟨by decide, fun q _ h => by simp [plainGs] at h; subst h; decide, by decide, by decide, by decide⟩
  | 2, _ => exact ⟨by decide, fun q _ h => by simp [plainGs] at h; subst h; decide, by decide, by decide, by decide⟩
  | 3, _ => exact ⟨by decide, fun q _ h => by simp [plainGs] at h; subst h; decide, by decide, by decide, by decide⟩
theorem plain_fine (k : Int) : fineX plainGs ⟨97, 98, false, 0, k⟩ = (k != 0 && decide (k ≤ 16384) && decide (-400 ≤ k)) := by
  have h1 : gFind plainGs 97 = some ⟨97, 500, 700, 200⟩ := by decide
  have h2 : gFind plainGs 98 = some ⟨98, 400, 700, 0⟩ := by decide
  unfold fineX
  rw [h1, h2]
  simp only [fineO]
  rw [show min (500 : Int) 400 = 400 by decide]
  simp
theorem plain_fine2 : fineX plainGs ⟨102, 97, true, 64257, 0⟩ = true := by decide
theorem plain_goodP (k : Int) (h0 : k ≠ 0) (h1 : k ≤ 16384) (h2 : -400 ≤ k) : GoodP plainGs (plainPs k) := by
  intro i hi
  have : i < 2 := hi
  match i, this with
  | 0, _ => exact ⟨by rw [plain_fine]; simp [h0, h1, h2], fun q h => by omega⟩
  | 1, _ => exact ⟨plain_fine2, fun q _ h => by simp [plainPs] at h; subst h; exact .inl (show (97 : Int) < 102 by decide)⟩
theorem plain_ok (k : Int) (h0 : k ≠ 0) (h1 : k ≤ 16384) (h2 : -400 ≤ k) : checkX 1000 plainGs (plainPs k) = 0 := check_ok (by decide) (show ¬ (1024 < 4 ∨ 4096 < 2) by decide) plain_good (plain_goodP k h0 h1 h2)
theorem plain_bad (k : Int) (h : k < -400) : checkX 1000 plainGs (plainPs k) = 52 := check_pair (i := 0) (by decide) (show ¬ (1024 < 4 ∨ 4096 < 2) by decide) plain_good (show 0 < 2 by decide) (fun hok => by
  have h1 : fineX plainGs ⟨97, 98, false, 0, k⟩ = true := hok.1
  rw [plain_fine] at h1
  simp at h1
  omega)
theorem empty_bad : checkX 0 [] [] = 1 := check_arg (.inl (by decide))

def PlainPost (k : Int) (w : World) (e : Ending) (w' : World) : Prop := ∃ g p, e = .returned (plainF g p k).val ∧ IsF w' (plainF g p k) ∧ Keep [] w w'

theorem row_get4 {w : World} {b : Nat} {t : TypeId} {fr : Nat × Nat} {xs : List GlyphX} (h : w.heap[b]? = some (.cells (xs.flatMap GlyphX.row).toArray t fr)) : Rd GlyphX.row 4 w (some ⟨b, 0, none⟩) xs :=
  Rd.of_block h (fun i x j v hx hv => by simpa using flat_get row4 xs i j x v hx hv)
theorem row_get5 {w : World} {b : Nat} {t : TypeId} {fr : Nat × Nat} {xs : List PairX} (h : w.heap[b]? = some (.cells (xs.flatMap PairX.row).toArray t fr)) : Rd PairX.row 5 w (some ⟨b, 0, none⟩) xs :=
  Rd.of_block h (fun i x j v hx hv => by simpa using flat_get row5 xs i j x v hx hv)

set_option maxHeartbeats 1000000 in
theorem plain_any (k : Int) (w : World) (hk : InI k) : Calls Try.prog 37 #[.int .i64 k] w fun e w' => PlainPost k w e w' := by
  go_enter Try.func37, Try.ntmps37
  go_wp2
  have K : Keep [] w (((w.alloc (.cells #[.int .i64 1000, .slice (some ⟨w.heap.size + 1, 0, none⟩) 4 4, .slice (some ⟨w.heap.size + 1 + 1, 0, none⟩) 2 2] 25)).alloc (.cells #[.int .i64 97, .int .i64 500, .int .i64 700, .int .i64 200, .int .i64 98, .int .i64 400, .int .i64 700, .int .i64 0, .int .i64 102, .int .i64 300, .int .i64 700, .int .i64 0, .int .i64 64257, .int .i64 500, .int .i64 700, .int .i64 0] 45)).alloc (.cells #[.int .i64 97, .int .i64 98, .bool false, .int .i64 0, .int .i64 k, .int .i64 102, .int .i64 97, .bool true, .int .i64 64257, .int .i64 0] 52)) := (((Keep.refl _ _).alloc _).alloc _).alloc _
  have G := blk_alloc (blk_new (w.alloc (.cells #[.int .i64 1000, .slice (some ⟨w.heap.size + 1, 0, none⟩) 4 4, .slice (some ⟨w.heap.size + 1 + 1, 0, none⟩) 2 2] 25)) (.cells #[.int .i64 97, .int .i64 500, .int .i64 700, .int .i64 200, .int .i64 98, .int .i64 400, .int .i64 700, .int .i64 0, .int .i64 102, .int .i64 300, .int .i64 700, .int .i64 0, .int .i64 64257, .int .i64 500, .int .i64 700, .int .i64 0] 45)) (.cells #[.int .i64 97, .int .i64 98, .bool false, .int .i64 0, .int .i64 k, .int .i64 102, .int .i64 97, .bool true, .int .i64 64257, .int .i64 0] 52)
  have P := blk_new ((w.alloc (.cells #[.int .i64 1000, .slice (some ⟨w.heap.size + 1, 0, none⟩) 4 4, .slice (some ⟨w.heap.size + 1 + 1, 0, none⟩) 2 2] 25)).alloc (.cells #[.int .i64 97, .int .i64 500, .int .i64 700, .int .i64 200, .int .i64 98, .int .i64 400, .int .i64 700, .int .i64 0, .int .i64 102, .int .i64 300, .int .i64 700, .int .i64 0, .int .i64 64257, .int .i64 500, .int .i64 700, .int .i64 0] 45)) (.cells #[.int .i64 97, .int .i64 98, .bool false, .int .i64 0, .int .i64 k, .int .i64 102, .int .i64 97, .bool true, .int .i64 64257, .int .i64 0] 52)
  have F := blk_alloc (blk_alloc (blk_new w (.cells #[.int .i64 1000, .slice (some ⟨w.heap.size + 1, 0, none⟩) 4 4, .slice (some ⟨w.heap.size + 1 + 1, 0, none⟩) 2 2] 25)) (.cells #[.int .i64 97, .int .i64 500, .int .i64 700, .int .i64 200, .int .i64 98, .int .i64 400, .int .i64 700, .int .i64 0, .int .i64 102, .int .i64 300, .int .i64 700, .int .i64 0, .int .i64 64257, .int .i64 500, .int .i64 700, .int .i64 0] 45)) (.cells #[.int .i64 97, .int .i64 98, .bool false, .int .i64 0, .int .i64 k, .int .i64 102, .int .i64 97, .bool true, .int .i64 64257, .int .i64 0] 52)
  simp only [size_alloc'] at G P
  generalize ((w.alloc (.cells #[.int .i64 1000, .slice (some ⟨w.heap.size + 1, 0, none⟩) 4 4, .slice (some ⟨w.heap.size + 1 + 1, 0, none⟩) 2 2] 25)).alloc (.cells #[.int .i64 97, .int .i64 500, .int .i64 700, .int .i64 200, .int .i64 98, .int .i64 400, .int .i64 700, .int .i64 0, .int .i64 102, .int .i64 300, .int .i64 700, .int .i64 0, .int .i64 64257, .int .i64 500, .int .i64 700, .int .i64 0] 45)).alloc (.cells #[.int .i64 97, .int .i64 98, .bool false, .int .i64 0, .int .i64 k, .int .i64 102, .int .i64 97, .bool true, .int .i64 64257, .int .i64 0] 52) = W at *
  obtain ⟨x0, x1, x2, _⟩ := cells3 F
  refine bodyPost_ret (v := (plainF (w.heap.size + 1) (w.heap.size + 1 + 1) k).val) (by simp [results, Try.results37, go_sem, x0, x1, x2, plainF, FontX.val, plainGs, plainPs]) rfl ⟨w.heap.size + 1, w.heap.size + 1 + 1, rfl, ?_, K⟩
  refine ⟨row_get4 G, row_get5 P, (fun h => nomatch h), (fun h => nomatch h), ?_, ?_, (show 4 ≤ 2147483647 by decide), (show 2 ≤ 2147483647 by decide)⟩
  · intro g hg
    simp [plainF, plainGs] at hg
    rcases hg with rfl | rfl | rfl | rfl <;> (unfold GlyphX.inI InI; simp)
  · intro p hp
    simp [plainF, plainPs] at hp
    rcases hp with rfl | rfl
    · exact ⟨by unfold InI; simp, by unfold InI; simp, by unfold InI; simp, hk⟩
    · exact ⟨by unfold InI; simp, by unfold InI; simp, by unfold InI; simp, by unfold InI; simp⟩

theorem new_ok (f : FontX) (w : World) (h : IsF w f) (hc : checkX f.em f.gs f.ps = 0) : Calls Try.prog 15 #[f.val] w fun e w' =>
    ∃ t : TabX, e = .returned (.tuple #[.pointer (some ⟨t.T, 0, none⟩), .int .i64 0]) ∧ IsT w' t f.gs.length f.ps.length ∧ t.em = f.em ∧ t.gs = f.gs ∧ t.ps = f.ps ∧ t.base = w.heap.size ∧ Keep [] w w' :=
  (new_any f w h).mono fun e w' P => by
    rcases P with ⟨h1, _⟩ | ⟨_, P⟩
    · exact absurd hc h1
    · exact P
theorem new_bad (f : FontX) (w : World) (c : Int) (h : IsF w f) (hc : checkX f.em f.gs f.ps = c) (h0 : c ≠ 0) : Calls Try.prog 15 #[f.val] w fun e w' => e = .returned (.tuple #[.pointer none, .int .i64 c]) ∧ Keep [] w w' :=
  (new_any f w h).mono fun e w' P => by
    subst hc
    rcases P with ⟨_, P⟩ | ⟨h1, _⟩
    · exact P
    · exact absurd h1 h0
theorem pair_any (t : TabX) (gk pn : Nat) (a b : Int) (o : Option PairX) (w : World) (h : IsT w t gk pn) (ha : InI a) (hb : InI b) (hf : pFind (t.ps.take pn) (a, b) = o) :
    Calls Try.prog 21 #[.pointer (some ⟨t.T, 0, none⟩), .int .i64 a, .int .i64 b] w fun e w' => e = .returned (.tuple #[.agg #[.int .i64 (o.getD PairX.zero).lf, .int .i64 (o.getD PairX.zero).rt, .bool (o.getD PairX.zero).is, .int .i64 (o.getD PairX.zero).lg, .int .i64 (o.getD PairX.zero).kn], .bool o.isSome]) ∧ Keep [] w w' := by
  cases o with
  | none => exact pair_no t gk pn (a, b) w h ⟨ha, hb⟩ hf
  | some g => exact pair_yes t gk pn (a, b) g w h ⟨ha, hb⟩ hf

set_option maxHeartbeats 2000000 in
theorem shown_any (w : World) : Calls Try.prog 13 #[] w fun e w' => e = .returned (.bool true) ∧ Keep [] w w' := by
  have c50 := hid (plain_ok (-50) (by decide) (by decide) (by decide))
  have c401 := hid (plain_bad (-401) (by decide))
  have c400 := hid (plain_ok (-400) (by decide) (by decide) (by decide))
  have i50 : InI (-50) := by unfold InI; omega
  have i401 : InI (-401) := by unfold InI; omega
  have i400 : InI (-400) := by unfold InI; omega
  go_enter Try.func13, Try.ntmps13
  go_wp2_with fail
  refine (plain_any (-50) _ i50).mono ?_
  rintro e w1 ⟨g1, p1, rfl, F1, K1⟩
  go_wp2_with fail
  refine (new_ok (plainF g1 p1 (-50)) _ F1 c50.out).mono ?_
  rintro e w2 ⟨t, rfl, I2, tem, tgs, tps, _, K2⟩
  have KA := K1.trans K2
  clear K1 K2 F1
  go_wp2_with fail
  refine (plain_any (-401) _ i401).mono ?_
  rintro e w3 ⟨g3, p3, rfl, F3, K3⟩
  go_wp2_with fail
  refine (new_bad (plainF g3 p3 (-401)) _ 52 F3 c401.out (by decide)).mono ?_
  rintro e w4 ⟨rfl, K4⟩
  have KB := K3.trans K4
  clear K3 K4 F3
  go_wp2_with fail
  refine (plain_any (-400) _ i400).mono ?_
  rintro e w5 ⟨g5, p5, rfl, F5, K5⟩
  go_wp2_with fail
  refine (new_ok (plainF g5 p5 (-400)) _ F5 c400.out).mono ?_
  rintro e w6 ⟨u, rfl, _, _, _, _, _, K6⟩
  have KC := K5.trans K6
  clear K5 K6 F5
  go_wp2_with fail
  have e0 : IsF w6 ⟨0, none, 0, none, 0, [], []⟩ := ⟨Rd.nil _ _ _ _, Rd.nil _ _ _ _, fun _ => rfl, fun _ => rfl, by simp, by simp, by simp, by simp⟩
  refine (new_bad ⟨0, none, 0, none, 0, [], []⟩ _ 1 e0 empty_bad (by decide)).mono ?_
  rintro e w7 ⟨rfl, K7⟩
  have KD := (KB.trans KC).trans K7
  have I7 : IsT w7 t 4 2 := IsT.keep (gk := 4) (pn := 2) I2 KD (by simp)
  have KW := KA.trans KD
  clear KA KB KC K7 KD e0 I2
  obtain ⟨em, hem⟩ : ∃ em, t.em = em := ⟨_, rfl⟩
  have f97 : gFind (t.gs.take 4) 97 = some ⟨97, 500, 700, 200⟩ := by rw [tgs]; show gFind (plainGs.take 4) 97 = _; decide
  have f99 : gFind (t.gs.take 4) 99 = none := by rw [tgs]; show gFind (plainGs.take 4) 99 = _; decide
  have q1 : pFind (t.ps.take 2) (97, 98) = some ⟨97, 98, false, 0, -50⟩ := by rw [tps]; show pFind ((plainPs (-50)).take 2) (97, 98) = _; decide
  have q2 : pFind (t.ps.take 2) (98, 97) = none := by rw [tps]; show pFind ((plainPs (-50)).take 2) (98, 97) = _; decide
  have HT := hid (And.intro tem (And.intro tgs tps))
  have H97 := hid f97
  have H99 := hid f99
  have Q1 := hid q1
  have Q2 := hid q2
  clear tem tgs tps f97 f99 q1 q2 hem em
  have hnf : ∀ (w : World) (b : Nat), (binOp .eql 42 (.func (.func 48) #[] #[.pointer (some ⟨b, 0, none⟩)]) .nilFunc).run Try.prog w = .ok (.bool false) w := fun w b => by kernel_rfl
  go_wp2_with fail
  refine (all_any t.T _).mono ?_
  rintro e w8 ⟨rfl, rfl⟩
  go_wp2_with fail
  have K8 : Keep [] w7 (w7.alloc (.cells #[.pointer (some ⟨t.T, 0, none⟩)] 30)) := (Keep.refl _ _).alloc _
  refine (glyph_any t 4 2 97 _ _ (I7.keep K8 (by simp)) (by unfold InI; omega) H97.out).mono ?_
  rintro e w9 ⟨rfl, K9⟩
  simp only [Option.getD_some, Option.isSome_some]
  have K9' := (K8.trans K9).alloc (.cells #[.int .i64 97, .int .i64 500, .int .i64 700, .int .i64 200] 45)
  have B9 := blk_new w9 (.cells #[.int .i64 97, .int .i64 500, .int .i64 700, .int .i64 200] 45)
  clear K8 K9
  go_wp2_with fail
  refine (glyph_any t 4 2 99 _ _ (I7.keep K9' (by simp)) (by unfold InI; omega) H99.out).mono ?_
  rintro e wa ⟨rfl, Ka⟩
  simp only [Option.getD_none, Option.isSome_none, GlyphX.zero]
  have Ka' := (K9'.trans Ka).alloc (.cells #[.int .i64 0, .int .i64 0, .int .i64 0, .int .i64 0] 45)
  have Ba := blk_alloc (Ka.blk B9 (by simp)) (.cells #[.int .i64 0, .int .i64 0, .int .i64 0, .int .i64 0] 45)
  clear Ka B9 K9'
  go_wp2_with fail
  refine (pair_any t 4 2 97 98 _ _ (I7.keep Ka' (by simp)) (by unfold InI; omega) (by unfold InI; omega) Q1.out).mono ?_
  rintro e wb ⟨rfl, Kb⟩
  simp only [Option.getD_some, Option.isSome_some]
  have Kb' := (Ka'.trans Kb).alloc (.cells #[.int .i64 97, .int .i64 98, .bool false, .int .i64 0, .int .i64 (-50)] 52)
  have Bb := blk_alloc (Kb.blk Ba (by simp)) (.cells #[.int .i64 97, .int .i64 98, .bool false, .int .i64 0, .int .i64 (-50)] 52)
  have Pb := blk_new wb (.cells #[.int .i64 97, .int .i64 98, .bool false, .int .i64 0, .int .i64 (-50)] 52)
  clear Kb Ba Ka'
  go_wp2_with fail
  refine (pair_any t 4 2 98 97 _ _ (I7.keep Kb' (by simp)) (by unfold InI; omega) (by unfold InI; omega) Q2.out).mono ?_
  rintro e wc ⟨rfl, Kc⟩
  simp only [Option.getD_none, Option.isSome_none, PairX.zero]
  have Kc' := (Kb'.trans Kc).alloc (.cells #[.int .i64 0, .int .i64 0, .bool false, .int .i64 0, .int .i64 0] 52)
  have Bc := blk_alloc (Kc.blk Bb (by simp)) (.cells #[.int .i64 0, .int .i64 0, .bool false, .int .i64 0, .int .i64 0] 52)
  have Pc := blk_alloc (Kc.blk Pb (by simp)) (.cells #[.int .i64 0, .int .i64 0, .bool false, .int .i64 0, .int .i64 0] 52)
  clear Kc Bb Pb Kb'
  go_upto_region 11 with (fail)
  have Id := I7.keep Kc' (by simp)
  have Kd := KW.trans Kc'
  clear Kc' I7 KW
  generalize wc.alloc (.cells #[.int .i64 0, .int .i64 0, .bool false, .int .i64 0, .int .i64 0] 52) = wd at *
  obtain ⟨a0, a1, a2, a3, _, _, _, _, as_⟩ := cells4 Bc
  obtain ⟨b0, b1, b2, b3, b4, _, _, _, _, _, bs_⟩ := cells5 Pc
  generalize w9.heap.size = n9 at *
  generalize wb.heap.size = nb at *
  go_wp2_with fail
  refine (tfont_any t 4 2 _ Id).mono ?_
  rintro e we ⟨A, c, B, d, rfl, O1, O2, Ke⟩
  obtain ⟨tem, tgs, tps⟩ := HT.out
  clear a0 a1 a2 a3 b0 b1 b2 b3 b4
  go_wp2_with fail
  refine (plain_any (-50) _ i50).mono ?_
  rintro e wf ⟨g9, p9, rfl, F9, Kf⟩
  go_wp2_with fail
  have r1 : Rd GlyphX.row 4 we A plainGs := by
    obtain ⟨A', cap, e, _, hr, _⟩ := own_rd row4 O1
    simp at e
    obtain ⟨rfl, _⟩ := e
    rw [tgs] at hr
    exact hr
  have r2 : Rd PairX.row 5 we B (plainPs (-50)) := by
    obtain ⟨A', cap, e, _, hr, _⟩ := own_rd row5 O2
    simp at e
    obtain ⟨rfl, _⟩ := e
    rw [tps] at hr
    exact hr
  refine (same_same 1000 A B (some ⟨g9, 0, none⟩) (some ⟨p9, 0, none⟩) c d 4 2 plainGs (plainPs (-50)) _ (r1.old Kf (by simp)) (r2.old Kf (by simp)) F9.gr F9.pr (show 4 ≤ 2147483647 by decide) (show 2 ≤ 2147483647 by decide)).mono ?_
  rintro e wg ⟨rfl, Kg⟩
  go_wp2
  go_ret
  exact ⟨rfl, ((Kd.trans Ke).trans Kf).trans Kg⟩

theorem walkTableNumbers (w : World) : Calls Try.prog 6 #[] w fun e w' => e = .returned (.bool true) ∧ Below w.heap.size w w' := by
  go_enter Try.func6, Try.ntmps6
  go_wp2_with fail
  refine (shown_any _).mono ?_
  rintro e w1 ⟨rfl, K⟩
  go_wp2
  go_ret
  exact ⟨rfl, K.below (Nat.le_refl _) (by simp)⟩

end Go.Proofs.Ythcfgechifogeaa
