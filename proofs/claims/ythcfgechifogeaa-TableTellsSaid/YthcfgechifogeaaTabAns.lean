/- The law's answers: a table answers as the reference's; what it answers is the caller's. -/
import Derived.Test.YthcfgechifogeaaTabSpoils
import Derived.Test.YthcfgechifogeaaTabOpen
import Derived.Test.YthcfgechifogeaaTabR2
namespace Go.Proofs.Ythcfgechifogeaa
open Go.RowKit Go.Maps
set_option linter.unusedSimpArgs false
set_option linter.unusedVariables false

structure AskX where
  a : Int
  b : Int
def AskX.row (x : AskX) : List Value := [.int .i64 x.a, .int .i64 x.b]
def AskX.inI (x : AskX) : Prop := InI x.a ∧ InI x.b
theorem row2a (x : AskX) : x.row.length = 2 := rfl

/-- What a rune, two runes find. -/
def Finds (gs : List GlyphX) (r : Int) (g : GlyphX) (b : Bool) : Prop := (gFind gs r).getD GlyphX.zero = g ∧ (gFind gs r).isSome = b
def FindsP (ps : List PairX) (r : Int × Int) (p : PairX) (b : Bool) : Prop := (pFind ps r).getD PairX.zero = p ∧ (pFind ps r).isSome = b
theorem glyph_at (t : TabX) (r : Int) (g : GlyphX) (b : Bool) (w : World) (h : IsT w t t.gs.length t.ps.length) (hr : InI r) (hf : Hid (Finds t.gs r g b)) :
    Calls Try.prog 20 #[.pointer (some ⟨t.T, 0, none⟩), .int .i64 r] w fun e w' => e = .returned (.tuple #[.agg #[.int .i64 g.ru, .int .i64 g.wd, .int .i64 g.ht, .int .i64 g.dp], .bool b]) ∧ Keep [] w w' := by
  obtain ⟨rfl, rfl⟩ := hf.out
  exact glyph_any t _ _ r (gFind t.gs r) w h hr (by rw [List.take_length])
theorem pair_at (t : TabX) (x y : Int) (p : PairX) (b : Bool) (w : World) (h : IsT w t t.gs.length t.ps.length) (hx : InI x) (hy : InI y) (hf : Hid (FindsP t.ps (x, y) p b)) :
    Calls Try.prog 21 #[.pointer (some ⟨t.T, 0, none⟩), .int .i64 x, .int .i64 y] w fun e w' => e = .returned (.tuple #[.agg #[.int .i64 p.lf, .int .i64 p.rt, .bool p.is, .int .i64 p.lg, .int .i64 p.kn], .bool b]) ∧ Keep [] w w' := by
  obtain ⟨rfl, rfl⟩ := hf.out
  exact pair_any t _ _ x y (pFind t.ps (x, y)) w h hx hy (by rw [List.take_length])
theorem rglyph_at' (t : RTabX) (r : Int) (g : GlyphX) (b : Bool) (w : World) (h : IsRT w t) (hf : Hid (Finds t.gs r g b)) :
    Calls Try.prog 44 #[.pointer (some ⟨t.T, 0, none⟩), .int .i64 r] w fun e w' => e = .returned (.tuple #[.agg #[.int .i64 g.ru, .int .i64 g.wd, .int .i64 g.ht, .int .i64 g.dp], .bool b]) ∧ Keep [] w w' := by
  obtain ⟨rfl, rfl⟩ := hf.out
  exact rtglyph_any t r (gFind t.gs r) w h rfl
theorem rpair_at' (t : RTabX) (x y : Int) (p : PairX) (b : Bool) (w : World) (h : IsRT w t) (hf : Hid (FindsP t.ps (x, y) p b)) :
    Calls Try.prog 45 #[.pointer (some ⟨t.T, 0, none⟩), .int .i64 x, .int .i64 y] w fun e w' => e = .returned (.tuple #[.agg #[.int .i64 p.lf, .int .i64 p.rt, .bool p.is, .int .i64 p.lg, .int .i64 p.kn], .bool b]) ∧ Keep [] w w' := by
  obtain ⟨rfl, rfl⟩ := hf.out
  exact rtpair_any t x y (pFind t.ps (x, y)) w h rfl
theorem keepNew {a w : World} {n j : Nat} (h : Keep [] a w) (hp : a.heap.size ≤ n) (u : Value) : Keep [] a (w.setCell ⟨n, j, none⟩ u) := h.set (.inr hp) u
/-- A box with a pair, new since a world. -/
def PBox (p : PairX) (b : Bool) (w : World) (v x : Value) (wc : World) : Prop :=
  ∃ N, v = .pointer (some ⟨N, 0, none⟩) ∧ x = .bool b ∧ w.heap.size ≤ N ∧ wc.heap[N]? = some (.cells #[.int .i64 p.lf, .int .i64 p.rt, .bool p.is, .int .i64 p.lg, .int .i64 p.kn] 52 (0, 0)) ∧ Keep [] w wc

theorem rfont_at (t : TabX) (u : RTabX) (w : World) (h : IsRT w u) (hem : t.em = u.em) (hgs : t.gs = u.gs) (hps : t.ps = u.ps) :
    Calls Try.prog 46 #[.pointer (some ⟨u.T, 0, none⟩)] w fun e w' => e = .returned (.agg #[.int .i64 t.em, .slice u.ga t.gs.length u.gc, .slice u.pa t.ps.length u.pc]) ∧ Keep [] w w' := by
  rw [hem, hgs, hps]
  exact rtfont_any u w h
theorem IsRT.rds {w : World} {u : RTabX} (h : IsRT w u) : Rd GlyphX.row 4 w u.ga u.gs ∧ Rd PairX.row 5 w u.pa u.ps := by
  obtain ⟨A, cap, e, _, hr, _⟩ := own_rd row4 h.gown
  obtain ⟨B, cap', e', _, hr', _⟩ := own_rd row5 h.pown
  simp at e e'
  obtain ⟨rfl, _⟩ := e
  obtain ⟨rfl, _⟩ := e'
  exact ⟨hr, hr'⟩

set_option maxHeartbeats 2000000 in
set_option maxRecDepth 100000 in
theorem answers_any (t : TabX) (u : RTabX) (A : Option Addr) (c : Nat) (asks : List AskX) (w : World) (I : IsT w t t.gs.length t.ps.length) (J : IsRT w u) (hem : t.em = u.em) (hgs : t.gs = u.gs) (hps : t.ps = u.ps) (hr : Rd AskX.row 2 w A asks) (hi : ∀ x ∈ asks, x.inI) (hn : asks.length ≤ 9223372036854775807) :
    Calls Try.prog 18 #[.pointer (some ⟨t.T, 0, none⟩), .pointer (some ⟨u.T, 0, none⟩), .slice A asks.length c] w fun e w' => e = .returned (.bool true) ∧ Keep [] w w' := by
  have HE := hid (And.intro hem (And.intro hgs hps))
  clear hem hgs hps
  go_enter Try.func18, Try.ntmps18
  go_wp2_with fail
  go_loopw [7] (fun vi wr => ∃ i : Nat, i ≤ asks.length ∧ vi = .int .i64 i ∧ Keep [] w wr) (fun vi _ => asks.length - (intOf vi).toNat)
  case atStart => exact ⟨0, Nat.zero_le _, rfl, Keep.refl _ _⟩
  case round =>
    obtain ⟨i, hle, rfl, K⟩ := hrel
    by_cases hlt : i < asks.length
    · obtain ⟨x, hx⟩ : ∃ x, asks[i]? = some x := ⟨asks[i], List.getElem?_eq_getElem hlt⟩
      obtain ⟨ad, hA, hc⟩ := hr.old K (by simp) i x hx
      have d0 := hc 0 _ rfl
      have d1 := hc 1 _ rfl
      rw [add_at _ _ _ (by omega)] at d1
      rw [Nat.add_zero] at d0
      have hI := hid (hi x (List.mem_of_getElem? hx))
      have HA := hid hA
      have IK := hid (I.keep K (by simp))
      have JK := hid (J.keep K (by simp))
      obtain ⟨g, b, hgb⟩ : ∃ g b, Hid (Finds t.gs x.a g b) := ⟨_, _, hid ⟨rfl, rfl⟩⟩
      obtain ⟨p, q, hpq⟩ : ∃ p q, Hid (FindsP t.ps (x.a, x.b) p q) := ⟨_, _, hid ⟨rfl, rfl⟩⟩
      have hgb' : Hid (Finds u.gs x.a g b) := hid (HE.out.2.1 ▸ hgb.out)
      have hpq' : Hid (FindsP u.ps (x.a, x.b) p q) := hid (HE.out.2.2 ▸ hpq.out)
      have hi2 : (i : Int) < (asks.length : Int) := by omega
      have hi3 : (0 : Int) ≤ (i : Int) := by omega
      clear hc hx hA
      rw [HA.out]
      go_wp2_with fail
      refine (glyph_at t x.a g b _ IK.out hI.out.1 hgb).mono ?_
      rintro e w5 ⟨rfl, K5⟩
      have K6 := K5.alloc (.cells #[.int .i64 g.ru, .int .i64 g.wd, .int .i64 g.ht, .int .i64 g.dp] 45)
      have A6 := blk_new w5 (.cells #[.int .i64 g.ru, .int .i64 g.wd, .int .i64 g.ht, .int .i64 g.dp] 45)
      have d0' := K6.cell' d0 (by simp)
      have d1' := K6.cell' d1 (by simp)
      clear d0 d1
      go_upto_region 5 with (fail)
      generalize w5.alloc (.cells #[.int .i64 g.ru, .int .i64 g.wd, .int .i64 g.ht, .int .i64 g.dp] 45) = W6 at *
      generalize w5.heap.size = NA at *
      clear K5
      go_wp2_with fail
      refine (rglyph_at' u x.a g b _ (JK.out.keep K6 (by simp)) hgb').mono ?_
      rintro e w7 ⟨rfl, K7⟩
      have K8 := (K6.trans K7).alloc (.cells #[.int .i64 g.ru, .int .i64 g.wd, .int .i64 g.ht, .int .i64 g.dp] 45)
      have A8 := blk_alloc (K7.blk A6 (by simp)) (.cells #[.int .i64 g.ru, .int .i64 g.wd, .int .i64 g.ht, .int .i64 g.dp] 45)
      have B8 := blk_new w7 (.cells #[.int .i64 g.ru, .int .i64 g.wd, .int .i64 g.ht, .int .i64 g.dp] 45)
      have e0 := cell_alloc' (K7.cell' d0' (by simp)) (.cells #[.int .i64 g.ru, .int .i64 g.wd, .int .i64 g.ht, .int .i64 g.dp] 45)
      have e1 := cell_alloc' (K7.cell' d1' (by simp)) (.cells #[.int .i64 g.ru, .int .i64 g.wd, .int .i64 g.ht, .int .i64 g.dp] 45)
      clear d0' d1' A6 K6
      go_upto_region 6 with (fail)
      generalize w7.alloc (.cells #[.int .i64 g.ru, .int .i64 g.wd, .int .i64 g.ht, .int .i64 g.dp] 45) = W8 at *
      generalize w7.heap.size = NB at *
      clear K7
      have h8 := World.block_lt_of_cell? W8 _ e0
      have IT := IK.out.keep K8 (by simp)
      have JT := JK.out.keep K8 (by simp)
      have WX : InI x.a ∧ InI x.b := hI.out
      go_cut [12, 13] from 17 to 90 (fun v y wc => PBox p q W8 v y wc)
      case first =>
        go_region_held3 (fun w' => w'.cell? (ad.add (i * 2)) = some (.int .i64 x.a) ∧ w'.cell? ⟨(ad.add (i * 2)).block, (ad.add (i * 2)).off + 1, none⟩ = some (.int .i64 x.b) ∧ Keep [] W8 w') ((go_split_ands; refine ⟨?_, ?_, ?_⟩ <;> (repeat (with_reducible first | assumption | refine cell_drew' ?_ | refine cell_alloc' ?_ _ | exact Keep.refl _ _ | refine Keep.drew ?_ | refine Keep.alloc ?_ _ | refine cell_set' ?_ (Nat.ne_of_lt h8) _ | refine keepNew ?_ (by first | exact Nat.le_refl _ | (simp <;> omega)) _ | refine Keep.cell' (S := []) (by assumption) ?_ (by simp) | refine Keep.trans (S := []) ?_ (by assumption))))) ((go_at_call 21; (with_reducible refine (pair_at t x.a x.b p q _ (IT.keep (S := []) (by repeat (with_reducible first | assumption | exact Keep.refl _ _ | refine Keep.drew ?_ | refine Keep.alloc ?_ _ | refine Keep.trans (S := []) ?_ (by assumption))) (by simp)) WX.1 WX.2 hpq).mono ?_); rintro e w9 ⟨rfl, K9⟩; (try obtain ⟨p0, p1, p2, p3, p4, r0, r1, r2, r3, r4, rs⟩ := cells5 (K9.blk (blk_drew (blk_new W8 (.cells #[.int .i64 0, .int .i64 0, .bool false, .int .i64 0, .int .i64 0] 52))) (by simp)))))
        · go_wp2
          go_meet
          exact ⟨w9.heap.size, rfl, rfl, by have := K9.size; simpa using this, blk_new _ _, (((Keep.refl [] W8).drew).trans K9).alloc _⟩
        · go_wp2
          go_meet
          exact ⟨W8.heap.size, rfl, rfl, Nat.le_refl _, set5 (K9.blk (blk_drew (blk_new W8 _)) (by simp)), keep5 ((((Keep.refl [] W8).alloc _).drew).trans K9) (Nat.le_refl _)⟩
      case rest =>
        obtain ⟨NP, rfl, rfl, hNP, P9, K9⟩ := hcut
        obtain ⟨W9, hW9⟩ : ∃ W, W = wc := ⟨_, rfl⟩
        subst hW9
        have e0' := K9.cell' e0 (by simp)
        have e1' := K9.cell' e1 (by simp)
        have A9 := K9.blk A8 (by simp)
        have B9 := K9.blk B8 (by simp)
        have JT' := JT.keep K9 (by simp)
        have KK := (K.trans K8).trans K9
        clear e0 e1 A8 B8 IT JT K8 K9 hNP h8
        have h9 := World.block_lt_of_cell? W9 _ e0'
        go_upto_region 7 with (fail)
        go_cut [14, 15] from 17 to 90 (fun v y wd => PBox p q W9 v y wd)
        case first =>
          go_region_held3 (fun w' => w'.cell? (ad.add (i * 2)) = some (.int .i64 x.a) ∧ w'.cell? ⟨(ad.add (i * 2)).block, (ad.add (i * 2)).off + 1, none⟩ = some (.int .i64 x.b) ∧ Keep [] W9 w') ((go_split_ands; refine ⟨?_, ?_, ?_⟩ <;> (repeat (with_reducible first | assumption | refine cell_drew' ?_ | refine cell_alloc' ?_ _ | exact Keep.refl _ _ | refine Keep.drew ?_ | refine Keep.alloc ?_ _ | refine cell_set' ?_ (Nat.ne_of_lt h9) _ | refine keepNew ?_ (by first | exact Nat.le_refl _ | (simp <;> omega)) _ | refine Keep.cell' (S := []) (by assumption) ?_ (by simp) | refine Keep.trans (S := []) ?_ (by assumption))))) ((go_at_call 45; (with_reducible refine (rpair_at' u x.a x.b p q _ (JT'.keep (S := []) (by repeat (with_reducible first | assumption | exact Keep.refl _ _ | refine Keep.drew ?_ | refine Keep.alloc ?_ _ | refine Keep.trans (S := []) ?_ (by assumption))) (by simp)) hpq').mono ?_); rintro e w9 ⟨rfl, K9⟩; (try obtain ⟨p0, p1, p2, p3, p4, r0, r1, r2, r3, r4, rs⟩ := cells5 (K9.blk (blk_drew (blk_new W9 (.cells #[.int .i64 0, .int .i64 0, .bool false, .int .i64 0, .int .i64 0] 52))) (by simp)))))
          · go_wp2
            go_meet
            exact ⟨w9.heap.size, rfl, rfl, by have := K9.size; simpa using this, blk_new _ _, (((Keep.refl [] W9).drew).trans K9).alloc _⟩
          · go_wp2
            go_meet
            exact ⟨W9.heap.size, rfl, rfl, Nat.le_refl _, set5 (K9.blk (blk_drew (blk_new W9 _)) (by simp)), keep5 ((((Keep.refl [] W9).alloc _).drew).trans K9) (Nat.le_refl _)⟩
        case rest =>
          obtain ⟨NQ, rfl, rfl, hNQ, Q9, K10⟩ := hcut
          have A10 := K10.blk A9 (by simp)
          have B10 := K10.blk B9 (by simp)
          have P10 := K10.blk P9 (by simp)
          obtain ⟨a0, a1, a2, a3, _, _, _, _, as'⟩ := cells4 A10
          obtain ⟨b0, b1, b2, b3, _, _, _, _, bs⟩ := cells4 B10
          obtain ⟨p0, p1, p2, p3, p4, _, _, _, _, _, ps⟩ := cells5 P10
          obtain ⟨q0, q1, q2, q3, q4, _, _, _, _, _, qs⟩ := cells5 Q9
          clear A9 B9 P9 e0' e1'
          go_wp2_with fail
          go_roundw
          case rel => exact ⟨i + 1, hlt, by go_num, KK.trans K10⟩
          case measure => simp [intOf]; omega
    · obtain rfl : i = asks.length := by omega
      have IK := I.keep K (by simp)
      have JK := J.keep K (by simp)
      clear hlt hle
      go_wp2_with fail
      refine (tfont_any t _ _ _ IK).mono ?_
      rintro e w7 ⟨A7, c7, B7, d7, rfl, O1, O2, K7⟩
      have F8 := blk_new w7 (.cells #[.int .i64 t.em, .slice A7 t.gs.length c7, .slice B7 t.ps.length d7] 25)
      have K8 := K7.alloc (.cells #[.int .i64 t.em, .slice A7 t.gs.length c7, .slice B7 t.ps.length d7] 25)
      have P1 := (own_base_le O1 K.size).alloc (.cells #[.int .i64 t.em, .slice A7 t.gs.length c7, .slice B7 t.ps.length d7] 25)
      have P2 := (own_base_le O2 K.size).alloc (.cells #[.int .i64 t.em, .slice A7 t.gs.length c7, .slice B7 t.ps.length d7] 25)
      go_upto_region 11 with (fail)
      generalize w7.alloc (.cells #[.int .i64 t.em, .slice A7 t.gs.length c7, .slice B7 t.ps.length d7] 25) = W8 at *
      generalize w7.heap.size = N at *
      have KW := K.trans K8
      have J8 := JK.keep K8 (by simp)
      obtain ⟨R3, R4⟩ := J8.rds
      rw [← HE.out.2.1] at R3
      rw [← HE.out.2.2] at R4
      obtain ⟨R1, R2⟩ := font_rd P1 P2
      have hg1 := I.glen
      have hp1 := I.plen
      have hb := KW.size
      obtain ⟨f0, f1, f2, _, _, _, fs⟩ := cells3 F8
      clear O1 O2 K7 K8 IK JK hr hi
      go_region_held3 (fun w' => w'.cell? ⟨N, 0, none⟩ = some (.int .i64 t.em) ∧ w'.cell? ⟨N, 1, none⟩ = some (.slice A7 t.gs.length c7) ∧ w'.cell? ⟨N, 2, none⟩ = some (.slice B7 t.ps.length d7) ∧ Keep [] w w') ((go_split_ands; refine ⟨?_, ?_, ?_, ?_⟩ <;> (repeat (with_reducible first | assumption | refine cell_drew' ?_ | exact Keep.refl _ _ | refine Keep.drew ?_ | refine Keep.cell' (S := []) (by assumption) ?_ (by simp) | refine Keep.trans (S := []) ?_ (by assumption))))) ((first
        | (go_at_call 46; (with_reducible refine (rfont_at t u _ (J8.keep (S := []) (by repeat (with_reducible first | assumption | exact Keep.refl _ _ | refine Keep.drew ?_ | refine Keep.trans (S := []) ?_ (by assumption))) (by simp)) HE.out.1 HE.out.2.1 HE.out.2.2).mono ?_); rintro e w9 ⟨rfl, K9⟩)
        | (go_at_call 23; (with_reducible refine (same_same t.em A7 B7 u.ga u.pa c7 d7 u.gc u.pc t.gs t.ps _ (R1.old (S := []) (by repeat (with_reducible first | assumption | exact Keep.refl _ _ | refine Keep.drew ?_ | refine Keep.trans (S := []) ?_ (by assumption))) (by simp)) (R2.old (S := []) (by repeat (with_reducible first | assumption | exact Keep.refl _ _ | refine Keep.drew ?_ | refine Keep.trans (S := []) ?_ (by assumption))) (by simp)) (R3.old (S := []) (by repeat (with_reducible first | assumption | exact Keep.refl _ _ | refine Keep.drew ?_ | refine Keep.trans (S := []) ?_ (by assumption))) (by simp)) (R4.old (S := []) (by repeat (with_reducible first | assumption | exact Keep.refl _ _ | refine Keep.drew ?_ | refine Keep.trans (S := []) ?_ (by assumption))) (by simp)) (by omega) (by omega)).mono ?_); rintro e w10 ⟨rfl, K10⟩)
        | (go_at_call 47; have KT : Keep [] W8 w10 := (by repeat (with_reducible first | assumption | exact Keep.refl _ _ | refine Keep.drew ?_ | refine Keep.trans (S := []) ?_ (by assumption))); (with_reducible refine (spoils_any t.em A7 B7 c7 d7 w.heap.size t.gs t.ps _ (own_keep P1 KT (by simp)) (own_keep P2 KT (by simp)) hg1 hp1 (Nat.le_trans hb KT.size)).mono ?_); rintro e w11 ⟨rfl, B11, FF⟩; have K11 : Keep [] w w11 := (Keep.of_below ((KW.below (Nat.le_refl _) (by simp)).trans ((KT.below hb (by simp)).trans B11)) []); obtain ⟨g0, g1, g2, _, _, _, gs⟩ := cells3 (FF _ _ _ (KT.blk F8 (by simp))); clear K9 K10)))
      go_wp2
      go_ret
      exact ⟨rfl, K11⟩

end Go.Proofs.Ythcfgechifogeaa
