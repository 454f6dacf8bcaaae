/- table.fine by a contract. -/
import Derived.Test.YthcfgechifogeaaTabClone
namespace Go.Proofs.Ythcfgechifogeaa
open Go.RowKit Go.Maps
set_option linter.unusedSimpArgs false
set_option linter.unusedVariables false

/-- Whether a pair may be, among these glyphs. -/
def fineO (gs : List GlyphX) (p : PairX) : Option GlyphX → Option GlyphX → Bool
  | some a, some b => if p.is = true then (gFind gs p.lg).isSome && p.kn == 0 else p.lg == 0 && p.kn != 0 && decide (p.kn ≤ 16384) && decide (-(min a.wd b.wd) ≤ p.kn)
  | _, _ => false
def fineX (gs : List GlyphX) (p : PairX) : Bool := fineO gs p (gFind gs p.lf) (gFind gs p.rt)
def GoodW (gs : List GlyphX) : Prop := ∀ g ∈ gs, 0 ≤ g.wd ∧ g.wd ≤ 16384
theorem gFind_mem {gs : List GlyphX} {r : Int} {g : GlyphX} (h : gFind gs r = some g) : g ∈ gs := List.mem_of_find?_eq_some h

theorem glyph_any (t : TabX) (gk pn : Nat) (r : Int) (o : Option GlyphX) (w : World) (h : IsT w t gk pn) (hr : InI r) (hf : gFind (t.gs.take gk) r = o) :
    Calls Try.prog 20 #[.pointer (some ⟨t.T, 0, none⟩), .int .i64 r] w fun e w' => e = .returned (.tuple #[.agg #[.int .i64 (o.getD GlyphX.zero).ru, .int .i64 (o.getD GlyphX.zero).wd, .int .i64 (o.getD GlyphX.zero).ht, .int .i64 (o.getD GlyphX.zero).dp], .bool o.isSome]) ∧ Keep [] w w' := by
  cases o with
  | none => exact glyph_no t gk pn r w h hr hf
  | some g => exact glyph_yes t gk pn r g w h hr hf

set_option maxHeartbeats 2000000 in
theorem fine_any (t : TabX) (pn : Nat) (p : PairX) (w : World) (h : IsT w t t.gs.length pn) (hp : p.inI) (hg : GoodW t.gs) :
    Calls Try.prog 42 #[.pointer (some ⟨t.T, 0, none⟩), p.val] w fun e w' => e = .returned (.bool (fineX t.gs p)) ∧ Keep [] w w' := by
  obtain ⟨p1, p2, p3, p4⟩ := hp
  have ht := List.take_length (l := t.gs)
  have hi1 : ∀ W, Keep [] w W → IsT W t t.gs.length pn := fun W K => h.keep K (by simp)
  have HI := hid hi1
  clear h hi1
  obtain ⟨a, ha⟩ : ∃ a, gFind t.gs p.lf = a := ⟨_, rfl⟩
  obtain ⟨b, hb⟩ : ∃ b, gFind t.gs p.rt = b := ⟨_, rfl⟩
  have E := hid (show fineX t.gs p = fineO t.gs p a b by unfold fineX; rw [ha, hb])
  have ra : ∀ g, a = some g → 0 ≤ g.wd ∧ g.wd ≤ 16384 := fun g e => hg g (gFind_mem (ha.trans e))
  have rb : ∀ g, b = some g → 0 ≤ g.wd ∧ g.wd ≤ 16384 := fun g e => hg g (gFind_mem (hb.trans e))
  have HA := hid ha
  have HB := hid hb
  have RA := hid ra
  have RB := hid rb
  have HT := hid ht
  clear ha hb ra rb ht hg
  unfold PairX.val
  cases a with
  | none =>
    rw [E.out, show fineO t.gs p none b = false by cases b <;> rfl]
    go_enter Try.func42, Try.ntmps42
    go_wp2_with fail
    refine (glyph_any t t.gs.length pn p.lf none _ (HI.out _ ((Keep.refl _ _).alloc _)) p1 (by rw [HT.out]; exact HA.out)).mono ?_
    rintro e w1 ⟨rfl, K1⟩
    simp only [Option.getD_none, Option.isSome_none, GlyphX.zero]
    have hc1 := kcell K1
    go_wp2_with fail
    refine (glyph_any t t.gs.length pn p.rt b _ (HI.out _ ((((Keep.refl _ _).alloc _).trans K1).alloc _)) p2 (by rw [HT.out]; exact HB.out)).mono ?_
    rintro e w2 ⟨rfl, K2⟩
    clear hc1
    go_wp2
    go_ret
    exact ⟨rfl, ((((((Keep.refl _ _).alloc _).trans K1).alloc _).trans K2).alloc _)⟩
  | some a =>
    cases b with
    | none =>
      rw [E.out, show fineO t.gs p (some a) none = false from rfl]
      go_enter Try.func42, Try.ntmps42
      go_wp2_with fail
      refine (glyph_any t t.gs.length pn p.lf (some a) _ (HI.out _ ((Keep.refl _ _).alloc _)) p1 (by rw [HT.out]; exact HA.out)).mono ?_
      rintro e w1 ⟨rfl, K1⟩
      simp only [Option.getD_some, Option.isSome_some]
      have hc1 := kcell K1
      go_wp2_with fail
      refine (glyph_any t t.gs.length pn p.rt none _ (HI.out _ ((((Keep.refl _ _).alloc _).trans K1).alloc _)) p2 (by rw [HT.out]; exact HB.out)).mono ?_
      rintro e w2 ⟨rfl, K2⟩
      simp only [Option.getD_none, Option.isSome_none, GlyphX.zero]
      clear hc1
      go_wp2
      go_ret
      exact ⟨rfl, ((((((Keep.refl _ _).alloc _).trans K1).alloc _).trans K2).alloc _)⟩
    | some b =>
      obtain ⟨ra1, ra2⟩ := RA.out a rfl
      obtain ⟨rb1, rb2⟩ := RB.out b rfl
      go_enter Try.func42, Try.ntmps42
      go_wp2_with fail
      refine (glyph_any t t.gs.length pn p.lf (some a) _ (HI.out _ ((Keep.refl _ _).alloc _)) p1 (by rw [HT.out]; exact HA.out)).mono ?_
      rintro e w1 ⟨rfl, K1⟩
      simp only [Option.getD_some, Option.isSome_some]
      have n0 := blk_new w (.cells #[.int .i64 p.lf, .int .i64 p.rt, .bool p.is, .int .i64 p.lg, .int .i64 p.kn] 52)
      have n1 := K1.blk n0 (by simp)
      have s1 := blk_lt n1
      have c1 := blk_cell n1 1
      simp only [List.getElem?_toArray, List.getElem?_cons_succ, List.getElem?_cons_zero] at c1
      go_wp2_with fail
      refine (glyph_any t t.gs.length pn p.rt (some b) _ (HI.out _ ((((Keep.refl _ _).alloc _).trans K1).alloc _)) p2 (by rw [HT.out]; exact HB.out)).mono ?_
      rintro e w2 ⟨rfl, K2⟩
      simp only [Option.getD_some, Option.isSome_some]
      have n2 := K2.blk (blk_alloc n1 _) (by simp)
      have m2 := K2.blk (blk_new w1 _) (by simp)
      have s2 := blk_lt n2
      have t2 := blk_lt m2
      have KA := ((((Keep.refl [] w).alloc (.cells #[.int .i64 p.lf, .int .i64 p.rt, .bool p.is, .int .i64 p.lg, .int .i64 p.kn] 52)).trans K1).alloc (.cells #[.int .i64 a.ru, .int .i64 a.wd, .int .i64 a.ht, .int .i64 a.dp] 45)).trans K2
      clear c1 n1 n0 K1 K2
      have d2 := blk_cell n2 2
      have d3 := blk_cell n2 3
      have d4 := blk_cell n2 4
      have e1 := blk_cell m2 1
      simp only [List.getElem?_toArray, List.getElem?_cons_succ, List.getElem?_cons_zero] at d2 d3 d4 e1
      generalize w1.heap.size = q1 at *
      generalize w.heap.size = q0 at *
      clear m2 n2
      cases hs : p.is with
      | true =>
        rw [hs] at d2
        obtain ⟨c, hc⟩ : ∃ c, gFind t.gs p.lg = c := ⟨_, rfl⟩
        have E' := hid (show fineX t.gs p = (c.isSome && p.kn == 0) by rw [E.out]; simp only [fineO, hs, if_true]; rw [hc])
        have HC := hid hc
        clear hc hs
        go_wp2_with fail
        refine (glyph_any t t.gs.length pn p.lg c _ (HI.out _ (KA.alloc _)) p3 (by rw [HT.out]; exact HC.out)).mono ?_
        rintro e w3 ⟨rfl, K3⟩
        have f4 := K3.cell' (cell_alloc' d4 (.cells #[.int .i64 b.ru, .int .i64 b.wd, .int .i64 b.ht, .int .i64 b.dp] 45)) (by simp)
        have KB := (KA.alloc (.cells #[.int .i64 b.ru, .int .i64 b.wd, .int .i64 b.ht, .int .i64 b.dp] 45)).trans K3
        have s3 := Nat.lt_of_lt_of_le s2 (Nat.le_trans (Nat.le_of_lt (Nat.lt_succ_self _)) (by simpa using K3.size))
        clear K3 KA d2 d3 d4 e1
        cases c with
        | none =>
          simp only [Option.getD_none, Option.isSome_none, GlyphX.zero]
          go_wp2
          go_ret
          exact ⟨ret_bool (by rw [E'.out]; simp), KB.alloc _⟩
        | some c =>
          simp only [Option.getD_some, Option.isSome_some]
          go_wp2
          go_ret
          exact ⟨ret_bool (by rw [E'.out]; simp), KB.alloc _⟩
      | false =>
        rw [hs] at d2
        have E' := hid (show fineX t.gs p = (p.lg == 0 && p.kn != 0 && decide (p.kn ≤ 16384) && decide (-(min a.wd b.wd) ≤ p.kn)) by rw [E.out]; simp only [fineO, hs, if_false, Bool.false_eq_true])
        clear hs
        go_wp2
        all_goals
          go_ret
          refine ⟨ret_bool ?_, KA.alloc _⟩
          rw [E'.out]
          simp [*]
          try first
            | omega
            | rw [show min a.wd b.wd = b.wd by omega]
            | rw [show min a.wd b.wd = a.wd by omega]

end Go.Proofs.Ythcfgechifogeaa
