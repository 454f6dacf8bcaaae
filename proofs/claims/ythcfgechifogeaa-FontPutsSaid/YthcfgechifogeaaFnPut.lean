/- Font: Put by a contract. -/
import Derived.Test.YthcfgechifogeaaFnLaid
import Derived.Test.YthcfgechifogeaaTabNew
import Derived.Test.YthcfgechifogeaaTabRef
import Derived.Lib.SlBytesConst
namespace Go.Proofs.Ythcfgechifogeaa
open Go.RowKit
set_option linter.unusedSimpArgs false
set_option linter.unusedVariables false

def gB (g : GlyphX) : List Nat := digs g.ru.toNat 3 ++ digs g.wd.toNat 2 ++ digs g.ht.toNat 2 ++ digs g.dp.toNat 2
def pB (p : PairX) : List Nat := digs p.lf.toNat 3 ++ digs p.rt.toNat 3 ++ (if p.is = true then digs 1 1 ++ digs p.lg.toNat 3 else digs 2 1 ++ digs (p.kn + 32768).toNat 2)
def headB (em : Int) (n : Nat) : List Nat := [80, 70, 49] ++ digs em.toNat 2 ++ digs n 2
def bodyB (em : Int) (gs : List GlyphX) (ps : List PairX) : List Nat := headB em gs.length ++ gs.flatMap gB ++ digs ps.length 2 ++ ps.flatMap pB
def fontB (em : Int) (gs : List GlyphX) (ps : List PairX) : List Nat := bodyB em gs ps ++ digs (sumX (bodyB em gs ps)) 4
noncomputable def putS (em : Int) (gs : List GlyphX) (ps : List PairX) : ByteArray := if checkX em gs ps = 0 then SB (fontB em gs ps) else SB []

theorem gB_len (g : GlyphX) : (gB g).length = 9 := by simp [gB, digs_len]
theorem pB_len (p : PairX) : (pB p).length ≤ 10 := by unfold pB; split <;> simp [digs_len]
theorem headB_len (em : Int) (n : Nat) : (headB em n).length = 7 := by simp [headB, digs_len]
theorem flat_le {α : Type} {f : α → List Nat} {m : Nat} (h : ∀ x, (f x).length ≤ m) (l : List α) : (l.flatMap f).length ≤ l.length * m := by
  induction l with
  | nil => simp
  | cons x r ih => rw [List.flatMap_cons, List.length_append, List.length_cons, Nat.add_mul]; have := h x; omega
theorem gB_all (g : GlyphX) : AllB (gB g) := (((AllB.digs _ _).app (AllB.digs _ _)).app (AllB.digs _ _)).app (AllB.digs _ _)
theorem pB_all (p : PairX) : AllB (pB p) := by unfold pB; refine ((AllB.digs _ _).app (AllB.digs _ _)).app ?_; split <;> exact (AllB.digs _ _).app (AllB.digs _ _)
theorem AllB.flat {α : Type} {f : α → List Nat} (h : ∀ x, AllB (f x)) (l : List α) : AllB (l.flatMap f) := fun y hy => by
  obtain ⟨x, _, hx⟩ := List.mem_flatMap.1 hy
  exact h x y hx
theorem headB_all (em : Int) (n : Nat) : AllB (headB em n) := ((show AllB [80, 70, 49] by intro x hx; simp at hx; omega).app (AllB.digs _ _)).app (AllB.digs _ _)
theorem bodyB_all (em : Int) (gs : List GlyphX) (ps : List PairX) : AllB (bodyB em gs ps) := (((headB_all _ _).app (AllB.flat gB_all _)).app (AllB.digs _ _)).app (AllB.flat pB_all _)
theorem fontB_all (em : Int) (gs : List GlyphX) (ps : List PairX) : AllB (fontB em gs ps) := (bodyB_all _ _ _).app (AllB.digs _ _)

theorem wd_ne {r : Int} (h : wd r ≠ 0) : 0 ≤ r ∧ r ≤ 1114111 ∧ (r < 55296 ∨ 57343 < r) := by unfold wd at h; split at h <;> omega
theorem good_g {gs : List GlyphX} (h : GoodG gs) {g : GlyphX} (hg : g ∈ gs) : (0 ≤ g.ru ∧ g.ru ≤ 1114111) ∧ (0 ≤ g.wd ∧ g.wd ≤ 16384) ∧ (0 ≤ g.ht ∧ g.ht ≤ 16384) ∧ (0 ≤ g.dp ∧ g.dp ≤ 16384) := by
  obtain ⟨i, hi⟩ := List.mem_iff_getElem?.1 hg
  obtain ⟨h1, _, h3⟩ := (okG_at hi).1 (h i (List.getElem?_eq_some_iff.1 hi).1)
  have := wd_ne h1
  exact ⟨⟨this.1, this.2.1⟩, h3⟩
theorem gFind_ru {gs : List GlyphX} {r : Int} {g : GlyphX} (h : gFind gs r = some g) : g.ru = r := by
  have := List.find?_some h
  simpa using this
theorem good_p {gs : List GlyphX} {ps : List PairX} (hG : GoodG gs) (h : GoodP gs ps) {p : PairX} (hp : p ∈ ps) :
    (0 ≤ p.lf ∧ p.lf ≤ 1114111) ∧ (0 ≤ p.rt ∧ p.rt ≤ 1114111) ∧ (0 ≤ p.lg ∧ p.lg ≤ 1114111) ∧ (-16384 ≤ p.kn ∧ p.kn ≤ 16384) := by
  obtain ⟨i, hi⟩ := List.mem_iff_getElem?.1 hp
  have h1 := ((okP_at hi).1 (h i (List.getElem?_eq_some_iff.1 hi).1)).1
  unfold fineX at h1
  cases ha : gFind gs p.lf with
  | none => rw [ha] at h1; simp [fineO] at h1
  | some a =>
    cases hb : gFind gs p.rt with
    | none => rw [ha, hb] at h1; simp [fineO] at h1
    | some b =>
      rw [ha, hb] at h1
      have ra := gFind_ru ha
      have rb := gFind_ru hb
      have ga := good_g hG (gFind_mem ha)
      have gb := good_g hG (gFind_mem hb)
      simp only [fineO] at h1
      by_cases hs : p.is = true
      · rw [if_pos hs] at h1
        simp at h1
        obtain ⟨c, hc⟩ := Option.isSome_iff_exists.1 h1.1
        have rc := gFind_ru hc
        have gc := good_g hG (gFind_mem hc)
        omega
      · rw [if_neg hs] at h1
        simp at h1
        omega

/-- What stands between two numbers: the font's box, the row, the old world. -/
structure PutSt (w : World) (fv : Array Value) (W : World) (v : Value) (l : List Nat) : Prop where
  box : W.heap[w.heap.size]? = some (.cells fv 25 (0, 0))
  row : RowB (w.heap.size + 1) W v l
  keep : Keep [] w W
theorem PutSt.size {w W : World} {fv : Array Value} {v : Value} {l : List Nat} (h : PutSt w fv W v l) : w.heap.size + 1 ≤ W.heap.size := blk_lt h.box
theorem PutSt.alloc {w W : World} {fv : Array Value} {v : Value} {l : List Nat} (h : PutSt w fv W v l) (o : Obj) : PutSt w fv (W.alloc o) v l := ⟨blk_alloc h.box o, h.row.alloc o, h.keep.alloc o⟩
theorem PutSt.drew {w W : World} {fv : Array Value} {v : Value} {l : List Nat} (h : PutSt w fv W v l) : PutSt w fv W.drew v l := ⟨h.box, h.row.drew, h.keep.drew⟩
theorem PutSt.next {w W W' : World} {fv : Array Value} {v v' : Value} {l l' : List Nat} (h : PutSt w fv W v l) (R : RowB (w.heap.size + 1) W' v' l') (B : KeepB (w.heap.size + 1) W W') : PutSt w fv W' v' l' :=
  ⟨B.cells _ _ _ _ (by decide) h.box, R, ⟨B.below.os.trans h.keep.os, B.below.tape.trans h.keep.tape, B.below.output.trans h.keep.output, Nat.le_trans h.keep.size B.size, fun k hk hn => (B.below.block k (by omega)).trans (h.keep.block k hk hn)⟩⟩
theorem PutSt.number {w W : World} {fv : Array Value} {v : Value} {l : List Nat} (h : PutSt w fv W v l) (kI WI : Int) (n : Nat) (hW : WI = (n : Int)) (h0 : 0 ≤ kI) (hk : kI ≤ 9223372036854775807) (h1 : 1 ≤ n) (h4 : n ≤ 4) (hn : l.length ≤ 140737488000000) :
    Calls Try.prog 51 #[v, .int .i64 kI, .int .i64 WI] W fun e w' => ∃ v', e = .returned v' ∧ PutSt w fv w' v' (l ++ digs kI.toNat n) ∧ KeepB (w.heap.size + 1) W w' :=
  (number_at (w.heap.size + 1) v l kI WI n W hW h.row h.size h0 hk h1 h4 hn).mono (by rintro e w' ⟨v', rfl, R, B⟩; exact ⟨v', rfl, h.next R B, B⟩)

set_option maxHeartbeats 4000000 in
set_option maxRecDepth 100000 in
theorem put_any (f : FontX) (w : World) (h : IsF w f) : Calls Try.prog 26 #[f.val] w fun e w' => e = .returned (.tuple #[.string (putS f.em f.gs f.ps), .int .i64 (checkX f.em f.gs f.ps)]) ∧ Keep [] w w' := by
  have NW : ∀ W, Keep [] w W → Calls Try.prog 15 #[f.val] W fun e w' => (∃ v, e = .returned (.tuple #[v, .int .i64 (checkX f.em f.gs f.ps)])) ∧ Keep [] W w' := fun W K => (new_any f W (h.old K (by simp))).mono (by
    rintro e w' (⟨_, rfl, K⟩ | ⟨h0, t, rfl, _, _, _, _, _, K⟩)
    · exact ⟨⟨_, rfl⟩, K⟩
    · exact ⟨⟨_, by rw [h0]⟩, K⟩)
  obtain ⟨em, ga, gc, pa, pc, gs, ps⟩ := f
  simp only [FontX.val] at NW ⊢
  obtain ⟨c, hc⟩ : ∃ c, checkX em gs ps = c := ⟨_, rfl⟩
  rw [hc] at NW ⊢
  have HC := hid hc
  have HN := hid NW
  have H := hid h
  clear hc NW h
  have K0 : Keep [] w (w.alloc (.cells #[.int .i64 em, .slice ga gs.length gc, .slice pa ps.length pc] 25)) := (Keep.refl _ _).alloc _
  have F0 := blk_new w (.cells #[.int .i64 em, .slice ga gs.length gc, .slice pa ps.length pc] 25)
  by_cases h0 : c = 0
  · subst h0
    have hz := check_zero HC.out
    have z0 : 0 ≤ em ∧ em ≤ 16384 := by omega
    have z1 : gs.length ≤ 1024 := by omega
    have z2 : ps.length ≤ 4096 := by omega
    have HG := hid hz.2.2.1
    have HP := hid hz.2.2.2
    clear hz
    go_enter Try.func26, Try.ntmps26
    go_wp2_with fail
    refine (HN.out _ K0).mono ?_
    rintro e w1 ⟨⟨nv, rfl⟩, K1⟩
    have F1 := K1.blk F0 (by simp)
    have kc := fun (w : World) (C : Array Value) (n c : Nat) => Lib.run_convert_bytes_const (P := Try.prog) w 66 5 C n c Try.underlying66 Try.underlying5
    go_upto_region 5 with (fail)
    have L1 : LitB (w1.alloc (.cells #[.int .u8 80, .int .u8 70, .int .u8 49] 5 (#[Value.int .u8 80, Value.int .u8 70, Value.int .u8 49].size, #[Value.int .u8 80, Value.int .u8 70, Value.int .u8 49].size + 1))) w1.heap.size [80, 70, 49] := LitB.new (by rfl)
    have F2 := blk_alloc F1 (.cells #[.int .u8 80, .int .u8 70, .int .u8 49] 5 (#[Value.int .u8 80, Value.int .u8 70, Value.int .u8 49].size, #[Value.int .u8 80, Value.int .u8 70, Value.int .u8 49].size + 1))
    have K2 := (K0.trans K1).alloc (.cells #[.int .u8 80, .int .u8 70, .int .u8 49] 5 (#[Value.int .u8 80, Value.int .u8 70, Value.int .u8 49].size, #[Value.int .u8 80, Value.int .u8 70, Value.int .u8 49].size + 1))
    have hs := blk_lt F1
    clear K0 F0 F1 K1
    generalize w1.alloc (.cells #[.int .u8 80, .int .u8 70, .int .u8 49] 5 (#[Value.int .u8 80, Value.int .u8 70, Value.int .u8 49].size, #[Value.int .u8 80, Value.int .u8 70, Value.int .u8 49].size + 1)) = W2 at *
    have hb2 := blk_lt F2
    obtain ⟨f0, f1, f2, _, _, _, _⟩ := cells3 F2
    go_wp2_with fail
    refine (number_lit_at (w.heap.size + 1) w1.heap.size [80, 70, 49] 3 em 2 2 _ rfl rfl L1 (by omega) z0.1 (by omega) (by omega) (by omega) (by omega)).mono ?_
    rintro e w3 ⟨v3, rfl, R3, B3⟩
    have P3 : PutSt w #[.int .i64 em, .slice ga gs.length gc, .slice pa ps.length pc] w3 v3 ([80, 70, 49] ++ digs em.toNat 2) :=
      ⟨B3.cells _ _ _ _ (by decide) F2, R3, ⟨B3.below.os.trans K2.os, B3.below.tape.trans K2.tape, B3.below.output.trans K2.output, Nat.le_trans K2.size B3.size, fun k hk hn => (B3.below.block k (by omega)).trans (K2.block k hk hn)⟩⟩
    clear f0 f1 f2 L1 F2 K2 hb2 hs B3 R3
    obtain ⟨f0, f1, f2, _, _, _, _⟩ := cells3 P3.box
    go_wp2_with fail
    refine (P3.number gs.length 2 2 rfl (by omega) (by omega) (by omega) (by omega) (by simp [digs_len])).mono ?_
    rintro e w4 ⟨v4, rfl, P4, B4⟩
    clear f0 f1 f2 P3 B4
    obtain ⟨f0, f1, f2, _, _, _, _⟩ := cells3 P4.box
    go_wp2_with fail
    have P4' : PutSt w #[.int .i64 em, .slice ga gs.length gc, .slice pa ps.length pc] w4 v4 (headB em gs.length ++ (gs.take 0).flatMap gB) := by simpa [headB] using P4
    clear P4 f0 f1 f2
    go_loopw [6, 33] (fun v vi wr => ∃ i : Nat, i ≤ gs.length ∧ vi = .int .i64 i ∧ PutSt w #[.int .i64 em, .slice ga gs.length gc, .slice pa ps.length pc] wr v (headB em gs.length ++ (gs.take i).flatMap gB)) (fun _ vi _ => gs.length - (intOf vi).toNat)
    case atStart => exact ⟨0, Nat.zero_le _, rfl, P4'⟩
    case round =>
      obtain ⟨i, hi, rfl, P⟩ := hrel
      have hll : (headB em gs.length ++ (gs.take i).flatMap gB).length ≤ 10000 := by
        have := flat_le (m := 9) (fun g => Nat.le_of_eq (gB_len g)) (gs.take i)
        rw [List.length_append, headB_len]
        have := List.length_take (i := i) (l := gs)
        omega
      by_cases hlt : i < gs.length
      · have hlt' : (i : Int) < (gs.length : Int) := by omega
        obtain ⟨g, hg⟩ : ∃ g, gs[i]? = some g := ⟨gs[i], List.getElem?_eq_getElem hlt⟩
        obtain ⟨ad, hA, hcs⟩ := H.out.gr.old P.keep (by simp) i g hg
        have d0 := hcs 0 _ rfl
        have d1 := hcs 1 _ rfl
        have d2 := hcs 2 _ rfl
        have d3 := hcs 3 _ rfl
        rw [add_at _ _ _ (by omega)] at d1 d2 d3
        rw [Nat.add_zero] at d0
        obtain ⟨g0, g1, g2, g3⟩ := good_g HG.out (List.mem_of_getElem? hg)
        have HX := hid (take_snoc hg)
        subst hA
        clear hcs hg
        go_upto_region 10 with (fail)
        have Q0 := P.alloc (.cells #[.int .i64 g.ru, .int .i64 g.wd, .int .i64 g.ht, .int .i64 g.dp] 45)
        have X := blk_new wr (.cells #[.int .i64 g.ru, .int .i64 g.wd, .int .i64 g.ht, .int .i64 g.dp] 45)
        generalize wr.alloc (.cells #[.int .i64 g.ru, .int .i64 g.wd, .int .i64 g.ht, .int .i64 g.dp] 45) = W0 at *
        generalize wr.heap.size = G at *
        clear P d0 d1 d2 d3
        obtain ⟨x0, x1, x2, x3, _, _, _, _, _⟩ := cells4 X
        go_wp2_with fail
        refine (Q0.number g.ru 3 3 rfl (by omega) (by omega) (by omega) (by omega) (by simp [digs_len] at hll ⊢; omega)).mono ?_
        rintro e w5 ⟨v5, rfl, Q1, B⟩
        replace X := B.cells _ _ _ _ (by decide) X
        clear Q0 B x0 x1 x2 x3
        obtain ⟨x0, x1, x2, x3, _, _, _, _, _⟩ := cells4 X
        go_wp2_with fail
        refine (Q1.number g.wd 2 2 rfl (by omega) (by omega) (by omega) (by omega) (by simp [digs_len] at hll ⊢; omega)).mono ?_
        rintro e w6 ⟨v6, rfl, Q2, B⟩
        replace X := B.cells _ _ _ _ (by decide) X
        clear Q1 B x0 x1 x2 x3
        obtain ⟨x0, x1, x2, x3, _, _, _, _, _⟩ := cells4 X
        go_wp2_with fail
        refine (Q2.number g.ht 2 2 rfl (by omega) (by omega) (by omega) (by omega) (by simp [digs_len] at hll ⊢; omega)).mono ?_
        rintro e w7 ⟨v7, rfl, Q3, B⟩
        replace X := B.cells _ _ _ _ (by decide) X
        clear Q2 B x0 x1 x2 x3
        obtain ⟨x0, x1, x2, x3, _, _, _, _, _⟩ := cells4 X
        go_wp2_with fail
        refine (Q3.number g.dp 2 2 rfl (by omega) (by omega) (by omega) (by omega) (by simp [digs_len] at hll ⊢; omega)).mono ?_
        rintro e w8 ⟨v8, rfl, Q4, B⟩
        replace X := B.cells _ _ _ _ (by decide) X
        clear Q3 B x0 x1 x2 x3
        go_wp2
        refine ⟨⟨i + 1, hlt, by go_num, ?_⟩, by simp [intOf]; omega⟩
        rw [HX.out, List.flatMap_append, List.flatMap_cons, List.flatMap_nil, List.append_nil]
        simp only [gB]
        simp only [List.append_assoc] at Q4 ⊢
        exact Q4
      · obtain rfl : i = gs.length := by omega
        rw [List.take_length] at P hll
        obtain ⟨f0, f1, f2, _, _, _, _⟩ := cells3 P.box
        go_wp2_with fail
        refine (P.number ps.length 2 2 rfl (by omega) (by omega) (by omega) (by omega) (by omega)).mono ?_
        rintro e w5 ⟨v5, rfl, P5, B5⟩
        clear f0 f1 f2 P B5
        obtain ⟨f0, f1, f2, _, _, _, _⟩ := cells3 P5.box
        go_wp2_with fail
        obtain ⟨L, hL⟩ : ∃ L, headB em gs.length ++ gs.flatMap gB ++ digs ps.length 2 = L := ⟨_, rfl⟩
        have hLl : L.length ≤ 10002 := by rw [← hL, List.length_append, digs_len]; omega
        have P5' : PutSt w #[.int .i64 em, .slice ga gs.length gc, .slice pa ps.length pc] w5 v5 (L ++ (ps.take 0).flatMap pB) := by rw [← hL]; simpa using P5
        have HL := hid hL
        clear P5 f0 f1 f2 hll hL
        go_loopw [6, 62] (fun v vi wr => ∃ i : Nat, i ≤ ps.length ∧ vi = .int .i64 i ∧ PutSt w #[.int .i64 em, .slice ga gs.length gc, .slice pa ps.length pc] wr v (L ++ (ps.take i).flatMap pB)) (fun _ vi _ => ps.length - (intOf vi).toNat)
        case atStart => exact ⟨0, Nat.zero_le _, rfl, P5'⟩
        case round =>
          obtain ⟨i, hi, rfl, P⟩ := hrel
          have hll : (L ++ (ps.take i).flatMap pB).length ≤ 60000 := by
            have := flat_le (m := 10) pB_len (ps.take i)
            rw [List.length_append]
            have := List.length_take (i := i) (l := ps)
            omega
          by_cases hlt : i < ps.length
          · have hlt' : (i : Int) < (ps.length : Int) := by omega
            obtain ⟨p, hp⟩ : ∃ p, ps[i]? = some p := ⟨ps[i], List.getElem?_eq_getElem hlt⟩
            obtain ⟨ad, hA, hcs⟩ := H.out.pr.old P.keep (by simp) i p hp
            have d0 := hcs 0 _ rfl
            have d1 := hcs 1 _ rfl
            have d2 := hcs 2 _ rfl
            have d3 := hcs 3 _ rfl
            have d4 := hcs 4 _ rfl
            rw [add_at _ _ _ (by omega)] at d1 d2 d3 d4
            rw [Nat.add_zero] at d0
            obtain ⟨g0, g1, g2, g3⟩ := good_p HG.out HP.out (List.mem_of_getElem? hp)
            have HX := hid (take_snoc hp)
            subst hA
            clear hcs hp
            go_upto_region 19 with (fail)
            have Q0 := P.alloc (.cells #[.int .i64 p.lf, .int .i64 p.rt, .bool p.is, .int .i64 p.lg, .int .i64 p.kn] 52)
            have X := blk_new wr (.cells #[.int .i64 p.lf, .int .i64 p.rt, .bool p.is, .int .i64 p.lg, .int .i64 p.kn] 52)
            generalize wr.alloc (.cells #[.int .i64 p.lf, .int .i64 p.rt, .bool p.is, .int .i64 p.lg, .int .i64 p.kn] 52) = W0 at *
            generalize wr.heap.size = G at *
            clear P d0 d1 d2 d3 d4
            obtain ⟨x0, x1, x2, x3, x4, _, _, _, _, _, _⟩ := cells5 X
            go_wp2_with fail
            refine (Q0.number p.lf 3 3 rfl (by omega) (by omega) (by omega) (by omega) (by simp [digs_len] at hll ⊢; omega)).mono ?_
            rintro e w6 ⟨v6, rfl, Q1, B⟩
            replace X := B.cells _ _ _ _ (by decide) X
            clear Q0 B x0 x1 x2 x3 x4
            obtain ⟨x0, x1, x2, x3, x4, _, _, _, _, _, _⟩ := cells5 X
            go_wp2_with fail
            refine (Q1.number p.rt 3 3 rfl (by omega) (by omega) (by omega) (by omega) (by simp [digs_len] at hll ⊢; omega)).mono ?_
            rintro e w7 ⟨v7, rfl, Q2, B⟩
            replace X := B.cells _ _ _ _ (by decide) X
            clear Q1 B x0 x1 x2 x3 x4
            have HX1 : Hid (∀ b, p.is = b → L ++ (ps.take (i + 1)).flatMap pB = L ++ (ps.take i).flatMap pB ++ digs p.lf.toNat 3 ++ digs p.rt.toNat 3 ++ (if b = true then digs 1 1 ++ digs p.lg.toNat 3 else digs 2 1 ++ digs (p.kn + 32768).toNat 2)) := hid (fun b e => by
              rw [HX.out, List.flatMap_append, List.flatMap_cons, List.flatMap_nil, List.append_nil]
              simp only [pB, e, List.append_assoc])
            obtain ⟨pi, hpi⟩ : ∃ b, p.is = b := ⟨_, rfl⟩
            rw [hpi] at X
            have HPI := hid hpi
            clear hpi
            cases pi with
            | true =>
              obtain ⟨x0, x1, x2, x3, x4, _, _, _, _, _, _⟩ := cells5 X
              go_wp2_with fail
              refine (Q2.number 1 1 1 rfl (by omega) (by omega) (by omega) (by omega) (by simp [digs_len] at hll ⊢; omega)).mono ?_
              rintro e w8 ⟨v8, rfl, Q3, B⟩
              replace X := B.cells _ _ _ _ (by decide) X
              clear Q2 B x0 x1 x2 x3 x4
              obtain ⟨x0, x1, x2, x3, x4, _, _, _, _, _, _⟩ := cells5 X
              go_wp2_with fail
              refine (Q3.number p.lg 3 3 rfl (by omega) (by omega) (by omega) (by omega) (by simp [digs_len] at hll ⊢; omega)).mono ?_
              rintro e w9 ⟨v9, rfl, Q4, B⟩
              replace X := B.cells _ _ _ _ (by decide) X
              clear Q3 B x0 x1 x2 x3 x4
              go_wp2
              refine ⟨⟨i + 1, hlt, by go_num, ?_⟩, by simp [intOf]; omega⟩
              rw [HX1.out _ HPI.out]
              simp only [List.append_assoc] at Q4 ⊢
              exact Q4
            | false =>
              obtain ⟨x0, x1, x2, x3, x4, _, _, _, _, _, _⟩ := cells5 X
              go_wp2_with fail
              refine (Q2.number 2 1 1 rfl (by omega) (by omega) (by omega) (by omega) (by simp [digs_len] at hll ⊢; omega)).mono ?_
              rintro e w8 ⟨v8, rfl, Q3, B⟩
              replace X := B.cells _ _ _ _ (by decide) X
              clear Q2 B x0 x1 x2 x3 x4
              obtain ⟨x0, x1, x2, x3, x4, _, _, _, _, _, _⟩ := cells5 X
              go_wp2_with fail
              refine (Q3.number (p.kn + 32768) 2 2 rfl (by omega) (by omega) (by omega) (by omega) (by simp [digs_len] at hll ⊢; omega)).mono ?_
              rintro e w9 ⟨v9, rfl, Q4, B⟩
              replace X := B.cells _ _ _ _ (by decide) X
              clear Q3 B x0 x1 x2 x3 x4
              go_wp2
              refine ⟨⟨i + 1, hlt, by go_num, ?_⟩, by simp [intOf]; omega⟩
              rw [HX1.out _ HPI.out]
              simp only [List.append_assoc] at Q4 ⊢
              exact Q4
          · obtain rfl : i = ps.length := by omega
            rw [List.take_length] at P hll
            have HB : L ++ ps.flatMap pB = bodyB em gs ps := by rw [← HL.out]; rfl
            rw [HB] at P hll
            have hsl := sumX_lt (bodyB em gs ps)
            have hbl := bodyB_all em gs ps
            go_wp2_with fail
            refine (sum_at (w.heap.size + 1) _ _ _ P.row (by omega) hbl).mono ?_
            rintro e w6 ⟨rfl, rfl⟩
            go_wp2_with fail
            refine (P.number (sumX (bodyB em gs ps)) 4 4 rfl (by omega) (by omega) (by omega) (by omega) (by omega)).mono ?_
            rintro e w7 ⟨v7, rfl, P7, B7⟩
            rw [Int.toNat_natCast] at P7
            have kb := string_at P7.row (fontB_all em gs ps) (by simp [digs_len])
            go_wp2
            go_ret2
            exact ⟨by unfold putS; rw [if_pos HC.out]; rfl, P7.keep⟩
  · have h1 : (c == 0) = false := by simpa using h0
    have h2 := hid h0
    clear h0
    go_enter Try.func26, Try.ntmps26
    go_wp2_with fail
    refine (HN.out _ K0).mono ?_
    rintro e w1 ⟨⟨nv, rfl⟩, K1⟩
    go_wp2
    go_ret2
    exact ⟨by unfold putS; rw [if_neg (by rw [HC.out]; exact h2.out)]; rfl, K0.trans K1⟩
end Go.Proofs.Ythcfgechifogeaa
