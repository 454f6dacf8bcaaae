/- Font: the reference's Put by a contract. -/
import Derived.Test.YthcfgechifogeaaFnRef
import Derived.Test.YthcfgechifogeaaTabRNew
import Derived.Deep.RegionHeld3
import Derived.Lib.SlBytesConst
namespace Go.Proofs.Ythcfgechifogeaa
open Go.RowKit
set_option linter.unusedSimpArgs false
set_option linter.unusedVariables false

set_option maxHeartbeats 4000000 in
set_option maxRecDepth 100000 in
theorem rput_any (f : FontX) (w : World) (h : IsF w f) : Calls Try.prog 27 #[f.val] w fun e w' => e = .returned (.tuple #[.string (putS f.em f.gs f.ps), .int .i64 (checkX f.em f.gs f.ps)]) ∧ Keep [] w w' := by
  have NW : ∀ W, Keep [] w W → Calls Try.prog 16 #[f.val] W fun e w' => (∃ v, e = .returned (.tuple #[v, .int .i64 (checkX f.em f.gs f.ps)])) ∧ Keep [] W w' := fun W K => (rnew_any f W (h.old K (by simp))).mono (by
    rintro e w' (⟨_, rfl, K⟩ | ⟨h0, t, rfl, _, _, _, _, _, K⟩)
    · exact ⟨⟨_, rfl⟩, K⟩
    · exact ⟨⟨_, by rw [h0]⟩, K⟩)
  obtain ⟨em, ga, gc, pa, pc, gs, ps⟩ := f
  simp only [FontX.val] at NW ⊢
  obtain ⟨c, hc⟩ : ∃ c, checkX em gs ps = c := ⟨_, rfl⟩
  rw [hc] at NW ⊢
  have HC := hid hc
  have HN := hid NW
  have H := hid h
  clear hc NW h
  have K0 : Keep [] w (w.alloc (.cells #[.int .i64 em, .slice ga gs.length gc, .slice pa ps.length pc] 25)) := (Keep.refl _ _).alloc _
  have F0 := blk_new w (.cells #[.int .i64 em, .slice ga gs.length gc, .slice pa ps.length pc] 25)
  by_cases h0 : c = 0
  · subst h0
    have hz := check_zero HC.out
    have z0 : 0 ≤ em ∧ em ≤ 16384 := by omega
    have z1 : gs.length ≤ 1024 := by omega
    have z2 : ps.length ≤ 4096 := by omega
    have HG := hid hz.2.2.1
    have HP := hid hz.2.2.2
    clear hz
    go_enter Try.func27, Try.ntmps27
    go_wp2_with fail
    refine (HN.out _ K0).mono ?_
    rintro e w1 ⟨⟨nv, rfl⟩, K1⟩
    have F1 := K1.blk F0 (by simp)
    have kc := fun (w : World) (C : Array Value) (n c : Nat) => Lib.run_convert_bytes_const (P := Try.prog) w 66 5 C n c Try.underlying66 Try.underlying5
    have L1 : LitB (w1.alloc (.cells #[.int .u8 80, .int .u8 70, .int .u8 49] 5 (#[Value.int .u8 80, Value.int .u8 70, Value.int .u8 49].size, #[Value.int .u8 80, Value.int .u8 70, Value.int .u8 49].size + 1))) w1.heap.size [80, 70, 49] := LitB.new (by rfl)
    have F2 := blk_alloc F1 (.cells #[.int .u8 80, .int .u8 70, .int .u8 49] 5 (#[Value.int .u8 80, Value.int .u8 70, Value.int .u8 49].size, #[Value.int .u8 80, Value.int .u8 70, Value.int .u8 49].size + 1))
    have K2 := (K0.trans K1).alloc (.cells #[.int .u8 80, .int .u8 70, .int .u8 49] 5 (#[Value.int .u8 80, Value.int .u8 70, Value.int .u8 49].size, #[Value.int .u8 80, Value.int .u8 70, Value.int .u8 49].size + 1))
    have hs := blk_lt F1
    obtain ⟨f0, f1, f2, _, _, _, _⟩ := cells3 F1
    clear K0 F0 K1
    go_wp2_with fail
    clear f0 f1 f2 F1
    generalize w1.alloc (.cells #[.int .u8 80, .int .u8 70, .int .u8 49] 5 (#[Value.int .u8 80, Value.int .u8 70, Value.int .u8 49].size, #[Value.int .u8 80, Value.int .u8 70, Value.int .u8 49].size + 1)) = W2 at *
    have hb2 := blk_lt F2
    refine (rlaid_lit_at (w.heap.size + 1) w1.heap.size [80, 70, 49] 3 em 2 2 _ rfl rfl L1 (by omega) z0.1 (by omega) (by omega) (by omega) (by omega)).mono ?_
    rintro e w3 ⟨v3, rfl, R3, B3⟩
    have P3 : PutSt w #[.int .i64 em, .slice ga gs.length gc, .slice pa ps.length pc] w3 v3 ([80, 70, 49] ++ digs em.toNat 2) :=
      ⟨B3.cells _ _ _ _ (by decide) F2, R3, ⟨B3.below.os.trans K2.os, B3.below.tape.trans K2.tape, B3.below.output.trans K2.output, Nat.le_trans K2.size B3.size, fun k hk hn => (B3.below.block k (by omega)).trans (K2.block k hk hn)⟩⟩
    clear L1 F2 K2 hb2 hs B3 R3
    obtain ⟨f0, f1, f2, _, _, _, _⟩ := cells3 P3.box
    go_wp2_with fail
    refine (P3.laid gs.length 2 2 rfl (by omega) (by omega) (by omega) (by omega) (by simp [digs_len])).mono ?_
    rintro e w4 ⟨v4, rfl, P4, B4⟩
    clear f0 f1 f2 P3 B4
    obtain ⟨f0, f1, f2, _, _, _, _⟩ := cells3 P4.box
    go_wp2_with fail
    have P4' : PutSt w #[.int .i64 em, .slice ga gs.length gc, .slice pa ps.length pc] w4 v4 (headB em gs.length ++ (gs.take 0).flatMap gB) := by simpa [headB] using P4
    clear P4 f0 f1 f2
    go_loopw [6, 7] (fun v vi wr => ∃ i : Nat, i ≤ gs.length ∧ vi = .int .i64 i ∧ PutSt w #[.int .i64 em, .slice ga gs.length gc, .slice pa ps.length pc] wr v (headB em gs.length ++ (gs.take i).flatMap gB)) (fun _ vi _ => gs.length - (intOf vi).toNat)
    case atStart => exact ⟨0, Nat.zero_le _, rfl, P4'⟩
    case round =>
      obtain ⟨i, hi, rfl, P⟩ := hrel
      obtain ⟨f0, f1, f2, _, _, _, _⟩ := cells3 P.box
      have hll : (headB em gs.length ++ (gs.take i).flatMap gB).length ≤ 10000 := by
        have := flat_le (m := 9) (fun g => Nat.le_of_eq (gB_len g)) (gs.take i)
        rw [List.length_append, headB_len]
        have := List.length_take (i := i) (l := gs)
        omega
      by_cases hlt : i < gs.length
      · have hlt' : (i : Int) < (gs.length : Int) := by omega
        obtain ⟨g, hg⟩ : ∃ g, gs[i]? = some g := ⟨gs[i], List.getElem?_eq_getElem hlt⟩
        obtain ⟨ad, hA, hcs⟩ := H.out.gr.old P.keep (by simp) i g hg
        have d0 := hcs 0 _ rfl
        have d1 := hcs 1 _ rfl
        have d2 := hcs 2 _ rfl
        have d3 := hcs 3 _ rfl
        rw [add_at _ _ _ (by omega)] at d1 d2 d3
        rw [Nat.add_zero] at d0
        obtain ⟨g0, g1, g2, g3⟩ := good_g HG.out (List.mem_of_getElem? hg)
        have HX := hid (take_snoc hg)
        subst hA
        clear hcs hg
        go_upto_region 10 with (fail)
        have Q0 := P.alloc (.cells #[.int .i64 g.ru, .int .i64 g.wd, .int .i64 g.ht, .int .i64 g.dp] 45)
        have X := blk_new wr (.cells #[.int .i64 g.ru, .int .i64 g.wd, .int .i64 g.ht, .int .i64 g.dp] 45)
        generalize wr.alloc (.cells #[.int .i64 g.ru, .int .i64 g.wd, .int .i64 g.ht, .int .i64 g.dp] 45) = W0 at *
        generalize wr.heap.size = G at *
        clear P d0 d1 d2 d3 f0 f1 f2
        have Q0' := Q0.drew
        have X' := blk_drew X
        obtain ⟨x0, x1, x2, x3, _, _, _, _, _⟩ := cells4 X
        clear Q0 X
        go_region_held3 (fun w' => w'.cell? ⟨G, 0, none⟩ = some (.int .i64 g.ru) ∧ w'.cell? ⟨G, 1, none⟩ = some (.int .i64 g.wd) ∧ w'.cell? ⟨G, 2, none⟩ = some (.int .i64 g.ht) ∧ w'.cell? ⟨G, 3, none⟩ = some (.int .i64 g.dp)) ((go_split_ands; refine ⟨?_, ?_, ?_, ?_⟩ <;> (repeat (with_reducible first | assumption | refine cell_drew' ?_)))) ((go_at_call 53; (first
          | ((with_reducible refine (Q0'.laid g.ru 3 3 rfl (by omega) (by omega) (by omega) (by omega) (by simp [digs_len] at hll ⊢; omega)).mono ?_); rintro e w5 ⟨v5, rfl, Q1, B⟩; have X1 := B.cells _ _ _ _ (by decide) X'; obtain ⟨_, _, _, _, _, _, _, _, _⟩ := cells4 X1; clear B)
          | ((with_reducible refine (Q1.laid g.wd 2 2 rfl (by omega) (by omega) (by omega) (by omega) (by simp [digs_len] at hll ⊢; omega)).mono ?_); rintro e w6 ⟨v6, rfl, Q2, B⟩; have X2 := B.cells _ _ _ _ (by decide) X1; obtain ⟨_, _, _, _, _, _, _, _, _⟩ := cells4 X2; clear B)
          | ((with_reducible refine (Q2.laid g.ht 2 2 rfl (by omega) (by omega) (by omega) (by omega) (by simp [digs_len] at hll ⊢; omega)).mono ?_); rintro e w7 ⟨v7, rfl, Q3, B⟩; have X3 := B.cells _ _ _ _ (by decide) X2; obtain ⟨_, _, _, _, _, _, _, _, _⟩ := cells4 X3; clear B)
          | ((with_reducible refine (Q3.laid g.dp 2 2 rfl (by omega) (by omega) (by omega) (by omega) (by simp [digs_len] at hll ⊢; omega)).mono ?_); rintro e w8 ⟨v8, rfl, Q4, B⟩; have X4 := B.cells _ _ _ _ (by decide) X3; obtain ⟨_, _, _, _, _, _, _, _, _⟩ := cells4 X4; clear B))))
        go_wp2
        refine ⟨⟨i + 1, hlt, by go_num, ?_⟩, by simp [intOf]; omega⟩
        rw [HX.out, List.flatMap_append, List.flatMap_cons, List.flatMap_nil, List.append_nil]
        simp only [gB]
        simp only [List.append_assoc] at Q4 ⊢
        exact Q4
      · obtain rfl : i = gs.length := by omega
        rw [List.take_length] at P hll
        go_wp2_with fail
        refine (P.laid ps.length 2 2 rfl (by omega) (by omega) (by omega) (by omega) (by omega)).mono ?_
        rintro e w5 ⟨v5, rfl, P5, B5⟩
        clear f0 f1 f2 P B5
        obtain ⟨f0, f1, f2, _, _, _, _⟩ := cells3 P5.box
        go_wp2_with fail
        obtain ⟨L, hL⟩ : ∃ L, headB em gs.length ++ gs.flatMap gB ++ digs ps.length 2 = L := ⟨_, rfl⟩
        have hLl : L.length ≤ 10002 := by rw [← hL, List.length_append, digs_len]; omega
        have P5' : PutSt w #[.int .i64 em, .slice ga gs.length gc, .slice pa ps.length pc] w5 v5 (L ++ (ps.take 0).flatMap pB) := by rw [← hL]; simpa using P5
        have HL := hid hL
        clear P5 f0 f1 f2 hll hL
        go_loopw [6, 9] (fun v vi wr => ∃ i : Nat, i ≤ ps.length ∧ vi = .int .i64 i ∧ PutSt w #[.int .i64 em, .slice ga gs.length gc, .slice pa ps.length pc] wr v (L ++ (ps.take i).flatMap pB)) (fun _ vi _ => ps.length - (intOf vi).toNat)
        case atStart => exact ⟨0, Nat.zero_le _, rfl, P5'⟩
        case round =>
          obtain ⟨i, hi, rfl, P⟩ := hrel
          obtain ⟨f0, f1, f2, _, _, _, _⟩ := cells3 P.box
          have hll : (L ++ (ps.take i).flatMap pB).length ≤ 60000 := by
            have := flat_le (m := 10) pB_len (ps.take i)
            rw [List.length_append]
            have := List.length_take (i := i) (l := ps)
            omega
          by_cases hlt : i < ps.length
          · have hlt' : (i : Int) < (ps.length : Int) := by omega
            obtain ⟨p, hp⟩ : ∃ p, ps[i]? = some p := ⟨ps[i], List.getElem?_eq_getElem hlt⟩
            obtain ⟨ad, hA, hcs⟩ := H.out.pr.old P.keep (by simp) i p hp
            have d0 := hcs 0 _ rfl
            have d1 := hcs 1 _ rfl
            have d2 := hcs 2 _ rfl
            have d3 := hcs 3 _ rfl
            have d4 := hcs 4 _ rfl
            rw [add_at _ _ _ (by omega)] at d1 d2 d3 d4
            rw [Nat.add_zero] at d0
            obtain ⟨g0, g1, g2, g3⟩ := good_p HG.out HP.out (List.mem_of_getElem? hp)
            have HX := hid (take_snoc hp)
            subst hA
            clear hcs hp
            go_upto_region 16 with (fail)
            have Q0 := P.alloc (.cells #[.int .i64 p.lf, .int .i64 p.rt, .bool p.is, .int .i64 p.lg, .int .i64 p.kn] 52)
            have X := blk_new wr (.cells #[.int .i64 p.lf, .int .i64 p.rt, .bool p.is, .int .i64 p.lg, .int .i64 p.kn] 52)
            generalize wr.alloc (.cells #[.int .i64 p.lf, .int .i64 p.rt, .bool p.is, .int .i64 p.lg, .int .i64 p.kn] 52) = W0 at *
            generalize wr.heap.size = G at *
            clear P d0 d1 d2 d3 d4 f0 f1 f2
            have Q0' := Q0.drew
            have X' := blk_drew X
            obtain ⟨x0, x1, x2, x3, x4, _, _, _, _, _, _⟩ := cells5 X
            clear Q0 X
            go_region_held3 (fun w' => w'.cell? ⟨G, 0, none⟩ = some (.int .i64 p.lf) ∧ w'.cell? ⟨G, 1, none⟩ = some (.int .i64 p.rt) ∧ w'.cell? ⟨G, 2, none⟩ = some (.bool p.is) ∧ w'.cell? ⟨G, 3, none⟩ = some (.int .i64 p.lg) ∧ w'.cell? ⟨G, 4, none⟩ = some (.int .i64 p.kn)) ((go_split_ands; refine ⟨?_, ?_, ?_, ?_, ?_⟩ <;> (repeat (with_reducible first | assumption | refine cell_drew' ?_)))) ((go_at_call 53; (first | ((with_reducible refine (Q0'.laid p.lf 3 3 rfl (by omega) (by omega) (by omega) (by omega) (by simp [digs_len] at hll ⊢; omega)).mono ?_); rintro e w6 ⟨v6, rfl, Q1, B⟩; have X1 := B.cells _ _ _ _ (by decide) X'; obtain ⟨_, _, _, _, _, _, _, _, _, _, _⟩ := cells5 X1; clear B) | ((with_reducible refine (Q1.laid p.rt 3 3 rfl (by omega) (by omega) (by omega) (by omega) (by simp [digs_len] at hll ⊢; omega)).mono ?_); rintro e w7 ⟨v7, rfl, Q2, B⟩; have X2 := B.cells _ _ _ _ (by decide) X1; obtain ⟨_, _, _, _, _, _, _, _, _, _, _⟩ := cells5 X2; clear B))))
            have HX1 : Hid (∀ b, p.is = b → L ++ (ps.take (i + 1)).flatMap pB = L ++ (ps.take i).flatMap pB ++ digs p.lf.toNat 3 ++ digs p.rt.toNat 3 ++ (if b = true then digs 1 1 ++ digs p.lg.toNat 3 else digs 2 1 ++ digs (p.kn + 32768).toNat 2)) := hid (fun b e => by
              rw [HX.out, List.flatMap_append, List.flatMap_cons, List.flatMap_nil, List.append_nil]
              simp only [pB, e, List.append_assoc])
            cases hpi : p.is with
            | true =>
              clear X'
              rw [hpi] at X2
              obtain ⟨x0, x1, x2, x3, x4, _, _, _, _, _, _⟩ := cells5 X2
              go_upto_region 18 with (fail)
              have Q2' := Q2.drew
              have X2' := blk_drew X2
              go_region_held3 (fun w' => w'.cell? ⟨G, 0, none⟩ = some (.int .i64 p.lf) ∧ w'.cell? ⟨G, 1, none⟩ = some (.int .i64 p.rt) ∧ w'.cell? ⟨G, 2, none⟩ = some (.bool true) ∧ w'.cell? ⟨G, 3, none⟩ = some (.int .i64 p.lg) ∧ w'.cell? ⟨G, 4, none⟩ = some (.int .i64 p.kn)) ((go_split_ands; refine ⟨?_, ?_, ?_, ?_, ?_⟩ <;> (repeat (with_reducible first | assumption | refine cell_drew' ?_)))) ((go_at_call 53; (first | ((with_reducible refine (Q2'.laid 1 1 1 rfl (by omega) (by omega) (by omega) (by omega) (by simp [digs_len] at hll ⊢; omega)).mono ?_); rintro e w8 ⟨v8, rfl, Q3, B⟩; have X3 := B.cells _ _ _ _ (by decide) X2'; obtain ⟨_, _, _, _, _, _, _, _, _, _, _⟩ := cells5 X3; clear B) | ((with_reducible refine (Q3.laid p.lg 3 3 rfl (by omega) (by omega) (by omega) (by omega) (by simp [digs_len] at hll ⊢; omega)).mono ?_); rintro e w9 ⟨v9, rfl, Q4, B⟩; have X4 := B.cells _ _ _ _ (by decide) X3; obtain ⟨_, _, _, _, _, _, _, _, _, _, _⟩ := cells5 X4; clear B))))
              go_wp2
              refine ⟨⟨i + 1, hlt, by go_num, ?_⟩, by simp [intOf]; omega⟩
              rw [HX1.out _ hpi]
              simp only [List.append_assoc] at Q4 ⊢
              exact Q4
            | false =>
              clear X'
              rw [hpi] at X2
              obtain ⟨x0, x1, x2, x3, x4, _, _, _, _, _, _⟩ := cells5 X2
              go_upto_region 19 with (fail)
              have hwk := IntWalk.i64_in (p.kn + 32768) (by omega)
              have Q2' := Q2.drew
              have X2' := blk_drew X2
              go_region_held3 (fun w' => w'.cell? ⟨G, 0, none⟩ = some (.int .i64 p.lf) ∧ w'.cell? ⟨G, 1, none⟩ = some (.int .i64 p.rt) ∧ w'.cell? ⟨G, 2, none⟩ = some (.bool false) ∧ w'.cell? ⟨G, 3, none⟩ = some (.int .i64 p.lg) ∧ w'.cell? ⟨G, 4, none⟩ = some (.int .i64 p.kn)) ((go_split_ands; refine ⟨?_, ?_, ?_, ?_, ?_⟩ <;> (repeat (with_reducible first | assumption | refine cell_drew' ?_)))) ((go_at_call 53; (first | ((with_reducible refine (Q2'.laid 2 1 1 rfl (by omega) (by omega) (by omega) (by omega) (by simp [digs_len] at hll ⊢; omega)).mono ?_); rintro e w8 ⟨v8, rfl, Q3, B⟩; have X3 := B.cells _ _ _ _ (by decide) X2'; obtain ⟨_, _, _, _, _, _, _, _, _, _, _⟩ := cells5 X3; clear B) | ((with_reducible refine (Q3.laid (p.kn + 32768) 2 2 rfl (by omega) (by omega) (by omega) (by omega) (by simp [digs_len] at hll ⊢; omega)).mono ?_); rintro e w9 ⟨v9, rfl, Q4, B⟩; have X4 := B.cells _ _ _ _ (by decide) X3; obtain ⟨_, _, _, _, _, _, _, _, _, _, _⟩ := cells5 X4; clear B))))
              go_wp2
              refine ⟨⟨i + 1, hlt, by go_num, ?_⟩, by simp [intOf]; omega⟩
              rw [HX1.out _ hpi]
              simp only [List.append_assoc] at Q4 ⊢
              exact Q4
          · obtain rfl : i = ps.length := by omega
            rw [List.take_length] at P hll
            have HB : L ++ ps.flatMap pB = bodyB em gs ps := by rw [← HL.out]; rfl
            rw [HB] at P hll
            have hsl := sumX_lt (bodyB em gs ps)
            have hbl := bodyB_all em gs ps
            go_wp2_with fail
            refine (rsum_at (w.heap.size + 1) _ _ _ P.row (by omega) hbl).mono ?_
            rintro e w6 ⟨rfl, rfl⟩
            go_wp2_with fail
            refine (P.laid (sumX (bodyB em gs ps)) 4 4 rfl (by omega) (by omega) (by omega) (by omega) (by omega)).mono ?_
            rintro e w7 ⟨v7, rfl, P7, B7⟩
            rw [Int.toNat_natCast] at P7
            have kb := string_at P7.row (fontB_all em gs ps) (by simp [digs_len])
            go_wp2
            go_ret2
            exact ⟨by unfold putS; rw [if_pos HC.out]; rfl, P7.keep⟩
  · have h1 : (c == 0) = false := by simpa using h0
    have h2 := hid h0
    clear h0
    go_enter Try.func27, Try.ntmps27
    go_wp2_with fail
    refine (HN.out _ K0).mono ?_
    rintro e w1 ⟨⟨nv, rfl⟩, K1⟩
    go_wp2
    go_ret2
    exact ⟨by unfold putS; rw [if_neg (by rw [HC.out]; exact h2.out)]; rfl, K0.trans K1⟩
end Go.Proofs.Ythcfgechifogeaa
