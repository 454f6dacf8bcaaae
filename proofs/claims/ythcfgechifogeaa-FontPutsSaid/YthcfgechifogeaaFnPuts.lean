/- Font: the law FontPuts. -/
import Derived.Test.YthcfgechifogeaaFnCopied
import Derived.Test.YthcfgechifogeaaFnRPut
namespace Go.Proofs.Ythcfgechifogeaa
open Go.RowKit Go.Deep
set_option linter.unusedSimpArgs false
set_option linter.unusedVariables false

theorem rd_pre {α : Type} {enc : α → List Value} {sz : Nat} (hsz : ∀ y, (enc y).length = sz) {w : World} {g : Nat} {cur : List Value} {l : List α} {T : TypeId} (h : w.heap[g]? = some (.cells (l.flatMap enc ++ cur).toArray T (0, 0))) : Rd enc sz w (some ⟨g, 0, none⟩) l := by
  refine Rd.of_block h (fun i x j v hi hv => ?_)
  have hfl := flat_len (enc := enc) (sz := sz) hsz l
  have hil := (List.getElem?_eq_some_iff.1 hi).1
  have hjl : j < sz := by have := (List.getElem?_eq_some_iff.1 hv).1; rw [hsz] at this; exact this
  have hb : i * sz + j < l.length * sz := by
    have : (i + 1) * sz ≤ l.length * sz := Nat.mul_le_mul_right _ hil
    rw [Nat.succ_mul] at this
    omega
  simp only [List.getElem?_toArray]
  rw [List.getElem?_append_left (by rw [hfl]; exact hb)]
  exact flat_get hsz l i j x v hi hv
theorem mark_cell {α : Type} {enc : α → List Value} {sz : Nat} (hsz : ∀ y, (enc y).length = sz) {w : World} {g : Nat} {u : List Value} {l : List α} {T : TypeId} {v : Value} (hu : 0 < u.length) (h : w.heap[g]? = some (.cells (l.flatMap enc ++ u.set 0 v).toArray T (0, 0))) : w.cell? ⟨g, l.length * sz, none⟩ = some v := by
  have hfl := flat_len (enc := enc) (sz := sz) hsz l
  rw [blk_cell h]
  simp only [List.getElem?_toArray]
  rw [List.getElem?_append_right (by rw [hfl]; omega), hfl, Nat.sub_self]
  simp [hu]
theorem IsF.flies {w : World} {em : Int} {A : Option Addr} {c : Nat} {B : Option Addr} {d : Nat} {gs : List GlyphX} {ps : List PairX} (h : IsF w ⟨em, A, c, B, d, gs, ps⟩) : FLies w em gs ps (.agg #[.int .i64 em, .slice A gs.length c, .slice B ps.length d]) :=
  ⟨A, c, B, d, rfl, h.gr, h.pr⟩

set_option maxHeartbeats 4000000 in
set_option maxRecDepth 100000 in
theorem walkPuts (f : FontX) (w : World) (hf : IsF w f) (hg : f.gs.length ≤ 4398046511104) (hp : f.ps.length ≤ 4398046511104) : Calls Try.prog 7 #[f.val] w fun e w' => e = .returned (.bool true) ∧ Keep [] w w' := by
  obtain ⟨em, ga, gc, pa, pc, gs, ps⟩ := f
  have RP : ∀ W, Keep [] w W → Calls Try.prog 27 #[.agg #[.int .i64 em, .slice ga gs.length gc, .slice pa ps.length pc]] W fun e w' => e = .returned (.tuple #[.string (putS em gs ps), .int .i64 (checkX em gs ps)]) ∧ Keep [] W w' := fun W K => rput_any _ W (hf.old K (by simp))
  have CP : ∀ W, Keep [] w W → Calls Try.prog 25 #[.agg #[.int .i64 em, .slice ga gs.length gc, .slice pa ps.length pc]] W fun e w' => ∃ g p, e = .returned (.agg #[.int .i64 em, .slice (some ⟨g, 0, none⟩) gs.length (gs.length + 1), .slice (some ⟨p, 0, none⟩) ps.length (ps.length + 1)]) ∧ W.heap.size ≤ g ∧ W.heap.size ≤ p ∧ Copied w' gs ps g p ∧ Keep [] W w' := fun W K => copied_any ⟨em, ga, gc, pa, pc, gs, ps⟩ W (hf.old K (by simp)) hg hp
  have FL : ∀ W, Keep [] w W → FLies W em gs ps (.agg #[.int .i64 em, .slice ga gs.length gc, .slice pa ps.length pc]) := fun W K => (hf.old K (by simp)).flies
  have hgi := hf.gi
  have hpi := hf.pi_
  have HI := hid (And.intro hgi hpi)
  have HP := hid RP
  have HC := hid CP
  have HL := hid FL
  simp only [FontX.val] at *
  clear hf hgi hpi RP CP FL
  generalize hT : putS em gs ps = T at *
  generalize hkk : checkX em gs ps = kk at *
  have HT := hid hT
  have HK := hid hkk
  clear hT hkk
  have X1 := blk_new w (.cells #[.int .i64 em, .slice ga gs.length gc, .slice pa ps.length pc] 25)
  have K0 : Keep [] w (w.alloc (.cells #[.int .i64 em, .slice ga gs.length gc, .slice pa ps.length pc] 25)) := (Keep.refl _ _).alloc _
  go_enter Try.func7, Try.ntmps7
  go_upto_region 1 with (fail)
  generalize w.alloc (.cells #[.int .i64 em, .slice ga gs.length gc, .slice pa ps.length pc] 25) = W0 at *
  generalize w.heap.size = n0 at *
  go_wp2_with fail
  refine (shown06 _).mono ?_
  rintro e w1 ⟨rfl, K1⟩
  replace X1 := K1.blk X1 (by simp)
  replace K1 := K0.trans K1
  clear K0
  obtain ⟨f0, f1, f2, _, _, _, fs⟩ := cells3 X1
  go_wp2_with fail
  refine (HC.out w1 K1).mono ?_
  rintro e w2 ⟨g, p, rfl, hgw, hpw, C2, K2⟩
  have X4 := blk_new w2 (.cells #[.int .i64 em, .slice (some ⟨g, 0, none⟩) gs.length (gs.length + 1), .slice (some ⟨p, 0, none⟩) ps.length (ps.length + 1)] 25)
  have KA := (Keep.refl [] w2).alloc (.cells #[.int .i64 em, .slice (some ⟨g, 0, none⟩) gs.length (gs.length + 1), .slice (some ⟨p, 0, none⟩) ps.length (ps.length + 1)] 25)
  obtain ⟨⟨u, hu, Bu⟩, ⟨v, hv, Bv⟩⟩ := C2
  replace Bu := KA.blk Bu (by simp)
  replace Bv := KA.blk Bv (by simp)
  replace X1 := (K2.trans KA).blk X1 (by simp)
  replace K2 := (K1.trans K2).trans KA
  clear K1 f0 f1 f2 fs KA
  go_upto_region 5 with (fail)
  generalize w2.alloc (.cells #[.int .i64 em, .slice (some ⟨g, 0, none⟩) gs.length (gs.length + 1), .slice (some ⟨p, 0, none⟩) ps.length (ps.length + 1)] 25) = W3 at *
  generalize w2.heap.size = n4 at *
  obtain ⟨q0, q1, q2, _, _, _, qs⟩ := cells3 X4
  have Ru := rd_pre (enc := GlyphX.row) (sz := 4) (fun _ => rfl) Bu
  have Rv := rd_pre (enc := PairX.row) (sz := 5) (fun _ => rfl) Bv
  have PO := put_any ⟨em, some ⟨g, 0, none⟩, gs.length + 1, some ⟨p, 0, none⟩, ps.length + 1, gs, ps⟩ W3 ⟨Ru, Rv, fun e => (nomatch e), fun e => (nomatch e), HI.out.1, HI.out.2, by simp; omega, by simp; omega⟩
  simp only [FontX.val, HT.out, HK.out] at PO
  go_wp2_with fail
  refine PO.mono ?_
  clear PO
  rintro e w4 ⟨rfl, K4⟩
  replace X1 := K4.blk X1 (by simp)
  replace X4 := K4.blk X4 (by simp)
  replace Bu := K4.blk Bu (by simp)
  replace Bv := K4.blk Bv (by simp)
  replace K4 := K2.trans K4
  clear q0 q1 q2 qs K2 Ru Rv
  obtain ⟨f0, f1, f2, _, _, _, fs⟩ := cells3 X1
  go_wp2_with fail
  refine (HP.out w4 K4).mono ?_
  rintro e w5 ⟨rfl, K5⟩
  replace X1 := K5.blk X1 (by simp)
  replace X4 := K5.blk X4 (by simp)
  replace Bu := K5.blk Bu (by simp)
  replace Bv := K5.blk Bv (by simp)
  replace K5 := K4.trans K5
  clear f0 f1 f2 fs K4
  obtain ⟨f0, f1, f2, _, _, _, fs⟩ := cells3 X1
  obtain ⟨q0, q1, q2, _, _, _, qs⟩ := cells3 X4
  have Ru := rd_pre (enc := GlyphX.row) (sz := 4) (fun _ => rfl) Bu
  have Rv := rd_pre (enc := PairX.row) (sz := 5) (fun _ => rfl) Bv
  have SM := same06 em gs ps (.agg #[.int .i64 em, .slice (some ⟨g, 0, none⟩) gs.length (gs.length + 1), .slice (some ⟨p, 0, none⟩) ps.length (ps.length + 1)]) _ w5 ⟨_, _, _, _, rfl, Ru, Rv⟩ (HL.out w5 K5) (by omega) (by omega)
  go_wp2_with fail
  refine SM.mono ?_
  clear SM
  rintro e w6 ⟨rfl, K6⟩
  replace X1 := K6.blk X1 (by simp)
  replace X4 := K6.blk X4 (by simp)
  replace Bu := K6.blk Bu (by simp)
  replace Bv := K6.blk Bv (by simp)
  replace K6 := K5.trans K6
  clear f0 f1 f2 fs q0 q1 q2 qs K5 Ru Rv
  obtain ⟨f0, f1, f2, _, _, _, fs⟩ := cells3 X1
  obtain ⟨q0, q1, q2, _, _, _, qs⟩ := cells3 X4
  have m1 := mark_cell (enc := GlyphX.row) (sz := 4) (fun _ => rfl) (by omega) Bu
  have m2 := mark_cell (enc := PairX.row) (sz := 5) (fun _ => rfl) (by omega) Bv
  have e1 : IntKind.i64.wrap ((gs.length : Int) + 1) = ((gs.length + 1 : Nat) : Int) := IntWalk.i64_in _ (by omega)
  have e2 : IntKind.i64.wrap ((ps.length : Int) + 1) = ((ps.length + 1 : Nat) : Int) := IntWalk.i64_in _ (by omega)
  go_upto_region 8 with (fail)
  go_quiet (fail)
  go_wp2
  go_ret
  exact ⟨rfl, K6.drewN _⟩
set_option maxRecDepth 100000 in
theorem walkFontPuts {H : Type} {enc : TypeId × Value → H} {W : World} {base : Nat} {v0 : Value} {d0 : DataW H} {p0 : List MemPlace} (ok0 : Value.okWide Try.prog W .any base 25 v0) (h0 : DataW.Trod enc Try.prog W 0 (fun _ => true) true 25 v0 d0 p0)
    (z0 : ∀ n ∈ d0.weights Try.prog 25, n ≤ reachBytes) (w : World) (hw : w = W) :
    Calls Try.prog 7 #[v0] w fun e w' => e = .returned (.bool true) ∧ Below w.heap.size w w' := by
  subst hw
  obtain ⟨f, rfl, hf⟩ := open_font ok0 h0
  obtain ⟨s1, s2⟩ := font_small h0 z0
  refine (walkPuts f w hf s1 s2).mono ?_
  rintro e w' ⟨rfl, K⟩
  exact ⟨rfl, K.below (Nat.le_refl _) (by simp)⟩
end Go.Proofs.Ythcfgechifogeaa
