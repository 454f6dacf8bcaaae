/- ColumnSlabs' walk, and its arguments opened. -/
import Derived.Test.YtgelccenbceeoaaLawSlabs
import Derived.Test.YtgelccenbceeoaaLaidOpen
import Derived.Test.YtgelccenbceeoaaKeepRow
import Derived.Test.YtgelccenbceeoaaRows
namespace Go.Proofs.Ytgelccenbceeoaa
open Go.RowKit
set_option linter.unusedSimpArgs false
set_option linter.unusedVariables false

theorem lawSlabs_any (A B : Option Addr) (c d : Nat) (ps : List ParX) (ls : List LinesX) (s t : Int) (w : World) (L : Laid w A B c d ps ls) (ht : totalN ps ls ≤ 2147483647) (hs : s ≤ 9223372036854775807) (hd : t ≤ 9223372036854775807) :
    Calls Try.prog 39 #[.slice A ps.length c, .slice B ls.length d, .int .i64 s, .int .i64 t] w fun e w' => LawPost (LawOut ps ls s t) w e w' := by
  by_cases hsd : s < 0 ∨ t < 0
  · unfold LawOut
    rw [if_pos hsd]
    exact lawSlabs_bad A B ps.length c ls.length d s t w hsd
  · unfold LawOut
    rw [if_neg hsd]
    exact lawSlabs_good A B c d ps ls s t w L ht (by omega) hs (by omega) hd

theorem LawOut_len {ps : List ParX} {ls : List LinesX} (s t : Int) (ht : totalN ps ls ≤ 2147483647) : (LawOut ps ls s t).length ≤ 2147483647 := by
  unfold LawOut
  split
  · simp
  · exact outs_len _ ht

set_option maxHeartbeats 12800000 in
set_option maxRecDepth 100000 in
theorem walkSlabs (A B : Option Addr) (c d : Nat) (ps : List ParX) (ls : List LinesX) (s t : Int) (w : World) (L : Laid w A B c d ps ls) (hs : s ≤ 9223372036854775807) (hd : t ≤ 9223372036854775807) :
    Calls Try.prog 10 #[.slice A ps.length c, .slice B ls.length d, .int .i64 s, .int .i64 t] w fun e w' => e = .returned (.bool true) ∧ Below w.heap.size w w' := by
  go_enter Try.func10, Try.ntmps10
  go_wp2_with fail
  refine L.beyond.mono ?_
  rintro e w1 ⟨rfl, K1⟩
  cases hB : beyondB ps ls with
  | true =>
    go_wp2
    go_ret
    exact ⟨rfl, K1.below (Nat.le_refl _) (by simp)⟩
  | false =>
    have ht : totalN ps ls ≤ 2147483647 := by unfold beyondB at hB; simpa using hB
    go_wp2_with fail
    refine (shown17 _).mono ?_
    rintro e w2 ⟨rfl, K2⟩
    have K12 := K1.trans K2
    clear K1 K2 hB
    have C3 := fun W k => lawSlabs_any A B c d ps ls s t W (L.old (w' := W) (S := []) k (by simp)) ht hs hd
    have C4 := fun W k => lawSlabs_any A B c d ps ls 1099511627776 1099511627776 W (L.old (w' := W) (S := []) k (by simp)) ht (by omega) (by omega)
    have hl := LawOut_len 1099511627776 1099511627776 ht
    obtain ⟨R, hR⟩ : ∃ R, R = LawOut ps ls 1099511627776 1099511627776 := ⟨_, rfl⟩
    rw [← hR] at hl
    simp only [← hR] at C4
    clear hR
    have D3 := C3 _ K12
    go_wp2_with fail
    refine D3.mono ?_
    rintro e w3 ⟨v3, rfl, O3, K3⟩
    clear D3 C3 O3
    have K13 := K12.trans K3
    have D4 := C4 _ K13
    go_wp2_with fail
    refine D4.mono ?_
    rintro e w4 ⟨v4, rfl, O4, K4⟩
    have K14 := K13.trans K4
    have D5 := C4 _ K14
    go_wp2_with fail
    refine D5.mono ?_
    rintro e w5 ⟨v5, rfl, O5, K5⟩
    have O4' := own_keep O4 K5 (by simp)
    have K15 := K14.trans K5
    have hV4' : ∀ k, v4.ownBlock = some k → w3.heap.size ≤ k ∧ k < w4.heap.size := fun k hk => ⟨(own_base O4 k hk).1, (own_base O4 k hk).2.1⟩
    have K13s := K13.size
    have K45 : w4.heap.size ≤ w5.heap.size := K5.size
    have K34 : w3.heap.size ≤ w4.heap.size := K4.size
    clear D4 D5 O4 K3 K4 K5 K12 K13 K14
    obtain ⟨A5, c5, e5, hc5, hr5, hA5⟩ := own_rd (enc := Slab.row) (fun _ => rfl) O5
    subst e5
    obtain ⟨A4, c4, e4, hc4, _, _⟩ := own_rd (enc := Slab.row) (fun _ => rfl) O4'
    have hForm : 0 < R.length → ∃ g, A4 = some ⟨g, 0, none⟩ := fun h => by
      subst e4
      obtain ⟨g, c', e, _⟩ := own_formN O4' h
      simp only [Value.slice.injEq] at e
      exact ⟨g, e.1⟩
    subst e4
    have HForm := hid hForm
    clear hForm
    have hV4 := hV4'
    clear hV4'
    have hlb : (R.length : Int) ≤ 2147483647 := by omega
    have hC : ∀ k, (Value.slice A5 R.length c5).ownBlock = some k → w4.heap.size ≤ k ∧ k < w5.heap.size := fun k hk => ⟨(own_base O5 k hk).1, (own_base O5 k hk).2.1⟩
    have hV : ∀ k, (Value.slice A4 R.length c4).ownBlock = some k → w3.heap.size ≤ k ∧ k < w4.heap.size := hV4
    have HC := hid hC
    have HV := hid hV
    have h3w := K13s
    have h35 : w3.heap.size ≤ w5.heap.size := by omega
    clear hC hV hV4 hr5 hA5
    go_wp2_with fail
    go_loopw [15] (fun vi wr => ∃ (i : Nat) (xs : List Value), i ≤ R.length ∧ vi = .int .i64 i ∧ Hid (∀ j, j < i → xs[j * 9]? = some (.int .i64 (-5 - (j : Int)))) ∧ wr.ownsRow w3.heap.size 51 9 (.slice A4 R.length c4) R.length xs ∧ Keep (Value.slice A4 R.length c4).ownBlock.toList w5 wr) (fun vi _ => R.length - (intOf vi).toNat)
    case atStart => exact ⟨0, _, Nat.zero_le _, rfl, hid (fun j hj => absurd hj (Nat.not_lt_zero _)), O4', Keep.refl _ _⟩
    case round =>
      clear O4'
      obtain ⟨i, xs, hi, rfl, HX, OX, K⟩ := hrel
      by_cases hlt : i < R.length
      · obtain ⟨g4, c4', e4, _, hg4, hcm4⟩ := own_formN OX (by omega)
        simp only [Value.slice.injEq, true_and] at e4
        obtain ⟨rfl, rfl⟩ := e4
        have ce : ∀ j, j < 9 → ∃ u, wr.cell? ⟨g4, i * 9 + j, none⟩ = some u := fun j hj => ⟨_, (OX.cellAt (i * 9 + j) (by omega)).trans (List.getElem?_eq_getElem (by rw [OX.1]; omega))⟩
        obtain ⟨u0, e0⟩ := ce 0 (by omega)
        obtain ⟨u1, e1⟩ := ce 1 (by omega)
        obtain ⟨u2, e2⟩ := ce 2 (by omega)
        obtain ⟨u3, e3⟩ := ce 3 (by omega)
        obtain ⟨u4, e4⟩ := ce 4 (by omega)
        obtain ⟨u5, e5⟩ := ce 5 (by omega)
        obtain ⟨u6, e6⟩ := ce 6 (by omega)
        obtain ⟨u7, e7⟩ := ce 7 (by omega)
        obtain ⟨u8, e8⟩ := ce 8 (by omega)
        rw [Nat.add_zero] at e0
        obtain ⟨_, _, cur, hcur⟩ := own_base OX g4 (by simp [Value.ownBlock])
        have f0 := blk_free hcur (i * 9)
        have f1 := blk_free hcur (i * 9 + 1)
        have f2 := blk_free hcur (i * 9 + 2)
        have f3 := blk_free hcur (i * 9 + 3)
        have f4 := blk_free hcur (i * 9 + 4)
        have f5 := blk_free hcur (i * 9 + 5)
        have f6 := blk_free hcur (i * 9 + 6)
        have f7 := blk_free hcur (i * 9 + 7)
        have f8 := blk_free hcur (i * 9 + 8)
        have hi2 : (i : Int) < (R.length : Int) := by omega
        have hi3 : (0 : Int) ≤ (i : Int) := by omega
        obtain ⟨xs', OX', hx0, hx1⟩ := own_slab_put OX hlt (.int .i64 (-5 - (i : Int))) (.int .i64 0) (.int .i64 0) (.int .i64 0) (.int .i64 0) (.int .i64 0) (.int .i64 0) (.int .i64 0) (.int .i64 0)
        have HX0 := hid hx0
        have HX1 := hid hx1
        have HO := hid OX'
        clear ce hcur hx0 hx1 OX'
        go_wp2
        go_roundw
        case rel =>
          refine ⟨i + 1, xs', hlt, by go_num, hid (fun j hj => ?_), HO.out, ?_⟩
          · by_cases hji : j = i
            · subst hji; exact HX0.out
            · exact (HX1.out j hji).trans (HX.out j (by omega))
          · repeat (with_reducible first | exact K | refine Keep.set ?_ (.inl (by simp [Value.ownBlock])) _)
        case measure => simp [intOf]; omega
      · obtain rfl : i = R.length := by omega
        have O5r := own_keep O5 K (fun b hb e => by
          have h1 := HC.out b e.symm
          have h2 := HV.out b (by simpa using hb)
          omega)
        have hJ : ∀ j, j < R.length → wr.cell? ⟨((Value.slice A4 R.length c4).ownBlock).getD 0, j * 9, none⟩ = some (.int .i64 (-5 - (j : Int))) := fun j hj => by
          obtain ⟨g4, c4', e4, _, hg4, hcm4⟩ := own_formN OX (by omega)
          simp only [Value.slice.injEq, true_and] at e4
          obtain ⟨rfl, rfl⟩ := e4
          exact (OX.cellAt (j * 9) (by omega)).trans (HX.out j hj)
        have HJ := hid hJ
        have K1r : Keep [] w wr := K15.then K (fun b hb => .inr (by have := (HV.out b (by simpa using hb)).1; omega))
        have hz := K.size
        clear hJ K K15 O5
        obtain ⟨wa, rfl⟩ : ∃ wa : World, wa = wr := ⟨_, rfl⟩
        go_wp2_with fail
        go_loopw [17, 16] (fun vi vl wr => ∃ (k : Nat) (ys : List Value), k ≤ 9 ∧ vi = .int .i64 k ∧ wr.ownsRow w3.heap.size 51 9 vl (R.length + k) ys ∧ Hid (∀ q, vl.ownBlock = some q → q < w4.heap.size ∨ w5.heap.size ≤ q) ∧ Hid (∀ j, j < R.length → wr.cell? ⟨((Value.slice A4 R.length c4).ownBlock).getD 0, j * 9, none⟩ = some (.int .i64 (-5 - (j : Int)))) ∧
            wr.ownsRow w4.heap.size 51 9 (.slice A5 R.length c5) R.length (R.flatMap Slab.row) ∧ Keep [] w wr ∧ w5.heap.size ≤ wr.heap.size) (fun vi _ _ => 9 - (intOf vi).toNat)
        case atStart => exact ⟨0, xs, Nat.zero_le _, rfl, OX, hid (fun q hq => .inl (HV.out q hq).2), HJ, O5r, K1r, hz⟩
        case round =>
          clear OX O5r HJ K1r hz
          obtain ⟨k, ys, hk, rfl, OL, HQ, HJ, O5, K, hz⟩ := hrel
          by_cases hlk : k < 9
          · have hk2 : (k : Int) < 9 := by omega
            have hk3 : (0 : Int) ≤ (k : Int) := by omega
            go_wp2_with (at_builtin; (refine append_cells_keep rfl _ _ 49 (.agg #[.int .i64 0, .int .i64 0, .int .i64 0, .int .i64 0, .int .i64 0, .int .i64 0, .int .i64 0, .int .i64 0, .int .i64 0]) 9 72 rfl (by kernel_rfl) (by kernel_rfl) (by kernel_rfl) (by decide) (by decide) w3.heap.size u16 (R.length + k) _ rfl rfl (by simp) rfl (by simp [Value.oneCell']) OL (by omega) (by omega) ?_; rintro v7 w7 O7 G7 B7 OL7))
            have KS : Keep u16.ownBlock.toList wr w7 := Keep.grown ((Keep.refl _ _).alloc _) G7 (fun q hq => .inl (by simp [hq]))
            have O5' := own_keep O5 KS (fun b hb e => by
              have h1 := HC.out b e.symm
              have h2 := HQ.out b (by simpa using hb)
              omega)
            have HJ' := hid (fun j hj => cell_keep OL OL7 G7 (HJ.out j hj) (show j * 9 < (R.length + k) * 9 by omega))
            have HQ' : Hid (∀ q, v7.ownBlock = some q → q < w4.heap.size ∨ w5.heap.size ≤ q) := hid (fun q hq => by
              rcases B7 with h | h
              · exact HQ.out q (h ▸ hq)
              · rw [h] at hq
                obtain rfl := Option.some.inj hq
                exact .inr (by omega))
            have K' : Keep [] w w7 := K.then KS (fun b hb => .inr (by have := (own_base OL b (by simpa using hb)).1; omega))
            have hz' : w5.heap.size ≤ w7.heap.size := by have := KS.size; omega
            clear OL O5 HJ HQ K hz G7 B7 OL7 KS
            go_wp2
            go_roundw
            case rel => exact ⟨k + 1, _, hlk, by go_num, O7, HQ', HJ', O5', K', hz'⟩
            case measure => simp [intOf]; omega
          · obtain rfl : k = 9 := by omega
            have D6 := C4 _ K
            clear C4
            go_wp2_with fail
            refine D6.mono ?_
            rintro e w6 ⟨v6, rfl, O6, K6⟩
            have O5r := own_keep O5 K6 (by simp)
            have HJ6 := hid (fun j hj => K6.cell' (HJ.out j hj) (by simp))
            have KW := K.trans K6
            obtain ⟨A6, c6, e6, hc6, hr6, _⟩ := own_rd (enc := Slab.row) (fun _ => rfl) O6
            subst e6
            obtain ⟨A5', c5', e5, _, hr5, _⟩ := own_rd (enc := Slab.row) (fun _ => rfl) O5r
            simp only [Value.slice.injEq, true_and] at e5
            obtain ⟨rfl, rfl⟩ := e5
            clear OL HQ HJ O5 K hz D6 O6 O5r K6
            go_wp2_with fail
            go_loopw [20] (fun vi wr => ∃ i : Nat, i ≤ R.length ∧ vi = .int .i64 i ∧ Keep [] w6 wr) (fun vi _ => R.length - (intOf vi).toNat)
            case atStart => exact ⟨0, Nat.zero_le _, rfl, Keep.refl _ _⟩
            case round =>
              obtain ⟨i, hi, rfl, Ki⟩ := hrel
              by_cases hlt : i < R.length
              · obtain ⟨g, rfl⟩ := HForm.out (by omega)
                have c0 := Ki.cell' (HJ6.out i hlt) (by simp)
                simp only [Value.ownBlock, Option.getD_some] at c0
                have hi2 : (i : Int) < (R.length : Int) := by omega
                have hi3 : (0 : Int) ≤ (i : Int) := by omega
                go_wp2
                go_roundw
                case rel => exact ⟨i + 1, hlt, by go_num, Ki⟩
                case measure => simp [intOf]; omega
              · obtain rfl : i = R.length := by omega
                have r5 := hr5.old Ki (by simp)
                have r6 := hr6.old Ki (by simp)
                go_wp2_with fail
                refine (sameSlabs_same A5 A6 R.length R.length c5 c6 R _ rfl rfl r5 r6 (by omega)).mono ?_
                rintro e w9 ⟨rfl, K9⟩
                go_wp2
                go_ret
                exact ⟨rfl, ((KW.trans Ki).trans K9).below (Nat.le_refl _) (by simp)⟩

set_option maxRecDepth 100000 in
theorem walkColumnSlabs {H : Type} {enc : TypeId × Value → H} {W : World} {base : Nat} {v0 v1 : Value} {d0 d1 : DataW H} {p0 p1 : List MemPlace} (ok0 : Value.okWide Try.prog W .any base 55 v0) (h0 : DataW.Trod enc Try.prog W 0 (fun _ => true) true 55 v0 d0 p0)
    (_z0 : Rows.uptoBulk d0 ≤ 1048576) (ok1 : Value.okWide Try.prog W .any base 56 v1) (h1 : DataW.Trod enc Try.prog W 0 (fun _ => true) true 56 v1 d1 p1)
    (_z1 : Rows.uptoBulk d1 ≤ 1048576) (s : Int) (ws : (Lit.int .i64 s).wf = true) (t : Int) (wt : (Lit.int .i64 t).wf = true) (w : World) (hw : w = W) :
    Calls Try.prog 10 #[v0, v1, .int .i64 s, .int .i64 t] w fun e w' => e = .returned (.bool true) ∧ Below w.heap.size w w' := by
  subst hw
  obtain ⟨A, B, c, d, ps, ls, rfl, rfl, L⟩ := open_laid ok0 h0 ok1 h1
  have h1 : s ≤ 9223372036854775807 := by simp [Lit.wf, IntKind.min, IntKind.max, IntKind.signed, IntKind.bits] at ws; omega
  have h2 : t ≤ 9223372036854775807 := by simp [Lit.wf, IntKind.min, IntKind.max, IntKind.signed, IntKind.bits] at wt; omega
  exact walkSlabs A B c d ps ls s t w L h1 h2

end Go.Proofs.Ytgelccenbceeoaa
