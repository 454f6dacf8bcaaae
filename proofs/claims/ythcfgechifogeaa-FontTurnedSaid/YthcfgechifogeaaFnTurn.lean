/- Font: the law FontTurned. -/
import Derived.Test.YthcfgechifogeaaFnBack
import Derived.Test.YthcfgechifogeaaHeldZ
namespace Go.Proofs.Ythcfgechifogeaa
open Go.RowKit Go.Maps Go.Lib
set_option linter.unusedSimpArgs false
set_option linter.unusedVariables false

/-- Bytes that lie in a block of their own. -/
def BtB (w : World) (bb : Nat) (l : List Nat) : Prop := ∃ (C : Array Value) (m : Nat), w.heap[bb]? = some (.cells C 5 (m, m + 1)) ∧ l.length ≤ m ∧ ∀ (j x : Nat), l[j]? = some x → C[j]? = some (Value.int .u8 (x : Int))
theorem BtB.old {w w' : World} {bb : Nat} {l : List Nat} (h : BtB w bb l) {S : List Nat} (K : Keep S w w') (hs : bb ∉ S) : BtB w' bb l := by
  obtain ⟨C, m, h1, h2, h3⟩ := h
  exact ⟨C, m, K.blk h1 hs, h2, h3⟩
theorem BtB.cell {w : World} {bb : Nat} {l : List Nat} (h : BtB w bb l) {j x : Nat} (hx : l[j]? = some x) : w.cell? ⟨bb, j, none⟩ = some (.int .u8 x) := by
  obtain ⟨C, m, h1, h2, h3⟩ := h
  exact (blk_cell h1 j).trans (h3 j x hx)
theorem BtB.free {w : World} {bb : Nat} {l : List Nat} (h : BtB w bb l) {j : Nat} (hj : j < l.length) : w.frozen? ⟨bb, j, none⟩ = false := by
  obtain ⟨C, m, h1, h2, h3⟩ := h
  unfold World.frozen?
  rw [h1]
  simp
  omega
theorem BtB.new {w : World} {l : List Nat} (hl : AllB l) (cap : Nat) : BtB (w.alloc (.cells (bytesRow (SB l) cap) 5 ((bytesRow (SB l) cap).size, (bytesRow (SB l) cap).size + 1))) w.heap.size l := by
  refine ⟨_, _, blk_new _ _, ?_, fun j x hx => ?_⟩
  · unfold bytesRow
    have := SB_size l
    simp only [Array.size_append, Array.size_map, Array.size_replicate]
    have e : (SB l).data.size = (SB l).size := rfl
    omega
  · have hj : j < l.length := (List.getElem?_eq_some_iff.1 hx).1
    have hs : j < (SB l).data.size := by
      have := SB_size l
      have e : (SB l).data.size = (SB l).size := rfl
      omega
    rw [bytesRow_at _ _ _ hs]
    have hx' : l[j] = x := (List.getElem?_eq_some_iff.1 hx).2
    have : (SB l).data[j] = UInt8.ofNat l[j] := by simp [SB]
    have hlt := hl x (List.mem_iff_getElem?.2 ⟨j, hx⟩)
    rw [this, hx']
    simp [Nat.mod_eq_of_lt hlt]
theorem BtB.set {w : World} {bb : Nat} {l : List Nat} (h : BtB w bb l) (j x : Nat) : BtB (w.setCell ⟨bb, j, none⟩ (.int .u8 x)) bb (l.set j x) := by
  obtain ⟨C, m, h1, h2, h3⟩ := h
  refine ⟨C.setIfInBounds j (.int .u8 x), m, ?_, by simpa using h2, fun k y hy => ?_⟩
  · simp [World.setCell, Array.getElem?_modify, h1]
  · rw [List.getElem?_set] at hy
    rw [Array.getElem?_setIfInBounds]
    by_cases e : j = k
    · subst e
      simp only [if_true] at hy ⊢
      by_cases hj : j < l.length
      · simp only [hj, if_true, Option.some.injEq] at hy
        subst hy
        have hx := h3 j _ (List.getElem?_eq_getElem hj)
        have := (Array.getElem?_eq_some_iff.1 hx).1
        simp [this]
      · simp [hj] at hy
    · simp only [e, if_false] at hy ⊢
      exact h3 k y hy
theorem BtB.string {w : World} {bb : Nat} {l : List Nat} (h : BtB w bb l) (hl : AllB l) (n c : Nat) (hn : n = l.length) : (convert 66 9 (.slice (some ⟨bb, 0, none⟩) n c)).run Try.prog w = .ok (.string (SB l)) w := by
  subst hn
  have e := run_convert_bytes_back (P := Try.prog) w 66 9 5 ⟨bb, 0, none⟩ c (l.map UInt8.ofNat) (by kernel_rfl) (by kernel_rfl) (by kernel_rfl) (fun j hj => by
    have hj' : j < l.length := by simpa using hj
    have hx := hl l[j] (List.getElem_mem _)
    rw [add_zero_at, h.cell (List.getElem?_eq_getElem hj')]
    simp [Nat.mod_eq_of_lt hx])
  rw [List.length_map] at e
  exact e
theorem BtB.one {w : World} {bb : Nat} {l : List Nat} (h : BtB w bb l) (hl : AllB l) {j x : Nat} (hj : l[j]? = some x) (c : Nat) : (convert 66 9 (.slice (some ⟨bb, j, none⟩) 1 c)).run Try.prog w = .ok (.string (SB [x])) w := by
  have hx := hl x (List.mem_iff_getElem?.2 ⟨j, hj⟩)
  have e := run_convert_bytes_back (P := Try.prog) w 66 9 5 ⟨bb, j, none⟩ c [UInt8.ofNat x] (by kernel_rfl) (by kernel_rfl) (by kernel_rfl) (fun i hi => by
    have : i = 0 := by simpa using hi
    subst this
    rw [show (⟨bb, j, none⟩ : Addr).add 0 = ⟨bb, j, none⟩ by unfold Addr.add; simp, h.cell hj]
    simp [Nat.mod_eq_of_lt hx])
  exact e
theorem SB_app (a b : List Nat) : SB (a ++ b) = SB a ++ SB b := by
  unfold SB
  rw [List.map_append]
  apply ByteArray.ext
  simp
theorem u8_xor_nat' (a b : Nat) (ha : a < 256) (hb : b < 256) : bits .xor .u8 (a : Int) (b : Int) = ((a ^^^ b : Nat) : Int) := by
  have hx : a ^^^ b < 2 ^ 8 := Nat.xor_lt_two_pow (by omega) (by omega)
  show IntKind.u8.wrap ((BitVec.ofInt 8 (a : Int) ^^^ BitVec.ofInt 8 (b : Int)).toNat : Int) = _
  rw [BitVec.toNat_xor, ofInt_u8 a ha, ofInt_u8 b hb, IntKind.wrap_u8']
  omega
theorem xor_one_ne (x : Nat) : x ^^^ 1 ≠ x := fun h => by
  have : (x ^^^ 1) ^^^ x = 0 := by rw [h, Nat.xor_self]
  rw [Nat.xor_comm x 1, Nat.xor_assoc, Nat.xor_self] at this
  simp at this
theorem setCell_size (w : World) (p : Addr) (v : Value) : (w.setCell p v).heap.size = w.heap.size := by simp [World.setCell]
theorem set_set {l : List Nat} (p x y : Nat) : (l.set p x).set p y = l.set p y := by simp

theorem wpAnyH_three {P : Program} {md : Region.Mode} {ops : Array Oper} {Q : Exit → Act → World → Prop} {S : World → Prop} {i j k fuel : Nat} {listed : Array Bool} {a : Act} {w : World} {o1 o2 o3 : Oper} (hr : Region.ready md ops listed = [i, j, k]) (h1 : ops[i]? = some o1) (h2 : ops[j]? = some o2) (h3 : ops[k]? = some o3)
    (k1 : ∀ K' : Act → World → Prop, Shut (∀ a w, S w → (S w → wpAnyH P md ops Q S fuel (listed.setIfInBounds i true) a w) → K' a w) → if Region.wanted o1 (yielded ops a.tmps) = true then Oper.wp P o1 a w K' Q else K' (a.put o1.dst undef) w)
    (k2 : ∀ K' : Act → World → Prop, Shut (∀ a w, S w → (S w → wpAnyH P md ops Q S fuel (listed.setIfInBounds j true) a w) → K' a w) → if Region.wanted o2 (yielded ops a.tmps) = true then Oper.wp P o2 a w K' Q else K' (a.put o2.dst undef) w)
    (k3 : ∀ K' : Act → World → Prop, Shut (∀ a w, S w → (S w → wpAnyH P md ops Q S fuel (listed.setIfInBounds k true) a w) → K' a w) → if Region.wanted o3 (yielded ops a.tmps) = true then Oper.wp P o3 a w K' Q else K' (a.put o3.dst undef) w) :
    wpAnyH P md ops Q S (fuel + 1) listed a w := wpAnyH_ready hr (by simp) (AllReadyH.cons h1 k1 (AllReadyH.cons h2 k2 (AllReadyH.cons h3 k3 AllReadyH.nil)))

/-- What Get tells of bytes that are no font's. -/
theorem get_fault {l : List Nat} {k a : Int} {q : Nat} (hl : AllB l) (hlen : l.length ≤ 140737488355328) (h : readX l 1152921504606846976 = .error (k, a, q)) (g : Nat) (w : World) (hm : IsM w g (MS.new 1152921504606846976 1152921504606846976)) :
    Calls Try.prog 29 #[.pointer (some ⟨g, 0, none⟩), .string (SB l)] w fun e w' => ∃ A c B d, e = .returned (.tuple #[.agg #[.int .i64 0, .slice A 0 c, .slice B 0 d], .agg #[.int .i64 k, .int .i64 a]]) ∧ Keep [g] w w' := by
  refine (get_great g (SB l) w hm (by rw [SB_size]; exact hlen)).mono ?_
  rintro e w' ⟨hG, K⟩
  rw [GetB, LB_SB hl] at hG
  rcases hG with ⟨A, c, B, d, k', a', rfl, ⟨q', hq⟩, _⟩ | ⟨f, _, _, hk, hb⟩
  · rw [h] at hq
    cases hq
    exact ⟨A, c, B, d, rfl, K⟩
  · have hb' := (check_inI hk).2.2
    have hf := readX_of f.em f.gs f.ps 1152921504606846976 (by have := fontB_len (em := f.em) hb'.1 hb'.2; omega) hk
    rw [← hb, h] at hf
    cases hf

set_option maxHeartbeats 8000000 in
set_option maxRecDepth 100000 in
theorem walkTurn (f : FontX) (a0 b0 : Int) (w : World) (hf : IsF w f) (ha : InI a0) (hb0 : InI b0) : Calls Try.prog 9 #[f.val, .int .i64 a0, .int .i64 b0] w fun e w' => e = .returned (.bool true) ∧ Keep [] w w' := by
  obtain ⟨em, ga, gc, pa, pc, gs, ps⟩ := f
  have PT : ∀ W, Keep [] w W → Calls Try.prog 26 #[.agg #[.int .i64 em, .slice ga gs.length gc, .slice pa ps.length pc]] W fun e w' => e = .returned (.tuple #[.string (putS em gs ps), .int .i64 (checkX em gs ps)]) ∧ Keep [] W w' := fun W K => put_any _ W (hf.old K (by simp))
  clear hf
  simp only [FontX.val]
  have hk0 : checkX em gs ps = 0 → putS em gs ps = SB (fontB em gs ps) := fun h => by simp [putS, h]
  have hk1 : checkX em gs ps ≠ 0 → putS em gs ps = ⟨#[]⟩ := fun h => by simp [putS, h]; rfl
  generalize putS em gs ps = T at *
  obtain ⟨kk, hkk⟩ : ∃ kk, checkX em gs ps = kk := ⟨_, rfl⟩
  have HK := hid hkk
  rw [hkk] at PT hk0 hk1
  clear hkk
  have X2 := blk_new w (.cells #[.int .i64 em, .slice ga gs.length gc, .slice pa ps.length pc] 25)
  have K0 : Keep [] w (w.alloc (.cells #[.int .i64 em, .slice ga gs.length gc, .slice pa ps.length pc] 25)) := (Keep.refl _ _).alloc _
  go_enter Try.func9, Try.ntmps9
  go_upto_region 1 with (fail)
  generalize w.alloc (.cells #[.int .i64 em, .slice ga gs.length gc, .slice pa ps.length pc] 25) = W0 at *
  go_wp2_with fail
  refine (shown06 _).mono ?_
  rintro e w1 ⟨rfl, K1⟩
  replace X2 := K1.blk X2 (by simp)
  replace K1 := K0.trans K1
  clear K0
  obtain ⟨f0, f1, f2, _, _, _, fs⟩ := cells3 X2
  go_wp2_with fail
  refine (PT w1 K1).mono ?_
  rintro e w2 ⟨rfl, K2⟩
  replace K2 := K1.trans K2
  clear K1 f0 f1 f2 fs PT
  by_cases hkz : kk = 0
  · subst hkz
    have hT := hk0 rfl
    obtain ⟨_, _, hg1, hp1⟩ := check_inI HK.out
    have hlen := fontB_len (em := em) hg1 hp1
    have hall := fontB_all em gs ps
    have hpos : 13 ≤ (fontB em gs ps).length := by simp only [fontB, List.length_append, digs_len]; have : 9 ≤ (bodyB em gs ps).length := by simp [bodyB, headB, digs_len]; omega
                                                   omega
    have hTs : T.size = (fontB em gs ps).length := by rw [hT, SB_size]
    have RC : ∀ j, j < (fontB em gs ps).length → readX ((fontB em gs ps).take j) 1152921504606846976 = .error (60, j, j) := fun j hj => readX_cut (by omega) HK.out hj
    have RL : ∀ c, readX (fontB em gs ps ++ [c]) 1152921504606846976 = .error (60, (fontB em gs ps).length, (fontB em gs ps).length + 1) := fun c => readX_longer (by omega) HK.out c
    have RT : ∀ j y, j < (fontB em gs ps).length → y < 256 → (fontB em gs ps)[j]? ≠ some y → ∃ k a q, readX ((fontB em gs ps).set j y) 1152921504606846976 = .error (k, a, q) ∧ (k = 60 ∨ k = 61) ∧ (j : Int) ≤ a := fun j y hj hy h => readX_turned (by omega) HK.out hj hy h
    clear hk0 hk1 HK X2 hg1 hp1
    generalize fontB em gs ps = L at *
    generalize hn : L.length = n at *
    have hT0 : ¬ ((T.size : Int) = 0) := by omega
    have hT1 : ((n : Int) == 0) = false := by simp; omega
    have HT := hid hT
    clear hT
    go_upto_if 36 with (fail)

    go_cut [1] from 37 to 39 (fun v wc => ∃ a : Int, v = .int .i64 a ∧ 0 ≤ a ∧ a ≤ 9223372036854775807 ∧ wc = w2)
    case first =>
      unfold InI at ha
      by_cases han : a0 < 0
      · have e1 : IntKind.i64.wrap (a0 + 1) = a0 + 1 := IntWalk.i64_in _ (by omega)
        have e2 : IntKind.i64.wrap (-(a0 + 1)) = -(a0 + 1) := IntWalk.i64_in _ (by omega)
        go_wp2
        go_meet
        exact ⟨-(a0 + 1), by rfl, by omega, by omega, rfl⟩
      · go_wp2
        go_meet
        exact ⟨a0, rfl, by omega, by omega, rfl⟩
    case rest =>
      obtain ⟨a, rfl, ha1, ha2, rfl⟩ := hcut
      obtain ⟨p, hp, hpn⟩ : ∃ p : Nat, a.tmod (n : Int) = (p : Int) ∧ p < n := by
        have h1 := Int.tmod_nonneg (n : Int) ha1
        have h2 := Int.tmod_lt_of_pos a (b := (n : Int)) (by omega)
        exact ⟨(a.tmod n).toNat, by omega, by omega⟩
      have e3 : IntKind.i64.wrap (p : Int) = (p : Int) := IntWalk.i64_in _ (by omega)
      have hn0 : ¬ (n : Int) = 0 := by omega
      have kb := fun W => run_bytes_of_string (P := Try.prog) W 9 66 5 T Try.underlying9 Try.underlying66 Try.underlying5
      have hgc : n ≤ grownCap wc n 0 5 := grownCap_ge _ _ _ _
      have hbb : w.heap.size ≤ wc.heap.size := K2.size
      have B0 : BtB ((wc.alloc (.cells (bytesRow T (grownCap wc n 0 5)) 5 ((bytesRow T (grownCap wc n 0 5)).size, (bytesRow T (grownCap wc n 0 5)).size + 1))).drew) wc.heap.size L := by
        rw [HT.out]
        exact BtB.new hall _
      have K3 : Keep [] w ((wc.alloc (.cells (bytesRow T (grownCap wc n 0 5)) 5 ((bytesRow T (grownCap wc n 0 5)).size, (bytesRow T (grownCap wc n 0 5)).size + 1))).drew) := (K2.alloc _).drew
      have hbl : wc.heap.size < ((wc.alloc (.cells (bytesRow T (grownCap wc n 0 5)) 5 ((bytesRow T (grownCap wc n 0 5)).size, (bytesRow T (grownCap wc n 0 5)).size + 1))).drew).heap.size := by rw [size_drew', size_alloc']; omega
      go_upto_region 13 with (fail)
      generalize (wc.alloc (.cells (bytesRow T (grownCap wc n 0 5)) 5 ((bytesRow T (grownCap wc n 0 5)).size, (bytesRow T (grownCap wc n 0 5)).size + 1))).drew = W3 at *
      generalize grownCap wc n 0 5 = cap at *
      generalize wc.heap.size = bb at *
      clear K2 kb
      obtain ⟨x, hx⟩ : ∃ x, L[p]? = some x := ⟨L[p]'(by omega), List.getElem?_eq_getElem (by omega)⟩
      have hx256 : x < 256 := hall x (List.mem_iff_getElem?.2 ⟨p, hx⟩)
      have c0 := B0.cell hx
      have f0 := B0.free (j := p) (by omega)
      go_upto_region 14 with (fail)
      obtain ⟨z, hz, hz256⟩ : ∃ z : Nat, bits .xor .u8 (x : Int) (b0 % 256) = (z : Int) ∧ z < 256 := by
        obtain ⟨c, hc⟩ : ∃ c : Nat, b0 % 256 = (c : Int) := ⟨(b0 % 256).toNat, by omega⟩
        have hc256 : c < 256 := by omega
        rw [hc, u8_xor_nat' x c hx256 hc256]
        exact ⟨_, rfl, Nat.xor_lt_two_pow (n := 8) (by omega) (by omega)⟩
      rw [hz]
      have B1 := B0.set p z
      have K4 : Keep [] w (W3.setCell ⟨bb, p, none⟩ (.int .u8 z)) := K3.set (.inr hbb) _
      have hbl4 : bb < (W3.setCell ⟨bb, p, none⟩ (.int .u8 z)).heap.size := by rw [setCell_size]; exact hbl
      generalize W3.setCell ⟨bb, p, none⟩ (.int .u8 z) = W4 at *
      clear c0 f0 B0 K3 hbl hz
      have hpz : (L.set p z)[p]? = some z := by rw [List.getElem?_set_self (by omega)]
      have c0 := B1.cell hpz
      have f0 := B1.free (j := p) (by simp; omega)
      have hTp : p < T.size := by omega
      have hTx : ((T[p]'hTp).toNat : Int) = x := by
        have e := List.getElem?_eq_some_iff.1 hx
        have h0 : (LB T)[p]? = some x := by rw [HT.out, LB_SB hall]; exact hx
        have h1 := (List.getElem?_eq_some_iff.1 h0).2
        rw [← h1, LB_at hTp]
      have hpz' : (z == x) = decide (z = x) := by rfl
      go_quiet (fail)
      go_upto_if 63 with (fail)
      go_cut [] from 64 to 71 (fun wd => ∃ y, y < 256 ∧ y ≠ x ∧ BtB wd bb (L.set p y) ∧ Keep [] w wd ∧ bb < wd.heap.size)
      case first =>
        have hx1 : bits .xor .u8 (z : Int) 1 = ((z ^^^ 1 : Nat) : Int) := u8_xor_nat' z 1 hz256 (by omega)
        have KD := (Keep.refl [] W4).drewN nq
        clear hpz' hTx
        generalize hbz : ((z : Int) == (x : Int)) = bz at *
        cases bz
        · go_wp2
          go_meet
          exact ⟨z, hz256, fun e => by rw [e] at hbz; simp at hbz, B1.old KD (by simp), K4.drewN nq, Nat.lt_of_lt_of_le hbl4 KD.size⟩
        · go_wp2
          go_meet
          have hzx : z = x := by
            have : (z : Int) = x := by simpa using hbz
            omega
          have hB := (B1.old KD (by simp)).set p (z ^^^ 1)
          rw [set_set] at hB
          exact ⟨z ^^^ 1, Nat.xor_lt_two_pow (n := 8) (by omega) (by omega), by rw [← hzx]; exact xor_one_ne z, hB, (K4.drewN nq).set (.inr hbb) _, by rw [setCell_size]; exact Nat.lt_of_lt_of_le hbl4 KD.size⟩
      case rest =>
        obtain ⟨y, hy, hyx, B2, K5, hbl5⟩ := hcut
        clear B1 K4 hbl4 c0 f0 hz256 hpz hTx hpz'
        have hallY : AllB (L.set p y) := fun v hv => by
          rcases List.mem_or_eq_of_mem_set hv with h | h
          · exact hall v h
          · omega
        obtain ⟨k1, a1, q1, hr1, hk1', ha1'⟩ := RT p y (by omega) hy (by rw [hx]; simp; omega)
        have hyl : (L.set p y).length = n := by simp [hn]
        have GT16 := fun g W (hm : IsM W g _) => get_fault hallY (by omega) hr1 g W hm
        go_upto_region 16 with (fail)
        go_cut [11, 12] from 72 to 78 (fun _ v12 we => ∃ b12, v12 = .pointer (some ⟨b12, 0, none⟩) ∧ we.heap[b12]? = some (.cells #[.int .i64 k1, .int .i64 a1] 60 (0, 0)) ∧ Keep [] wc we)
        case first =>
          have B2' := B2
          clear RC RL RT hT0 hT1 e3 hn0 ha1 ha2 hp hpos hTs hr1 hk1' ha1' hx hgc B2 K5 ha hb0 HT hyx hall
          refine wp_region_held_lex 0 (fun w' => Keep [] wc w') (by kernel_rfl) (by simp) (by kernel_rfl) (by kernel_rfl) (fun _ _ d _ _ h => by cases d <;> exact h) (Keep.refl _ _).drew ?_
          simp only [List.take_zero]
          refine heldL_nil ?_
          have KS16 : Keep [] wc wc.drew := (Keep.refl _ _).drew
          generalize wc.drew = wx16 at *
          change wpAnyH _ _ _ _ _ (2 + 9) _ _ _
          refine anyH_seg 1 2 9 (by simp) (by kernel_rfl) (by kernel_rfl) (fun _ _ d _ _ h => by cases d <;> exact h) KS16 ?_
          simp only [List.drop_succ_cons, List.drop_zero, List.take_succ_cons, List.take_zero]
          repeat (refine heldL_yes (v := ?_) rfl (fun w hSw => ?_) ?_; rotate_left; (have y1 := (B2'.old hSw (by simp)).string hallY n cap hyl.symm; go_simp; (try with_reducible rfl)); (try simp only [Act.put, List.setIfInBounds_toArray, List.set_cons_zero, List.set_cons_succ]))
          refine heldL_nil ?_
          change wpAnyH _ _ _ _ _ (8 + 1) _ _ _
          refine wpAnyH_three (i := 0) (j := 7) (k := 8) (o1 := ?op16_1) (o2 := ?op16_2) (o3 := ?op16_3) (by kernel_rfl) ?hop16_1 ?hop16_2 ?hop16_3 ?hhp16_1 ?hhp16_2 ?hhp16_3
          case hop16_1 => (simp only [List.getElem?_toArray, List.getElem?_cons_zero, List.getElem?_cons_succ]; rfl)
          case hop16_2 => (simp only [List.getElem?_toArray, List.getElem?_cons_zero, List.getElem?_cons_succ]; rfl)
          case hop16_3 => (simp only [List.getElem?_toArray, List.getElem?_cons_zero, List.getElem?_cons_succ]; rfl)
          case hhp16_1 =>
            intro KK16_1 hK16_1
            rw [if_pos (by rfl)]
            go_simp
            refine (great_any _).mono ?_
            rintro e w16_1 ⟨g16_1, rfl, hg16_1, M16_1, KG16_1⟩
            go_wp2_with fail
            have KS16_1 := KS16.trans KG16_1
            have hgb16_1 := Nat.le_trans KS16.size hg16_1
            refine hK16_1.out _ _ KS16_1 (fun hh16_1 => ?_)
            clear hK16_1 KK16_1 hh16_1
            change wpAnyH _ _ _ _ _ (7 + 1) _ _ _
            refine wpAnyH_three (i := 3) (j := 7) (k := 8) (o1 := ?op16_4) (o2 := ?op16_5) (o3 := ?op16_6) (by kernel_rfl) ?hop16_4 ?hop16_5 ?hop16_6 ?hhp16_4 ?hhp16_5 ?hhp16_6
            case hop16_4 => (simp only [List.getElem?_toArray, List.getElem?_cons_zero, List.getElem?_cons_succ]; rfl)
            case hop16_5 => (simp only [List.getElem?_toArray, List.getElem?_cons_zero, List.getElem?_cons_succ]; rfl)
            case hop16_6 => (simp only [List.getElem?_toArray, List.getElem?_cons_zero, List.getElem?_cons_succ]; rfl)
            case hhp16_4 =>
              intro KK16_4 hK16_4
              rw [if_pos (by rfl)]
              go_simp
              refine (GT16 _ _ M16_1).mono ?_
              rintro e w16_4 ⟨A16_4, c16_4, B16_4, d16_4, rfl, KG16_4⟩
              go_wp2_with fail
              have KS16_4 : Keep [] wc w16_4 := KS16_1.then (S := []) KG16_4 (by simpa using hgb16_1)
              refine hK16_4.out _ _ KS16_4 (fun hh16_4 => ?_)
              clear hK16_4 KK16_4 hh16_4
              change wpAnyH _ _ _ _ _ (3 + 4) _ _ _
              refine anyH_seg 4 3 4 (by simp) (by kernel_rfl) (by kernel_rfl) (fun _ _ d _ _ h => by cases d <;> exact h) KS16_4 ?_
              simp only [List.drop_succ_cons, List.drop_zero, List.take_succ_cons, List.take_zero]
              repeat (refine heldL_yes (v := ?_) rfl (fun w hSw => ?_) ?_; rotate_left; (skip; go_simp; (try with_reducible rfl)); (try simp only [Act.put, List.setIfInBounds_toArray, List.set_cons_zero, List.set_cons_succ]))
              refine heldL_nil ?_
              change wpAnyH _ _ _ _ _ (3 + 1) _ _ _
              refine wpAnyH_two (i := 7) (j := 8) (o1 := ?op16_7) (o2 := ?op16_8) (by kernel_rfl) ?hop16_7 ?hop16_8 ?hhp16_7 ?hhp16_8
              case hop16_7 => (simp only [List.getElem?_toArray, List.getElem?_cons_zero, List.getElem?_cons_succ]; rfl)
              case hop16_8 => (simp only [List.getElem?_toArray, List.getElem?_cons_zero, List.getElem?_cons_succ]; rfl)
              case hhp16_7 =>
                intro KK16_7 hK16_7
                rw [if_pos (by rfl)]
                go_simp
                have XA16_7 := blk_new w16_4 (.cells #[.int .i64 0, .slice none 0 0, .slice none 0 0] 25)
                have KS16_7 := KS16_4.alloc (.cells #[.int .i64 0, .slice none 0 0, .slice none 0 0] 25)
                have hbA16_7 : wc.heap.size ≤ w16_4.heap.size := KS16_4.size
                refine hK16_7.out _ _ KS16_7 (fun hh16_7 => ?_)
                clear hK16_7 KK16_7 hh16_7
                generalize w16_4.alloc (.cells #[.int .i64 0, .slice none 0 0, .slice none 0 0] 25) = w16_7 at *
                generalize w16_4.heap.size = bA16_7 at *
                change wpAnyH _ _ _ _ _ (2 + 1) _ _ _
                refine wpAnyH_lone (k := 8) (o := ?op16_9) (by kernel_rfl) ?hop16_9 ?hhp16_9
                case hop16_9 => (simp only [List.getElem?_toArray, List.getElem?_cons_zero, List.getElem?_cons_succ]; rfl)
                case hhp16_9 =>
                  intro KK16_9 hK16_9
                  rw [if_pos (by rfl)]
                  go_simp
                  have XF16_9 := blk_new w16_7 (.cells #[.int .i64 0, .int .i64 0] 60)
                  have KS16_9 := KS16_7.alloc (.cells #[.int .i64 0, .int .i64 0] 60)
                  have hbF16_9 : wc.heap.size ≤ w16_7.heap.size := KS16_7.size
                  have hAF16_9 : w16_7.heap.size ≠ bA16_7 := by have := blk_lt XA16_7; omega
                  have XA16_9 := blk_alloc XA16_7 (.cells #[.int .i64 0, .int .i64 0] 60)
                  refine hK16_9.out _ _ KS16_9 (fun hh16_9 => ?_)
                  clear hK16_9 KK16_9 hh16_9
                  generalize w16_7.alloc (.cells #[.int .i64 0, .int .i64 0] 60) = w16_9 at *
                  generalize w16_7.heap.size = bF16_9 at *
                  change wpAnyH _ _ _ _ _ (1 + 1) _ _ _
                  refine wpAnyH_lone (k := 9) (o := ?op16_10) (by kernel_rfl) ?hop16_10 ?hhp16_10
                  case hop16_10 => (simp only [List.getElem?_toArray, List.getElem?_cons_zero, List.getElem?_cons_succ]; rfl)
                  intro KK16_10 hK16_10
                  rw [if_pos (by rfl)]
                  obtain ⟨x0, x1, x2, y0, y1, y2, ys⟩ := cells3 XA16_9
                  go_simp
                  refine hK16_10.out _ _ (((KS16_9.set (.inr hbA16_7) _).set (.inr hbA16_7) _).set (.inr hbA16_7) _) (fun hh16_10 => ?_)
                  clear hK16_10 KK16_10
                  generalize hwz : ((w16_9.setCell ⟨bA16_7, 0, none⟩ _).setCell ⟨bA16_7, 1, none⟩ _).setCell ⟨bA16_7, 2, none⟩ _ = wz at *
                  have XZ : wz.heap[bF16_9]? = some (.cells #[.int .i64 0, .int .i64 0] 60 (0, 0)) := by rw [← hwz]; exact blk_far (blk_far (blk_far XF16_9 (p := ⟨bA16_7, 0, none⟩) (Ne.symm (Ne.symm hAF16_9)) _) (p := ⟨bA16_7, 1, none⟩) (Ne.symm (Ne.symm hAF16_9)) _) (p := ⟨bA16_7, 2, none⟩) (Ne.symm (Ne.symm hAF16_9)) _
                  clear hwz
                  change wpAnyH _ _ _ _ _ (0 + 1) _ _ _
                  refine wpAnyH_lone (k := 10) (o := ?op16_11) (by kernel_rfl) ?hop16_11 ?hhp16_11
                  case hop16_11 => (simp only [List.getElem?_toArray, List.getElem?_cons_zero, List.getElem?_cons_succ]; rfl)
                  intro KK16_11 hK16_11
                  rw [if_pos (by rfl)]
                  clear x0 x1 x2 y0 y1 y2
                  obtain ⟨x0, x1, y0, y1, xs⟩ := cells2 XZ
                  go_simp
                  refine hK16_11.out _ _ ((hh16_10.set (.inr hbF16_9) _).set (.inr hbF16_9) _) (fun hh16_11 => ?_)
                  clear hK16_11 KK16_11
                  have XY := blk_set (blk_set XZ 0 (.int .i64 k1)) 1 (.int .i64 a1)
                  generalize (wz.setCell ⟨bF16_9, 0, none⟩ _).setCell ⟨bF16_9, 1, none⟩ _ = wy at *
                  refine wpAnyH_done (by kernel_rfl) ?_ _
                  go_wp2
                  go_meet
                  exact ⟨_, rfl, XY, hh16_11⟩
              case hhp16_8 =>
                intro KK16_8 hK16_8
                rw [if_pos (by rfl)]
                go_simp
                have XF16_8 := blk_new w16_4 (.cells #[.int .i64 0, .int .i64 0] 60)
                have KS16_8 := KS16_4.alloc (.cells #[.int .i64 0, .int .i64 0] 60)
                have hbF16_8 : wc.heap.size ≤ w16_4.heap.size := KS16_4.size
                refine hK16_8.out _ _ KS16_8 (fun hh16_8 => ?_)
                clear hK16_8 KK16_8 hh16_8
                generalize w16_4.alloc (.cells #[.int .i64 0, .int .i64 0] 60) = w16_8 at *
                generalize w16_4.heap.size = bF16_8 at *
                change wpAnyH _ _ _ _ _ (2 + 1) _ _ _
                refine wpAnyH_lone (k := 7) (o := ?op16_12) (by kernel_rfl) ?hop16_12 ?hhp16_12
                case hop16_12 => (simp only [List.getElem?_toArray, List.getElem?_cons_zero, List.getElem?_cons_succ]; rfl)
                case hhp16_12 =>
                  intro KK16_12 hK16_12
                  rw [if_pos (by rfl)]
                  go_simp
                  have XA16_12 := blk_new w16_8 (.cells #[.int .i64 0, .slice none 0 0, .slice none 0 0] 25)
                  have KS16_12 := KS16_8.alloc (.cells #[.int .i64 0, .slice none 0 0, .slice none 0 0] 25)
                  have hbA16_12 : wc.heap.size ≤ w16_8.heap.size := KS16_8.size
                  have hAF16_12 : w16_8.heap.size ≠ bF16_8 := by have := blk_lt XF16_8; omega
                  have XF16_12 := blk_alloc XF16_8 (.cells #[.int .i64 0, .slice none 0 0, .slice none 0 0] 25)
                  refine hK16_12.out _ _ KS16_12 (fun hh16_12 => ?_)
                  clear hK16_12 KK16_12 hh16_12
                  generalize w16_8.alloc (.cells #[.int .i64 0, .slice none 0 0, .slice none 0 0] 25) = w16_12 at *
                  generalize w16_8.heap.size = bA16_12 at *
                  change wpAnyH _ _ _ _ _ (1 + 1) _ _ _
                  refine wpAnyH_lone (k := 9) (o := ?op16_13) (by kernel_rfl) ?hop16_13 ?hhp16_13
                  case hop16_13 => (simp only [List.getElem?_toArray, List.getElem?_cons_zero, List.getElem?_cons_succ]; rfl)
                  intro KK16_13 hK16_13
                  rw [if_pos (by rfl)]
                  obtain ⟨x0, x1, x2, y0, y1, y2, ys⟩ := cells3 XA16_12
                  go_simp
                  refine hK16_13.out _ _ (((KS16_12.set (.inr hbA16_12) _).set (.inr hbA16_12) _).set (.inr hbA16_12) _) (fun hh16_13 => ?_)
                  clear hK16_13 KK16_13
                  generalize hwz : ((w16_12.setCell ⟨bA16_12, 0, none⟩ _).setCell ⟨bA16_12, 1, none⟩ _).setCell ⟨bA16_12, 2, none⟩ _ = wz at *
                  have XZ : wz.heap[bF16_8]? = some (.cells #[.int .i64 0, .int .i64 0] 60 (0, 0)) := by rw [← hwz]; exact blk_far (blk_far (blk_far XF16_12 (p := ⟨bA16_12, 0, none⟩) (Ne.symm hAF16_12) _) (p := ⟨bA16_12, 1, none⟩) (Ne.symm hAF16_12) _) (p := ⟨bA16_12, 2, none⟩) (Ne.symm hAF16_12) _
                  clear hwz
                  change wpAnyH _ _ _ _ _ (0 + 1) _ _ _
                  refine wpAnyH_lone (k := 10) (o := ?op16_14) (by kernel_rfl) ?hop16_14 ?hhp16_14
                  case hop16_14 => (simp only [List.getElem?_toArray, List.getElem?_cons_zero, List.getElem?_cons_succ]; rfl)
                  intro KK16_14 hK16_14
                  rw [if_pos (by rfl)]
                  clear x0 x1 x2 y0 y1 y2
                  obtain ⟨x0, x1, y0, y1, xs⟩ := cells2 XZ
                  go_simp
                  refine hK16_14.out _ _ ((hh16_13.set (.inr hbF16_8) _).set (.inr hbF16_8) _) (fun hh16_14 => ?_)
                  clear hK16_14 KK16_14
                  have XY := blk_set (blk_set XZ 0 (.int .i64 k1)) 1 (.int .i64 a1)
                  generalize (wz.setCell ⟨bF16_8, 0, none⟩ _).setCell ⟨bF16_8, 1, none⟩ _ = wy at *
                  refine wpAnyH_done (by kernel_rfl) ?_ _
                  go_wp2
                  go_meet
                  exact ⟨_, rfl, XY, hh16_14⟩
            case hhp16_5 =>
              intro KK16_5 hK16_5
              rw [if_pos (by rfl)]
              go_simp
              have XA16_5 := blk_new w16_1 (.cells #[.int .i64 0, .slice none 0 0, .slice none 0 0] 25)
              have KS16_5 := KS16_1.alloc (.cells #[.int .i64 0, .slice none 0 0, .slice none 0 0] 25)
              have hbA16_5 : wc.heap.size ≤ w16_1.heap.size := KS16_1.size
              have hneA16_5 : w16_1.heap.size ≠ g16_1 := by have := blk_lt M16_1; omega
              have M16_5 := blk_alloc M16_1 (.cells #[.int .i64 0, .slice none 0 0, .slice none 0 0] 25)
              refine hK16_5.out _ _ KS16_5 (fun hh16_5 => ?_)
              clear hK16_5 KK16_5 hh16_5
              generalize w16_1.alloc (.cells #[.int .i64 0, .slice none 0 0, .slice none 0 0] 25) = w16_5 at *
              generalize w16_1.heap.size = bA16_5 at *
              change wpAnyH _ _ _ _ _ (6 + 1) _ _ _
              refine wpAnyH_two (i := 3) (j := 8) (o1 := ?op16_15) (o2 := ?op16_16) (by kernel_rfl) ?hop16_15 ?hop16_16 ?hhp16_15 ?hhp16_16
              case hop16_15 => (simp only [List.getElem?_toArray, List.getElem?_cons_zero, List.getElem?_cons_succ]; rfl)
              case hop16_16 => (simp only [List.getElem?_toArray, List.getElem?_cons_zero, List.getElem?_cons_succ]; rfl)
              case hhp16_15 =>
                intro KK16_15 hK16_15
                rw [if_pos (by rfl)]
                go_simp
                refine (GT16 _ _ M16_5).mono ?_
                rintro e w16_15 ⟨A16_15, c16_15, B16_15, d16_15, rfl, KG16_15⟩
                go_wp2_with fail
                have KS16_15 : Keep [] wc w16_15 := KS16_5.then (S := []) KG16_15 (by simpa using hgb16_1)
                have XA16_15 := KG16_15.blk XA16_5 (by simpa using hneA16_5)
                refine hK16_15.out _ _ KS16_15 (fun hh16_15 => ?_)
                clear hK16_15 KK16_15 hh16_15
                change wpAnyH _ _ _ _ _ (3 + 3) _ _ _
                refine anyH_seg 4 3 3 (by simp) (by kernel_rfl) (by kernel_rfl) (fun _ _ d _ _ h => by cases d <;> exact h) KS16_15 ?_
                simp only [List.drop_succ_cons, List.drop_zero, List.take_succ_cons, List.take_zero]
                repeat (refine heldL_yes (v := ?_) rfl (fun w hSw => ?_) ?_; rotate_left; (skip; go_simp; (try with_reducible rfl)); (try simp only [Act.put, List.setIfInBounds_toArray, List.set_cons_zero, List.set_cons_succ]))
                refine heldL_nil ?_
                change wpAnyH _ _ _ _ _ (2 + 1) _ _ _
                refine wpAnyH_lone (k := 8) (o := ?op16_17) (by kernel_rfl) ?hop16_17 ?hhp16_17
                case hop16_17 => (simp only [List.getElem?_toArray, List.getElem?_cons_zero, List.getElem?_cons_succ]; rfl)
                case hhp16_17 =>
                  intro KK16_17 hK16_17
                  rw [if_pos (by rfl)]
                  go_simp
                  have XF16_17 := blk_new w16_15 (.cells #[.int .i64 0, .int .i64 0] 60)
                  have KS16_17 := KS16_15.alloc (.cells #[.int .i64 0, .int .i64 0] 60)
                  have hbF16_17 : wc.heap.size ≤ w16_15.heap.size := KS16_15.size
                  have hAF16_17 : w16_15.heap.size ≠ bA16_5 := by have := blk_lt XA16_15; omega
                  have XA16_17 := blk_alloc XA16_15 (.cells #[.int .i64 0, .int .i64 0] 60)
                  refine hK16_17.out _ _ KS16_17 (fun hh16_17 => ?_)
                  clear hK16_17 KK16_17 hh16_17
                  generalize w16_15.alloc (.cells #[.int .i64 0, .int .i64 0] 60) = w16_17 at *
                  generalize w16_15.heap.size = bF16_17 at *
                  change wpAnyH _ _ _ _ _ (1 + 1) _ _ _
                  refine wpAnyH_lone (k := 9) (o := ?op16_18) (by kernel_rfl) ?hop16_18 ?hhp16_18
                  case hop16_18 => (simp only [List.getElem?_toArray, List.getElem?_cons_zero, List.getElem?_cons_succ]; rfl)
                  intro KK16_18 hK16_18
                  rw [if_pos (by rfl)]
                  obtain ⟨x0, x1, x2, y0, y1, y2, ys⟩ := cells3 XA16_17
                  go_simp
                  refine hK16_18.out _ _ (((KS16_17.set (.inr hbA16_5) _).set (.inr hbA16_5) _).set (.inr hbA16_5) _) (fun hh16_18 => ?_)
                  clear hK16_18 KK16_18
                  generalize hwz : ((w16_17.setCell ⟨bA16_5, 0, none⟩ _).setCell ⟨bA16_5, 1, none⟩ _).setCell ⟨bA16_5, 2, none⟩ _ = wz at *
                  have XZ : wz.heap[bF16_17]? = some (.cells #[.int .i64 0, .int .i64 0] 60 (0, 0)) := by rw [← hwz]; exact blk_far (blk_far (blk_far XF16_17 (p := ⟨bA16_5, 0, none⟩) (Ne.symm (Ne.symm hAF16_17)) _) (p := ⟨bA16_5, 1, none⟩) (Ne.symm (Ne.symm hAF16_17)) _) (p := ⟨bA16_5, 2, none⟩) (Ne.symm (Ne.symm hAF16_17)) _
                  clear hwz
                  change wpAnyH _ _ _ _ _ (0 + 1) _ _ _
                  refine wpAnyH_lone (k := 10) (o := ?op16_19) (by kernel_rfl) ?hop16_19 ?hhp16_19
                  case hop16_19 => (simp only [List.getElem?_toArray, List.getElem?_cons_zero, List.getElem?_cons_succ]; rfl)
                  intro KK16_19 hK16_19
                  rw [if_pos (by rfl)]
                  clear x0 x1 x2 y0 y1 y2
                  obtain ⟨x0, x1, y0, y1, xs⟩ := cells2 XZ
                  go_simp
                  refine hK16_19.out _ _ ((hh16_18.set (.inr hbF16_17) _).set (.inr hbF16_17) _) (fun hh16_19 => ?_)
                  clear hK16_19 KK16_19
                  have XY := blk_set (blk_set XZ 0 (.int .i64 k1)) 1 (.int .i64 a1)
                  generalize (wz.setCell ⟨bF16_17, 0, none⟩ _).setCell ⟨bF16_17, 1, none⟩ _ = wy at *
                  refine wpAnyH_done (by kernel_rfl) ?_ _
                  go_wp2
                  go_meet
                  exact ⟨_, rfl, XY, hh16_19⟩
              case hhp16_16 =>
                intro KK16_16 hK16_16
                rw [if_pos (by rfl)]
                go_simp
                have XF16_16 := blk_new w16_5 (.cells #[.int .i64 0, .int .i64 0] 60)
                have KS16_16 := KS16_5.alloc (.cells #[.int .i64 0, .int .i64 0] 60)
                have hbF16_16 : wc.heap.size ≤ w16_5.heap.size := KS16_5.size
                have hneF16_16 : w16_5.heap.size ≠ g16_1 := by have := blk_lt M16_5; omega
                have M16_16 := blk_alloc M16_5 (.cells #[.int .i64 0, .int .i64 0] 60)
                have hAF16_16 : w16_5.heap.size ≠ bA16_5 := by have := blk_lt XA16_5; omega
                have XA16_16 := blk_alloc XA16_5 (.cells #[.int .i64 0, .int .i64 0] 60)
                refine hK16_16.out _ _ KS16_16 (fun hh16_16 => ?_)
                clear hK16_16 KK16_16 hh16_16
                generalize w16_5.alloc (.cells #[.int .i64 0, .int .i64 0] 60) = w16_16 at *
                generalize w16_5.heap.size = bF16_16 at *
                change wpAnyH _ _ _ _ _ (5 + 1) _ _ _
                refine wpAnyH_lone (k := 3) (o := ?op16_20) (by kernel_rfl) ?hop16_20 ?hhp16_20
                case hop16_20 => (simp only [List.getElem?_toArray, List.getElem?_cons_zero, List.getElem?_cons_succ]; rfl)
                case hhp16_20 =>
                  intro KK16_20 hK16_20
                  rw [if_pos (by rfl)]
                  go_simp
                  refine (GT16 _ _ M16_16).mono ?_
                  rintro e w16_20 ⟨A16_20, c16_20, B16_20, d16_20, rfl, KG16_20⟩
                  go_wp2_with fail
                  have KS16_20 : Keep [] wc w16_20 := KS16_16.then (S := []) KG16_20 (by simpa using hgb16_1)
                  have XA16_20 := KG16_20.blk XA16_16 (by simpa using hneA16_5)
                  have XF16_20 := KG16_20.blk XF16_16 (by simpa using hneF16_16)
                  refine hK16_20.out _ _ KS16_20 (fun hh16_20 => ?_)
                  clear hK16_20 KK16_20 hh16_20
                  change wpAnyH _ _ _ _ _ (3 + 2) _ _ _
                  refine anyH_seg 4 3 2 (by simp) (by kernel_rfl) (by kernel_rfl) (fun _ _ d _ _ h => by cases d <;> exact h) KS16_20 ?_
                  simp only [List.drop_succ_cons, List.drop_zero, List.take_succ_cons, List.take_zero]
                  repeat (refine heldL_yes (v := ?_) rfl (fun w hSw => ?_) ?_; rotate_left; (skip; go_simp; (try with_reducible rfl)); (try simp only [Act.put, List.setIfInBounds_toArray, List.set_cons_zero, List.set_cons_succ]))
                  refine heldL_nil ?_
                  change wpAnyH _ _ _ _ _ (1 + 1) _ _ _
                  refine wpAnyH_lone (k := 9) (o := ?op16_21) (by kernel_rfl) ?hop16_21 ?hhp16_21
                  case hop16_21 => (simp only [List.getElem?_toArray, List.getElem?_cons_zero, List.getElem?_cons_succ]; rfl)
                  intro KK16_21 hK16_21
                  rw [if_pos (by rfl)]
                  obtain ⟨x0, x1, x2, y0, y1, y2, ys⟩ := cells3 XA16_20
                  go_simp
                  refine hK16_21.out _ _ (((KS16_20.set (.inr hbA16_5) _).set (.inr hbA16_5) _).set (.inr hbA16_5) _) (fun hh16_21 => ?_)
                  clear hK16_21 KK16_21
                  generalize hwz : ((w16_20.setCell ⟨bA16_5, 0, none⟩ _).setCell ⟨bA16_5, 1, none⟩ _).setCell ⟨bA16_5, 2, none⟩ _ = wz at *
                  have XZ : wz.heap[bF16_16]? = some (.cells #[.int .i64 0, .int .i64 0] 60 (0, 0)) := by rw [← hwz]; exact blk_far (blk_far (blk_far XF16_20 (p := ⟨bA16_5, 0, none⟩) (Ne.symm (Ne.symm hAF16_16)) _) (p := ⟨bA16_5, 1, none⟩) (Ne.symm (Ne.symm hAF16_16)) _) (p := ⟨bA16_5, 2, none⟩) (Ne.symm (Ne.symm hAF16_16)) _
                  clear hwz
                  change wpAnyH _ _ _ _ _ (0 + 1) _ _ _
                  refine wpAnyH_lone (k := 10) (o := ?op16_22) (by kernel_rfl) ?hop16_22 ?hhp16_22
                  case hop16_22 => (simp only [List.getElem?_toArray, List.getElem?_cons_zero, List.getElem?_cons_succ]; rfl)
                  intro KK16_22 hK16_22
                  rw [if_pos (by rfl)]
                  clear x0 x1 x2 y0 y1 y2
                  obtain ⟨x0, x1, y0, y1, xs⟩ := cells2 XZ
                  go_simp
                  refine hK16_22.out _ _ ((hh16_21.set (.inr hbF16_16) _).set (.inr hbF16_16) _) (fun hh16_22 => ?_)
                  clear hK16_22 KK16_22
                  have XY := blk_set (blk_set XZ 0 (.int .i64 k1)) 1 (.int .i64 a1)
                  generalize (wz.setCell ⟨bF16_16, 0, none⟩ _).setCell ⟨bF16_16, 1, none⟩ _ = wy at *
                  refine wpAnyH_done (by kernel_rfl) ?_ _
                  go_wp2
                  go_meet
                  exact ⟨_, rfl, XY, hh16_22⟩
            case hhp16_6 =>
              intro KK16_6 hK16_6
              rw [if_pos (by rfl)]
              go_simp
              have XF16_6 := blk_new w16_1 (.cells #[.int .i64 0, .int .i64 0] 60)
              have KS16_6 := KS16_1.alloc (.cells #[.int .i64 0, .int .i64 0] 60)
              have hbF16_6 : wc.heap.size ≤ w16_1.heap.size := KS16_1.size
              have hneF16_6 : w16_1.heap.size ≠ g16_1 := by have := blk_lt M16_1; omega
              have M16_6 := blk_alloc M16_1 (.cells #[.int .i64 0, .int .i64 0] 60)
              refine hK16_6.out _ _ KS16_6 (fun hh16_6 => ?_)
              clear hK16_6 KK16_6 hh16_6
              generalize w16_1.alloc (.cells #[.int .i64 0, .int .i64 0] 60) = w16_6 at *
              generalize w16_1.heap.size = bF16_6 at *
              change wpAnyH _ _ _ _ _ (6 + 1) _ _ _
              refine wpAnyH_two (i := 3) (j := 7) (o1 := ?op16_23) (o2 := ?op16_24) (by kernel_rfl) ?hop16_23 ?hop16_24 ?hhp16_23 ?hhp16_24
              case hop16_23 => (simp only [List.getElem?_toArray, List.getElem?_cons_zero, List.getElem?_cons_succ]; rfl)
              case hop16_24 => (simp only [List.getElem?_toArray, List.getElem?_cons_zero, List.getElem?_cons_succ]; rfl)
              case hhp16_23 =>
                intro KK16_23 hK16_23
                rw [if_pos (by rfl)]
                go_simp
                refine (GT16 _ _ M16_6).mono ?_
                rintro e w16_23 ⟨A16_23, c16_23, B16_23, d16_23, rfl, KG16_23⟩
                go_wp2_with fail
                have KS16_23 : Keep [] wc w16_23 := KS16_6.then (S := []) KG16_23 (by simpa using hgb16_1)
                have XF16_23 := KG16_23.blk XF16_6 (by simpa using hneF16_6)
                refine hK16_23.out _ _ KS16_23 (fun hh16_23 => ?_)
                clear hK16_23 KK16_23 hh16_23
                change wpAnyH _ _ _ _ _ (3 + 3) _ _ _
                refine anyH_seg 4 3 3 (by simp) (by kernel_rfl) (by kernel_rfl) (fun _ _ d _ _ h => by cases d <;> exact h) KS16_23 ?_
                simp only [List.drop_succ_cons, List.drop_zero, List.take_succ_cons, List.take_zero]
                repeat (refine heldL_yes (v := ?_) rfl (fun w hSw => ?_) ?_; rotate_left; (skip; go_simp; (try with_reducible rfl)); (try simp only [Act.put, List.setIfInBounds_toArray, List.set_cons_zero, List.set_cons_succ]))
                refine heldL_nil ?_
                change wpAnyH _ _ _ _ _ (2 + 1) _ _ _
                refine wpAnyH_lone (k := 7) (o := ?op16_25) (by kernel_rfl) ?hop16_25 ?hhp16_25
                case hop16_25 => (simp only [List.getElem?_toArray, List.getElem?_cons_zero, List.getElem?_cons_succ]; rfl)
                case hhp16_25 =>
                  intro KK16_25 hK16_25
                  rw [if_pos (by rfl)]
                  go_simp
                  have XA16_25 := blk_new w16_23 (.cells #[.int .i64 0, .slice none 0 0, .slice none 0 0] 25)
                  have KS16_25 := KS16_23.alloc (.cells #[.int .i64 0, .slice none 0 0, .slice none 0 0] 25)
                  have hbA16_25 : wc.heap.size ≤ w16_23.heap.size := KS16_23.size
                  have hAF16_25 : w16_23.heap.size ≠ bF16_6 := by have := blk_lt XF16_23; omega
                  have XF16_25 := blk_alloc XF16_23 (.cells #[.int .i64 0, .slice none 0 0, .slice none 0 0] 25)
                  refine hK16_25.out _ _ KS16_25 (fun hh16_25 => ?_)
                  clear hK16_25 KK16_25 hh16_25
                  generalize w16_23.alloc (.cells #[.int .i64 0, .slice none 0 0, .slice none 0 0] 25) = w16_25 at *
                  generalize w16_23.heap.size = bA16_25 at *
                  change wpAnyH _ _ _ _ _ (1 + 1) _ _ _
                  refine wpAnyH_lone (k := 9) (o := ?op16_26) (by kernel_rfl) ?hop16_26 ?hhp16_26
                  case hop16_26 => (simp only [List.getElem?_toArray, List.getElem?_cons_zero, List.getElem?_cons_succ]; rfl)
                  intro KK16_26 hK16_26
                  rw [if_pos (by rfl)]
                  obtain ⟨x0, x1, x2, y0, y1, y2, ys⟩ := cells3 XA16_25
                  go_simp
                  refine hK16_26.out _ _ (((KS16_25.set (.inr hbA16_25) _).set (.inr hbA16_25) _).set (.inr hbA16_25) _) (fun hh16_26 => ?_)
                  clear hK16_26 KK16_26
                  generalize hwz : ((w16_25.setCell ⟨bA16_25, 0, none⟩ _).setCell ⟨bA16_25, 1, none⟩ _).setCell ⟨bA16_25, 2, none⟩ _ = wz at *
                  have XZ : wz.heap[bF16_6]? = some (.cells #[.int .i64 0, .int .i64 0] 60 (0, 0)) := by rw [← hwz]; exact blk_far (blk_far (blk_far XF16_25 (p := ⟨bA16_25, 0, none⟩) (Ne.symm hAF16_25) _) (p := ⟨bA16_25, 1, none⟩) (Ne.symm hAF16_25) _) (p := ⟨bA16_25, 2, none⟩) (Ne.symm hAF16_25) _
                  clear hwz
                  change wpAnyH _ _ _ _ _ (0 + 1) _ _ _
                  refine wpAnyH_lone (k := 10) (o := ?op16_27) (by kernel_rfl) ?hop16_27 ?hhp16_27
                  case hop16_27 => (simp only [List.getElem?_toArray, List.getElem?_cons_zero, List.getElem?_cons_succ]; rfl)
                  intro KK16_27 hK16_27
                  rw [if_pos (by rfl)]
                  clear x0 x1 x2 y0 y1 y2
                  obtain ⟨x0, x1, y0, y1, xs⟩ := cells2 XZ
                  go_simp
                  refine hK16_27.out _ _ ((hh16_26.set (.inr hbF16_6) _).set (.inr hbF16_6) _) (fun hh16_27 => ?_)
                  clear hK16_27 KK16_27
                  have XY := blk_set (blk_set XZ 0 (.int .i64 k1)) 1 (.int .i64 a1)
                  generalize (wz.setCell ⟨bF16_6, 0, none⟩ _).setCell ⟨bF16_6, 1, none⟩ _ = wy at *
                  refine wpAnyH_done (by kernel_rfl) ?_ _
                  go_wp2
                  go_meet
                  exact ⟨_, rfl, XY, hh16_27⟩
              case hhp16_24 =>
                intro KK16_24 hK16_24
                rw [if_pos (by rfl)]
                go_simp
                have XA16_24 := blk_new w16_6 (.cells #[.int .i64 0, .slice none 0 0, .slice none 0 0] 25)
                have KS16_24 := KS16_6.alloc (.cells #[.int .i64 0, .slice none 0 0, .slice none 0 0] 25)
                have hbA16_24 : wc.heap.size ≤ w16_6.heap.size := KS16_6.size
                have hneA16_24 : w16_6.heap.size ≠ g16_1 := by have := blk_lt M16_6; omega
                have M16_24 := blk_alloc M16_6 (.cells #[.int .i64 0, .slice none 0 0, .slice none 0 0] 25)
                have hAF16_24 : w16_6.heap.size ≠ bF16_6 := by have := blk_lt XF16_6; omega
                have XF16_24 := blk_alloc XF16_6 (.cells #[.int .i64 0, .slice none 0 0, .slice none 0 0] 25)
                refine hK16_24.out _ _ KS16_24 (fun hh16_24 => ?_)
                clear hK16_24 KK16_24 hh16_24
                generalize w16_6.alloc (.cells #[.int .i64 0, .slice none 0 0, .slice none 0 0] 25) = w16_24 at *
                generalize w16_6.heap.size = bA16_24 at *
                change wpAnyH _ _ _ _ _ (5 + 1) _ _ _
                refine wpAnyH_lone (k := 3) (o := ?op16_28) (by kernel_rfl) ?hop16_28 ?hhp16_28
                case hop16_28 => (simp only [List.getElem?_toArray, List.getElem?_cons_zero, List.getElem?_cons_succ]; rfl)
                case hhp16_28 =>
                  intro KK16_28 hK16_28
                  rw [if_pos (by rfl)]
                  go_simp
                  refine (GT16 _ _ M16_24).mono ?_
                  rintro e w16_28 ⟨A16_28, c16_28, B16_28, d16_28, rfl, KG16_28⟩
                  go_wp2_with fail
                  have KS16_28 : Keep [] wc w16_28 := KS16_24.then (S := []) KG16_28 (by simpa using hgb16_1)
                  have XA16_28 := KG16_28.blk XA16_24 (by simpa using hneA16_24)
                  have XF16_28 := KG16_28.blk XF16_24 (by simpa using hneF16_6)
                  refine hK16_28.out _ _ KS16_28 (fun hh16_28 => ?_)
                  clear hK16_28 KK16_28 hh16_28
                  change wpAnyH _ _ _ _ _ (3 + 2) _ _ _
                  refine anyH_seg 4 3 2 (by simp) (by kernel_rfl) (by kernel_rfl) (fun _ _ d _ _ h => by cases d <;> exact h) KS16_28 ?_
                  simp only [List.drop_succ_cons, List.drop_zero, List.take_succ_cons, List.take_zero]
                  repeat (refine heldL_yes (v := ?_) rfl (fun w hSw => ?_) ?_; rotate_left; (skip; go_simp; (try with_reducible rfl)); (try simp only [Act.put, List.setIfInBounds_toArray, List.set_cons_zero, List.set_cons_succ]))
                  refine heldL_nil ?_
                  change wpAnyH _ _ _ _ _ (1 + 1) _ _ _
                  refine wpAnyH_lone (k := 9) (o := ?op16_29) (by kernel_rfl) ?hop16_29 ?hhp16_29
                  case hop16_29 => (simp only [List.getElem?_toArray, List.getElem?_cons_zero, List.getElem?_cons_succ]; rfl)
                  intro KK16_29 hK16_29
                  rw [if_pos (by rfl)]
                  obtain ⟨x0, x1, x2, y0, y1, y2, ys⟩ := cells3 XA16_28
                  go_simp
                  refine hK16_29.out _ _ (((KS16_28.set (.inr hbA16_24) _).set (.inr hbA16_24) _).set (.inr hbA16_24) _) (fun hh16_29 => ?_)
                  clear hK16_29 KK16_29
                  generalize hwz : ((w16_28.setCell ⟨bA16_24, 0, none⟩ _).setCell ⟨bA16_24, 1, none⟩ _).setCell ⟨bA16_24, 2, none⟩ _ = wz at *
                  have XZ : wz.heap[bF16_6]? = some (.cells #[.int .i64 0, .int .i64 0] 60 (0, 0)) := by rw [← hwz]; exact blk_far (blk_far (blk_far XF16_28 (p := ⟨bA16_24, 0, none⟩) (Ne.symm hAF16_24) _) (p := ⟨bA16_24, 1, none⟩) (Ne.symm hAF16_24) _) (p := ⟨bA16_24, 2, none⟩) (Ne.symm hAF16_24) _
                  clear hwz
                  change wpAnyH _ _ _ _ _ (0 + 1) _ _ _
                  refine wpAnyH_lone (k := 10) (o := ?op16_30) (by kernel_rfl) ?hop16_30 ?hhp16_30
                  case hop16_30 => (simp only [List.getElem?_toArray, List.getElem?_cons_zero, List.getElem?_cons_succ]; rfl)
                  intro KK16_30 hK16_30
                  rw [if_pos (by rfl)]
                  clear x0 x1 x2 y0 y1 y2
                  obtain ⟨x0, x1, y0, y1, xs⟩ := cells2 XZ
                  go_simp
                  refine hK16_30.out _ _ ((hh16_29.set (.inr hbF16_6) _).set (.inr hbF16_6) _) (fun hh16_30 => ?_)
                  clear hK16_30 KK16_30
                  have XY := blk_set (blk_set XZ 0 (.int .i64 k1)) 1 (.int .i64 a1)
                  generalize (wz.setCell ⟨bF16_6, 0, none⟩ _).setCell ⟨bF16_6, 1, none⟩ _ = wy at *
                  refine wpAnyH_done (by kernel_rfl) ?_ _
                  go_wp2
                  go_meet
                  exact ⟨_, rfl, XY, hh16_30⟩
          case hhp16_2 =>
            intro KK16_2 hK16_2
            rw [if_pos (by rfl)]
            go_simp
            have XA16_2 := blk_new wx16 (.cells #[.int .i64 0, .slice none 0 0, .slice none 0 0] 25)
            have KS16_2 := KS16.alloc (.cells #[.int .i64 0, .slice none 0 0, .slice none 0 0] 25)
            have hbA16_2 : wc.heap.size ≤ wx16.heap.size := KS16.size
            refine hK16_2.out _ _ KS16_2 (fun hh16_2 => ?_)
            clear hK16_2 KK16_2 hh16_2
            generalize wx16.alloc (.cells #[.int .i64 0, .slice none 0 0, .slice none 0 0] 25) = w16_2 at *
            generalize wx16.heap.size = bA16_2 at *
            change wpAnyH _ _ _ _ _ (7 + 1) _ _ _
            refine wpAnyH_two (i := 0) (j := 8) (o1 := ?op16_31) (o2 := ?op16_32) (by kernel_rfl) ?hop16_31 ?hop16_32 ?hhp16_31 ?hhp16_32
            case hop16_31 => (simp only [List.getElem?_toArray, List.getElem?_cons_zero, List.getElem?_cons_succ]; rfl)
            case hop16_32 => (simp only [List.getElem?_toArray, List.getElem?_cons_zero, List.getElem?_cons_succ]; rfl)
            case hhp16_31 =>
              intro KK16_31 hK16_31
              rw [if_pos (by rfl)]
              go_simp
              refine (great_any _).mono ?_
              rintro e w16_31 ⟨g16_31, rfl, hg16_31, M16_31, KG16_31⟩
              go_wp2_with fail
              have KS16_31 := KS16_2.trans KG16_31
              have hgb16_31 := Nat.le_trans KS16_2.size hg16_31
              have hneA16_31 : bA16_2 ≠ g16_31 := by have := blk_lt XA16_2; omega
              have XA16_31 := KG16_31.blk XA16_2 (by simp)
              refine hK16_31.out _ _ KS16_31 (fun hh16_31 => ?_)
              clear hK16_31 KK16_31 hh16_31
              change wpAnyH _ _ _ _ _ (6 + 1) _ _ _
              refine wpAnyH_two (i := 3) (j := 8) (o1 := ?op16_33) (o2 := ?op16_34) (by kernel_rfl) ?hop16_33 ?hop16_34 ?hhp16_33 ?hhp16_34
              case hop16_33 => (simp only [List.getElem?_toArray, List.getElem?_cons_zero, List.getElem?_cons_succ]; rfl)
              case hop16_34 => (simp only [List.getElem?_toArray, List.getElem?_cons_zero, List.getElem?_cons_succ]; rfl)
              case hhp16_33 =>
                intro KK16_33 hK16_33
                rw [if_pos (by rfl)]
                go_simp
                refine (GT16 _ _ M16_31).mono ?_
                rintro e w16_33 ⟨A16_33, c16_33, B16_33, d16_33, rfl, KG16_33⟩
                go_wp2_with fail
                have KS16_33 : Keep [] wc w16_33 := KS16_31.then (S := []) KG16_33 (by simpa using hgb16_31)
                have XA16_33 := KG16_33.blk XA16_31 (by simpa using hneA16_31)
                refine hK16_33.out _ _ KS16_33 (fun hh16_33 => ?_)
                clear hK16_33 KK16_33 hh16_33
                change wpAnyH _ _ _ _ _ (3 + 3) _ _ _
                refine anyH_seg 4 3 3 (by simp) (by kernel_rfl) (by kernel_rfl) (fun _ _ d _ _ h => by cases d <;> exact h) KS16_33 ?_
                simp only [List.drop_succ_cons, List.drop_zero, List.take_succ_cons, List.take_zero]
                repeat (refine heldL_yes (v := ?_) rfl (fun w hSw => ?_) ?_; rotate_left; (skip; go_simp; (try with_reducible rfl)); (try simp only [Act.put, List.setIfInBounds_toArray, List.set_cons_zero, List.set_cons_succ]))
                refine heldL_nil ?_
                change wpAnyH _ _ _ _ _ (2 + 1) _ _ _
                refine wpAnyH_lone (k := 8) (o := ?op16_35) (by kernel_rfl) ?hop16_35 ?hhp16_35
                case hop16_35 => (simp only [List.getElem?_toArray, List.getElem?_cons_zero, List.getElem?_cons_succ]; rfl)
                case hhp16_35 =>
                  intro KK16_35 hK16_35
                  rw [if_pos (by rfl)]
                  go_simp
                  have XF16_35 := blk_new w16_33 (.cells #[.int .i64 0, .int .i64 0] 60)
                  have KS16_35 := KS16_33.alloc (.cells #[.int .i64 0, .int .i64 0] 60)
                  have hbF16_35 : wc.heap.size ≤ w16_33.heap.size := KS16_33.size
                  have hAF16_35 : w16_33.heap.size ≠ bA16_2 := by have := blk_lt XA16_33; omega
                  have XA16_35 := blk_alloc XA16_33 (.cells #[.int .i64 0, .int .i64 0] 60)
                  refine hK16_35.out _ _ KS16_35 (fun hh16_35 => ?_)
                  clear hK16_35 KK16_35 hh16_35
                  generalize w16_33.alloc (.cells #[.int .i64 0, .int .i64 0] 60) = w16_35 at *
                  generalize w16_33.heap.size = bF16_35 at *
                  change wpAnyH _ _ _ _ _ (1 + 1) _ _ _
                  refine wpAnyH_lone (k := 9) (o := ?op16_36) (by kernel_rfl) ?hop16_36 ?hhp16_36
                  case hop16_36 => (simp only [List.getElem?_toArray, List.getElem?_cons_zero, List.getElem?_cons_succ]; rfl)
                  intro KK16_36 hK16_36
                  rw [if_pos (by rfl)]
                  obtain ⟨x0, x1, x2, y0, y1, y2, ys⟩ := cells3 XA16_35
                  go_simp
                  refine hK16_36.out _ _ (((KS16_35.set (.inr hbA16_2) _).set (.inr hbA16_2) _).set (.inr hbA16_2) _) (fun hh16_36 => ?_)
                  clear hK16_36 KK16_36
                  generalize hwz : ((w16_35.setCell ⟨bA16_2, 0, none⟩ _).setCell ⟨bA16_2, 1, none⟩ _).setCell ⟨bA16_2, 2, none⟩ _ = wz at *
                  have XZ : wz.heap[bF16_35]? = some (.cells #[.int .i64 0, .int .i64 0] 60 (0, 0)) := by rw [← hwz]; exact blk_far (blk_far (blk_far XF16_35 (p := ⟨bA16_2, 0, none⟩) (Ne.symm (Ne.symm hAF16_35)) _) (p := ⟨bA16_2, 1, none⟩) (Ne.symm (Ne.symm hAF16_35)) _) (p := ⟨bA16_2, 2, none⟩) (Ne.symm (Ne.symm hAF16_35)) _
                  clear hwz
                  change wpAnyH _ _ _ _ _ (0 + 1) _ _ _
                  refine wpAnyH_lone (k := 10) (o := ?op16_37) (by kernel_rfl) ?hop16_37 ?hhp16_37
                  case hop16_37 => (simp only [List.getElem?_toArray, List.getElem?_cons_zero, List.getElem?_cons_succ]; rfl)
                  intro KK16_37 hK16_37
                  rw [if_pos (by rfl)]
                  clear x0 x1 x2 y0 y1 y2
                  obtain ⟨x0, x1, y0, y1, xs⟩ := cells2 XZ
                  go_simp
                  refine hK16_37.out _ _ ((hh16_36.set (.inr hbF16_35) _).set (.inr hbF16_35) _) (fun hh16_37 => ?_)
                  clear hK16_37 KK16_37
                  have XY := blk_set (blk_set XZ 0 (.int .i64 k1)) 1 (.int .i64 a1)
                  generalize (wz.setCell ⟨bF16_35, 0, none⟩ _).setCell ⟨bF16_35, 1, none⟩ _ = wy at *
                  refine wpAnyH_done (by kernel_rfl) ?_ _
                  go_wp2
                  go_meet
                  exact ⟨_, rfl, XY, hh16_37⟩
              case hhp16_34 =>
                intro KK16_34 hK16_34
                rw [if_pos (by rfl)]
                go_simp
                have XF16_34 := blk_new w16_31 (.cells #[.int .i64 0, .int .i64 0] 60)
                have KS16_34 := KS16_31.alloc (.cells #[.int .i64 0, .int .i64 0] 60)
                have hbF16_34 : wc.heap.size ≤ w16_31.heap.size := KS16_31.size
                have hneF16_34 : w16_31.heap.size ≠ g16_31 := by have := blk_lt M16_31; omega
                have M16_34 := blk_alloc M16_31 (.cells #[.int .i64 0, .int .i64 0] 60)
                have hAF16_34 : w16_31.heap.size ≠ bA16_2 := by have := blk_lt XA16_31; omega
                have XA16_34 := blk_alloc XA16_31 (.cells #[.int .i64 0, .int .i64 0] 60)
                refine hK16_34.out _ _ KS16_34 (fun hh16_34 => ?_)
                clear hK16_34 KK16_34 hh16_34
                generalize w16_31.alloc (.cells #[.int .i64 0, .int .i64 0] 60) = w16_34 at *
                generalize w16_31.heap.size = bF16_34 at *
                change wpAnyH _ _ _ _ _ (5 + 1) _ _ _
                refine wpAnyH_lone (k := 3) (o := ?op16_38) (by kernel_rfl) ?hop16_38 ?hhp16_38
                case hop16_38 => (simp only [List.getElem?_toArray, List.getElem?_cons_zero, List.getElem?_cons_succ]; rfl)
                case hhp16_38 =>
                  intro KK16_38 hK16_38
                  rw [if_pos (by rfl)]
                  go_simp
                  refine (GT16 _ _ M16_34).mono ?_
                  rintro e w16_38 ⟨A16_38, c16_38, B16_38, d16_38, rfl, KG16_38⟩
                  go_wp2_with fail
                  have KS16_38 : Keep [] wc w16_38 := KS16_34.then (S := []) KG16_38 (by simpa using hgb16_31)
                  have XA16_38 := KG16_38.blk XA16_34 (by simpa using hneA16_31)
                  have XF16_38 := KG16_38.blk XF16_34 (by simpa using hneF16_34)
                  refine hK16_38.out _ _ KS16_38 (fun hh16_38 => ?_)
                  clear hK16_38 KK16_38 hh16_38
                  change wpAnyH _ _ _ _ _ (3 + 2) _ _ _
                  refine anyH_seg 4 3 2 (by simp) (by kernel_rfl) (by kernel_rfl) (fun _ _ d _ _ h => by cases d <;> exact h) KS16_38 ?_
                  simp only [List.drop_succ_cons, List.drop_zero, List.take_succ_cons, List.take_zero]
                  repeat (refine heldL_yes (v := ?_) rfl (fun w hSw => ?_) ?_; rotate_left; (skip; go_simp; (try with_reducible rfl)); (try simp only [Act.put, List.setIfInBounds_toArray, List.set_cons_zero, List.set_cons_succ]))
                  refine heldL_nil ?_
                  change wpAnyH _ _ _ _ _ (1 + 1) _ _ _
                  refine wpAnyH_lone (k := 9) (o := ?op16_39) (by kernel_rfl) ?hop16_39 ?hhp16_39
                  case hop16_39 => (simp only [List.getElem?_toArray, List.getElem?_cons_zero, List.getElem?_cons_succ]; rfl)
                  intro KK16_39 hK16_39
                  rw [if_pos (by rfl)]
                  obtain ⟨x0, x1, x2, y0, y1, y2, ys⟩ := cells3 XA16_38
                  go_simp
                  refine hK16_39.out _ _ (((KS16_38.set (.inr hbA16_2) _).set (.inr hbA16_2) _).set (.inr hbA16_2) _) (fun hh16_39 => ?_)
                  clear hK16_39 KK16_39
                  generalize hwz : ((w16_38.setCell ⟨bA16_2, 0, none⟩ _).setCell ⟨bA16_2, 1, none⟩ _).setCell ⟨bA16_2, 2, none⟩ _ = wz at *
                  have XZ : wz.heap[bF16_34]? = some (.cells #[.int .i64 0, .int .i64 0] 60 (0, 0)) := by rw [← hwz]; exact blk_far (blk_far (blk_far XF16_38 (p := ⟨bA16_2, 0, none⟩) (Ne.symm (Ne.symm hAF16_34)) _) (p := ⟨bA16_2, 1, none⟩) (Ne.symm (Ne.symm hAF16_34)) _) (p := ⟨bA16_2, 2, none⟩) (Ne.symm (Ne.symm hAF16_34)) _
                  clear hwz
                  change wpAnyH _ _ _ _ _ (0 + 1) _ _ _
                  refine wpAnyH_lone (k := 10) (o := ?op16_40) (by kernel_rfl) ?hop16_40 ?hhp16_40
                  case hop16_40 => (simp only [List.getElem?_toArray, List.getElem?_cons_zero, List.getElem?_cons_succ]; rfl)
                  intro KK16_40 hK16_40
                  rw [if_pos (by rfl)]
                  clear x0 x1 x2 y0 y1 y2
                  obtain ⟨x0, x1, y0, y1, xs⟩ := cells2 XZ
                  go_simp
                  refine hK16_40.out _ _ ((hh16_39.set (.inr hbF16_34) _).set (.inr hbF16_34) _) (fun hh16_40 => ?_)
                  clear hK16_40 KK16_40
                  have XY := blk_set (blk_set XZ 0 (.int .i64 k1)) 1 (.int .i64 a1)
                  generalize (wz.setCell ⟨bF16_34, 0, none⟩ _).setCell ⟨bF16_34, 1, none⟩ _ = wy at *
                  refine wpAnyH_done (by kernel_rfl) ?_ _
                  go_wp2
                  go_meet
                  exact ⟨_, rfl, XY, hh16_40⟩
            case hhp16_32 =>
              intro KK16_32 hK16_32
              rw [if_pos (by rfl)]
              go_simp
              have XF16_32 := blk_new w16_2 (.cells #[.int .i64 0, .int .i64 0] 60)
              have KS16_32 := KS16_2.alloc (.cells #[.int .i64 0, .int .i64 0] 60)
              have hbF16_32 : wc.heap.size ≤ w16_2.heap.size := KS16_2.size
              have hAF16_32 : w16_2.heap.size ≠ bA16_2 := by have := blk_lt XA16_2; omega
              have XA16_32 := blk_alloc XA16_2 (.cells #[.int .i64 0, .int .i64 0] 60)
              refine hK16_32.out _ _ KS16_32 (fun hh16_32 => ?_)
              clear hK16_32 KK16_32 hh16_32
              generalize w16_2.alloc (.cells #[.int .i64 0, .int .i64 0] 60) = w16_32 at *
              generalize w16_2.heap.size = bF16_32 at *
              change wpAnyH _ _ _ _ _ (6 + 1) _ _ _
              refine wpAnyH_lone (k := 0) (o := ?op16_41) (by kernel_rfl) ?hop16_41 ?hhp16_41
              case hop16_41 => (simp only [List.getElem?_toArray, List.getElem?_cons_zero, List.getElem?_cons_succ]; rfl)
              case hhp16_41 =>
                intro KK16_41 hK16_41
                rw [if_pos (by rfl)]
                go_simp
                refine (great_any _).mono ?_
                rintro e w16_41 ⟨g16_41, rfl, hg16_41, M16_41, KG16_41⟩
                go_wp2_with fail
                have KS16_41 := KS16_32.trans KG16_41
                have hgb16_41 := Nat.le_trans KS16_32.size hg16_41
                have hneA16_41 : bA16_2 ≠ g16_41 := by have := blk_lt XA16_32; omega
                have XA16_41 := KG16_41.blk XA16_32 (by simp)
                have hneF16_41 : bF16_32 ≠ g16_41 := by have := blk_lt XF16_32; omega
                have XF16_41 := KG16_41.blk XF16_32 (by simp)
                refine hK16_41.out _ _ KS16_41 (fun hh16_41 => ?_)
                clear hK16_41 KK16_41 hh16_41
                change wpAnyH _ _ _ _ _ (5 + 1) _ _ _
                refine wpAnyH_lone (k := 3) (o := ?op16_42) (by kernel_rfl) ?hop16_42 ?hhp16_42
                case hop16_42 => (simp only [List.getElem?_toArray, List.getElem?_cons_zero, List.getElem?_cons_succ]; rfl)
                case hhp16_42 =>
                  intro KK16_42 hK16_42
                  rw [if_pos (by rfl)]
                  go_simp
                  refine (GT16 _ _ M16_41).mono ?_
                  rintro e w16_42 ⟨A16_42, c16_42, B16_42, d16_42, rfl, KG16_42⟩
                  go_wp2_with fail
                  have KS16_42 : Keep [] wc w16_42 := KS16_41.then (S := []) KG16_42 (by simpa using hgb16_41)
                  have XA16_42 := KG16_42.blk XA16_41 (by simpa using hneA16_41)
                  have XF16_42 := KG16_42.blk XF16_41 (by simpa using hneF16_41)
                  refine hK16_42.out _ _ KS16_42 (fun hh16_42 => ?_)
                  clear hK16_42 KK16_42 hh16_42
                  change wpAnyH _ _ _ _ _ (3 + 2) _ _ _
                  refine anyH_seg 4 3 2 (by simp) (by kernel_rfl) (by kernel_rfl) (fun _ _ d _ _ h => by cases d <;> exact h) KS16_42 ?_
                  simp only [List.drop_succ_cons, List.drop_zero, List.take_succ_cons, List.take_zero]
                  repeat (refine heldL_yes (v := ?_) rfl (fun w hSw => ?_) ?_; rotate_left; (skip; go_simp; (try with_reducible rfl)); (try simp only [Act.put, List.setIfInBounds_toArray, List.set_cons_zero, List.set_cons_succ]))
                  refine heldL_nil ?_
                  change wpAnyH _ _ _ _ _ (1 + 1) _ _ _
                  refine wpAnyH_lone (k := 9) (o := ?op16_43) (by kernel_rfl) ?hop16_43 ?hhp16_43
                  case hop16_43 => (simp only [List.getElem?_toArray, List.getElem?_cons_zero, List.getElem?_cons_succ]; rfl)
                  intro KK16_43 hK16_43
                  rw [if_pos (by rfl)]
                  obtain ⟨x0, x1, x2, y0, y1, y2, ys⟩ := cells3 XA16_42
                  go_simp
                  refine hK16_43.out _ _ (((KS16_42.set (.inr hbA16_2) _).set (.inr hbA16_2) _).set (.inr hbA16_2) _) (fun hh16_43 => ?_)
                  clear hK16_43 KK16_43
                  generalize hwz : ((w16_42.setCell ⟨bA16_2, 0, none⟩ _).setCell ⟨bA16_2, 1, none⟩ _).setCell ⟨bA16_2, 2, none⟩ _ = wz at *
                  have XZ : wz.heap[bF16_32]? = some (.cells #[.int .i64 0, .int .i64 0] 60 (0, 0)) := by rw [← hwz]; exact blk_far (blk_far (blk_far XF16_42 (p := ⟨bA16_2, 0, none⟩) (Ne.symm (Ne.symm hAF16_32)) _) (p := ⟨bA16_2, 1, none⟩) (Ne.symm (Ne.symm hAF16_32)) _) (p := ⟨bA16_2, 2, none⟩) (Ne.symm (Ne.symm hAF16_32)) _
                  clear hwz
                  change wpAnyH _ _ _ _ _ (0 + 1) _ _ _
                  refine wpAnyH_lone (k := 10) (o := ?op16_44) (by kernel_rfl) ?hop16_44 ?hhp16_44
                  case hop16_44 => (simp only [List.getElem?_toArray, List.getElem?_cons_zero, List.getElem?_cons_succ]; rfl)
                  intro KK16_44 hK16_44
                  rw [if_pos (by rfl)]
                  clear x0 x1 x2 y0 y1 y2
                  obtain ⟨x0, x1, y0, y1, xs⟩ := cells2 XZ
                  go_simp
                  refine hK16_44.out _ _ ((hh16_43.set (.inr hbF16_32) _).set (.inr hbF16_32) _) (fun hh16_44 => ?_)
                  clear hK16_44 KK16_44
                  have XY := blk_set (blk_set XZ 0 (.int .i64 k1)) 1 (.int .i64 a1)
                  generalize (wz.setCell ⟨bF16_32, 0, none⟩ _).setCell ⟨bF16_32, 1, none⟩ _ = wy at *
                  refine wpAnyH_done (by kernel_rfl) ?_ _
                  go_wp2
                  go_meet
                  exact ⟨_, rfl, XY, hh16_44⟩
          case hhp16_3 =>
            intro KK16_3 hK16_3
            rw [if_pos (by rfl)]
            go_simp
            have XF16_3 := blk_new wx16 (.cells #[.int .i64 0, .int .i64 0] 60)
            have KS16_3 := KS16.alloc (.cells #[.int .i64 0, .int .i64 0] 60)
            have hbF16_3 : wc.heap.size ≤ wx16.heap.size := KS16.size
            refine hK16_3.out _ _ KS16_3 (fun hh16_3 => ?_)
            clear hK16_3 KK16_3 hh16_3
            generalize wx16.alloc (.cells #[.int .i64 0, .int .i64 0] 60) = w16_3 at *
            generalize wx16.heap.size = bF16_3 at *
            change wpAnyH _ _ _ _ _ (7 + 1) _ _ _
            refine wpAnyH_two (i := 0) (j := 7) (o1 := ?op16_45) (o2 := ?op16_46) (by kernel_rfl) ?hop16_45 ?hop16_46 ?hhp16_45 ?hhp16_46
            case hop16_45 => (simp only [List.getElem?_toArray, List.getElem?_cons_zero, List.getElem?_cons_succ]; rfl)
            case hop16_46 => (simp only [List.getElem?_toArray, List.getElem?_cons_zero, List.getElem?_cons_succ]; rfl)
            case hhp16_45 =>
              intro KK16_45 hK16_45
              rw [if_pos (by rfl)]
              go_simp
              refine (great_any _).mono ?_
              rintro e w16_45 ⟨g16_45, rfl, hg16_45, M16_45, KG16_45⟩
              go_wp2_with fail
              have KS16_45 := KS16_3.trans KG16_45
              have hgb16_45 := Nat.le_trans KS16_3.size hg16_45
              have hneF16_45 : bF16_3 ≠ g16_45 := by have := blk_lt XF16_3; omega
              have XF16_45 := KG16_45.blk XF16_3 (by simp)
              refine hK16_45.out _ _ KS16_45 (fun hh16_45 => ?_)
              clear hK16_45 KK16_45 hh16_45
              change wpAnyH _ _ _ _ _ (6 + 1) _ _ _
              refine wpAnyH_two (i := 3) (j := 7) (o1 := ?op16_47) (o2 := ?op16_48) (by kernel_rfl) ?hop16_47 ?hop16_48 ?hhp16_47 ?hhp16_48
              case hop16_47 => (simp only [List.getElem?_toArray, List.getElem?_cons_zero, List.getElem?_cons_succ]; rfl)
              case hop16_48 => (simp only [List.getElem?_toArray, List.getElem?_cons_zero, List.getElem?_cons_succ]; rfl)
              case hhp16_47 =>
                intro KK16_47 hK16_47
                rw [if_pos (by rfl)]
                go_simp
                refine (GT16 _ _ M16_45).mono ?_
                rintro e w16_47 ⟨A16_47, c16_47, B16_47, d16_47, rfl, KG16_47⟩
                go_wp2_with fail
                have KS16_47 : Keep [] wc w16_47 := KS16_45.then (S := []) KG16_47 (by simpa using hgb16_45)
                have XF16_47 := KG16_47.blk XF16_45 (by simpa using hneF16_45)
                refine hK16_47.out _ _ KS16_47 (fun hh16_47 => ?_)
                clear hK16_47 KK16_47 hh16_47
                change wpAnyH _ _ _ _ _ (3 + 3) _ _ _
                refine anyH_seg 4 3 3 (by simp) (by kernel_rfl) (by kernel_rfl) (fun _ _ d _ _ h => by cases d <;> exact h) KS16_47 ?_
                simp only [List.drop_succ_cons, List.drop_zero, List.take_succ_cons, List.take_zero]
                repeat (refine heldL_yes (v := ?_) rfl (fun w hSw => ?_) ?_; rotate_left; (skip; go_simp; (try with_reducible rfl)); (try simp only [Act.put, List.setIfInBounds_toArray, List.set_cons_zero, List.set_cons_succ]))
                refine heldL_nil ?_
                change wpAnyH _ _ _ _ _ (2 + 1) _ _ _
                refine wpAnyH_lone (k := 7) (o := ?op16_49) (by kernel_rfl) ?hop16_49 ?hhp16_49
                case hop16_49 => (simp only [List.getElem?_toArray, List.getElem?_cons_zero, List.getElem?_cons_succ]; rfl)
                case hhp16_49 =>
                  intro KK16_49 hK16_49
                  rw [if_pos (by rfl)]
                  go_simp
                  have XA16_49 := blk_new w16_47 (.cells #[.int .i64 0, .slice none 0 0, .slice none 0 0] 25)
                  have KS16_49 := KS16_47.alloc (.cells #[.int .i64 0, .slice none 0 0, .slice none 0 0] 25)
                  have hbA16_49 : wc.heap.size ≤ w16_47.heap.size := KS16_47.size
                  have hAF16_49 : w16_47.heap.size ≠ bF16_3 := by have := blk_lt XF16_47; omega
                  have XF16_49 := blk_alloc XF16_47 (.cells #[.int .i64 0, .slice none 0 0, .slice none 0 0] 25)
                  refine hK16_49.out _ _ KS16_49 (fun hh16_49 => ?_)
                  clear hK16_49 KK16_49 hh16_49
                  generalize w16_47.alloc (.cells #[.int .i64 0, .slice none 0 0, .slice none 0 0] 25) = w16_49 at *
                  generalize w16_47.heap.size = bA16_49 at *
                  change wpAnyH _ _ _ _ _ (1 + 1) _ _ _
                  refine wpAnyH_lone (k := 9) (o := ?op16_50) (by kernel_rfl) ?hop16_50 ?hhp16_50
                  case hop16_50 => (simp only [List.getElem?_toArray, List.getElem?_cons_zero, List.getElem?_cons_succ]; rfl)
                  intro KK16_50 hK16_50
                  rw [if_pos (by rfl)]
                  obtain ⟨x0, x1, x2, y0, y1, y2, ys⟩ := cells3 XA16_49
                  go_simp
                  refine hK16_50.out _ _ (((KS16_49.set (.inr hbA16_49) _).set (.inr hbA16_49) _).set (.inr hbA16_49) _) (fun hh16_50 => ?_)
                  clear hK16_50 KK16_50
                  generalize hwz : ((w16_49.setCell ⟨bA16_49, 0, none⟩ _).setCell ⟨bA16_49, 1, none⟩ _).setCell ⟨bA16_49, 2, none⟩ _ = wz at *
                  have XZ : wz.heap[bF16_3]? = some (.cells #[.int .i64 0, .int .i64 0] 60 (0, 0)) := by rw [← hwz]; exact blk_far (blk_far (blk_far XF16_49 (p := ⟨bA16_49, 0, none⟩) (Ne.symm hAF16_49) _) (p := ⟨bA16_49, 1, none⟩) (Ne.symm hAF16_49) _) (p := ⟨bA16_49, 2, none⟩) (Ne.symm hAF16_49) _
                  clear hwz
                  change wpAnyH _ _ _ _ _ (0 + 1) _ _ _
                  refine wpAnyH_lone (k := 10) (o := ?op16_51) (by kernel_rfl) ?hop16_51 ?hhp16_51
                  case hop16_51 => (simp only [List.getElem?_toArray, List.getElem?_cons_zero, List.getElem?_cons_succ]; rfl)
                  intro KK16_51 hK16_51
                  rw [if_pos (by rfl)]
                  clear x0 x1 x2 y0 y1 y2
                  obtain ⟨x0, x1, y0, y1, xs⟩ := cells2 XZ
                  go_simp
                  refine hK16_51.out _ _ ((hh16_50.set (.inr hbF16_3) _).set (.inr hbF16_3) _) (fun hh16_51 => ?_)
                  clear hK16_51 KK16_51
                  have XY := blk_set (blk_set XZ 0 (.int .i64 k1)) 1 (.int .i64 a1)
                  generalize (wz.setCell ⟨bF16_3, 0, none⟩ _).setCell ⟨bF16_3, 1, none⟩ _ = wy at *
                  refine wpAnyH_done (by kernel_rfl) ?_ _
                  go_wp2
                  go_meet
                  exact ⟨_, rfl, XY, hh16_51⟩
              case hhp16_48 =>
                intro KK16_48 hK16_48
                rw [if_pos (by rfl)]
                go_simp
                have XA16_48 := blk_new w16_45 (.cells #[.int .i64 0, .slice none 0 0, .slice none 0 0] 25)
                have KS16_48 := KS16_45.alloc (.cells #[.int .i64 0, .slice none 0 0, .slice none 0 0] 25)
                have hbA16_48 : wc.heap.size ≤ w16_45.heap.size := KS16_45.size
                have hneA16_48 : w16_45.heap.size ≠ g16_45 := by have := blk_lt M16_45; omega
                have M16_48 := blk_alloc M16_45 (.cells #[.int .i64 0, .slice none 0 0, .slice none 0 0] 25)
                have hAF16_48 : w16_45.heap.size ≠ bF16_3 := by have := blk_lt XF16_45; omega
                have XF16_48 := blk_alloc XF16_45 (.cells #[.int .i64 0, .slice none 0 0, .slice none 0 0] 25)
                refine hK16_48.out _ _ KS16_48 (fun hh16_48 => ?_)
                clear hK16_48 KK16_48 hh16_48
                generalize w16_45.alloc (.cells #[.int .i64 0, .slice none 0 0, .slice none 0 0] 25) = w16_48 at *
                generalize w16_45.heap.size = bA16_48 at *
                change wpAnyH _ _ _ _ _ (5 + 1) _ _ _
                refine wpAnyH_lone (k := 3) (o := ?op16_52) (by kernel_rfl) ?hop16_52 ?hhp16_52
                case hop16_52 => (simp only [List.getElem?_toArray, List.getElem?_cons_zero, List.getElem?_cons_succ]; rfl)
                case hhp16_52 =>
                  intro KK16_52 hK16_52
                  rw [if_pos (by rfl)]
                  go_simp
                  refine (GT16 _ _ M16_48).mono ?_
                  rintro e w16_52 ⟨A16_52, c16_52, B16_52, d16_52, rfl, KG16_52⟩
                  go_wp2_with fail
                  have KS16_52 : Keep [] wc w16_52 := KS16_48.then (S := []) KG16_52 (by simpa using hgb16_45)
                  have XA16_52 := KG16_52.blk XA16_48 (by simpa using hneA16_48)
                  have XF16_52 := KG16_52.blk XF16_48 (by simpa using hneF16_45)
                  refine hK16_52.out _ _ KS16_52 (fun hh16_52 => ?_)
                  clear hK16_52 KK16_52 hh16_52
                  change wpAnyH _ _ _ _ _ (3 + 2) _ _ _
                  refine anyH_seg 4 3 2 (by simp) (by kernel_rfl) (by kernel_rfl) (fun _ _ d _ _ h => by cases d <;> exact h) KS16_52 ?_
                  simp only [List.drop_succ_cons, List.drop_zero, List.take_succ_cons, List.take_zero]
                  repeat (refine heldL_yes (v := ?_) rfl (fun w hSw => ?_) ?_; rotate_left; (skip; go_simp; (try with_reducible rfl)); (try simp only [Act.put, List.setIfInBounds_toArray, List.set_cons_zero, List.set_cons_succ]))
                  refine heldL_nil ?_
                  change wpAnyH _ _ _ _ _ (1 + 1) _ _ _
                  refine wpAnyH_lone (k := 9) (o := ?op16_53) (by kernel_rfl) ?hop16_53 ?hhp16_53
                  case hop16_53 => (simp only [List.getElem?_toArray, List.getElem?_cons_zero, List.getElem?_cons_succ]; rfl)
                  intro KK16_53 hK16_53
                  rw [if_pos (by rfl)]
                  obtain ⟨x0, x1, x2, y0, y1, y2, ys⟩ := cells3 XA16_52
                  go_simp
                  refine hK16_53.out _ _ (((KS16_52.set (.inr hbA16_48) _).set (.inr hbA16_48) _).set (.inr hbA16_48) _) (fun hh16_53 => ?_)
                  clear hK16_53 KK16_53
                  generalize hwz : ((w16_52.setCell ⟨bA16_48, 0, none⟩ _).setCell ⟨bA16_48, 1, none⟩ _).setCell ⟨bA16_48, 2, none⟩ _ = wz at *
                  have XZ : wz.heap[bF16_3]? = some (.cells #[.int .i64 0, .int .i64 0] 60 (0, 0)) := by rw [← hwz]; exact blk_far (blk_far (blk_far XF16_52 (p := ⟨bA16_48, 0, none⟩) (Ne.symm hAF16_48) _) (p := ⟨bA16_48, 1, none⟩) (Ne.symm hAF16_48) _) (p := ⟨bA16_48, 2, none⟩) (Ne.symm hAF16_48) _
                  clear hwz
                  change wpAnyH _ _ _ _ _ (0 + 1) _ _ _
                  refine wpAnyH_lone (k := 10) (o := ?op16_54) (by kernel_rfl) ?hop16_54 ?hhp16_54
                  case hop16_54 => (simp only [List.getElem?_toArray, List.getElem?_cons_zero, List.getElem?_cons_succ]; rfl)
                  intro KK16_54 hK16_54
                  rw [if_pos (by rfl)]
                  clear x0 x1 x2 y0 y1 y2
                  obtain ⟨x0, x1, y0, y1, xs⟩ := cells2 XZ
                  go_simp
                  refine hK16_54.out _ _ ((hh16_53.set (.inr hbF16_3) _).set (.inr hbF16_3) _) (fun hh16_54 => ?_)
                  clear hK16_54 KK16_54
                  have XY := blk_set (blk_set XZ 0 (.int .i64 k1)) 1 (.int .i64 a1)
                  generalize (wz.setCell ⟨bF16_3, 0, none⟩ _).setCell ⟨bF16_3, 1, none⟩ _ = wy at *
                  refine wpAnyH_done (by kernel_rfl) ?_ _
                  go_wp2
                  go_meet
                  exact ⟨_, rfl, XY, hh16_54⟩
            case hhp16_46 =>
              intro KK16_46 hK16_46
              rw [if_pos (by rfl)]
              go_simp
              have XA16_46 := blk_new w16_3 (.cells #[.int .i64 0, .slice none 0 0, .slice none 0 0] 25)
              have KS16_46 := KS16_3.alloc (.cells #[.int .i64 0, .slice none 0 0, .slice none 0 0] 25)
              have hbA16_46 : wc.heap.size ≤ w16_3.heap.size := KS16_3.size
              have hAF16_46 : w16_3.heap.size ≠ bF16_3 := by have := blk_lt XF16_3; omega
              have XF16_46 := blk_alloc XF16_3 (.cells #[.int .i64 0, .slice none 0 0, .slice none 0 0] 25)
              refine hK16_46.out _ _ KS16_46 (fun hh16_46 => ?_)
              clear hK16_46 KK16_46 hh16_46
              generalize w16_3.alloc (.cells #[.int .i64 0, .slice none 0 0, .slice none 0 0] 25) = w16_46 at *
              generalize w16_3.heap.size = bA16_46 at *
              change wpAnyH _ _ _ _ _ (6 + 1) _ _ _
              refine wpAnyH_lone (k := 0) (o := ?op16_55) (by kernel_rfl) ?hop16_55 ?hhp16_55
              case hop16_55 => (simp only [List.getElem?_toArray, List.getElem?_cons_zero, List.getElem?_cons_succ]; rfl)
              case hhp16_55 =>
                intro KK16_55 hK16_55
                rw [if_pos (by rfl)]
                go_simp
                refine (great_any _).mono ?_
                rintro e w16_55 ⟨g16_55, rfl, hg16_55, M16_55, KG16_55⟩
                go_wp2_with fail
                have KS16_55 := KS16_46.trans KG16_55
                have hgb16_55 := Nat.le_trans KS16_46.size hg16_55
                have hneA16_55 : bA16_46 ≠ g16_55 := by have := blk_lt XA16_46; omega
                have XA16_55 := KG16_55.blk XA16_46 (by simp)
                have hneF16_55 : bF16_3 ≠ g16_55 := by have := blk_lt XF16_46; omega
                have XF16_55 := KG16_55.blk XF16_46 (by simp)
                refine hK16_55.out _ _ KS16_55 (fun hh16_55 => ?_)
                clear hK16_55 KK16_55 hh16_55
                change wpAnyH _ _ _ _ _ (5 + 1) _ _ _
                refine wpAnyH_lone (k := 3) (o := ?op16_56) (by kernel_rfl) ?hop16_56 ?hhp16_56
                case hop16_56 => (simp only [List.getElem?_toArray, List.getElem?_cons_zero, List.getElem?_cons_succ]; rfl)
                case hhp16_56 =>
                  intro KK16_56 hK16_56
                  rw [if_pos (by rfl)]
                  go_simp
                  refine (GT16 _ _ M16_55).mono ?_
                  rintro e w16_56 ⟨A16_56, c16_56, B16_56, d16_56, rfl, KG16_56⟩
                  go_wp2_with fail
                  have KS16_56 : Keep [] wc w16_56 := KS16_55.then (S := []) KG16_56 (by simpa using hgb16_55)
                  have XA16_56 := KG16_56.blk XA16_55 (by simpa using hneA16_55)
                  have XF16_56 := KG16_56.blk XF16_55 (by simpa using hneF16_55)
                  refine hK16_56.out _ _ KS16_56 (fun hh16_56 => ?_)
                  clear hK16_56 KK16_56 hh16_56
                  change wpAnyH _ _ _ _ _ (3 + 2) _ _ _
                  refine anyH_seg 4 3 2 (by simp) (by kernel_rfl) (by kernel_rfl) (fun _ _ d _ _ h => by cases d <;> exact h) KS16_56 ?_
                  simp only [List.drop_succ_cons, List.drop_zero, List.take_succ_cons, List.take_zero]
                  repeat (refine heldL_yes (v := ?_) rfl (fun w hSw => ?_) ?_; rotate_left; (skip; go_simp; (try with_reducible rfl)); (try simp only [Act.put, List.setIfInBounds_toArray, List.set_cons_zero, List.set_cons_succ]))
                  refine heldL_nil ?_
                  change wpAnyH _ _ _ _ _ (1 + 1) _ _ _
                  refine wpAnyH_lone (k := 9) (o := ?op16_57) (by kernel_rfl) ?hop16_57 ?hhp16_57
                  case hop16_57 => (simp only [List.getElem?_toArray, List.getElem?_cons_zero, List.getElem?_cons_succ]; rfl)
                  intro KK16_57 hK16_57
                  rw [if_pos (by rfl)]
                  obtain ⟨x0, x1, x2, y0, y1, y2, ys⟩ := cells3 XA16_56
                  go_simp
                  refine hK16_57.out _ _ (((KS16_56.set (.inr hbA16_46) _).set (.inr hbA16_46) _).set (.inr hbA16_46) _) (fun hh16_57 => ?_)
                  clear hK16_57 KK16_57
                  generalize hwz : ((w16_56.setCell ⟨bA16_46, 0, none⟩ _).setCell ⟨bA16_46, 1, none⟩ _).setCell ⟨bA16_46, 2, none⟩ _ = wz at *
                  have XZ : wz.heap[bF16_3]? = some (.cells #[.int .i64 0, .int .i64 0] 60 (0, 0)) := by rw [← hwz]; exact blk_far (blk_far (blk_far XF16_56 (p := ⟨bA16_46, 0, none⟩) (Ne.symm hAF16_46) _) (p := ⟨bA16_46, 1, none⟩) (Ne.symm hAF16_46) _) (p := ⟨bA16_46, 2, none⟩) (Ne.symm hAF16_46) _
                  clear hwz
                  change wpAnyH _ _ _ _ _ (0 + 1) _ _ _
                  refine wpAnyH_lone (k := 10) (o := ?op16_58) (by kernel_rfl) ?hop16_58 ?hhp16_58
                  case hop16_58 => (simp only [List.getElem?_toArray, List.getElem?_cons_zero, List.getElem?_cons_succ]; rfl)
                  intro KK16_58 hK16_58
                  rw [if_pos (by rfl)]
                  clear x0 x1 x2 y0 y1 y2
                  obtain ⟨x0, x1, y0, y1, xs⟩ := cells2 XZ
                  go_simp
                  refine hK16_58.out _ _ ((hh16_57.set (.inr hbF16_3) _).set (.inr hbF16_3) _) (fun hh16_58 => ?_)
                  clear hK16_58 KK16_58
                  have XY := blk_set (blk_set XZ 0 (.int .i64 k1)) 1 (.int .i64 a1)
                  generalize (wz.setCell ⟨bF16_3, 0, none⟩ _).setCell ⟨bF16_3, 1, none⟩ _ = wy at *
                  refine wpAnyH_done (by kernel_rfl) ?_ _
                  go_wp2
                  go_meet
                  exact ⟨_, rfl, XY, hh16_58⟩
        case rest =>
          obtain ⟨b12, rfl, X12, K6⟩ := hcut
          have B3 := B2.old K6 (by simp)
          have K7 := K5.trans K6
          clear GT16 B2 K5 K6 hbl5
          have hex : T.extract 0 p = SB (L.take p) := by rw [HT.out]; exact SB_take L p
          have GT17 : ∀ g W, IsM W g (MS.new 1152921504606846976 1152921504606846976) → Calls Try.prog 29 #[.pointer (some ⟨g, 0, none⟩), .string (T.extract 0 p)] W fun e w' => ∃ A c B d, e = .returned (.tuple #[.agg #[.int .i64 0, .slice A 0 c, .slice B 0 d], .agg #[.int .i64 60, .int .i64 p]]) ∧ Keep [g] W w' := fun g W hm => by
            rw [hex]
            exact get_fault (fun v hv => hall v (List.mem_of_mem_take hv)) (by rw [List.length_take]; omega) (RC p hpn) g W hm
          clear hex
          have hps : p ≤ n := by omega
          go_upto_region 17 with (fail)
          go_cut [13, 14] from 79 to 86 (fun _ v14 we => ∃ b14, v14 = .pointer (some ⟨b14, 0, none⟩) ∧ we.heap[b14]? = some (.cells #[.int .i64 60, .int .i64 p] 60 (0, 0)) ∧ Keep [] wc we)
          case first =>
            clear RC RL RT hT0 hT1 e3 hn0 ha1 ha2 hp hpos hr1 hk1' ha1' hx hgc B3 K7 ha hb0 HT hyx hall
            refine wp_region_held_lex 0 (fun w' => Keep [] wc w') (by kernel_rfl) (by simp) (by kernel_rfl) (by kernel_rfl) (fun _ _ d _ _ h => by cases d <;> exact h) (Keep.refl _ _).drew ?_
            simp only [List.take_zero]
            refine heldL_nil ?_
            have KS17 : Keep [] wc wc.drew := (Keep.refl _ _).drew
            generalize wc.drew = wx17 at *
            change wpAnyH _ _ _ _ _ (3 + 9) _ _ _
            refine anyH_seg 1 3 9 (by simp) (by kernel_rfl) (by kernel_rfl) (fun _ _ d _ _ h => by cases d <;> exact h) KS17 ?_
            simp only [List.drop_succ_cons, List.drop_zero, List.take_succ_cons, List.take_zero]
            repeat (refine heldL_yes (v := ?_) rfl (fun w hSw => ?_) ?_; rotate_left; (skip; go_simp; (try with_reducible rfl)); (try simp only [Act.put, List.setIfInBounds_toArray, List.set_cons_zero, List.set_cons_succ]))
            refine heldL_nil ?_
            change wpAnyH _ _ _ _ _ (8 + 1) _ _ _
            refine wpAnyH_three (i := 0) (j := 8) (k := 9) (o1 := ?op17_1) (o2 := ?op17_2) (o3 := ?op17_3) (by kernel_rfl) ?hop17_1 ?hop17_2 ?hop17_3 ?hhp17_1 ?hhp17_2 ?hhp17_3
            case hop17_1 => (simp only [List.getElem?_toArray, List.getElem?_cons_zero, List.getElem?_cons_succ]; rfl)
            case hop17_2 => (simp only [List.getElem?_toArray, List.getElem?_cons_zero, List.getElem?_cons_succ]; rfl)
            case hop17_3 => (simp only [List.getElem?_toArray, List.getElem?_cons_zero, List.getElem?_cons_succ]; rfl)
            case hhp17_1 =>
              intro KK17_1 hK17_1
              rw [if_pos (by rfl)]
              go_simp
              refine (great_any _).mono ?_
              rintro e w17_1 ⟨g17_1, rfl, hg17_1, M17_1, KG17_1⟩
              go_wp2_with fail
              have KS17_1 := KS17.trans KG17_1
              have hgb17_1 := Nat.le_trans KS17.size hg17_1
              refine hK17_1.out _ _ KS17_1 (fun hh17_1 => ?_)
              clear hK17_1 KK17_1 hh17_1
              change wpAnyH _ _ _ _ _ (7 + 1) _ _ _
              refine wpAnyH_three (i := 4) (j := 8) (k := 9) (o1 := ?op17_4) (o2 := ?op17_5) (o3 := ?op17_6) (by kernel_rfl) ?hop17_4 ?hop17_5 ?hop17_6 ?hhp17_4 ?hhp17_5 ?hhp17_6
              case hop17_4 => (simp only [List.getElem?_toArray, List.getElem?_cons_zero, List.getElem?_cons_succ]; rfl)
              case hop17_5 => (simp only [List.getElem?_toArray, List.getElem?_cons_zero, List.getElem?_cons_succ]; rfl)
              case hop17_6 => (simp only [List.getElem?_toArray, List.getElem?_cons_zero, List.getElem?_cons_succ]; rfl)
              case hhp17_4 =>
                intro KK17_4 hK17_4
                rw [if_pos (by rfl)]
                go_simp
                refine (GT17 _ _ M17_1).mono ?_
                rintro e w17_4 ⟨A17_4, c17_4, B17_4, d17_4, rfl, KG17_4⟩
                go_wp2_with fail
                have KS17_4 : Keep [] wc w17_4 := KS17_1.then (S := []) KG17_4 (by simpa using hgb17_1)
                refine hK17_4.out _ _ KS17_4 (fun hh17_4 => ?_)
                clear hK17_4 KK17_4 hh17_4
                change wpAnyH _ _ _ _ _ (3 + 4) _ _ _
                refine anyH_seg 5 3 4 (by simp) (by kernel_rfl) (by kernel_rfl) (fun _ _ d _ _ h => by cases d <;> exact h) KS17_4 ?_
                simp only [List.drop_succ_cons, List.drop_zero, List.take_succ_cons, List.take_zero]
                repeat (refine heldL_yes (v := ?_) rfl (fun w hSw => ?_) ?_; rotate_left; (skip; go_simp; (try with_reducible rfl)); (try simp only [Act.put, List.setIfInBounds_toArray, List.set_cons_zero, List.set_cons_succ]))
                refine heldL_nil ?_
                change wpAnyH _ _ _ _ _ (3 + 1) _ _ _
                refine wpAnyH_two (i := 8) (j := 9) (o1 := ?op17_7) (o2 := ?op17_8) (by kernel_rfl) ?hop17_7 ?hop17_8 ?hhp17_7 ?hhp17_8
                case hop17_7 => (simp only [List.getElem?_toArray, List.getElem?_cons_zero, List.getElem?_cons_succ]; rfl)
                case hop17_8 => (simp only [List.getElem?_toArray, List.getElem?_cons_zero, List.getElem?_cons_succ]; rfl)
                case hhp17_7 =>
                  intro KK17_7 hK17_7
                  rw [if_pos (by rfl)]
                  go_simp
                  have XA17_7 := blk_new w17_4 (.cells #[.int .i64 0, .slice none 0 0, .slice none 0 0] 25)
                  have KS17_7 := KS17_4.alloc (.cells #[.int .i64 0, .slice none 0 0, .slice none 0 0] 25)
                  have hbA17_7 : wc.heap.size ≤ w17_4.heap.size := KS17_4.size
                  refine hK17_7.out _ _ KS17_7 (fun hh17_7 => ?_)
                  clear hK17_7 KK17_7 hh17_7
                  generalize w17_4.alloc (.cells #[.int .i64 0, .slice none 0 0, .slice none 0 0] 25) = w17_7 at *
                  generalize w17_4.heap.size = bA17_7 at *
                  change wpAnyH _ _ _ _ _ (2 + 1) _ _ _
                  refine wpAnyH_lone (k := 9) (o := ?op17_9) (by kernel_rfl) ?hop17_9 ?hhp17_9
                  case hop17_9 => (simp only [List.getElem?_toArray, List.getElem?_cons_zero, List.getElem?_cons_succ]; rfl)
                  case hhp17_9 =>
                    intro KK17_9 hK17_9
                    rw [if_pos (by rfl)]
                    go_simp
                    have XF17_9 := blk_new w17_7 (.cells #[.int .i64 0, .int .i64 0] 60)
                    have KS17_9 := KS17_7.alloc (.cells #[.int .i64 0, .int .i64 0] 60)
                    have hbF17_9 : wc.heap.size ≤ w17_7.heap.size := KS17_7.size
                    have hAF17_9 : w17_7.heap.size ≠ bA17_7 := by have := blk_lt XA17_7; omega
                    have XA17_9 := blk_alloc XA17_7 (.cells #[.int .i64 0, .int .i64 0] 60)
                    refine hK17_9.out _ _ KS17_9 (fun hh17_9 => ?_)
                    clear hK17_9 KK17_9 hh17_9
                    generalize w17_7.alloc (.cells #[.int .i64 0, .int .i64 0] 60) = w17_9 at *
                    generalize w17_7.heap.size = bF17_9 at *
                    change wpAnyH _ _ _ _ _ (1 + 1) _ _ _
                    refine wpAnyH_lone (k := 10) (o := ?op17_10) (by kernel_rfl) ?hop17_10 ?hhp17_10
                    case hop17_10 => (simp only [List.getElem?_toArray, List.getElem?_cons_zero, List.getElem?_cons_succ]; rfl)
                    intro KK17_10 hK17_10
                    rw [if_pos (by rfl)]
                    obtain ⟨x0, x1, x2, y0, y1, y2, ys⟩ := cells3 XA17_9
                    go_simp
                    refine hK17_10.out _ _ (((KS17_9.set (.inr hbA17_7) _).set (.inr hbA17_7) _).set (.inr hbA17_7) _) (fun hh17_10 => ?_)
                    clear hK17_10 KK17_10
                    generalize hwz : ((w17_9.setCell ⟨bA17_7, 0, none⟩ _).setCell ⟨bA17_7, 1, none⟩ _).setCell ⟨bA17_7, 2, none⟩ _ = wz at *
                    have XZ : wz.heap[bF17_9]? = some (.cells #[.int .i64 0, .int .i64 0] 60 (0, 0)) := by rw [← hwz]; exact blk_far (blk_far (blk_far XF17_9 (p := ⟨bA17_7, 0, none⟩) (Ne.symm (Ne.symm hAF17_9)) _) (p := ⟨bA17_7, 1, none⟩) (Ne.symm (Ne.symm hAF17_9)) _) (p := ⟨bA17_7, 2, none⟩) (Ne.symm (Ne.symm hAF17_9)) _
                    clear hwz
                    change wpAnyH _ _ _ _ _ (0 + 1) _ _ _
                    refine wpAnyH_lone (k := 11) (o := ?op17_11) (by kernel_rfl) ?hop17_11 ?hhp17_11
                    case hop17_11 => (simp only [List.getElem?_toArray, List.getElem?_cons_zero, List.getElem?_cons_succ]; rfl)
                    intro KK17_11 hK17_11
                    rw [if_pos (by rfl)]
                    clear x0 x1 x2 y0 y1 y2
                    obtain ⟨x0, x1, y0, y1, xs⟩ := cells2 XZ
                    go_simp
                    refine hK17_11.out _ _ ((hh17_10.set (.inr hbF17_9) _).set (.inr hbF17_9) _) (fun hh17_11 => ?_)
                    clear hK17_11 KK17_11
                    have XY := blk_set (blk_set XZ 0 (.int .i64 60)) 1 (.int .i64 p)
                    generalize (wz.setCell ⟨bF17_9, 0, none⟩ _).setCell ⟨bF17_9, 1, none⟩ _ = wy at *
                    refine wpAnyH_done (by kernel_rfl) ?_ _
                    go_wp2
                    go_meet
                    exact ⟨_, rfl, XY, hh17_11⟩
                case hhp17_8 =>
                  intro KK17_8 hK17_8
                  rw [if_pos (by rfl)]
                  go_simp
                  have XF17_8 := blk_new w17_4 (.cells #[.int .i64 0, .int .i64 0] 60)
                  have KS17_8 := KS17_4.alloc (.cells #[.int .i64 0, .int .i64 0] 60)
                  have hbF17_8 : wc.heap.size ≤ w17_4.heap.size := KS17_4.size
                  refine hK17_8.out _ _ KS17_8 (fun hh17_8 => ?_)
                  clear hK17_8 KK17_8 hh17_8
                  generalize w17_4.alloc (.cells #[.int .i64 0, .int .i64 0] 60) = w17_8 at *
                  generalize w17_4.heap.size = bF17_8 at *
                  change wpAnyH _ _ _ _ _ (2 + 1) _ _ _
                  refine wpAnyH_lone (k := 8) (o := ?op17_12) (by kernel_rfl) ?hop17_12 ?hhp17_12
                  case hop17_12 => (simp only [List.getElem?_toArray, List.getElem?_cons_zero, List.getElem?_cons_succ]; rfl)
                  case hhp17_12 =>
                    intro KK17_12 hK17_12
                    rw [if_pos (by rfl)]
                    go_simp
                    have XA17_12 := blk_new w17_8 (.cells #[.int .i64 0, .slice none 0 0, .slice none 0 0] 25)
                    have KS17_12 := KS17_8.alloc (.cells #[.int .i64 0, .slice none 0 0, .slice none 0 0] 25)
                    have hbA17_12 : wc.heap.size ≤ w17_8.heap.size := KS17_8.size
                    have hAF17_12 : w17_8.heap.size ≠ bF17_8 := by have := blk_lt XF17_8; omega
                    have XF17_12 := blk_alloc XF17_8 (.cells #[.int .i64 0, .slice none 0 0, .slice none 0 0] 25)
                    refine hK17_12.out _ _ KS17_12 (fun hh17_12 => ?_)
                    clear hK17_12 KK17_12 hh17_12
                    generalize w17_8.alloc (.cells #[.int .i64 0, .slice none 0 0, .slice none 0 0] 25) = w17_12 at *
                    generalize w17_8.heap.size = bA17_12 at *
                    change wpAnyH _ _ _ _ _ (1 + 1) _ _ _
                    refine wpAnyH_lone (k := 10) (o := ?op17_13) (by kernel_rfl) ?hop17_13 ?hhp17_13
                    case hop17_13 => (simp only [List.getElem?_toArray, List.getElem?_cons_zero, List.getElem?_cons_succ]; rfl)
                    intro KK17_13 hK17_13
                    rw [if_pos (by rfl)]
                    obtain ⟨x0, x1, x2, y0, y1, y2, ys⟩ := cells3 XA17_12
                    go_simp
                    refine hK17_13.out _ _ (((KS17_12.set (.inr hbA17_12) _).set (.inr hbA17_12) _).set (.inr hbA17_12) _) (fun hh17_13 => ?_)
                    clear hK17_13 KK17_13
                    generalize hwz : ((w17_12.setCell ⟨bA17_12, 0, none⟩ _).setCell ⟨bA17_12, 1, none⟩ _).setCell ⟨bA17_12, 2, none⟩ _ = wz at *
                    have XZ : wz.heap[bF17_8]? = some (.cells #[.int .i64 0, .int .i64 0] 60 (0, 0)) := by rw [← hwz]; exact blk_far (blk_far (blk_far XF17_12 (p := ⟨bA17_12, 0, none⟩) (Ne.symm hAF17_12) _) (p := ⟨bA17_12, 1, none⟩) (Ne.symm hAF17_12) _) (p := ⟨bA17_12, 2, none⟩) (Ne.symm hAF17_12) _
                    clear hwz
                    change wpAnyH _ _ _ _ _ (0 + 1) _ _ _
                    refine wpAnyH_lone (k := 11) (o := ?op17_14) (by kernel_rfl) ?hop17_14 ?hhp17_14
                    case hop17_14 => (simp only [List.getElem?_toArray, List.getElem?_cons_zero, List.getElem?_cons_succ]; rfl)
                    intro KK17_14 hK17_14
                    rw [if_pos (by rfl)]
                    clear x0 x1 x2 y0 y1 y2
                    obtain ⟨x0, x1, y0, y1, xs⟩ := cells2 XZ
                    go_simp
                    refine hK17_14.out _ _ ((hh17_13.set (.inr hbF17_8) _).set (.inr hbF17_8) _) (fun hh17_14 => ?_)
                    clear hK17_14 KK17_14
                    have XY := blk_set (blk_set XZ 0 (.int .i64 60)) 1 (.int .i64 p)
                    generalize (wz.setCell ⟨bF17_8, 0, none⟩ _).setCell ⟨bF17_8, 1, none⟩ _ = wy at *
                    refine wpAnyH_done (by kernel_rfl) ?_ _
                    go_wp2
                    go_meet
                    exact ⟨_, rfl, XY, hh17_14⟩
              case hhp17_5 =>
                intro KK17_5 hK17_5
                rw [if_pos (by rfl)]
                go_simp
                have XA17_5 := blk_new w17_1 (.cells #[.int .i64 0, .slice none 0 0, .slice none 0 0] 25)
                have KS17_5 := KS17_1.alloc (.cells #[.int .i64 0, .slice none 0 0, .slice none 0 0] 25)
                have hbA17_5 : wc.heap.size ≤ w17_1.heap.size := KS17_1.size
                have hneA17_5 : w17_1.heap.size ≠ g17_1 := by have := blk_lt M17_1; omega
                have M17_5 := blk_alloc M17_1 (.cells #[.int .i64 0, .slice none 0 0, .slice none 0 0] 25)
                refine hK17_5.out _ _ KS17_5 (fun hh17_5 => ?_)
                clear hK17_5 KK17_5 hh17_5
                generalize w17_1.alloc (.cells #[.int .i64 0, .slice none 0 0, .slice none 0 0] 25) = w17_5 at *
                generalize w17_1.heap.size = bA17_5 at *
                change wpAnyH _ _ _ _ _ (6 + 1) _ _ _
                refine wpAnyH_two (i := 4) (j := 9) (o1 := ?op17_15) (o2 := ?op17_16) (by kernel_rfl) ?hop17_15 ?hop17_16 ?hhp17_15 ?hhp17_16
                case hop17_15 => (simp only [List.getElem?_toArray, List.getElem?_cons_zero, List.getElem?_cons_succ]; rfl)
                case hop17_16 => (simp only [List.getElem?_toArray, List.getElem?_cons_zero, List.getElem?_cons_succ]; rfl)
                case hhp17_15 =>
                  intro KK17_15 hK17_15
                  rw [if_pos (by rfl)]
                  go_simp
                  refine (GT17 _ _ M17_5).mono ?_
                  rintro e w17_15 ⟨A17_15, c17_15, B17_15, d17_15, rfl, KG17_15⟩
                  go_wp2_with fail
                  have KS17_15 : Keep [] wc w17_15 := KS17_5.then (S := []) KG17_15 (by simpa using hgb17_1)
                  have XA17_15 := KG17_15.blk XA17_5 (by simpa using hneA17_5)
                  refine hK17_15.out _ _ KS17_15 (fun hh17_15 => ?_)
                  clear hK17_15 KK17_15 hh17_15
                  change wpAnyH _ _ _ _ _ (3 + 3) _ _ _
                  refine anyH_seg 5 3 3 (by simp) (by kernel_rfl) (by kernel_rfl) (fun _ _ d _ _ h => by cases d <;> exact h) KS17_15 ?_
                  simp only [List.drop_succ_cons, List.drop_zero, List.take_succ_cons, List.take_zero]
                  repeat (refine heldL_yes (v := ?_) rfl (fun w hSw => ?_) ?_; rotate_left; (skip; go_simp; (try with_reducible rfl)); (try simp only [Act.put, List.setIfInBounds_toArray, List.set_cons_zero, List.set_cons_succ]))
                  refine heldL_nil ?_
                  change wpAnyH _ _ _ _ _ (2 + 1) _ _ _
                  refine wpAnyH_lone (k := 9) (o := ?op17_17) (by kernel_rfl) ?hop17_17 ?hhp17_17
                  case hop17_17 => (simp only [List.getElem?_toArray, List.getElem?_cons_zero, List.getElem?_cons_succ]; rfl)
                  case hhp17_17 =>
                    intro KK17_17 hK17_17
                    rw [if_pos (by rfl)]
                    go_simp
                    have XF17_17 := blk_new w17_15 (.cells #[.int .i64 0, .int .i64 0] 60)
                    have KS17_17 := KS17_15.alloc (.cells #[.int .i64 0, .int .i64 0] 60)
                    have hbF17_17 : wc.heap.size ≤ w17_15.heap.size := KS17_15.size
                    have hAF17_17 : w17_15.heap.size ≠ bA17_5 := by have := blk_lt XA17_15; omega
                    have XA17_17 := blk_alloc XA17_15 (.cells #[.int .i64 0, .int .i64 0] 60)
                    refine hK17_17.out _ _ KS17_17 (fun hh17_17 => ?_)
                    clear hK17_17 KK17_17 hh17_17
                    generalize w17_15.alloc (.cells #[.int .i64 0, .int .i64 0] 60) = w17_17 at *
                    generalize w17_15.heap.size = bF17_17 at *
                    change wpAnyH _ _ _ _ _ (1 + 1) _ _ _
                    refine wpAnyH_lone (k := 10) (o := ?op17_18) (by kernel_rfl) ?hop17_18 ?hhp17_18
                    case hop17_18 => (simp only [List.getElem?_toArray, List.getElem?_cons_zero, List.getElem?_cons_succ]; rfl)
                    intro KK17_18 hK17_18
                    rw [if_pos (by rfl)]
                    obtain ⟨x0, x1, x2, y0, y1, y2, ys⟩ := cells3 XA17_17
                    go_simp
                    refine hK17_18.out _ _ (((KS17_17.set (.inr hbA17_5) _).set (.inr hbA17_5) _).set (.inr hbA17_5) _) (fun hh17_18 => ?_)
                    clear hK17_18 KK17_18
                    generalize hwz : ((w17_17.setCell ⟨bA17_5, 0, none⟩ _).setCell ⟨bA17_5, 1, none⟩ _).setCell ⟨bA17_5, 2, none⟩ _ = wz at *
                    have XZ : wz.heap[bF17_17]? = some (.cells #[.int .i64 0, .int .i64 0] 60 (0, 0)) := by rw [← hwz]; exact blk_far (blk_far (blk_far XF17_17 (p := ⟨bA17_5, 0, none⟩) (Ne.symm (Ne.symm hAF17_17)) _) (p := ⟨bA17_5, 1, none⟩) (Ne.symm (Ne.symm hAF17_17)) _) (p := ⟨bA17_5, 2, none⟩) (Ne.symm (Ne.symm hAF17_17)) _
                    clear hwz
                    change wpAnyH _ _ _ _ _ (0 + 1) _ _ _
                    refine wpAnyH_lone (k := 11) (o := ?op17_19) (by kernel_rfl) ?hop17_19 ?hhp17_19
                    case hop17_19 => (simp only [List.getElem?_toArray, List.getElem?_cons_zero, List.getElem?_cons_succ]; rfl)
                    intro KK17_19 hK17_19
                    rw [if_pos (by rfl)]
                    clear x0 x1 x2 y0 y1 y2
                    obtain ⟨x0, x1, y0, y1, xs⟩ := cells2 XZ
                    go_simp
                    refine hK17_19.out _ _ ((hh17_18.set (.inr hbF17_17) _).set (.inr hbF17_17) _) (fun hh17_19 => ?_)
                    clear hK17_19 KK17_19
                    have XY := blk_set (blk_set XZ 0 (.int .i64 60)) 1 (.int .i64 p)
                    generalize (wz.setCell ⟨bF17_17, 0, none⟩ _).setCell ⟨bF17_17, 1, none⟩ _ = wy at *
                    refine wpAnyH_done (by kernel_rfl) ?_ _
                    go_wp2
                    go_meet
                    exact ⟨_, rfl, XY, hh17_19⟩
                case hhp17_16 =>
                  intro KK17_16 hK17_16
                  rw [if_pos (by rfl)]
                  go_simp
                  have XF17_16 := blk_new w17_5 (.cells #[.int .i64 0, .int .i64 0] 60)
                  have KS17_16 := KS17_5.alloc (.cells #[.int .i64 0, .int .i64 0] 60)
                  have hbF17_16 : wc.heap.size ≤ w17_5.heap.size := KS17_5.size
                  have hneF17_16 : w17_5.heap.size ≠ g17_1 := by have := blk_lt M17_5; omega
                  have M17_16 := blk_alloc M17_5 (.cells #[.int .i64 0, .int .i64 0] 60)
                  have hAF17_16 : w17_5.heap.size ≠ bA17_5 := by have := blk_lt XA17_5; omega
                  have XA17_16 := blk_alloc XA17_5 (.cells #[.int .i64 0, .int .i64 0] 60)
                  refine hK17_16.out _ _ KS17_16 (fun hh17_16 => ?_)
                  clear hK17_16 KK17_16 hh17_16
                  generalize w17_5.alloc (.cells #[.int .i64 0, .int .i64 0] 60) = w17_16 at *
                  generalize w17_5.heap.size = bF17_16 at *
                  change wpAnyH _ _ _ _ _ (5 + 1) _ _ _
                  refine wpAnyH_lone (k := 4) (o := ?op17_20) (by kernel_rfl) ?hop17_20 ?hhp17_20
                  case hop17_20 => (simp only [List.getElem?_toArray, List.getElem?_cons_zero, List.getElem?_cons_succ]; rfl)
                  case hhp17_20 =>
                    intro KK17_20 hK17_20
                    rw [if_pos (by rfl)]
                    go_simp
                    refine (GT17 _ _ M17_16).mono ?_
                    rintro e w17_20 ⟨A17_20, c17_20, B17_20, d17_20, rfl, KG17_20⟩
                    go_wp2_with fail
                    have KS17_20 : Keep [] wc w17_20 := KS17_16.then (S := []) KG17_20 (by simpa using hgb17_1)
                    have XA17_20 := KG17_20.blk XA17_16 (by simpa using hneA17_5)
                    have XF17_20 := KG17_20.blk XF17_16 (by simpa using hneF17_16)
                    refine hK17_20.out _ _ KS17_20 (fun hh17_20 => ?_)
                    clear hK17_20 KK17_20 hh17_20
                    change wpAnyH _ _ _ _ _ (3 + 2) _ _ _
                    refine anyH_seg 5 3 2 (by simp) (by kernel_rfl) (by kernel_rfl) (fun _ _ d _ _ h => by cases d <;> exact h) KS17_20 ?_
                    simp only [List.drop_succ_cons, List.drop_zero, List.take_succ_cons, List.take_zero]
                    repeat (refine heldL_yes (v := ?_) rfl (fun w hSw => ?_) ?_; rotate_left; (skip; go_simp; (try with_reducible rfl)); (try simp only [Act.put, List.setIfInBounds_toArray, List.set_cons_zero, List.set_cons_succ]))
                    refine heldL_nil ?_
                    change wpAnyH _ _ _ _ _ (1 + 1) _ _ _
                    refine wpAnyH_lone (k := 10) (o := ?op17_21) (by kernel_rfl) ?hop17_21 ?hhp17_21
                    case hop17_21 => (simp only [List.getElem?_toArray, List.getElem?_cons_zero, List.getElem?_cons_succ]; rfl)
                    intro KK17_21 hK17_21
                    rw [if_pos (by rfl)]
                    obtain ⟨x0, x1, x2, y0, y1, y2, ys⟩ := cells3 XA17_20
                    go_simp
                    refine hK17_21.out _ _ (((KS17_20.set (.inr hbA17_5) _).set (.inr hbA17_5) _).set (.inr hbA17_5) _) (fun hh17_21 => ?_)
                    clear hK17_21 KK17_21
                    generalize hwz : ((w17_20.setCell ⟨bA17_5, 0, none⟩ _).setCell ⟨bA17_5, 1, none⟩ _).setCell ⟨bA17_5, 2, none⟩ _ = wz at *
                    have XZ : wz.heap[bF17_16]? = some (.cells #[.int .i64 0, .int .i64 0] 60 (0, 0)) := by rw [← hwz]; exact blk_far (blk_far (blk_far XF17_20 (p := ⟨bA17_5, 0, none⟩) (Ne.symm (Ne.symm hAF17_16)) _) (p := ⟨bA17_5, 1, none⟩) (Ne.symm (Ne.symm hAF17_16)) _) (p := ⟨bA17_5, 2, none⟩) (Ne.symm (Ne.symm hAF17_16)) _
                    clear hwz
                    change wpAnyH _ _ _ _ _ (0 + 1) _ _ _
                    refine wpAnyH_lone (k := 11) (o := ?op17_22) (by kernel_rfl) ?hop17_22 ?hhp17_22
                    case hop17_22 => (simp only [List.getElem?_toArray, List.getElem?_cons_zero, List.getElem?_cons_succ]; rfl)
                    intro KK17_22 hK17_22
                    rw [if_pos (by rfl)]
                    clear x0 x1 x2 y0 y1 y2
                    obtain ⟨x0, x1, y0, y1, xs⟩ := cells2 XZ
                    go_simp
                    refine hK17_22.out _ _ ((hh17_21.set (.inr hbF17_16) _).set (.inr hbF17_16) _) (fun hh17_22 => ?_)
                    clear hK17_22 KK17_22
                    have XY := blk_set (blk_set XZ 0 (.int .i64 60)) 1 (.int .i64 p)
                    generalize (wz.setCell ⟨bF17_16, 0, none⟩ _).setCell ⟨bF17_16, 1, none⟩ _ = wy at *
                    refine wpAnyH_done (by kernel_rfl) ?_ _
                    go_wp2
                    go_meet
                    exact ⟨_, rfl, XY, hh17_22⟩
              case hhp17_6 =>
                intro KK17_6 hK17_6
                rw [if_pos (by rfl)]
                go_simp
                have XF17_6 := blk_new w17_1 (.cells #[.int .i64 0, .int .i64 0] 60)
                have KS17_6 := KS17_1.alloc (.cells #[.int .i64 0, .int .i64 0] 60)
                have hbF17_6 : wc.heap.size ≤ w17_1.heap.size := KS17_1.size
                have hneF17_6 : w17_1.heap.size ≠ g17_1 := by have := blk_lt M17_1; omega
                have M17_6 := blk_alloc M17_1 (.cells #[.int .i64 0, .int .i64 0] 60)
                refine hK17_6.out _ _ KS17_6 (fun hh17_6 => ?_)
                clear hK17_6 KK17_6 hh17_6
                generalize w17_1.alloc (.cells #[.int .i64 0, .int .i64 0] 60) = w17_6 at *
                generalize w17_1.heap.size = bF17_6 at *
                change wpAnyH _ _ _ _ _ (6 + 1) _ _ _
                refine wpAnyH_two (i := 4) (j := 8) (o1 := ?op17_23) (o2 := ?op17_24) (by kernel_rfl) ?hop17_23 ?hop17_24 ?hhp17_23 ?hhp17_24
                case hop17_23 => (simp only [List.getElem?_toArray, List.getElem?_cons_zero, List.getElem?_cons_succ]; rfl)
                case hop17_24 => (simp only [List.getElem?_toArray, List.getElem?_cons_zero, List.getElem?_cons_succ]; rfl)
                case hhp17_23 =>
                  intro KK17_23 hK17_23
                  rw [if_pos (by rfl)]
                  go_simp
                  refine (GT17 _ _ M17_6).mono ?_
                  rintro e w17_23 ⟨A17_23, c17_23, B17_23, d17_23, rfl, KG17_23⟩
                  go_wp2_with fail
                  have KS17_23 : Keep [] wc w17_23 := KS17_6.then (S := []) KG17_23 (by simpa using hgb17_1)
                  have XF17_23 := KG17_23.blk XF17_6 (by simpa using hneF17_6)
                  refine hK17_23.out _ _ KS17_23 (fun hh17_23 => ?_)
                  clear hK17_23 KK17_23 hh17_23
                  change wpAnyH _ _ _ _ _ (3 + 3) _ _ _
                  refine anyH_seg 5 3 3 (by simp) (by kernel_rfl) (by kernel_rfl) (fun _ _ d _ _ h => by cases d <;> exact h) KS17_23 ?_
                  simp only [List.drop_succ_cons, List.drop_zero, List.take_succ_cons, List.take_zero]
                  repeat (refine heldL_yes (v := ?_) rfl (fun w hSw => ?_) ?_; rotate_left; (skip; go_simp; (try with_reducible rfl)); (try simp only [Act.put, List.setIfInBounds_toArray, List.set_cons_zero, List.set_cons_succ]))
                  refine heldL_nil ?_
                  change wpAnyH _ _ _ _ _ (2 + 1) _ _ _
                  refine wpAnyH_lone (k := 8) (o := ?op17_25) (by kernel_rfl) ?hop17_25 ?hhp17_25
                  case hop17_25 => (simp only [List.getElem?_toArray, List.getElem?_cons_zero, List.getElem?_cons_succ]; rfl)
                  case hhp17_25 =>
                    intro KK17_25 hK17_25
                    rw [if_pos (by rfl)]
                    go_simp
                    have XA17_25 := blk_new w17_23 (.cells #[.int .i64 0, .slice none 0 0, .slice none 0 0] 25)
                    have KS17_25 := KS17_23.alloc (.cells #[.int .i64 0, .slice none 0 0, .slice none 0 0] 25)
                    have hbA17_25 : wc.heap.size ≤ w17_23.heap.size := KS17_23.size
                    have hAF17_25 : w17_23.heap.size ≠ bF17_6 := by have := blk_lt XF17_23; omega
                    have XF17_25 := blk_alloc XF17_23 (.cells #[.int .i64 0, .slice none 0 0, .slice none 0 0] 25)
                    refine hK17_25.out _ _ KS17_25 (fun hh17_25 => ?_)
                    clear hK17_25 KK17_25 hh17_25
                    generalize w17_23.alloc (.cells #[.int .i64 0, .slice none 0 0, .slice none 0 0] 25) = w17_25 at *
                    generalize w17_23.heap.size = bA17_25 at *
                    change wpAnyH _ _ _ _ _ (1 + 1) _ _ _
                    refine wpAnyH_lone (k := 10) (o := ?op17_26) (by kernel_rfl) ?hop17_26 ?hhp17_26
                    case hop17_26 => (simp only [List.getElem?_toArray, List.getElem?_cons_zero, List.getElem?_cons_succ]; rfl)
                    intro KK17_26 hK17_26
                    rw [if_pos (by rfl)]
                    obtain ⟨x0, x1, x2, y0, y1, y2, ys⟩ := cells3 XA17_25
                    go_simp
                    refine hK17_26.out _ _ (((KS17_25.set (.inr hbA17_25) _).set (.inr hbA17_25) _).set (.inr hbA17_25) _) (fun hh17_26 => ?_)
                    clear hK17_26 KK17_26
                    generalize hwz : ((w17_25.setCell ⟨bA17_25, 0, none⟩ _).setCell ⟨bA17_25, 1, none⟩ _).setCell ⟨bA17_25, 2, none⟩ _ = wz at *
                    have XZ : wz.heap[bF17_6]? = some (.cells #[.int .i64 0, .int .i64 0] 60 (0, 0)) := by rw [← hwz]; exact blk_far (blk_far (blk_far XF17_25 (p := ⟨bA17_25, 0, none⟩) (Ne.symm hAF17_25) _) (p := ⟨bA17_25, 1, none⟩) (Ne.symm hAF17_25) _) (p := ⟨bA17_25, 2, none⟩) (Ne.symm hAF17_25) _
                    clear hwz
                    change wpAnyH _ _ _ _ _ (0 + 1) _ _ _
                    refine wpAnyH_lone (k := 11) (o := ?op17_27) (by kernel_rfl) ?hop17_27 ?hhp17_27
                    case hop17_27 => (simp only [List.getElem?_toArray, List.getElem?_cons_zero, List.getElem?_cons_succ]; rfl)
                    intro KK17_27 hK17_27
                    rw [if_pos (by rfl)]
                    clear x0 x1 x2 y0 y1 y2
                    obtain ⟨x0, x1, y0, y1, xs⟩ := cells2 XZ
                    go_simp
                    refine hK17_27.out _ _ ((hh17_26.set (.inr hbF17_6) _).set (.inr hbF17_6) _) (fun hh17_27 => ?_)
                    clear hK17_27 KK17_27
                    have XY := blk_set (blk_set XZ 0 (.int .i64 60)) 1 (.int .i64 p)
                    generalize (wz.setCell ⟨bF17_6, 0, none⟩ _).setCell ⟨bF17_6, 1, none⟩ _ = wy at *
                    refine wpAnyH_done (by kernel_rfl) ?_ _
                    go_wp2
                    go_meet
                    exact ⟨_, rfl, XY, hh17_27⟩
                case hhp17_24 =>
                  intro KK17_24 hK17_24
                  rw [if_pos (by rfl)]
                  go_simp
                  have XA17_24 := blk_new w17_6 (.cells #[.int .i64 0, .slice none 0 0, .slice none 0 0] 25)
                  have KS17_24 := KS17_6.alloc (.cells #[.int .i64 0, .slice none 0 0, .slice none 0 0] 25)
                  have hbA17_24 : wc.heap.size ≤ w17_6.heap.size := KS17_6.size
                  have hneA17_24 : w17_6.heap.size ≠ g17_1 := by have := blk_lt M17_6; omega
                  have M17_24 := blk_alloc M17_6 (.cells #[.int .i64 0, .slice none 0 0, .slice none 0 0] 25)
                  have hAF17_24 : w17_6.heap.size ≠ bF17_6 := by have := blk_lt XF17_6; omega
                  have XF17_24 := blk_alloc XF17_6 (.cells #[.int .i64 0, .slice none 0 0, .slice none 0 0] 25)
                  refine hK17_24.out _ _ KS17_24 (fun hh17_24 => ?_)
                  clear hK17_24 KK17_24 hh17_24
                  generalize w17_6.alloc (.cells #[.int .i64 0, .slice none 0 0, .slice none 0 0] 25) = w17_24 at *
                  generalize w17_6.heap.size = bA17_24 at *
                  change wpAnyH _ _ _ _ _ (5 + 1) _ _ _
                  refine wpAnyH_lone (k := 4) (o := ?op17_28) (by kernel_rfl) ?hop17_28 ?hhp17_28
                  case hop17_28 => (simp only [List.getElem?_toArray, List.getElem?_cons_zero, List.getElem?_cons_succ]; rfl)
                  case hhp17_28 =>
                    intro KK17_28 hK17_28
                    rw [if_pos (by rfl)]
                    go_simp
                    refine (GT17 _ _ M17_24).mono ?_
                    rintro e w17_28 ⟨A17_28, c17_28, B17_28, d17_28, rfl, KG17_28⟩
                    go_wp2_with fail
                    have KS17_28 : Keep [] wc w17_28 := KS17_24.then (S := []) KG17_28 (by simpa using hgb17_1)
                    have XA17_28 := KG17_28.blk XA17_24 (by simpa using hneA17_24)
                    have XF17_28 := KG17_28.blk XF17_24 (by simpa using hneF17_6)
                    refine hK17_28.out _ _ KS17_28 (fun hh17_28 => ?_)
                    clear hK17_28 KK17_28 hh17_28
                    change wpAnyH _ _ _ _ _ (3 + 2) _ _ _
                    refine anyH_seg 5 3 2 (by simp) (by kernel_rfl) (by kernel_rfl) (fun _ _ d _ _ h => by cases d <;> exact h) KS17_28 ?_
                    simp only [List.drop_succ_cons, List.drop_zero, List.take_succ_cons, List.take_zero]
                    repeat (refine heldL_yes (v := ?_) rfl (fun w hSw => ?_) ?_; rotate_left; (skip; go_simp; (try with_reducible rfl)); (try simp only [Act.put, List.setIfInBounds_toArray, List.set_cons_zero, List.set_cons_succ]))
                    refine heldL_nil ?_
                    change wpAnyH _ _ _ _ _ (1 + 1) _ _ _
                    refine wpAnyH_lone (k := 10) (o := ?op17_29) (by kernel_rfl) ?hop17_29 ?hhp17_29
                    case hop17_29 => (simp only [List.getElem?_toArray, List.getElem?_cons_zero, List.getElem?_cons_succ]; rfl)
                    intro KK17_29 hK17_29
                    rw [if_pos (by rfl)]
                    obtain ⟨x0, x1, x2, y0, y1, y2, ys⟩ := cells3 XA17_28
                    go_simp
                    refine hK17_29.out _ _ (((KS17_28.set (.inr hbA17_24) _).set (.inr hbA17_24) _).set (.inr hbA17_24) _) (fun hh17_29 => ?_)
                    clear hK17_29 KK17_29
                    generalize hwz : ((w17_28.setCell ⟨bA17_24, 0, none⟩ _).setCell ⟨bA17_24, 1, none⟩ _).setCell ⟨bA17_24, 2, none⟩ _ = wz at *
                    have XZ : wz.heap[bF17_6]? = some (.cells #[.int .i64 0, .int .i64 0] 60 (0, 0)) := by rw [← hwz]; exact blk_far (blk_far (blk_far XF17_28 (p := ⟨bA17_24, 0, none⟩) (Ne.symm hAF17_24) _) (p := ⟨bA17_24, 1, none⟩) (Ne.symm hAF17_24) _) (p := ⟨bA17_24, 2, none⟩) (Ne.symm hAF17_24) _
                    clear hwz
                    change wpAnyH _ _ _ _ _ (0 + 1) _ _ _
                    refine wpAnyH_lone (k := 11) (o := ?op17_30) (by kernel_rfl) ?hop17_30 ?hhp17_30
                    case hop17_30 => (simp only [List.getElem?_toArray, List.getElem?_cons_zero, List.getElem?_cons_succ]; rfl)
                    intro KK17_30 hK17_30
                    rw [if_pos (by rfl)]
                    clear x0 x1 x2 y0 y1 y2
                    obtain ⟨x0, x1, y0, y1, xs⟩ := cells2 XZ
                    go_simp
                    refine hK17_30.out _ _ ((hh17_29.set (.inr hbF17_6) _).set (.inr hbF17_6) _) (fun hh17_30 => ?_)
                    clear hK17_30 KK17_30
                    have XY := blk_set (blk_set XZ 0 (.int .i64 60)) 1 (.int .i64 p)
                    generalize (wz.setCell ⟨bF17_6, 0, none⟩ _).setCell ⟨bF17_6, 1, none⟩ _ = wy at *
                    refine wpAnyH_done (by kernel_rfl) ?_ _
                    go_wp2
                    go_meet
                    exact ⟨_, rfl, XY, hh17_30⟩
            case hhp17_2 =>
              intro KK17_2 hK17_2
              rw [if_pos (by rfl)]
              go_simp
              have XA17_2 := blk_new wx17 (.cells #[.int .i64 0, .slice none 0 0, .slice none 0 0] 25)
              have KS17_2 := KS17.alloc (.cells #[.int .i64 0, .slice none 0 0, .slice none 0 0] 25)
              have hbA17_2 : wc.heap.size ≤ wx17.heap.size := KS17.size
              refine hK17_2.out _ _ KS17_2 (fun hh17_2 => ?_)
              clear hK17_2 KK17_2 hh17_2
              generalize wx17.alloc (.cells #[.int .i64 0, .slice none 0 0, .slice none 0 0] 25) = w17_2 at *
              generalize wx17.heap.size = bA17_2 at *
              change wpAnyH _ _ _ _ _ (7 + 1) _ _ _
              refine wpAnyH_two (i := 0) (j := 9) (o1 := ?op17_31) (o2 := ?op17_32) (by kernel_rfl) ?hop17_31 ?hop17_32 ?hhp17_31 ?hhp17_32
              case hop17_31 => (simp only [List.getElem?_toArray, List.getElem?_cons_zero, List.getElem?_cons_succ]; rfl)
              case hop17_32 => (simp only [List.getElem?_toArray, List.getElem?_cons_zero, List.getElem?_cons_succ]; rfl)
              case hhp17_31 =>
                intro KK17_31 hK17_31
                rw [if_pos (by rfl)]
                go_simp
                refine (great_any _).mono ?_
                rintro e w17_31 ⟨g17_31, rfl, hg17_31, M17_31, KG17_31⟩
                go_wp2_with fail
                have KS17_31 := KS17_2.trans KG17_31
                have hgb17_31 := Nat.le_trans KS17_2.size hg17_31
                have hneA17_31 : bA17_2 ≠ g17_31 := by have := blk_lt XA17_2; omega
                have XA17_31 := KG17_31.blk XA17_2 (by simp)
                refine hK17_31.out _ _ KS17_31 (fun hh17_31 => ?_)
                clear hK17_31 KK17_31 hh17_31
                change wpAnyH _ _ _ _ _ (6 + 1) _ _ _
                refine wpAnyH_two (i := 4) (j := 9) (o1 := ?op17_33) (o2 := ?op17_34) (by kernel_rfl) ?hop17_33 ?hop17_34 ?hhp17_33 ?hhp17_34
                case hop17_33 => (simp only [List.getElem?_toArray, List.getElem?_cons_zero, List.getElem?_cons_succ]; rfl)
                case hop17_34 => (simp only [List.getElem?_toArray, List.getElem?_cons_zero, List.getElem?_cons_succ]; rfl)
                case hhp17_33 =>
                  intro KK17_33 hK17_33
                  rw [if_pos (by rfl)]
                  go_simp
                  refine (GT17 _ _ M17_31).mono ?_
                  rintro e w17_33 ⟨A17_33, c17_33, B17_33, d17_33, rfl, KG17_33⟩
                  go_wp2_with fail
                  have KS17_33 : Keep [] wc w17_33 := KS17_31.then (S := []) KG17_33 (by simpa using hgb17_31)
                  have XA17_33 := KG17_33.blk XA17_31 (by simpa using hneA17_31)
                  refine hK17_33.out _ _ KS17_33 (fun hh17_33 => ?_)
                  clear hK17_33 KK17_33 hh17_33
                  change wpAnyH _ _ _ _ _ (3 + 3) _ _ _
                  refine anyH_seg 5 3 3 (by simp) (by kernel_rfl) (by kernel_rfl) (fun _ _ d _ _ h => by cases d <;> exact h) KS17_33 ?_
                  simp only [List.drop_succ_cons, List.drop_zero, List.take_succ_cons, List.take_zero]
                  repeat (refine heldL_yes (v := ?_) rfl (fun w hSw => ?_) ?_; rotate_left; (skip; go_simp; (try with_reducible rfl)); (try simp only [Act.put, List.setIfInBounds_toArray, List.set_cons_zero, List.set_cons_succ]))
                  refine heldL_nil ?_
                  change wpAnyH _ _ _ _ _ (2 + 1) _ _ _
                  refine wpAnyH_lone (k := 9) (o := ?op17_35) (by kernel_rfl) ?hop17_35 ?hhp17_35
                  case hop17_35 => (simp only [List.getElem?_toArray, List.getElem?_cons_zero, List.getElem?_cons_succ]; rfl)
                  case hhp17_35 =>
                    intro KK17_35 hK17_35
                    rw [if_pos (by rfl)]
                    go_simp
                    have XF17_35 := blk_new w17_33 (.cells #[.int .i64 0, .int .i64 0] 60)
                    have KS17_35 := KS17_33.alloc (.cells #[.int .i64 0, .int .i64 0] 60)
                    have hbF17_35 : wc.heap.size ≤ w17_33.heap.size := KS17_33.size
                    have hAF17_35 : w17_33.heap.size ≠ bA17_2 := by have := blk_lt XA17_33; omega
                    have XA17_35 := blk_alloc XA17_33 (.cells #[.int .i64 0, .int .i64 0] 60)
                    refine hK17_35.out _ _ KS17_35 (fun hh17_35 => ?_)
                    clear hK17_35 KK17_35 hh17_35
                    generalize w17_33.alloc (.cells #[.int .i64 0, .int .i64 0] 60) = w17_35 at *
                    generalize w17_33.heap.size = bF17_35 at *
                    change wpAnyH _ _ _ _ _ (1 + 1) _ _ _
                    refine wpAnyH_lone (k := 10) (o := ?op17_36) (by kernel_rfl) ?hop17_36 ?hhp17_36
                    case hop17_36 => (simp only [List.getElem?_toArray, List.getElem?_cons_zero, List.getElem?_cons_succ]; rfl)
                    intro KK17_36 hK17_36
                    rw [if_pos (by rfl)]
                    obtain ⟨x0, x1, x2, y0, y1, y2, ys⟩ := cells3 XA17_35
                    go_simp
                    refine hK17_36.out _ _ (((KS17_35.set (.inr hbA17_2) _).set (.inr hbA17_2) _).set (.inr hbA17_2) _) (fun hh17_36 => ?_)
                    clear hK17_36 KK17_36
                    generalize hwz : ((w17_35.setCell ⟨bA17_2, 0, none⟩ _).setCell ⟨bA17_2, 1, none⟩ _).setCell ⟨bA17_2, 2, none⟩ _ = wz at *
                    have XZ : wz.heap[bF17_35]? = some (.cells #[.int .i64 0, .int .i64 0] 60 (0, 0)) := by rw [← hwz]; exact blk_far (blk_far (blk_far XF17_35 (p := ⟨bA17_2, 0, none⟩) (Ne.symm (Ne.symm hAF17_35)) _) (p := ⟨bA17_2, 1, none⟩) (Ne.symm (Ne.symm hAF17_35)) _) (p := ⟨bA17_2, 2, none⟩) (Ne.symm (Ne.symm hAF17_35)) _
                    clear hwz
                    change wpAnyH _ _ _ _ _ (0 + 1) _ _ _
                    refine wpAnyH_lone (k := 11) (o := ?op17_37) (by kernel_rfl) ?hop17_37 ?hhp17_37
                    case hop17_37 => (simp only [List.getElem?_toArray, List.getElem?_cons_zero, List.getElem?_cons_succ]; rfl)
                    intro KK17_37 hK17_37
                    rw [if_pos (by rfl)]
                    clear x0 x1 x2 y0 y1 y2
                    obtain ⟨x0, x1, y0, y1, xs⟩ := cells2 XZ
                    go_simp
                    refine hK17_37.out _ _ ((hh17_36.set (.inr hbF17_35) _).set (.inr hbF17_35) _) (fun hh17_37 => ?_)
                    clear hK17_37 KK17_37
                    have XY := blk_set (blk_set XZ 0 (.int .i64 60)) 1 (.int .i64 p)
                    generalize (wz.setCell ⟨bF17_35, 0, none⟩ _).setCell ⟨bF17_35, 1, none⟩ _ = wy at *
                    refine wpAnyH_done (by kernel_rfl) ?_ _
                    go_wp2
                    go_meet
                    exact ⟨_, rfl, XY, hh17_37⟩
                case hhp17_34 =>
                  intro KK17_34 hK17_34
                  rw [if_pos (by rfl)]
                  go_simp
                  have XF17_34 := blk_new w17_31 (.cells #[.int .i64 0, .int .i64 0] 60)
                  have KS17_34 := KS17_31.alloc (.cells #[.int .i64 0, .int .i64 0] 60)
                  have hbF17_34 : wc.heap.size ≤ w17_31.heap.size := KS17_31.size
                  have hneF17_34 : w17_31.heap.size ≠ g17_31 := by have := blk_lt M17_31; omega
                  have M17_34 := blk_alloc M17_31 (.cells #[.int .i64 0, .int .i64 0] 60)
                  have hAF17_34 : w17_31.heap.size ≠ bA17_2 := by have := blk_lt XA17_31; omega
                  have XA17_34 := blk_alloc XA17_31 (.cells #[.int .i64 0, .int .i64 0] 60)
                  refine hK17_34.out _ _ KS17_34 (fun hh17_34 => ?_)
                  clear hK17_34 KK17_34 hh17_34
                  generalize w17_31.alloc (.cells #[.int .i64 0, .int .i64 0] 60) = w17_34 at *
                  generalize w17_31.heap.size = bF17_34 at *
                  change wpAnyH _ _ _ _ _ (5 + 1) _ _ _
                  refine wpAnyH_lone (k := 4) (o := ?op17_38) (by kernel_rfl) ?hop17_38 ?hhp17_38
                  case hop17_38 => (simp only [List.getElem?_toArray, List.getElem?_cons_zero, List.getElem?_cons_succ]; rfl)
                  case hhp17_38 =>
                    intro KK17_38 hK17_38
                    rw [if_pos (by rfl)]
                    go_simp
                    refine (GT17 _ _ M17_34).mono ?_
                    rintro e w17_38 ⟨A17_38, c17_38, B17_38, d17_38, rfl, KG17_38⟩
                    go_wp2_with fail
                    have KS17_38 : Keep [] wc w17_38 := KS17_34.then (S := []) KG17_38 (by simpa using hgb17_31)
                    have XA17_38 := KG17_38.blk XA17_34 (by simpa using hneA17_31)
                    have XF17_38 := KG17_38.blk XF17_34 (by simpa using hneF17_34)
                    refine hK17_38.out _ _ KS17_38 (fun hh17_38 => ?_)
                    clear hK17_38 KK17_38 hh17_38
                    change wpAnyH _ _ _ _ _ (3 + 2) _ _ _
                    refine anyH_seg 5 3 2 (by simp) (by kernel_rfl) (by kernel_rfl) (fun _ _ d _ _ h => by cases d <;> exact h) KS17_38 ?_
                    simp only [List.drop_succ_cons, List.drop_zero, List.take_succ_cons, List.take_zero]
                    repeat (refine heldL_yes (v := ?_) rfl (fun w hSw => ?_) ?_; rotate_left; (skip; go_simp; (try with_reducible rfl)); (try simp only [Act.put, List.setIfInBounds_toArray, List.set_cons_zero, List.set_cons_succ]))
                    refine heldL_nil ?_
                    change wpAnyH _ _ _ _ _ (1 + 1) _ _ _
                    refine wpAnyH_lone (k := 10) (o := ?op17_39) (by kernel_rfl) ?hop17_39 ?hhp17_39
                    case hop17_39 => (simp only [List.getElem?_toArray, List.getElem?_cons_zero, List.getElem?_cons_succ]; rfl)
                    intro KK17_39 hK17_39
                    rw [if_pos (by rfl)]
                    obtain ⟨x0, x1, x2, y0, y1, y2, ys⟩ := cells3 XA17_38
                    go_simp
                    refine hK17_39.out _ _ (((KS17_38.set (.inr hbA17_2) _).set (.inr hbA17_2) _).set (.inr hbA17_2) _) (fun hh17_39 => ?_)
                    clear hK17_39 KK17_39
                    generalize hwz : ((w17_38.setCell ⟨bA17_2, 0, none⟩ _).setCell ⟨bA17_2, 1, none⟩ _).setCell ⟨bA17_2, 2, none⟩ _ = wz at *
                    have XZ : wz.heap[bF17_34]? = some (.cells #[.int .i64 0, .int .i64 0] 60 (0, 0)) := by rw [← hwz]; exact blk_far (blk_far (blk_far XF17_38 (p := ⟨bA17_2, 0, none⟩) (Ne.symm (Ne.symm hAF17_34)) _) (p := ⟨bA17_2, 1, none⟩) (Ne.symm (Ne.symm hAF17_34)) _) (p := ⟨bA17_2, 2, none⟩) (Ne.symm (Ne.symm hAF17_34)) _
                    clear hwz
                    change wpAnyH _ _ _ _ _ (0 + 1) _ _ _
                    refine wpAnyH_lone (k := 11) (o := ?op17_40) (by kernel_rfl) ?hop17_40 ?hhp17_40
                    case hop17_40 => (simp only [List.getElem?_toArray, List.getElem?_cons_zero, List.getElem?_cons_succ]; rfl)
                    intro KK17_40 hK17_40
                    rw [if_pos (by rfl)]
                    clear x0 x1 x2 y0 y1 y2
                    obtain ⟨x0, x1, y0, y1, xs⟩ := cells2 XZ
                    go_simp
                    refine hK17_40.out _ _ ((hh17_39.set (.inr hbF17_34) _).set (.inr hbF17_34) _) (fun hh17_40 => ?_)
                    clear hK17_40 KK17_40
                    have XY := blk_set (blk_set XZ 0 (.int .i64 60)) 1 (.int .i64 p)
                    generalize (wz.setCell ⟨bF17_34, 0, none⟩ _).setCell ⟨bF17_34, 1, none⟩ _ = wy at *
                    refine wpAnyH_done (by kernel_rfl) ?_ _
                    go_wp2
                    go_meet
                    exact ⟨_, rfl, XY, hh17_40⟩
              case hhp17_32 =>
                intro KK17_32 hK17_32
                rw [if_pos (by rfl)]
                go_simp
                have XF17_32 := blk_new w17_2 (.cells #[.int .i64 0, .int .i64 0] 60)
                have KS17_32 := KS17_2.alloc (.cells #[.int .i64 0, .int .i64 0] 60)
                have hbF17_32 : wc.heap.size ≤ w17_2.heap.size := KS17_2.size
                have hAF17_32 : w17_2.heap.size ≠ bA17_2 := by have := blk_lt XA17_2; omega
                have XA17_32 := blk_alloc XA17_2 (.cells #[.int .i64 0, .int .i64 0] 60)
                refine hK17_32.out _ _ KS17_32 (fun hh17_32 => ?_)
                clear hK17_32 KK17_32 hh17_32
                generalize w17_2.alloc (.cells #[.int .i64 0, .int .i64 0] 60) = w17_32 at *
                generalize w17_2.heap.size = bF17_32 at *
                change wpAnyH _ _ _ _ _ (6 + 1) _ _ _
                refine wpAnyH_lone (k := 0) (o := ?op17_41) (by kernel_rfl) ?hop17_41 ?hhp17_41
                case hop17_41 => (simp only [List.getElem?_toArray, List.getElem?_cons_zero, List.getElem?_cons_succ]; rfl)
                case hhp17_41 =>
                  intro KK17_41 hK17_41
                  rw [if_pos (by rfl)]
                  go_simp
                  refine (great_any _).mono ?_
                  rintro e w17_41 ⟨g17_41, rfl, hg17_41, M17_41, KG17_41⟩
                  go_wp2_with fail
                  have KS17_41 := KS17_32.trans KG17_41
                  have hgb17_41 := Nat.le_trans KS17_32.size hg17_41
                  have hneA17_41 : bA17_2 ≠ g17_41 := by have := blk_lt XA17_32; omega
                  have XA17_41 := KG17_41.blk XA17_32 (by simp)
                  have hneF17_41 : bF17_32 ≠ g17_41 := by have := blk_lt XF17_32; omega
                  have XF17_41 := KG17_41.blk XF17_32 (by simp)
                  refine hK17_41.out _ _ KS17_41 (fun hh17_41 => ?_)
                  clear hK17_41 KK17_41 hh17_41
                  change wpAnyH _ _ _ _ _ (5 + 1) _ _ _
                  refine wpAnyH_lone (k := 4) (o := ?op17_42) (by kernel_rfl) ?hop17_42 ?hhp17_42
                  case hop17_42 => (simp only [List.getElem?_toArray, List.getElem?_cons_zero, List.getElem?_cons_succ]; rfl)
                  case hhp17_42 =>
                    intro KK17_42 hK17_42
                    rw [if_pos (by rfl)]
                    go_simp
                    refine (GT17 _ _ M17_41).mono ?_
                    rintro e w17_42 ⟨A17_42, c17_42, B17_42, d17_42, rfl, KG17_42⟩
                    go_wp2_with fail
                    have KS17_42 : Keep [] wc w17_42 := KS17_41.then (S := []) KG17_42 (by simpa using hgb17_41)
                    have XA17_42 := KG17_42.blk XA17_41 (by simpa using hneA17_41)
                    have XF17_42 := KG17_42.blk XF17_41 (by simpa using hneF17_41)
                    refine hK17_42.out _ _ KS17_42 (fun hh17_42 => ?_)
                    clear hK17_42 KK17_42 hh17_42
                    change wpAnyH _ _ _ _ _ (3 + 2) _ _ _
                    refine anyH_seg 5 3 2 (by simp) (by kernel_rfl) (by kernel_rfl) (fun _ _ d _ _ h => by cases d <;> exact h) KS17_42 ?_
                    simp only [List.drop_succ_cons, List.drop_zero, List.take_succ_cons, List.take_zero]
                    repeat (refine heldL_yes (v := ?_) rfl (fun w hSw => ?_) ?_; rotate_left; (skip; go_simp; (try with_reducible rfl)); (try simp only [Act.put, List.setIfInBounds_toArray, List.set_cons_zero, List.set_cons_succ]))
                    refine heldL_nil ?_
                    change wpAnyH _ _ _ _ _ (1 + 1) _ _ _
                    refine wpAnyH_lone (k := 10) (o := ?op17_43) (by kernel_rfl) ?hop17_43 ?hhp17_43
                    case hop17_43 => (simp only [List.getElem?_toArray, List.getElem?_cons_zero, List.getElem?_cons_succ]; rfl)
                    intro KK17_43 hK17_43
                    rw [if_pos (by rfl)]
                    obtain ⟨x0, x1, x2, y0, y1, y2, ys⟩ := cells3 XA17_42
                    go_simp
                    refine hK17_43.out _ _ (((KS17_42.set (.inr hbA17_2) _).set (.inr hbA17_2) _).set (.inr hbA17_2) _) (fun hh17_43 => ?_)
                    clear hK17_43 KK17_43
                    generalize hwz : ((w17_42.setCell ⟨bA17_2, 0, none⟩ _).setCell ⟨bA17_2, 1, none⟩ _).setCell ⟨bA17_2, 2, none⟩ _ = wz at *
                    have XZ : wz.heap[bF17_32]? = some (.cells #[.int .i64 0, .int .i64 0] 60 (0, 0)) := by rw [← hwz]; exact blk_far (blk_far (blk_far XF17_42 (p := ⟨bA17_2, 0, none⟩) (Ne.symm (Ne.symm hAF17_32)) _) (p := ⟨bA17_2, 1, none⟩) (Ne.symm (Ne.symm hAF17_32)) _) (p := ⟨bA17_2, 2, none⟩) (Ne.symm (Ne.symm hAF17_32)) _
                    clear hwz
                    change wpAnyH _ _ _ _ _ (0 + 1) _ _ _
                    refine wpAnyH_lone (k := 11) (o := ?op17_44) (by kernel_rfl) ?hop17_44 ?hhp17_44
                    case hop17_44 => (simp only [List.getElem?_toArray, List.getElem?_cons_zero, List.getElem?_cons_succ]; rfl)
                    intro KK17_44 hK17_44
                    rw [if_pos (by rfl)]
                    clear x0 x1 x2 y0 y1 y2
                    obtain ⟨x0, x1, y0, y1, xs⟩ := cells2 XZ
                    go_simp
                    refine hK17_44.out _ _ ((hh17_43.set (.inr hbF17_32) _).set (.inr hbF17_32) _) (fun hh17_44 => ?_)
                    clear hK17_44 KK17_44
                    have XY := blk_set (blk_set XZ 0 (.int .i64 60)) 1 (.int .i64 p)
                    generalize (wz.setCell ⟨bF17_32, 0, none⟩ _).setCell ⟨bF17_32, 1, none⟩ _ = wy at *
                    refine wpAnyH_done (by kernel_rfl) ?_ _
                    go_wp2
                    go_meet
                    exact ⟨_, rfl, XY, hh17_44⟩
            case hhp17_3 =>
              intro KK17_3 hK17_3
              rw [if_pos (by rfl)]
              go_simp
              have XF17_3 := blk_new wx17 (.cells #[.int .i64 0, .int .i64 0] 60)
              have KS17_3 := KS17.alloc (.cells #[.int .i64 0, .int .i64 0] 60)
              have hbF17_3 : wc.heap.size ≤ wx17.heap.size := KS17.size
              refine hK17_3.out _ _ KS17_3 (fun hh17_3 => ?_)
              clear hK17_3 KK17_3 hh17_3
              generalize wx17.alloc (.cells #[.int .i64 0, .int .i64 0] 60) = w17_3 at *
              generalize wx17.heap.size = bF17_3 at *
              change wpAnyH _ _ _ _ _ (7 + 1) _ _ _
              refine wpAnyH_two (i := 0) (j := 8) (o1 := ?op17_45) (o2 := ?op17_46) (by kernel_rfl) ?hop17_45 ?hop17_46 ?hhp17_45 ?hhp17_46
              case hop17_45 => (simp only [List.getElem?_toArray, List.getElem?_cons_zero, List.getElem?_cons_succ]; rfl)
              case hop17_46 => (simp only [List.getElem?_toArray, List.getElem?_cons_zero, List.getElem?_cons_succ]; rfl)
              case hhp17_45 =>
                intro KK17_45 hK17_45
                rw [if_pos (by rfl)]
                go_simp
                refine (great_any _).mono ?_
                rintro e w17_45 ⟨g17_45, rfl, hg17_45, M17_45, KG17_45⟩
                go_wp2_with fail
                have KS17_45 := KS17_3.trans KG17_45
                have hgb17_45 := Nat.le_trans KS17_3.size hg17_45
                have hneF17_45 : bF17_3 ≠ g17_45 := by have := blk_lt XF17_3; omega
                have XF17_45 := KG17_45.blk XF17_3 (by simp)
                refine hK17_45.out _ _ KS17_45 (fun hh17_45 => ?_)
                clear hK17_45 KK17_45 hh17_45
                change wpAnyH _ _ _ _ _ (6 + 1) _ _ _
                refine wpAnyH_two (i := 4) (j := 8) (o1 := ?op17_47) (o2 := ?op17_48) (by kernel_rfl) ?hop17_47 ?hop17_48 ?hhp17_47 ?hhp17_48
                case hop17_47 => (simp only [List.getElem?_toArray, List.getElem?_cons_zero, List.getElem?_cons_succ]; rfl)
                case hop17_48 => (simp only [List.getElem?_toArray, List.getElem?_cons_zero, List.getElem?_cons_succ]; rfl)
                case hhp17_47 =>
                  intro KK17_47 hK17_47
                  rw [if_pos (by rfl)]
                  go_simp
                  refine (GT17 _ _ M17_45).mono ?_
                  rintro e w17_47 ⟨A17_47, c17_47, B17_47, d17_47, rfl, KG17_47⟩
                  go_wp2_with fail
                  have KS17_47 : Keep [] wc w17_47 := KS17_45.then (S := []) KG17_47 (by simpa using hgb17_45)
                  have XF17_47 := KG17_47.blk XF17_45 (by simpa using hneF17_45)
                  refine hK17_47.out _ _ KS17_47 (fun hh17_47 => ?_)
                  clear hK17_47 KK17_47 hh17_47
                  change wpAnyH _ _ _ _ _ (3 + 3) _ _ _
                  refine anyH_seg 5 3 3 (by simp) (by kernel_rfl) (by kernel_rfl) (fun _ _ d _ _ h => by cases d <;> exact h) KS17_47 ?_
                  simp only [List.drop_succ_cons, List.drop_zero, List.take_succ_cons, List.take_zero]
                  repeat (refine heldL_yes (v := ?_) rfl (fun w hSw => ?_) ?_; rotate_left; (skip; go_simp; (try with_reducible rfl)); (try simp only [Act.put, List.setIfInBounds_toArray, List.set_cons_zero, List.set_cons_succ]))
                  refine heldL_nil ?_
                  change wpAnyH _ _ _ _ _ (2 + 1) _ _ _
                  refine wpAnyH_lone (k := 8) (o := ?op17_49) (by kernel_rfl) ?hop17_49 ?hhp17_49
                  case hop17_49 => (simp only [List.getElem?_toArray, List.getElem?_cons_zero, List.getElem?_cons_succ]; rfl)
                  case hhp17_49 =>
                    intro KK17_49 hK17_49
                    rw [if_pos (by rfl)]
                    go_simp
                    have XA17_49 := blk_new w17_47 (.cells #[.int .i64 0, .slice none 0 0, .slice none 0 0] 25)
                    have KS17_49 := KS17_47.alloc (.cells #[.int .i64 0, .slice none 0 0, .slice none 0 0] 25)
                    have hbA17_49 : wc.heap.size ≤ w17_47.heap.size := KS17_47.size
                    have hAF17_49 : w17_47.heap.size ≠ bF17_3 := by have := blk_lt XF17_47; omega
                    have XF17_49 := blk_alloc XF17_47 (.cells #[.int .i64 0, .slice none 0 0, .slice none 0 0] 25)
                    refine hK17_49.out _ _ KS17_49 (fun hh17_49 => ?_)
                    clear hK17_49 KK17_49 hh17_49
                    generalize w17_47.alloc (.cells #[.int .i64 0, .slice none 0 0, .slice none 0 0] 25) = w17_49 at *
                    generalize w17_47.heap.size = bA17_49 at *
                    change wpAnyH _ _ _ _ _ (1 + 1) _ _ _
                    refine wpAnyH_lone (k := 10) (o := ?op17_50) (by kernel_rfl) ?hop17_50 ?hhp17_50
                    case hop17_50 => (simp only [List.getElem?_toArray, List.getElem?_cons_zero, List.getElem?_cons_succ]; rfl)
                    intro KK17_50 hK17_50
                    rw [if_pos (by rfl)]
                    obtain ⟨x0, x1, x2, y0, y1, y2, ys⟩ := cells3 XA17_49
                    go_simp
                    refine hK17_50.out _ _ (((KS17_49.set (.inr hbA17_49) _).set (.inr hbA17_49) _).set (.inr hbA17_49) _) (fun hh17_50 => ?_)
                    clear hK17_50 KK17_50
                    generalize hwz : ((w17_49.setCell ⟨bA17_49, 0, none⟩ _).setCell ⟨bA17_49, 1, none⟩ _).setCell ⟨bA17_49, 2, none⟩ _ = wz at *
                    have XZ : wz.heap[bF17_3]? = some (.cells #[.int .i64 0, .int .i64 0] 60 (0, 0)) := by rw [← hwz]; exact blk_far (blk_far (blk_far XF17_49 (p := ⟨bA17_49, 0, none⟩) (Ne.symm hAF17_49) _) (p := ⟨bA17_49, 1, none⟩) (Ne.symm hAF17_49) _) (p := ⟨bA17_49, 2, none⟩) (Ne.symm hAF17_49) _
                    clear hwz
                    change wpAnyH _ _ _ _ _ (0 + 1) _ _ _
                    refine wpAnyH_lone (k := 11) (o := ?op17_51) (by kernel_rfl) ?hop17_51 ?hhp17_51
                    case hop17_51 => (simp only [List.getElem?_toArray, List.getElem?_cons_zero, List.getElem?_cons_succ]; rfl)
                    intro KK17_51 hK17_51
                    rw [if_pos (by rfl)]
                    clear x0 x1 x2 y0 y1 y2
                    obtain ⟨x0, x1, y0, y1, xs⟩ := cells2 XZ
                    go_simp
                    refine hK17_51.out _ _ ((hh17_50.set (.inr hbF17_3) _).set (.inr hbF17_3) _) (fun hh17_51 => ?_)
                    clear hK17_51 KK17_51
                    have XY := blk_set (blk_set XZ 0 (.int .i64 60)) 1 (.int .i64 p)
                    generalize (wz.setCell ⟨bF17_3, 0, none⟩ _).setCell ⟨bF17_3, 1, none⟩ _ = wy at *
                    refine wpAnyH_done (by kernel_rfl) ?_ _
                    go_wp2
                    go_meet
                    exact ⟨_, rfl, XY, hh17_51⟩
                case hhp17_48 =>
                  intro KK17_48 hK17_48
                  rw [if_pos (by rfl)]
                  go_simp
                  have XA17_48 := blk_new w17_45 (.cells #[.int .i64 0, .slice none 0 0, .slice none 0 0] 25)
                  have KS17_48 := KS17_45.alloc (.cells #[.int .i64 0, .slice none 0 0, .slice none 0 0] 25)
                  have hbA17_48 : wc.heap.size ≤ w17_45.heap.size := KS17_45.size
                  have hneA17_48 : w17_45.heap.size ≠ g17_45 := by have := blk_lt M17_45; omega
                  have M17_48 := blk_alloc M17_45 (.cells #[.int .i64 0, .slice none 0 0, .slice none 0 0] 25)
                  have hAF17_48 : w17_45.heap.size ≠ bF17_3 := by have := blk_lt XF17_45; omega
                  have XF17_48 := blk_alloc XF17_45 (.cells #[.int .i64 0, .slice none 0 0, .slice none 0 0] 25)
                  refine hK17_48.out _ _ KS17_48 (fun hh17_48 => ?_)
                  clear hK17_48 KK17_48 hh17_48
                  generalize w17_45.alloc (.cells #[.int .i64 0, .slice none 0 0, .slice none 0 0] 25) = w17_48 at *
                  generalize w17_45.heap.size = bA17_48 at *
                  change wpAnyH _ _ _ _ _ (5 + 1) _ _ _
                  refine wpAnyH_lone (k := 4) (o := ?op17_52) (by kernel_rfl) ?hop17_52 ?hhp17_52
                  case hop17_52 => (simp only [List.getElem?_toArray, List.getElem?_cons_zero, List.getElem?_cons_succ]; rfl)
                  case hhp17_52 =>
                    intro KK17_52 hK17_52
                    rw [if_pos (by rfl)]
                    go_simp
                    refine (GT17 _ _ M17_48).mono ?_
                    rintro e w17_52 ⟨A17_52, c17_52, B17_52, d17_52, rfl, KG17_52⟩
                    go_wp2_with fail
                    have KS17_52 : Keep [] wc w17_52 := KS17_48.then (S := []) KG17_52 (by simpa using hgb17_45)
                    have XA17_52 := KG17_52.blk XA17_48 (by simpa using hneA17_48)
                    have XF17_52 := KG17_52.blk XF17_48 (by simpa using hneF17_45)
                    refine hK17_52.out _ _ KS17_52 (fun hh17_52 => ?_)
                    clear hK17_52 KK17_52 hh17_52
                    change wpAnyH _ _ _ _ _ (3 + 2) _ _ _
                    refine anyH_seg 5 3 2 (by simp) (by kernel_rfl) (by kernel_rfl) (fun _ _ d _ _ h => by cases d <;> exact h) KS17_52 ?_
                    simp only [List.drop_succ_cons, List.drop_zero, List.take_succ_cons, List.take_zero]
                    repeat (refine heldL_yes (v := ?_) rfl (fun w hSw => ?_) ?_; rotate_left; (skip; go_simp; (try with_reducible rfl)); (try simp only [Act.put, List.setIfInBounds_toArray, List.set_cons_zero, List.set_cons_succ]))
                    refine heldL_nil ?_
                    change wpAnyH _ _ _ _ _ (1 + 1) _ _ _
                    refine wpAnyH_lone (k := 10) (o := ?op17_53) (by kernel_rfl) ?hop17_53 ?hhp17_53
                    case hop17_53 => (simp only [List.getElem?_toArray, List.getElem?_cons_zero, List.getElem?_cons_succ]; rfl)
                    intro KK17_53 hK17_53
                    rw [if_pos (by rfl)]
                    obtain ⟨x0, x1, x2, y0, y1, y2, ys⟩ := cells3 XA17_52
                    go_simp
                    refine hK17_53.out _ _ (((KS17_52.set (.inr hbA17_48) _).set (.inr hbA17_48) _).set (.inr hbA17_48) _) (fun hh17_53 => ?_)
                    clear hK17_53 KK17_53
                    generalize hwz : ((w17_52.setCell ⟨bA17_48, 0, none⟩ _).setCell ⟨bA17_48, 1, none⟩ _).setCell ⟨bA17_48, 2, none⟩ _ = wz at *
                    have XZ : wz.heap[bF17_3]? = some (.cells #[.int .i64 0, .int .i64 0] 60 (0, 0)) := by rw [← hwz]; exact blk_far (blk_far (blk_far XF17_52 (p := ⟨bA17_48, 0, none⟩) (Ne.symm hAF17_48) _) (p := ⟨bA17_48, 1, none⟩) (Ne.symm hAF17_48) _) (p := ⟨bA17_48, 2, none⟩) (Ne.symm hAF17_48) _
                    clear hwz
                    change wpAnyH _ _ _ _ _ (0 + 1) _ _ _
                    refine wpAnyH_lone (k := 11) (o := ?op17_54) (by kernel_rfl) ?hop17_54 ?hhp17_54
                    case hop17_54 => (simp only [List.getElem?_toArray, List.getElem?_cons_zero, List.getElem?_cons_succ]; rfl)
                    intro KK17_54 hK17_54
                    rw [if_pos (by rfl)]
                    clear x0 x1 x2 y0 y1 y2
                    obtain ⟨x0, x1, y0, y1, xs⟩ := cells2 XZ
                    go_simp
                    refine hK17_54.out _ _ ((hh17_53.set (.inr hbF17_3) _).set (.inr hbF17_3) _) (fun hh17_54 => ?_)
                    clear hK17_54 KK17_54
                    have XY := blk_set (blk_set XZ 0 (.int .i64 60)) 1 (.int .i64 p)
                    generalize (wz.setCell ⟨bF17_3, 0, none⟩ _).setCell ⟨bF17_3, 1, none⟩ _ = wy at *
                    refine wpAnyH_done (by kernel_rfl) ?_ _
                    go_wp2
                    go_meet
                    exact ⟨_, rfl, XY, hh17_54⟩
              case hhp17_46 =>
                intro KK17_46 hK17_46
                rw [if_pos (by rfl)]
                go_simp
                have XA17_46 := blk_new w17_3 (.cells #[.int .i64 0, .slice none 0 0, .slice none 0 0] 25)
                have KS17_46 := KS17_3.alloc (.cells #[.int .i64 0, .slice none 0 0, .slice none 0 0] 25)
                have hbA17_46 : wc.heap.size ≤ w17_3.heap.size := KS17_3.size
                have hAF17_46 : w17_3.heap.size ≠ bF17_3 := by have := blk_lt XF17_3; omega
                have XF17_46 := blk_alloc XF17_3 (.cells #[.int .i64 0, .slice none 0 0, .slice none 0 0] 25)
                refine hK17_46.out _ _ KS17_46 (fun hh17_46 => ?_)
                clear hK17_46 KK17_46 hh17_46
                generalize w17_3.alloc (.cells #[.int .i64 0, .slice none 0 0, .slice none 0 0] 25) = w17_46 at *
                generalize w17_3.heap.size = bA17_46 at *
                change wpAnyH _ _ _ _ _ (6 + 1) _ _ _
                refine wpAnyH_lone (k := 0) (o := ?op17_55) (by kernel_rfl) ?hop17_55 ?hhp17_55
                case hop17_55 => (simp only [List.getElem?_toArray, List.getElem?_cons_zero, List.getElem?_cons_succ]; rfl)
                case hhp17_55 =>
                  intro KK17_55 hK17_55
                  rw [if_pos (by rfl)]
                  go_simp
                  refine (great_any _).mono ?_
                  rintro e w17_55 ⟨g17_55, rfl, hg17_55, M17_55, KG17_55⟩
                  go_wp2_with fail
                  have KS17_55 := KS17_46.trans KG17_55
                  have hgb17_55 := Nat.le_trans KS17_46.size hg17_55
                  have hneA17_55 : bA17_46 ≠ g17_55 := by have := blk_lt XA17_46; omega
                  have XA17_55 := KG17_55.blk XA17_46 (by simp)
                  have hneF17_55 : bF17_3 ≠ g17_55 := by have := blk_lt XF17_46; omega
                  have XF17_55 := KG17_55.blk XF17_46 (by simp)
                  refine hK17_55.out _ _ KS17_55 (fun hh17_55 => ?_)
                  clear hK17_55 KK17_55 hh17_55
                  change wpAnyH _ _ _ _ _ (5 + 1) _ _ _
                  refine wpAnyH_lone (k := 4) (o := ?op17_56) (by kernel_rfl) ?hop17_56 ?hhp17_56
                  case hop17_56 => (simp only [List.getElem?_toArray, List.getElem?_cons_zero, List.getElem?_cons_succ]; rfl)
                  case hhp17_56 =>
                    intro KK17_56 hK17_56
                    rw [if_pos (by rfl)]
                    go_simp
                    refine (GT17 _ _ M17_55).mono ?_
                    rintro e w17_56 ⟨A17_56, c17_56, B17_56, d17_56, rfl, KG17_56⟩
                    go_wp2_with fail
                    have KS17_56 : Keep [] wc w17_56 := KS17_55.then (S := []) KG17_56 (by simpa using hgb17_55)
                    have XA17_56 := KG17_56.blk XA17_55 (by simpa using hneA17_55)
                    have XF17_56 := KG17_56.blk XF17_55 (by simpa using hneF17_55)
                    refine hK17_56.out _ _ KS17_56 (fun hh17_56 => ?_)
                    clear hK17_56 KK17_56 hh17_56
                    change wpAnyH _ _ _ _ _ (3 + 2) _ _ _
                    refine anyH_seg 5 3 2 (by simp) (by kernel_rfl) (by kernel_rfl) (fun _ _ d _ _ h => by cases d <;> exact h) KS17_56 ?_
                    simp only [List.drop_succ_cons, List.drop_zero, List.take_succ_cons, List.take_zero]
                    repeat (refine heldL_yes (v := ?_) rfl (fun w hSw => ?_) ?_; rotate_left; (skip; go_simp; (try with_reducible rfl)); (try simp only [Act.put, List.setIfInBounds_toArray, List.set_cons_zero, List.set_cons_succ]))
                    refine heldL_nil ?_
                    change wpAnyH _ _ _ _ _ (1 + 1) _ _ _
                    refine wpAnyH_lone (k := 10) (o := ?op17_57) (by kernel_rfl) ?hop17_57 ?hhp17_57
                    case hop17_57 => (simp only [List.getElem?_toArray, List.getElem?_cons_zero, List.getElem?_cons_succ]; rfl)
                    intro KK17_57 hK17_57
                    rw [if_pos (by rfl)]
                    obtain ⟨x0, x1, x2, y0, y1, y2, ys⟩ := cells3 XA17_56
                    go_simp
                    refine hK17_57.out _ _ (((KS17_56.set (.inr hbA17_46) _).set (.inr hbA17_46) _).set (.inr hbA17_46) _) (fun hh17_57 => ?_)
                    clear hK17_57 KK17_57
                    generalize hwz : ((w17_56.setCell ⟨bA17_46, 0, none⟩ _).setCell ⟨bA17_46, 1, none⟩ _).setCell ⟨bA17_46, 2, none⟩ _ = wz at *
                    have XZ : wz.heap[bF17_3]? = some (.cells #[.int .i64 0, .int .i64 0] 60 (0, 0)) := by rw [← hwz]; exact blk_far (blk_far (blk_far XF17_56 (p := ⟨bA17_46, 0, none⟩) (Ne.symm hAF17_46) _) (p := ⟨bA17_46, 1, none⟩) (Ne.symm hAF17_46) _) (p := ⟨bA17_46, 2, none⟩) (Ne.symm hAF17_46) _
                    clear hwz
                    change wpAnyH _ _ _ _ _ (0 + 1) _ _ _
                    refine wpAnyH_lone (k := 11) (o := ?op17_58) (by kernel_rfl) ?hop17_58 ?hhp17_58
                    case hop17_58 => (simp only [List.getElem?_toArray, List.getElem?_cons_zero, List.getElem?_cons_succ]; rfl)
                    intro KK17_58 hK17_58
                    rw [if_pos (by rfl)]
                    clear x0 x1 x2 y0 y1 y2
                    obtain ⟨x0, x1, y0, y1, xs⟩ := cells2 XZ
                    go_simp
                    refine hK17_58.out _ _ ((hh17_57.set (.inr hbF17_3) _).set (.inr hbF17_3) _) (fun hh17_58 => ?_)
                    clear hK17_58 KK17_58
                    have XY := blk_set (blk_set XZ 0 (.int .i64 60)) 1 (.int .i64 p)
                    generalize (wz.setCell ⟨bF17_3, 0, none⟩ _).setCell ⟨bF17_3, 1, none⟩ _ = wy at *
                    refine wpAnyH_done (by kernel_rfl) ?_ _
                    go_wp2
                    go_meet
                    exact ⟨_, rfl, XY, hh17_58⟩
          case rest =>
            obtain ⟨b14, rfl, X14, K8⟩ := hcut
            have B4 := B3.old K8 (by simp)
            have K9 := K7.trans K8
            replace X12 := K8.blk X12 (by simp)
            clear GT17 B3 K7 K8
            have hT18 : T ++ SB [y] = SB (L ++ [y]) := by rw [HT.out, SB_app]
            have GT18 : ∀ g W, IsM W g (MS.new 1152921504606846976 1152921504606846976) → Calls Try.prog 29 #[.pointer (some ⟨g, 0, none⟩), .string (T ++ SB [y])] W fun e w' => ∃ A c B d, e = .returned (.tuple #[.agg #[.int .i64 0, .slice A 0 c, .slice B 0 d], .agg #[.int .i64 60, .int .i64 n]]) ∧ Keep [g] W w' := fun g W hm => by
              rw [hT18]
              exact get_fault (hall.app (fun v hv => by simp at hv; omega)) (by simp; omega) (RL y) g W hm
            clear hT18
            have e4 : IntKind.i64.wrap ((p : Int) + 1) = ((p + 1 : Nat) : Int) := IntWalk.i64_in _ (by omega)
            have hcp : ¬ cap = p := by omega
            have hsb : ¬ (9223372036854775807 < n + (SB [y]).size) := by rw [SB_size]; simp; omega
            have hcap1 : (0 : Int) ≤ (p : Int) + 1 := by omega
            have hcap2 : (p : Int) + 1 ≤ (cap : Int) := by omega
            have hpy : (L.set p y)[p]? = some y := by rw [List.getElem?_set_self (by omega)]
            go_upto_region 18 with (fail)
            go_cut [15, 16] from 87 to 99 (fun _ v16 we => ∃ b16, v16 = .pointer (some ⟨b16, 0, none⟩) ∧ we.heap[b16]? = some (.cells #[.int .i64 60, .int .i64 n] 60 (0, 0)) ∧ Keep [] wc we)
            case first =>
              clear RC RL RT hT0 hT1 e3 hn0 ha1 ha2 hp hpos hr1 hk1' ha1' hx K9 ha hb0 HT hyx hall X12
              refine wp_region_held_lex 0 (fun w' => Keep [] wc w') (by kernel_rfl) (by simp) (by kernel_rfl) (by kernel_rfl) (fun _ _ d _ _ h => by cases d <;> exact h) (Keep.refl _ _).drew ?_
              simp only [List.take_zero]
              refine heldL_nil ?_
              have KS18 : Keep [] wc wc.drew := (Keep.refl _ _).drew
              generalize wc.drew = wx18 at *
              change wpAnyH _ _ _ _ _ (8 + 9) _ _ _
              refine anyH_seg 1 8 9 (by simp) (by kernel_rfl) (by kernel_rfl) (fun _ _ d _ _ h => by cases d <;> exact h) KS18 ?_
              simp only [List.drop_succ_cons, List.drop_zero, List.take_succ_cons, List.take_zero]
              repeat (refine heldL_yes (v := ?_) rfl (fun w hSw => ?_) ?_; rotate_left; (have y1 := (B4.old hSw (by simp)).one hallY hpy (cap - p); go_simp; (try with_reducible rfl)); (try simp only [Act.put, List.setIfInBounds_toArray, List.set_cons_zero, List.set_cons_succ]))
              refine heldL_nil ?_
              change wpAnyH _ _ _ _ _ (8 + 1) _ _ _
              refine wpAnyH_three (i := 0) (j := 13) (k := 14) (o1 := ?op18_1) (o2 := ?op18_2) (o3 := ?op18_3) (by kernel_rfl) ?hop18_1 ?hop18_2 ?hop18_3 ?hhp18_1 ?hhp18_2 ?hhp18_3
              case hop18_1 => (simp only [List.getElem?_toArray, List.getElem?_cons_zero, List.getElem?_cons_succ]; rfl)
              case hop18_2 => (simp only [List.getElem?_toArray, List.getElem?_cons_zero, List.getElem?_cons_succ]; rfl)
              case hop18_3 => (simp only [List.getElem?_toArray, List.getElem?_cons_zero, List.getElem?_cons_succ]; rfl)
              case hhp18_1 =>
                intro KK18_1 hK18_1
                rw [if_pos (by rfl)]
                go_simp
                refine (great_any _).mono ?_
                rintro e w18_1 ⟨g18_1, rfl, hg18_1, M18_1, KG18_1⟩
                go_wp2_with fail
                have KS18_1 := KS18.trans KG18_1
                have hgb18_1 := Nat.le_trans KS18.size hg18_1
                refine hK18_1.out _ _ KS18_1 (fun hh18_1 => ?_)
                clear hK18_1 KK18_1 hh18_1
                change wpAnyH _ _ _ _ _ (7 + 1) _ _ _
                refine wpAnyH_three (i := 9) (j := 13) (k := 14) (o1 := ?op18_4) (o2 := ?op18_5) (o3 := ?op18_6) (by kernel_rfl) ?hop18_4 ?hop18_5 ?hop18_6 ?hhp18_4 ?hhp18_5 ?hhp18_6
                case hop18_4 => (simp only [List.getElem?_toArray, List.getElem?_cons_zero, List.getElem?_cons_succ]; rfl)
                case hop18_5 => (simp only [List.getElem?_toArray, List.getElem?_cons_zero, List.getElem?_cons_succ]; rfl)
                case hop18_6 => (simp only [List.getElem?_toArray, List.getElem?_cons_zero, List.getElem?_cons_succ]; rfl)
                case hhp18_4 =>
                  intro KK18_4 hK18_4
                  rw [if_pos (by rfl)]
                  go_simp
                  refine (GT18 _ _ M18_1).mono ?_
                  rintro e w18_4 ⟨A18_4, c18_4, B18_4, d18_4, rfl, KG18_4⟩
                  go_wp2_with fail
                  have KS18_4 : Keep [] wc w18_4 := KS18_1.then (S := []) KG18_4 (by simpa using hgb18_1)
                  refine hK18_4.out _ _ KS18_4 (fun hh18_4 => ?_)
                  clear hK18_4 KK18_4 hh18_4
                  change wpAnyH _ _ _ _ _ (3 + 4) _ _ _
                  refine anyH_seg 10 3 4 (by simp) (by kernel_rfl) (by kernel_rfl) (fun _ _ d _ _ h => by cases d <;> exact h) KS18_4 ?_
                  simp only [List.drop_succ_cons, List.drop_zero, List.take_succ_cons, List.take_zero]
                  repeat (refine heldL_yes (v := ?_) rfl (fun w hSw => ?_) ?_; rotate_left; (skip; go_simp; (try with_reducible rfl)); (try simp only [Act.put, List.setIfInBounds_toArray, List.set_cons_zero, List.set_cons_succ]))
                  refine heldL_nil ?_
                  change wpAnyH _ _ _ _ _ (3 + 1) _ _ _
                  refine wpAnyH_two (i := 13) (j := 14) (o1 := ?op18_7) (o2 := ?op18_8) (by kernel_rfl) ?hop18_7 ?hop18_8 ?hhp18_7 ?hhp18_8
                  case hop18_7 => (simp only [List.getElem?_toArray, List.getElem?_cons_zero, List.getElem?_cons_succ]; rfl)
                  case hop18_8 => (simp only [List.getElem?_toArray, List.getElem?_cons_zero, List.getElem?_cons_succ]; rfl)
                  case hhp18_7 =>
                    intro KK18_7 hK18_7
                    rw [if_pos (by rfl)]
                    go_simp
                    have XA18_7 := blk_new w18_4 (.cells #[.int .i64 0, .slice none 0 0, .slice none 0 0] 25)
                    have KS18_7 := KS18_4.alloc (.cells #[.int .i64 0, .slice none 0 0, .slice none 0 0] 25)
                    have hbA18_7 : wc.heap.size ≤ w18_4.heap.size := KS18_4.size
                    refine hK18_7.out _ _ KS18_7 (fun hh18_7 => ?_)
                    clear hK18_7 KK18_7 hh18_7
                    generalize w18_4.alloc (.cells #[.int .i64 0, .slice none 0 0, .slice none 0 0] 25) = w18_7 at *
                    generalize w18_4.heap.size = bA18_7 at *
                    change wpAnyH _ _ _ _ _ (2 + 1) _ _ _
                    refine wpAnyH_lone (k := 14) (o := ?op18_9) (by kernel_rfl) ?hop18_9 ?hhp18_9
                    case hop18_9 => (simp only [List.getElem?_toArray, List.getElem?_cons_zero, List.getElem?_cons_succ]; rfl)
                    case hhp18_9 =>
                      intro KK18_9 hK18_9
                      rw [if_pos (by rfl)]
                      go_simp
                      have XF18_9 := blk_new w18_7 (.cells #[.int .i64 0, .int .i64 0] 60)
                      have KS18_9 := KS18_7.alloc (.cells #[.int .i64 0, .int .i64 0] 60)
                      have hbF18_9 : wc.heap.size ≤ w18_7.heap.size := KS18_7.size
                      have hAF18_9 : w18_7.heap.size ≠ bA18_7 := by have := blk_lt XA18_7; omega
                      have XA18_9 := blk_alloc XA18_7 (.cells #[.int .i64 0, .int .i64 0] 60)
                      refine hK18_9.out _ _ KS18_9 (fun hh18_9 => ?_)
                      clear hK18_9 KK18_9 hh18_9
                      generalize w18_7.alloc (.cells #[.int .i64 0, .int .i64 0] 60) = w18_9 at *
                      generalize w18_7.heap.size = bF18_9 at *
                      change wpAnyH _ _ _ _ _ (1 + 1) _ _ _
                      refine wpAnyH_lone (k := 15) (o := ?op18_10) (by kernel_rfl) ?hop18_10 ?hhp18_10
                      case hop18_10 => (simp only [List.getElem?_toArray, List.getElem?_cons_zero, List.getElem?_cons_succ]; rfl)
                      intro KK18_10 hK18_10
                      rw [if_pos (by rfl)]
                      obtain ⟨x0, x1, x2, y0, y1, y2, ys⟩ := cells3 XA18_9
                      go_simp
                      refine hK18_10.out _ _ (((KS18_9.set (.inr hbA18_7) _).set (.inr hbA18_7) _).set (.inr hbA18_7) _) (fun hh18_10 => ?_)
                      clear hK18_10 KK18_10
                      generalize hwz : ((w18_9.setCell ⟨bA18_7, 0, none⟩ _).setCell ⟨bA18_7, 1, none⟩ _).setCell ⟨bA18_7, 2, none⟩ _ = wz at *
                      have XZ : wz.heap[bF18_9]? = some (.cells #[.int .i64 0, .int .i64 0] 60 (0, 0)) := by rw [← hwz]; exact blk_far (blk_far (blk_far XF18_9 (p := ⟨bA18_7, 0, none⟩) (Ne.symm (Ne.symm hAF18_9)) _) (p := ⟨bA18_7, 1, none⟩) (Ne.symm (Ne.symm hAF18_9)) _) (p := ⟨bA18_7, 2, none⟩) (Ne.symm (Ne.symm hAF18_9)) _
                      clear hwz
                      change wpAnyH _ _ _ _ _ (0 + 1) _ _ _
                      refine wpAnyH_lone (k := 16) (o := ?op18_11) (by kernel_rfl) ?hop18_11 ?hhp18_11
                      case hop18_11 => (simp only [List.getElem?_toArray, List.getElem?_cons_zero, List.getElem?_cons_succ]; rfl)
                      intro KK18_11 hK18_11
                      rw [if_pos (by rfl)]
                      clear x0 x1 x2 y0 y1 y2
                      obtain ⟨x0, x1, y0, y1, xs⟩ := cells2 XZ
                      go_simp
                      refine hK18_11.out _ _ ((hh18_10.set (.inr hbF18_9) _).set (.inr hbF18_9) _) (fun hh18_11 => ?_)
                      clear hK18_11 KK18_11
                      have XY := blk_set (blk_set XZ 0 (.int .i64 60)) 1 (.int .i64 n)
                      generalize (wz.setCell ⟨bF18_9, 0, none⟩ _).setCell ⟨bF18_9, 1, none⟩ _ = wy at *
                      refine wpAnyH_done (by kernel_rfl) ?_ _
                      go_wp2
                      go_meet
                      exact ⟨_, rfl, XY, hh18_11⟩
                  case hhp18_8 =>
                    intro KK18_8 hK18_8
                    rw [if_pos (by rfl)]
                    go_simp
                    have XF18_8 := blk_new w18_4 (.cells #[.int .i64 0, .int .i64 0] 60)
                    have KS18_8 := KS18_4.alloc (.cells #[.int .i64 0, .int .i64 0] 60)
                    have hbF18_8 : wc.heap.size ≤ w18_4.heap.size := KS18_4.size
                    refine hK18_8.out _ _ KS18_8 (fun hh18_8 => ?_)
                    clear hK18_8 KK18_8 hh18_8
                    generalize w18_4.alloc (.cells #[.int .i64 0, .int .i64 0] 60) = w18_8 at *
                    generalize w18_4.heap.size = bF18_8 at *
                    change wpAnyH _ _ _ _ _ (2 + 1) _ _ _
                    refine wpAnyH_lone (k := 13) (o := ?op18_12) (by kernel_rfl) ?hop18_12 ?hhp18_12
                    case hop18_12 => (simp only [List.getElem?_toArray, List.getElem?_cons_zero, List.getElem?_cons_succ]; rfl)
                    case hhp18_12 =>
                      intro KK18_12 hK18_12
                      rw [if_pos (by rfl)]
                      go_simp
                      have XA18_12 := blk_new w18_8 (.cells #[.int .i64 0, .slice none 0 0, .slice none 0 0] 25)
                      have KS18_12 := KS18_8.alloc (.cells #[.int .i64 0, .slice none 0 0, .slice none 0 0] 25)
                      have hbA18_12 : wc.heap.size ≤ w18_8.heap.size := KS18_8.size
                      have hAF18_12 : w18_8.heap.size ≠ bF18_8 := by have := blk_lt XF18_8; omega
                      have XF18_12 := blk_alloc XF18_8 (.cells #[.int .i64 0, .slice none 0 0, .slice none 0 0] 25)
                      refine hK18_12.out _ _ KS18_12 (fun hh18_12 => ?_)
                      clear hK18_12 KK18_12 hh18_12
                      generalize w18_8.alloc (.cells #[.int .i64 0, .slice none 0 0, .slice none 0 0] 25) = w18_12 at *
                      generalize w18_8.heap.size = bA18_12 at *
                      change wpAnyH _ _ _ _ _ (1 + 1) _ _ _
                      refine wpAnyH_lone (k := 15) (o := ?op18_13) (by kernel_rfl) ?hop18_13 ?hhp18_13
                      case hop18_13 => (simp only [List.getElem?_toArray, List.getElem?_cons_zero, List.getElem?_cons_succ]; rfl)
                      intro KK18_13 hK18_13
                      rw [if_pos (by rfl)]
                      obtain ⟨x0, x1, x2, y0, y1, y2, ys⟩ := cells3 XA18_12
                      go_simp
                      refine hK18_13.out _ _ (((KS18_12.set (.inr hbA18_12) _).set (.inr hbA18_12) _).set (.inr hbA18_12) _) (fun hh18_13 => ?_)
                      clear hK18_13 KK18_13
                      generalize hwz : ((w18_12.setCell ⟨bA18_12, 0, none⟩ _).setCell ⟨bA18_12, 1, none⟩ _).setCell ⟨bA18_12, 2, none⟩ _ = wz at *
                      have XZ : wz.heap[bF18_8]? = some (.cells #[.int .i64 0, .int .i64 0] 60 (0, 0)) := by rw [← hwz]; exact blk_far (blk_far (blk_far XF18_12 (p := ⟨bA18_12, 0, none⟩) (Ne.symm hAF18_12) _) (p := ⟨bA18_12, 1, none⟩) (Ne.symm hAF18_12) _) (p := ⟨bA18_12, 2, none⟩) (Ne.symm hAF18_12) _
                      clear hwz
                      change wpAnyH _ _ _ _ _ (0 + 1) _ _ _
                      refine wpAnyH_lone (k := 16) (o := ?op18_14) (by kernel_rfl) ?hop18_14 ?hhp18_14
                      case hop18_14 => (simp only [List.getElem?_toArray, List.getElem?_cons_zero, List.getElem?_cons_succ]; rfl)
                      intro KK18_14 hK18_14
                      rw [if_pos (by rfl)]
                      clear x0 x1 x2 y0 y1 y2
                      obtain ⟨x0, x1, y0, y1, xs⟩ := cells2 XZ
                      go_simp
                      refine hK18_14.out _ _ ((hh18_13.set (.inr hbF18_8) _).set (.inr hbF18_8) _) (fun hh18_14 => ?_)
                      clear hK18_14 KK18_14
                      have XY := blk_set (blk_set XZ 0 (.int .i64 60)) 1 (.int .i64 n)
                      generalize (wz.setCell ⟨bF18_8, 0, none⟩ _).setCell ⟨bF18_8, 1, none⟩ _ = wy at *
                      refine wpAnyH_done (by kernel_rfl) ?_ _
                      go_wp2
                      go_meet
                      exact ⟨_, rfl, XY, hh18_14⟩
                case hhp18_5 =>
                  intro KK18_5 hK18_5
                  rw [if_pos (by rfl)]
                  go_simp
                  have XA18_5 := blk_new w18_1 (.cells #[.int .i64 0, .slice none 0 0, .slice none 0 0] 25)
                  have KS18_5 := KS18_1.alloc (.cells #[.int .i64 0, .slice none 0 0, .slice none 0 0] 25)
                  have hbA18_5 : wc.heap.size ≤ w18_1.heap.size := KS18_1.size
                  have hneA18_5 : w18_1.heap.size ≠ g18_1 := by have := blk_lt M18_1; omega
                  have M18_5 := blk_alloc M18_1 (.cells #[.int .i64 0, .slice none 0 0, .slice none 0 0] 25)
                  refine hK18_5.out _ _ KS18_5 (fun hh18_5 => ?_)
                  clear hK18_5 KK18_5 hh18_5
                  generalize w18_1.alloc (.cells #[.int .i64 0, .slice none 0 0, .slice none 0 0] 25) = w18_5 at *
                  generalize w18_1.heap.size = bA18_5 at *
                  change wpAnyH _ _ _ _ _ (6 + 1) _ _ _
                  refine wpAnyH_two (i := 9) (j := 14) (o1 := ?op18_15) (o2 := ?op18_16) (by kernel_rfl) ?hop18_15 ?hop18_16 ?hhp18_15 ?hhp18_16
                  case hop18_15 => (simp only [List.getElem?_toArray, List.getElem?_cons_zero, List.getElem?_cons_succ]; rfl)
                  case hop18_16 => (simp only [List.getElem?_toArray, List.getElem?_cons_zero, List.getElem?_cons_succ]; rfl)
                  case hhp18_15 =>
                    intro KK18_15 hK18_15
                    rw [if_pos (by rfl)]
                    go_simp
                    refine (GT18 _ _ M18_5).mono ?_
                    rintro e w18_15 ⟨A18_15, c18_15, B18_15, d18_15, rfl, KG18_15⟩
                    go_wp2_with fail
                    have KS18_15 : Keep [] wc w18_15 := KS18_5.then (S := []) KG18_15 (by simpa using hgb18_1)
                    have XA18_15 := KG18_15.blk XA18_5 (by simpa using hneA18_5)
                    refine hK18_15.out _ _ KS18_15 (fun hh18_15 => ?_)
                    clear hK18_15 KK18_15 hh18_15
                    change wpAnyH _ _ _ _ _ (3 + 3) _ _ _
                    refine anyH_seg 10 3 3 (by simp) (by kernel_rfl) (by kernel_rfl) (fun _ _ d _ _ h => by cases d <;> exact h) KS18_15 ?_
                    simp only [List.drop_succ_cons, List.drop_zero, List.take_succ_cons, List.take_zero]
                    repeat (refine heldL_yes (v := ?_) rfl (fun w hSw => ?_) ?_; rotate_left; (skip; go_simp; (try with_reducible rfl)); (try simp only [Act.put, List.setIfInBounds_toArray, List.set_cons_zero, List.set_cons_succ]))
                    refine heldL_nil ?_
                    change wpAnyH _ _ _ _ _ (2 + 1) _ _ _
                    refine wpAnyH_lone (k := 14) (o := ?op18_17) (by kernel_rfl) ?hop18_17 ?hhp18_17
                    case hop18_17 => (simp only [List.getElem?_toArray, List.getElem?_cons_zero, List.getElem?_cons_succ]; rfl)
                    case hhp18_17 =>
                      intro KK18_17 hK18_17
                      rw [if_pos (by rfl)]
                      go_simp
                      have XF18_17 := blk_new w18_15 (.cells #[.int .i64 0, .int .i64 0] 60)
                      have KS18_17 := KS18_15.alloc (.cells #[.int .i64 0, .int .i64 0] 60)
                      have hbF18_17 : wc.heap.size ≤ w18_15.heap.size := KS18_15.size
                      have hAF18_17 : w18_15.heap.size ≠ bA18_5 := by have := blk_lt XA18_15; omega
                      have XA18_17 := blk_alloc XA18_15 (.cells #[.int .i64 0, .int .i64 0] 60)
                      refine hK18_17.out _ _ KS18_17 (fun hh18_17 => ?_)
                      clear hK18_17 KK18_17 hh18_17
                      generalize w18_15.alloc (.cells #[.int .i64 0, .int .i64 0] 60) = w18_17 at *
                      generalize w18_15.heap.size = bF18_17 at *
                      change wpAnyH _ _ _ _ _ (1 + 1) _ _ _
                      refine wpAnyH_lone (k := 15) (o := ?op18_18) (by kernel_rfl) ?hop18_18 ?hhp18_18
                      case hop18_18 => (simp only [List.getElem?_toArray, List.getElem?_cons_zero, List.getElem?_cons_succ]; rfl)
                      intro KK18_18 hK18_18
                      rw [if_pos (by rfl)]
                      obtain ⟨x0, x1, x2, y0, y1, y2, ys⟩ := cells3 XA18_17
                      go_simp
                      refine hK18_18.out _ _ (((KS18_17.set (.inr hbA18_5) _).set (.inr hbA18_5) _).set (.inr hbA18_5) _) (fun hh18_18 => ?_)
                      clear hK18_18 KK18_18
                      generalize hwz : ((w18_17.setCell ⟨bA18_5, 0, none⟩ _).setCell ⟨bA18_5, 1, none⟩ _).setCell ⟨bA18_5, 2, none⟩ _ = wz at *
                      have XZ : wz.heap[bF18_17]? = some (.cells #[.int .i64 0, .int .i64 0] 60 (0, 0)) := by rw [← hwz]; exact blk_far (blk_far (blk_far XF18_17 (p := ⟨bA18_5, 0, none⟩) (Ne.symm (Ne.symm hAF18_17)) _) (p := ⟨bA18_5, 1, none⟩) (Ne.symm (Ne.symm hAF18_17)) _) (p := ⟨bA18_5, 2, none⟩) (Ne.symm (Ne.symm hAF18_17)) _
                      clear hwz
                      change wpAnyH _ _ _ _ _ (0 + 1) _ _ _
                      refine wpAnyH_lone (k := 16) (o := ?op18_19) (by kernel_rfl) ?hop18_19 ?hhp18_19
                      case hop18_19 => (simp only [List.getElem?_toArray, List.getElem?_cons_zero, List.getElem?_cons_succ]; rfl)
                      intro KK18_19 hK18_19
                      rw [if_pos (by rfl)]
                      clear x0 x1 x2 y0 y1 y2
                      obtain ⟨x0, x1, y0, y1, xs⟩ := cells2 XZ
                      go_simp
                      refine hK18_19.out _ _ ((hh18_18.set (.inr hbF18_17) _).set (.inr hbF18_17) _) (fun hh18_19 => ?_)
                      clear hK18_19 KK18_19
                      have XY := blk_set (blk_set XZ 0 (.int .i64 60)) 1 (.int .i64 n)
                      generalize (wz.setCell ⟨bF18_17, 0, none⟩ _).setCell ⟨bF18_17, 1, none⟩ _ = wy at *
                      refine wpAnyH_done (by kernel_rfl) ?_ _
                      go_wp2
                      go_meet
                      exact ⟨_, rfl, XY, hh18_19⟩
                  case hhp18_16 =>
                    intro KK18_16 hK18_16
                    rw [if_pos (by rfl)]
                    go_simp
                    have XF18_16 := blk_new w18_5 (.cells #[.int .i64 0, .int .i64 0] 60)
                    have KS18_16 := KS18_5.alloc (.cells #[.int .i64 0, .int .i64 0] 60)
                    have hbF18_16 : wc.heap.size ≤ w18_5.heap.size := KS18_5.size
                    have hneF18_16 : w18_5.heap.size ≠ g18_1 := by have := blk_lt M18_5; omega
                    have M18_16 := blk_alloc M18_5 (.cells #[.int .i64 0, .int .i64 0] 60)
                    have hAF18_16 : w18_5.heap.size ≠ bA18_5 := by have := blk_lt XA18_5; omega
                    have XA18_16 := blk_alloc XA18_5 (.cells #[.int .i64 0, .int .i64 0] 60)
                    refine hK18_16.out _ _ KS18_16 (fun hh18_16 => ?_)
                    clear hK18_16 KK18_16 hh18_16
                    generalize w18_5.alloc (.cells #[.int .i64 0, .int .i64 0] 60) = w18_16 at *
                    generalize w18_5.heap.size = bF18_16 at *
                    change wpAnyH _ _ _ _ _ (5 + 1) _ _ _
                    refine wpAnyH_lone (k := 9) (o := ?op18_20) (by kernel_rfl) ?hop18_20 ?hhp18_20
                    case hop18_20 => (simp only [List.getElem?_toArray, List.getElem?_cons_zero, List.getElem?_cons_succ]; rfl)
                    case hhp18_20 =>
                      intro KK18_20 hK18_20
                      rw [if_pos (by rfl)]
                      go_simp
                      refine (GT18 _ _ M18_16).mono ?_
                      rintro e w18_20 ⟨A18_20, c18_20, B18_20, d18_20, rfl, KG18_20⟩
                      go_wp2_with fail
                      have KS18_20 : Keep [] wc w18_20 := KS18_16.then (S := []) KG18_20 (by simpa using hgb18_1)
                      have XA18_20 := KG18_20.blk XA18_16 (by simpa using hneA18_5)
                      have XF18_20 := KG18_20.blk XF18_16 (by simpa using hneF18_16)
                      refine hK18_20.out _ _ KS18_20 (fun hh18_20 => ?_)
                      clear hK18_20 KK18_20 hh18_20
                      change wpAnyH _ _ _ _ _ (3 + 2) _ _ _
                      refine anyH_seg 10 3 2 (by simp) (by kernel_rfl) (by kernel_rfl) (fun _ _ d _ _ h => by cases d <;> exact h) KS18_20 ?_
                      simp only [List.drop_succ_cons, List.drop_zero, List.take_succ_cons, List.take_zero]
                      repeat (refine heldL_yes (v := ?_) rfl (fun w hSw => ?_) ?_; rotate_left; (skip; go_simp; (try with_reducible rfl)); (try simp only [Act.put, List.setIfInBounds_toArray, List.set_cons_zero, List.set_cons_succ]))
                      refine heldL_nil ?_
                      change wpAnyH _ _ _ _ _ (1 + 1) _ _ _
                      refine wpAnyH_lone (k := 15) (o := ?op18_21) (by kernel_rfl) ?hop18_21 ?hhp18_21
                      case hop18_21 => (simp only [List.getElem?_toArray, List.getElem?_cons_zero, List.getElem?_cons_succ]; rfl)
                      intro KK18_21 hK18_21
                      rw [if_pos (by rfl)]
                      obtain ⟨x0, x1, x2, y0, y1, y2, ys⟩ := cells3 XA18_20
                      go_simp
                      refine hK18_21.out _ _ (((KS18_20.set (.inr hbA18_5) _).set (.inr hbA18_5) _).set (.inr hbA18_5) _) (fun hh18_21 => ?_)
                      clear hK18_21 KK18_21
                      generalize hwz : ((w18_20.setCell ⟨bA18_5, 0, none⟩ _).setCell ⟨bA18_5, 1, none⟩ _).setCell ⟨bA18_5, 2, none⟩ _ = wz at *
                      have XZ : wz.heap[bF18_16]? = some (.cells #[.int .i64 0, .int .i64 0] 60 (0, 0)) := by rw [← hwz]; exact blk_far (blk_far (blk_far XF18_20 (p := ⟨bA18_5, 0, none⟩) (Ne.symm (Ne.symm hAF18_16)) _) (p := ⟨bA18_5, 1, none⟩) (Ne.symm (Ne.symm hAF18_16)) _) (p := ⟨bA18_5, 2, none⟩) (Ne.symm (Ne.symm hAF18_16)) _
                      clear hwz
                      change wpAnyH _ _ _ _ _ (0 + 1) _ _ _
                      refine wpAnyH_lone (k := 16) (o := ?op18_22) (by kernel_rfl) ?hop18_22 ?hhp18_22
                      case hop18_22 => (simp only [List.getElem?_toArray, List.getElem?_cons_zero, List.getElem?_cons_succ]; rfl)
                      intro KK18_22 hK18_22
                      rw [if_pos (by rfl)]
                      clear x0 x1 x2 y0 y1 y2
                      obtain ⟨x0, x1, y0, y1, xs⟩ := cells2 XZ
                      go_simp
                      refine hK18_22.out _ _ ((hh18_21.set (.inr hbF18_16) _).set (.inr hbF18_16) _) (fun hh18_22 => ?_)
                      clear hK18_22 KK18_22
                      have XY := blk_set (blk_set XZ 0 (.int .i64 60)) 1 (.int .i64 n)
                      generalize (wz.setCell ⟨bF18_16, 0, none⟩ _).setCell ⟨bF18_16, 1, none⟩ _ = wy at *
                      refine wpAnyH_done (by kernel_rfl) ?_ _
                      go_wp2
                      go_meet
                      exact ⟨_, rfl, XY, hh18_22⟩
                case hhp18_6 =>
                  intro KK18_6 hK18_6
                  rw [if_pos (by rfl)]
                  go_simp
                  have XF18_6 := blk_new w18_1 (.cells #[.int .i64 0, .int .i64 0] 60)
                  have KS18_6 := KS18_1.alloc (.cells #[.int .i64 0, .int .i64 0] 60)
                  have hbF18_6 : wc.heap.size ≤ w18_1.heap.size := KS18_1.size
                  have hneF18_6 : w18_1.heap.size ≠ g18_1 := by have := blk_lt M18_1; omega
                  have M18_6 := blk_alloc M18_1 (.cells #[.int .i64 0, .int .i64 0] 60)
                  refine hK18_6.out _ _ KS18_6 (fun hh18_6 => ?_)
                  clear hK18_6 KK18_6 hh18_6
                  generalize w18_1.alloc (.cells #[.int .i64 0, .int .i64 0] 60) = w18_6 at *
                  generalize w18_1.heap.size = bF18_6 at *
                  change wpAnyH _ _ _ _ _ (6 + 1) _ _ _
                  refine wpAnyH_two (i := 9) (j := 13) (o1 := ?op18_23) (o2 := ?op18_24) (by kernel_rfl) ?hop18_23 ?hop18_24 ?hhp18_23 ?hhp18_24
                  case hop18_23 => (simp only [List.getElem?_toArray, List.getElem?_cons_zero, List.getElem?_cons_succ]; rfl)
                  case hop18_24 => (simp only [List.getElem?_toArray, List.getElem?_cons_zero, List.getElem?_cons_succ]; rfl)
                  case hhp18_23 =>
                    intro KK18_23 hK18_23
                    rw [if_pos (by rfl)]
                    go_simp
                    refine (GT18 _ _ M18_6).mono ?_
                    rintro e w18_23 ⟨A18_23, c18_23, B18_23, d18_23, rfl, KG18_23⟩
                    go_wp2_with fail
                    have KS18_23 : Keep [] wc w18_23 := KS18_6.then (S := []) KG18_23 (by simpa using hgb18_1)
                    have XF18_23 := KG18_23.blk XF18_6 (by simpa using hneF18_6)
                    refine hK18_23.out _ _ KS18_23 (fun hh18_23 => ?_)
                    clear hK18_23 KK18_23 hh18_23
                    change wpAnyH _ _ _ _ _ (3 + 3) _ _ _
                    refine anyH_seg 10 3 3 (by simp) (by kernel_rfl) (by kernel_rfl) (fun _ _ d _ _ h => by cases d <;> exact h) KS18_23 ?_
                    simp only [List.drop_succ_cons, List.drop_zero, List.take_succ_cons, List.take_zero]
                    repeat (refine heldL_yes (v := ?_) rfl (fun w hSw => ?_) ?_; rotate_left; (skip; go_simp; (try with_reducible rfl)); (try simp only [Act.put, List.setIfInBounds_toArray, List.set_cons_zero, List.set_cons_succ]))
                    refine heldL_nil ?_
                    change wpAnyH _ _ _ _ _ (2 + 1) _ _ _
                    refine wpAnyH_lone (k := 13) (o := ?op18_25) (by kernel_rfl) ?hop18_25 ?hhp18_25
                    case hop18_25 => (simp only [List.getElem?_toArray, List.getElem?_cons_zero, List.getElem?_cons_succ]; rfl)
                    case hhp18_25 =>
                      intro KK18_25 hK18_25
                      rw [if_pos (by rfl)]
                      go_simp
                      have XA18_25 := blk_new w18_23 (.cells #[.int .i64 0, .slice none 0 0, .slice none 0 0] 25)
                      have KS18_25 := KS18_23.alloc (.cells #[.int .i64 0, .slice none 0 0, .slice none 0 0] 25)
                      have hbA18_25 : wc.heap.size ≤ w18_23.heap.size := KS18_23.size
                      have hAF18_25 : w18_23.heap.size ≠ bF18_6 := by have := blk_lt XF18_23; omega
                      have XF18_25 := blk_alloc XF18_23 (.cells #[.int .i64 0, .slice none 0 0, .slice none 0 0] 25)
                      refine hK18_25.out _ _ KS18_25 (fun hh18_25 => ?_)
                      clear hK18_25 KK18_25 hh18_25
                      generalize w18_23.alloc (.cells #[.int .i64 0, .slice none 0 0, .slice none 0 0] 25) = w18_25 at *
                      generalize w18_23.heap.size = bA18_25 at *
                      change wpAnyH _ _ _ _ _ (1 + 1) _ _ _
                      refine wpAnyH_lone (k := 15) (o := ?op18_26) (by kernel_rfl) ?hop18_26 ?hhp18_26
                      case hop18_26 => (simp only [List.getElem?_toArray, List.getElem?_cons_zero, List.getElem?_cons_succ]; rfl)
                      intro KK18_26 hK18_26
                      rw [if_pos (by rfl)]
                      obtain ⟨x0, x1, x2, y0, y1, y2, ys⟩ := cells3 XA18_25
                      go_simp
                      refine hK18_26.out _ _ (((KS18_25.set (.inr hbA18_25) _).set (.inr hbA18_25) _).set (.inr hbA18_25) _) (fun hh18_26 => ?_)
                      clear hK18_26 KK18_26
                      generalize hwz : ((w18_25.setCell ⟨bA18_25, 0, none⟩ _).setCell ⟨bA18_25, 1, none⟩ _).setCell ⟨bA18_25, 2, none⟩ _ = wz at *
                      have XZ : wz.heap[bF18_6]? = some (.cells #[.int .i64 0, .int .i64 0] 60 (0, 0)) := by rw [← hwz]; exact blk_far (blk_far (blk_far XF18_25 (p := ⟨bA18_25, 0, none⟩) (Ne.symm hAF18_25) _) (p := ⟨bA18_25, 1, none⟩) (Ne.symm hAF18_25) _) (p := ⟨bA18_25, 2, none⟩) (Ne.symm hAF18_25) _
                      clear hwz
                      change wpAnyH _ _ _ _ _ (0 + 1) _ _ _
                      refine wpAnyH_lone (k := 16) (o := ?op18_27) (by kernel_rfl) ?hop18_27 ?hhp18_27
                      case hop18_27 => (simp only [List.getElem?_toArray, List.getElem?_cons_zero, List.getElem?_cons_succ]; rfl)
                      intro KK18_27 hK18_27
                      rw [if_pos (by rfl)]
                      clear x0 x1 x2 y0 y1 y2
                      obtain ⟨x0, x1, y0, y1, xs⟩ := cells2 XZ
                      go_simp
                      refine hK18_27.out _ _ ((hh18_26.set (.inr hbF18_6) _).set (.inr hbF18_6) _) (fun hh18_27 => ?_)
                      clear hK18_27 KK18_27
                      have XY := blk_set (blk_set XZ 0 (.int .i64 60)) 1 (.int .i64 n)
                      generalize (wz.setCell ⟨bF18_6, 0, none⟩ _).setCell ⟨bF18_6, 1, none⟩ _ = wy at *
                      refine wpAnyH_done (by kernel_rfl) ?_ _
                      go_wp2
                      go_meet
                      exact ⟨_, rfl, XY, hh18_27⟩
                  case hhp18_24 =>
                    intro KK18_24 hK18_24
                    rw [if_pos (by rfl)]
                    go_simp
                    have XA18_24 := blk_new w18_6 (.cells #[.int .i64 0, .slice none 0 0, .slice none 0 0] 25)
                    have KS18_24 := KS18_6.alloc (.cells #[.int .i64 0, .slice none 0 0, .slice none 0 0] 25)
                    have hbA18_24 : wc.heap.size ≤ w18_6.heap.size := KS18_6.size
                    have hneA18_24 : w18_6.heap.size ≠ g18_1 := by have := blk_lt M18_6; omega
                    have M18_24 := blk_alloc M18_6 (.cells #[.int .i64 0, .slice none 0 0, .slice none 0 0] 25)
                    have hAF18_24 : w18_6.heap.size ≠ bF18_6 := by have := blk_lt XF18_6; omega
                    have XF18_24 := blk_alloc XF18_6 (.cells #[.int .i64 0, .slice none 0 0, .slice none 0 0] 25)
                    refine hK18_24.out _ _ KS18_24 (fun hh18_24 => ?_)
                    clear hK18_24 KK18_24 hh18_24
                    generalize w18_6.alloc (.cells #[.int .i64 0, .slice none 0 0, .slice none 0 0] 25) = w18_24 at *
                    generalize w18_6.heap.size = bA18_24 at *
                    change wpAnyH _ _ _ _ _ (5 + 1) _ _ _
                    refine wpAnyH_lone (k := 9) (o := ?op18_28) (by kernel_rfl) ?hop18_28 ?hhp18_28
                    case hop18_28 => (simp only [List.getElem?_toArray, List.getElem?_cons_zero, List.getElem?_cons_succ]; rfl)
                    case hhp18_28 =>
                      intro KK18_28 hK18_28
                      rw [if_pos (by rfl)]
                      go_simp
                      refine (GT18 _ _ M18_24).mono ?_
                      rintro e w18_28 ⟨A18_28, c18_28, B18_28, d18_28, rfl, KG18_28⟩
                      go_wp2_with fail
                      have KS18_28 : Keep [] wc w18_28 := KS18_24.then (S := []) KG18_28 (by simpa using hgb18_1)
                      have XA18_28 := KG18_28.blk XA18_24 (by simpa using hneA18_24)
                      have XF18_28 := KG18_28.blk XF18_24 (by simpa using hneF18_6)
                      refine hK18_28.out _ _ KS18_28 (fun hh18_28 => ?_)
                      clear hK18_28 KK18_28 hh18_28
                      change wpAnyH _ _ _ _ _ (3 + 2) _ _ _
                      refine anyH_seg 10 3 2 (by simp) (by kernel_rfl) (by kernel_rfl) (fun _ _ d _ _ h => by cases d <;> exact h) KS18_28 ?_
                      simp only [List.drop_succ_cons, List.drop_zero, List.take_succ_cons, List.take_zero]
                      repeat (refine heldL_yes (v := ?_) rfl (fun w hSw => ?_) ?_; rotate_left; (skip; go_simp; (try with_reducible rfl)); (try simp only [Act.put, List.setIfInBounds_toArray, List.set_cons_zero, List.set_cons_succ]))
                      refine heldL_nil ?_
                      change wpAnyH _ _ _ _ _ (1 + 1) _ _ _
                      refine wpAnyH_lone (k := 15) (o := ?op18_29) (by kernel_rfl) ?hop18_29 ?hhp18_29
                      case hop18_29 => (simp only [List.getElem?_toArray, List.getElem?_cons_zero, List.getElem?_cons_succ]; rfl)
                      intro KK18_29 hK18_29
                      rw [if_pos (by rfl)]
                      obtain ⟨x0, x1, x2, y0, y1, y2, ys⟩ := cells3 XA18_28
                      go_simp
                      refine hK18_29.out _ _ (((KS18_28.set (.inr hbA18_24) _).set (.inr hbA18_24) _).set (.inr hbA18_24) _) (fun hh18_29 => ?_)
                      clear hK18_29 KK18_29
                      generalize hwz : ((w18_28.setCell ⟨bA18_24, 0, none⟩ _).setCell ⟨bA18_24, 1, none⟩ _).setCell ⟨bA18_24, 2, none⟩ _ = wz at *
                      have XZ : wz.heap[bF18_6]? = some (.cells #[.int .i64 0, .int .i64 0] 60 (0, 0)) := by rw [← hwz]; exact blk_far (blk_far (blk_far XF18_28 (p := ⟨bA18_24, 0, none⟩) (Ne.symm hAF18_24) _) (p := ⟨bA18_24, 1, none⟩) (Ne.symm hAF18_24) _) (p := ⟨bA18_24, 2, none⟩) (Ne.symm hAF18_24) _
                      clear hwz
                      change wpAnyH _ _ _ _ _ (0 + 1) _ _ _
                      refine wpAnyH_lone (k := 16) (o := ?op18_30) (by kernel_rfl) ?hop18_30 ?hhp18_30
                      case hop18_30 => (simp only [List.getElem?_toArray, List.getElem?_cons_zero, List.getElem?_cons_succ]; rfl)
                      intro KK18_30 hK18_30
                      rw [if_pos (by rfl)]
                      clear x0 x1 x2 y0 y1 y2
                      obtain ⟨x0, x1, y0, y1, xs⟩ := cells2 XZ
                      go_simp
                      refine hK18_30.out _ _ ((hh18_29.set (.inr hbF18_6) _).set (.inr hbF18_6) _) (fun hh18_30 => ?_)
                      clear hK18_30 KK18_30
                      have XY := blk_set (blk_set XZ 0 (.int .i64 60)) 1 (.int .i64 n)
                      generalize (wz.setCell ⟨bF18_6, 0, none⟩ _).setCell ⟨bF18_6, 1, none⟩ _ = wy at *
                      refine wpAnyH_done (by kernel_rfl) ?_ _
                      go_wp2
                      go_meet
                      exact ⟨_, rfl, XY, hh18_30⟩
              case hhp18_2 =>
                intro KK18_2 hK18_2
                rw [if_pos (by rfl)]
                go_simp
                have XA18_2 := blk_new wx18 (.cells #[.int .i64 0, .slice none 0 0, .slice none 0 0] 25)
                have KS18_2 := KS18.alloc (.cells #[.int .i64 0, .slice none 0 0, .slice none 0 0] 25)
                have hbA18_2 : wc.heap.size ≤ wx18.heap.size := KS18.size
                refine hK18_2.out _ _ KS18_2 (fun hh18_2 => ?_)
                clear hK18_2 KK18_2 hh18_2
                generalize wx18.alloc (.cells #[.int .i64 0, .slice none 0 0, .slice none 0 0] 25) = w18_2 at *
                generalize wx18.heap.size = bA18_2 at *
                change wpAnyH _ _ _ _ _ (7 + 1) _ _ _
                refine wpAnyH_two (i := 0) (j := 14) (o1 := ?op18_31) (o2 := ?op18_32) (by kernel_rfl) ?hop18_31 ?hop18_32 ?hhp18_31 ?hhp18_32
                case hop18_31 => (simp only [List.getElem?_toArray, List.getElem?_cons_zero, List.getElem?_cons_succ]; rfl)
                case hop18_32 => (simp only [List.getElem?_toArray, List.getElem?_cons_zero, List.getElem?_cons_succ]; rfl)
                case hhp18_31 =>
                  intro KK18_31 hK18_31
                  rw [if_pos (by rfl)]
                  go_simp
                  refine (great_any _).mono ?_
                  rintro e w18_31 ⟨g18_31, rfl, hg18_31, M18_31, KG18_31⟩
                  go_wp2_with fail
                  have KS18_31 := KS18_2.trans KG18_31
                  have hgb18_31 := Nat.le_trans KS18_2.size hg18_31
                  have hneA18_31 : bA18_2 ≠ g18_31 := by have := blk_lt XA18_2; omega
                  have XA18_31 := KG18_31.blk XA18_2 (by simp)
                  refine hK18_31.out _ _ KS18_31 (fun hh18_31 => ?_)
                  clear hK18_31 KK18_31 hh18_31
                  change wpAnyH _ _ _ _ _ (6 + 1) _ _ _
                  refine wpAnyH_two (i := 9) (j := 14) (o1 := ?op18_33) (o2 := ?op18_34) (by kernel_rfl) ?hop18_33 ?hop18_34 ?hhp18_33 ?hhp18_34
                  case hop18_33 => (simp only [List.getElem?_toArray, List.getElem?_cons_zero, List.getElem?_cons_succ]; rfl)
                  case hop18_34 => (simp only [List.getElem?_toArray, List.getElem?_cons_zero, List.getElem?_cons_succ]; rfl)
                  case hhp18_33 =>
                    intro KK18_33 hK18_33
                    rw [if_pos (by rfl)]
                    go_simp
                    refine (GT18 _ _ M18_31).mono ?_
                    rintro e w18_33 ⟨A18_33, c18_33, B18_33, d18_33, rfl, KG18_33⟩
                    go_wp2_with fail
                    have KS18_33 : Keep [] wc w18_33 := KS18_31.then (S := []) KG18_33 (by simpa using hgb18_31)
                    have XA18_33 := KG18_33.blk XA18_31 (by simpa using hneA18_31)
                    refine hK18_33.out _ _ KS18_33 (fun hh18_33 => ?_)
                    clear hK18_33 KK18_33 hh18_33
                    change wpAnyH _ _ _ _ _ (3 + 3) _ _ _
                    refine anyH_seg 10 3 3 (by simp) (by kernel_rfl) (by kernel_rfl) (fun _ _ d _ _ h => by cases d <;> exact h) KS18_33 ?_
                    simp only [List.drop_succ_cons, List.drop_zero, List.take_succ_cons, List.take_zero]
                    repeat (refine heldL_yes (v := ?_) rfl (fun w hSw => ?_) ?_; rotate_left; (skip; go_simp; (try with_reducible rfl)); (try simp only [Act.put, List.setIfInBounds_toArray, List.set_cons_zero, List.set_cons_succ]))
                    refine heldL_nil ?_
                    change wpAnyH _ _ _ _ _ (2 + 1) _ _ _
                    refine wpAnyH_lone (k := 14) (o := ?op18_35) (by kernel_rfl) ?hop18_35 ?hhp18_35
                    case hop18_35 => (simp only [List.getElem?_toArray, List.getElem?_cons_zero, List.getElem?_cons_succ]; rfl)
                    case hhp18_35 =>
                      intro KK18_35 hK18_35
                      rw [if_pos (by rfl)]
                      go_simp
                      have XF18_35 := blk_new w18_33 (.cells #[.int .i64 0, .int .i64 0] 60)
                      have KS18_35 := KS18_33.alloc (.cells #[.int .i64 0, .int .i64 0] 60)
                      have hbF18_35 : wc.heap.size ≤ w18_33.heap.size := KS18_33.size
                      have hAF18_35 : w18_33.heap.size ≠ bA18_2 := by have := blk_lt XA18_33; omega
                      have XA18_35 := blk_alloc XA18_33 (.cells #[.int .i64 0, .int .i64 0] 60)
                      refine hK18_35.out _ _ KS18_35 (fun hh18_35 => ?_)
                      clear hK18_35 KK18_35 hh18_35
                      generalize w18_33.alloc (.cells #[.int .i64 0, .int .i64 0] 60) = w18_35 at *
                      generalize w18_33.heap.size = bF18_35 at *
                      change wpAnyH _ _ _ _ _ (1 + 1) _ _ _
                      refine wpAnyH_lone (k := 15) (o := ?op18_36) (by kernel_rfl) ?hop18_36 ?hhp18_36
                      case hop18_36 => (simp only [List.getElem?_toArray, List.getElem?_cons_zero, List.getElem?_cons_succ]; rfl)
                      intro KK18_36 hK18_36
                      rw [if_pos (by rfl)]
                      obtain ⟨x0, x1, x2, y0, y1, y2, ys⟩ := cells3 XA18_35
                      go_simp
                      refine hK18_36.out _ _ (((KS18_35.set (.inr hbA18_2) _).set (.inr hbA18_2) _).set (.inr hbA18_2) _) (fun hh18_36 => ?_)
                      clear hK18_36 KK18_36
                      generalize hwz : ((w18_35.setCell ⟨bA18_2, 0, none⟩ _).setCell ⟨bA18_2, 1, none⟩ _).setCell ⟨bA18_2, 2, none⟩ _ = wz at *
                      have XZ : wz.heap[bF18_35]? = some (.cells #[.int .i64 0, .int .i64 0] 60 (0, 0)) := by rw [← hwz]; exact blk_far (blk_far (blk_far XF18_35 (p := ⟨bA18_2, 0, none⟩) (Ne.symm (Ne.symm hAF18_35)) _) (p := ⟨bA18_2, 1, none⟩) (Ne.symm (Ne.symm hAF18_35)) _) (p := ⟨bA18_2, 2, none⟩) (Ne.symm (Ne.symm hAF18_35)) _
                      clear hwz
                      change wpAnyH _ _ _ _ _ (0 + 1) _ _ _
                      refine wpAnyH_lone (k := 16) (o := ?op18_37) (by kernel_rfl) ?hop18_37 ?hhp18_37
                      case hop18_37 => (simp only [List.getElem?_toArray, List.getElem?_cons_zero, List.getElem?_cons_succ]; rfl)
                      intro KK18_37 hK18_37
                      rw [if_pos (by rfl)]
                      clear x0 x1 x2 y0 y1 y2
                      obtain ⟨x0, x1, y0, y1, xs⟩ := cells2 XZ
                      go_simp
                      refine hK18_37.out _ _ ((hh18_36.set (.inr hbF18_35) _).set (.inr hbF18_35) _) (fun hh18_37 => ?_)
                      clear hK18_37 KK18_37
                      have XY := blk_set (blk_set XZ 0 (.int .i64 60)) 1 (.int .i64 n)
                      generalize (wz.setCell ⟨bF18_35, 0, none⟩ _).setCell ⟨bF18_35, 1, none⟩ _ = wy at *
                      refine wpAnyH_done (by kernel_rfl) ?_ _
                      go_wp2
                      go_meet
                      exact ⟨_, rfl, XY, hh18_37⟩
                  case hhp18_34 =>
                    intro KK18_34 hK18_34
                    rw [if_pos (by rfl)]
                    go_simp
                    have XF18_34 := blk_new w18_31 (.cells #[.int .i64 0, .int .i64 0] 60)
                    have KS18_34 := KS18_31.alloc (.cells #[.int .i64 0, .int .i64 0] 60)
                    have hbF18_34 : wc.heap.size ≤ w18_31.heap.size := KS18_31.size
                    have hneF18_34 : w18_31.heap.size ≠ g18_31 := by have := blk_lt M18_31; omega
                    have M18_34 := blk_alloc M18_31 (.cells #[.int .i64 0, .int .i64 0] 60)
                    have hAF18_34 : w18_31.heap.size ≠ bA18_2 := by have := blk_lt XA18_31; omega
                    have XA18_34 := blk_alloc XA18_31 (.cells #[.int .i64 0, .int .i64 0] 60)
                    refine hK18_34.out _ _ KS18_34 (fun hh18_34 => ?_)
                    clear hK18_34 KK18_34 hh18_34
                    generalize w18_31.alloc (.cells #[.int .i64 0, .int .i64 0] 60) = w18_34 at *
                    generalize w18_31.heap.size = bF18_34 at *
                    change wpAnyH _ _ _ _ _ (5 + 1) _ _ _
                    refine wpAnyH_lone (k := 9) (o := ?op18_38) (by kernel_rfl) ?hop18_38 ?hhp18_38
                    case hop18_38 => (simp only [List.getElem?_toArray, List.getElem?_cons_zero, List.getElem?_cons_succ]; rfl)
                    case hhp18_38 =>
                      intro KK18_38 hK18_38
                      rw [if_pos (by rfl)]
                      go_simp
                      refine (GT18 _ _ M18_34).mono ?_
                      rintro e w18_38 ⟨A18_38, c18_38, B18_38, d18_38, rfl, KG18_38⟩
                      go_wp2_with fail
                      have KS18_38 : Keep [] wc w18_38 := KS18_34.then (S := []) KG18_38 (by simpa using hgb18_31)
                      have XA18_38 := KG18_38.blk XA18_34 (by simpa using hneA18_31)
                      have XF18_38 := KG18_38.blk XF18_34 (by simpa using hneF18_34)
                      refine hK18_38.out _ _ KS18_38 (fun hh18_38 => ?_)
                      clear hK18_38 KK18_38 hh18_38
                      change wpAnyH _ _ _ _ _ (3 + 2) _ _ _
                      refine anyH_seg 10 3 2 (by simp) (by kernel_rfl) (by kernel_rfl) (fun _ _ d _ _ h => by cases d <;> exact h) KS18_38 ?_
                      simp only [List.drop_succ_cons, List.drop_zero, List.take_succ_cons, List.take_zero]
                      repeat (refine heldL_yes (v := ?_) rfl (fun w hSw => ?_) ?_; rotate_left; (skip; go_simp; (try with_reducible rfl)); (try simp only [Act.put, List.setIfInBounds_toArray, List.set_cons_zero, List.set_cons_succ]))
                      refine heldL_nil ?_
                      change wpAnyH _ _ _ _ _ (1 + 1) _ _ _
                      refine wpAnyH_lone (k := 15) (o := ?op18_39) (by kernel_rfl) ?hop18_39 ?hhp18_39
                      case hop18_39 => (simp only [List.getElem?_toArray, List.getElem?_cons_zero, List.getElem?_cons_succ]; rfl)
                      intro KK18_39 hK18_39
                      rw [if_pos (by rfl)]
                      obtain ⟨x0, x1, x2, y0, y1, y2, ys⟩ := cells3 XA18_38
                      go_simp
                      refine hK18_39.out _ _ (((KS18_38.set (.inr hbA18_2) _).set (.inr hbA18_2) _).set (.inr hbA18_2) _) (fun hh18_39 => ?_)
                      clear hK18_39 KK18_39
                      generalize hwz : ((w18_38.setCell ⟨bA18_2, 0, none⟩ _).setCell ⟨bA18_2, 1, none⟩ _).setCell ⟨bA18_2, 2, none⟩ _ = wz at *
                      have XZ : wz.heap[bF18_34]? = some (.cells #[.int .i64 0, .int .i64 0] 60 (0, 0)) := by rw [← hwz]; exact blk_far (blk_far (blk_far XF18_38 (p := ⟨bA18_2, 0, none⟩) (Ne.symm (Ne.symm hAF18_34)) _) (p := ⟨bA18_2, 1, none⟩) (Ne.symm (Ne.symm hAF18_34)) _) (p := ⟨bA18_2, 2, none⟩) (Ne.symm (Ne.symm hAF18_34)) _
                      clear hwz
                      change wpAnyH _ _ _ _ _ (0 + 1) _ _ _
                      refine wpAnyH_lone (k := 16) (o := ?op18_40) (by kernel_rfl) ?hop18_40 ?hhp18_40
                      case hop18_40 => (simp only [List.getElem?_toArray, List.getElem?_cons_zero, List.getElem?_cons_succ]; rfl)
                      intro KK18_40 hK18_40
                      rw [if_pos (by rfl)]
                      clear x0 x1 x2 y0 y1 y2
                      obtain ⟨x0, x1, y0, y1, xs⟩ := cells2 XZ
                      go_simp
                      refine hK18_40.out _ _ ((hh18_39.set (.inr hbF18_34) _).set (.inr hbF18_34) _) (fun hh18_40 => ?_)
                      clear hK18_40 KK18_40
                      have XY := blk_set (blk_set XZ 0 (.int .i64 60)) 1 (.int .i64 n)
                      generalize (wz.setCell ⟨bF18_34, 0, none⟩ _).setCell ⟨bF18_34, 1, none⟩ _ = wy at *
                      refine wpAnyH_done (by kernel_rfl) ?_ _
                      go_wp2
                      go_meet
                      exact ⟨_, rfl, XY, hh18_40⟩
                case hhp18_32 =>
                  intro KK18_32 hK18_32
                  rw [if_pos (by rfl)]
                  go_simp
                  have XF18_32 := blk_new w18_2 (.cells #[.int .i64 0, .int .i64 0] 60)
                  have KS18_32 := KS18_2.alloc (.cells #[.int .i64 0, .int .i64 0] 60)
                  have hbF18_32 : wc.heap.size ≤ w18_2.heap.size := KS18_2.size
                  have hAF18_32 : w18_2.heap.size ≠ bA18_2 := by have := blk_lt XA18_2; omega
                  have XA18_32 := blk_alloc XA18_2 (.cells #[.int .i64 0, .int .i64 0] 60)
                  refine hK18_32.out _ _ KS18_32 (fun hh18_32 => ?_)
                  clear hK18_32 KK18_32 hh18_32
                  generalize w18_2.alloc (.cells #[.int .i64 0, .int .i64 0] 60) = w18_32 at *
                  generalize w18_2.heap.size = bF18_32 at *
                  change wpAnyH _ _ _ _ _ (6 + 1) _ _ _
                  refine wpAnyH_lone (k := 0) (o := ?op18_41) (by kernel_rfl) ?hop18_41 ?hhp18_41
                  case hop18_41 => (simp only [List.getElem?_toArray, List.getElem?_cons_zero, List.getElem?_cons_succ]; rfl)
                  case hhp18_41 =>
                    intro KK18_41 hK18_41
                    rw [if_pos (by rfl)]
                    go_simp
                    refine (great_any _).mono ?_
                    rintro e w18_41 ⟨g18_41, rfl, hg18_41, M18_41, KG18_41⟩
                    go_wp2_with fail
                    have KS18_41 := KS18_32.trans KG18_41
                    have hgb18_41 := Nat.le_trans KS18_32.size hg18_41
                    have hneA18_41 : bA18_2 ≠ g18_41 := by have := blk_lt XA18_32; omega
                    have XA18_41 := KG18_41.blk XA18_32 (by simp)
                    have hneF18_41 : bF18_32 ≠ g18_41 := by have := blk_lt XF18_32; omega
                    have XF18_41 := KG18_41.blk XF18_32 (by simp)
                    refine hK18_41.out _ _ KS18_41 (fun hh18_41 => ?_)
                    clear hK18_41 KK18_41 hh18_41
                    change wpAnyH _ _ _ _ _ (5 + 1) _ _ _
                    refine wpAnyH_lone (k := 9) (o := ?op18_42) (by kernel_rfl) ?hop18_42 ?hhp18_42
                    case hop18_42 => (simp only [List.getElem?_toArray, List.getElem?_cons_zero, List.getElem?_cons_succ]; rfl)
                    case hhp18_42 =>
                      intro KK18_42 hK18_42
                      rw [if_pos (by rfl)]
                      go_simp
                      refine (GT18 _ _ M18_41).mono ?_
                      rintro e w18_42 ⟨A18_42, c18_42, B18_42, d18_42, rfl, KG18_42⟩
                      go_wp2_with fail
                      have KS18_42 : Keep [] wc w18_42 := KS18_41.then (S := []) KG18_42 (by simpa using hgb18_41)
                      have XA18_42 := KG18_42.blk XA18_41 (by simpa using hneA18_41)
                      have XF18_42 := KG18_42.blk XF18_41 (by simpa using hneF18_41)
                      refine hK18_42.out _ _ KS18_42 (fun hh18_42 => ?_)
                      clear hK18_42 KK18_42 hh18_42
                      change wpAnyH _ _ _ _ _ (3 + 2) _ _ _
                      refine anyH_seg 10 3 2 (by simp) (by kernel_rfl) (by kernel_rfl) (fun _ _ d _ _ h => by cases d <;> exact h) KS18_42 ?_
                      simp only [List.drop_succ_cons, List.drop_zero, List.take_succ_cons, List.take_zero]
                      repeat (refine heldL_yes (v := ?_) rfl (fun w hSw => ?_) ?_; rotate_left; (skip; go_simp; (try with_reducible rfl)); (try simp only [Act.put, List.setIfInBounds_toArray, List.set_cons_zero, List.set_cons_succ]))
                      refine heldL_nil ?_
                      change wpAnyH _ _ _ _ _ (1 + 1) _ _ _
                      refine wpAnyH_lone (k := 15) (o := ?op18_43) (by kernel_rfl) ?hop18_43 ?hhp18_43
                      case hop18_43 => (simp only [List.getElem?_toArray, List.getElem?_cons_zero, List.getElem?_cons_succ]; rfl)
                      intro KK18_43 hK18_43
                      rw [if_pos (by rfl)]
                      obtain ⟨x0, x1, x2, y0, y1, y2, ys⟩ := cells3 XA18_42
                      go_simp
                      refine hK18_43.out _ _ (((KS18_42.set (.inr hbA18_2) _).set (.inr hbA18_2) _).set (.inr hbA18_2) _) (fun hh18_43 => ?_)
                      clear hK18_43 KK18_43
                      generalize hwz : ((w18_42.setCell ⟨bA18_2, 0, none⟩ _).setCell ⟨bA18_2, 1, none⟩ _).setCell ⟨bA18_2, 2, none⟩ _ = wz at *
                      have XZ : wz.heap[bF18_32]? = some (.cells #[.int .i64 0, .int .i64 0] 60 (0, 0)) := by rw [← hwz]; exact blk_far (blk_far (blk_far XF18_42 (p := ⟨bA18_2, 0, none⟩) (Ne.symm (Ne.symm hAF18_32)) _) (p := ⟨bA18_2, 1, none⟩) (Ne.symm (Ne.symm hAF18_32)) _) (p := ⟨bA18_2, 2, none⟩) (Ne.symm (Ne.symm hAF18_32)) _
                      clear hwz
                      change wpAnyH _ _ _ _ _ (0 + 1) _ _ _
                      refine wpAnyH_lone (k := 16) (o := ?op18_44) (by kernel_rfl) ?hop18_44 ?hhp18_44
                      case hop18_44 => (simp only [List.getElem?_toArray, List.getElem?_cons_zero, List.getElem?_cons_succ]; rfl)
                      intro KK18_44 hK18_44
                      rw [if_pos (by rfl)]
                      clear x0 x1 x2 y0 y1 y2
                      obtain ⟨x0, x1, y0, y1, xs⟩ := cells2 XZ
                      go_simp
                      refine hK18_44.out _ _ ((hh18_43.set (.inr hbF18_32) _).set (.inr hbF18_32) _) (fun hh18_44 => ?_)
                      clear hK18_44 KK18_44
                      have XY := blk_set (blk_set XZ 0 (.int .i64 60)) 1 (.int .i64 n)
                      generalize (wz.setCell ⟨bF18_32, 0, none⟩ _).setCell ⟨bF18_32, 1, none⟩ _ = wy at *
                      refine wpAnyH_done (by kernel_rfl) ?_ _
                      go_wp2
                      go_meet
                      exact ⟨_, rfl, XY, hh18_44⟩
              case hhp18_3 =>
                intro KK18_3 hK18_3
                rw [if_pos (by rfl)]
                go_simp
                have XF18_3 := blk_new wx18 (.cells #[.int .i64 0, .int .i64 0] 60)
                have KS18_3 := KS18.alloc (.cells #[.int .i64 0, .int .i64 0] 60)
                have hbF18_3 : wc.heap.size ≤ wx18.heap.size := KS18.size
                refine hK18_3.out _ _ KS18_3 (fun hh18_3 => ?_)
                clear hK18_3 KK18_3 hh18_3
                generalize wx18.alloc (.cells #[.int .i64 0, .int .i64 0] 60) = w18_3 at *
                generalize wx18.heap.size = bF18_3 at *
                change wpAnyH _ _ _ _ _ (7 + 1) _ _ _
                refine wpAnyH_two (i := 0) (j := 13) (o1 := ?op18_45) (o2 := ?op18_46) (by kernel_rfl) ?hop18_45 ?hop18_46 ?hhp18_45 ?hhp18_46
                case hop18_45 => (simp only [List.getElem?_toArray, List.getElem?_cons_zero, List.getElem?_cons_succ]; rfl)
                case hop18_46 => (simp only [List.getElem?_toArray, List.getElem?_cons_zero, List.getElem?_cons_succ]; rfl)
                case hhp18_45 =>
                  intro KK18_45 hK18_45
                  rw [if_pos (by rfl)]
                  go_simp
                  refine (great_any _).mono ?_
                  rintro e w18_45 ⟨g18_45, rfl, hg18_45, M18_45, KG18_45⟩
                  go_wp2_with fail
                  have KS18_45 := KS18_3.trans KG18_45
                  have hgb18_45 := Nat.le_trans KS18_3.size hg18_45
                  have hneF18_45 : bF18_3 ≠ g18_45 := by have := blk_lt XF18_3; omega
                  have XF18_45 := KG18_45.blk XF18_3 (by simp)
                  refine hK18_45.out _ _ KS18_45 (fun hh18_45 => ?_)
                  clear hK18_45 KK18_45 hh18_45
                  change wpAnyH _ _ _ _ _ (6 + 1) _ _ _
                  refine wpAnyH_two (i := 9) (j := 13) (o1 := ?op18_47) (o2 := ?op18_48) (by kernel_rfl) ?hop18_47 ?hop18_48 ?hhp18_47 ?hhp18_48
                  case hop18_47 => (simp only [List.getElem?_toArray, List.getElem?_cons_zero, List.getElem?_cons_succ]; rfl)
                  case hop18_48 => (simp only [List.getElem?_toArray, List.getElem?_cons_zero, List.getElem?_cons_succ]; rfl)
                  case hhp18_47 =>
                    intro KK18_47 hK18_47
                    rw [if_pos (by rfl)]
                    go_simp
                    refine (GT18 _ _ M18_45).mono ?_
                    rintro e w18_47 ⟨A18_47, c18_47, B18_47, d18_47, rfl, KG18_47⟩
                    go_wp2_with fail
                    have KS18_47 : Keep [] wc w18_47 := KS18_45.then (S := []) KG18_47 (by simpa using hgb18_45)
                    have XF18_47 := KG18_47.blk XF18_45 (by simpa using hneF18_45)
                    refine hK18_47.out _ _ KS18_47 (fun hh18_47 => ?_)
                    clear hK18_47 KK18_47 hh18_47
                    change wpAnyH _ _ _ _ _ (3 + 3) _ _ _
                    refine anyH_seg 10 3 3 (by simp) (by kernel_rfl) (by kernel_rfl) (fun _ _ d _ _ h => by cases d <;> exact h) KS18_47 ?_
                    simp only [List.drop_succ_cons, List.drop_zero, List.take_succ_cons, List.take_zero]
                    repeat (refine heldL_yes (v := ?_) rfl (fun w hSw => ?_) ?_; rotate_left; (skip; go_simp; (try with_reducible rfl)); (try simp only [Act.put, List.setIfInBounds_toArray, List.set_cons_zero, List.set_cons_succ]))
                    refine heldL_nil ?_
                    change wpAnyH _ _ _ _ _ (2 + 1) _ _ _
                    refine wpAnyH_lone (k := 13) (o := ?op18_49) (by kernel_rfl) ?hop18_49 ?hhp18_49
                    case hop18_49 => (simp only [List.getElem?_toArray, List.getElem?_cons_zero, List.getElem?_cons_succ]; rfl)
                    case hhp18_49 =>
                      intro KK18_49 hK18_49
                      rw [if_pos (by rfl)]
                      go_simp
                      have XA18_49 := blk_new w18_47 (.cells #[.int .i64 0, .slice none 0 0, .slice none 0 0] 25)
                      have KS18_49 := KS18_47.alloc (.cells #[.int .i64 0, .slice none 0 0, .slice none 0 0] 25)
                      have hbA18_49 : wc.heap.size ≤ w18_47.heap.size := KS18_47.size
                      have hAF18_49 : w18_47.heap.size ≠ bF18_3 := by have := blk_lt XF18_47; omega
                      have XF18_49 := blk_alloc XF18_47 (.cells #[.int .i64 0, .slice none 0 0, .slice none 0 0] 25)
                      refine hK18_49.out _ _ KS18_49 (fun hh18_49 => ?_)
                      clear hK18_49 KK18_49 hh18_49
                      generalize w18_47.alloc (.cells #[.int .i64 0, .slice none 0 0, .slice none 0 0] 25) = w18_49 at *
                      generalize w18_47.heap.size = bA18_49 at *
                      change wpAnyH _ _ _ _ _ (1 + 1) _ _ _
                      refine wpAnyH_lone (k := 15) (o := ?op18_50) (by kernel_rfl) ?hop18_50 ?hhp18_50
                      case hop18_50 => (simp only [List.getElem?_toArray, List.getElem?_cons_zero, List.getElem?_cons_succ]; rfl)
                      intro KK18_50 hK18_50
                      rw [if_pos (by rfl)]
                      obtain ⟨x0, x1, x2, y0, y1, y2, ys⟩ := cells3 XA18_49
                      go_simp
                      refine hK18_50.out _ _ (((KS18_49.set (.inr hbA18_49) _).set (.inr hbA18_49) _).set (.inr hbA18_49) _) (fun hh18_50 => ?_)
                      clear hK18_50 KK18_50
                      generalize hwz : ((w18_49.setCell ⟨bA18_49, 0, none⟩ _).setCell ⟨bA18_49, 1, none⟩ _).setCell ⟨bA18_49, 2, none⟩ _ = wz at *
                      have XZ : wz.heap[bF18_3]? = some (.cells #[.int .i64 0, .int .i64 0] 60 (0, 0)) := by rw [← hwz]; exact blk_far (blk_far (blk_far XF18_49 (p := ⟨bA18_49, 0, none⟩) (Ne.symm hAF18_49) _) (p := ⟨bA18_49, 1, none⟩) (Ne.symm hAF18_49) _) (p := ⟨bA18_49, 2, none⟩) (Ne.symm hAF18_49) _
                      clear hwz
                      change wpAnyH _ _ _ _ _ (0 + 1) _ _ _
                      refine wpAnyH_lone (k := 16) (o := ?op18_51) (by kernel_rfl) ?hop18_51 ?hhp18_51
                      case hop18_51 => (simp only [List.getElem?_toArray, List.getElem?_cons_zero, List.getElem?_cons_succ]; rfl)
                      intro KK18_51 hK18_51
                      rw [if_pos (by rfl)]
                      clear x0 x1 x2 y0 y1 y2
                      obtain ⟨x0, x1, y0, y1, xs⟩ := cells2 XZ
                      go_simp
                      refine hK18_51.out _ _ ((hh18_50.set (.inr hbF18_3) _).set (.inr hbF18_3) _) (fun hh18_51 => ?_)
                      clear hK18_51 KK18_51
                      have XY := blk_set (blk_set XZ 0 (.int .i64 60)) 1 (.int .i64 n)
                      generalize (wz.setCell ⟨bF18_3, 0, none⟩ _).setCell ⟨bF18_3, 1, none⟩ _ = wy at *
                      refine wpAnyH_done (by kernel_rfl) ?_ _
                      go_wp2
                      go_meet
                      exact ⟨_, rfl, XY, hh18_51⟩
                  case hhp18_48 =>
                    intro KK18_48 hK18_48
                    rw [if_pos (by rfl)]
                    go_simp
                    have XA18_48 := blk_new w18_45 (.cells #[.int .i64 0, .slice none 0 0, .slice none 0 0] 25)
                    have KS18_48 := KS18_45.alloc (.cells #[.int .i64 0, .slice none 0 0, .slice none 0 0] 25)
                    have hbA18_48 : wc.heap.size ≤ w18_45.heap.size := KS18_45.size
                    have hneA18_48 : w18_45.heap.size ≠ g18_45 := by have := blk_lt M18_45; omega
                    have M18_48 := blk_alloc M18_45 (.cells #[.int .i64 0, .slice none 0 0, .slice none 0 0] 25)
                    have hAF18_48 : w18_45.heap.size ≠ bF18_3 := by have := blk_lt XF18_45; omega
                    have XF18_48 := blk_alloc XF18_45 (.cells #[.int .i64 0, .slice none 0 0, .slice none 0 0] 25)
                    refine hK18_48.out _ _ KS18_48 (fun hh18_48 => ?_)
                    clear hK18_48 KK18_48 hh18_48
                    generalize w18_45.alloc (.cells #[.int .i64 0, .slice none 0 0, .slice none 0 0] 25) = w18_48 at *
                    generalize w18_45.heap.size = bA18_48 at *
                    change wpAnyH _ _ _ _ _ (5 + 1) _ _ _
                    refine wpAnyH_lone (k := 9) (o := ?op18_52) (by kernel_rfl) ?hop18_52 ?hhp18_52
                    case hop18_52 => (simp only [List.getElem?_toArray, List.getElem?_cons_zero, List.getElem?_cons_succ]; rfl)
                    case hhp18_52 =>
                      intro KK18_52 hK18_52
                      rw [if_pos (by rfl)]
                      go_simp
                      refine (GT18 _ _ M18_48).mono ?_
                      rintro e w18_52 ⟨A18_52, c18_52, B18_52, d18_52, rfl, KG18_52⟩
                      go_wp2_with fail
                      have KS18_52 : Keep [] wc w18_52 := KS18_48.then (S := []) KG18_52 (by simpa using hgb18_45)
                      have XA18_52 := KG18_52.blk XA18_48 (by simpa using hneA18_48)
                      have XF18_52 := KG18_52.blk XF18_48 (by simpa using hneF18_45)
                      refine hK18_52.out _ _ KS18_52 (fun hh18_52 => ?_)
                      clear hK18_52 KK18_52 hh18_52
                      change wpAnyH _ _ _ _ _ (3 + 2) _ _ _
                      refine anyH_seg 10 3 2 (by simp) (by kernel_rfl) (by kernel_rfl) (fun _ _ d _ _ h => by cases d <;> exact h) KS18_52 ?_
                      simp only [List.drop_succ_cons, List.drop_zero, List.take_succ_cons, List.take_zero]
                      repeat (refine heldL_yes (v := ?_) rfl (fun w hSw => ?_) ?_; rotate_left; (skip; go_simp; (try with_reducible rfl)); (try simp only [Act.put, List.setIfInBounds_toArray, List.set_cons_zero, List.set_cons_succ]))
                      refine heldL_nil ?_
                      change wpAnyH _ _ _ _ _ (1 + 1) _ _ _
                      refine wpAnyH_lone (k := 15) (o := ?op18_53) (by kernel_rfl) ?hop18_53 ?hhp18_53
                      case hop18_53 => (simp only [List.getElem?_toArray, List.getElem?_cons_zero, List.getElem?_cons_succ]; rfl)
                      intro KK18_53 hK18_53
                      rw [if_pos (by rfl)]
                      obtain ⟨x0, x1, x2, y0, y1, y2, ys⟩ := cells3 XA18_52
                      go_simp
                      refine hK18_53.out _ _ (((KS18_52.set (.inr hbA18_48) _).set (.inr hbA18_48) _).set (.inr hbA18_48) _) (fun hh18_53 => ?_)
                      clear hK18_53 KK18_53
                      generalize hwz : ((w18_52.setCell ⟨bA18_48, 0, none⟩ _).setCell ⟨bA18_48, 1, none⟩ _).setCell ⟨bA18_48, 2, none⟩ _ = wz at *
                      have XZ : wz.heap[bF18_3]? = some (.cells #[.int .i64 0, .int .i64 0] 60 (0, 0)) := by rw [← hwz]; exact blk_far (blk_far (blk_far XF18_52 (p := ⟨bA18_48, 0, none⟩) (Ne.symm hAF18_48) _) (p := ⟨bA18_48, 1, none⟩) (Ne.symm hAF18_48) _) (p := ⟨bA18_48, 2, none⟩) (Ne.symm hAF18_48) _
                      clear hwz
                      change wpAnyH _ _ _ _ _ (0 + 1) _ _ _
                      refine wpAnyH_lone (k := 16) (o := ?op18_54) (by kernel_rfl) ?hop18_54 ?hhp18_54
                      case hop18_54 => (simp only [List.getElem?_toArray, List.getElem?_cons_zero, List.getElem?_cons_succ]; rfl)
                      intro KK18_54 hK18_54
                      rw [if_pos (by rfl)]
                      clear x0 x1 x2 y0 y1 y2
                      obtain ⟨x0, x1, y0, y1, xs⟩ := cells2 XZ
                      go_simp
                      refine hK18_54.out _ _ ((hh18_53.set (.inr hbF18_3) _).set (.inr hbF18_3) _) (fun hh18_54 => ?_)
                      clear hK18_54 KK18_54
                      have XY := blk_set (blk_set XZ 0 (.int .i64 60)) 1 (.int .i64 n)
                      generalize (wz.setCell ⟨bF18_3, 0, none⟩ _).setCell ⟨bF18_3, 1, none⟩ _ = wy at *
                      refine wpAnyH_done (by kernel_rfl) ?_ _
                      go_wp2
                      go_meet
                      exact ⟨_, rfl, XY, hh18_54⟩
                case hhp18_46 =>
                  intro KK18_46 hK18_46
                  rw [if_pos (by rfl)]
                  go_simp
                  have XA18_46 := blk_new w18_3 (.cells #[.int .i64 0, .slice none 0 0, .slice none 0 0] 25)
                  have KS18_46 := KS18_3.alloc (.cells #[.int .i64 0, .slice none 0 0, .slice none 0 0] 25)
                  have hbA18_46 : wc.heap.size ≤ w18_3.heap.size := KS18_3.size
                  have hAF18_46 : w18_3.heap.size ≠ bF18_3 := by have := blk_lt XF18_3; omega
                  have XF18_46 := blk_alloc XF18_3 (.cells #[.int .i64 0, .slice none 0 0, .slice none 0 0] 25)
                  refine hK18_46.out _ _ KS18_46 (fun hh18_46 => ?_)
                  clear hK18_46 KK18_46 hh18_46
                  generalize w18_3.alloc (.cells #[.int .i64 0, .slice none 0 0, .slice none 0 0] 25) = w18_46 at *
                  generalize w18_3.heap.size = bA18_46 at *
                  change wpAnyH _ _ _ _ _ (6 + 1) _ _ _
                  refine wpAnyH_lone (k := 0) (o := ?op18_55) (by kernel_rfl) ?hop18_55 ?hhp18_55
                  case hop18_55 => (simp only [List.getElem?_toArray, List.getElem?_cons_zero, List.getElem?_cons_succ]; rfl)
                  case hhp18_55 =>
                    intro KK18_55 hK18_55
                    rw [if_pos (by rfl)]
                    go_simp
                    refine (great_any _).mono ?_
                    rintro e w18_55 ⟨g18_55, rfl, hg18_55, M18_55, KG18_55⟩
                    go_wp2_with fail
                    have KS18_55 := KS18_46.trans KG18_55
                    have hgb18_55 := Nat.le_trans KS18_46.size hg18_55
                    have hneA18_55 : bA18_46 ≠ g18_55 := by have := blk_lt XA18_46; omega
                    have XA18_55 := KG18_55.blk XA18_46 (by simp)
                    have hneF18_55 : bF18_3 ≠ g18_55 := by have := blk_lt XF18_46; omega
                    have XF18_55 := KG18_55.blk XF18_46 (by simp)
                    refine hK18_55.out _ _ KS18_55 (fun hh18_55 => ?_)
                    clear hK18_55 KK18_55 hh18_55
                    change wpAnyH _ _ _ _ _ (5 + 1) _ _ _
                    refine wpAnyH_lone (k := 9) (o := ?op18_56) (by kernel_rfl) ?hop18_56 ?hhp18_56
                    case hop18_56 => (simp only [List.getElem?_toArray, List.getElem?_cons_zero, List.getElem?_cons_succ]; rfl)
                    case hhp18_56 =>
                      intro KK18_56 hK18_56
                      rw [if_pos (by rfl)]
                      go_simp
                      refine (GT18 _ _ M18_55).mono ?_
                      rintro e w18_56 ⟨A18_56, c18_56, B18_56, d18_56, rfl, KG18_56⟩
                      go_wp2_with fail
                      have KS18_56 : Keep [] wc w18_56 := KS18_55.then (S := []) KG18_56 (by simpa using hgb18_55)
                      have XA18_56 := KG18_56.blk XA18_55 (by simpa using hneA18_55)
                      have XF18_56 := KG18_56.blk XF18_55 (by simpa using hneF18_55)
                      refine hK18_56.out _ _ KS18_56 (fun hh18_56 => ?_)
                      clear hK18_56 KK18_56 hh18_56
                      change wpAnyH _ _ _ _ _ (3 + 2) _ _ _
                      refine anyH_seg 10 3 2 (by simp) (by kernel_rfl) (by kernel_rfl) (fun _ _ d _ _ h => by cases d <;> exact h) KS18_56 ?_
                      simp only [List.drop_succ_cons, List.drop_zero, List.take_succ_cons, List.take_zero]
                      repeat (refine heldL_yes (v := ?_) rfl (fun w hSw => ?_) ?_; rotate_left; (skip; go_simp; (try with_reducible rfl)); (try simp only [Act.put, List.setIfInBounds_toArray, List.set_cons_zero, List.set_cons_succ]))
                      refine heldL_nil ?_
                      change wpAnyH _ _ _ _ _ (1 + 1) _ _ _
                      refine wpAnyH_lone (k := 15) (o := ?op18_57) (by kernel_rfl) ?hop18_57 ?hhp18_57
                      case hop18_57 => (simp only [List.getElem?_toArray, List.getElem?_cons_zero, List.getElem?_cons_succ]; rfl)
                      intro KK18_57 hK18_57
                      rw [if_pos (by rfl)]
                      obtain ⟨x0, x1, x2, y0, y1, y2, ys⟩ := cells3 XA18_56
                      go_simp
                      refine hK18_57.out _ _ (((KS18_56.set (.inr hbA18_46) _).set (.inr hbA18_46) _).set (.inr hbA18_46) _) (fun hh18_57 => ?_)
                      clear hK18_57 KK18_57
                      generalize hwz : ((w18_56.setCell ⟨bA18_46, 0, none⟩ _).setCell ⟨bA18_46, 1, none⟩ _).setCell ⟨bA18_46, 2, none⟩ _ = wz at *
                      have XZ : wz.heap[bF18_3]? = some (.cells #[.int .i64 0, .int .i64 0] 60 (0, 0)) := by rw [← hwz]; exact blk_far (blk_far (blk_far XF18_56 (p := ⟨bA18_46, 0, none⟩) (Ne.symm hAF18_46) _) (p := ⟨bA18_46, 1, none⟩) (Ne.symm hAF18_46) _) (p := ⟨bA18_46, 2, none⟩) (Ne.symm hAF18_46) _
                      clear hwz
                      change wpAnyH _ _ _ _ _ (0 + 1) _ _ _
                      refine wpAnyH_lone (k := 16) (o := ?op18_58) (by kernel_rfl) ?hop18_58 ?hhp18_58
                      case hop18_58 => (simp only [List.getElem?_toArray, List.getElem?_cons_zero, List.getElem?_cons_succ]; rfl)
                      intro KK18_58 hK18_58
                      rw [if_pos (by rfl)]
                      clear x0 x1 x2 y0 y1 y2
                      obtain ⟨x0, x1, y0, y1, xs⟩ := cells2 XZ
                      go_simp
                      refine hK18_58.out _ _ ((hh18_57.set (.inr hbF18_3) _).set (.inr hbF18_3) _) (fun hh18_58 => ?_)
                      clear hK18_58 KK18_58
                      have XY := blk_set (blk_set XZ 0 (.int .i64 60)) 1 (.int .i64 n)
                      generalize (wz.setCell ⟨bF18_3, 0, none⟩ _).setCell ⟨bF18_3, 1, none⟩ _ = wy at *
                      refine wpAnyH_done (by kernel_rfl) ?_ _
                      go_wp2
                      go_meet
                      exact ⟨_, rfl, XY, hh18_58⟩
            case rest =>
              obtain ⟨b16, rfl, X16, K10⟩ := hcut
              replace X12 := K10.blk X12 (by simp)
              replace X14 := K10.blk X14 (by simp)
              obtain ⟨u0, u1, _, _, us⟩ := cells2 X12
              obtain ⟨v0, v1, _, _, vs⟩ := cells2 X14
              obtain ⟨x0, x1, _, _, xs⟩ := cells2 X16
              have hk10 : (k1 != 0) = true := by simp; omega
              go_wp2
              go_ret
              exact ⟨rfl, K9.trans K10⟩
  · have hT := hk1 hkz
    subst hT
    go_wp2
    go_ret
    exact ⟨rfl, K2⟩
set_option maxRecDepth 100000 in
theorem walkFontTurned {H : Type} {enc : TypeId × Value → H} {W : World} {base : Nat} {v0 : Value} {d0 : DataW H} {p0 : List MemPlace} (ok0 : Value.okWide Try.prog W .any base 25 v0) (h0 : DataW.Trod enc Try.prog W 0 (fun _ => true) true 25 v0 d0 p0)
    (z0 : ∀ n ∈ d0.weights Try.prog 25, n ≤ reachBytes) (a : Int) (wa : (Lit.int .i64 a).wf = true) (b : Int) (wb : (Lit.int .i64 b).wf = true) (w : World) (hw : w = W) :
    Calls Try.prog 9 #[v0, .int .i64 a, .int .i64 b] w fun e w' => e = .returned (.bool true) ∧ Below w.heap.size w w' := by
  subst hw
  obtain ⟨f, rfl, hf⟩ := open_font ok0 h0
  refine (walkTurn f a b w hf ((Lit.wf_int_iff _ _).1 wa) ((Lit.wf_int_iff _ _).1 wb)).mono ?_
  rintro e w' ⟨rfl, K⟩
  exact ⟨rfl, K.below (Nat.le_refl _) (by simp)⟩
end Go.Proofs.Ythcfgechifogeaa
