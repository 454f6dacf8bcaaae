/- Font: the reader's read, by a contract. -/
import Derived.Test.YthcfgechifogeaaFnReadLaw
import Derived.Deep.DeepCutAuto
import Derived.Deep.CutBlock
import Derived.WalkMore
namespace Go.Proofs.Ythcfgechifogeaa
open Go.RowKit Go.Maps Go.Lib
set_option linter.unusedSimpArgs false
set_option linter.unusedVariables false

set_option maxHeartbeats 16000000 in
set_option maxRecDepth 100000 in
theorem read_all (X : RX) (hX : X.ok) (base : Nat) (w : World) (h : RdS w X base 0 0 0 0 [] [] none 0 none 0) :
    Calls Try.prog 57 #[.pointer (some ⟨X.rb, 0, none⟩)] w fun e w' => ReadPost X base (readX (LB X.s) X.S) w e w' := by
  obtain ⟨F, hF⟩ : ∃ F, readX (LB X.s) X.S = F := ⟨_, rfl⟩
  have HF0 : Hid (lettersL (LB X.s) X.S ([80, 70, 49].drop 0) 0 (fun p => bodyX (LB X.s) X.S p) = F) := hid hF
  rw [hF]
  clear hF
  have hun := h.under
  have hb0 := h.lt.1
  have N0 := iter_new w ⟨#[80, 70, 49]⟩
  have K0 := keep_new_iter w ⟨#[80, 70, 49]⟩
  have hmf := makeFunc_run
  go_enter Try.func57, Try.ntmps57
  go_wp2_with fail
  go_step3
  go_wp2_with fail
  have h0 := h.keepN hun K0 (by simp)
  have f0 : Fr base X.g w (w.iter ⟨#[80, 70, 49]⟩ 0) := K0.fr hb0 (by simp)
  generalize w.iter ⟨#[80, 70, 49]⟩ 0 = W0 at *
  generalize hn0 : w.heap.size = n0 at *
  clear hn0 K0 h
  go_loopw [3, 4] (fun _ _ wr => ∃ i : Nat, i ≤ 3 ∧ wr.heap[n0]? = some (.stringIter ⟨#[80, 70, 49]⟩ i) ∧ RdS wr X base i 0 0 0 [] [] none 0 none 0 ∧ Fr base X.g w wr ∧ Hid (lettersL (LB X.s) X.S ([80, 70, 49].drop i) i (fun p => bodyX (LB X.s) X.S p) = F)) (fun _ _ wr => 3 - wr.iterPos n0)
  case atStart => exact ⟨0, by omega, N0, h0, f0, HF0⟩
  case round =>
    clear N0 h0 f0 HF0
    obtain ⟨i, hi, N, R, Fw, HF⟩ := hrel
    have hcase : i = 0 ∨ i = 1 ∨ i = 2 ∨ i = 3 := by omega
    rcases hcase with rfl | rfl | rfl | rfl
    · have hnx : ∀ ty, (Instr.next (.pointer (some ⟨n0, 0, none⟩)) true ty).run Try.prog wr = _ := fun ty => run_next_ascii_at wr n0 ⟨#[80, 70, 49]⟩ 0 ty N (by decide) (by decide)
      have KI : Keep [n0] wr (wr.iterAt n0 ⟨#[80, 70, 49]⟩ (0 + 1)) := keep_iter (Keep.refl _ _) (.inl (by simp)) _ _
      have N1 := iterAt_heap wr n0 ⟨#[80, 70, 49]⟩ 0 (0 + 1) N
      have R1 := R.keepI hun KI
      have HB := byte_any X hX 0 0 0 0 _ _ _ R1.rd R1.meter R1.ps_ R1.sz
      obtain ⟨r, hr⟩ : ∃ r, byteX (LB X.s) X.S 0 = r := ⟨_, rfl⟩
      rw [hr] at HB
      go_wp2_with fail
      refine HB.mono ?_
      clear HB hnx
      rintro e w1 ⟨K1, HP⟩
      have hp1 := iterPos_of N
      have Fw1 : Fr base X.g w w1 := Fw.trans ((KI.fr R.lt.1 (by simp; exact .inr hun.b)).trans (K1.fr R1.lt.1 (by simp; exact .inr R1.bR)))
      have N2 := K1.blk N1 (by simp; exact ⟨by have := hun.g; omega, by have := hun.r; omega⟩)
      have hp2 := iterPos_of N2
      cases r with
      | error e0 =>
        obtain ⟨k', a', q'⟩ := e0
        obtain ⟨rfl, R2, M2, hq, hs⟩ := HP
        have hFe : F = .error (k', a', q') := by
          rw [← HF.out]
          show (letterX (LB X.s) X.S 80 0).bind _ = _
          unfold letterX
          rw [hr]
          rfl
        go_wp2
        go_ret
        rw [hFe]
        exact ⟨Fw1, rfl, ⟨_, _, _, R2⟩, M2, hq, hs⟩
      | ok v0 =>
        obtain ⟨x, q⟩ := v0
        obtain ⟨rfl, R2, M2, hq, hs⟩ := HP
        obtain ⟨hq1, hxb, _⟩ := byteX_ok hr
        have hxl := LB_all _ _ (List.mem_of_getElem? hxb)
        have R3 := R1.read K1 R2 M2 hq hs
        by_cases hx : x = 80
        · subst hx
          have HF1 : Hid (lettersL (LB X.s) X.S ([80, 70, 49].drop (0 + 1)) (0 + 1) (fun p => bodyX (LB X.s) X.S p) = F) := hid (by
            rw [← HF.out]
            show _ = (letterX (LB X.s) X.S 80 0).bind _
            unfold letterX
            rw [hr, hq1]
            rfl)
          subst hq1
          clear HF hr R R1 R2 N N1 KI K1 M2 Fw
          go_wp2_with fail
          exact ⟨⟨0 + 1, by omega, N2, R3, Fw1, HF1⟩, by rw [hp1, hp2]; omega⟩
        · subst hq1
          have hne : ((x : Int) != ((((⟨#[80, 70, 49]⟩ : ByteArray)[0]'(by decide)).toNat : Nat) : Int)) = true := by show ((x : Int) != (80 : Int)) = true; simp; omega
          have hFe : F = .error (60, (0 : Int), 0 + 1) := by
            rw [← HF.out]
            show (letterX (LB X.s) X.S 80 0).bind _ = _
            unfold letterX
            rw [hr]
            show PR.bind (if x = 80 then _ else _) _ = _
            rw [if_neg hx]
            rfl
          obtain ⟨c0, c1, c2, c3, c4, c5, c6, c7, c8⟩ := cells9 R2
          obtain ⟨f2, f3, f4, hlt2⟩ := free9 R2
          have hsz := hX.sz
          have hneX := hX.ne
          clear HF hr R R1 N N1 KI hx
          go_wp2
          go_ret
          rw [hFe]
          refine ⟨Fw1.trans ((keepF (Keep.refl [X.rb] w1) (by simp)).fr R3.lt.1 (by simp; exact .inr R3.bR)), rfl, ⟨_, _, _, IsRd.fault R2⟩, ?_, hq, hs⟩
          rw [mBad_at (by decide)]
          exact IsM.keep (S := [X.rb]) M2 (keepF (Keep.refl _ w1) (by simp)) (by simpa using Ne.symm hneX)
    · have hnx : ∀ ty, (Instr.next (.pointer (some ⟨n0, 0, none⟩)) true ty).run Try.prog wr = _ := fun ty => run_next_ascii_at wr n0 ⟨#[80, 70, 49]⟩ 1 ty N (by decide) (by decide)
      have KI : Keep [n0] wr (wr.iterAt n0 ⟨#[80, 70, 49]⟩ (1 + 1)) := keep_iter (Keep.refl _ _) (.inl (by simp)) _ _
      have N1 := iterAt_heap wr n0 ⟨#[80, 70, 49]⟩ 1 (1 + 1) N
      have R1 := R.keepI hun KI
      have HB := byte_any X hX 1 0 0 0 _ _ _ R1.rd R1.meter R1.ps_ R1.sz
      obtain ⟨r, hr⟩ : ∃ r, byteX (LB X.s) X.S 1 = r := ⟨_, rfl⟩
      rw [hr] at HB
      go_wp2_with fail
      refine HB.mono ?_
      clear HB hnx
      rintro e w1 ⟨K1, HP⟩
      have hp1 := iterPos_of N
      have Fw1 : Fr base X.g w w1 := Fw.trans ((KI.fr R.lt.1 (by simp; exact .inr hun.b)).trans (K1.fr R1.lt.1 (by simp; exact .inr R1.bR)))
      have N2 := K1.blk N1 (by simp; exact ⟨by have := hun.g; omega, by have := hun.r; omega⟩)
      have hp2 := iterPos_of N2
      cases r with
      | error e0 =>
        obtain ⟨k', a', q'⟩ := e0
        obtain ⟨rfl, R2, M2, hq, hs⟩ := HP
        have hFe : F = .error (k', a', q') := by
          rw [← HF.out]
          show (letterX (LB X.s) X.S 70 1).bind _ = _
          unfold letterX
          rw [hr]
          rfl
        go_wp2
        go_ret
        rw [hFe]
        exact ⟨Fw1, rfl, ⟨_, _, _, R2⟩, M2, hq, hs⟩
      | ok v0 =>
        obtain ⟨x, q⟩ := v0
        obtain ⟨rfl, R2, M2, hq, hs⟩ := HP
        obtain ⟨hq1, hxb, _⟩ := byteX_ok hr
        have hxl := LB_all _ _ (List.mem_of_getElem? hxb)
        have R3 := R1.read K1 R2 M2 hq hs
        by_cases hx : x = 70
        · subst hx
          have HF1 : Hid (lettersL (LB X.s) X.S ([80, 70, 49].drop (1 + 1)) (1 + 1) (fun p => bodyX (LB X.s) X.S p) = F) := hid (by
            rw [← HF.out]
            show _ = (letterX (LB X.s) X.S 70 1).bind _
            unfold letterX
            rw [hr, hq1]
            rfl)
          subst hq1
          clear HF hr R R1 R2 N N1 KI K1 M2 Fw
          go_wp2_with fail
          exact ⟨⟨1 + 1, by omega, N2, R3, Fw1, HF1⟩, by rw [hp1, hp2]; omega⟩
        · subst hq1
          have hne : ((x : Int) != ((((⟨#[80, 70, 49]⟩ : ByteArray)[1]'(by decide)).toNat : Nat) : Int)) = true := by show ((x : Int) != (70 : Int)) = true; simp; omega
          have hFe : F = .error (60, (1 : Int), 1 + 1) := by
            rw [← HF.out]
            show (letterX (LB X.s) X.S 70 1).bind _ = _
            unfold letterX
            rw [hr]
            show PR.bind (if x = 70 then _ else _) _ = _
            rw [if_neg hx]
            rfl
          obtain ⟨c0, c1, c2, c3, c4, c5, c6, c7, c8⟩ := cells9 R2
          obtain ⟨f2, f3, f4, hlt2⟩ := free9 R2
          have hsz := hX.sz
          have hneX := hX.ne
          clear HF hr R R1 N N1 KI hx
          go_wp2
          go_ret
          rw [hFe]
          refine ⟨Fw1.trans ((keepF (Keep.refl [X.rb] w1) (by simp)).fr R3.lt.1 (by simp; exact .inr R3.bR)), rfl, ⟨_, _, _, IsRd.fault R2⟩, ?_, hq, hs⟩
          rw [mBad_at (by decide)]
          exact IsM.keep (S := [X.rb]) M2 (keepF (Keep.refl _ w1) (by simp)) (by simpa using Ne.symm hneX)
    · have hnx : ∀ ty, (Instr.next (.pointer (some ⟨n0, 0, none⟩)) true ty).run Try.prog wr = _ := fun ty => run_next_ascii_at wr n0 ⟨#[80, 70, 49]⟩ 2 ty N (by decide) (by decide)
      have KI : Keep [n0] wr (wr.iterAt n0 ⟨#[80, 70, 49]⟩ (2 + 1)) := keep_iter (Keep.refl _ _) (.inl (by simp)) _ _
      have N1 := iterAt_heap wr n0 ⟨#[80, 70, 49]⟩ 2 (2 + 1) N
      have R1 := R.keepI hun KI
      have HB := byte_any X hX 2 0 0 0 _ _ _ R1.rd R1.meter R1.ps_ R1.sz
      obtain ⟨r, hr⟩ : ∃ r, byteX (LB X.s) X.S 2 = r := ⟨_, rfl⟩
      rw [hr] at HB
      go_wp2_with fail
      refine HB.mono ?_
      clear HB hnx
      rintro e w1 ⟨K1, HP⟩
      have hp1 := iterPos_of N
      have Fw1 : Fr base X.g w w1 := Fw.trans ((KI.fr R.lt.1 (by simp; exact .inr hun.b)).trans (K1.fr R1.lt.1 (by simp; exact .inr R1.bR)))
      have N2 := K1.blk N1 (by simp; exact ⟨by have := hun.g; omega, by have := hun.r; omega⟩)
      have hp2 := iterPos_of N2
      cases r with
      | error e0 =>
        obtain ⟨k', a', q'⟩ := e0
        obtain ⟨rfl, R2, M2, hq, hs⟩ := HP
        have hFe : F = .error (k', a', q') := by
          rw [← HF.out]
          show (letterX (LB X.s) X.S 49 2).bind _ = _
          unfold letterX
          rw [hr]
          rfl
        go_wp2
        go_ret
        rw [hFe]
        exact ⟨Fw1, rfl, ⟨_, _, _, R2⟩, M2, hq, hs⟩
      | ok v0 =>
        obtain ⟨x, q⟩ := v0
        obtain ⟨rfl, R2, M2, hq, hs⟩ := HP
        obtain ⟨hq1, hxb, _⟩ := byteX_ok hr
        have hxl := LB_all _ _ (List.mem_of_getElem? hxb)
        have R3 := R1.read K1 R2 M2 hq hs
        by_cases hx : x = 49
        · subst hx
          have HF1 : Hid (lettersL (LB X.s) X.S ([80, 70, 49].drop (2 + 1)) (2 + 1) (fun p => bodyX (LB X.s) X.S p) = F) := hid (by
            rw [← HF.out]
            show _ = (letterX (LB X.s) X.S 49 2).bind _
            unfold letterX
            rw [hr, hq1]
            rfl)
          subst hq1
          clear HF hr R R1 R2 N N1 KI K1 M2 Fw
          go_wp2_with fail
          exact ⟨⟨2 + 1, by omega, N2, R3, Fw1, HF1⟩, by rw [hp1, hp2]; omega⟩
        · subst hq1
          have hne : ((x : Int) != ((((⟨#[80, 70, 49]⟩ : ByteArray)[2]'(by decide)).toNat : Nat) : Int)) = true := by show ((x : Int) != (49 : Int)) = true; simp; omega
          have hFe : F = .error (60, (2 : Int), 2 + 1) := by
            rw [← HF.out]
            show (letterX (LB X.s) X.S 49 2).bind _ = _
            unfold letterX
            rw [hr]
            show PR.bind (if x = 49 then _ else _) _ = _
            rw [if_neg hx]
            rfl
          obtain ⟨c0, c1, c2, c3, c4, c5, c6, c7, c8⟩ := cells9 R2
          obtain ⟨f2, f3, f4, hlt2⟩ := free9 R2
          have hsz := hX.sz
          have hneX := hX.ne
          clear HF hr R R1 N N1 KI hx
          go_wp2
          go_ret
          rw [hFe]
          refine ⟨Fw1.trans ((keepF (Keep.refl [X.rb] w1) (by simp)).fr R3.lt.1 (by simp; exact .inr R3.bR)), rfl, ⟨_, _, _, IsRd.fault R2⟩, ?_, hq, hs⟩
          rw [mBad_at (by decide)]
          exact IsM.keep (S := [X.rb]) M2 (keepF (Keep.refl _ w1) (by simp)) (by simpa using Ne.symm hneX)
    · have hnx : ∀ ty, (Instr.next (.pointer (some ⟨n0, 0, none⟩)) true ty).run Try.prog wr = _ := fun ty => run_next_end_at wr n0 ⟨#[80, 70, 49]⟩ 3 ty N (by decide)
      have HF1 : Hid ((numX (LB X.s) X.S 2 (toR 1 16384) 3).bind (fun em p => countF (LB X.s) X.S em p) = F) := hid HF.out
      have HF := HF1
      clear HF1 hun N
      obtain ⟨B0, B1, B2, B3, B4, B5⟩ := R.boxes 1 16384
      have HN := numb_any X hX 3 2 88 #[] #[.pointer (some ⟨wr.heap.size, 0, none⟩), .pointer (some ⟨wr.heap.size + 1, 0, none⟩)] (toR 1 16384) 0 0 0 _ _ _ B0.rd B0.meter B0.ps_ B0.sz (by omega) enters_to (right_to (lo := 1) (hi := 16384) B2 B3 B4 B5)
      obtain ⟨r, hr⟩ : ∃ r, numX (LB X.s) X.S 2 (toR 1 16384) 3 = r := ⟨_, rfl⟩
      rw [hr] at HN
      go_wp2_with fail
      refine (to_at 1 16384 wr).mono ?_
      rintro e wt ⟨rfl, rfl⟩
      go_wp2_with fail
      refine HN.mono ?_
      clear HN
      rintro e w1 ⟨K1, HP⟩
      have Fw1 := Fw.trans (B1.trans (K1.fr B0.lt.1 (by simp; exact .inr B0.bR)))
      cases r with
      | error e0 =>
        obtain ⟨k', a', q'⟩ := e0
        obtain ⟨rfl, R2, M2, hq, hs⟩ := HP
        have hFe : F = .error (k', a', q') := by rw [← HF.out, hr]; rfl
        go_wp2
        try rw [Exit.noGoto_ret]
        go_ret
        rw [hFe]
        exact ⟨Fw1, rfl, ⟨_, _, _, R2⟩, M2, hq, hs⟩
      | ok v0 =>
        obtain ⟨em, q1⟩ := v0
        obtain ⟨rfl, R2, M2, hq, hs⟩ := HP
        have R1 := B0.read K1 R2 M2 hq hs
        have Qem := hid (numX_ok hr).1
        have HF1 : Hid (countF (LB X.s) X.S em q1 = F) := hid (by rw [← HF.out, hr]; rfl)
        clear HF hr R R2 M2 K1 B0 B1 B2 B3 B4 B5 Fw
        obtain ⟨c0, c1, c2, c3, c4, c5, c6, c7, c8⟩ := cells9 R1.rd
        have crf := blk_free R1.rd 6
        have hlr := blk_lt R1.rd
        obtain ⟨R, Fe⟩ := R1.em hX.ne ((em : Nat) : Int)
        have Fw := Fw1.trans Fe
        have HF : Hid ((numX (LB X.s) X.S 2 (toR 0 1024) q1).bind (fun n p => glyphsF (LB X.s) X.S em n [] p) = F) := HF1
        go_upto_region 14 with (fail)
        clear c0 c1 c2 c3 c4 c5 c6 c7 c8 crf hlr R1 Fw1 Fe HF1 hnx
        generalize w1.setCell ⟨X.rb, 6, none⟩ (.int .i64 ((em : Nat) : Int)) = V1 at *
        obtain ⟨B0, B1, B2, B3, B4, B5⟩ := R.boxes 0 1024
        have HN := numb_any X hX q1 2 88 #[] #[.pointer (some ⟨V1.heap.size, 0, none⟩), .pointer (some ⟨V1.heap.size + 1, 0, none⟩)] (toR 0 1024) 0 0 em _ _ _ B0.rd B0.meter B0.ps_ B0.sz (by omega) enters_to (right_to (lo := 0) (hi := 1024) B2 B3 B4 B5)
        obtain ⟨r, hr⟩ : ∃ r, numX (LB X.s) X.S 2 (toR 0 1024) q1 = r := ⟨_, rfl⟩
        rw [hr] at HN
        go_wp2_with fail
        refine (to_at 0 1024 V1).mono ?_
        rintro e wt ⟨rfl, rfl⟩
        go_wp2_with fail
        refine HN.mono ?_
        clear HN
        rintro e w2 ⟨K1, HP⟩
        have Fw1 := Fw.trans (B1.trans (K1.fr B0.lt.1 (by simp; exact .inr B0.bR)))
        cases r with
        | error e0 =>
          obtain ⟨k', a', q'⟩ := e0
          obtain ⟨rfl, R2, M2, hq, hs⟩ := HP
          have hFe : F = .error (k', a', q') := by rw [← HF.out, hr]; rfl
          go_wp2
          try rw [Exit.noGoto_ret]
          go_ret
          rw [hFe]
          exact ⟨Fw1, rfl, ⟨_, _, _, R2⟩, M2, hq, hs⟩
        | ok v0 =>
          obtain ⟨n, q2⟩ := v0
          obtain ⟨rfl, R2, M2, hq, hs⟩ := HP
          have R1 := B0.read K1 R2 M2 hq hs
          have Qn := hid (numX_ok hr).1
          have HF1 : Hid (glyphsF (LB X.s) X.S em n [] q2 = F) := hid (by rw [← HF.out, hr]; rfl)
          clear HF hr R R2 M2 K1 B0 B1 B2 B3 B4 B5 Fw
          have hn1 : n ≤ 1024 := by have := Qn.out; simp [toR] at this; omega
          go_wp2_with fail
          go_step3
          go_wp2_with fail
          have hI : ∃ (j q : Nat) (gs : List GlyphX) (ps : List PairX) (A : Option Addr) (c : Nat) (B : Option Addr) (d : Nat) (pb : Bool), (Value.int .i64 (n : Int)) = .int .i64 (j : Int) ∧ Value.bool false = .bool pb ∧ (Value.func (.func 81) #[.pointer (some ⟨X.rb, 0, none⟩)] #[]) = .func (.func (if pb = true then 82 else 81)) #[.pointer (some ⟨X.rb, 0, none⟩)] #[] ∧ RdS w2 X base q 0 0 em gs ps A c B d ∧ Fr base X.g w w2 ∧
              ((pb = false ∧ ps = [] ∧ gs.length + j ≤ 1024 ∧ Hid (glyphsF (LB X.s) X.S em j gs q = F)) ∨ (pb = true ∧ gs.length ≤ 1024 ∧ ps.length + j ≤ 4096 ∧ Hid (pairsF (LB X.s) X.S em gs j ps q = F))) ∧ Ris gs ∧ GOK gs :=
            ⟨n, q2, [], [], _, _, _, _, false, rfl, rfl, rfl, R1, Fw1, .inl ⟨rfl, rfl, by simpa using hn1, HF1⟩, fun _ h => (nomatch h), fun _ h => (nomatch h)⟩
          clear R1 Fw1 HF1 hn1 Qn
          go_loopw [8, 9, 10] (fun v8 v9 v10 wr => ∃ (j q : Nat) (gs : List GlyphX) (ps : List PairX) (A : Option Addr) (c : Nat) (B : Option Addr) (d : Nat) (pb : Bool), v8 = .int .i64 (j : Int) ∧ v10 = .bool pb ∧ v9 = .func (.func (if pb = true then 82 else 81)) #[.pointer (some ⟨X.rb, 0, none⟩)] #[] ∧ RdS wr X base q 0 0 em gs ps A c B d ∧ Fr base X.g w wr ∧
              ((pb = false ∧ ps = [] ∧ gs.length + j ≤ 1024 ∧ Hid (glyphsF (LB X.s) X.S em j gs q = F)) ∨ (pb = true ∧ gs.length ≤ 1024 ∧ ps.length + j ≤ 4096 ∧ Hid (pairsF (LB X.s) X.S em gs j ps q = F))) ∧ Ris gs ∧ GOK gs) (fun v8 _ v10 _ => (intOf v8).toNat + (match v10 with | .bool true => 0 | _ => 5000))
          case atStart => exact hI
          case round =>
            clear hI
            obtain ⟨j, q, gs, ps, A, c, B, d, pb, rfl, rfl, rfl, R, Fw, HC, hris, hgok⟩ := hrel
            rcases HC with ⟨rfl, rfl, hlen, HF⟩ | ⟨rfl, hlen, hlen2, HF⟩
            · simp only [Bool.false_eq_true, if_false]
              by_cases hj : j = 0
              · subst hj
                have HF0 : Hid (manyF (LB X.s) X.S em gs q = F) := hid HF.out
                have HF1 : Hid ((numX (LB X.s) X.S 2 (toR 0 4096) q).bind (fun m p => pairsF (LB X.s) X.S em gs m [] p) = F) := HF0
                have HF := HF1
                clear HF0 HF1
                obtain ⟨B0, B1, B2, B3, B4, B5⟩ := R.boxes 0 4096
                have HN := numb_any X hX q 2 88 #[] #[.pointer (some ⟨wr.heap.size, 0, none⟩), .pointer (some ⟨wr.heap.size + 1, 0, none⟩)] (toR 0 4096) 0 0 em _ _ _ B0.rd B0.meter B0.ps_ B0.sz (by omega) enters_to (right_to (lo := 0) (hi := 4096) B2 B3 B4 B5)
                obtain ⟨r, hr⟩ : ∃ r, numX (LB X.s) X.S 2 (toR 0 4096) q = r := ⟨_, rfl⟩
                rw [hr] at HN
                go_wp2_with fail
                refine (to_at 0 4096 wr).mono ?_
                rintro e wt ⟨rfl, rfl⟩
                go_wp2_with fail
                refine HN.mono ?_
                clear HN
                rintro e w3 ⟨K1, HP⟩
                have Fw1 := Fw.trans (B1.trans (K1.fr B0.lt.1 (by simp; exact .inr B0.bR)))
                cases r with
                | error e0 =>
                  obtain ⟨k', a', q'⟩ := e0
                  obtain ⟨rfl, R2, M2, hq, hs⟩ := HP
                  have hFe : F = .error (k', a', q') := by rw [← HF.out, hr]; rfl
                  go_wp2
                  try rw [Exit.noGoto_ret]
                  go_ret
                  rw [hFe]
                  exact ⟨Fw1, rfl, ⟨_, _, _, R2⟩, M2, hq, hs⟩
                | ok v0 =>
                  obtain ⟨m, q3⟩ := v0
                  obtain ⟨rfl, R2, M2, hq, hs⟩ := HP
                  have R1 := B0.read K1 R2 M2 hq hs
                  have Qm := hid (numX_ok hr).1
                  have HF1 : Hid (pairsF (LB X.s) X.S em gs m [] q3 = F) := hid (by rw [← HF.out, hr]; rfl)
                  clear HF hr R R2 M2 K1 B0 B1 B2 B3 B4 B5 Fw
                  have hm1 : m ≤ 4096 := by have := Qm.out; simp [toR] at this; omega
                  go_wp2_with fail
                  exact ⟨⟨m, q3, gs, [], _, _, _, _, true, rfl, rfl, rfl, R1, Fw1, .inr ⟨rfl, by omega, by simpa using hm1, HF1⟩, hris, hgok⟩, by simp [intOf]; omega⟩
              · obtain ⟨i, rfl⟩ : ∃ i, j = i + 1 := ⟨j - 1, by omega⟩
                have hjp : (0 : Int) < ((i + 1 : Nat) : Int) := by omega
                have hwi : IntKind.i64.wrap (((i + 1 : Nat) : Int) - 1) = (i : Int) := by rw [show ((i + 1 : Nat) : Int) - 1 = (i : Int) by omega]; exact IntWalk.i64_in _ (by omega)
                have HF1 : Hid ((glyphX (LB X.s) X.S (lastG gs) q).bind (fun g p => glyphsF (LB X.s) X.S em i (gs ++ [g]) p) = F) := hid (by rw [← glyphsF_more]; exact HF.out)
                obtain ⟨r, hr⟩ : ∃ r, glyphX (LB X.s) X.S (lastG gs) q = r := ⟨_, rfl⟩
                have HG := glyph_reads X hX base q 0 0 em gs [] A c B d wr R (by omega) hris
                rw [hr] at HG
                go_wp2_with fail
                refine HG.mono ?_
                clear HG
                rintro e w3 ⟨F1, HP⟩
                have Fw1 := Fw.trans F1
                cases r with
                | error e0 =>
                  obtain ⟨k', a', q'⟩ := e0
                  obtain ⟨rfl, R2, M2, hq, hs⟩ := HP
                  have hFe : F = .error (k', a', q') := by rw [← HF1.out, hr]; rfl
                  go_wp2
                  try rw [Exit.noGoto_ret]
                  go_ret
                  rw [hFe]
                  exact ⟨Fw1, rfl, ⟨_, _, _, R2⟩, M2, hq, hs⟩
                | ok v0 =>
                  obtain ⟨g, q'⟩ := v0
                  obtain ⟨rfl, A', c', R1⟩ := HP
                  have hg := glyphX_ok hr
                  have HF2 : Hid (glyphsF (LB X.s) X.S em i (gs ++ [g]) q' = F) := hid (by rw [← HF1.out, hr]; rfl)
                  clear HF HF1 hr R Fw F1
                  go_wp2_with fail
                  exact ⟨⟨i, q', gs ++ [g], [], A', c', B, d, false, rfl, rfl, rfl, R1, Fw1, .inl ⟨rfl, rfl, by simp; omega, HF2⟩, hris.snoc hg.1, hgok.snoc ⟨hg.2.1, hg.2.2.2.1⟩⟩, by simp [intOf] <;> omega⟩
            · simp only [if_true]
              by_cases hj : j = 0
              · subst hj
                have HF1 : Hid ((tailX (LB X.s) X.S q).bind (fun _ p => .ok (((em : Int), gs, ps), p)) = F) := hid HF.out
                have HF := HF1
                clear HF1
                have hRb := R.rd
                obtain ⟨c0, c1, c2, c3, c4, c5, c6, c7, c8⟩ := cells9 hRb
                have hq2 := R.sz
                have hsz := hX.sz
                have hrl := blk_lt hRb
                have kb := fun W => run_bytes_of_string (P := Try.prog) W 9 66 5 (X.s.extract 0 q) Try.underlying9 Try.underlying66 Try.underlying5
                have hxs : (X.s.extract 0 q).size ≤ 140737488355328 := by simp [ByteArray.size_extract]; omega
                go_upto_region 28 with (fail)
                go_cut [11] from 83 to 93 (fun v wc => ∃ bx, v = .pointer (some ⟨bx, 0, none⟩) ∧ wc.heap[bx]? = some (.cells #[.int .u32 (sumX ((LB X.s).take q) : Int)] 96 (0, 0)) ∧ wr.heap.size ≤ bx ∧ Keep [] wr wc)
                case first =>
                  refine wp_region_held_lex 9 (fun w' => Keep [] wr w') (by kernel_rfl) (by simp) (by kernel_rfl) (by kernel_rfl) (fun _ _ d _ _ h => by cases d <;> exact h) (Keep.refl _ _).drew ?_
                  simp only [List.take_succ_cons, List.take_zero]
                  repeat (refine heldL_yes (v := ?_) rfl (fun w hSw => ?_) ?_; rotate_left; (have y1 := hSw.cell' c1 (by simp); have y2 := hSw.cell' c2 (by simp); go_simp; (try with_reducible rfl)); (try simp only [Act.put, List.setIfInBounds_toArray, List.set_cons_zero, List.set_cons_succ]))
                  refine heldL_nil ?_
                  change wpAnyH _ _ _ _ _ (3 + 1) _ _ _
                  refine wpAnyH_two (i := 9) (j := 11) (o1 := ?op1) (o2 := ?op2) (by kernel_rfl) ?hop1 ?hop2 ?hhp1 ?hhp2
                  case hop1 => (simp only [List.getElem?_toArray, List.getElem?_cons_zero, List.getElem?_cons_succ]; rfl)
                  case hop2 => (simp only [List.getElem?_toArray, List.getElem?_cons_zero, List.getElem?_cons_succ]; rfl)
                  case hhp1 =>
                    intro KKp1 hKp1
                    rw [if_pos (by rfl)]
                    go_simp
                    refine hKp1.out _ _ (by repeat (with_reducible first | exact Keep.refl _ _ | refine Keep.drew ?_ | refine Keep.alloc ?_ _ | refine Keep.set ?_ (.inr (by simp)) _)) (fun hhp1 => ?_)
                    clear hKp1 KKp1 hhp1
                    change wpAnyH _ _ _ _ _ (2 + 1) _ _ _
                    refine wpAnyH_two (i := 10) (j := 11) (o1 := ?op3) (o2 := ?op4) (by kernel_rfl) ?hop3 ?hop4 ?hhp3 ?hhp4
                    case hop3 => (simp only [List.getElem?_toArray, List.getElem?_cons_zero, List.getElem?_cons_succ]; rfl)
                    case hop4 => (simp only [List.getElem?_toArray, List.getElem?_cons_zero, List.getElem?_cons_succ]; rfl)
                    case hhp3 =>
                      intro KKp3 hKp3
                      rw [if_pos (by rfl)]
                      go_simp
                      refine (sumS_at _ _ q (X.s.extract 0 q) _ _ _ _ (by simp [ByteArray.size_extract]; omega) (by (repeat (refine blk_drew ?_)); first | exact blk_new _ _ | exact blk_alloc (blk_new _ _) _ | exact blk_new1 _ _ _) hxs).mono ?_
                      rintro e ws ⟨rfl, rfl⟩
                      go_wp2_with fail
                      refine hKp3.out _ _ (by repeat (with_reducible first | exact Keep.refl _ _ | refine Keep.drew ?_ | refine Keep.alloc ?_ _ | refine Keep.set ?_ (.inr (by simp)) _)) (fun hhp3 => ?_)
                      clear hKp3 KKp3 hhp3
                      change wpAnyH _ _ _ _ _ (1 + 1) _ _ _
                      refine wpAnyH_lone (k := 11) (o := ?op5) (by kernel_rfl) ?hop5 ?hhp5
                      case hop5 => (simp only [List.getElem?_toArray, List.getElem?_cons_zero, List.getElem?_cons_succ]; rfl)
                      intro KKp5 hKp5
                      rw [if_pos (by rfl)]
                      go_simp
                      refine hKp5.out _ _ (by repeat (with_reducible first | exact Keep.refl _ _ | refine Keep.drew ?_ | refine Keep.alloc ?_ _ | refine Keep.set ?_ (.inr (by simp)) _)) (fun hhp5 => ?_)
                      clear hKp5 KKp5 hhp5
                      change wpAnyH _ _ _ _ _ (0 + 1) _ _ _
                      refine wpAnyH_lone (k := 12) (o := ?op6) (by kernel_rfl) ?hop6 ?hhp6
                      case hop6 => (simp only [List.getElem?_toArray, List.getElem?_cons_zero, List.getElem?_cons_succ]; rfl)
                      intro KKp6 hKp6
                      rw [if_pos (by rfl)]
                      go_simp
                      refine hKp6.out _ _ (by repeat (with_reducible first | exact Keep.refl _ _ | refine Keep.drew ?_ | refine Keep.alloc ?_ _ | refine Keep.set ?_ (.inr (by simp)) _)) (fun hhp6 => ?_)
                      clear hKp6 KKp6 hhp6
                      refine wpAnyH_done (by kernel_rfl) ?_ _
                      go_wp2
                      go_meet
                      rw [LB_take]
                      exact ⟨_, rfl, by (repeat (refine blk_drew ?_)); first | exact blk_new1 _ _ _ | exact blk_alloc (blk_new _ _) _, by omega, (by repeat (with_reducible first | exact Keep.refl _ _ | refine Keep.drew ?_ | refine Keep.alloc ?_ _ | refine Keep.set ?_ (.inr (by simp)) _))⟩
                    case hhp4 =>
                      intro KKp4 hKp4
                      rw [if_pos (by rfl)]
                      go_simp
                      refine hKp4.out _ _ (by repeat (with_reducible first | exact Keep.refl _ _ | refine Keep.drew ?_ | refine Keep.alloc ?_ _ | refine Keep.set ?_ (.inr (by simp)) _)) (fun hhp4 => ?_)
                      clear hKp4 KKp4 hhp4
                      change wpAnyH _ _ _ _ _ (1 + 1) _ _ _
                      refine wpAnyH_lone (k := 10) (o := ?op7) (by kernel_rfl) ?hop7 ?hhp7
                      case hop7 => (simp only [List.getElem?_toArray, List.getElem?_cons_zero, List.getElem?_cons_succ]; rfl)
                      intro KKp7 hKp7
                      rw [if_pos (by rfl)]
                      go_simp
                      refine (sumS_at _ _ q (X.s.extract 0 q) _ _ _ _ (by simp [ByteArray.size_extract]; omega) (by (repeat (refine blk_drew ?_)); first | exact blk_new _ _ | exact blk_alloc (blk_new _ _) _ | exact blk_new1 _ _ _) hxs).mono ?_
                      rintro e ws ⟨rfl, rfl⟩
                      go_wp2_with fail
                      refine hKp7.out _ _ (by repeat (with_reducible first | exact Keep.refl _ _ | refine Keep.drew ?_ | refine Keep.alloc ?_ _ | refine Keep.set ?_ (.inr (by simp)) _)) (fun hhp7 => ?_)
                      clear hKp7 KKp7 hhp7
                      change wpAnyH _ _ _ _ _ (0 + 1) _ _ _
                      refine wpAnyH_lone (k := 12) (o := ?op8) (by kernel_rfl) ?hop8 ?hhp8
                      case hop8 => (simp only [List.getElem?_toArray, List.getElem?_cons_zero, List.getElem?_cons_succ]; rfl)
                      intro KKp8 hKp8
                      rw [if_pos (by rfl)]
                      go_simp
                      refine hKp8.out _ _ (by repeat (with_reducible first | exact Keep.refl _ _ | refine Keep.drew ?_ | refine Keep.alloc ?_ _ | refine Keep.set ?_ (.inr (by simp)) _)) (fun hhp8 => ?_)
                      clear hKp8 KKp8 hhp8
                      refine wpAnyH_done (by kernel_rfl) ?_ _
                      go_wp2
                      go_meet
                      rw [LB_take]
                      exact ⟨_, rfl, by (repeat (refine blk_drew ?_)); first | exact blk_new1 _ _ _ | exact blk_alloc (blk_new _ _) _, by omega, (by repeat (with_reducible first | exact Keep.refl _ _ | refine Keep.drew ?_ | refine Keep.alloc ?_ _ | refine Keep.set ?_ (.inr (by simp)) _))⟩
                  case hhp2 =>
                    intro KKp2 hKp2
                    rw [if_pos (by rfl)]
                    go_simp
                    refine hKp2.out _ _ (by repeat (with_reducible first | exact Keep.refl _ _ | refine Keep.drew ?_ | refine Keep.alloc ?_ _ | refine Keep.set ?_ (.inr (by simp)) _)) (fun hhp2 => ?_)
                    clear hKp2 KKp2 hhp2
                    change wpAnyH _ _ _ _ _ (2 + 1) _ _ _
                    refine wpAnyH_lone (k := 9) (o := ?op9) (by kernel_rfl) ?hop9 ?hhp9
                    case hop9 => (simp only [List.getElem?_toArray, List.getElem?_cons_zero, List.getElem?_cons_succ]; rfl)
                    intro KKp9 hKp9
                    rw [if_pos (by rfl)]
                    go_simp
                    refine hKp9.out _ _ (by repeat (with_reducible first | exact Keep.refl _ _ | refine Keep.drew ?_ | refine Keep.alloc ?_ _ | refine Keep.set ?_ (.inr (by simp)) _)) (fun hhp9 => ?_)
                    clear hKp9 KKp9 hhp9
                    change wpAnyH _ _ _ _ _ (1 + 1) _ _ _
                    refine wpAnyH_lone (k := 10) (o := ?op10) (by kernel_rfl) ?hop10 ?hhp10
                    case hop10 => (simp only [List.getElem?_toArray, List.getElem?_cons_zero, List.getElem?_cons_succ]; rfl)
                    intro KKp10 hKp10
                    rw [if_pos (by rfl)]
                    go_simp
                    refine (sumS_at _ _ q (X.s.extract 0 q) _ _ _ _ (by simp [ByteArray.size_extract]; omega) (by (repeat (refine blk_drew ?_)); first | exact blk_new _ _ | exact blk_alloc (blk_new _ _) _ | exact blk_new1 _ _ _) hxs).mono ?_
                    rintro e ws ⟨rfl, rfl⟩
                    go_wp2_with fail
                    refine hKp10.out _ _ (by repeat (with_reducible first | exact Keep.refl _ _ | refine Keep.drew ?_ | refine Keep.alloc ?_ _ | refine Keep.set ?_ (.inr (by simp)) _)) (fun hhp10 => ?_)
                    clear hKp10 KKp10 hhp10
                    change wpAnyH _ _ _ _ _ (0 + 1) _ _ _
                    refine wpAnyH_lone (k := 12) (o := ?op11) (by kernel_rfl) ?hop11 ?hhp11
                    case hop11 => (simp only [List.getElem?_toArray, List.getElem?_cons_zero, List.getElem?_cons_succ]; rfl)
                    intro KKp11 hKp11
                    rw [if_pos (by rfl)]
                    go_simp
                    refine hKp11.out _ _ (by repeat (with_reducible first | exact Keep.refl _ _ | refine Keep.drew ?_ | refine Keep.alloc ?_ _ | refine Keep.set ?_ (.inr (by simp)) _)) (fun hhp11 => ?_)
                    clear hKp11 KKp11 hhp11
                    refine wpAnyH_done (by kernel_rfl) ?_ _
                    go_wp2
                    go_meet
                    rw [LB_take]
                    exact ⟨_, rfl, by (repeat (refine blk_drew ?_)); first | exact blk_new1 _ _ _ | exact blk_alloc (blk_new _ _) _, by omega, (by repeat (with_reducible first | exact Keep.refl _ _ | refine Keep.drew ?_ | refine Keep.alloc ?_ _ | refine Keep.set ?_ (.inr (by simp)) _))⟩
                case rest =>
                  obtain ⟨bx, rfl, X1, hbx, KC⟩ := hcut
                  clear c0 c1 c2 c3 c4 c5 c6 c7 c8 kb hxs hRb
                  obtain ⟨want, hwant⟩ : ∃ want, sumX ((LB X.s).take q) = want := ⟨_, rfl⟩
                  have hwl := sumX_lt ((LB X.s).take q)
                  have HF1 : Hid (((sumNumX (LB X.s) X.S want q).bind (fun _ p => endX (LB X.s) X.S p)).bind (fun _ p => .ok (((em : Int), gs, ps), p)) = F) := by rw [← hwant]; exact HF
                  rw [hwant] at X1 hwl
                  have R1 := R.keepN R.under KC (by simp)
                  have Fw1 := Fw.trans (KC.fr R.lt.1 (by simp))
                  have hlt3 := R.lt
                  have hgg := R.bG
                  have HN := numb_any X hX q 4 83 #[] #[.pointer (some ⟨bx, 0, none⟩)] (fun n => n == want) 0 0 em _ _ _ R1.rd R1.meter R1.ps_ R1.sz (by omega) enters_sum (right_sum hwl (cells1 X1).1 ⟨by omega, by omega⟩)
                  obtain ⟨r, hr⟩ : ∃ r, numX (LB X.s) X.S 4 (fun n => n == want) q = r := ⟨_, rfl⟩
                  rw [hr] at HN
                  clear HF hwant R Fw
                  have HF := HF1
                  clear HF1
                  go_wp2_with fail
                  refine HN.mono ?_
                  clear HN
                  rintro e w3 ⟨K1, HP⟩
                  have Fw2 := Fw1.trans (K1.fr R1.lt.1 (by simp; exact .inr R1.bR))
                  have hneX := hX.ne
                  cases r with
                  | error e0 =>
                    obtain ⟨k', a', q'⟩ := e0
                    obtain ⟨rfl, R2, M2, hq, hs⟩ := HP
                    obtain ⟨c0, c1, c2, c3, c4, c5, c6, c7, c8⟩ := cells9 R2
                    obtain ⟨f2, f3, f4, hlt2⟩ := free9 R2
                    rcases sum_num hr (by rw [LB_len]; exact R1.sz) with ⟨rfl, rfl, hE⟩ | ⟨rfl, rfl, hE⟩ | ⟨rfl, rfl, hq1, hq2, hE⟩
                    · have hFe : F = .error (60, (X.s.size : Int), q') := by rw [← HF.out, hE, LB_len]; rfl
                      rw [LB_len] at c4 R2
                      go_wp2
                      go_quiet (fail)
                      go_wp2
                      try rw [Exit.noGoto_ret]
                      go_ret
                      rw [hFe]
                      exact ⟨Fw2.trans (((Keep.refl [] w3).drewN nq).fr (Nat.le_trans R1.lt.1 K1.size) (by simp)), rfl, ⟨_, _, _, blk_drewN R2 _⟩, M2, hq, hs⟩
                    · have hFe : F = .error (20, 0, q') := by rw [← HF.out, hE]; rfl
                      go_wp2
                      go_quiet (fail)
                      go_wp2
                      try rw [Exit.noGoto_ret]
                      go_ret
                      rw [hFe]
                      exact ⟨Fw2.trans (((Keep.refl [] w3).drewN nq).fr (Nat.le_trans R1.lt.1 K1.size) (by simp)), rfl, ⟨_, _, _, blk_drewN R2 _⟩, M2, hq, hs⟩
                    · have hFe : F = .error (61, (q' : Int) - 1, q') := by rw [← HF.out, hE]; rfl
                      rw [LB_len] at hq2
                      have hlq : (q' : Int) - 1 < (X.s.size : Int) := by omega
                      go_wp2
                      go_quiet (fail)
                      go_wp2
                      try rw [Exit.noGoto_ret]
                      go_ret
                      rw [hFe]
                      have KS : Keep [X.rb] (w3.drewN nq) ((w3.drewN nq).setCell ⟨X.rb, 3, none⟩ (.int .i64 61)) := (Keep.refl _ _).set (.inl (by simp)) _
                      refine ⟨(Fw2.trans ((Keep.refl [] w3).drewN nq |>.fr (Nat.le_trans R1.lt.1 K1.size) (by simp))).trans (KS.fr (Nat.le_trans R1.lt.1 K1.size) (by simp; exact .inr R1.bR)), rfl, ⟨_, _, _, IsRd.kind (w := w3.drewN nq) R2⟩, ?_, hq, hs⟩
                      rw [mBad_at (by decide)] at M2 ⊢
                      exact IsM.keep (S := [X.rb]) (w := w3.drewN nq) M2 KS (by simpa using Ne.symm hneX)
                  | ok v0 =>
                    obtain ⟨n4, q4⟩ := v0
                    obtain ⟨rfl, R2, M2, hq, hs⟩ := HP
                    have R3 := R1.read K1 R2 M2 hq hs
                    have HF1 : Hid ((endX (LB X.s) X.S q4).bind (fun _ p => .ok (((em : Int), gs, ps), p)) = F) := hid (by rw [← HF.out, sum_num_ok hr]; rfl)
                    clear HF hr R1 K1 Fw1 KC X1
                    obtain ⟨c0, c1, c2, c3, c4, c5, c6, c7, c8⟩ := cells9 R2
                    by_cases hend : q4 < X.s.size
                    · have hlq : (q4 : Int) < (X.s.size : Int) := by omega
                      obtain ⟨r2, hr2⟩ : ∃ r2, byteX (LB X.s) X.S q4 = r2 := ⟨_, rfl⟩
                      have HB := fun W (K : Keep [] w3 W) => byte_any X hX q4 0 0 em _ _ W (R2.keep K (by simp)) (M2.keep K (by simp)) hq hs
                      rw [hr2] at HB
                      have HE : endX (LB X.s) X.S q4 = PR.bind r2 (fun _ q => .error (60, (q : Int) - 1, q)) := by unfold endX; rw [LB_len, if_pos hend, hr2]
                      go_wp2
                      go_quiet (fail)
                      go_wp2_with fail
                      refine (HB _ ((Keep.refl _ _).drewN _)).mono ?_
                      rintro e w4 ⟨K4, HP⟩
                      have Fw3 := (Fw2.trans (((Keep.refl [] w3).drewN nq).fr R3.lt.1 (by simp))).trans (K4.fr R3.lt.1 (by simp; exact .inr R3.bR))
                      clear HB c0 c1 c2 c3 c4 c5 c6 c7 c8
                      cases r2 with
                      | error e0 =>
                        obtain ⟨k', a', q'⟩ := e0
                        obtain ⟨rfl, R4, M4, hq5, hs5⟩ := HP
                        have hFe : F = .error (k', a', q') := by rw [← HF1.out, HE]; rfl
                        go_wp2
                        try rw [Exit.noGoto_ret]
                        go_ret
                        rw [hFe]
                        exact ⟨Fw3, rfl, ⟨_, _, _, R4⟩, M4, hq5, hs5⟩
                      | ok v5 =>
                        obtain ⟨c5', q5⟩ := v5
                        obtain ⟨rfl, R4, M4, hq5, hs5⟩ := HP
                        have hFe : F = .error (60, (q5 : Int) - 1, q5) := by rw [← HF1.out, HE]; rfl
                        obtain ⟨c0, c1, c2, c3, c4, c5, c6, c7, c8⟩ := cells9 R4
                        obtain ⟨f2, f3, f4, hlt2⟩ := free9 R4
                        go_wp2
                        try rw [Exit.noGoto_ret]
                        go_ret
                        rw [hFe]
                        refine ⟨Fw3.trans ((keepF (Keep.refl [X.rb] w4) (by simp)).fr (Nat.le_trans R3.lt.1 K4.size) (by simp; exact .inr R3.bR)), rfl, ⟨_, _, _, IsRd.fault R4⟩, ?_, hq5, hs5⟩
                        rw [mBad_at (by decide)]
                        exact IsM.keep (S := [X.rb]) M4 (keepF (Keep.refl _ w4) (by simp)) (by simpa using Ne.symm hneX)
                    · have hlq : ¬ ((q4 : Int) < (X.s.size : Int)) := by omega
                      have hFe : F = .ok (((em : Int), gs, ps), q4) := by rw [← HF1.out]; unfold endX; rw [LB_len, if_neg hend]; rfl
                      go_wp2
                      go_quiet (fail)
                      go_wp2
                      try rw [Exit.noGoto_ret]
                      go_ret
                      rw [hFe]
                      exact ⟨Fw2.trans (((Keep.refl [] w3).drewN nq).fr R3.lt.1 (by simp)), rfl, _, _, _, _, R3.keepN R3.under ((Keep.refl [] w3).drewN nq) (by simp)⟩
              · obtain ⟨i, rfl⟩ : ∃ i, j = i + 1 := ⟨j - 1, by omega⟩
                have hjp : (0 : Int) < ((i + 1 : Nat) : Int) := by omega
                have hwi : IntKind.i64.wrap (((i + 1 : Nat) : Int) - 1) = (i : Int) := by rw [show ((i + 1 : Nat) : Int) - 1 = (i : Int) by omega]; exact IntWalk.i64_in _ (by omega)
                have HF1 : Hid ((pairX (LB X.s) X.S gs (lastP ps) q).bind (fun x p => pairsF (LB X.s) X.S em gs i (ps ++ [x]) p) = F) := hid (by rw [← pairsF_more]; exact HF.out)
                obtain ⟨r, hr⟩ : ∃ r, pairX (LB X.s) X.S gs (lastP ps) q = r := ⟨_, rfl⟩
                have HG := pair_reads X hX base q 0 0 em gs ps A c B d wr R (by omega) hgok
                rw [hr] at HG
                go_wp2_with fail
                refine HG.mono ?_
                clear HG
                rintro e w3 ⟨F1, HP⟩
                have Fw1 := Fw.trans F1
                cases r with
                | error e0 =>
                  obtain ⟨k', a', q'⟩ := e0
                  obtain ⟨rfl, R2, M2, hq, hs⟩ := HP
                  have hFe : F = .error (k', a', q') := by rw [← HF1.out, hr]; rfl
                  go_wp2
                  try rw [Exit.noGoto_ret]
                  go_ret
                  rw [hFe]
                  exact ⟨Fw1, rfl, ⟨_, _, _, R2⟩, M2, hq, hs⟩
                | ok v0 =>
                  obtain ⟨g, q'⟩ := v0
                  obtain ⟨rfl, B', d', R1⟩ := HP
                  have HF2 : Hid (pairsF (LB X.s) X.S em gs i (ps ++ [g]) q' = F) := hid (by rw [← HF1.out, hr]; rfl)
                  clear HF HF1 hr R Fw F1
                  go_wp2_with fail
                  exact ⟨⟨i, q', gs, ps ++ [g], A, c, B', d', true, rfl, rfl, rfl, R1, Fw1, .inr ⟨rfl, hlen, by simp; omega, HF2⟩, hris, hgok⟩, by simp [intOf] <;> omega⟩
end Go.Proofs.Ythcfgechifogeaa
