/- Font: the law FontBack. -/
import Derived.Test.YthcfgechifogeaaFnLaw4
import Derived.Test.YthcfgechifogeaaFnSame
import Derived.Test.YthcfgechifogeaaFnOpen
namespace Go.Proofs.Ythcfgechifogeaa
open Go.RowKit Go.Maps
set_option linter.unusedSimpArgs false
set_option linter.unusedVariables false

theorem isF_own {w w0 : World} {f : FontX} (h1 : w.ownsRow w0.heap.size 45 4 (.slice f.ga f.gs.length f.gc) f.gs.length (f.gs.flatMap GlyphX.row)) (h2 : w.ownsRow w0.heap.size 52 5 (.slice f.pa f.ps.length f.pc) f.ps.length (f.ps.flatMap PairX.row))
    (h3 : ∀ g ∈ f.gs, g.inI) (h4 : ∀ p ∈ f.ps, p.inI) (h5 : f.gs.length ≤ 9223372036854775807) (h6 : f.ps.length ≤ 9223372036854775807) : IsF w f := by
  obtain ⟨A, c, e1, _, r1, _⟩ := own_rd row4 h1
  obtain ⟨B, d, e2, _, r2, _⟩ := own_rd row5 h2
  simp only [Value.slice.injEq, true_and] at e1 e2
  rw [← e1.1] at r1
  rw [← e2.1] at r2
  refine ⟨r1, r2, fun e => ?_, fun e => ?_, h3, h4, h5, h6⟩
  · rcases h1.2 with ⟨_, h⟩ | ⟨g, cap, cur, hv, _⟩
    · exact h
    · rw [e] at hv; simp at hv
  · rcases h2.2 with ⟨_, h⟩ | ⟨g, cap, cur, hv, _⟩
    · exact h
    · rw [e] at hv; simp at hv
theorem check_inI {em : Int} {gs : List GlyphX} {ps : List PairX} (h : checkX em gs ps = 0) : (∀ g ∈ gs, g.inI) ∧ (∀ p ∈ ps, p.inI) ∧ gs.length ≤ 1024 ∧ ps.length ≤ 4096 := by
  obtain ⟨_, hm, hG, hP⟩ := check_zero h
  refine ⟨fun g hg => ?_, fun p hp => ?_, by omega, by omega⟩
  · have := good_g hG hg
    unfold GlyphX.inI InI
    omega
  · have := good_p hG hP hp
    unfold PairX.inI InI
    omega
theorem fontB_len {em : Int} {gs : List GlyphX} {ps : List PairX} (h1 : gs.length ≤ 1024) (h2 : ps.length ≤ 4096) : (fontB em gs ps).length ≤ 60000 := by
  have e1 := flat_le (m := 9) (fun g => Nat.le_of_eq (gB_len g)) gs
  have e2 := flat_le (m := 10) pB_len ps
  simp only [fontB, bodyB, List.length_append, headB_len, digs_len]
  omega

/-- What Get tells of bytes, by a great meter. -/
def GetB (b : ByteArray) (w : World) (e : Ending) (w' : World) : Prop :=
  (∃ A c B d k a, e = .returned (.tuple #[.agg #[.int .i64 0, .slice A 0 c, .slice B 0 d], .agg #[.int .i64 k, .int .i64 a]]) ∧ (∃ q, readX (LB b) 1152921504606846976 = .error (k, a, q)) ∧ (k = 60 ∨ k = 61) ∧ 0 ≤ a ∧ a ≤ b.size) ∨
  (∃ f : FontX, e = .returned (.tuple #[f.val, .agg #[.int .i64 0, .int .i64 0]]) ∧ IsF w' f ∧ checkX f.em f.gs f.ps = 0 ∧ LB b = fontB f.em f.gs f.ps)
theorem get_great (g : Nat) (b : ByteArray) (w : World) (hm : IsM w g (MS.new 1152921504606846976 1152921504606846976)) (hb : b.size ≤ 140737488355328) :
    Calls Try.prog 29 #[.pointer (some ⟨g, 0, none⟩), .string b] w fun e w' => GetB b w e w' ∧ Keep [g] w w' := by
  refine (get_any g b 1152921504606846976 1152921504606846976 w hm (by omega) (by omega) (by omega) (by omega) hb).mono ?_
  rintro e w' ⟨K, M, f, rfl, hG, hP, hf⟩
  refine ⟨?_, K⟩
  have hlen : ((LB b).length : Int) ≤ 1152921504606846976 := by rw [LB_len]; omega
  cases hr : readX (LB b) 1152921504606846976 with
  | error e0 =>
    obtain ⟨k, a, q⟩ := e0
    have hx : getX (LB b) 1152921504606846976 1152921504606846976 = (none, k, a, mBad 1152921504606846976 1152921504606846976 k q) := by
      show getF _ _ (readX _ _) = _
      rw [hr]
      rfl
    rw [hx] at hf ⊢
    simp only [Option.getD_none, Prod.mk.injEq] at hf
    obtain ⟨h1, h2, h3⟩ := hf
    obtain ⟨he1, he2, he3⟩ := readX_err hlen hr
    rw [LB_len] at he3
    refine .inl ⟨f.ga, f.gc, f.pa, f.pc, k, a, ?_, ⟨q, hr⟩, he1, he2, he3⟩
    unfold FontX.val
    rw [h1, h2, h3]
    rfl
  | ok v =>
    obtain ⟨⟨em, gs, ps⟩, q⟩ := v
    obtain ⟨hl1, hl2⟩ := readX_len hr
    simp only at hl1 hl2
    have hx : getX (LB b) 1152921504606846976 1152921504606846976 = (some (em, gs, ps), 0, 0, mHeld 1152921504606846976 1152921504606846976 q (gs.length + ps.length : Nat)) := by
      show getF _ _ (readX _ _) = _
      rw [hr]
      unfold getF
      simp only
      rw [if_pos (by omega)]
    rw [hx] at hf ⊢
    simp only [Option.getD_some, Prod.mk.injEq] at hf
    obtain ⟨h1, h2, h3⟩ := hf
    obtain ⟨hi1, hi2, _⟩ := readX_inv (LB_all b) hr (by omega)
    obtain ⟨hc1, hc2, hc3, hc4⟩ := check_inI hi2
    refine .inr ⟨f, rfl, isF_own hG hP (by rw [h2]; exact hc1) (by rw [h3]; exact hc2) (by rw [h2]; omega) (by rw [h3]; omega), by rw [h1, h2, h3]; exact hi2, by rw [h1, h2, h3]; exact hi1⟩
theorem fontB_inj {em em' : Int} {gs gs' : List GlyphX} {ps ps' : List PairX} (h : checkX em gs ps = 0) (h' : checkX em' gs' ps' = 0) (e : fontB em gs ps = fontB em' gs' ps') : em = em' ∧ gs = gs' ∧ ps = ps' := by
  have h1 := readX_of em gs ps (fontB em gs ps).length (Int.le_refl _) h
  have h2 := readX_of em' gs' ps' (fontB em gs ps).length (by rw [e]; exact Int.le_refl _) h'
  rw [← e, h1] at h2
  simp only [Except.ok.injEq, Prod.mk.injEq] at h2
  exact h2.1
/-- What Get tells of a written font. -/
theorem get_back {em : Int} {gs : List GlyphX} {ps : List PairX} (g : Nat) (w : World) (hk : checkX em gs ps = 0) (hm : IsM w g (MS.new 1152921504606846976 1152921504606846976)) :
    Calls Try.prog 29 #[.pointer (some ⟨g, 0, none⟩), .string (SB (fontB em gs ps))] w fun e w' => (∃ A c B d, e = .returned (.tuple #[.agg #[.int .i64 em, .slice A gs.length c, .slice B ps.length d], .agg #[.int .i64 0, .int .i64 0]]) ∧ IsF w' ⟨em, A, c, B, d, gs, ps⟩) ∧ Keep [g] w w' := by
  obtain ⟨_, _, hg, hp⟩ := check_inI hk
  refine (get_great g (SB (fontB em gs ps)) w hm (by rw [SB_size]; have := fontB_len (em := em) hg hp; omega)).mono ?_
  rintro e w' ⟨h, K⟩
  refine ⟨?_, K⟩
  have hr := readX_of em gs ps 1152921504606846976 (by have := fontB_len (em := em) hg hp; omega) hk
  rw [GetB, LB_SB (fontB_all _ _ _)] at h
  rcases h with ⟨_, _, _, _, _, _, _, ⟨q, hq⟩, _⟩ | ⟨⟨em', A, c, B, d, gs', ps'⟩, rfl, hF, hk', hb⟩
  · rw [hr] at hq
    cases hq
  · obtain ⟨rfl, rfl, rfl⟩ := fontB_inj hk hk' hb
    exact ⟨A, c, B, d, rfl, hF⟩
theorem IsF.lies {w : World} {em : Int} {A : Option Addr} {c : Nat} {B : Option Addr} {d : Nat} {gs : List GlyphX} {ps : List PairX} (h : IsF w ⟨em, A, c, B, d, gs, ps⟩) : FLies w em gs ps (.agg #[.int .i64 em, .slice A gs.length c, .slice B ps.length d]) :=
  ⟨A, c, B, d, rfl, h.gr, h.pr⟩

set_option maxHeartbeats 4000000 in
set_option maxRecDepth 100000 in
theorem walkBack (f : FontX) (b : ByteArray) (w : World) (hf : IsF w f) (hb : b.size ≤ 140737488351232) : Calls Try.prog 8 #[f.val, .string b] w fun e w' => e = .returned (.bool true) ∧ Keep [] w w' := by
  obtain ⟨em, ga, gc, pa, pc, gs, ps⟩ := f
  have PT : ∀ W, Keep [] w W → Calls Try.prog 26 #[.agg #[.int .i64 em, .slice ga gs.length gc, .slice pa ps.length pc]] W fun e w' => e = .returned (.tuple #[.string (putS em gs ps), .int .i64 (checkX em gs ps)]) ∧ Keep [] W w' := fun W K => put_any _ W (hf.old K (by simp))
  have SM : ∀ W, Keep [] w W → ∀ v, FLies W em gs ps v → Calls Try.prog 28 #[v, .agg #[.int .i64 em, .slice ga gs.length gc, .slice pa ps.length pc]] W fun e w' => e = .returned (.bool true) ∧ Keep [] W w' := fun W K v h => same06 em gs ps v _ W h (hf.old K (by simp)).lies hf.gl hf.pl_
  have hk0 : checkX em gs ps = 0 → putS em gs ps = SB (fontB em gs ps) := fun h => by simp [putS, h]
  clear hf
  simp only [FontX.val]
  generalize putS em gs ps = T at *
  obtain ⟨kk, hkk⟩ : ∃ kk, checkX em gs ps = kk := ⟨_, rfl⟩
  have HK := hid hkk
  rw [hkk] at PT hk0
  clear hkk
  have X2 := blk_new w (.cells #[.int .i64 em, .slice ga gs.length gc, .slice pa ps.length pc] 25)
  have K0 : Keep [] w (w.alloc (.cells #[.int .i64 em, .slice ga gs.length gc, .slice pa ps.length pc] 25)) := (Keep.refl _ _).alloc _
  go_enter Try.func8, Try.ntmps8
  go_upto_region 1 with (fail)
  generalize w.alloc (.cells #[.int .i64 em, .slice ga gs.length gc, .slice pa ps.length pc] 25) = W0 at *
  go_wp2_with fail
  refine (shown06 _).mono ?_
  rintro e w1 ⟨rfl, K1⟩
  replace X2 := K1.blk X2 (by simp)
  replace K1 := K0.trans K1
  clear K0
  obtain ⟨f0, f1, f2, _, _, _, fs⟩ := cells3 X2
  go_wp2_with fail
  refine (PT w1 K1).mono ?_
  rintro e w2 ⟨rfl, K2⟩
  replace X2 := K2.blk X2 (by simp)
  replace K2 := K1.trans K2
  clear K1 f0 f1 f2 fs
  go_upto_if 28 with (fail)
  go_cut [8, 9, 10, 11, 12] from 29 to 58 (fun _ _ _ _ _ wc => Keep [] w wc)
  case first =>
    by_cases hkz : kk = 0
    · subst hkz
      have hT := hk0 rfl
      obtain ⟨f0, f1, f2, _, _, _, fs⟩ := cells3 X2
      go_wp2_with fail
      refine (great_any w2).mono ?_
      rintro e w3 ⟨g, rfl, hg, M3, K3⟩
      go_wp2_with fail
      subst hT
      refine (get_back g w3 HK.out M3).mono ?_
      rintro e w4 ⟨⟨A, c, B, d, rfl, hF⟩, K4⟩
      have K24 := K3.then (S := []) K4 (by simpa using hg)
      have KN := ((Keep.refl [] w4).alloc (.cells #[.int .i64 em, .slice A gs.length c, .slice B ps.length d] 25)).alloc (.cells #[.int .i64 0, .int .i64 0] 60)
      have X8 := blk_alloc (blk_new w4 (.cells #[.int .i64 em, .slice A gs.length c, .slice B ps.length d] 25)) (.cells #[.int .i64 0, .int .i64 0] 60)
      have X9 := blk_new (w4.alloc (.cells #[.int .i64 em, .slice A gs.length c, .slice B ps.length d] 25)) (.cells #[.int .i64 0, .int .i64 0] 60)
      rw [size_alloc'] at X9
      have hF5 := hF.old KN (by simp)
      have K25 := K24.trans KN
      have X2' := K25.blk X2 (by simp)
      have K5 := K2.trans K25
      go_upto_region 7 with (fail)
      generalize (w4.alloc (.cells #[.int .i64 em, .slice A gs.length c, .slice B ps.length d] 25)).alloc (.cells #[.int .i64 0, .int .i64 0] 60) = W5 at *
      clear KN K24 K25 K3 K4 M3 f0 f1 f2 fs hF
      obtain ⟨f0, f1, f2, _, _, _, fs⟩ := cells3 X2'
      obtain ⟨x0, x1, x2, _, _, _, xs⟩ := cells3 X8
      go_wp2_with fail
      refine (SM W5 K5 _ hF5.lies).mono ?_
      rintro e w6 ⟨rfl, K6⟩
      clear f0 f1 f2 fs x0 x1 x2 xs
      obtain ⟨x0, x1, x2, _, _, _, xs⟩ := cells3 (K6.blk X8 (by simp))
      go_wp2_with fail
      refine (put_any ⟨em, A, c, B, d, gs, ps⟩ w6 (hF5.old K6 (by simp))).mono ?_
      rintro e w7 ⟨rfl, K7⟩
      have hput : putS em gs ps = SB (fontB em gs ps) := by simp [putS, HK.out]
      simp only [hput, HK.out]
      clear x0 x1 x2 xs
      obtain ⟨y0, y1, _, _, ys⟩ := cells2 ((K6.trans K7).blk X9 (by simp))
      go_wp2
      go_meet
      exact (K5.trans K6).trans K7
    · go_wp2
      go_meet
      exact K2
  case rest =>
    go_wp2_with fail
    refine (great_any wc).mono ?_
    rintro e w3 ⟨g, rfl, hg, M3, K3⟩
    go_wp2_with fail
    refine (get_great g b w3 M3 (by omega)).mono ?_
    rintro e w4 ⟨hG, K4⟩
    have K5 := hcut.trans (K3.then (S := []) K4 (by simpa using hg))
    rcases hG with ⟨A, c, B, d, k, a, rfl, _, hk, ha1, ha2⟩ | ⟨⟨em', A, c, B, d, gs', ps'⟩, rfl, hF, hk', hbb⟩
    · have X8 := blk_alloc (blk_new w4 (.cells #[.int .i64 0, .slice A 0 c, .slice B 0 d] 25)) (.cells #[.int .i64 k, .int .i64 a] 60)
      have X9 := blk_new (w4.alloc (.cells #[.int .i64 0, .slice A 0 c, .slice B 0 d] 25)) (.cells #[.int .i64 k, .int .i64 a] 60)
      rw [size_alloc'] at X9
      have K6 := (K5.alloc (.cells #[.int .i64 0, .slice A 0 c, .slice B 0 d] 25)).alloc (.cells #[.int .i64 k, .int .i64 a] 60)
      go_upto_region 12 with (fail)
      generalize (w4.alloc (.cells #[.int .i64 0, .slice A 0 c, .slice B 0 d] 25)).alloc (.cells #[.int .i64 k, .int .i64 a] 60) = W5 at *
      obtain ⟨y0, y1, _, _, ys⟩ := cells2 X9
      have hk0 : k ≠ 0 := by omega
      go_wp2
      go_ret
      exact ⟨rfl, K6⟩
    · have KN := ((Keep.refl [] w4).alloc (.cells #[.int .i64 em', .slice A gs'.length c, .slice B ps'.length d] 25)).alloc (.cells #[.int .i64 0, .int .i64 0] 60)
      have X8 := blk_alloc (blk_new w4 (.cells #[.int .i64 em', .slice A gs'.length c, .slice B ps'.length d] 25)) (.cells #[.int .i64 0, .int .i64 0] 60)
      have X9 := blk_new (w4.alloc (.cells #[.int .i64 em', .slice A gs'.length c, .slice B ps'.length d] 25)) (.cells #[.int .i64 0, .int .i64 0] 60)
      rw [size_alloc'] at X9
      have hF5 := hF.old KN (by simp)
      have K6 := K5.trans KN
      simp only [FontX.val] at *
      go_upto_region 12 with (fail)
      generalize (w4.alloc (.cells #[.int .i64 em', .slice A gs'.length c, .slice B ps'.length d] 25)).alloc (.cells #[.int .i64 0, .int .i64 0] 60) = W5 at *
      obtain ⟨x0, x1, x2, _, _, _, xs⟩ := cells3 X8
      obtain ⟨y0, y1, _, _, ys⟩ := cells2 X9
      go_wp2_with fail
      have NW := new_any ⟨em', A, c, B, d, gs', ps'⟩ W5 hF5
      simp only [FontX.val] at NW
      refine NW.mono ?_
      rintro e w7 hN
      have hN' : ∃ v, e = .returned (.tuple #[v, .int .i64 0]) ∧ Keep [] W5 w7 := by
        rcases hN with ⟨h0, rfl, K⟩ | ⟨h0, t, rfl, _, _, _, _, _, K⟩
        · exact ⟨_, by rw [hk'], K⟩
        · exact ⟨_, rfl, K⟩
      obtain ⟨v, rfl, K7⟩ := hN'
      clear x0 x1 x2 xs y0 y1 ys
      obtain ⟨x0, x1, x2, _, _, _, xs⟩ := cells3 (K7.blk X8 (by simp))
      go_wp2_with fail
      have PT' := put_any ⟨em', A, c, B, d, gs', ps'⟩ w7 (hF5.old K7 (by simp))
      have hput : putS em' gs' ps' = b := by
        unfold putS
        rw [if_pos hk', ← hbb, SB_LB]
      simp only [FontX.val, hput, hk'] at PT'
      refine PT'.mono ?_
      rintro e w8 ⟨rfl, K8⟩
      go_wp2
      go_ret
      exact ⟨rfl, (K6.trans K7).trans K8⟩
set_option maxRecDepth 100000 in
theorem walkFontBack {H : Type} {enc : TypeId × Value → H} {W : World} {base : Nat} {v0 : Value} {d0 : DataW H} {p0 : List MemPlace} (ok0 : Value.okWide Try.prog W .any base 25 v0) (h0 : DataW.Trod enc Try.prog W 0 (fun _ => true) true 25 v0 d0 p0)
    (z0 : ∀ n ∈ d0.weights Try.prog 25, n ≤ reachBytes) (b : ByteArray) (yb : b.size ≤ maxLen) (zb : b.size ≤ 140737488351232) (w : World) (hw : w = W) :
    Calls Try.prog 8 #[v0, .string b] w fun e w' => e = .returned (.bool true) ∧ Below w.heap.size w w' := by
  subst hw
  obtain ⟨f, rfl, hf⟩ := open_font ok0 h0
  refine (walkBack f b w hf zb).mono ?_
  rintro e w' ⟨rfl, K⟩
  exact ⟨rfl, K.below (Nat.le_refl _) (by simp)⟩
end Go.Proofs.Ythcfgechifogeaa
