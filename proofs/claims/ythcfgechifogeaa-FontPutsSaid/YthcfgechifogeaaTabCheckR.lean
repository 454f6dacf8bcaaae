/- The reference's Check, by a contract. -/
import Derived.Test.YthcfgechifogeaaTabPaired
import Derived.Test.YthcfgechifogeaaTabNew
import Derived.Test.YthcfgechifogeaaHeldLex
namespace Go.Proofs.Ythcfgechifogeaa
open Go.RowKit Go.Maps
set_option linter.unusedSimpArgs false
set_option linter.unusedVariables false

theorem rwithin_at (n : Int) (b : Bool) (w : World) (h : decide (0 ≤ n ∧ n ≤ 16384) = b) : Calls Try.prog 74 #[.int .i64 n] w fun e w' => e = .returned (.bool b) ∧ w' = w := by subst h; exact (rwithin_any n w).mono fun _ _ ⟨h, e⟩ => ⟨h, e.symm⟩
theorem rwidth_at (n v : Int) (w : World) (h : wd n = v) : Calls Try.prog 73 #[.int .i64 n] w fun e w' => e = .returned (.int .i64 v) ∧ w' = w := by subst h; exact (rwidth_any n w).mono fun _ _ ⟨h, e⟩ => ⟨h, e.symm⟩

theorem ret_err {a b : Int} {w w' : World} (h : b = a) (K : Keep [] w w') : Ending.returned (.int .i64 a) = .returned (.int .i64 b) ∧ Keep [] w w' := ⟨by rw [h], K⟩

set_option maxHeartbeats 2000000 in
set_option maxRecDepth 100000 in
theorem rcheck_any (f : FontX) (w : World) (h : IsF w f) : Calls Try.prog 43 #[f.val] w fun e w' => e = .returned (.int .i64 (checkX f.em f.gs f.ps)) ∧ Keep [] w w' := by
  have hgl := h.gl
  have hpl := h.pl_
  obtain ⟨em, ga, gc, pa, pc, gs, ps⟩ := f
  simp only [FontX.val] at hgl hpl ⊢
  by_cases he : em < 1 ∨ 16384 < em
  · have C := hid (check_arg (gs := gs) (ps := ps) he)
    rcases he with he | he
    · have hd : decide (em < 1) = true := by simpa using he
      go_enter Try.func43, Try.ntmps43
      go_wp2
      go_ret
      exact ret_err C.out ((Keep.refl _ _).alloc _)
    · have hd : decide (em < 1) = false := by simp; omega
      go_enter Try.func43, Try.ntmps43
      go_wp2
      go_ret
      exact ret_err C.out ((Keep.refl _ _).alloc _)
  have he1 : 1 ≤ em := by omega
  have he2 : em ≤ 16384 := by omega
  have HE := hid he
  by_cases hm : 1024 < gs.length ∨ 4096 < ps.length
  · have C := hid (check_many he hm)
    clear he
    by_cases hm1 : 1024 < gs.length
    · have hm2 : (1024 : Int) < (gs.length : Int) := by omega
      go_enter Try.func43, Try.ntmps43
      go_wp2
      go_ret
      exact ret_err C.out ((Keep.refl _ _).alloc _)
    · have hm2 : (gs.length : Int) ≤ 1024 := by omega
      have hm3 : (4096 : Int) < (ps.length : Int) := by omega
      go_enter Try.func43, Try.ntmps43
      go_wp2
      go_ret
      exact ret_err C.out ((Keep.refl _ _).alloc _)
  have HM := hid hm
  have hg1 : (gs.length : Int) ≤ 1024 := by omega
  have hp1 : (ps.length : Int) ≤ 4096 := by omega
  have D1 : decide (em < 1) = false := by simp; omega
  have D2 : decide (16384 < em) = false := by simp; omega
  have D3 : decide ((1024 : Int) < (gs.length : Int)) = false := by simp; omega
  have D4 : decide ((4096 : Int) < (ps.length : Int)) = false := by simp; omega
  clear he hm
  have K0 : Keep [] w (w.alloc (.cells #[.int .i64 em, .slice ga gs.length gc, .slice pa ps.length pc] 25)) := (Keep.refl _ _).alloc _
  have F0 := blk_new w (.cells #[.int .i64 em, .slice ga gs.length gc, .slice pa ps.length pc] 25)
  have h0 := h.old K0 (by simp)
  go_enter Try.func43, Try.ntmps43
  go_wp2_with fail
  generalize w.alloc (.cells #[.int .i64 em, .slice ga gs.length gc, .slice pa ps.length pc] 25) = W0 at *
  obtain ⟨f0, f1, f2, _, _, _, fs⟩ := cells3 F0
  generalize w.heap.size = q0 at *
  clear f0 f1 f2
  go_loopw [3] (fun vk wr => ∃ k : Nat, k ≤ gs.length ∧ vk = .int .i64 k ∧ Hid (∀ i, i < k → okG gs i) ∧ Keep [] W0 wr) (fun vk _ => gs.length - (intOf vk).toNat)
  case atStart => exact ⟨0, Nat.zero_le _, rfl, hid (fun i hi => by omega), Keep.refl _ _⟩
  case round =>
    obtain ⟨k, hk, rfl, HG, Kk⟩ := hrel
    obtain ⟨f0, f1, f2, _, _, _, fs⟩ := cells3 (Kk.blk F0 (by simp))
    have hF := h0.old Kk (by simp)
    by_cases hlt : k < gs.length
    · -- slow<
      obtain ⟨g, hg⟩ : ∃ g, gs[k]? = some g := ⟨gs[k], List.getElem?_eq_getElem hlt⟩
      obtain ⟨ad, hA, hc⟩ := hF.gr k g hg
      simp only at hA
      have d0 := hc 0 _ rfl
      have d1 := hc 1 _ rfl
      have d2 := hc 2 _ rfl
      have d3 := hc 3 _ rfl
      rw [add_at _ _ _ (by omega)] at d1 d2 d3
      rw [Nat.add_zero] at d0
      have HGE := hid hg
      have HGR := hid hF.gr
      have OK := hid (okG_at HGE.out)
      have HF := hid hF
      clear hc hg hF
      have H0 := hid h0
      have HW := hid h
      clear h0 h
      subst hA
      have hcs : wd g.ru = 0 ∨ wd g.ru ≠ 0 ∧ ((0 < k ∧ ∃ q, gs[k - 1]? = some q ∧ g.ru ≤ q.ru) ∨
          ((k = 0 ∨ 0 < k ∧ ∃ q, gs[k - 1]? = some q ∧ q.ru < g.ru) ∧ (decide (0 ≤ g.wd ∧ g.wd ≤ 16384) = false ∨ decide (0 ≤ g.wd ∧ g.wd ≤ 16384) = true ∧ (decide (0 ≤ g.ht ∧ g.ht ≤ 16384) = false ∨ decide (0 ≤ g.ht ∧ g.ht ≤ 16384) = true ∧ (decide (0 ≤ g.dp ∧ g.dp ≤ 16384) = false ∨ decide (0 ≤ g.dp ∧ g.dp ≤ 16384) = true))))) := by
        by_cases a1 : wd g.ru = 0
        · exact .inl a1
        refine .inr ⟨a1, ?_⟩
        by_cases a2 : k = 0
        · refine .inr ⟨.inl a2, ?_⟩
          by_cases b1 : 0 ≤ g.wd ∧ g.wd ≤ 16384 <;> by_cases b2 : 0 ≤ g.ht ∧ g.ht ≤ 16384 <;> by_cases b3 : 0 ≤ g.dp ∧ g.dp ≤ 16384 <;> simp [b1, b2, b3]
        · obtain ⟨q, hq⟩ : ∃ q, gs[k - 1]? = some q := ⟨gs[k - 1], List.getElem?_eq_getElem (by omega)⟩
          by_cases a3 : g.ru ≤ q.ru
          · exact .inl ⟨by omega, q, hq, a3⟩
          · refine .inr ⟨.inr ⟨by omega, q, hq, by omega⟩, ?_⟩
            by_cases b1 : 0 ≤ g.wd ∧ g.wd ≤ 16384 <;> by_cases b2 : 0 ≤ g.ht ∧ g.ht ≤ 16384 <;> by_cases b3 : 0 ≤ g.dp ∧ g.dp ≤ 16384 <;> simp [b1, b2, b3]
      rcases hcs with c1 | ⟨c1, ⟨hk0, q, hq, c2⟩ | ⟨c2, c3⟩⟩
      · have C := hid (check_glyph (em := em) (ps := ps) HE.out HM.out hlt (fun hok => (OK.out.1 hok).1 c1))
        have W := hid c1
        clear c1
        go_upto_region 9 with (fail)
        go_quiet ((first | (go_at_call 73; exact Calls.quiet_of_same (rwidth_at _ _ _ W.out))))
        go_wp2
        go_ret
        exact ret_err C.out ((K0.trans (Kk.alloc _)).drewN _)
      · have C := hid (check_glyph (em := em) (ps := ps) HE.out HM.out hlt (fun hok => by have := (OK.out.1 hok).2.1 q hk0 hq; omega))
        obtain ⟨n, hn⟩ : ∃ n, wd g.ru = n := ⟨_, rfl⟩
        rw [hn] at c1
        have W := hid hn
        have c1' : (n == 0) = false := by simpa using c1
        clear c1 hn
        obtain ⟨ad', hA', hc'⟩ := HGR.out (k - 1) q hq
        obtain rfl : ad = ad' := Option.some.inj hA'
        have q0' := hc' 0 _ rfl
        rw [Nat.add_zero] at q0'
        have HQ := hid hq
        clear hc' hA' hq
        obtain ⟨j, rfl⟩ : ∃ j, k = j + 1 := ⟨k - 1, by omega⟩
        have p1 : (0 : Int) < ((j + 1 : Nat) : Int) := by omega
        have p2 : IntKind.i64.wrap (((j + 1 : Nat) : Int) - 1) = ((j : Nat) : Int) := by rw [show ((j + 1 : Nat) : Int) - 1 = ((j : Nat) : Int) by omega]; exact IntWalk.i64_in _ (by omega)
        have p3 : j < gs.length := by omega
        rw [Nat.add_sub_cancel] at q0'
        have q0'' := cell_alloc' q0' (.cells #[.int .i64 g.ru, .int .i64 g.wd, .int .i64 g.ht, .int .i64 g.dp] 45)
        go_upto_region 9 with (fail)
        go_quiet ((first | (go_at_call 73; exact Calls.quiet_of_same (rwidth_at _ _ _ W.out))))
        go_wp2
        go_ret
        exact ret_err C.out ((K0.trans (Kk.alloc _)).drewN _)
      · obtain ⟨n, hn⟩ : ∃ n, wd g.ru = n := ⟨_, rfl⟩
        rw [hn] at c1
        have W := hid hn
        have c1' : (n == 0) = false := by simpa using c1
        clear hn
        rcases c2 with rfl | ⟨hk0, q, hq, c2⟩
        · rw [show ad.add (0 * 4) = ad by simp [Addr.add]] at d0 d1 d2 d3
          rcases c3 with c3 | ⟨c3, c4 | ⟨c4, c5 | c5⟩⟩
          · have U1 := hid c3
            clear c3
            have C := hid (check_glyph (em := em) (ps := ps) HE.out HM.out hlt (fun hok => by obtain ⟨_, _, h1, h2, h3⟩ := OK.out.1 hok; have hu := U1.out; rw [decide_eq_true h1] at hu; cases hu))
            go_upto_region 9 with (fail)
            go_quiet ((first | (go_at_call 73; exact Calls.quiet_of_same (rwidth_at _ _ _ W.out)) | (go_at_call 74; (first | (with_reducible exact Calls.quiet_of_same (rwithin_at g.wd _ _ U1.out))))))
            go_wp2
            go_ret
            exact ret_err C.out ((K0.trans (Kk.alloc _)).drewN _)
          · have U1 := hid c3
            have U2 := hid c4
            clear c3 c4
            have C := hid (check_glyph (em := em) (ps := ps) HE.out HM.out hlt (fun hok => by obtain ⟨_, _, h1, h2, h3⟩ := OK.out.1 hok; have hu := U2.out; rw [decide_eq_true h2] at hu; cases hu))
            go_upto_region 9 with (fail)
            go_quiet ((first | (go_at_call 73; exact Calls.quiet_of_same (rwidth_at _ _ _ W.out)) | (go_at_call 74; (first | (with_reducible exact Calls.quiet_of_same (rwithin_at g.wd _ _ U1.out)) | (with_reducible exact Calls.quiet_of_same (rwithin_at g.ht _ _ U2.out))))))
            go_wp2
            go_ret
            exact ret_err C.out ((K0.trans (Kk.alloc _)).drewN _)
          · have U1 := hid c3
            have U2 := hid c4
            have U3 := hid c5
            clear c3 c4 c5
            have C := hid (check_glyph (em := em) (ps := ps) HE.out HM.out hlt (fun hok => by obtain ⟨_, _, h1, h2, h3⟩ := OK.out.1 hok; have hu := U3.out; rw [decide_eq_true h3] at hu; cases hu))
            go_upto_region 9 with (fail)
            go_quiet ((first | (go_at_call 73; exact Calls.quiet_of_same (rwidth_at _ _ _ W.out)) | (go_at_call 74; (first | (with_reducible exact Calls.quiet_of_same (rwithin_at g.wd _ _ U1.out)) | (with_reducible exact Calls.quiet_of_same (rwithin_at g.ht _ _ U2.out)) | (with_reducible exact Calls.quiet_of_same (rwithin_at g.dp _ _ U3.out))))))
            go_wp2
            go_ret
            exact ret_err C.out ((K0.trans (Kk.alloc _)).drewN _)
          · have U1 := hid c3
            have U2 := hid c4
            have U3 := hid c5
            clear c3 c4 c5
            have okk := hid (OK.out.2 ⟨by rw [W.out]; exact c1, fun q h => by omega, by simpa using U1.out, by simpa using U2.out, by simpa using U3.out⟩)
            go_upto_region 9 with (fail)
            go_quiet ((first | (go_at_call 73; exact Calls.quiet_of_same (rwidth_at _ _ _ W.out)) | (go_at_call 74; (first | (with_reducible exact Calls.quiet_of_same (rwithin_at g.wd _ _ U1.out)) | (with_reducible exact Calls.quiet_of_same (rwithin_at g.ht _ _ U2.out)) | (with_reducible exact Calls.quiet_of_same (rwithin_at g.dp _ _ U3.out))))))
            go_wp2
            go_roundw
            case rel => exact ⟨0 + 1, hlt, by go_num, hid (fun i hi => by by_cases e : i = 0; exact e ▸ okk.out; exact HG.out i (by omega)), (Kk.alloc _).drewN _⟩
            case measure => simp [intOf]; omega
        · obtain ⟨ad', hA', hc'⟩ := HGR.out (k - 1) q hq
          obtain rfl : ad = ad' := Option.some.inj hA'
          have q0' := hc' 0 _ rfl
          rw [Nat.add_zero] at q0'
          have HQ := hid hq
          clear hc' hA' hq
          obtain ⟨j, rfl⟩ : ∃ j, k = j + 1 := ⟨k - 1, by omega⟩
          have p1 : (0 : Int) < ((j + 1 : Nat) : Int) := by omega
          have p2 : IntKind.i64.wrap (((j + 1 : Nat) : Int) - 1) = ((j : Nat) : Int) := by rw [show ((j + 1 : Nat) : Int) - 1 = ((j : Nat) : Int) by omega]; exact IntWalk.i64_in _ (by omega)
          have p3 : j < gs.length := by omega
          rw [Nat.add_sub_cancel] at q0'
          have q0'' := cell_alloc' q0' (.cells #[.int .i64 g.ru, .int .i64 g.wd, .int .i64 g.ht, .int .i64 g.dp] 45)
          have p4 : decide (g.ru ≤ q.ru) = false := by simp; omega
          rcases c3 with c3 | ⟨c3, c4 | ⟨c4, c5 | c5⟩⟩
          · have U1 := hid c3
            clear c3
            have C := hid (check_glyph (em := em) (ps := ps) HE.out HM.out hlt (fun hok => by obtain ⟨_, _, h1, h2, h3⟩ := OK.out.1 hok; have hu := U1.out; rw [decide_eq_true h1] at hu; cases hu))
            go_upto_region 9 with (fail)
            go_quiet ((first | (go_at_call 73; exact Calls.quiet_of_same (rwidth_at _ _ _ W.out)) | (go_at_call 74; (first | (with_reducible exact Calls.quiet_of_same (rwithin_at g.wd _ _ U1.out))))))
            go_wp2
            go_ret
            exact ret_err C.out ((K0.trans (Kk.alloc _)).drewN _)
          · have U1 := hid c3
            have U2 := hid c4
            clear c3 c4
            have C := hid (check_glyph (em := em) (ps := ps) HE.out HM.out hlt (fun hok => by obtain ⟨_, _, h1, h2, h3⟩ := OK.out.1 hok; have hu := U2.out; rw [decide_eq_true h2] at hu; cases hu))
            go_upto_region 9 with (fail)
            go_quiet ((first | (go_at_call 73; exact Calls.quiet_of_same (rwidth_at _ _ _ W.out)) | (go_at_call 74; (first | (with_reducible exact Calls.quiet_of_same (rwithin_at g.wd _ _ U1.out)) | (with_reducible exact Calls.quiet_of_same (rwithin_at g.ht _ _ U2.out))))))
            go_wp2
            go_ret
            exact ret_err C.out ((K0.trans (Kk.alloc _)).drewN _)
          · have U1 := hid c3
            have U2 := hid c4
            have U3 := hid c5
            clear c3 c4 c5
            have C := hid (check_glyph (em := em) (ps := ps) HE.out HM.out hlt (fun hok => by obtain ⟨_, _, h1, h2, h3⟩ := OK.out.1 hok; have hu := U3.out; rw [decide_eq_true h3] at hu; cases hu))
            go_upto_region 9 with (fail)
            go_quiet ((first | (go_at_call 73; exact Calls.quiet_of_same (rwidth_at _ _ _ W.out)) | (go_at_call 74; (first | (with_reducible exact Calls.quiet_of_same (rwithin_at g.wd _ _ U1.out)) | (with_reducible exact Calls.quiet_of_same (rwithin_at g.ht _ _ U2.out)) | (with_reducible exact Calls.quiet_of_same (rwithin_at g.dp _ _ U3.out))))))
            go_wp2
            go_ret
            exact ret_err C.out ((K0.trans (Kk.alloc _)).drewN _)
          · have U1 := hid c3
            have U2 := hid c4
            have U3 := hid c5
            clear c3 c4 c5
            have okk := hid (OK.out.2 ⟨by rw [W.out]; exact c1, fun q' _ hq' => by have h := HQ.out; rw [hq'] at h; cases h; exact c2, by simpa using U1.out, by simpa using U2.out, by simpa using U3.out⟩)
            go_upto_region 9 with (fail)
            go_quiet ((first | (go_at_call 73; exact Calls.quiet_of_same (rwidth_at _ _ _ W.out)) | (go_at_call 74; (first | (with_reducible exact Calls.quiet_of_same (rwithin_at g.wd _ _ U1.out)) | (with_reducible exact Calls.quiet_of_same (rwithin_at g.ht _ _ U2.out)) | (with_reducible exact Calls.quiet_of_same (rwithin_at g.dp _ _ U3.out))))))
            go_wp2
            go_roundw
            case rel => exact ⟨j + 1 + 1, hlt, by go_num, hid (fun i hi => by by_cases e : i = j + 1; exact e ▸ okk.out; exact HG.out i (by omega)), (Kk.alloc _).drewN _⟩
            case measure => simp [intOf]; omega
      -- slow>
    · obtain rfl : k = gs.length := by omega
      have HGG := hid (show GoodG gs from HG.out)
      have HGW := hid (goodW HGG.out)
      clear HG hlt hk hF
      go_wp2_with fail
      clear f0 f1 f2 fs
      go_loopw [5] (fun vk wr => ∃ k : Nat, k ≤ ps.length ∧ vk = .int .i64 k ∧ Hid (∀ i, i < k → okP gs ps i) ∧ Keep [] W0 wr) (fun vk _ => ps.length - (intOf vk).toNat)
      case atStart => exact ⟨0, Nat.zero_le _, rfl, hid (fun i hi => by omega), Kk⟩
      case round =>
        clear Kk
        obtain ⟨k, hk, rfl, HP, Kk⟩ := hrel
        obtain ⟨f0, f1, f2, _, _, _, fs⟩ := cells3 (Kk.blk F0 (by simp))
        have hF := h0.old Kk (by simp)
        by_cases hlt : k < ps.length
        · obtain ⟨p, hp⟩ : ∃ p, ps[k]? = some p := ⟨ps[k], List.getElem?_eq_getElem hlt⟩
          obtain ⟨ad, hA, hc⟩ := hF.pr k p hp
          simp only at hA
          have d0 := hc 0 _ rfl
          have d1 := hc 1 _ rfl
          have d2 := hc 2 _ rfl
          have d3 := hc 3 _ rfl
          have d4 := hc 4 _ rfl
          rw [add_at _ _ _ (by omega)] at d1 d2 d3 d4
          rw [Nat.add_zero] at d0
          have HPE := hid hp
          have HPR := hid hF.pr
          have OK := hid (okP_at (gs := gs) HPE.out)
          have HGR : ∀ W, Keep [] W0 W → Calls Try.prog 75 #[.agg #[.int .i64 em, .slice ga gs.length gc, .slice pa ps.length pc], .agg #[.int .i64 p.lf, .int .i64 p.rt, .bool p.is, .int .i64 p.lg, .int .i64 p.kn]] W fun e w' => e = .returned (.bool (fineX gs p)) ∧ Keep [] W w' := fun W K => rpaired_any em ga pa gc ps.length pc gs p W (h0.gr.old K (by simp)) (by omega) HGW.out
          clear hc hp hF
          have H0 := hid h0
          have HW := hid h
          clear h0 h
          subst hA
          obtain ⟨b, hb⟩ : ∃ b, fineX gs p = b := ⟨_, rfl⟩
          have HB := hid hb
          rw [hb] at HGR OK
          have HCF := hid HGR
          clear hb HGR
          cases b with
          | false =>
            have C := hid (check_pair (em := em) HE.out HM.out HGG.out hlt (fun hok => by have := (OK.out.1 hok).1; cases this))
            have p4 : (k : Int) < (ps.length : Int) := by omega
            go_upto_region 14 with (fail)
            refine wp_region_held_lex 6 (fun w' => w'.cell? ⟨q0, 0, none⟩ = some (.int .i64 em) ∧ w'.cell? ⟨q0, 1, none⟩ = some (.slice ga gs.length gc) ∧ w'.cell? ⟨q0, 2, none⟩ = some (.slice (some ad) ps.length pc) ∧ w'.cell? (ad.add (k * 5)) = some (.int .i64 p.lf) ∧ w'.cell? ⟨(ad.add (k * 5)).block, (ad.add (k * 5)).off + 1, none⟩ = some (.int .i64 p.rt) ∧ w'.cell? ⟨(ad.add (k * 5)).block, (ad.add (k * 5)).off + 2, none⟩ = some (.bool p.is) ∧ w'.cell? ⟨(ad.add (k * 5)).block, (ad.add (k * 5)).off + 3, none⟩ = some (.int .i64 p.lg) ∧ w'.cell? ⟨(ad.add (k * 5)).block, (ad.add (k * 5)).off + 4, none⟩ = some (.int .i64 p.kn) ∧ Keep [] W0 w') (by kernel_rfl) (by simp) (by kernel_rfl) (by kernel_rfl) (fun _ _ d _ _ h => by cases d <;> exact h) ⟨f0, f1, f2, d0, d1, d2, d3, d4, Kk.drew⟩ ?_
            simp only [List.take_succ_cons, List.take_zero]
            refine heldL_yes (v := ?_) rfl (fun w hSw => ?_) ?_
            rotate_left
            · (obtain ⟨y0, y1, y2, y3, y4, y5, y6, y7, _⟩ := hSw; go_simp; (try with_reducible rfl))
            (try simp only [Act.put, List.setIfInBounds_toArray, List.set_cons_zero, List.set_cons_succ])
            refine heldL_yes (v := ?_) rfl (fun w hSw => ?_) ?_
            rotate_left
            · (obtain ⟨y0, y1, y2, y3, y4, y5, y6, y7, _⟩ := hSw; go_simp; (try with_reducible rfl))
            (try simp only [Act.put, List.setIfInBounds_toArray, List.set_cons_zero, List.set_cons_succ])
            refine heldL_yes (v := ?_) rfl (fun w hSw => ?_) ?_
            rotate_left
            · (obtain ⟨y0, y1, y2, y3, y4, y5, y6, y7, _⟩ := hSw; go_simp; (try with_reducible rfl))
            (try simp only [Act.put, List.setIfInBounds_toArray, List.set_cons_zero, List.set_cons_succ])
            refine heldL_yes (v := ?_) rfl (fun w hSw => ?_) ?_
            rotate_left
            · (obtain ⟨y0, y1, y2, y3, y4, y5, y6, y7, _⟩ := hSw; go_simp; (try with_reducible rfl))
            (try simp only [Act.put, List.setIfInBounds_toArray, List.set_cons_zero, List.set_cons_succ])
            refine heldL_yes (v := ?_) rfl (fun w hSw => ?_) ?_
            rotate_left
            · (obtain ⟨y0, y1, y2, y3, y4, y5, y6, y7, _⟩ := hSw; go_simp; (try with_reducible rfl))
            (try simp only [Act.put, List.setIfInBounds_toArray, List.set_cons_zero, List.set_cons_succ])
            refine heldL_yes (v := ?_) rfl (fun w hSw => ?_) ?_
            rotate_left
            · (obtain ⟨y0, y1, y2, y3, y4, y5, y6, y7, _⟩ := hSw; go_simp; (try with_reducible rfl))
            (try simp only [Act.put, List.setIfInBounds_toArray, List.set_cons_zero, List.set_cons_succ])
            refine heldL_nil ?_
            change wpAnyH _ _ _ _ _ (20 + 1) _ _ _
            refine wpAnyH_lone (k := 6) (o := ?oa6) (by kernel_rfl) ?hoa6 ?hha6
            case hoa6 => (simp only [List.getElem?_toArray, List.getElem?_cons_zero, List.getElem?_cons_succ]; rfl)
            intro KK6 hK6
            rw [if_pos (by rfl)]
            go_simp
            (with_reducible refine (HCF.out _ Kk.drew).mono ?_)
            rintro e w1 ⟨rfl, K1⟩
            (try go_wp2_with fail)
            refine hK6.out _ _ ⟨K1.cell' (cell_drew' f0) (by simp), K1.cell' (cell_drew' f1) (by simp), K1.cell' (cell_drew' f2) (by simp), K1.cell' (cell_drew' d0) (by simp), K1.cell' (cell_drew' d1) (by simp), K1.cell' (cell_drew' d2) (by simp), K1.cell' (cell_drew' d3) (by simp), K1.cell' (cell_drew' d4) (by simp), Kk.drew.trans K1⟩ (fun hHeld6 => ?_)
            clear hK6 KK6
            change wpAnyH _ _ _ _ _ (20 + 0) _ _ _
            refine anyH_seg 7 20 0 (by simp) (by kernel_rfl) (by kernel_rfl) (fun _ _ d _ _ h => by cases d <;> exact h) hHeld6 ?_
            simp only [List.drop_succ_cons, List.drop_zero, List.take_succ_cons, List.take_zero]
            refine heldL_yes (v := ?_) rfl (fun w hSw => ?_) ?_
            rotate_left
            · (obtain ⟨y0, y1, y2, y3, y4, y5, y6, y7, _⟩ := hSw; go_simp; (try with_reducible rfl))
            (try simp only [Act.put, List.setIfInBounds_toArray, List.set_cons_zero, List.set_cons_succ])
            refine heldL_yes (v := ?_) rfl (fun w hSw => ?_) ?_
            rotate_left
            · (obtain ⟨y0, y1, y2, y3, y4, y5, y6, y7, _⟩ := hSw; go_simp; (try with_reducible rfl))
            (try simp only [Act.put, List.setIfInBounds_toArray, List.set_cons_zero, List.set_cons_succ])
            refine heldL_no rfl ?_
            (try simp only [Act.put, List.setIfInBounds_toArray, List.set_cons_zero, List.set_cons_succ])
            refine heldL_no rfl ?_
            (try simp only [Act.put, List.setIfInBounds_toArray, List.set_cons_zero, List.set_cons_succ])
            refine heldL_no rfl ?_
            (try simp only [Act.put, List.setIfInBounds_toArray, List.set_cons_zero, List.set_cons_succ])
            refine heldL_no rfl ?_
            (try simp only [Act.put, List.setIfInBounds_toArray, List.set_cons_zero, List.set_cons_succ])
            refine heldL_no rfl ?_
            (try simp only [Act.put, List.setIfInBounds_toArray, List.set_cons_zero, List.set_cons_succ])
            refine heldL_no rfl ?_
            (try simp only [Act.put, List.setIfInBounds_toArray, List.set_cons_zero, List.set_cons_succ])
            refine heldL_no rfl ?_
            (try simp only [Act.put, List.setIfInBounds_toArray, List.set_cons_zero, List.set_cons_succ])
            refine heldL_no rfl ?_
            (try simp only [Act.put, List.setIfInBounds_toArray, List.set_cons_zero, List.set_cons_succ])
            refine heldL_no rfl ?_
            (try simp only [Act.put, List.setIfInBounds_toArray, List.set_cons_zero, List.set_cons_succ])
            refine heldL_no rfl ?_
            (try simp only [Act.put, List.setIfInBounds_toArray, List.set_cons_zero, List.set_cons_succ])
            refine heldL_no rfl ?_
            (try simp only [Act.put, List.setIfInBounds_toArray, List.set_cons_zero, List.set_cons_succ])
            refine heldL_no rfl ?_
            (try simp only [Act.put, List.setIfInBounds_toArray, List.set_cons_zero, List.set_cons_succ])
            refine heldL_no rfl ?_
            (try simp only [Act.put, List.setIfInBounds_toArray, List.set_cons_zero, List.set_cons_succ])
            refine heldL_no rfl ?_
            (try simp only [Act.put, List.setIfInBounds_toArray, List.set_cons_zero, List.set_cons_succ])
            refine heldL_no rfl ?_
            (try simp only [Act.put, List.setIfInBounds_toArray, List.set_cons_zero, List.set_cons_succ])
            refine heldL_no rfl ?_
            (try simp only [Act.put, List.setIfInBounds_toArray, List.set_cons_zero, List.set_cons_succ])
            refine heldL_no rfl ?_
            (try simp only [Act.put, List.setIfInBounds_toArray, List.set_cons_zero, List.set_cons_succ])
            refine heldL_yes (v := ?_) rfl (fun w hSw => ?_) ?_
            rotate_left
            · (obtain ⟨y0, y1, y2, y3, y4, y5, y6, y7, _⟩ := hSw; go_simp; (try with_reducible rfl))
            (try simp only [Act.put, List.setIfInBounds_toArray, List.set_cons_zero, List.set_cons_succ])
            refine heldL_nil ?_
            refine wpAnyH_done (by kernel_rfl) ?_ _
            go_wp2
            go_ret
            exact ret_err C.out (K0.trans (Kk.drew.trans K1))
          | true =>
            rcases Nat.eq_zero_or_pos k with rfl | hk0
            · rw [show ad.add (0 * 5) = ad by simp [Addr.add]] at d0 d1 d2 d3 d4
              have okk := hid (OK.out.2 ⟨rfl, fun q h => by omega⟩)
              have p4 : (0 : Int) < (ps.length : Int) := by omega
              go_upto_region 14 with (fail)
              refine wp_region_held_lex 6 (fun w' => w'.cell? ⟨q0, 0, none⟩ = some (.int .i64 em) ∧ w'.cell? ⟨q0, 1, none⟩ = some (.slice ga gs.length gc) ∧ w'.cell? ⟨q0, 2, none⟩ = some (.slice (some ad) ps.length pc) ∧ w'.cell? ad = some (.int .i64 p.lf) ∧ w'.cell? ⟨ad.block, ad.off + 1, none⟩ = some (.int .i64 p.rt) ∧ w'.cell? ⟨ad.block, ad.off + 2, none⟩ = some (.bool p.is) ∧ w'.cell? ⟨ad.block, ad.off + 3, none⟩ = some (.int .i64 p.lg) ∧ w'.cell? ⟨ad.block, ad.off + 4, none⟩ = some (.int .i64 p.kn) ∧ Keep [] W0 w') (by kernel_rfl) (by simp) (by kernel_rfl) (by kernel_rfl) (fun _ _ d _ _ h => by cases d <;> exact h) ⟨f0, f1, f2, d0, d1, d2, d3, d4, Kk.drew⟩ ?_
              simp only [List.take_succ_cons, List.take_zero]
              refine heldL_yes (v := ?_) rfl (fun w hSw => ?_) ?_
              rotate_left
              · (obtain ⟨y0, y1, y2, y3, y4, y5, y6, y7, _⟩ := hSw; go_simp; (try with_reducible rfl))
              (try simp only [Act.put, List.setIfInBounds_toArray, List.set_cons_zero, List.set_cons_succ])
              refine heldL_yes (v := ?_) rfl (fun w hSw => ?_) ?_
              rotate_left
              · (obtain ⟨y0, y1, y2, y3, y4, y5, y6, y7, _⟩ := hSw; go_simp; (try with_reducible rfl))
              (try simp only [Act.put, List.setIfInBounds_toArray, List.set_cons_zero, List.set_cons_succ])
              refine heldL_yes (v := ?_) rfl (fun w hSw => ?_) ?_
              rotate_left
              · (obtain ⟨y0, y1, y2, y3, y4, y5, y6, y7, _⟩ := hSw; go_simp; (try with_reducible rfl))
              (try simp only [Act.put, List.setIfInBounds_toArray, List.set_cons_zero, List.set_cons_succ])
              refine heldL_yes (v := ?_) rfl (fun w hSw => ?_) ?_
              rotate_left
              · (obtain ⟨y0, y1, y2, y3, y4, y5, y6, y7, _⟩ := hSw; go_simp; (try with_reducible rfl))
              (try simp only [Act.put, List.setIfInBounds_toArray, List.set_cons_zero, List.set_cons_succ])
              refine heldL_yes (v := ?_) rfl (fun w hSw => ?_) ?_
              rotate_left
              · (obtain ⟨y0, y1, y2, y3, y4, y5, y6, y7, _⟩ := hSw; go_simp; (try with_reducible rfl))
              (try simp only [Act.put, List.setIfInBounds_toArray, List.set_cons_zero, List.set_cons_succ])
              refine heldL_yes (v := ?_) rfl (fun w hSw => ?_) ?_
              rotate_left
              · (obtain ⟨y0, y1, y2, y3, y4, y5, y6, y7, _⟩ := hSw; go_simp; (try with_reducible rfl))
              (try simp only [Act.put, List.setIfInBounds_toArray, List.set_cons_zero, List.set_cons_succ])
              refine heldL_nil ?_
              change wpAnyH _ _ _ _ _ (20 + 1) _ _ _
              refine wpAnyH_lone (k := 6) (o := ?ob6) (by kernel_rfl) ?hob6 ?hhb6
              case hob6 => (simp only [List.getElem?_toArray, List.getElem?_cons_zero, List.getElem?_cons_succ]; rfl)
              intro KK6 hK6
              rw [if_pos (by rfl)]
              go_simp
              (with_reducible refine (HCF.out _ Kk.drew).mono ?_)
              rintro e w1 ⟨rfl, K1⟩
              (try go_wp2_with fail)
              refine hK6.out _ _ ⟨K1.cell' (cell_drew' f0) (by simp), K1.cell' (cell_drew' f1) (by simp), K1.cell' (cell_drew' f2) (by simp), K1.cell' (cell_drew' d0) (by simp), K1.cell' (cell_drew' d1) (by simp), K1.cell' (cell_drew' d2) (by simp), K1.cell' (cell_drew' d3) (by simp), K1.cell' (cell_drew' d4) (by simp), Kk.drew.trans K1⟩ (fun hHeld6 => ?_)
              clear hK6 KK6
              change wpAnyH _ _ _ _ _ (20 + 0) _ _ _
              refine anyH_seg 7 20 0 (by simp) (by kernel_rfl) (by kernel_rfl) (fun _ _ d _ _ h => by cases d <;> exact h) hHeld6 ?_
              simp only [List.drop_succ_cons, List.drop_zero, List.take_succ_cons, List.take_zero]
              refine heldL_yes (v := ?_) rfl (fun w hSw => ?_) ?_
              rotate_left
              · (obtain ⟨y0, y1, y2, y3, y4, y5, y6, y7, _⟩ := hSw; go_simp; (try with_reducible rfl))
              (try simp only [Act.put, List.setIfInBounds_toArray, List.set_cons_zero, List.set_cons_succ])
              refine heldL_yes (v := ?_) rfl (fun w hSw => ?_) ?_
              rotate_left
              · (obtain ⟨y0, y1, y2, y3, y4, y5, y6, y7, _⟩ := hSw; go_simp; (try with_reducible rfl))
              (try simp only [Act.put, List.setIfInBounds_toArray, List.set_cons_zero, List.set_cons_succ])
              refine heldL_yes (v := ?_) rfl (fun w hSw => ?_) ?_
              rotate_left
              · (obtain ⟨y0, y1, y2, y3, y4, y5, y6, y7, _⟩ := hSw; go_simp; (try with_reducible rfl))
              (try simp only [Act.put, List.setIfInBounds_toArray, List.set_cons_zero, List.set_cons_succ])
              refine heldL_yes (v := ?_) rfl (fun w hSw => ?_) ?_
              rotate_left
              · (obtain ⟨y0, y1, y2, y3, y4, y5, y6, y7, _⟩ := hSw; go_simp; (try with_reducible rfl))
              (try simp only [Act.put, List.setIfInBounds_toArray, List.set_cons_zero, List.set_cons_succ])
              refine heldL_yes (v := ?_) rfl (fun w hSw => ?_) ?_
              rotate_left
              · (obtain ⟨y0, y1, y2, y3, y4, y5, y6, y7, _⟩ := hSw; go_simp; (try with_reducible rfl))
              (try simp only [Act.put, List.setIfInBounds_toArray, List.set_cons_zero, List.set_cons_succ])
              refine heldL_no rfl ?_
              (try simp only [Act.put, List.setIfInBounds_toArray, List.set_cons_zero, List.set_cons_succ])
              refine heldL_no rfl ?_
              (try simp only [Act.put, List.setIfInBounds_toArray, List.set_cons_zero, List.set_cons_succ])
              refine heldL_no rfl ?_
              (try simp only [Act.put, List.setIfInBounds_toArray, List.set_cons_zero, List.set_cons_succ])
              refine heldL_no rfl ?_
              (try simp only [Act.put, List.setIfInBounds_toArray, List.set_cons_zero, List.set_cons_succ])
              refine heldL_no rfl ?_
              (try simp only [Act.put, List.setIfInBounds_toArray, List.set_cons_zero, List.set_cons_succ])
              refine heldL_no rfl ?_
              (try simp only [Act.put, List.setIfInBounds_toArray, List.set_cons_zero, List.set_cons_succ])
              refine heldL_no rfl ?_
              (try simp only [Act.put, List.setIfInBounds_toArray, List.set_cons_zero, List.set_cons_succ])
              refine heldL_no rfl ?_
              (try simp only [Act.put, List.setIfInBounds_toArray, List.set_cons_zero, List.set_cons_succ])
              refine heldL_no rfl ?_
              (try simp only [Act.put, List.setIfInBounds_toArray, List.set_cons_zero, List.set_cons_succ])
              refine heldL_no rfl ?_
              (try simp only [Act.put, List.setIfInBounds_toArray, List.set_cons_zero, List.set_cons_succ])
              refine heldL_no rfl ?_
              (try simp only [Act.put, List.setIfInBounds_toArray, List.set_cons_zero, List.set_cons_succ])
              refine heldL_no rfl ?_
              (try simp only [Act.put, List.setIfInBounds_toArray, List.set_cons_zero, List.set_cons_succ])
              refine heldL_no rfl ?_
              (try simp only [Act.put, List.setIfInBounds_toArray, List.set_cons_zero, List.set_cons_succ])
              refine heldL_yes (v := ?_) rfl (fun w hSw => ?_) ?_
              rotate_left
              · (obtain ⟨y0, y1, y2, y3, y4, y5, y6, y7, _⟩ := hSw; go_simp; (try with_reducible rfl))
              (try simp only [Act.put, List.setIfInBounds_toArray, List.set_cons_zero, List.set_cons_succ])
              refine heldL_yes (v := ?_) rfl (fun w hSw => ?_) ?_
              rotate_left
              · (obtain ⟨y0, y1, y2, y3, y4, y5, y6, y7, _⟩ := hSw; go_simp; (try with_reducible rfl))
              (try simp only [Act.put, List.setIfInBounds_toArray, List.set_cons_zero, List.set_cons_succ])
              refine heldL_nil ?_
              refine wpAnyH_done (by kernel_rfl) ?_ _
              go_wp2
              go_roundw
              case rel => exact ⟨0 + 1, hlt, by go_num, hid (fun i hi => by by_cases e : i = 0; exact e ▸ okk.out; exact HP.out i (by omega)), Kk.drew.trans K1⟩
              case measure => simp [intOf]; omega
            · obtain ⟨j, rfl⟩ : ∃ j, k = j + 1 := ⟨k - 1, by omega⟩
              obtain ⟨q, hq⟩ : ∃ q, ps[j]? = some q := ⟨ps[j], List.getElem?_eq_getElem (by omega)⟩
              obtain ⟨ad', hA', hc'⟩ := HPR.out j q hq
              obtain rfl : ad = ad' := Option.some.inj hA'
              have e0 := hc' 0 _ rfl
              have e1 := hc' 1 _ rfl
              have e2 := hc' 2 _ rfl
              have e3 := hc' 3 _ rfl
              have e4 := hc' 4 _ rfl
              rw [add_at _ _ _ (by omega)] at e1 e2 e3 e4
              rw [Nat.add_zero] at e0
              have HQ := hid hq
              clear hc' hA' hq
              have p1 : (0 : Int) < ((j + 1 : Nat) : Int) := by omega
              have p2 : IntKind.i64.wrap (((j + 1 : Nat) : Int) - 1) = ((j : Nat) : Int) := by rw [show ((j + 1 : Nat) : Int) - 1 = ((j : Nat) : Int) by omega]; exact IntWalk.i64_in _ (by omega)
              have p3 : j < ps.length := by omega
              have p4 : (j : Int) < (ps.length : Int) := by omega
              have p5 : (j : Int) + 1 < (ps.length : Int) := by omega
              have p6 : IntKind.i64.wrap ((j : Int) + 1 - 1) = (j : Int) := by rw [show (j : Int) + 1 - 1 = (j : Int) by omega]; exact IntWalk.i64_in _ (by omega)
              have p7 : (0 : Int) ≤ (j : Int) + 1 := by omega
              have p8 : (0 : Int) ≤ (j : Int) := by omega
              have p9 : ((j : Int) + 1).toNat = j + 1 := by omega
              have p10 : IntKind.i64.wrap (j : Int) = (j : Int) := IntWalk.i64_in _ (by omega)
              by_cases hbh : behindX p q
              · -- slow<
                have okk := hid (OK.out.2 ⟨rfl, fun q' _ hq' => by rw [Nat.add_sub_cancel] at hq'; have h := HQ.out; rw [hq'] at h; cases h; exact hbh⟩)
                have CB : ∀ W, Calls Try.prog 76 #[.agg #[.int .i64 p.lf, .int .i64 p.rt, .bool p.is, .int .i64 p.lg, .int .i64 p.kn], .agg #[.int .i64 q.lf, .int .i64 q.rt, .bool q.is, .int .i64 q.lg, .int .i64 q.kn]] W fun e w' => e = .returned (.bool true) ∧ Keep [] W w' := fun W => rbehind_at p q true W (by simp [hbh])
                have HCB := hid CB
                clear CB
                go_upto_region 14 with (fail)
                go_region_held3 (fun w' => w'.cell? ⟨q0, 0, none⟩ = some (.int .i64 em) ∧ w'.cell? ⟨q0, 1, none⟩ = some (.slice ga gs.length gc) ∧ w'.cell? ⟨q0, 2, none⟩ = some (.slice (some ad) ps.length pc) ∧ w'.cell? (ad.add ((j + 1) * 5)) = some (.int .i64 p.lf) ∧ w'.cell? ⟨(ad.add ((j + 1) * 5)).block, (ad.add ((j + 1) * 5)).off + 1, none⟩ = some (.int .i64 p.rt) ∧ w'.cell? ⟨(ad.add ((j + 1) * 5)).block, (ad.add ((j + 1) * 5)).off + 2, none⟩ = some (.bool p.is) ∧ w'.cell? ⟨(ad.add ((j + 1) * 5)).block, (ad.add ((j + 1) * 5)).off + 3, none⟩ = some (.int .i64 p.lg) ∧ w'.cell? ⟨(ad.add ((j + 1) * 5)).block, (ad.add ((j + 1) * 5)).off + 4, none⟩ = some (.int .i64 p.kn) ∧ w'.cell? (ad.add (j * 5)) = some (.int .i64 q.lf) ∧ w'.cell? ⟨(ad.add (j * 5)).block, (ad.add (j * 5)).off + 1, none⟩ = some (.int .i64 q.rt) ∧ w'.cell? ⟨(ad.add (j * 5)).block, (ad.add (j * 5)).off + 2, none⟩ = some (.bool q.is) ∧ w'.cell? ⟨(ad.add (j * 5)).block, (ad.add (j * 5)).off + 3, none⟩ = some (.int .i64 q.lg) ∧ w'.cell? ⟨(ad.add (j * 5)).block, (ad.add (j * 5)).off + 4, none⟩ = some (.int .i64 q.kn) ∧ Keep [] W0 w') ((go_split_ands; refine ⟨?_, ?_, ?_, ?_, ?_, ?_, ?_, ?_, ?_, ?_, ?_, ?_, ?_, ?_⟩ <;> (repeat (with_reducible first | assumption | refine cell_drew' ?_ | exact Kk | refine Keep.drew ?_ | refine Keep.cell' (S := []) (by assumption) ?_ (by simp) | refine Keep.trans (S := []) ?_ (by assumption))))) ((first | (go_at_call 75; (with_reducible refine (HCF.out _ (by repeat (with_reducible first | exact Kk | assumption | refine Keep.drew ?_ | refine Keep.trans (S := []) ?_ (by assumption)))).mono ?_); rintro e w1 ⟨rfl, K1⟩) | (go_at_call 76; (with_reducible refine (HCB.out _).mono ?_); rintro e w2 ⟨rfl, K2⟩)))
                go_wp2
                go_roundw
                case rel => exact ⟨j + 1 + 1, hlt, by go_num, hid (fun i hi => by by_cases e : i = j + 1; exact e ▸ okk.out; exact HP.out i (by omega)), (Kk.drew.trans K1).trans K2⟩
                case measure => simp [intOf]; omega
                -- slow>
              · -- slow<
                have C := hid (check_pair (em := em) HE.out HM.out HGG.out hlt (fun hok => hbh ((OK.out.1 hok).2 q hk0 (by rw [Nat.add_sub_cancel]; exact HQ.out))))
                have CB : ∀ W, Calls Try.prog 76 #[.agg #[.int .i64 p.lf, .int .i64 p.rt, .bool p.is, .int .i64 p.lg, .int .i64 p.kn], .agg #[.int .i64 q.lf, .int .i64 q.rt, .bool q.is, .int .i64 q.lg, .int .i64 q.kn]] W fun e w' => e = .returned (.bool false) ∧ Keep [] W w' := fun W => rbehind_at p q false W (by simp [hbh])
                have HCB := hid CB
                clear CB
                go_upto_region 14 with (fail)
                go_region_held3 (fun w' => w'.cell? ⟨q0, 0, none⟩ = some (.int .i64 em) ∧ w'.cell? ⟨q0, 1, none⟩ = some (.slice ga gs.length gc) ∧ w'.cell? ⟨q0, 2, none⟩ = some (.slice (some ad) ps.length pc) ∧ w'.cell? (ad.add ((j + 1) * 5)) = some (.int .i64 p.lf) ∧ w'.cell? ⟨(ad.add ((j + 1) * 5)).block, (ad.add ((j + 1) * 5)).off + 1, none⟩ = some (.int .i64 p.rt) ∧ w'.cell? ⟨(ad.add ((j + 1) * 5)).block, (ad.add ((j + 1) * 5)).off + 2, none⟩ = some (.bool p.is) ∧ w'.cell? ⟨(ad.add ((j + 1) * 5)).block, (ad.add ((j + 1) * 5)).off + 3, none⟩ = some (.int .i64 p.lg) ∧ w'.cell? ⟨(ad.add ((j + 1) * 5)).block, (ad.add ((j + 1) * 5)).off + 4, none⟩ = some (.int .i64 p.kn) ∧ w'.cell? (ad.add (j * 5)) = some (.int .i64 q.lf) ∧ w'.cell? ⟨(ad.add (j * 5)).block, (ad.add (j * 5)).off + 1, none⟩ = some (.int .i64 q.rt) ∧ w'.cell? ⟨(ad.add (j * 5)).block, (ad.add (j * 5)).off + 2, none⟩ = some (.bool q.is) ∧ w'.cell? ⟨(ad.add (j * 5)).block, (ad.add (j * 5)).off + 3, none⟩ = some (.int .i64 q.lg) ∧ w'.cell? ⟨(ad.add (j * 5)).block, (ad.add (j * 5)).off + 4, none⟩ = some (.int .i64 q.kn) ∧ Keep [] W0 w') ((go_split_ands; refine ⟨?_, ?_, ?_, ?_, ?_, ?_, ?_, ?_, ?_, ?_, ?_, ?_, ?_, ?_⟩ <;> (repeat (with_reducible first | assumption | refine cell_drew' ?_ | exact Kk | refine Keep.drew ?_ | refine Keep.cell' (S := []) (by assumption) ?_ (by simp) | refine Keep.trans (S := []) ?_ (by assumption))))) ((first | (go_at_call 75; (with_reducible refine (HCF.out _ (by repeat (with_reducible first | exact Kk | assumption | refine Keep.drew ?_ | refine Keep.trans (S := []) ?_ (by assumption)))).mono ?_); rintro e w1 ⟨rfl, K1⟩) | (go_at_call 76; (with_reducible refine (HCB.out _).mono ?_); rintro e w2 ⟨rfl, K2⟩)))
                go_wp2
                go_ret
                exact ret_err C.out (K0.trans ((Kk.drew.trans K1).trans K2))
                -- slow>
        · obtain rfl : k = ps.length := by omega
          go_wp2
          go_ret
          exact ret_err (check_ok HE.out HM.out HGG.out HP.out) (K0.trans Kk)

end Go.Proofs.Ythcfgechifogeaa
