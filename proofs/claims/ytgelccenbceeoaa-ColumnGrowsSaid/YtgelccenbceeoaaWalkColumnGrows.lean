/- ColumnGrows' walk. -/
import Derived.Test.YtgelccenbceeoaaGrowsLaw
import Derived.Test.YtgelccenbceeoaaWalkColumnParts
namespace Go.Proofs.Ytgelccenbceeoaa
open Go.RowKit
set_option linter.unusedSimpArgs false
set_option linter.unusedVariables false

theorem tall_n (A : Option Addr) (c n : Nat) (l : List Slab) (w : World) (hn : l.length = n) (hr : Rd Slab.row 9 w A l) (hl : n ≤ 1152921504606846976) (hc : n ≤ c) :
    Calls Try.prog 34 #[.slice A n c] w fun e w' => e = .returned (.int .i64 (tall l)) ∧ Keep [] w w' := by
  subst hn
  exact tall_any A c l w hr hl hc

set_option maxHeartbeats 6400000 in
set_option maxRecDepth 100000 in
theorem walkGrows (A B : Option Addr) (c d : Nat) (ps : List ParX) (ls : List LinesX) (w : World) (L : Laid w A B c d ps ls) :
    Calls Try.prog 9 #[.slice A ps.length c, .slice B ls.length d] w fun e w' => e = .returned (.bool true) ∧ Below w.heap.size w w' := by
  have b1 : (ps.length : Int) ≤ 9223372036854775807 := by have := L.hc; have := L.cm; omega
  have b2 : (ls.length : Int) ≤ 9223372036854775807 := by have := L.hd; have := L.dm; omega
  go_enter Try.func9, Try.ntmps9
  go_wp2_with fail
  refine L.beyond.mono ?_
  rintro e w1 ⟨rfl, K1⟩
  cases hB : beyondB ps ls with
  | true =>
    go_wp2
    go_ret
    exact ⟨rfl, K1.below (Nat.le_refl _) (by simp)⟩
  | false =>
    have ht : totalN ps ls ≤ 2147483647 := by unfold beyondB at hB; simpa using hB
    go_wp2_with fail
    refine (shown17 _).mono ?_
    rintro e w2 ⟨rfl, K2⟩
    have K12 := K1.trans K2
    clear K1 K2 hB
    go_wp2_with fail
    refine (new_good 1099511627776 1099511627776 _ (by omega) (by omega)).mono ?_
    rintro e w3 ⟨rfl, M3, K3, s3⟩
    have K13 := K12.trans K3
    have g0 := K12.size
    generalize w2.heap.size = g at *
    clear K12 K3
    by_cases hlen : ps.length = ls.length
    · have Hlen := hid hlen
      rw [← hlen]
      clear hlen
      go_wp2_with fail
      refine (L.fit g (MS.new 1099511627776 1099511627776) K13 g0 M3 (by simp [MS.ok, MS.new]) Hlen.out ht rfl (by simp [MS.new]) (by simp [MS.new]) rfl Hlen.out.symm).mono ?_
      rintro e w4 ⟨A4, c4, m4, rfl, T4⟩
      have q0 := slabsAll_len_eq ps ls 0 0 Hlen.out
      have q1 : sumN lenX ls ≤ totalN ps ls := by unfold totalN lenX; omega
      have S4 : m4.sn = ((slabsAll 0 0 ps ls).length : Int) := T4.sn.trans (by simp [MS.new])
      have C4 : m4.cn = ((slabsAll 0 0 ps ls).length : Int) := T4.cn.trans (by simp [MS.new])
      have Q0 := hid q0
      have q2 : (slabsAll 0 0 ps ls).length ≤ 2147483647 := by omega
      have F4 : Hid (∀ ad, A4 = some ad → ad = ⟨ad.block, 0, none⟩) := hid fun ad h => T4.ha ad h
      have hc4 := T4.hc
      have R4 := T4.r
      have K14 := K13.then T4.k (by simp; omega)
      have N4 := blk_new w4 (.cells #[.int .i64 0, .int .i64 0] 59)
      have M4 : IsM _ g m4 := blk_alloc T4.m (.cells #[.int .i64 0, .int .i64 0] 59)
      have R4' := R4.old ((Keep.refl [] w4).alloc (.cells #[.int .i64 0, .int .i64 0] 59)) (by simp)
      have K15 := K14.alloc (.cells #[.int .i64 0, .int .i64 0] 59)
      have PR : Hid (∀ (i k : Nat) (p : ParX) (x : LinesX) (y : LineX), ps[i]? = some p → ls[i]? = some x → x.l[k]? = some y → StandsAt 0 (slabsAll 0 0 ps ls) (sumN lenX (ls.take i) + k) i k x.l.length p y) := hid fun i k p x y h1 h2 h3 => by
        have h := slabsAll_at ps ls 0 0 i k p x y (by omega) (by omega) h1 h2 h3
        rwa [Nat.zero_add] at h
      have GR := hid (tall_grows (slabsAll 0 0 ps ls) (slabs_roomy ps ls))
      have S4' := hid S4
      have C4' := hid C4
      clear q0 S4 C4 R4 T4 K14 M3 K13 s3
      generalize slabsAll 0 0 ps ls = ALL at *
      have L5 := L.old K15 (by simp)
      go_wp2_with fail
      refine (steps_any g m4 _ M4).mono ?_
      rintro e w5 ⟨rfl, rfl⟩
      rw [S4'.out]
      go_wp2_with fail
      refine (held_any g m4 _ M4).mono ?_
      rintro e w5 ⟨rfl, rfl⟩
      rw [C4'.out]
      generalize w4.alloc (.cells #[.int .i64 0, .int .i64 0] 59) = W at *
      clear M4 S4' C4' N4
      go_wp2_with fail
      go_loopw [10, 9] (fun vi va wr => ∃ i at_ : Nat, i ≤ ps.length ∧ vi = .int .i64 i ∧ va = .int .i64 at_ ∧ Hid (at_ = sumN lenX (ls.take i)) ∧ Keep [] W wr) (fun vi _ _ => ps.length - (intOf vi).toNat)
      case atStart => exact ⟨0, 0, Nat.zero_le _, rfl, rfl, hid (by simp [sumN]), Keep.refl _ _⟩
      case round =>
        obtain ⟨i, at_, hi, rfl, rfl, HS, K⟩ := hrel
        by_cases hlt : i < ps.length
        · obtain ⟨p, hpi⟩ : ∃ p, ps[i]? = some p := ⟨ps[i], List.getElem?_eq_getElem hlt⟩
          obtain ⟨x, hxi⟩ : ∃ x, ls[i]? = some x := ⟨ls[i]'(by rw [← Hlen.out]; exact hlt), List.getElem?_eq_getElem (by rw [← Hlen.out]; exact hlt)⟩
          have HPI := hid hpi
          have HXI := hid hxi
          have hxl : (x.l.length : Int) ≤ 9223372036854775807 := by have := L.lm x (List.mem_of_getElem? hxi); omega
          clear hpi hxi
          go_wp2_with fail
          go_loopw [11, 9] (fun vk va wq => ∃ k at2 : Nat, k ≤ x.l.length ∧ vk = .int .i64 k ∧ va = .int .i64 at2 ∧ Hid (at2 = at_ + k) ∧ Keep [] W wq) (fun vk _ _ => x.l.length - (intOf vk).toNat)
          case atStart => exact ⟨0, at_, Nat.zero_le _, rfl, rfl, hid rfl, K⟩
          case round =>
            clear K
            obtain ⟨k, at2, hk, rfl, rfl, HA, K⟩ := hrel
            obtain ⟨bd, hB, hbs⟩ := L5.l.old K (by simp) i x HXI.out
            obtain ⟨pd, hA, hcs⟩ := L5.p.old K (by simp) i p HPI.out
            subst hB hA
            have f0 := hbs 0 _ rfl
            rw [Nat.add_zero, Nat.mul_one] at f0
            have f1 := hcs 2 _ rfl
            rw [add_at _ _ _ (by omega)] at f1
            clear hbs hcs
            by_cases hk2 : k < x.l.length
            · obtain ⟨y, hy⟩ : ∃ y, x.l[k]? = some y := ⟨x.l[k], List.getElem?_eq_getElem hk2⟩
              have hst := PR.out i k p x y HPI.out HXI.out hy
              rw [← HS.out, ← HA.out] at hst
              obtain ⟨s, hs, s0, s1, s7, s8, s5, s4, s4', q0, q1, hprev⟩ := stands_ok hst
              have hat : at2 < ALL.length := (List.getElem?_eq_some_iff.1 hs).1
              obtain ⟨ad4, hA4, hds⟩ := (R4'.old K (by simp)) at2 s hs
              obtain ⟨g4, rfl⟩ : ∃ n, ad4 = ⟨n, 0, none⟩ := ⟨_, F4.out ad4 hA4⟩
              subst hA4
              have d0 := hds 0 _ rfl
              have d1 := hds 1 _ rfl
              have d2 := hds 2 _ rfl
              have d3 := hds 3 _ rfl
              have d4 := hds 4 _ rfl
              have d5 := hds 5 _ rfl
              have d6 := hds 6 _ rfl
              have d7 := hds 7 _ rfl
              have d8 := hds 8 _ rfl
              rw [add_zero_at] at d0 d1 d2 d3 d4 d5 d6 d7 d8
              rw [Nat.add_zero] at d0
              rw [s0] at d0
              rw [s1] at d1
              rw [s7] at d7
              rw [s8] at d8
              have hat2 : (at2 : Int) < (ALL.length : Int) := by omega
              have hk3 : (k : Int) < (x.l.length : Int) := by omega
              have Hprev := hid hprev
              have HSs := hid hs
              have hge : decide (ALL.length ≤ at2) = false := decide_eq_false (by omega)
              have S5 := hid s5
              have S4 := hid s4
              clear hy hst hs s0 s1 s7 s8 s5 s4 hprev hds
              go_upto_region 20 with (fail)
              go_cut [134] (fun v wc => v = .bool false ∧ Keep [] W wc)
              case first =>
                by_cases k0 : k = 0
                · subst k0
                  by_cases e5 : s.sk = 0
                  · go_quiet (fail)
                    go_wp2
                    go_meet
                    exact ⟨by first | rfl | rw [hge], K.drewN _⟩
                  · go_quiet (fail)
                    go_wp2
                    go_meet
                    exact ⟨by first | rfl | rw [hge], K.drewN _⟩
                · have e5 := S5.out k0
                  rw [e5] at d5
                  have k1 : (0 : Int) < (k : Int) := by omega
                  clear e5
                  go_quiet (fail)
                  go_wp2
                  go_meet
                  exact ⟨by first | rfl | rw [hge], K.drewN _⟩
              case rest =>
                obtain ⟨rfl, K2⟩ := hcut
                clear d0 d1 d2 d3 d4 d5 d6 d7 d8 f0 f1 hge
                rename World => W2
                obtain ⟨_, hA4', hds⟩ := (R4'.old K2 (by simp)) at2 s HSs.out
                obtain rfl := Option.some.inj hA4'
                have d0 := hds 0 _ rfl
                have d1 := hds 1 _ rfl
                have d2 := hds 2 _ rfl
                have d3 := hds 3 _ rfl
                have d4 := hds 4 _ rfl
                have d5 := hds 5 _ rfl
                have d6 := hds 6 _ rfl
                have d7 := hds 7 _ rfl
                have d8 := hds 8 _ rfl
                rw [add_zero_at] at d0 d1 d2 d3 d4 d5 d6 d7 d8
                rw [Nat.add_zero] at d0
                clear hds hA4'
                go_upto_region 23 with (fail)
                have K3 := K2.alloc (.cells #[.int .i64 s.pr, .int .i64 s.ln, .int .i64 s.ht, .int .i64 s.dp, .int .i64 s.ld, .int .i64 s.sk, .int .i64 s.tl, .int .i64 s.ix, .int .i64 s.of_] 51)
                have B3 := blk_new W2 (.cells #[.int .i64 s.pr, .int .i64 s.ln, .int .i64 s.ht, .int .i64 s.dp, .int .i64 s.ld, .int .i64 s.sk, .int .i64 s.tl, .int .i64 s.ix, .int .i64 s.of_] 51)
                clear d0 d1 d2 d3 d4 d5 d6 d7 d8
                generalize W2.alloc (.cells #[.int .i64 s.pr, .int .i64 s.ln, .int .i64 s.ht, .int .i64 s.dp, .int .i64 s.ld, .int .i64 s.sk, .int .i64 s.tl, .int .i64 s.ix, .int .i64 s.of_] 51) = W3 at *
                have x2 := blk_cell B3 2
                have x4 := blk_cell B3 4
                simp only [List.getElem?_toArray, List.getElem?_cons_zero, List.getElem?_cons_succ] at x2 x4
                obtain ⟨_, hA', hcs⟩ := L5.p.old K3 (by simp) i p HPI.out
                obtain rfl := Option.some.inj hA'
                have f1 := hcs 2 _ rfl
                rw [add_at _ _ _ (by omega)] at f1
                clear hcs hA' B3
                go_cut [176] (fun v wc => v = .bool false ∧ Keep [] W wc)
                case first =>
                  have hprev' : at2 = 0 ∨ ∃ (a' : Nat) (z : Slab), at2 = a' + 1 ∧ s.ht + z.dp ≤ s.ld ∧ W3.cell? ⟨g4, a' * 9 + 3, none⟩ = some (.int .i64 z.dp) ∧ 0 ≤ z.dp ∧ z.dp ≤ 70368744177664 := by
                    cases at2 with
                    | zero => exact .inl rfl
                    | succ a' =>
                      obtain ⟨z, hz, h1, h2, h3⟩ := Hprev.out (by omega)
                      rw [Nat.add_sub_cancel] at hz
                      obtain ⟨_, hA4', hds⟩ := (R4'.old K3 (by simp)) a' z hz
                      obtain rfl := Option.some.inj hA4'
                      have d3 := hds 3 _ rfl
                      rw [add_zero_at] at d3
                      exact .inr ⟨a', z, rfl, h1, d3, h2, h3⟩
                  have h8 : decide (s.ld < s.ht) = false := decide_eq_false (by omega)
                  rcases hprev' with rfl | ⟨a', z, rfl, hz1, hz2, hz3, hz4⟩
                  · rcases Int.lt_or_le s.ld p.ld with h5 | h5
                    · have h6 : decide (s.ld < 70368744177664) = false := decide_eq_false (by have := S4.out; omega)
                      have h7 : decide (s.ld < p.ld) = true := decide_eq_true h5
                      go_quiet (fail)
                      go_wp2
                      go_meet
                      exact ⟨by first | rfl | simp [h6, h7, h8], K3.drewN _⟩
                    · have h7 : decide (s.ld < p.ld) = false := decide_eq_false (by omega)
                      go_quiet (fail)
                      go_wp2
                      go_meet
                      exact ⟨by first | rfl | simp [h7, h8], K3.drewN _⟩
                  · have E1 := IntWalk.i64_in (s.ht + z.dp) (by omega)
                    have E2 : IntKind.i64.wrap (((a' + 1 : Nat) : Int) - 1) = (a' : Int) := (IntWalk.i64_in _ (by omega)).trans (by omega)
                    have E3 : IntKind.i64.wrap ((a' : Int) + 1 - 1) = (a' : Int) := (IntWalk.i64_in _ (by omega)).trans (by omega)
                    have E4 : IntKind.i64.wrap (a' : Int) = (a' : Int) := IntWalk.i64_in _ (by omega)
                    have n0 : (a' : Int) < (ALL.length : Int) := by omega
                    have n1 : (0 : Int) < ((a' + 1 : Nat) : Int) := by omega
                    have n2 : (0 : Int) < (a' : Int) + 1 := by omega
                    have h9 : decide (s.ld < s.ht + z.dp) = false := decide_eq_false (by omega)
                    rcases Int.lt_or_le s.ld p.ld with h5 | h5
                    · have h6 : decide (s.ld < 70368744177664) = false := decide_eq_false (by have := S4.out; omega)
                      have h7 : decide (s.ld < p.ld) = true := decide_eq_true h5
                      go_quiet (fail)
                      go_wp2
                      go_meet
                      exact ⟨by first | rfl | simp [h6, h7, h8, h9], K3.drewN _⟩
                    · have h7 : decide (s.ld < p.ld) = false := decide_eq_false (by omega)
                      go_quiet (fail)
                      go_wp2
                      go_meet
                      exact ⟨by first | rfl | simp [h7, h8, h9], K3.drewN _⟩
                case rest =>
                  obtain ⟨rfl, K4⟩ := hcut
                  go_wp2
                  go_roundw
                  case rel => exact ⟨k + 1, at2 + 1, hk2, by go_num, by go_num, hid (by rw [HA.out]; omega), K4⟩
                  case measure => simp [intOf]; omega
            · obtain rfl : k = x.l.length := by omega
              go_wp2
              go_roundw
              case rel => exact ⟨i + 1, at2, hlt, by go_num, rfl, hid (by rw [HA.out, HS.out, sumN_take lenX HXI.out]; rfl), K⟩
              case measure => simp [intOf]; omega
        · obtain rfl : i = ps.length := by omega
          have hat : Hid (at_ = ALL.length) := hid (by rw [HS.out, Q0.out, Hlen.out, List.take_length])
          obtain rfl := hat.out
          clear hat HS hi hlt
          go_wp2_with fail
          go_loopw [13] (fun vn wr => ∃ n : Nat, n ≤ ALL.length ∧ vn = .int .i64 ((n : Int) + 1) ∧ Keep [] W wr) (fun vn _ => ALL.length + 1 - (intOf vn).toNat)
          case atStart => exact ⟨0, Nat.zero_le _, rfl, K⟩
          case round =>
            clear K
            obtain ⟨n, hn, rfl, K⟩ := hrel
            by_cases hlt : n < ALL.length
            · have h1 : (n : Int) + 1 ≤ (ALL.length : Int) := by omega
              by_cases hlt2 : n < 300
              · have h2 : (n : Int) + 1 ≤ 300 := by omega
                have hg := GR.out n hlt
                have R5 := R4'.old K (by simp)
                go_upto_region 31 with (fail)
                have E1 : IntKind.i64.wrap ((n : Int) + 1 - 1) = (n : Int) := (IntWalk.i64_in _ (by omega)).trans (by omega)
                have E1' : IntKind.i64.wrap (n : Int) = (n : Int) := IntWalk.i64_in _ (by omega)
                have E2 : ((n : Int) + 1).toNat = n + 1 := by omega
                have h3 : (0 : Int) ≤ (n : Int) + 1 := by omega
                have h4 : (n : Int) + 1 ≤ (c4 : Int) := by omega
                have h5 : (n : Int) ≤ (c4 : Int) := by omega
                go_region_held3 (fun w' => Keep [] wr w') ((repeat (with_reducible first | exact Keep.refl _ _ | refine Keep.drew ?_ | refine Keep.trans (S := []) ?_ (by assumption)))) ((go_at_call 34; (first | (with_reducible refine (tall_n A4 c4 (n + 1) (ALL.take (n + 1)) _ (by simp; omega) ((R5.old (S := []) (by assumption) (by simp)).take (n + 1)) (by omega) (by omega)).mono ?_) | (with_reducible refine (tall_n A4 c4 n (ALL.take n) _ (by simp; omega) ((R5.old (S := []) (by assumption) (by simp)).take n) (by omega) (by omega)).mono ?_)); rintro e w' ⟨rfl, hK⟩))
                rename_i w6 K6
                have K7 := K.trans K6
                clear E1 E1' E2 h3 h4 h5
                go_wp2
                go_roundw
                case rel => exact ⟨n + 1, hlt, by go_num, K7⟩
                case measure => simp [intOf]; omega
              · have h2 : 300 < (n : Int) + 1 := by omega
                go_wp2
                go_ret
                exact ⟨rfl, (K15.trans K).below (Nat.le_refl _) (by simp)⟩
            · have h1 : (ALL.length : Int) < (n : Int) + 1 := by omega
              go_wp2
              go_ret
              exact ⟨rfl, (K15.trans K).below (Nat.le_refl _) (by simp)⟩
    · have hne : ((ps.length : Int) != (ls.length : Int)) = true := by simp; omega
      go_wp2_with fail
      refine (slabs_bad g A B ps.length c ls.length d _ hlen (by omega) (by omega)).mono ?_
      rintro e w4 ⟨rfl, K4⟩
      go_wp2
      go_ret
      exact ⟨rfl, ((K13.trans K4).alloc _).below (Nat.le_refl _) (by simp)⟩

end Go.Proofs.Ytgelccenbceeoaa
