/- FixWhole's walk. -/
import Derived.Test.YtldckefnelgdgaaPick
import Derived.Test.YtldckefnelgdgaaWholeLaw
import Derived.Test.YtldckefnelgdgaaShown01
import Derived.Test.YtldckefnelgdgaaIntsOpen
namespace Go.Proofs.Ytldckefnelgdgaa
open Go.RowKit
set_option linter.unusedSimpArgs false
set_option linter.unusedVariables false

theorem sum_nonneg {l : List Int} (h : ∀ x ∈ l, 0 ≤ x) : 0 ≤ l.sum := by
  induction l with
  | nil => simp
  | cons x r ih =>
    rw [List.sum_cons]
    have := ih (fun y hy => h y (by simp [hy]))
    have := h x (by simp)
    omega
theorem sum_take_le {l : List Int} (h : ∀ x ∈ l, 0 ≤ x) (k : Nat) : 0 ≤ (l.take k).sum ∧ (l.take k).sum ≤ l.sum := by
  have e : (l.take k).sum + (l.drop k).sum = l.sum := by rw [← List.sum_append, List.take_append_drop]
  have h1 := sum_nonneg (l := l.take k) (fun x hx => h x (List.mem_of_mem_take hx))
  have h2 := sum_nonneg (l := l.drop k) (fun x hx => h x (List.mem_of_mem_drop hx))
  omega

/-- All that the law asks of one part. -/
structure PartOk (a sum at_ q all x s2 : Int) : Prop where
  x0 : -140737488355328 ≤ x
  x1 : x ≤ 140737488355328
  zero : q = 0 → x = 0
  pos : 0 ≤ a → 0 ≤ x
  neg : a ≤ 0 → x ≤ 0
  s : sum + x = s2
  s0 : -70368744177664 ≤ s2
  s1 : s2 ≤ 70368744177664
  near : -65536 < a → a < 65536 → q < 1099511627776 → all < 1099511627776 → ∃ u v y : Int, wrap64 ((x + 1) * all) = u ∧ wrap64 (a * q) = v ∧ wrap64 ((x - 1) * all) = y ∧ v < u ∧ y < v

theorem mul_small {a q : Int} (h0 : -65537 ≤ a) (h1 : a ≤ 65537) (g0 : 0 ≤ q) (g1 : q ≤ 1099511627776) : -1000000000000000000 ≤ a * q ∧ a * q ≤ 1000000000000000000 := by
  have k1 : a * q ≤ 65537 * q := Int.mul_le_mul_of_nonneg_right h1 g0
  have k2 : -65537 * q ≤ a * q := Int.mul_le_mul_of_nonneg_right h0 g0
  omega

theorem part_ok {a at_ q all : Int} (ha : -70368744177664 ≤ a ∧ a ≤ 70368744177664) (h0 : 0 ≤ at_) (hq : 0 ≤ q) (hall : at_ + q ≤ all) (h1 : 1 ≤ all) (h2 : all ≤ 70368744177664) :
    PartOk a (floorX a at_.toNat all.toNat) at_ q all (shareX a at_ (at_ + q) all) (floorX a (at_ + q).toNat all.toNat) := by
  have hs : shareX a at_ (at_ + q) all = floorX a (at_ + q).toNat all.toNat - floorX a at_.toNat all.toNat := by
    unfold shareX
    rw [if_pos]
    exact ⟨decide_eq_true ha, by omega, by omega, by omega, by omega, by omega⟩
  have r1 := floor_range (a := a) (p := at_.toNat) (d := all.toNat) (by omega) (by omega) (by omega)
  have r2 := floor_range (a := a) (p := (at_ + q).toNat) (d := all.toNat) (by omega) (by omega) (by omega)
  have e1 : (at_ + q).toNat = at_.toNat + q.toNat := by omega
  have m0 : 0 ≤ a → floorX a at_.toNat all.toNat ≤ floorX a (at_ + q).toNat all.toNat := fun h => floorX_mono h (by omega)
  have m1 : a ≤ 0 → floorX a (at_ + q).toNat all.toNat ≤ floorX a at_.toNat all.toNat := fun h => floorX_anti (by omega) h (by omega)
  have nr := floorX_near (a := a) (p := at_.toNat) (q := q.toNat) (d := all.toNat) (by omega)
  rw [← e1] at nr
  have e2 : ((all.toNat : Nat) : Int) = all := by omega
  have e3 : ((q.toNat : Nat) : Int) = q := by omega
  rw [e2, e3] at nr
  have hz : q = 0 → floorX a (at_ + q).toNat all.toNat = floorX a at_.toNat all.toNat := fun h => by rw [h, Int.add_zero]
  have hb : -65536 < a → a < 65536 → -65536 ≤ floorX a (at_ + q).toNat all.toNat - floorX a at_.toNat all.toNat ∧ floorX a (at_ + q).toNat all.toNat - floorX a at_.toNat all.toNat ≤ 65536 := by
    intro ha0 ha1
    obtain ⟨b1, c1⟩ := floor_bound (x := a.natAbs) (p := at_.toNat) (d := all.toNat) (by omega) (by omega)
    obtain ⟨b2, c2⟩ := floor_bound (x := a.natAbs) (p := (at_ + q).toNat) (d := all.toNat) (by omega) (by omega)
    unfold floorX
    generalize a.natAbs * at_.toNat / all.toNat = q1 at *
    generalize a.natAbs * at_.toNat % all.toNat = q2 at *
    generalize a.natAbs * (at_ + q).toNat / all.toNat = q3 at *
    generalize a.natAbs * (at_ + q).toNat % all.toNat = q4 at *
    clear nr r1 r2 m0 m1 hz
    split <;> (try split) <;> (try split) <;> omega
  rw [hs]
  generalize floorX a (at_ + q).toNat all.toNat = F2 at *
  generalize floorX a at_.toNat all.toNat = F1 at *
  refine ⟨by omega, by omega, fun h => by have := hz h; omega, fun h => by have := m0 h; omega, fun h => by have := m1 h; omega, by omega, by omega, by omega, ?_⟩
  intro n0 n1 n2 n3
  obtain ⟨b0, b1⟩ := hb n0 n1
  have p1 := mul_small (a := F2 - F1 + 1) (q := all) (by omega) (by omega) (by omega) (by omega)
  have p2 := mul_small (a := a) (q := q) (by omega) (by omega) (by omega) (by omega)
  have p3 := mul_small (a := F2 - F1 - 1) (q := all) (by omega) (by omega) (by omega) (by omega)
  refine ⟨_, _, _, rfl, rfl, rfl, ?_⟩
  generalize (F2 - F1 + 1) * all = u at *
  generalize (F2 - F1 - 1) * all = y at *
  generalize a * q = v at *
  unfold wrap64
  omega

/-- Where the second loop stands. -/
structure WholeRel (a all : Int) (l : List Int) (k : Nat) (sum at_ : Int) : Prop where
  s : sum = floorX a at_.toNat all.toNat
  at_ : at_ = (l.take k).sum

set_option maxHeartbeats 6400000 in
set_option maxRecDepth 100000 in
theorem walkWhole (a : Int) (A : Option Addr) (c : Nat) (xs : List Int) (w : World) (hr : Rd intRow 1 w A xs) (hx : ∀ x ∈ xs, -9223372036854775808 ≤ x ∧ x ≤ 9223372036854775807) (hl : xs.length * 8 ≤ 140737488351232) (ha : -9223372036854775808 ≤ a ∧ a ≤ 9223372036854775807) :
    Calls Try.prog 4 #[.int .i64 a, .slice A xs.length c] w fun e w' => e = .returned (.bool true) ∧ Below w.heap.size w w' := by
  by_cases hok : -70368744177664 ≤ a ∧ a ≤ 70368744177664
  · obtain ⟨ok0, ok1⟩ := hok
    go_enter Try.func4, Try.ntmps4
    go_wp2_with fail
    refine (shown01 _).mono ?_
    rintro e w1 ⟨rfl, K1⟩
    have s1 := K1.size
    have O1 := World.ownsRow_lit (base := w.heap.size) (e := 3) (size := 1) w1 #[] 0 s1 (by simp [maxLen]) rfl
    have KA : Keep [] w _ := K1.alloc (.cells #[] 3)
    go_wp2_with fail
    go_loopw [8, 6, 7] (fun vi va vl wr => ∃ (k : Nat) (l : List Int), k ≤ xs.length ∧ vi = .int .i64 k ∧ va = .int .i64 l.sum ∧ l.length = k ∧ (∀ x ∈ l, 0 ≤ x) ∧ l.sum ≤ 70368744177664 ∧ wr.ownsRow w.heap.size 3 1 vl l.length (l.flatMap intRow) ∧ Keep [] w wr) (fun vi _ _ _ => xs.length - (intOf vi).toNat)
    case atStart => exact ⟨0, [], Nat.zero_le _, rfl, rfl, rfl, by simp, by simp, O1, KA⟩
    case round =>
      obtain ⟨k, l, hk, rfl, rfl, hlen, hnn, hsum, O, K⟩ := hrel
      clear O1 KA
      have hs0 := sum_nonneg hnn
      by_cases hlt : k < xs.length
      · obtain ⟨x, hxk⟩ : ∃ x, xs[k]? = some x := ⟨xs[k], List.getElem?_eq_getElem hlt⟩
        obtain ⟨ad, hA, hc⟩ := hr.old K (by simp) k x hxk
        have hc0 := hc 0 _ rfl
        rw [Nat.mul_one, Nat.add_zero] at hc0
        have hxr := hx x (List.mem_of_getElem? hxk)
        clear hc hxk
        subst hA
        have hp := pick_range (c := x) (n := 70368744177664) (by omega)
        obtain ⟨p, hpe⟩ : ∃ p, p = pickX x 70368744177664 := ⟨_, rfl⟩
        go_wp2_with fail
        refine (pick_any x 70368744177664 _ (by omega) hxr.1).mono ?_
        rintro e w' ⟨rfl, rfl⟩
        rw [← hpe] at hp ⊢
        have sK := K.size
        have HP := hid hpe
        have HLen := hid hlen
        clear hpe hlen
        obtain ⟨S, hS⟩ : ∃ S, S = l.sum := ⟨_, rfl⟩
        rw [← hS] at hsum hs0 ⊢
        have HS := hid hS
        clear hS
        by_cases hbig : 70368744177664 - S < p
        · go_wp2_with (first | (at_builtin; (refine append_cells rfl _ _ 25 (.int .i64 0) 1 8 rfl (by kernel_rfl) (by kernel_rfl) (by kernel_rfl) (by decide) (by decide) w.heap.size u7 _ _ rfl rfl (by simp) rfl (by simp [Value.oneCell']) O sK (by have := HLen.out; omega) ?_; rintro v3 w3 O3 G3)))
          have K3 : Keep [] w w3 := Keep.grown (K.alloc _) G3 (fun j hj => .inr (own_base O j hj).1)
          go_roundw
          case rel => exact ⟨k + 1, l ++ [0], hlt, by go_num, by rw [List.sum_append, ← HS.out]; simp, by simp [HLen.out], fun y hy => by simp at hy; rcases hy with h | h; exact hnn y h; omega, by rw [List.sum_append, ← HS.out]; simpa using hsum, by simpa [intRow] using O3, K3⟩
          case measure => simp [intOf]; omega
        · go_wp2_with (first | (at_builtin; (refine append_cells rfl _ _ 25 (.int .i64 0) 1 8 rfl (by kernel_rfl) (by kernel_rfl) (by kernel_rfl) (by decide) (by decide) w.heap.size u7 _ _ rfl rfl (by simp) rfl (by simp [Value.oneCell']) O sK (by have := HLen.out; omega) ?_; rintro v3 w3 O3 G3)))
          have K3 : Keep [] w w3 := Keep.grown (K.alloc _) G3 (fun j hj => .inr (own_base O j hj).1)
          go_roundw
          case rel => exact ⟨k + 1, l ++ [p], hlt, by go_num, by rw [List.sum_append, ← HS.out]; simp, by simp [HLen.out], fun y hy => by simp at hy; rcases hy with h | h; exact hnn y h; omega, by rw [List.sum_append, ← HS.out]; simp; omega, by simpa [intRow] using O3, K3⟩
          case measure => simp [intOf]; omega
      · obtain rfl : k = xs.length := by omega
        obtain ⟨B, cap, rfl, hcap, hrd, _⟩ := own_rd (enc := intRow) (fun _ => rfl) O
        rename World => w5
        obtain ⟨all, hall⟩ : ∃ all, all = l.sum := ⟨_, rfl⟩
        rw [← hall] at hs0 hsum ⊢
        have HA := hid hall
        have HLen := hid hlen
        clear hall hlen O
        by_cases h1 : all < 1
        · go_wp2
          go_ret
          exact ⟨rfl, K.below (Nat.le_refl _) (by simp)⟩
        · have h1' : 1 ≤ all := by omega
          have hll : l.length * 8 ≤ 140737488351232 := by have := HLen.out; omega
          have hll2 : (l.length : Int) ≤ 140737488351232 := by omega
          go_wp2_with fail
          go_loopw [12, 11, 10] (fun vi va vs wr => ∃ (k : Nat) (at_ s : Int), k ≤ l.length ∧ vi = .int .i64 k ∧ va = .int .i64 at_ ∧ vs = .int .i64 s ∧ Hid (at_ = (l.take k).sum) ∧ Hid (s = floorX a at_.toNat all.toNat) ∧ Keep [] w5 wr) (fun vi _ _ _ => l.length - (intOf vi).toNat)
          case atStart => exact ⟨0, 0, 0, Nat.zero_le _, rfl, rfl, rfl, hid (by simp), hid (floorX_zero _ _ (by omega)).symm, Keep.refl _ _⟩
          case round =>
            obtain ⟨k, at_, s, hk, rfl, rfl, rfl, Hat, Hs, K2⟩ := hrel
            by_cases hlt : k < l.length
            · obtain ⟨q, hqk⟩ : ∃ q, l[k]? = some q := ⟨l[k], List.getElem?_eq_getElem hlt⟩
              obtain ⟨ad, hB, hcs⟩ := hrd.old K2 (by simp) k q hqk
              have hc0 := hcs 0 _ rfl
              rw [Nat.mul_one, Nat.add_zero] at hc0
              have hq0 := hnn q (List.mem_of_getElem? hqk)
              have t0 := sum_take_le hnn k
              have t1 := sum_take_le hnn (k + 1)
              have hts := (congrArg List.sum (take_snoc hqk)).trans (by rw [List.sum_append]; simp : _ = (l.take k).sum + q)
              rw [← Hat.out] at t0 hts
              rw [hts, ← HA.out] at t1
              rw [← HA.out] at t0
              have PO := part_ok (a := a) (at_ := at_) (q := q) (all := all) ⟨ok0, ok1⟩ t0.1 hq0 t1.2 h1' hsum
              rw [← Hs.out] at PO
              have CS := hid (fun w => share_any a at_ (at_ + q) all w)
              obtain ⟨x, hxe⟩ : ∃ x, x = shareX a at_ (at_ + q) all := ⟨_, rfl⟩
              obtain ⟨s2, hs2⟩ : ∃ s2, s2 = floorX a (at_ + q).toNat all.toNat := ⟨_, rfl⟩
              simp only [← hxe] at CS
              rw [← hxe, ← hs2] at PO
              have Hs2 := hid hs2
              have Hts := hid hts
              clear hcs hqk hxe hs2 hts
              subst hB
              obtain ⟨x0, x1, xz, xp, xn, xs0, xs1, xs2, xnear⟩ := PO
              obtain ⟨at2, hat2⟩ : ∃ at2, at2 = at_ + q := ⟨_, rfl⟩
              have hat3 : at_ + q = at2 := hat2.symm
              rw [hat3] at CS Hs2 Hts t1
              obtain ⟨t00, t01⟩ := t0
              obtain ⟨t10, t11⟩ := t1
              have hat4 : wrap64 (at_ + q) = at2 := by unfold wrap64; omega
              have hat5 := hid hat2
              clear hat2 hat3
              have key : (a < 0 ∧ x ≤ 0 ∨ (0 ≤ a ∧ a ≤ 0 ∧ 0 ≤ x ∧ x ≤ 0) ∨ 0 < a ∧ 0 ≤ x) := by
                clear xnear
                omega
              have key2 : ((q == 0) = false ∨ (q == 0) = true ∧ (x != 0) = false) := by
                by_cases h : q = 0
                · exact .inr ⟨by simp [h], by simp [xz h]⟩
                · exact .inl (by simp [h])
              have HN := hid xnear
              clear xz xnear xp xn
              rcases key with ⟨ha1, hx1⟩ | ⟨ha1, ha2, hx1, hx2⟩ | ⟨ha1, hx1⟩ <;> rcases key2 with hq1 | ⟨hq1, hq2⟩
              all_goals
                go_wp2_with fail
                refine (CS.out _).mono ?_
                rintro e w' ⟨rfl, n1, rfl⟩
                go_upto_region 28 with (fail)
                by_cases b1 : -65536 < a
                · by_cases b2 : a < 65536
                  · by_cases b3 : q < 1099511627776
                    · by_cases b4 : all < 1099511627776
                      · obtain ⟨u, v, y, p1, p2, p3, p4, p5⟩ := HN.out b1 b2 b3 b4
                        clear HN
                        go_wp2
                        go_roundw
                        case rel => exact ⟨k + 1, at2, s2, hlt, by go_num, rfl, rfl, hid Hts.out.symm, Hs2, K2.drewN _⟩
                        case measure => simp [intOf]; omega
                      · go_wp2
                        go_roundw
                        case rel => exact ⟨k + 1, at2, s2, hlt, by go_num, rfl, rfl, hid Hts.out.symm, Hs2, K2.drewN _⟩
                        case measure => simp [intOf]; omega
                    · go_wp2
                      go_roundw
                      case rel => exact ⟨k + 1, at2, s2, hlt, by go_num, rfl, rfl, hid Hts.out.symm, Hs2, K2.drewN _⟩
                      case measure => simp [intOf]; omega
                  · go_wp2
                    go_roundw
                    case rel => exact ⟨k + 1, at2, s2, hlt, by go_num, rfl, rfl, hid Hts.out.symm, Hs2, K2.drewN _⟩
                    case measure => simp [intOf]; omega
                · go_wp2
                  go_roundw
                  case rel => exact ⟨k + 1, at2, s2, hlt, by go_num, rfl, rfl, hid Hts.out.symm, Hs2, K2.drewN _⟩
                  case measure => simp [intOf]; omega
            · obtain rfl : k = l.length := by omega
              rw [List.take_length, ← HA.out] at Hat
              have he := Hat.out
              have hs := Hs.out
              subst he
              rw [floorX_all a at_.toNat (by omega)] at hs
              subst hs
              clear Hat Hs HA
              go_wp2
              go_ret
              exact ⟨rfl, (K.trans K2).below (Nat.le_refl _) (by simp)⟩
  · have key : a < -70368744177664 ∨ (-70368744177664 ≤ a ∧ 70368744177664 < a) := by omega
    clear hok
    rcases key with h | ⟨h, g⟩
    all_goals
      go_enter Try.func4, Try.ntmps4
      go_wp2_with fail
      refine (shown01 _).mono ?_
      rintro e w1 ⟨rfl, K1⟩
      go_wp2
      go_ret
      exact ⟨rfl, K1.below (Nat.le_refl _) (by simp)⟩

theorem walkFixWhole {H : Type} {enc : TypeId × Value → H} {W : World} {base : Nat} (a : Int) (wa : (Lit.int .i64 a).wf = true) {v1 : Value} {d1 : DataW H} {p1 : List MemPlace} (ok1 : Value.okWide Try.prog W .any base 25 v1) (h1 : DataW.Trod enc Try.prog W 0 (fun _ => true) true 25 v1 d1 p1)
    (z1 : ∀ n ∈ d1.weights Try.prog 25, n ≤ reachBytes) (w : World) (hw : w = W) :
    Calls Try.prog 4 #[.int .i64 a, v1] w fun e w' => e = .returned (.bool true) ∧ Below w.heap.size w w' := by
  subst hw
  obtain ⟨A, n, c, xs, rfl, rfl, hn, hr, hx, hl⟩ := open_intl Try.underlying25 Try.underlying3 (by kernel_rfl) (by kernel_rfl) ok1 h1 z1
  simp [Lit.wf, IntKind.min, IntKind.max, IntKind.signed, IntKind.bits] at wa
  exact walkWhole a A c xs w hr hx hl (by omega)

end Go.Proofs.Ytldckefnelgdgaa
