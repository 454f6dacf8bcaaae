/- The reference's layer 17: between, length, Tall; and that Tall is the program's. -/
import Derived.Test.YtgelccenbceeoaaColumn
namespace Go.Proofs.Ytgelccenbceeoaa
open Go.RowKit
set_option linter.unusedSimpArgs false
set_option linter.unusedVariables false

theorem between_any (n most : Int) (w : World) (hm : 0 ≤ most) : Calls Try.prog 57 #[.int .i64 n, .int .i64 most] w fun e w' => e = .returned (.int .i64 (cl n most)) ∧ w' = w := by
  by_cases h0 : n < 0
  · have E := hid (show cl n most = 0 by unfold cl; omega)
    go_enter Try.func57, Try.ntmps57
    go_wp2
    go_ret
    exact ⟨by rw [E.out]; rfl, rfl⟩
  · by_cases h1 : most < n
    · have E := hid (show cl n most = most by unfold cl; omega)
      go_enter Try.func57, Try.ntmps57
      go_wp2
      go_ret
      exact ⟨by rw [E.out]; rfl, rfl⟩
    · have E := hid (show cl n most = n by unfold cl; omega)
      go_enter Try.func57, Try.ntmps57
      go_wp2
      go_ret
      exact ⟨by rw [E.out]; rfl, rfl⟩

theorem rlength_any (n : Int) (w : World) : Calls Try.prog 56 #[.int .i64 n] w fun e w' => e = .returned (.int .i64 (cl n 70368744177664)) ∧ w' = w := by
  go_enter Try.func56, Try.ntmps56
  go_wp2_with fail
  refine (between_any n 70368744177664 _ (by omega)).mono ?_
  rintro e w' ⟨rfl, rfl⟩
  go_wp2
  go_ret
  exact ⟨rfl, rfl⟩

theorem rlength_same (n : Int) (w : World) : Calls Try.prog 56 #[.int .i64 n] w fun e w' => e = .returned (.int .i64 (cl n 70368744177664)) ∧ w = w' :=
  (rlength_any n w).mono fun _ _ ⟨h, k⟩ => ⟨h, k.symm⟩
theorem between_same (n most : Int) (w : World) (hm : 0 ≤ most) : Calls Try.prog 57 #[.int .i64 n, .int .i64 most] w fun e w' => e = .returned (.int .i64 (cl n most)) ∧ w = w' :=
  (between_any n most w hm).mono fun _ _ ⟨h, k⟩ => ⟨h, k.symm⟩

/-- The reference's sum: it stops where it is great enough. -/
def rtallS : Int → List Slab → Int
  | n, [] => n
  | n, s :: r => if n < 4611686018427387904 then rtallS (n + cl s.sk 70368744177664 + cl s.ld 70368744177664) r else n

theorem tallS_top : ∀ (l : List Slab) {n : Int}, 4611686018427387904 ≤ n → tallS 4611686018427387904 l = 4611686018427387904
  | [], _, _ => rfl
  | s :: r, n, h => by
    have a := cl_range s.sk (most := 70368744177664) (by omega)
    have b := cl_range s.ld (most := 70368744177664) (by omega)
    unfold tallS
    have e : top (4611686018427387904 + cl s.sk 70368744177664 + cl s.ld 70368744177664) = 4611686018427387904 := by unfold top; omega
    rw [e]
    exact tallS_top r h

theorem rtallS_eq : ∀ (l : List Slab) {n : Int}, 0 ≤ n → tallS (top n) l = top (rtallS n l) ∧ 0 ≤ rtallS n l ∧ (n ≤ 4611826755915743232 → rtallS n l ≤ 4611826755915743232)
  | [], n, h => ⟨rfl, h, fun h => h⟩
  | s :: r, n, h => by
    have a := cl_range s.sk (most := 70368744177664) (by omega)
    have b := cl_range s.ld (most := 70368744177664) (by omega)
    unfold rtallS
    by_cases hn : n < 4611686018427387904
    · rw [if_pos hn]
      have e : top n = n := by unfold top; omega
      have ih := rtallS_eq r (n := n + cl s.sk 70368744177664 + cl s.ld 70368744177664) (by omega)
      refine ⟨?_, ih.2.1, fun _ => ih.2.2 (by omega)⟩
      rw [e]
      exact ih.1
    · rw [if_neg hn]
      have e : top n = 4611686018427387904 := by unfold top; omega
      refine ⟨?_, h, fun h => h⟩
      rw [e]
      exact tallS_top (s :: r) (n := n) (by omega)

def rtall : List Slab → Int
  | [] => 0
  | x :: xs => cl (rtallS (cl x.ht 70368744177664) xs + cl ((x :: xs).getLast (by simp)).dp 70368744177664) 4611686018427387904

theorem rtall_eq (l : List Slab) : rtall l = tall l := by
  cases l with
  | nil => rfl
  | cons x xs =>
    show cl (rtallS (cl x.ht 70368744177664) xs + cl ((x :: xs).getLast (by simp)).dp 70368744177664) 4611686018427387904 = top (tallS (cl x.ht 70368744177664) xs + cl ((x :: xs).getLast (by simp)).dp 70368744177664)
    have a := cl_range x.ht (most := 70368744177664) (by omega)
    have b := cl_range ((x :: xs).getLast (by simp)).dp (most := 70368744177664) (by omega)
    have e := rtallS_eq xs (n := cl x.ht 70368744177664) (by omega)
    have t : top (cl x.ht 70368744177664) = cl x.ht 70368744177664 := by unfold top; omega
    rw [t] at e
    rw [e.1]
    generalize cl ((x :: xs).getLast (by simp)).dp 70368744177664 = d at *
    obtain ⟨_, e2, _⟩ := e
    generalize rtallS (cl x.ht 70368744177664) xs = q at *
    unfold top
    unfold cl
    omega

theorem rtallS_cons (n : Int) (s : Slab) (r : List Slab) : rtallS n (s :: r) = if n < 4611686018427387904 then rtallS (n + cl s.sk 70368744177664 + cl s.ld 70368744177664) r else n := rfl

set_option maxHeartbeats 1600000 in
theorem rtall_any (A : Option Addr) (c : Nat) (l : List Slab) (w : World) (hr : Rd Slab.row 9 w A l) (hl : l.length ≤ 1152921504606846976) :
    Calls Try.prog 35 #[.slice A l.length c] w fun e w' => e = .returned (.int .i64 (rtall l)) ∧ Keep [] w w' := by
  cases l with
  | nil =>
    go_enter Try.func35, Try.ntmps35
    go_wp2
    go_ret
    exact ⟨rfl, Keep.refl _ _⟩
  | cons x xs =>
    obtain ⟨ad, hA, h0⟩ := hr 0 x rfl
    subst hA
    simp only [List.length_cons] at hl
    have hlast : (x :: xs)[xs.length]? = some ((x :: xs).getLast (by simp)) := by rw [List.getLast_eq_getElem]; simp
    have HT := hid (show rtall (x :: xs) = cl (rtallS (cl x.ht 70368744177664) xs + cl ((x :: xs).getLast (by simp)).dp 70368744177664) 4611686018427387904 from rfl)
    generalize (x :: xs).getLast (by simp) = z at *
    have q3 := cl_range z.dp (most := 70368744177664) (by omega)
    have q1 := cl_range x.ht (most := 70368744177664) (by omega)
    have c2 := h0 2 _ rfl
    rw [add_at _ _ _ (by omega)] at c2
    simp only [Nat.zero_mul] at c2
    have e0 : ad.add 0 = ad := rfl
    rw [e0] at c2
    have hn : ((xs.length : Int) + 1 == 0) = false := by simp; omega
    obtain ⟨n0, hn0⟩ : ∃ n0, n0 = cl x.ht 70368744177664 := ⟨_, rfl⟩
    have Hn0 := hid hn0
    go_enter Try.func35, Try.ntmps35
    go_wp2_with fail
    refine (rlength_same _ _).mono ?_
    rintro e w' ⟨rfl, rfl⟩
    obtain ⟨adz, hAz, hz⟩ := hr xs.length z hlast
    obtain rfl := Option.some.inj hAz
    have g3 := hz 3 _ rfl
    rw [add_at _ _ _ (by omega)] at g3
    clear hz hlast hAz
    rw [← hn0] at q1 ⊢
    clear hn0
    have qr := rtallS_eq xs (n := n0) (by omega)
    have qr2 := qr.2.2 (by omega)
    have qr1 := qr.2.1
    clear qr
    go_wp2_with fail
    go_loopw [3, 4] (fun v i wr => ∃ (k : Nat) (t : Int), 1 ≤ k ∧ k ≤ xs.length + 1 ∧ i = .int .i64 k ∧ v = .int .i64 t ∧ 0 ≤ t ∧ t ≤ 4611826755915743232 ∧ Hid (rtallS t (xs.drop (k - 1)) = rtallS n0 xs) ∧ Keep [] w wr) (fun _ i _ => xs.length + 1 - (intOf i).toNat)
    case atStart => exact ⟨1, n0, Nat.le_refl _, by omega, rfl, rfl, by omega, by omega, hid (by simp), Keep.refl _ _⟩
    case round =>
      obtain ⟨k, t, hk1, hk, rfl, rfl, ht1, ht2, HR, K⟩ := hrel
      by_cases hlt : k < xs.length + 1
      · obtain ⟨y, hy⟩ : ∃ y, xs[k - 1]? = some y := ⟨xs[k - 1], List.getElem?_eq_getElem (by omega)⟩
        have hyk : (x :: xs)[k]? = some y := by rw [← hy]; rw [List.getElem?_cons]; rw [if_neg (by omega)]
        have hd : xs.drop (k - 1) = y :: xs.drop k := by rw [List.drop_eq_getElem_cons (by omega)]; rw [List.getElem?_eq_getElem (by omega)] at hy; rw [Option.some.inj hy]; congr 2; omega
        by_cases hm : t < 4611686018427387904
        · have HR2 : Hid (rtallS (t + cl y.sk 70368744177664 + cl y.ld 70368744177664) (xs.drop k) = rtallS n0 xs) := by
            have h := HR.out
            rw [hd, rtallS_cons, if_pos hm] at h
            exact h
          have z1 := cl_range y.sk (most := 70368744177664) (by omega)
          have z2 := cl_range y.ld (most := 70368744177664) (by omega)
          obtain ⟨adk, hAk, hcs⟩ := hr.old K (by simp) k y hyk
          obtain rfl := Option.some.inj hAk
          have d4 := hcs 4 _ rfl
          have d5 := hcs 5 _ rfl
          rw [add_at _ _ _ (by omega)] at d4 d5
          clear hcs hy hyk hd HR c2 g3 hAk
          have hb0 : (0 : Int) ≤ (k : Int) := by omega
          have hb1 : (k : Int) < (xs.length : Int) + 1 := by omega
          go_wp2_with fail
          go_quiet ((go_at_call 56; exact Calls.quiet_of_same (rlength_any _ _)))
          go_wp2
          go_roundw
          case rel => exact ⟨k + 1, _, by omega, by omega, by go_num, rfl, by omega, by omega, by rw [Nat.add_sub_cancel]; exact HR2, K.drewN _⟩
          case measure => simp [intOf]; omega
        · have HE : Hid (rtallS n0 xs = t) := by
            have h := HR.out
            rw [hd, rtallS_cons, if_neg hm] at h
            exact h.symm
          have hm' : 4611686018427387904 ≤ t := by omega
          clear hm hd hy hyk
          have g4 := K.cell' g3 (by simp)
          go_wp2_with fail
          refine (rlength_same _ _).mono ?_
          rintro e w' ⟨rfl, rfl⟩
          go_wp2_with fail
          refine (between_same _ 4611686018427387904 _ (by omega)).mono ?_
          rintro e w' ⟨rfl, rfl⟩
          go_wp2
          go_ret
          exact ⟨by rw [HT.out, ← Hn0.out, HE.out]; rfl, K⟩
      · obtain rfl : k = xs.length + 1 := by omega
        have HE : Hid (rtallS n0 xs = t) := by
          have h := HR.out
          rw [Nat.add_sub_cancel, List.drop_length] at h
          exact h.symm
        have g4 := K.cell' g3 (by simp)
        go_wp2_with fail
        refine (rlength_same _ _).mono ?_
        rintro e w' ⟨rfl, rfl⟩
        go_wp2_with fail
        refine (between_same _ 4611686018427387904 _ (by omega)).mono ?_
        rintro e w' ⟨rfl, rfl⟩
        go_wp2
        go_ret
        exact ⟨by rw [HT.out, ← Hn0.out, HE.out]; rfl, K⟩

end Go.Proofs.Ytgelccenbceeoaa
