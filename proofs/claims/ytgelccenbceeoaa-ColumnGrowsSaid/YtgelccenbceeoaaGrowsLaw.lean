/- Plain laws on slabs: where each stands, and that more of them take no less room. -/
import Derived.Test.YtgelccenbceeoaaColumnLaw
namespace Go.Proofs.Ytgelccenbceeoaa
open Go.RowKit
set_option linter.unusedSimpArgs false
set_option linter.unusedVariables false

def lenX (x : LinesX) : Nat := x.l.length

theorem slabsAll_len_eq : ∀ (ps : List ParX) (ls : List LinesX) (d : Int) (i : Nat), ps.length = ls.length → (slabsAll d i ps ls).length = sumN lenX ls
  | [], [], d, i, _ => by simp [slabsAll, sumN]
  | p :: ps, l :: ls, d, i, h => by
    simp only [List.length_cons, Nat.add_right_cancel_iff] at h
    simp only [slabsAll, sumN, List.length_append, slabsIn_len, slabsAll_len_eq ps ls _ _ h, lenX]

/-- A slab, and what stands ahead of it. -/
def StandsAt (d0 : Int) (ALL : List Slab) (at_ : Nat) (i k n : Nat) (p : ParX) (y : LineX) : Prop :=
  ∃ d, ALL[at_]? = some (slabAt d i k n p y) ∧ 0 ≤ d ∧ d ≤ 70368744177664 ∧ (at_ = 0 → d = d0) ∧ (at_ ≠ 0 → ∃ z, ALL[at_ - 1]? = some z ∧ z.dp = d)

theorem slabsIn_at (i n : Nat) (p : ParX) (l : List LineX) : ∀ (d0 : Int) (k0 : Nat) (k : Nat) (y : LineX), 0 ≤ d0 → d0 ≤ 70368744177664 → l[k]? = some y →
    ∃ d, (slabsIn i n p d0 k0 l)[k]? = some (slabAt d i (k0 + k) n p y) ∧ 0 ≤ d ∧ d ≤ 70368744177664 ∧ (k = 0 → d = d0) ∧ (k ≠ 0 → ∃ z, (slabsIn i n p d0 k0 l)[k - 1]? = some z ∧ z.dp = d) := by
  induction l with
  | nil => intro d0 k0 k y h0 h1 hy; simp at hy
  | cons x xs ih =>
    intro d0 k0 k y h0 h1 hy
    cases k with
    | zero =>
      rw [List.getElem?_cons_zero] at hy
      obtain rfl := Option.some.inj hy
      refine ⟨d0, ?_, h0, h1, fun _ => rfl, fun h => absurd rfl h⟩
      rw [slabsIn, List.getElem?_cons_zero, Nat.add_zero]
    | succ k =>
      rw [List.getElem?_cons_succ] at hy
      have hr := cl_range x.dp (most := 70368744177664) (by omega)
      obtain ⟨d, e, a, b, c, f⟩ := ih (cl x.dp 70368744177664) (k0 + 1) k y hr.1 hr.2 hy
      refine ⟨d, ?_, a, b, fun h => by omega, fun _ => ?_⟩
      · rw [slabsIn, List.getElem?_cons_succ, e, Nat.add_right_comm, Nat.add_assoc]
      · cases k with
        | zero =>
          refine ⟨slabAt d0 i k0 n p x, ?_, ?_⟩
          · rw [slabsIn]; rfl
          · rw [c rfl]; rfl
        | succ k =>
          obtain ⟨z, hz, hd⟩ := f (by omega)
          refine ⟨z, ?_, hd⟩
          rw [slabsIn]
          exact hz

theorem depthIn_last (i n : Nat) (p : ParX) : ∀ (l : List LineX) (d0 : Int) (k0 : Nat), l ≠ [] → ∃ z, (slabsIn i n p d0 k0 l)[l.length - 1]? = some z ∧ z.dp = depthIn d0 l
  | [x], d0, k0, _ => ⟨slabAt d0 i k0 n p x, by simp [slabsIn], rfl⟩
  | x :: x' :: xs, d0, k0, _ => by
    obtain ⟨z, hz, hd⟩ := depthIn_last i n p (x' :: xs) (cl x.dp 70368744177664) (k0 + 1) (by simp)
    refine ⟨z, ?_, hd⟩
    rw [slabsIn]
    simpa using hz
theorem depthIn_range : ∀ (l : List LineX) {d : Int}, 0 ≤ d → d ≤ 70368744177664 → 0 ≤ depthIn d l ∧ depthIn d l ≤ 70368744177664
  | [], _, h, h' => ⟨h, h'⟩
  | x :: xs, _, _, _ => depthIn_range xs (cl_range _ (by omega)).1 (cl_range _ (by omega)).2

theorem slabsAll_at (ps : List ParX) : ∀ (ls : List LinesX) (d0 : Int) (i0 : Nat) (i k : Nat) (p : ParX) (x : LinesX) (y : LineX), 0 ≤ d0 → d0 ≤ 70368744177664 → ps[i]? = some p → ls[i]? = some x → x.l[k]? = some y →
    StandsAt d0 (slabsAll d0 i0 ps ls) (sumN lenX (ls.take i) + k) (i0 + i) k x.l.length p y := by
  induction ps with
  | nil => intro ls d0 i0 i k q x y h0 h1 hp; simp at hp
  | cons p ps ih =>
    intro ls d0 i0 i k q x y h0 h1 hp hx hy
    cases ls with
    | nil => simp at hx
    | cons l ls =>
      cases i with
      | zero =>
        rw [List.getElem?_cons_zero] at hp hx
        obtain rfl := Option.some.inj hp
        obtain rfl := Option.some.inj hx
        obtain ⟨d, e, a, b, c, f⟩ := slabsIn_at i0 l.l.length p l.l d0 0 k y h0 h1 hy
        have hk := (List.getElem?_eq_some_iff.1 hy).1
        rw [List.take_zero, sumN, Nat.zero_add, Nat.add_zero, slabsAll]
        rw [Nat.zero_add] at e
        refine ⟨d, ?_, a, b, c, fun h => ?_⟩
        · rw [List.getElem?_append_left (by rw [slabsIn_len]; exact hk)]; exact e
        · obtain ⟨z, hz, hd⟩ := f h
          exact ⟨z, by rw [List.getElem?_append_left (by rw [slabsIn_len]; omega)]; exact hz, hd⟩
      | succ i =>
        rw [List.getElem?_cons_succ] at hp hx
        have hr := depthIn_range l.l h0 h1
        obtain ⟨d, e, a, b, c, f⟩ := ih ls (depthIn d0 l.l) (i0 + 1) i k q x y hr.1 hr.2 hp hx hy
        have hL : lenX l = l.l.length := rfl
        rw [List.take_succ_cons, sumN, slabsAll]
        refine ⟨d, ?_, a, b, fun h => ?_, fun h => ?_⟩
        · rw [List.getElem?_append_right (by rw [slabsIn_len]; omega), slabsIn_len, show lenX l + sumN lenX (ls.take i) + k - l.l.length = sumN lenX (ls.take i) + k by omega, e, show i0 + 1 + i = i0 + (i + 1) by omega]
        · have h2 : l.l = [] := List.eq_nil_of_length_eq_zero (by omega)
          rw [c (by omega), h2]
          rfl
        · by_cases h3 : sumN lenX (ls.take i) + k = 0
          · have h4 : l.l ≠ [] := by
              intro h5
              rw [h5, List.length_nil] at hL
              omega
            obtain ⟨z, hz, hd⟩ := depthIn_last i0 l.l.length p l.l d0 0 h4
            have h6 := (List.getElem?_eq_some_iff.1 hz).1
            rw [slabsIn_len] at h6
            refine ⟨z, ?_, ?_⟩
            · rw [List.getElem?_append_left (by rw [slabsIn_len]; omega), show lenX l + sumN lenX (ls.take i) + k - 1 = l.l.length - 1 by omega]
              exact hz
            · rw [hd, c h3]
          · obtain ⟨z, hz, hd⟩ := f h3
            refine ⟨z, ?_, hd⟩
            rw [List.getElem?_append_right (by rw [slabsIn_len]; omega), slabsIn_len, show lenX l + sumN lenX (ls.take i) + k - 1 - l.l.length = sumN lenX (ls.take i) + k - 1 by omega]
            exact hz

/-- What ColumnGrows asks of a slab. -/
theorem stands_ok {ALL : List Slab} {at_ i k n : Nat} {p : ParX} {y : LineX} (h : StandsAt 0 ALL at_ i k n p y) :
    ∃ s, ALL[at_]? = some s ∧ s.pr = i ∧ s.ln = k ∧ s.ix = k ∧ s.of_ = n ∧ (k ≠ 0 → s.sk = 0) ∧ (p.ld ≤ s.ld ∨ 70368744177664 ≤ s.ld) ∧ s.ht ≤ s.ld ∧ 0 ≤ s.ht ∧ s.ht ≤ 70368744177664 ∧
      (at_ ≠ 0 → ∃ z, ALL[at_ - 1]? = some z ∧ s.ht + z.dp ≤ s.ld ∧ 0 ≤ z.dp ∧ z.dp ≤ 70368744177664) := by
  obtain ⟨d, e, a, b, c, f⟩ := h
  have q1 := cl_range y.ht (most := 70368744177664) (by omega)
  have q2 : (if 0 < cl p.ld 70368744177664 then cl p.ld 70368744177664 else 0) = cl p.ld 70368744177664 := by have := cl_range p.ld (most := 70368744177664) (by omega); split <;> omega
  have q3 : cl p.ld 70368744177664 ≤ gr [cl p.ld 70368744177664, d + cl y.ht 70368744177664] ∧ d + cl y.ht 70368744177664 ≤ gr [cl p.ld 70368744177664, d + cl y.ht 70368744177664] := by
    simp only [gr, List.foldl_cons, List.foldl_nil]
    (repeat' split) <;> omega
  refine ⟨_, e, rfl, rfl, rfl, rfl, ?_, ?_, ?_, q1.1, q1.2, ?_⟩
  · intro hk
    simp only [slabAt]
    rw [if_neg hk]
  · simp only [slabAt]
    have q4 : p.ld ≤ cl p.ld 70368744177664 ∨ 70368744177664 ≤ cl p.ld 70368744177664 := by unfold cl; (repeat' split) <;> omega
    omega
  · simp only [slabAt]
    omega
  · intro h
    obtain ⟨z, hz, hd⟩ := f h
    refine ⟨z, hz, ?_, by omega, by omega⟩
    simp only [slabAt]
    omega

/-- Slabs of which each leaves room for the depth ahead of it. -/
def Roomy : List Slab → Prop
  | [] => True
  | [s] => True
  | s :: t :: r => cl s.dp 70368744177664 ≤ cl t.ld 70368744177664 ∧ Roomy (t :: r)

theorem roomy_of : ∀ (l : List Slab), (∀ j s z, l[j + 1]? = some s → l[j]? = some z → cl z.dp 70368744177664 ≤ cl s.ld 70368744177664) → Roomy l
  | [], _ => trivial
  | [s], _ => trivial
  | s :: t :: r, h => ⟨h 0 t s rfl rfl, roomy_of (t :: r) fun j a b ha hb => h (j + 1) a b (by simpa using ha) (by simpa using hb)⟩

theorem tall_snoc (x : Slab) (xs : List Slab) (z s : Slab) (hz : (x :: xs).getLast (by simp) = z) (hr : cl z.dp 70368744177664 ≤ cl s.ld 70368744177664) : tall (x :: xs) ≤ tall (x :: (xs ++ [s])) := by
  have e1 : tall (x :: xs) = top (tallS (cl x.ht 70368744177664) xs + cl z.dp 70368744177664) := by subst hz; rfl
  have e2 : tall (x :: (xs ++ [s])) = top (tallS (cl x.ht 70368744177664) (xs ++ [s]) + cl s.dp 70368744177664) := by
    show top (tallS (cl x.ht 70368744177664) (xs ++ [s]) + cl ((x :: (xs ++ [s])).getLast (by simp)).dp 70368744177664) = _
    congr 3
    simp [List.getLast_cons]
  rw [e1, e2, tallS_snoc]
  have q1 := cl_range s.sk (most := 70368744177664) (by omega)
  have q2 := cl_range s.dp (most := 70368744177664) (by omega)
  have q3 := cl_range x.ht (most := 70368744177664) (by omega)
  have q4 := tallS_range xs (n := cl x.ht 70368744177664) (by omega) (by omega)
  generalize tallS (cl x.ht 70368744177664) xs = T at *
  unfold top
  (repeat' split) <;> omega

theorem tall_grows (l : List Slab) (h : ∀ j s z, l[j + 1]? = some s → l[j]? = some z → cl z.dp 70368744177664 ≤ cl s.ld 70368744177664) (n : Nat) (hn : n < l.length) : tall (l.take n) ≤ tall (l.take (n + 1)) := by
  obtain ⟨s, hs⟩ : ∃ s, l[n]? = some s := ⟨l[n], List.getElem?_eq_getElem hn⟩
  rw [take_snoc hs]
  cases n with
  | zero =>
    rw [List.take_zero]
    show (0 : Int) ≤ tall [s]
    show 0 ≤ top (tallS (cl s.ht 70368744177664) [] + cl s.dp 70368744177664)
    have q1 := cl_range s.ht (most := 70368744177664) (by omega)
    have q2 := cl_range s.dp (most := 70368744177664) (by omega)
    simp only [tallS]
    unfold top
    split <;> omega
  | succ n =>
    obtain ⟨z, hz⟩ : ∃ z, l[n]? = some z := ⟨l[n]'(by omega), List.getElem?_eq_getElem (by omega)⟩
    have hlast : (l.take (n + 1)).getLast? = some z := by rw [take_snoc hz]; simp
    have hlen : (l.take (n + 1)).length = n + 1 := by simp; omega
    cases hm : l.take (n + 1) with
    | nil => rw [hm] at hlen; simp at hlen
    | cons x xs =>
      rw [hm] at hlast
      refine tall_snoc x xs z s ?_ (h n s z hs hz)
      rw [List.getLast?_eq_some_getLast (by simp)] at hlast
      exact Option.some.inj hlast

/-- Each slab's Lead holds the depth ahead of it. -/
def Leads (d : Int) : List Slab → Prop
  | [] => True
  | s :: r => d ≤ s.ld ∧ 0 ≤ s.dp ∧ s.dp ≤ 70368744177664 ∧ Leads s.dp r

theorem slabsIn_leads (i n : Nat) (p : ParX) (l : List LineX) : ∀ (d : Int) (k : Nat) (r : List Slab), Leads (depthIn d l) r → Leads d (slabsIn i n p d k l ++ r) := by
  induction l with
  | nil => intro d k r h; exact h
  | cons x xs ih =>
    intro d k r h
    have hr := cl_range x.dp (most := 70368744177664) (by omega)
    have hh := cl_range x.ht (most := 70368744177664) (by omega)
    rw [slabsIn, List.cons_append]
    refine ⟨?_, hr.1, hr.2, ih _ _ _ h⟩
    show d ≤ gr [cl p.ld 70368744177664, d + cl x.ht 70368744177664]
    simp only [gr, List.foldl_cons, List.foldl_nil]
    (repeat' split) <;> omega
theorem slabsAll_leads (ps : List ParX) : ∀ (ls : List LinesX) (d : Int) (i : Nat), Leads d (slabsAll d i ps ls) := by
  induction ps with
  | nil => intro ls d i; rw [slabsAll] <;> simp [Leads]
  | cons p ps ih =>
    intro ls d i
    cases ls with
    | nil => rw [slabsAll] <;> simp [Leads]
    | cons l ls =>
      rw [slabsAll]
      exact slabsIn_leads i _ p l.l d 0 _ (ih ls _ _)
theorem leads_at : ∀ (l : List Slab) (d : Int), Leads d l → ∀ j s z, l[j + 1]? = some s → l[j]? = some z → z.dp ≤ s.ld ∧ 0 ≤ z.dp ∧ z.dp ≤ 70368744177664
  | [], d, h, j, s, z, hs, hz => by simp at hz
  | [a], d, h, j, s, z, hs, hz => by simp at hs
  | a :: b :: r, d, h, 0, s, z, hs, hz => by
    rw [List.getElem?_cons_zero] at hz
    rw [List.getElem?_cons_succ, List.getElem?_cons_zero] at hs
    obtain rfl := Option.some.inj hs
    obtain rfl := Option.some.inj hz
    exact ⟨h.2.2.2.1, h.2.1, h.2.2.1⟩
  | a :: b :: r, d, h, j + 1, s, z, hs, hz => leads_at (b :: r) _ h.2.2.2 j s z (by simpa using hs) (by simpa using hz)

theorem slabs_roomy (ps : List ParX) (ls : List LinesX) : ∀ j s z, (slabsAll 0 0 ps ls)[j + 1]? = some s → (slabsAll 0 0 ps ls)[j]? = some z → cl z.dp 70368744177664 ≤ cl s.ld 70368744177664 := by
  intro j s z hs hz
  have h := leads_at _ 0 (slabsAll_leads ps ls 0 0) j s z hs hz
  unfold cl
  (repeat' split) <;> omega

end Go.Proofs.Ytgelccenbceeoaa
