/- Plain laws on slabs: parts, shifts, how many; Slabs by a budget that is never passed. -/
import Derived.Test.YtgelccenbceeoaaBeyond
import Derived.Test.YtgelccenbceeoaaLists
namespace Go.Proofs.Ytgelccenbceeoaa
open Go.RowKit
set_option linter.unusedSimpArgs false
set_option linter.unusedVariables false

theorem chargeN_fits : ∀ (n : Nat) (m : MS), m.ok → m.rf = 0 → (n : Int) ≤ m.sb - m.sn → (n : Int) ≤ m.cb - m.cn →
    (chargeN m n).1 = true ∧ (chargeN m n).2.ok ∧ (chargeN m n).2.rf = 0 ∧ (chargeN m n).2.sn = m.sn + n ∧ (chargeN m n).2.cn = m.cn + n ∧ (chargeN m n).2.sb = m.sb ∧ (chargeN m n).2.cb = m.cb
  | 0, m, ok, h0, _, _ => by simp [chargeN, ok, h0]
  | n + 1, m, ok, h0, hs, hc => by
    have s1 : m.step 1 = (true, m.addS 1) := by unfold MS.step; rw [if_neg (by omega), if_neg (by omega)]
    have s2 : (m.addS 1).hold 1 = (true, (m.addS 1).addC 1) := by
      unfold MS.hold
      rw [if_neg (by simp [MS.addS, h0]), if_neg (by simp [MS.addS]; omega)]
    have ok1 := MS.ok_hold (MS.ok_step ok 1) 1
    rw [s1] at ok1
    simp only [s2] at ok1
    rw [chargeN_succ, s1]
    simp only [if_true, s2]
    obtain ⟨a, b, c, d, e, f, g⟩ := chargeN_fits n ((m.addS 1).addC 1) ok1 (by simp [MS.addS, MS.addC, h0]) (by simp [MS.addS, MS.addC]; omega) (by simp [MS.addS, MS.addC]; omega)
    refine ⟨a, b, c, ?_, ?_, ?_, ?_⟩
    · rw [d]; simp [MS.addS, MS.addC]; omega
    · rw [e]; simp [MS.addS, MS.addC]; omega
    · rw [f]; simp [MS.addS, MS.addC]
    · rw [g]; simp [MS.addS, MS.addC]

theorem slabsIn_len (i of_ : Nat) (p : ParX) : ∀ (l : List LineX) (d : Int) (k : Nat), (slabsIn i of_ p d k l).length = l.length
  | [], _, _ => rfl
  | x :: xs, d, k => by simp [slabsIn, slabsIn_len i of_ p xs]

theorem slabsAll_len : ∀ (ps : List ParX) (ls : List LinesX) (d : Int) (i : Nat), (slabsAll d i ps ls).length ≤ sumN (fun x => x.l.length) ls
  | [], ls, d, i => by simp [slabsAll]
  | p :: ps, [], d, i => by simp [slabsAll]
  | p :: ps, l :: ls, d, i => by
    have := slabsAll_len ps ls (depthIn d l.l) (i + 1)
    simp only [slabsAll, sumN, List.length_append, slabsIn_len]
    omega

theorem sumN_take_drop {α : Type} (f : α → Nat) : ∀ (l : List α) (i : Nat), sumN f (l.take i) + sumN f (l.drop i) = sumN f l
  | [], i => by simp [sumN]
  | x :: xs, 0 => by simp [sumN]
  | x :: xs, i + 1 => by have := sumN_take_drop f xs i; simp only [List.take_succ_cons, List.drop_succ_cons, sumN]; omega

def Slab.shift (k : Nat) (s : Slab) : Slab := { s with pr := s.pr + k }

theorem slabsIn_shift (i j of_ : Nat) (p : ParX) : ∀ (l : List LineX) (d : Int) (k : Nat), slabsIn (i + j) of_ p d k l = (slabsIn i of_ p d k l).map (Slab.shift j)
  | [], _, _ => rfl
  | x :: xs, d, k => by
    simp only [slabsIn, List.map_cons, slabsIn_shift i j of_ p xs]
    congr 1

theorem slabsAll_shift (j : Nat) : ∀ (ps : List ParX) (ls : List LinesX) (d : Int) (i : Nat), slabsAll d (i + j) ps ls = (slabsAll d i ps ls).map (Slab.shift j)
  | [], ls, d, i => by simp [slabsAll]
  | p :: ps, [], d, i => by simp [slabsAll]
  | p :: ps, l :: ls, d, i => by
    simp only [slabsAll, List.map_append, slabsIn_shift]
    rw [Nat.add_right_comm, slabsAll_shift j ps ls]

/-- The same but for the first one's Lead, which is not less. -/
def HeadDiff (l r : List Slab) : Prop := l = r ∨ ∃ x y t, l = x :: t ∧ r = y :: t ∧ x = { y with ld := x.ld } ∧ y.ld ≤ x.ld

theorem HeadDiff.append {l r : List Slab} (h : HeadDiff l r) (t : List Slab) : HeadDiff (l ++ t) (r ++ t) := by
  rcases h with rfl | ⟨x, y, t', rfl, rfl, h1, h2⟩
  · exact .inl rfl
  · exact .inr ⟨x, y, t' ++ t, by simp, by simp, h1, h2⟩

theorem slabsAll_depth : ∀ (ps : List ParX) (ls : List LinesX) (d : Int) (i : Nat), 0 ≤ d → HeadDiff (slabsAll d i ps ls) (slabsAll 0 i ps ls)
  | [], ls, d, i, _ => by left; simp [slabsAll]
  | p :: ps, [], d, i, _ => by left; simp [slabsAll]
  | p :: ps, l :: ls, d, i, hd => by
    cases hl : l.l with
    | nil =>
      have := slabsAll_depth ps ls d (i + 1) hd
      simpa [slabsAll, hl, slabsIn, depthIn] using this
    | cons x xs =>
      right
      refine ⟨slabAt d i 0 l.l.length p x, slabAt 0 i 0 l.l.length p x, slabsIn i l.l.length p (cl x.dp 70368744177664) 1 xs ++ slabsAll (depthIn (cl x.dp 70368744177664) xs) (i + 1) ps ls, ?_, ?_, ?_, ?_⟩
      · simp [slabsAll, hl, slabsIn, depthIn]
      · simp [slabsAll, hl, slabsIn, depthIn]
      · simp [slabAt]
      · simp only [slabAt, gr, List.foldl_cons, List.foldl_nil]
        (repeat' split) <;> omega

def depthAll : Int → List LinesX → Int
  | d, [] => d
  | d, l :: ls => depthAll (depthIn d l.l) ls

theorem depthIn_nonneg : ∀ (l : List LineX) {d : Int}, 0 ≤ d → 0 ≤ depthIn d l
  | [], _, h => h
  | x :: xs, _, _ => depthIn_nonneg xs (cl_range _ (by omega)).1
theorem depthAll_nonneg : ∀ (l : List LinesX) {d : Int}, 0 ≤ d → 0 ≤ depthAll d l
  | [], _, h => h
  | x :: xs, _, h => depthAll_nonneg xs (depthIn_nonneg x.l h)

theorem slabsAll_cut : ∀ (cut : Nat) (ps : List ParX) (ls : List LinesX) (d : Int) (i : Nat), ps.length = ls.length → cut ≤ ps.length →
    slabsAll d i ps ls = slabsAll d i (ps.take cut) (ls.take cut) ++ slabsAll (depthAll d (ls.take cut)) (i + cut) (ps.drop cut) (ls.drop cut)
  | 0, ps, ls, d, i, _, _ => by simp [slabsAll, depthAll]
  | cut + 1, p :: ps, l :: ls, d, i, h1, h2 => by
    simp only [List.length_cons, Nat.add_right_cancel_iff] at h1
    simp only [List.length_cons] at h2
    simp only [List.take_succ_cons, List.drop_succ_cons, slabsAll, depthAll]
    rw [slabsAll_cut cut ps ls _ (i + 1) h1 (by omega), List.append_assoc, show i + 1 + cut = i + (cut + 1) by omega]

/-- What ColumnParts says: the second part's slabs, beside those of all. -/
theorem parts_at (cut : Nat) (ps : List ParX) (ls : List LinesX) (h1 : ps.length = ls.length) (h2 : cut ≤ ps.length) :
    ∃ t, slabsAll 0 0 ps ls = slabsAll 0 0 (ps.take cut) (ls.take cut) ++ t ∧ t.length = (slabsAll 0 0 (ps.drop cut) (ls.drop cut)).length ∧
      ∀ (j : Nat) (x y : Slab), t[j]? = some x → (slabsAll 0 0 (ps.drop cut) (ls.drop cut))[j]? = some y → x = { y with pr := y.pr + cut, ld := x.ld } ∧ (j = 0 → y.ld ≤ x.ld) ∧ (j ≠ 0 → x.ld = y.ld) := by
  refine ⟨_, slabsAll_cut cut ps ls 0 0 h1 h2, ?_⟩
  rw [slabsAll_shift cut]
  have H := slabsAll_depth (ps.drop cut) (ls.drop cut) (depthAll 0 (ls.take cut)) 0 (depthAll_nonneg _ (by omega))
  generalize slabsAll 0 0 (ps.drop cut) (ls.drop cut) = R at *
  generalize slabsAll (depthAll 0 (ls.take cut)) 0 (ps.drop cut) (ls.drop cut) = L at *
  rcases H with rfl | ⟨x, y, t, rfl, rfl, hx, hle⟩
  · refine ⟨by simp, fun j x y hx hy => ?_⟩
    rw [List.getElem?_map, hy] at hx
    obtain rfl := Option.some.inj hx
    exact ⟨rfl, fun _ => Int.le_refl _, fun _ => rfl⟩
  · refine ⟨by simp, fun j u v hu hv => ?_⟩
    cases j with
    | zero =>
      simp at hu hv
      subst hu hv
      refine ⟨?_, fun _ => hle, fun h => absurd rfl h⟩
      rw [hx]
      rfl
    | succ j =>
      simp at hu hv
      obtain ⟨z, hz, rfl⟩ := hu
      rw [hv] at hz
      obtain rfl := Option.some.inj hz
      exact ⟨rfl, fun h => by omega, fun _ => rfl⟩

theorem slabsIn_pr (i of_ : Nat) (p : ParX) : ∀ (l : List LineX) (d : Int) (k : Nat), ∀ s ∈ slabsIn i of_ p d k l, s.pr = i
  | [], _, _, s, h => by simp [slabsIn] at h
  | x :: xs, d, k, s, h => by
    simp only [slabsIn, List.mem_cons] at h
    rcases h with rfl | h
    · rfl
    · exact slabsIn_pr i of_ p xs _ _ s h
theorem slabsAll_pr : ∀ (ps : List ParX) (ls : List LinesX) (d : Int) (i : Nat), ∀ s ∈ slabsAll d i ps ls, (i : Int) ≤ s.pr ∧ s.pr < i + ps.length
  | [], ls, d, i, s, h => by simp [slabsAll] at h
  | p :: ps, [], d, i, s, h => by simp [slabsAll] at h
  | p :: ps, l :: ls, d, i, s, h => by
    simp only [slabsAll, List.mem_append] at h
    simp only [List.length_cons]
    rcases h with h | h
    · rw [slabsIn_pr i _ p _ _ _ s h]; omega
    · have := slabsAll_pr ps ls _ (i + 1) s h
      omega
theorem slabsAll_pr_at {ps : List ParX} {ls : List LinesX} (h : ps.length ≤ 2147483647) (j : Nat) (y : Slab) (hy : (slabsAll 0 0 ps ls)[j]? = some y) : 0 ≤ y.pr ∧ y.pr ≤ 2147483647 := by
  have := slabsAll_pr ps ls 0 0 y (List.mem_of_getElem? hy)
  omega

/-- What Slabs leaves where every charge is taken. -/
structure Fit (g : Nat) (m0 : MS) (R : List Slab) (w : World) (A : Option Addr) (cap : Nat) (m1 : MS) (w' : World) : Prop where
  hc : R.length ≤ cap
  hn : A = none → cap = 0
  ha : ∀ ad, A = some ad → ad = ⟨ad.block, 0, none⟩
  hb : ∀ ad, A = some ad → w.heap.size ≤ ad.block ∧ ad.block < w'.heap.size
  r : Rd Slab.row 9 w' A R
  m : IsM w' g m1
  ok : m1.ok
  rf : m1.rf = 0
  sn : m1.sn = m0.sn + R.length
  cn : m1.cn = m0.cn + R.length
  sb : m1.sb = m0.sb
  cb : m1.cb = m0.cb
  k : Keep [g] w w'

theorem Fit.move {g : Nat} {m0 : MS} {R : List Slab} {W W0 w5 w' : World} {A : Option Addr} {cap : Nat} {m1 : MS} {S : List Nat} (f : Fit g m0 R W0 A cap m1 w5) (k0 : Keep [] W W0) (k1 : Keep S w5 w') (hS : ∀ b, b ∈ S → W.heap.size ≤ b ∧ b < W0.heap.size) (hg : g < W.heap.size) : Fit g m0 R W A cap m1 w' :=
  { f with
    hb := fun ad h => ⟨Nat.le_trans k0.size (f.hb ad h).1, Nat.lt_of_lt_of_le (f.hb ad h).2 k1.size⟩
    r := f.r.keep k1 (fun ad h hm => by have := (hS _ hm).2; have := (f.hb ad h).1; omega)
    m := f.m.keep k1 (fun hm => by have := (hS _ hm).1; omega)
    k := ((k0.mono (T := [g]) (by simp)).trans f.k).then k1 (fun b hb => .inr (hS b hb).1) }

def SlabsFit (g : Nat) (m0 : MS) (ALL : List Slab) (w : World) (e : Ending) (w' : World) : Prop :=
  ∃ (A : Option Addr) (cap : Nat) (m1 : MS), e = .returned (.tuple #[.slice A ALL.length cap, .agg #[.int .i64 0, .int .i64 0]]) ∧ Fit g m0 ALL w A cap m1 w'

theorem slabs_fit (g : Nat) (m0 : MS) (A B : Option Addr) (n m c d : Nat) (ps : List ParX) (ls : List LinesX) (w : World) (hg : IsM w g m0) (ok : m0.ok) (hn : ps.length = n) (hm : ls.length = m)
    (hp : ∀ W, Keep [g] w W → Rd ParX.row 7 W A ps) (hl : ∀ W, Keep [g] w W → Rd LinesX.row 1 W B ls) (hll : ∀ W, Keep [g] w W → ∀ x ∈ ls, Rd LineX.row 14 W x.a x.l) (hlen : ps.length = ls.length) (ht : totalN ps ls ≤ 2147483647)
    (h0 : m0.rf = 0) (hs : (2147483647 : Int) ≤ m0.sb - m0.sn) (hc : (2147483647 : Int) ≤ m0.cb - m0.cn) :
    Calls Try.prog 38 #[.pointer (some ⟨g, 0, none⟩), .slice A n c, .slice B m d] w fun e w' => SlabsFit g m0 (slabsAll 0 0 ps ls) w e w' := by
  subst hn hm
  have t1 := slabsAll_len ps ls 0 0
  have t2 : sumN (fun x : LinesX => x.l.length) ls ≤ totalN ps ls := by unfold totalN; omega
  have t3 : ps.length ≤ totalN ps ls := by unfold totalN; omega
  refine (slabs_any g m0 A B c d ps ls w hg ok hp hl hll hlen (by omega) (by omega) (fun x hx => by have := sumN_mem (fun x : LinesX => x.l.length) ls x hx; omega)).mono ?_
  rintro e w' ⟨v, he, O, M, K⟩
  obtain ⟨c1, c2, c3, c4, c5, c6, c7⟩ := chargeN_fits (slabsAll 0 0 ps ls).length m0 ok h0 (by omega) (by omega)
  rw [if_pos c1] at he O
  obtain ⟨A1, cap1, rfl, hcap, hr, hA⟩ := own_rd (enc := Slab.row) (fun _ => rfl) O
  refine ⟨A1, cap1, _, he, hcap, ?_, ?_, ?_, hr, M, c2, c3, c4, c5, c6, c7, K⟩
  · rintro rfl
    rcases O.2 with ⟨h, _⟩ | ⟨g', cap', cur, h, _⟩
    · simp at h; exact h.2
    · simp at h
  · intro ad had
    obtain ⟨g', cur, rfl, _⟩ := hA ad had
    rfl
  · intro ad had
    obtain ⟨g', cur, rfl, hb, hh, _⟩ := hA ad had
    exact ⟨hb, blk_lt hh⟩

end Go.Proofs.Ytgelccenbceeoaa
