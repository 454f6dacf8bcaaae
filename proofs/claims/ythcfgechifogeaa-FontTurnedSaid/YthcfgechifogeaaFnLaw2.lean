/- Font: one form, of lists of glyphs and of pairs. -/
import Derived.Test.YthcfgechifogeaaFnLaw
namespace Go.Proofs.Ythcfgechifogeaa
open Go.RowKit
set_option linter.unusedSimpArgs false
set_option linter.unusedVariables false

def GCh : List GlyphX → List GlyphX → Prop
  | _, [] => True
  | pre, g :: l => gOK (lastG pre) g ∧ GCh (pre ++ [g]) l
theorem glyphsX_of {bs : List Nat} {S : Int} : ∀ (l pre : List GlyphX) (p : Nat) (r : List Nat), bs.drop p = l.flatMap gB ++ r → (p : Int) + 9 * l.length ≤ S → GCh pre l → glyphsX bs S l.length pre p = .ok (pre ++ l, p + 9 * l.length)
  | [], pre, p, r, _, _, _ => by simp [glyphsX]
  | g :: l, pre, p, r, h, hS, hc => by
    simp only [List.flatMap_cons, List.append_assoc, List.length_cons] at h hS ⊢
    unfold glyphsX
    rw [glyphX_of h (by omega) hc.1]
    show glyphsX bs S l.length (pre ++ [g]) (p + 9) = _
    rw [glyphsX_of l (pre ++ [g]) (p + 9) r (drop_app h (gB_len g)) (by omega) hc.2]
    simp only [List.append_assoc, List.singleton_append, Except.ok.injEq, Prod.mk.injEq, true_and]
    omega
theorem glyphsX_inv {bs : List Nat} {S : Int} {gs' : List GlyphX} {q : Nat} (hb : AllB bs) : ∀ (k : Nat) (pre : List GlyphX) (p : Nat), glyphsX bs S k pre p = .ok (gs', q) → (p : Int) ≤ S →
    ∃ l, gs' = pre ++ l ∧ l.length = k ∧ bs.drop p = l.flatMap gB ++ bs.drop q ∧ GCh pre l ∧ (q : Int) ≤ S ∧ q = p + 9 * k
  | 0, pre, p, h, hp => by
    simp only [glyphsX, Except.ok.injEq, Prod.mk.injEq] at h
    obtain ⟨rfl, rfl⟩ := h
    exact ⟨[], by simp, rfl, by simp, trivial, hp, rfl⟩
  | k + 1, pre, p, h, hp => by
    unfold glyphsX at h
    obtain ⟨g, p', hg, h⟩ := bind_ok h
    obtain ⟨h1, h2, h3, h4⟩ := glyphX_inv hb hg hp
    obtain ⟨l, e1, e2, e3, e4, e5, e6⟩ := glyphsX_inv hb k _ _ h h4
    refine ⟨g :: l, by rw [e1]; simp, by simp [e2], ?_, ⟨h1, e4⟩, e5, by omega⟩
    rw [h2, e3]
    simp

theorem lastG_take {gs : List GlyphX} {i : Nat} {q : GlyphX} (hq : gs[i]? = some q) : lastG (gs.take (i + 1)) = q.ru := by rw [take_snoc hq, lastG_snoc]
theorem wd_of {r : Int} (h : 0 ≤ r ∧ r ≤ 1114111 ∧ (r < 55296 ∨ 57343 < r)) : wd r ≠ 0 := by unfold wd; split <;> (try split) <;> (try split) <;> omega
theorem ok_gOK {gs : List GlyphX} {i : Nat} {g : GlyphX} (hg : gs[i]? = some g) : okG gs i ↔ gOK (lastG (gs.take i)) g := by
  rw [okG_at hg]
  unfold gOK
  cases i with
  | zero =>
    have e : lastG (gs.take 0) = -1 := rfl
    rw [e]
    constructor
    · rintro ⟨h1, _, h3, h4, h5⟩
      have := wd_ne h1
      exact ⟨by omega, this, h3, h4, h5⟩
    · rintro ⟨_, h2, h3, h4, h5⟩
      exact ⟨wd_of h2, fun q h => by omega, h3, h4, h5⟩
  | succ i =>
    have hlt := (List.getElem?_eq_some_iff.1 hg).1
    obtain ⟨q, hq⟩ : ∃ q, gs[i]? = some q := ⟨gs[i], List.getElem?_eq_getElem (by omega)⟩
    rw [lastG_take hq]
    constructor
    · rintro ⟨h1, h2, h3, h4, h5⟩
      exact ⟨h2 q (by omega) hq, wd_ne h1, h3, h4, h5⟩
    · rintro ⟨h1, h2, h3, h4, h5⟩
      refine ⟨wd_of h2, fun q' _ hq' => ?_, h3, h4, h5⟩
      rw [Nat.add_sub_cancel, hq] at hq'
      rw [← Option.some.inj hq']
      exact h1
theorem GoodG.chain {gs : List GlyphX} (h : GoodG gs) : ∀ (l : List GlyphX) (i : Nat), gs.drop i = l → GCh (gs.take i) l
  | [], _, _ => trivial
  | g :: l, i, e => by
    have hg : gs[i]? = some g := by rw [← List.head?_drop, e]; rfl
    refine ⟨(ok_gOK hg).1 (h i (List.getElem?_eq_some_iff.1 hg).1), ?_⟩
    rw [← take_snoc hg]
    exact GoodG.chain h l (i + 1) (drop_app (x := [g]) (n := 1) e rfl)
theorem GCh.good : ∀ (l pre : List GlyphX), GCh pre l → ∀ i, pre.length ≤ i → i < pre.length + l.length → okG (pre ++ l) i
  | [], pre, _, i, h1, h2 => by simp at h2; omega
  | g :: l, pre, h, i, h1, h2 => by
    by_cases e : i = pre.length
    · subst e
      refine (ok_gOK (g := g) (by simp)).2 ?_
      rw [List.take_left]
      exact h.1
    · have := GCh.good l (pre ++ [g]) h.2 i (by simp; omega) (by simp at h2 ⊢; omega)
      simpa using this
theorem GCh.goodG {gs : List GlyphX} (h : GCh [] gs) : GoodG gs := fun i hi => by simpa using GCh.good gs [] h i (Nat.zero_le _) (by simpa using hi)

/-- What a pair behind the runes a must be. -/
def pOK (gs : List GlyphX) (a : Int × Int) (x : PairX) : Prop :=
  (gFind gs x.lf).isSome = true ∧ a.1 ≤ x.lf ∧ (gFind gs x.rt).isSome = true ∧ (a.1 < x.lf ∨ a.2 < x.rt) ∧
  ((x.is = true ∧ (gFind gs x.lg).isSome = true ∧ x.kn = 0) ∨ (x.is = false ∧ x.lg = 0 ∧ x.kn ≠ 0 ∧ x.kn ≤ 16384 ∧ -(min (wdOf gs x.lf) (wdOf gs x.rt)) ≤ x.kn))
/-- The glyphs are in their bounds. -/
def GR (gs : List GlyphX) : Prop := ∀ g ∈ gs, (0 ≤ g.ru ∧ g.ru ≤ 1114111) ∧ (0 ≤ g.wd ∧ g.wd ≤ 16384)
theorem GR.known {gs : List GlyphX} (h : GR gs) {r : Int} (hk : (gFind gs r).isSome = true) : 0 ≤ r ∧ r ≤ 1114111 := by
  obtain ⟨g, hg⟩ := Option.isSome_iff_exists.1 hk
  have h1 := (h g (gFind_mem hg)).1
  rw [gFind_ru hg] at h1
  exact h1
theorem GR.wd {gs : List GlyphX} (h : GR gs) (r : Int) : 0 ≤ wdOf gs r ∧ wdOf gs r ≤ 16384 := by
  unfold wdOf
  cases hg : gFind gs r with
  | none => simp
  | some g => simpa using (h g (gFind_mem hg)).2
theorem GoodG.range {gs : List GlyphX} (h : GoodG gs) : GR gs := fun g hg => by
  have := good_g h hg
  exact ⟨this.1, this.2.1⟩

theorem pairX_of {bs : List Nat} {S : Int} {gs : List GlyphX} {a : Int × Int} {p : Nat} {x : PairX} {r : List Nat} (hG : GR gs) (h : bs.drop p = pB x ++ r) (hS : (p : Int) + (pB x).length ≤ S) (hx : pOK gs a x) : pairX bs S gs a p = .ok (x, p + (pB x).length) := by
  obtain ⟨lf, rt, is, lg, kn⟩ := x
  obtain ⟨h1, h2, h3, h4, h5⟩ := hx
  simp only at h1 h2 h3 h4 h5
  have r1 := hG.known h1
  have r2 := hG.known h3
  obtain ⟨lf, rfl⟩ := Int.eq_ofNat_of_zero_le r1.1
  obtain ⟨rt, rfl⟩ := Int.eq_ofNat_of_zero_le r2.1
  simp only [pB, Int.toNat_natCast, List.append_assoc, List.length_append, digs_len] at h hS ⊢
  have e1 := drop_app h (digs_len _ _)
  have e2 := drop_app e1 (digs_len _ _)
  unfold pairX
  rw [numX_of h (by omega) (by split at hS <;> (simp [digs_len] at hS; omega)) (by simp [leftR, knownR]; exact ⟨h1, h2⟩)]
  simp only [PR.bind]
  rw [numX_of e1 (by omega) (by split at hS <;> (simp [digs_len] at hS; omega)) (by simp [rightR, knownR]; exact ⟨h3, h4⟩)]
  simp only
  rcases h5 with ⟨rfl, h6, rfl⟩ | ⟨rfl, rfl, h6, h7, h8⟩
  · simp only [if_true, List.append_assoc, List.length_append, digs_len] at e2 hS ⊢
    have r3 := hG.known h6
    obtain ⟨lg, rfl⟩ := Int.eq_ofNat_of_zero_le r3.1
    have e3 := drop_app e2 (digs_len _ _)
    rw [numX_of e2 (by omega) (by omega) (by simp [toR])]
    simp only [pairTailX, if_true]
    rw [Int.toNat_natCast] at e3
    rw [numX_of e3 (by omega) (by omega) (by simp [knownR]; exact h6)]
    simp only [PR.bind, Except.ok.injEq, Prod.mk.injEq, true_and] <;> omega
  · simp only [Bool.false_eq_true, if_false, List.append_assoc, List.length_append, digs_len] at e2 hS ⊢
    have e3 := drop_app e2 (digs_len _ _)
    have w1 := hG.wd lf
    have w2 := hG.wd rt
    have hkn : 0 ≤ kn + 32768 := by omega
    obtain ⟨m, hm⟩ := Int.eq_ofNat_of_zero_le hkn
    have hm' : (kn + 32768).toNat = m := by omega
    rw [hm'] at e3
    rw [numX_of e2 (by omega) (by omega) (by simp [toR])]
    simp only [pairTailX]
    rw [if_neg (by omega), numX_of e3 (by omega) (by omega) (by simp [kernR]; omega)]
    simp only [PR.bind, Except.ok.injEq, Prod.mk.injEq, PairX.mk.injEq, true_and]
    exact ⟨by omega, trivial⟩
theorem pairX_inv {bs : List Nat} {S : Int} {gs : List GlyphX} {a : Int × Int} {p q : Nat} {x : PairX} (hb : AllB bs) (h : pairX bs S gs a p = .ok (x, q)) (hp : (p : Int) ≤ S) : pOK gs a x ∧ bs.drop p = pB x ++ bs.drop q ∧ q = p + (pB x).length ∧ (q : Int) ≤ S := by
  unfold pairX at h
  obtain ⟨lf, p1, h1, h⟩ := bind_ok h
  obtain ⟨rt, p2, h2, h⟩ := bind_ok h
  obtain ⟨kind, p3, h3, h⟩ := bind_ok h
  obtain ⟨a1, b1, c1, d1, s1⟩ := numX_inv hb h1 hp
  obtain ⟨a2, b2, c2, d2, s2⟩ := numX_inv hb h2 s1
  obtain ⟨a3, b3, c3, d3, s3⟩ := numX_inv hb h3 s2
  simp [leftR, rightR, knownR, toR] at a1 a2 a3
  unfold pairTailX at h
  by_cases hk : kind = 1
  · rw [if_pos hk] at h
    subst hk
    obtain ⟨lg, p4, h4, h⟩ := bind_ok h
    obtain ⟨a4, b4, c4, d4, s4⟩ := numX_inv hb h4 s3
    simp only [Except.ok.injEq, Prod.mk.injEq] at h
    obtain ⟨rfl, rfl⟩ := h
    simp [knownR] at a4
    refine ⟨⟨a1.1, a1.2, a2.1, a2.2, .inl ⟨rfl, a4, rfl⟩⟩, ?_, ?_, s4⟩
    · simp only [pB, Int.toNat_natCast, if_true, List.append_assoc]
      rw [b1, b2, b3, b4]
    · simp only [pB, if_true, List.length_append, digs_len]
      omega
  · rw [if_neg hk] at h
    obtain rfl : kind = 2 := by omega
    obtain ⟨m, p4, h4, h⟩ := bind_ok h
    obtain ⟨a4, b4, c4, d4, s4⟩ := numX_inv hb h4 s3
    simp only [Except.ok.injEq, Prod.mk.injEq] at h
    obtain ⟨rfl, rfl⟩ := h
    simp [kernR] at a4
    refine ⟨⟨a1.1, a1.2, a2.1, a2.2, .inr ⟨rfl, rfl, by simp only []; omega, by simp only []; omega, by simp only []; omega⟩⟩, ?_, ?_, s4⟩
    · simp only [pB, Int.toNat_natCast, Bool.false_eq_true, if_false, List.append_assoc]
      rw [b1, b2, b3, b4, show ((m : Int) - 32768 + 32768).toNat = m by omega]
    · simp only [pB, Bool.false_eq_true, if_false, List.length_append, digs_len]
      omega

def PCh (gs : List GlyphX) : List PairX → List PairX → Prop
  | _, [] => True
  | pre, x :: l => pOK gs (lastP pre) x ∧ PCh gs (pre ++ [x]) l
def pLen (l : List PairX) : Nat := (l.flatMap pB).length
theorem pairsX_of {bs : List Nat} {S : Int} {gs : List GlyphX} (hG : GR gs) : ∀ (l pre : List PairX) (p : Nat) (r : List Nat), bs.drop p = l.flatMap pB ++ r → (p : Int) + pLen l ≤ S → PCh gs pre l → pairsX bs S gs l.length pre p = .ok (pre ++ l, p + pLen l)
  | [], pre, p, r, _, _, _ => by simp [pairsX, pLen]
  | x :: l, pre, p, r, h, hS, hc => by
    simp only [List.flatMap_cons, List.append_assoc, List.length_cons, pLen, List.length_append] at h hS ⊢
    unfold pairsX
    rw [pairX_of hG h (by omega) hc.1]
    show pairsX bs S gs l.length (pre ++ [x]) (p + (pB x).length) = _
    rw [pairsX_of hG l (pre ++ [x]) _ r (drop_app h rfl) (by unfold pLen; omega) hc.2]
    simp only [List.append_assoc, List.singleton_append, Except.ok.injEq, Prod.mk.injEq, true_and, pLen]
    omega
theorem pairsX_inv {bs : List Nat} {S : Int} {gs : List GlyphX} {ps' : List PairX} {q : Nat} (hb : AllB bs) : ∀ (k : Nat) (pre : List PairX) (p : Nat), pairsX bs S gs k pre p = .ok (ps', q) → (p : Int) ≤ S →
    ∃ l, ps' = pre ++ l ∧ l.length = k ∧ bs.drop p = l.flatMap pB ++ bs.drop q ∧ PCh gs pre l ∧ (q : Int) ≤ S ∧ q = p + pLen l
  | 0, pre, p, h, hp => by
    simp only [pairsX, Except.ok.injEq, Prod.mk.injEq] at h
    obtain ⟨rfl, rfl⟩ := h
    exact ⟨[], by simp, rfl, by simp, trivial, hp, rfl⟩
  | k + 1, pre, p, h, hp => by
    unfold pairsX at h
    obtain ⟨x, p', hx, h⟩ := bind_ok h
    obtain ⟨h1, h2, h3, h4⟩ := pairX_inv hb hx hp
    obtain ⟨l, e1, e2, e3, e4, e5, e6⟩ := pairsX_inv hb k _ _ h h4
    refine ⟨x :: l, by rw [e1]; simp, by simp [e2], ?_, ⟨h1, e4⟩, e5, ?_⟩
    · rw [h2, e3]; simp
    · simp only [pLen, List.flatMap_cons, List.length_append] at e6 ⊢
      omega

theorem lastP_snoc (ps : List PairX) (x : PairX) : lastP (ps ++ [x]) = (x.lf, x.rt) := by unfold lastP; simp
theorem lastP_take {ps : List PairX} {i : Nat} {q : PairX} (hq : ps[i]? = some q) : lastP (ps.take (i + 1)) = (q.lf, q.rt) := by rw [take_snoc hq, lastP_snoc]
theorem fine_iff {gs : List GlyphX} {x : PairX} : fineX gs x = true ↔ (gFind gs x.lf).isSome = true ∧ (gFind gs x.rt).isSome = true ∧ ((x.is = true ∧ (gFind gs x.lg).isSome = true ∧ x.kn = 0) ∨ (x.is = false ∧ x.lg = 0 ∧ x.kn ≠ 0 ∧ x.kn ≤ 16384 ∧ -(min (wdOf gs x.lf) (wdOf gs x.rt)) ≤ x.kn)) := by
  unfold fineX wdOf
  cases ha : gFind gs x.lf with
  | none => simp [fineO]
  | some a =>
    cases hb : gFind gs x.rt with
    | none => simp [fineO]
    | some b =>
      simp only [fineO, Option.isSome_some, Option.map_some, Option.getD_some, true_and]
      cases hi : x.is with
      | true => simp
      | false => simp [and_assoc]
theorem ok_pOK {gs : List GlyphX} {ps : List PairX} (hG : GR gs) {i : Nat} {x : PairX} (hx : ps[i]? = some x) : okP gs ps i ↔ pOK gs (lastP (ps.take i)) x := by
  rw [okP_at hx, fine_iff]
  unfold pOK
  cases i with
  | zero =>
    have e : lastP (ps.take 0) = (-1, -1) := rfl
    rw [e]
    constructor
    · rintro ⟨⟨h1, h2, h3⟩, _⟩
      have := hG.known h1
      have := hG.known h2
      exact ⟨h1, by simp only []; omega, h2, .inl (by simp only []; omega), h3⟩
    · rintro ⟨h1, _, h2, _, h3⟩
      exact ⟨⟨h1, h2, h3⟩, fun q h => by omega⟩
  | succ i =>
    have hlt := (List.getElem?_eq_some_iff.1 hx).1
    obtain ⟨q, hq⟩ : ∃ q, ps[i]? = some q := ⟨ps[i], List.getElem?_eq_getElem (by omega)⟩
    rw [lastP_take hq]
    constructor
    · rintro ⟨⟨h1, h2, h3⟩, h4⟩
      have hbh := h4 q (by omega) hq
      unfold behindX at hbh
      exact ⟨h1, by simp only []; omega, h2, by simp only []; omega, h3⟩
    · rintro ⟨h1, h5, h2, h4, h3⟩
      refine ⟨⟨h1, h2, h3⟩, fun q' _ hq' => ?_⟩
      rw [Nat.add_sub_cancel, hq] at hq'
      rw [← Option.some.inj hq']
      unfold behindX
      simp only at h4 h5
      omega
theorem GoodP.chain {gs : List GlyphX} {ps : List PairX} (hG : GR gs) (h : GoodP gs ps) : ∀ (l : List PairX) (i : Nat), ps.drop i = l → PCh gs (ps.take i) l
  | [], _, _ => trivial
  | x :: l, i, e => by
    have hx : ps[i]? = some x := by rw [← List.head?_drop, e]; rfl
    refine ⟨(ok_pOK hG hx).1 (h i (List.getElem?_eq_some_iff.1 hx).1), ?_⟩
    rw [← take_snoc hx]
    exact GoodP.chain hG h l (i + 1) (drop_app (x := [x]) (n := 1) e rfl)
theorem PCh.good {gs : List GlyphX} (hG : GR gs) : ∀ (l pre : List PairX), PCh gs pre l → ∀ i, pre.length ≤ i → i < pre.length + l.length → okP gs (pre ++ l) i
  | [], pre, _, i, h1, h2 => by simp at h2; omega
  | x :: l, pre, h, i, h1, h2 => by
    by_cases e : i = pre.length
    · subst e
      refine (ok_pOK hG (x := x) (by simp)).2 ?_
      rw [List.take_left]
      exact h.1
    · have := PCh.good hG l (pre ++ [x]) h.2 i (by simp; omega) (by simp at h2 ⊢; omega)
      simpa using this
theorem PCh.goodP {gs : List GlyphX} {ps : List PairX} (hG : GR gs) (h : PCh gs [] ps) : GoodP gs ps := fun i hi => by simpa using PCh.good hG ps [] h i (Nat.zero_le _) (by simpa using hi)

theorem letterX_of {bs : List Nat} {S : Int} {c p : Nat} {r : List Nat} (h : bs.drop p = c :: r) (hS : (p : Int) < S) : letterX bs S c p = .ok ((), p + 1) := by
  unfold letterX
  rw [byteX_of h hS]
  show (if c = c then _ else _) = _
  rw [if_pos rfl]
theorem letterX_inv {bs : List Nat} {S : Int} {c p q : Nat} {u : Unit} (h : letterX bs S c p = .ok (u, q)) : bs.drop p = c :: bs.drop q ∧ q = p + 1 ∧ (q : Int) ≤ S := by
  unfold letterX at h
  obtain ⟨x, p', hx, h⟩ := bind_ok h
  obtain ⟨rfl, hb, hS⟩ := byteX_ok hx
  split at h
  · rename_i e
    simp only [Except.ok.injEq, Prod.mk.injEq] at h
    obtain ⟨_, rfl⟩ := h
    have hlt := (List.getElem?_eq_some_iff.1 hb).1
    refine ⟨?_, rfl, by omega⟩
    rw [List.drop_eq_getElem_cons hlt, (List.getElem?_eq_some_iff.1 hb).2, e]
  · cases h

/-- What is laid is read as it was. -/
theorem readX_of (em : Int) (gs : List GlyphX) (ps : List PairX) (S : Int) (hS : ((fontB em gs ps).length : Int) ≤ S) (h : checkX em gs ps = 0) : readX (fontB em gs ps) S = .ok ((em, gs, ps), (fontB em gs ps).length) := by
  obtain ⟨he, hm, hG, hP⟩ := check_zero h
  obtain ⟨em, rfl⟩ := Int.eq_ofNat_of_zero_le (show 0 ≤ em by omega)
  have hR := hG.range
  obtain ⟨bs, hbs⟩ : ∃ bs, fontB em gs ps = bs := ⟨_, rfl⟩
  have hlen : bs.length = 7 + 9 * gs.length + 2 + pLen ps + 4 := by
    rw [← hbs]
    simp only [fontB, bodyB, headB, List.length_append, digs_len, List.length_cons, List.length_nil, pLen]
    have : (gs.flatMap gB).length = 9 * gs.length := by
      clear hbs h hm hG hP hR hS
      induction gs with
      | nil => rfl
      | cons g l ih => simp only [List.flatMap_cons, List.length_append, gB_len, List.length_cons, ih]; omega
    omega
  have e0 : bs = [80] ++ ([70] ++ ([49] ++ (digs em 2 ++ (digs gs.length 2 ++ (gs.flatMap gB ++ (digs ps.length 2 ++ (ps.flatMap pB ++ digs (sumX (bodyB em gs ps)) 4))))))) := by
    rw [← hbs]
    simp only [fontB, bodyB, headB, Int.toNat_natCast, List.append_assoc, List.cons_append, List.nil_append]
  rw [hbs] at hS ⊢
  have d0 : bs.drop 0 = _ := e0
  have d1 := drop_app (n := 1) d0 rfl
  have d2 := drop_app (n := 1) d1 rfl
  have d3 := drop_app (n := 1) d2 rfl
  have d5 := drop_app d3 (digs_len _ _)
  have d7 := drop_app d5 (digs_len _ _)
  have d8 := drop_app (n := 9 * gs.length) d7 (by
    clear d0 d1 d2 d3 d5 d7 e0 hlen hbs h hm hG hP hR hS
    induction gs with
    | nil => rfl
    | cons g l ih => simp only [List.flatMap_cons, List.length_append, gB_len, List.length_cons, ih]; omega)
  have d9 := drop_app d8 (digs_len _ _)
  have d10 := drop_app d9 (rfl : _ = pLen ps)
  have hsl := sumX_lt (bodyB em gs ps)
  unfold readX
  rw [letterX_of d0 (by omega)]
  simp only [PR.bind]
  rw [letterX_of d1 (by omega)]
  simp only
  rw [letterX_of d2 (by omega)]
  simp only [bodyX]
  rw [numX_of d3 (by omega) (by omega) (by simp [toR]; omega)]
  simp only [PR.bind]
  rw [numX_of d5 (by omega) (by omega) (by simp [toR]; omega)]
  simp only
  rw [glyphsX_of gs [] _ _ d7 (by omega) (by simpa using hG.chain gs 0 rfl)]
  simp only [List.nil_append]
  rw [numX_of d8 (by omega) (by omega) (by simp [toR]; omega)]
  simp only
  rw [pairsX_of hR ps [] _ _ d9 (by omega) (by simpa using hP.chain hR ps 0 rfl)]
  simp only [List.nil_append]
  have htk : bs.take (0 + 1 + 1 + 1 + 2 + 2 + 9 * gs.length + 2 + pLen ps) = bodyB em gs ps := by
    rw [← hbs]
    unfold fontB
    rw [List.take_left' (by
      have : (fontB em gs ps).length = (bodyB em gs ps).length + 4 := by unfold fontB; rw [List.length_append, digs_len]
      rw [hbs] at this
      omega)]
  unfold tailX
  rw [htk]
  unfold sumNumX
  rw [rawX_digs 4 0 _ [] (by simpa using d10) (by omega)]
  simp only [PR.bind, Nat.zero_mul, Nat.zero_add, rightX]
  rw [Nat.mod_eq_of_lt (by omega), if_pos (by simp)]
  simp only [endX]
  rw [if_neg (by omega)]
  simp only [Except.ok.injEq, Prod.mk.injEq, true_and]
  omega
end Go.Proofs.Ythcfgechifogeaa
