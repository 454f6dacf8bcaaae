/- Font: the reading looks at what it has read alone; what is read was laid so. -/
import Derived.Test.YthcfgechifogeaaFnLaw2
namespace Go.Proofs.Ythcfgechifogeaa
open Go.RowKit
set_option linter.unusedSimpArgs false
set_option linter.unusedVariables false

/-- What a reading tells hangs on the bytes that it has read. -/
def LocR {α : Type} (S : Int) (f : List Nat → Nat → PR α) (bs : List Nat) (p : Nat) (r : PR α) : Prop :=
  match r with
  | .ok (v, q) => p ≤ q ∧ q ≤ bs.length ∧ (∀ bs', bs'.take q = bs.take q → f bs' p = .ok (v, q)) ∧ ∀ j, p ≤ j → j < q → f (bs.take j) p = .error (60, j, j)
  | .error (k, a, q) => p ≤ q ∧ q ≤ bs.length ∧ (k = 60 ∨ k = 61) ∧ ((a = (bs.length : Int) ∧ q = bs.length) ∨ (a = (q : Int) - 1 ∧ p < q ∧ ∀ bs', bs'.take q = bs.take q → f bs' p = .error (k, a, q)))
def LocAt {α : Type} (S : Int) (f : List Nat → Nat → PR α) (bs : List Nat) (p : Nat) : Prop := LocR S f bs p (f bs p)
def Loc {α : Type} (S : Int) (f : List Nat → Nat → PR α) : Prop := ∀ bs p, p ≤ bs.length → (bs.length : Int) ≤ S → LocAt S f bs p

theorem take_le {bs bs' : List Nat} {p q : Nat} (h : bs'.take q = bs.take q) (hp : p ≤ q) : bs'.take p = bs.take p := by
  have := congrArg (List.take p) h
  rwa [List.take_take, List.take_take, Nat.min_eq_left hp] at this
theorem get_take {bs bs' : List Nat} {p q : Nat} (h : bs'.take q = bs.take q) (hp : p < q) : bs'[p]? = bs[p]? := by
  have := congrArg (fun l => l[p]?) h
  simpa [List.getElem?_take, hp] using this
theorem Loc.pure {α : Type} {S : Int} (v : α) : Loc S (fun _ p => .ok (v, p)) := fun bs p hp _ => ⟨Nat.le_refl _, hp, fun _ _ => rfl, fun j h1 h2 => by omega⟩
theorem Loc.bind {α β : Type} {S : Int} {f : List Nat → Nat → PR α} {g : α → List Nat → Nat → PR β} (hf : Loc S f) (hg : ∀ v, Loc S (g v)) : Loc S (fun bs p => (f bs p).bind (fun v q => g v bs q)) := fun bs p hp hS => by
  have h1 := hf bs p hp hS
  unfold LocAt at h1
  show LocR S _ bs p ((f bs p).bind (fun v q => g v bs q))
  cases hfr : f bs p with
  | error e =>
    obtain ⟨k, a, q⟩ := e
    rw [hfr] at h1
    obtain ⟨a1, a2, a3, a4⟩ := h1
    refine ⟨a1, a2, a3, a4.imp id ?_⟩
    rintro ⟨b1, b2, b3⟩
    exact ⟨b1, b2, fun bs' e => by show (f bs' p).bind _ = _; rw [b3 bs' e]; rfl⟩
  | ok v0 =>
    obtain ⟨v, q⟩ := v0
    rw [hfr] at h1
    obtain ⟨a1, a2, a3, a4⟩ := h1
    have h2 := hg v bs q a2 hS
    unfold LocAt at h2
    show LocR S _ bs p (g v bs q)
    have hgo : ∀ bs', bs'.take q = bs.take q → (f bs' p).bind (fun v q => g v bs' q) = g v bs' q := fun bs' e => by rw [a3 bs' e]; rfl
    cases hgr : g v bs q with
    | error e =>
      obtain ⟨k, a, q2⟩ := e
      rw [hgr] at h2
      obtain ⟨b1, b2, b3, b4⟩ := h2
      refine ⟨by omega, b2, b3, b4.imp id ?_⟩
      rintro ⟨c1, c2, c3⟩
      exact ⟨c1, by omega, fun bs' e => (hgo bs' (take_le e b1)).trans (c3 bs' e)⟩
    | ok u0 =>
      obtain ⟨u, q2⟩ := u0
      rw [hgr] at h2
      obtain ⟨b1, b2, b3, b4⟩ := h2
      refine ⟨by omega, b2, fun bs' e => (hgo bs' (take_le e b1)).trans (b3 bs' e), fun j h1 h2 => ?_⟩
      by_cases hj : j < q
      · show (f (bs.take j) p).bind _ = _
        rw [a4 j h1 hj]
        rfl
      · exact (hgo (bs.take j) (by rw [List.take_take, Nat.min_eq_left (by omega)])).trans (b4 j (by omega) h2)

theorem Loc.byte (S : Int) : Loc S (fun bs p => byteX bs S p) := fun bs p hp hS => by
  show LocR S _ bs p (byteX bs S p)
  by_cases hlt : p < bs.length
  · have hb := List.getElem?_eq_getElem hlt
    have e : ∀ bs', bs'.take (p + 1) = bs.take (p + 1) → byteX bs' S p = .ok (bs[p], p + 1) := fun bs' h => by
      unfold byteX
      rw [get_take h (by omega), hb]
      simp only
      rw [if_neg (by omega)]
    rw [e bs rfl]
    refine ⟨by omega, hlt, e, fun j h1 h2 => ?_⟩
    obtain rfl : j = p := by omega
    show byteX (bs.take j) S j = _
    unfold byteX
    rw [List.getElem?_take, if_neg (by omega)]
  · have : byteX bs S p = .error (60, p, p) := by
      unfold byteX
      rw [List.getElem?_eq_none (by omega)]
    rw [this]
    exact ⟨Nat.le_refl _, hp, .inl rfl, .inl ⟨by omega, by omega⟩⟩
theorem Loc.raw (S : Int) : ∀ (W n : Nat), Loc S (fun bs p => rawX bs S W n p)
  | 0, n => Loc.pure n
  | W + 1, n => Loc.bind (Loc.byte S) (fun c => Loc.raw S W (n * 256 + c))
/-- A number that must be as it must: a check behind a reading of at least one byte. -/
theorem Loc.check {α : Type} {S : Int} {f : List Nat → Nat → PR α} (hf : Loc S f) (hpos : ∀ bs p v q, f bs p = .ok (v, q) → p < q) (right : List Nat → Nat → α → Bool) (hr : ∀ bs bs' p q v, f bs p = .ok (v, q) → bs'.take q = bs.take q → right bs' p v = right bs p v) (k0 : Int) (hk : k0 = 60 ∨ k0 = 61) :
    Loc S (fun bs p => (f bs p).bind (fun v q => if right bs p v = true then .ok (v, q) else .error (k0, (q : Int) - 1, q))) := fun bs p hp hS => by
  have h1 := hf bs p hp hS
  unfold LocAt at h1
  show LocR S _ bs p ((f bs p).bind (fun v q => if right bs p v = true then .ok (v, q) else .error (k0, (q : Int) - 1, q)))
  cases hfr : f bs p with
  | error e =>
    obtain ⟨k, a, q⟩ := e
    rw [hfr] at h1
    obtain ⟨a1, a2, a3, a4⟩ := h1
    refine ⟨a1, a2, a3, a4.imp id ?_⟩
    rintro ⟨b1, b2, b3⟩
    exact ⟨b1, b2, fun bs' e => by show (f bs' p).bind _ = _; rw [b3 bs' e]; rfl⟩
  | ok v0 =>
    obtain ⟨v, q⟩ := v0
    have hpq := hpos bs p v q hfr
    rw [hfr] at h1
    obtain ⟨a1, a2, a3, a4⟩ := h1
    show LocR S _ bs p (if right bs p v = true then .ok (v, q) else .error (k0, (q : Int) - 1, q))
    have hgo : ∀ bs', bs'.take q = bs.take q → (f bs' p).bind (fun v q => if right bs' p v = true then (.ok (v, q) : PR α) else .error (k0, (q : Int) - 1, q)) = if right bs p v = true then .ok (v, q) else .error (k0, (q : Int) - 1, q) := fun bs' e => by
      rw [a3 bs' e]
      show (if right bs' p v = true then _ else _) = _
      rw [hr bs bs' p q v hfr e]
    cases hrr : right bs p v with
    | true =>
      rw [hrr] at hgo
      rw [if_pos rfl] at hgo ⊢
      exact ⟨a1, a2, hgo, fun j h1 h2 => by show (f (bs.take j) p).bind _ = _; rw [a4 j h1 h2]; rfl⟩
    | false =>
      rw [hrr] at hgo
      rw [if_neg (by decide)] at hgo ⊢
      exact ⟨a1, a2, hk, .inr ⟨rfl, hpq, hgo⟩⟩
theorem rawX_pos {bs : List Nat} {S : Int} : ∀ (W n p m q : Nat), rawX bs S W n p = .ok (m, q) → q = p + W
  | 0, n, p, m, q, h => by
    simp only [rawX, Except.ok.injEq, Prod.mk.injEq] at h
    omega
  | W + 1, n, p, m, q, h => by
    unfold rawX at h
    obtain ⟨c, p', hc, h⟩ := bind_ok h
    obtain ⟨rfl, _, _⟩ := byteX_ok hc
    have := rawX_pos W _ _ _ _ h
    omega
theorem Loc.num (S : Int) (W : Nat) (hW : 0 < W) (right : Nat → Bool) : Loc S (fun bs p => numX bs S W right p) :=
  Loc.check (Loc.raw S W 0) (fun bs p v q h => by have := rawX_pos W 0 p v q h; omega) (fun _ _ v => right v) (fun _ _ _ _ _ _ _ => rfl) 60 (.inl rfl)
theorem Loc.letter (S : Int) (c : Nat) : Loc S (fun bs p => letterX bs S c p) := by
  have h := Loc.bind (Loc.check (Loc.byte S) (fun bs p v q h => by have := byteX_ok h; omega) (fun _ _ v => v == c) (fun _ _ _ _ _ _ _ => rfl) 60 (.inl rfl)) (fun _ => Loc.pure ())
  have e : (fun bs p => letterX bs S c p) = (fun bs p => ((byteX bs S p).bind (fun v q => if (v == c) = true then (.ok (v, q) : PR Nat) else .error (60, (q : Int) - 1, q))).bind (fun _ q => (.ok ((), q) : PR Unit))) := by
    funext bs p
    unfold letterX
    cases byteX bs S p with
    | error e => rfl
    | ok v0 =>
      obtain ⟨v, q⟩ := v0
      simp only [PR.bind]
      by_cases hv : v = c
      · simp [hv]
      · rw [if_neg hv, if_neg (by simpa using hv)]
  rw [e]
  exact h
theorem Loc.glyph (S last : Int) : Loc S (fun bs p => glyphX bs S last p) :=
  Loc.bind (Loc.num S 3 (by decide) _) fun ru => Loc.bind (Loc.num S 2 (by decide) _) fun wd => Loc.bind (Loc.num S 2 (by decide) _) fun ht => Loc.bind (Loc.num S 2 (by decide) _) fun dp => Loc.pure _
theorem Loc.pair (S : Int) (gs : List GlyphX) (a : Int × Int) : Loc S (fun bs p => pairX bs S gs a p) :=
  Loc.bind (Loc.num S 3 (by decide) _) fun lf => Loc.bind (Loc.num S 3 (by decide) _) fun rt => Loc.bind (Loc.num S 1 (by decide) _) fun kind => by
    by_cases hk : kind = 1
    · have e : (fun bs p => pairTailX bs S gs lf rt kind p) = fun bs p => (numX bs S 3 (knownR gs) p).bind fun lg p => .ok (⟨lf, rt, true, lg, 0⟩, p) := by funext bs p; unfold pairTailX; rw [if_pos hk]
      rw [e]
      exact Loc.bind (Loc.num S 3 (by decide) _) fun lg => Loc.pure _
    · have e : (fun bs p => pairTailX bs S gs lf rt kind p) = fun bs p => (numX bs S 2 (kernR (-(min (wdOf gs lf) (wdOf gs rt)))) p).bind fun k p => .ok (⟨lf, rt, false, 0, (k : Int) - 32768⟩, p) := by funext bs p; unfold pairTailX; rw [if_neg hk]
      rw [e]
      exact Loc.bind (Loc.num S 2 (by decide) _) fun k => Loc.pure _
theorem Loc.glyphs (S : Int) : ∀ (k : Nat) (gs : List GlyphX), Loc S (fun bs p => glyphsX bs S k gs p)
  | 0, gs => Loc.pure gs
  | k + 1, gs => Loc.bind (Loc.glyph S (lastG gs)) fun g => Loc.glyphs S k (gs ++ [g])
theorem Loc.pairs (S : Int) (gs : List GlyphX) : ∀ (k : Nat) (ps : List PairX), Loc S (fun bs p => pairsX bs S gs k ps p)
  | 0, ps => Loc.pure ps
  | k + 1, ps => Loc.bind (Loc.pair S gs (lastP ps)) fun x => Loc.pairs S gs k (ps ++ [x])
theorem Loc.sum (S : Int) : Loc S (fun bs p => sumNumX bs S (sumX (bs.take p)) p) :=
  Loc.check (Loc.raw S 4 0) (fun bs p v q h => by have := rawX_pos 4 0 p v q h; omega) (fun bs p v => v == sumX (bs.take p)) (fun bs bs' p q v h e => by
    have := rawX_pos 4 0 p v q h
    rw [take_le e (by omega)]) 61 (.inr rfl)
/-- All but the look behind the end. -/
def preX (S : Int) (bs : List Nat) (p : Nat) : PR Fnt :=
  (letterX bs S 80 p).bind fun _ p => (letterX bs S 70 p).bind fun _ p => (letterX bs S 49 p).bind fun _ p => (numX bs S 2 (toR 1 16384) p).bind fun em p => (numX bs S 2 (toR 0 1024) p).bind fun n p => (glyphsX bs S n [] p).bind fun gs p => (numX bs S 2 (toR 0 4096) p).bind fun m p => (pairsX bs S gs m [] p).bind fun ps p =>
    (sumNumX bs S (sumX (bs.take p)) p).bind fun _ p => .ok (((em : Int), gs, ps), p)
theorem Loc.pre (S : Int) : Loc S (preX S) :=
  Loc.bind (Loc.letter S 80) fun _ => Loc.bind (Loc.letter S 70) fun _ => Loc.bind (Loc.letter S 49) fun _ => Loc.bind (Loc.num S 2 (by decide) _) fun em => Loc.bind (Loc.num S 2 (by decide) _) fun n => Loc.bind (Loc.glyphs S n []) fun gs => Loc.bind (Loc.num S 2 (by decide) _) fun m => Loc.bind (Loc.pairs S gs m []) fun ps => Loc.bind (Loc.sum S) fun _ => Loc.pure _
theorem readX_pre (bs : List Nat) (S : Int) : readX bs S = (preX S bs 0).bind fun x p => (endX bs S p).bind fun _ p => .ok (x, p) := by
  unfold readX preX bodyX tailX
  simp only [PR.bind_assoc]
  rfl

/-- What is read was laid so. -/
theorem readX_inv {bs : List Nat} {S : Int} {em : Int} {gs : List GlyphX} {ps : List PairX} {q : Nat} (hb : AllB bs) (h : readX bs S = .ok ((em, gs, ps), q)) (hS : (0 : Int) ≤ S) : bs = fontB em gs ps ∧ checkX em gs ps = 0 ∧ q = bs.length := by
  unfold readX at h
  obtain ⟨_, p1, h1, h⟩ := bind_ok h
  obtain ⟨_, p2, h2, h⟩ := bind_ok h
  obtain ⟨_, p3, h3, h⟩ := bind_ok h
  unfold bodyX at h
  obtain ⟨em', p4, h4, h⟩ := bind_ok h
  obtain ⟨n, p5, h5, h⟩ := bind_ok h
  obtain ⟨gs', p6, h6, h⟩ := bind_ok h
  obtain ⟨m, p7, h7, h⟩ := bind_ok h
  obtain ⟨ps', p8, h8, h⟩ := bind_ok h
  obtain ⟨_, p9, h9, h⟩ := bind_ok h
  simp only [Except.ok.injEq, Prod.mk.injEq] at h
  obtain ⟨⟨rfl, rfl, rfl⟩, rfl⟩ := h
  obtain ⟨b1, c1, s1⟩ := letterX_inv h1
  obtain ⟨b2, c2, s2⟩ := letterX_inv h2
  obtain ⟨b3, c3, s3⟩ := letterX_inv h3
  obtain ⟨a4, b4, c4, d4, s4⟩ := numX_inv hb h4 s3
  obtain ⟨a5, b5, c5, d5, s5⟩ := numX_inv hb h5 s4
  obtain ⟨l, e1, e2, b6, g6, s6, c6⟩ := glyphsX_inv hb n [] _ h6 s5
  obtain ⟨a7, b7, c7, d7, s7⟩ := numX_inv hb h7 s6
  obtain ⟨l', e1', e2', b8, g8, s8, c8⟩ := pairsX_inv hb m [] _ h8 s7
  simp only [List.nil_append] at e1 e1'
  subst e1 e1' e2 e2'
  unfold tailX at h9
  obtain ⟨n4, p10, h10, h9⟩ := bind_ok h9
  unfold sumNumX at h10
  obtain ⟨n5, p11, h11, h10⟩ := bind_ok h10
  obtain ⟨c11, b11, _, s11⟩ := rawX_inv hb 4 0 _ h11 s8
  unfold rightX at h10
  split at h10
  case isFalse => cases h10
  rename_i hsum
  simp only [Except.ok.injEq, Prod.mk.injEq] at h10
  obtain ⟨rfl, rfl⟩ := h10
  unfold endX at h9
  split at h9
  · obtain ⟨_, _, _, h9⟩ := bind_ok h9
    cases h9
  rename_i hend
  simp only [Except.ok.injEq, Prod.mk.injEq] at h9
  obtain ⟨_, rfl⟩ := h9
  have hG := GCh.goodG g6
  have hP := PCh.goodP hG.range g8
  simp [toR] at a4 a5 a7
  have hck : checkX em' gs' ps' = 0 := check_ok (by omega) (by omega) hG hP
  have hbody : bs.take p8 = bodyB em' gs' ps' ∧ bs.drop 0 = bodyB em' gs' ps' ++ bs.drop p8 := by
    have e : bs.drop 0 = bodyB em' gs' ps' ++ bs.drop p8 := by
      rw [b1, b2, b3, b4, b5, b6, b7, b8]
      simp only [bodyB, headB, Int.toNat_natCast, List.append_assoc, List.cons_append, List.nil_append]
    refine ⟨?_, e⟩
    have hl : (bodyB em' gs' ps').length = p8 := by
      have h8' := congrArg List.length b11
      simp only [List.length_append, List.length_drop, digs_len] at h8'
      have := congrArg List.length e
      simp only [List.length_append, List.length_drop] at this
      omega
    rw [List.drop_zero] at e
    conv => lhs; rw [e]
    exact List.take_left' hl
  have hn : n5 = sumX (bodyB em' gs' ps') := by rw [← hbody.1]; simpa using hsum
  have hq : p11 = bs.length := by
    have : p11 ≤ bs.length := by
      have := congrArg List.length b11
      simp only [List.length_append, List.length_drop, digs_len] at this
      omega
    omega
  refine ⟨?_, hck, hq⟩
  have := hbody.2
  rw [List.drop_zero, b11, hn, hq, List.drop_length, List.append_nil] at this
  exact this
end Go.Proofs.Ythcfgechifogeaa
