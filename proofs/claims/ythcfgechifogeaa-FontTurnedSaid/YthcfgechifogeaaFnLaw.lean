/- Font: one form: what is laid is read as it was, what is read was laid so. -/
import Derived.Test.YthcfgechifogeaaFnGet
import Derived.Test.YthcfgechifogeaaFnPut
namespace Go.Proofs.Ythcfgechifogeaa
open Go.RowKit
set_option linter.unusedSimpArgs false
set_option linter.unusedVariables false

theorem drop_app {α : Type} {bs x r : List α} {p n : Nat} (h : bs.drop p = x ++ r) (hn : x.length = n) : bs.drop (p + n) = r := by
  rw [← List.drop_drop, h, ← hn, List.drop_left]
theorem pow8 (W : Nat) : 2 ^ (8 * W) = 256 ^ W := by rw [Nat.pow_mul]
theorem byteX_of {bs : List Nat} {S : Int} {p c : Nat} {r : List Nat} (h : bs.drop p = c :: r) (hS : (p : Int) < S) : byteX bs S p = .ok (c, p + 1) := by
  have hc : bs[p]? = some c := by rw [← List.head?_drop, h]; rfl
  unfold byteX
  rw [hc]
  simp only
  rw [if_neg (by omega)]
theorem rawX_digs {bs : List Nat} {S : Int} {k : Nat} : ∀ (W n p : Nat) (r : List Nat), bs.drop p = digs k W ++ r → (p : Int) + W ≤ S → rawX bs S W n p = .ok (n * 256 ^ W + k % 256 ^ W, p + W)
  | 0, n, p, r, _, _ => by simp [rawX, Nat.mod_one]
  | W + 1, n, p, r, h, hS => by
    rw [digs_succ, List.cons_append] at h
    unfold rawX
    rw [byteX_of h (by omega)]
    have h2 : bs.drop (p + 1) = digs k W ++ r := drop_app (x := [k / 2 ^ (8 * W) % 256]) (n := 1) h rfl
    show rawX bs S W _ (p + 1) = _
    rw [rawX_digs W _ (p + 1) r h2 (by omega), pow8, Nat.mod_pow_succ]
    congr 2
    · rw [Nat.pow_succ, Nat.add_mul, Nat.mul_assoc, Nat.mul_comm 256, Nat.add_assoc, Nat.mul_comm (k / 256 ^ W % 256), Nat.add_comm (256 ^ W * _)]
    · omega
theorem numX_of {bs : List Nat} {S : Int} {W k p : Nat} {right : Nat → Bool} {r : List Nat} (h : bs.drop p = digs k W ++ r) (hk : k < 256 ^ W) (hS : (p : Int) + W ≤ S) (hr : right k = true) : numX bs S W right p = .ok (k, p + W) := by
  unfold numX
  rw [rawX_digs W 0 p r h hS]
  simp only [PR.bind, Nat.zero_mul, Nat.zero_add, Nat.mod_eq_of_lt hk, rightX, hr, if_true]
theorem rawX_inv {bs : List Nat} {S : Int} {m q : Nat} (hb : AllB bs) : ∀ (W n p : Nat), rawX bs S W n p = .ok (m, q) → (p : Int) ≤ S → q = p + W ∧ bs.drop p = digs m W ++ bs.drop q ∧ m / 256 ^ W = n ∧ (q : Int) ≤ S
  | 0, n, p, h, hp => by
    simp only [rawX, Except.ok.injEq, Prod.mk.injEq] at h
    obtain ⟨rfl, rfl⟩ := h
    simp [digs, hp]
  | W + 1, n, p, h, hp => by
    unfold rawX at h
    obtain ⟨c, p', hc, h⟩ := bind_ok h
    obtain ⟨rfl, hcb, hS⟩ := byteX_ok hc
    obtain ⟨h1, h2, h3, h4⟩ := rawX_inv hb W _ _ h (by omega)
    have hlt := (List.getElem?_eq_some_iff.1 hcb).1
    have hc256 := hb c (List.mem_of_getElem? hcb)
    refine ⟨by omega, ?_, ?_, h4⟩
    · have e : bs.drop p = c :: bs.drop (p + 1) := by
        rw [List.drop_eq_getElem_cons hlt]
        rw [(List.getElem?_eq_some_iff.1 hcb).2]
      rw [e, h2, digs_succ, pow8, h3]
      congr 1
      omega
    · rw [Nat.pow_succ, ← Nat.div_div_eq_div_mul, h3]
      omega
theorem numX_inv {bs : List Nat} {S : Int} {W k p q : Nat} {right : Nat → Bool} (hb : AllB bs) (h : numX bs S W right p = .ok (k, q)) (hp : (p : Int) ≤ S) : right k = true ∧ bs.drop p = digs k W ++ bs.drop q ∧ q = p + W ∧ k < 256 ^ W ∧ (q : Int) ≤ S := by
  obtain ⟨hr, n', hraw, rfl⟩ := numX_ok h
  obtain ⟨h1, h2, h3, h4⟩ := rawX_inv hb W 0 p hraw hp
  exact ⟨hr, h2, h1, by rw [Nat.div_eq_zero_iff] at h3; rcases h3 with h3 | h3; have := Nat.pow_pos (n := W) (show 0 < 256 by omega); omega; exact h3, h4⟩

/-- What a glyph behind `last` must be. -/
def gOK (last : Int) (g : GlyphX) : Prop := last < g.ru ∧ (0 ≤ g.ru ∧ g.ru ≤ 1114111 ∧ (g.ru < 55296 ∨ 57343 < g.ru)) ∧ (0 ≤ g.wd ∧ g.wd ≤ 16384) ∧ (0 ≤ g.ht ∧ g.ht ≤ 16384) ∧ (0 ≤ g.dp ∧ g.dp ≤ 16384)
theorem glyphX_of {bs : List Nat} {S last : Int} {p : Nat} {g : GlyphX} {r : List Nat} (h : bs.drop p = gB g ++ r) (hS : (p : Int) + 9 ≤ S) (hg : gOK last g) : glyphX bs S last p = .ok (g, p + 9) := by
  obtain ⟨ru, wd, ht, dp⟩ := g
  obtain ⟨h0, h1, h2, h3, h4⟩ := hg
  simp only at h0 h1 h2 h3 h4
  obtain ⟨ru, rfl⟩ := Int.eq_ofNat_of_zero_le h1.1
  obtain ⟨wd, rfl⟩ := Int.eq_ofNat_of_zero_le h2.1
  obtain ⟨ht, rfl⟩ := Int.eq_ofNat_of_zero_le h3.1
  obtain ⟨dp, rfl⟩ := Int.eq_ofNat_of_zero_le h4.1
  simp only [gB, Int.toNat_natCast, List.append_assoc] at h
  have e1 := drop_app h (digs_len _ _)
  have e2 := drop_app e1 (digs_len _ _)
  have e3 := drop_app e2 (digs_len _ _)
  unfold glyphX
  rw [numX_of h (by omega) (by omega) (by simp [runeR]; omega)]
  simp only [PR.bind]
  rw [numX_of e1 (by omega) (by omega) (by simp [toR]; omega)]
  simp only
  rw [numX_of e2 (by omega) (by omega) (by simp [toR]; omega)]
  simp only
  rw [numX_of e3 (by omega) (by omega) (by simp [toR]; omega)]
theorem glyphX_inv {bs : List Nat} {S last : Int} {p q : Nat} {g : GlyphX} (hb : AllB bs) (h : glyphX bs S last p = .ok (g, q)) (hp : (p : Int) ≤ S) : gOK last g ∧ bs.drop p = gB g ++ bs.drop q ∧ q = p + 9 ∧ (q : Int) ≤ S := by
  unfold glyphX at h
  obtain ⟨ru, p1, h1, h⟩ := bind_ok h
  obtain ⟨wd, p2, h2, h⟩ := bind_ok h
  obtain ⟨ht, p3, h3, h⟩ := bind_ok h
  obtain ⟨dp, p4, h4, h⟩ := bind_ok h
  simp only [Except.ok.injEq, Prod.mk.injEq] at h
  obtain ⟨rfl, rfl⟩ := h
  obtain ⟨a1, b1, c1, d1, s1⟩ := numX_inv hb h1 hp
  obtain ⟨a2, b2, c2, d2, s2⟩ := numX_inv hb h2 s1
  obtain ⟨a3, b3, c3, d3, s3⟩ := numX_inv hb h3 s2
  obtain ⟨a4, b4, c4, d4, s4⟩ := numX_inv hb h4 s3
  simp [runeR, toR] at a1 a2 a3 a4
  refine ⟨⟨a1.1.1, ⟨by simp only []; omega, by simp only []; omega, by simp only []; omega⟩, ⟨by simp only []; omega, by simp only []; omega⟩, ⟨by simp only []; omega, by simp only []; omega⟩, ⟨by simp only []; omega, by simp only []; omega⟩⟩, ?_, by omega, s4⟩
  simp only [gB, Int.toNat_natCast, List.append_assoc]
  rw [b1, b2, b3, b4]
end Go.Proofs.Ythcfgechifogeaa
