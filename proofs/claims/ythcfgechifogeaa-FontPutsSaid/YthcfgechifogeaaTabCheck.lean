/- What is wrong with a font: the document's check, as the program and the reference make it. -/
import Derived.Test.YthcfgechifogeaaTabFine
namespace Go.Proofs.Ythcfgechifogeaa
set_option linter.unusedSimpArgs false
set_option linter.unusedVariables false

/-- Whether the i-th glyph may be, if those ahead of it may. -/
def okG (gs : List GlyphX) (i : Nat) : Prop :=
  match gs[i]? with
  | none => False
  | some g => wd g.ru ≠ 0 ∧ (∀ q, 0 < i → gs[i - 1]? = some q → q.ru < g.ru) ∧ (0 ≤ g.wd ∧ g.wd ≤ 16384) ∧ (0 ≤ g.ht ∧ g.ht ≤ 16384) ∧ (0 ≤ g.dp ∧ g.dp ≤ 16384)
/-- Whether a pair stands behind another one. -/
def behindX (a b : PairX) : Prop := b.lf < a.lf ∨ (a.lf = b.lf ∧ b.rt < a.rt)
def okP (gs : List GlyphX) (ps : List PairX) (i : Nat) : Prop :=
  match ps[i]? with
  | none => False
  | some p => fineX gs p = true ∧ (∀ q, 0 < i → ps[i - 1]? = some q → behindX p q)
def GoodG (gs : List GlyphX) : Prop := ∀ i, i < gs.length → okG gs i
def GoodP (gs : List GlyphX) (ps : List PairX) : Prop := ∀ i, i < ps.length → okP gs ps i

open Classical in
noncomputable def checkX (em : Int) (gs : List GlyphX) (ps : List PairX) : Int :=
  if em < 1 ∨ 16384 < em then 1 else if 1024 < gs.length ∨ 4096 < ps.length then 50 else if ¬ GoodG gs then 51 else if ¬ GoodP gs ps then 52 else 0

theorem check_arg {em : Int} {gs ps} (h : em < 1 ∨ 16384 < em) : checkX em gs ps = 1 := by unfold checkX; rw [if_pos h]
theorem check_many {em : Int} {gs ps} (h : ¬ (em < 1 ∨ 16384 < em)) (h1 : 1024 < gs.length ∨ 4096 < ps.length) : checkX em gs ps = 50 := by unfold checkX; rw [if_neg h, if_pos h1]
theorem check_glyph {em : Int} {gs ps} (h : ¬ (em < 1 ∨ 16384 < em)) (h1 : ¬ (1024 < gs.length ∨ 4096 < ps.length)) {i : Nat} (hi : i < gs.length) (h2 : ¬ okG gs i) : checkX em gs ps = 51 := by
  unfold checkX; rw [if_neg h, if_neg h1, if_pos (fun hg => h2 (hg i hi))]
theorem check_pair {em : Int} {gs ps} (h : ¬ (em < 1 ∨ 16384 < em)) (h1 : ¬ (1024 < gs.length ∨ 4096 < ps.length)) (hg : GoodG gs) {i : Nat} (hi : i < ps.length) (h2 : ¬ okP gs ps i) : checkX em gs ps = 52 := by
  unfold checkX; rw [if_neg h, if_neg h1, if_neg (fun h => h hg), if_pos (fun hg => h2 (hg i hi))]
theorem check_ok {em : Int} {gs ps} (h : ¬ (em < 1 ∨ 16384 < em)) (h1 : ¬ (1024 < gs.length ∨ 4096 < ps.length)) (hg : GoodG gs) (hp : GoodP gs ps) : checkX em gs ps = 0 := by
  unfold checkX; rw [if_neg h, if_neg h1, if_neg (fun h => h hg), if_neg (fun h => h hp)]
theorem check_zero {em : Int} {gs ps} (h : checkX em gs ps = 0) : ¬ (em < 1 ∨ 16384 < em) ∧ ¬ (1024 < gs.length ∨ 4096 < ps.length) ∧ GoodG gs ∧ GoodP gs ps := by
  unfold checkX at h
  by_cases h1 : em < 1 ∨ 16384 < em
  · rw [if_pos h1] at h; omega
  rw [if_neg h1] at h
  by_cases h2 : 1024 < gs.length ∨ 4096 < ps.length
  · rw [if_pos h2] at h; omega
  rw [if_neg h2] at h
  by_cases h3 : GoodG gs
  · rw [if_neg (fun k => k h3)] at h
    by_cases h4 : GoodP gs ps
    · exact ⟨h1, h2, h3, h4⟩
    · rw [if_pos h4] at h; omega
  · rw [if_pos h3] at h; omega

theorem okG_at {gs : List GlyphX} {i : Nat} {g : GlyphX} (h : gs[i]? = some g) : okG gs i ↔ wd g.ru ≠ 0 ∧ (∀ q, 0 < i → gs[i - 1]? = some q → q.ru < g.ru) ∧ (0 ≤ g.wd ∧ g.wd ≤ 16384) ∧ (0 ≤ g.ht ∧ g.ht ≤ 16384) ∧ (0 ≤ g.dp ∧ g.dp ≤ 16384) := by unfold okG; rw [h]
theorem okP_at {gs : List GlyphX} {ps : List PairX} {i : Nat} {p : PairX} (h : ps[i]? = some p) : okP gs ps i ↔ fineX gs p = true ∧ (∀ q, 0 < i → ps[i - 1]? = some q → behindX p q) := by unfold okP; rw [h]

theorem GoodG.rising {gs : List GlyphX} (h : GoodG gs) : ∀ {i j : Nat} {a b : GlyphX}, i < j → gs[i]? = some a → gs[j]? = some b → a.ru < b.ru := by
  intro i j
  induction j with
  | zero => intro a b hij; omega
  | succ j ih =>
    intro a b hij ha hb
    have hlt := (List.getElem?_eq_some_iff.1 hb).1
    obtain ⟨q, hq⟩ : ∃ q, gs[j]? = some q := ⟨gs[j], List.getElem?_eq_getElem (by omega)⟩
    have h1 := ((okG_at hb).1 (h _ hlt)).2.1 q (by omega) hq
    by_cases e : i = j
    · subst e; rw [ha] at hq; cases hq; exact h1
    · exact Int.lt_trans (ih (by omega) ha hq) h1
theorem behind_trans {a b c : PairX} (h : behindX b a) (k : behindX c b) : behindX c a := by unfold behindX at *; omega
theorem GoodP.rising {gs : List GlyphX} {ps : List PairX} (h : GoodP gs ps) : ∀ {i j : Nat} {a b : PairX}, i < j → ps[i]? = some a → ps[j]? = some b → behindX b a := by
  intro i j
  induction j with
  | zero => intro a b hij; omega
  | succ j ih =>
    intro a b hij ha hb
    have hlt := (List.getElem?_eq_some_iff.1 hb).1
    obtain ⟨q, hq⟩ : ∃ q, ps[j]? = some q := ⟨ps[j], List.getElem?_eq_getElem (by omega)⟩
    have h1 := ((okP_at hb).1 (h _ hlt)).2 q (by omega) hq
    by_cases e : i = j
    · subst e; rw [ha] at hq; cases hq; exact h1
    · exact behind_trans (ih (by omega) ha hq) h1

/-- The first k glyphs may be, so they rise. -/
theorem rise_upto {gs : List GlyphX} {k : Nat} (h : ∀ i, i < k → okG gs i) {i j : Nat} {a b : GlyphX} (hij : i < j) (hj : j < k) (ha : gs[i]? = some a) (hb : gs[j]? = some b) : a.ru < b.ru := by
  have hk : GoodG (gs.take k) := by
    intro i hi
    simp only [List.length_take] at hi
    obtain ⟨g, hg⟩ : ∃ g, gs[i]? = some g := ⟨gs[i], List.getElem?_eq_getElem (by omega)⟩
    have h1 := (okG_at hg).1 (h i (by omega))
    have hg' : (gs.take k)[i]? = some g := by rw [List.getElem?_take, if_pos (by omega)]; exact hg
    refine (okG_at hg').2 ⟨h1.1, fun q h0 hq => ?_, h1.2.2⟩
    rw [List.getElem?_take] at hq
    split at hq
    · exact h1.2.1 q h0 hq
    · cases hq
  exact hk.rising hij (by rw [List.getElem?_take, if_pos (by omega)]; exact ha) (by rw [List.getElem?_take, if_pos (by omega)]; exact hb)
theorem rise_uptoP {gs : List GlyphX} {ps : List PairX} {k : Nat} (h : ∀ i, i < k → okP gs ps i) {i j : Nat} {a b : PairX} (hij : i < j) (hj : j < k) (ha : ps[i]? = some a) (hb : ps[j]? = some b) : behindX b a := by
  have hk : GoodP gs (ps.take k) := by
    intro i hi
    simp only [List.length_take] at hi
    obtain ⟨g, hg⟩ : ∃ g, ps[i]? = some g := ⟨ps[i], List.getElem?_eq_getElem (by omega)⟩
    have h1 := (okP_at hg).1 (h i (by omega))
    have hg' : (ps.take k)[i]? = some g := by rw [List.getElem?_take, if_pos (by omega)]; exact hg
    refine (okP_at hg').2 ⟨h1.1, fun q h0 hq => ?_⟩
    rw [List.getElem?_take] at hq
    split at hq
    · exact h1.2 q h0 hq
    · cases hq
  exact hk.rising hij (by rw [List.getElem?_take, if_pos (by omega)]; exact ha) (by rw [List.getElem?_take, if_pos (by omega)]; exact hb)

theorem findIdx_snoc {α : Type} (p : α → Bool) (l : List α) (x : α) : (l ++ [x]).findIdx? p = match l.findIdx? p with | some i => some i | none => if p x = true then some l.length else none := by
  rw [List.findIdx?_append]
  cases h : l.findIdx? p with
  | some i => simp
  | none => by_cases hx : p x = true <;> simp [List.findIdx?_cons, hx]

theorem gIdx_snoc {gs : List GlyphX} {k : Nat} {g : GlyphX} (h : ∀ i, i < k → okG gs i) (hk : okG gs k) (hg : gs[k]? = some g) (r : Int) : gIdx (gs.take (k + 1)) r = if r = g.ru then some (k : Int) else gIdx (gs.take k) r := by
  have hlt := (List.getElem?_eq_some_iff.1 hg).1
  unfold gIdx
  rw [take_snoc hg, findIdx_snoc]
  rcases idx_find (fun g : GlyphX => g.ru == r) (gs.take k) with ⟨h1, h2⟩ | ⟨i, x, h1, h2, h3⟩
  · rw [h1]
    by_cases e : r = g.ru
    · subst e
      simp
      omega
    · have : (g.ru == r) = false := by simp; omega
      simp [this, e]
  · rw [h1]
    have hx : x.ru = r := by simpa using List.find?_some h2
    rw [List.getElem?_take] at h3
    split at h3
    · rename_i hik
      have := rise_upto (k := k + 1) (gs := gs) (fun j hj => by by_cases e : j = k; exact e ▸ hk; exact h j (by omega)) hik (by omega) h3 hg
      rw [if_neg (show ¬ r = g.ru by omega)]
    · cases h3
theorem pIdx_snoc {gs : List GlyphX} {ps : List PairX} {k : Nat} {g : PairX} (h : ∀ i, i < k → okP gs ps i) (hk : okP gs ps k) (hg : ps[k]? = some g) (r : Int × Int) : pIdx (ps.take (k + 1)) r = if r = (g.lf, g.rt) then some (k : Int) else pIdx (ps.take k) r := by
  have hlt := (List.getElem?_eq_some_iff.1 hg).1
  unfold pIdx
  rw [take_snoc hg, findIdx_snoc]
  rcases idx_find (fun p : PairX => p.lf == r.1 && p.rt == r.2) (ps.take k) with ⟨h1, h2⟩ | ⟨i, x, h1, h2, h3⟩
  · rw [h1]
    by_cases e : r = (g.lf, g.rt)
    · subst e
      simp
      omega
    · have : (g.lf == r.1 && g.rt == r.2) = false := by
        rw [Bool.eq_false_iff]
        intro hh
        simp at hh
        exact e (Prod.ext hh.1.symm hh.2.symm)
      simp [this, e]
  · rw [h1]
    have hx := List.find?_some h2
    simp at hx
    rw [List.getElem?_take] at h3
    split at h3
    · rename_i hik
      have hb := rise_uptoP (k := k + 1) (gs := gs) (ps := ps) (fun j hj => by by_cases e : j = k; exact e ▸ hk; exact h j (by omega)) hik (by omega) h3 hg
      rw [if_neg (show ¬ r = (g.lf, g.rt) from fun e => by subst e; unfold behindX at hb; simp at hx; omega)]
    · cases h3
theorem goodW {gs : List GlyphX} (h : GoodG gs) : GoodW gs := by
  intro g hg
  obtain ⟨i, hi⟩ := List.mem_iff_getElem?.1 hg
  exact ((okG_at hi).1 (h i (List.getElem?_eq_some_iff.1 hi).1)).2.2.1
end Go.Proofs.Ythcfgechifogeaa
