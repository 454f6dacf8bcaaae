/- Font: turned, cut, longer. -/
import Derived.Test.YthcfgechifogeaaFnLaw3
namespace Go.Proofs.Ythcfgechifogeaa
open Go.RowKit
set_option linter.unusedSimpArgs false
set_option linter.unusedVariables false

theorem endX_at {bs : List Nat} {S : Int} {p : Nat} (h : p < bs.length) (hS : (p : Int) < S) : endX bs S p = .error (60, (p : Int), p + 1) := by
  unfold endX
  rw [if_pos h]
  have : byteX bs S p = .ok (bs[p], p + 1) := by
    unfold byteX
    rw [List.getElem?_eq_getElem h]
    simp only
    rw [if_neg (by omega)]
  rw [this]
  show Except.error (60, ((p + 1 : Nat) : Int) - 1, p + 1) = _
  rw [show ((p + 1 : Nat) : Int) - 1 = (p : Int) by omega]
/-- A fault's kind and place. -/
theorem readX_err {bs : List Nat} {S : Int} {k a : Int} {q : Nat} (hS : (bs.length : Int) ≤ S) (h : readX bs S = .error (k, a, q)) : (k = 60 ∨ k = 61) ∧ 0 ≤ a ∧ a ≤ bs.length := by
  rw [readX_pre] at h
  have hl := Loc.pre S bs 0 (Nat.zero_le _) hS
  unfold LocAt at hl
  cases hp : preX S bs 0 with
  | error e =>
    obtain ⟨k', a', q'⟩ := e
    rw [hp] at h hl
    simp only [PR.bind, Except.error.injEq, Prod.mk.injEq] at h
    obtain ⟨rfl, rfl, rfl⟩ := h
    obtain ⟨_, h2, h3, h4⟩ := hl
    refine ⟨h3, ?_⟩
    rcases h4 with ⟨h4, _⟩ | ⟨h4, h5, _⟩ <;> omega
  | ok v =>
    obtain ⟨x, p⟩ := v
    rw [hp] at h hl
    obtain ⟨_, h2, _, _⟩ := hl
    simp only [PR.bind] at h
    by_cases hlt : p < bs.length
    · rw [endX_at hlt (by omega)] at h
      simp only [Except.error.injEq, Prod.mk.injEq] at h
      omega
    · unfold endX at h
      rw [if_neg hlt] at h
      cases h
theorem preX_of {em : Int} {gs : List GlyphX} {ps : List PairX} {S : Int} (hS : ((fontB em gs ps).length : Int) ≤ S) (h : checkX em gs ps = 0) : preX S (fontB em gs ps) 0 = .ok ((em, gs, ps), (fontB em gs ps).length) := by
  have h1 := readX_of em gs ps S hS h
  rw [readX_pre] at h1
  obtain ⟨x, p, hp, h1⟩ := bind_ok h1
  obtain ⟨_, p', he, h1⟩ := bind_ok h1
  simp only [Except.ok.injEq, Prod.mk.injEq] at h1
  obtain ⟨rfl, rfl⟩ := h1
  unfold endX at he
  split at he
  · obtain ⟨_, _, _, he⟩ := bind_ok he
    cases he
  · simp only [Except.ok.injEq, Prod.mk.injEq] at he
    rw [hp, ← he.2]
/-- Cut. -/
theorem readX_cut {em : Int} {gs : List GlyphX} {ps : List PairX} {S : Int} (hS : ((fontB em gs ps).length : Int) ≤ S) (h : checkX em gs ps = 0) {j : Nat} (hj : j < (fontB em gs ps).length) : readX ((fontB em gs ps).take j) S = .error (60, j, j) := by
  have hl := Loc.pre S (fontB em gs ps) 0 (Nat.zero_le _) hS
  unfold LocAt at hl
  rw [preX_of hS h] at hl
  rw [readX_pre, hl.2.2.2 j (Nat.zero_le _) hj]
  rfl
/-- Longer. -/
theorem readX_longer {em : Int} {gs : List GlyphX} {ps : List PairX} {S : Int} (hS : ((fontB em gs ps).length : Int) < S) (h : checkX em gs ps = 0) (c : Nat) : readX (fontB em gs ps ++ [c]) S = .error (60, (fontB em gs ps).length, (fontB em gs ps).length + 1) := by
  have hl := Loc.pre S (fontB em gs ps) 0 (Nat.zero_le _) (by omega)
  unfold LocAt at hl
  rw [preX_of (by omega) h] at hl
  rw [readX_pre, hl.2.2.1 (fontB em gs ps ++ [c]) (by simp)]
  simp only [PR.bind]
  rw [endX_at (by simp) (by omega)]

theorem mul_inj {a b : Nat} (ha : a < 4294967296) (hb : b < 4294967296) (h : a * 16777619 % 4294967296 = b * 16777619 % 4294967296) : a = b := by
  have e : ∀ x, x < 4294967296 → (x * 16777619 % 4294967296) * 899433627 % 4294967296 = x := fun x hx => by
    have : x * 16777619 % 4294967296 * 899433627 % 4294967296 = x * (16777619 * 899433627) % 4294967296 := by
      rw [Nat.mod_mul_mod, Nat.mul_assoc]
    rw [this, ← Nat.mul_mod_mod]
    have e1 : 16777619 * 899433627 % 4294967296 = 1 := by decide
    rw [e1, Nat.mul_one, Nat.mod_eq_of_lt hx]
  rw [← e a ha, ← e b hb, h]
theorem xor_inj {a b c : Nat} (h : a ^^^ c = b ^^^ c) : a = b := by
  have := congrArg (· ^^^ c) h
  simpa [Nat.xor_assoc, Nat.xor_self] using this
theorem sumStep_inj {s s' c c' : Nat} (hs : s < 4294967296) (hs' : s' < 4294967296) (hc : c < 256) (hc' : c' < 256) (h : sumStep s c = sumStep s' c') : s ^^^ c = s' ^^^ c' :=
  mul_inj (Nat.xor_lt_two_pow (n := 32) (by omega) (by omega)) (Nat.xor_lt_two_pow (n := 32) (by omega) (by omega)) h
theorem foldl_inj : ∀ (l : List Nat) (s s' : Nat), AllB l → s < 4294967296 → s' < 4294967296 → l.foldl sumStep s = l.foldl sumStep s' → s = s'
  | [], s, s', _, _, _, h => h
  | c :: l, s, s', hl, hs, hs', h => by
    have h1 := foldl_inj l (sumStep s c) (sumStep s' c) (fun x hx => hl x (by simp [hx])) (sumStep_lt _ _) (sumStep_lt _ _) h
    exact xor_inj (sumStep_inj hs hs' (hl c (by simp)) (hl c (by simp)) h1)
/-- One byte another one: another sum. -/
theorem sumX_turn {l r : List Nat} {x y : Nat} (hl : AllB (l ++ x :: r)) (hy : y < 256) (h : sumX (l ++ x :: r) = sumX (l ++ y :: r)) : x = y := by
  unfold sumX at h
  rw [List.foldl_append, List.foldl_append, List.foldl_cons, List.foldl_cons] at h
  have hs : l.foldl sumStep 2166136261 < 4294967296 := sumX_lt l
  have h1 := foldl_inj r _ _ (fun z hz => hl z (by simp [hz])) (sumStep_lt _ _) (sumStep_lt _ _) h
  have hx : x < 256 := hl x (by simp)
  have h2 := sumStep_inj hs hs hx hy h1
  rw [Nat.xor_comm, Nat.xor_comm (List.foldl sumStep 2166136261 l)] at h2
  exact xor_inj h2
/-- Turned: no font's bytes; nothing is told ahead of what is wrong. -/
theorem readX_turned {em : Int} {gs : List GlyphX} {ps : List PairX} {S : Int} (hS : ((fontB em gs ps).length : Int) ≤ S) (h : checkX em gs ps = 0) {j y : Nat} (hj : j < (fontB em gs ps).length) (hy : y < 256) (hne : (fontB em gs ps)[j]? ≠ some y) :
    ∃ k a q, readX ((fontB em gs ps).set j y) S = .error (k, a, q) ∧ (k = 60 ∨ k = 61) ∧ (j : Int) ≤ a := by
  obtain ⟨bs, hbs⟩ : ∃ bs, fontB em gs ps = bs := ⟨_, rfl⟩
  have hfa := fontB_all em gs ps
  have hpre := preX_of hS h
  rw [hbs] at hS hj hne hpre hfa ⊢
  have hl := Loc.pre S (bs.set j y) 0 (Nat.zero_le _) (by simpa using hS)
  have htk : ∀ q, q ≤ j → bs.take q = (bs.set j y).take q := fun q hq => (List.take_set_of_le hq).symm
  unfold LocAt at hl
  cases hp : preX S (bs.set j y) 0 with
  | error e =>
    obtain ⟨k, a, q⟩ := e
    rw [hp] at hl
    obtain ⟨_, h2, h3, h4⟩ := hl
    refine ⟨k, a, q, by rw [readX_pre, hp]; rfl, h3, ?_⟩
    rw [List.length_set] at h4 h2
    rcases h4 with ⟨h4, _⟩ | ⟨h4, h5, h6⟩
    · omega
    · by_cases hq : q ≤ j
      · have := h6 bs (htk q hq)
        rw [hpre] at this
        cases this
      · omega
  | ok v =>
    obtain ⟨x, q⟩ := v
    rw [hp] at hl
    obtain ⟨_, h2, h3, _⟩ := hl
    rw [List.length_set] at h2
    have hqj : j < q := by
      by_cases hq : q ≤ j
      · have := h3 bs (htk q hq)
        rw [hpre] at this
        simp only [Except.ok.injEq, Prod.mk.injEq] at this
        omega
      · omega
    by_cases hlt : q < bs.length
    · exact ⟨60, (q : Int), q + 1, by rw [readX_pre, hp]; simp only [PR.bind]; rw [endX_at (by simpa using hlt) (by omega)], .inl rfl, by omega⟩
    · exfalso
      have hR : readX (bs.set j y) S = .ok (x, q) := by
        rw [readX_pre, hp]
        simp only [PR.bind]
        unfold endX
        rw [if_neg (by simpa using hlt)]
      obtain ⟨em', gs', ps'⟩ := x
      have hall : AllB (bs.set j y) := fun z hz => by
        rcases List.mem_or_eq_of_mem_set hz with hz | hz
        · exact hfa z hz
        · rw [hz]; exact hy
      obtain ⟨i1, i2, _⟩ := readX_inv hall hR (by omega)
      have hlen : (bodyB em gs ps).length + 4 = (bodyB em' gs' ps').length + 4 := by
        have e1 : bs.length = (bodyB em gs ps).length + 4 := by rw [← hbs]; unfold fontB; rw [List.length_append, digs_len]
        have e2 : bs.length = (bodyB em' gs' ps').length + 4 := by rw [← List.length_set (i := j) (a := y), i1]; unfold fontB; rw [List.length_append, digs_len]
        omega
      obtain ⟨B, hB⟩ : ∃ B, bodyB em gs ps = B := ⟨_, rfl⟩
      obtain ⟨B', hB'⟩ : ∃ B', bodyB em' gs' ps' = B' := ⟨_, rfl⟩
      unfold fontB at hbs i1
      rw [hB] at hbs hlen
      rw [hB'] at i1 hlen
      have hBall : AllB B := by rw [← hB]; exact bodyB_all _ _ _
      have hsB := sumX_lt B
      have hsB' := sumX_lt B'
      have digs_inj : ∀ {a b : Nat}, a < 4294967296 → b < 4294967296 → digs a 4 = digs b 4 → a = b := fun {a b} ha hb e => by
        have h1 := rawX_digs (bs := digs a 4) (S := 100) (k := a) 4 0 0 [] (by simp) (by omega)
        have h2 := rawX_digs (bs := digs a 4) (S := 100) (k := b) 4 0 0 [] (by rw [e]; simp) (by omega)
        rw [h1] at h2
        simp only [Except.ok.injEq, Prod.mk.injEq] at h2
        omega
      by_cases hjB : j < B.length
      · have e1 : bs.set j y = B.set j y ++ digs (sumX B) 4 := by rw [← hbs, List.set_append_left _ _ hjB]
        rw [e1] at i1
        have hh := List.append_inj i1 (by rw [List.length_set]; omega)
        have hss := digs_inj hsB hsB' hh.2
        obtain ⟨z, hz⟩ : ∃ z, B[j]? = some z := ⟨B[j], List.getElem?_eq_getElem hjB⟩
        have hsp : B = B.take j ++ z :: B.drop (j + 1) := by
          conv => lhs; rw [← List.take_append_drop j B]
          congr 1
          rw [List.drop_eq_getElem_cons hjB, (List.getElem?_eq_some_iff.1 hz).2]
        have hsp' : B' = B.take j ++ y :: B.drop (j + 1) := by
          rw [← hh.1, List.set_eq_take_append_cons_drop, if_pos hjB]
        rw [hsp'] at hss
        have hzy := sumX_turn (by rw [← hsp]; exact hBall) hy (by rw [← hsp]; exact hss)
        apply hne
        rw [← hbs, List.getElem?_append_left hjB, hz, hzy]
      · have e1 : bs.set j y = B ++ (digs (sumX B) 4).set (j - B.length) y := by rw [← hbs, List.set_append_right _ _ (by omega)]
        rw [e1] at i1
        have hh := List.append_inj i1 (by omega)
        rw [← hh.1] at hh
        apply hne
        have h3 := congrArg (fun l => l[j - B.length]?) hh.2
        have hlt2 : j - B.length < (digs (sumX B) 4).length := by
          rw [digs_len]
          have : bs.length = B.length + 4 := by rw [← hbs, List.length_append, digs_len]
          omega
        simp only [List.getElem?_set_self hlt2] at h3
        rw [← hbs, List.getElem?_append_right (by omega)]
        exact h3.symm
end Go.Proofs.Ythcfgechifogeaa
