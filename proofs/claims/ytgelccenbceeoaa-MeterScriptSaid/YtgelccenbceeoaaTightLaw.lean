/- The plain law of MeterTight: what a script counts without budgets, and what becomes of it under some. No program in sight. -/
import Derived.Test.YtgelccenbceeoaaRef02
namespace Go.Proofs.Ytgelccenbceeoaa
open Go.RowKit
set_option linter.unusedSimpArgs false
set_option linter.unusedVariables false

/-- A call of a script. -/
structure Act where
  k : Int
  w : Int
  n : Int

def MS.does (m : MS) (x : Act) : Bool × MS :=
  if x.k % 3 = 0 then m.step (x.n % 1048576)
  else if x.k % 3 = 1 then m.hold (x.n % 1048576)
  else ((m.drop (x.n % 1048576)).1 || ((m.drop (x.n % 1048576)).2.rf == 0), (m.drop (x.n % 1048576)).2)

def MS.run : MS → List Act → Nat × MS
  | m, [] => (0, m)
  | m, x :: xs => if (m.does x).1 = true then ((MS.run (m.does x).2 xs).1 + 1, (MS.run (m.does x).2 xs).2) else (0, (m.does x).2)

theorem MS.run_cons (m : MS) (x : Act) (xs : List Act) : m.run (x :: xs) = if (m.does x).1 = true then ((MS.run (m.does x).2 xs).1 + 1, (MS.run (m.does x).2 xs).2) else (0, (m.does x).2) := rfl

theorem MS.ok_does {m : MS} (h : m.ok) (x : Act) : (m.does x).2.ok := by
  unfold MS.does
  split
  · exact MS.ok_step h _
  · split
    · exact MS.ok_hold h _
    · exact MS.ok_drop h _

theorem MS.ok_run : ∀ (xs : List Act) {m : MS}, m.ok → (m.run xs).2.ok
  | [], _, h => h
  | x :: xs, m, h => by
    unfold MS.run
    split
    · exact MS.ok_run xs (MS.ok_does h x)
    · exact MS.ok_does h x

theorem MS.run_le : ∀ (xs : List Act) (m : MS), (m.run xs).1 ≤ xs.length
  | [], _ => by simp [MS.run]
  | x :: xs, m => by
    unfold MS.run
    split
    · have := MS.run_le xs (m.does x).2; simp; omega
    · simp

/-- Steps, cells held, and the most cells: without a budget. -/
structure Free where
  s : Int
  c : Int
  p : Int

def Free.does (f : Free) (x : Act) : Free :=
  if x.k % 3 = 0 then { f with s := f.s + x.n % 1048576 }
  else if x.k % 3 = 1 then { f with c := f.c + x.n % 1048576, p := if f.p < f.c + x.n % 1048576 then f.c + x.n % 1048576 else f.p }
  else if f.c < x.n % 1048576 then f else { f with c := f.c - x.n % 1048576 }

def Free.run : Free → List Act → Free
  | f, [] => f
  | f, x :: xs => (f.does x).run xs

def Free.ok (f : Free) : Prop := 0 ≤ f.s ∧ 0 ≤ f.c ∧ f.c ≤ f.p
theorem Free.ok_does {f : Free} (h : f.ok) (x : Act) : (f.does x).ok ∧ f.s ≤ (f.does x).s ∧ f.p ≤ (f.does x).p ∧ (f.does x).s ≤ f.s + 1048575 ∧ (f.does x).p ≤ f.p + 1048575 := by
  unfold Free.ok at *
  have h1 : 0 ≤ x.n % 1048576 := Int.emod_nonneg _ (by omega)
  have h2 : x.n % 1048576 < 1048576 := Int.emod_lt_of_pos _ (by omega)
  unfold Free.does
  by_cases k0 : x.k % 3 = 0
  · rw [if_pos k0]; simp only; omega
  · rw [if_neg k0]
    by_cases k1 : x.k % 3 = 1
    · rw [if_pos k1]; simp only; omega
    · rw [if_neg k1]
      by_cases k2 : f.c < x.n % 1048576
      · rw [if_pos k2]; omega
      · rw [if_neg k2]; simp only; omega

theorem Free.ok_run : ∀ (xs : List Act) {f : Free}, f.ok → (f.run xs).ok ∧ f.s ≤ (f.run xs).s ∧ f.p ≤ (f.run xs).p ∧ (f.run xs).s ≤ f.s + 1048575 * xs.length ∧ (f.run xs).p ≤ f.p + 1048575 * xs.length
  | [], f, h => by simp only [Free.run, List.length_nil]; exact ⟨h, by omega, by omega, by omega, by omega⟩
  | x :: xs, f, h => by
    obtain ⟨h1, h2, h3, h4, h5⟩ := Free.ok_does h x
    obtain ⟨g1, g2, g3, g4, g5⟩ := Free.ok_run xs h1
    simp only [Free.run, List.length_cons]
    exact ⟨g1, by omega, by omega, by omega, by omega⟩

def MS.free (m : MS) : Free := ⟨m.sn, m.cn, m.cp⟩
theorem MS.free_ok {m : MS} (h : m.ok) : m.free.ok := by unfold MS.ok at h; unfold MS.free Free.ok; simp only; omega

/-- One call: it counts as without budgets, or a budget is passed. -/
theorem MS.does_cases {m : MS} (h : m.ok) (hr : m.rf = 0) (x : Act) :
    ((m.does x).1 = true ∧ (m.does x).2.rf = 0 ∧ (m.does x).2.free = m.free.does x ∧ (m.does x).2.sb = m.sb ∧ (m.does x).2.cb = m.cb ∧ (m.free.does x).s ≤ m.sb ∧ (m.free.does x).p ≤ m.cb) ∨
    ((m.does x).1 = false ∧ (m.does x).2.rf = 20 ∧ (m.does x).2.sn = m.sb ∧ (m.does x).2.cp = m.cp ∧ (m.does x).2.cn = m.cn ∧ m.sb < (m.free.does x).s) ∨
    ((m.does x).1 = false ∧ (m.does x).2.rf = 21 ∧ (m.does x).2.cp = m.cb ∧ (m.does x).2.cn = m.cb ∧ (m.does x).2.sn = m.sn ∧ m.cb < (m.free.does x).p) := by
  unfold MS.ok at h
  have h1 : 0 ≤ x.n % 1048576 := Int.emod_nonneg _ (by omega)
  by_cases k0 : x.k % 3 = 0
  · have e : m.does x = m.step (x.n % 1048576) := by unfold MS.does; rw [if_pos k0]
    have f : m.free.does x = { m.free with s := m.free.s + x.n % 1048576 } := by unfold Free.does; rw [if_pos k0]
    rw [e, f]
    unfold MS.step
    rw [if_neg (by omega)]
    by_cases hb : m.sb - m.sn < x.n % 1048576
    · rw [if_pos hb]
      refine .inr (.inl ⟨rfl, rfl, ?_, rfl, rfl, ?_⟩)
      · simp only [MS.addS]; omega
      · simp only [MS.free]; omega
    · rw [if_neg hb]
      refine .inl ⟨rfl, hr, rfl, rfl, rfl, ?_, ?_⟩ <;> (simp only [MS.free]; omega)
  · by_cases k1 : x.k % 3 = 1
    · have e : m.does x = m.hold (x.n % 1048576) := by unfold MS.does; rw [if_neg k0, if_pos k1]
      have f : m.free.does x = { m.free with c := m.free.c + x.n % 1048576, p := if m.free.p < m.free.c + x.n % 1048576 then m.free.c + x.n % 1048576 else m.free.p } := by unfold Free.does; rw [if_neg k0, if_pos k1]
      rw [e, f]
      unfold MS.hold
      rw [if_neg (by omega)]
      by_cases hb : m.cb - m.cn < x.n % 1048576
      · rw [if_pos hb]
        refine .inr (.inr ⟨rfl, rfl, ?_, ?_, rfl, ?_⟩)
        · simp only [MS.addC]; split <;> omega
        · simp only [MS.addC]; omega
        · simp only [MS.free]; omega
      · rw [if_neg hb]
        refine .inl ⟨rfl, hr, rfl, rfl, rfl, ?_, ?_⟩
        · simp only [MS.free]; omega
        · simp only [MS.free]; omega
    · have e : m.does x = ((m.drop (x.n % 1048576)).1 || ((m.drop (x.n % 1048576)).2.rf == 0), (m.drop (x.n % 1048576)).2) := by unfold MS.does; rw [if_neg k0, if_neg k1]
      have f : m.free.does x = if m.free.c < x.n % 1048576 then m.free else { m.free with c := m.free.c - x.n % 1048576 } := by unfold Free.does; rw [if_neg k0, if_neg k1]
      rw [e, f]
      unfold MS.drop
      by_cases hb : m.cn < x.n % 1048576
      · rw [if_pos (.inr hb), if_pos (show m.free.c < x.n % 1048576 from hb)]
        refine .inl ⟨by simp [hr], hr, rfl, rfl, rfl, ?_, ?_⟩ <;> (simp only [MS.free]; omega)
      · rw [if_neg (by omega), if_neg (show ¬ m.free.c < x.n % 1048576 from hb)]
        refine .inl ⟨by simp, hr, rfl, rfl, rfl, ?_, ?_⟩ <;> (simp only [MS.free]; omega)

theorem MS.run_fits : ∀ (xs : List Act) {m : MS}, m.ok → m.rf = 0 → (m.free.run xs).s ≤ m.sb → (m.free.run xs).p ≤ m.cb →
    (m.run xs).1 = xs.length ∧ (m.run xs).2.rf = 0 ∧ (m.run xs).2.free = m.free.run xs
  | [], m, _, hr, _, _ => ⟨rfl, hr, rfl⟩
  | x :: xs, m, h, hr, hs, hp => by
    have hf := Free.ok_does (MS.free_ok h) x
    have hg := Free.ok_run xs hf.1
    simp only [Free.run] at hs hp ⊢
    rcases MS.does_cases h hr x with ⟨a, b, c, d, e, _, _⟩ | ⟨_, _, _, _, _, c⟩ | ⟨_, _, _, _, _, c⟩
    · unfold MS.run
      rw [if_pos a]
      have := MS.run_fits xs (MS.ok_does h x) b (by rw [c, d]; exact hs) (by rw [c, e]; exact hp)
      rw [c] at this
      exact ⟨by simp [this.1], this.2⟩
    · omega
    · omega

theorem MS.run_steps : ∀ (xs : List Act) {m : MS}, m.ok → m.rf = 0 → m.sb < (m.free.run xs).s → (m.free.run xs).p ≤ m.cb →
    (m.run xs).1 < xs.length ∧ (m.run xs).2.rf = 20 ∧ (m.run xs).2.sn = m.sb ∧ (m.run xs).2.cp ≤ (m.free.run xs).p
  | [], m, h, _, hs, _ => by unfold MS.ok at h; simp only [Free.run, MS.free] at hs; omega
  | x :: xs, m, h, hr, hs, hp => by
    have hf := Free.ok_does (MS.free_ok h) x
    have hg := Free.ok_run xs hf.1
    simp only [Free.run] at hs hp ⊢
    rcases MS.does_cases h hr x with ⟨a, b, c, d, e, _, _⟩ | ⟨a, b, c, d, _, _⟩ | ⟨_, _, _, _, _, c⟩
    · unfold MS.run
      rw [if_pos a]
      have := MS.run_steps xs (MS.ok_does h x) b (by rw [c, d]; exact hs) (by rw [c, e]; exact hp)
      rw [c, d] at this
      exact ⟨by simp only [List.length_cons]; omega, this.2⟩
    · unfold MS.run
      rw [if_neg (by simp [a])]
      refine ⟨by simp, b, c, ?_⟩
      rw [d]
      have : m.free.p = m.cp := rfl
      omega
    · omega

theorem MS.run_cells : ∀ (xs : List Act) {m : MS}, m.ok → m.rf = 0 → (m.free.run xs).s ≤ m.sb → m.cb < (m.free.run xs).p →
    (m.run xs).1 < xs.length ∧ (m.run xs).2.rf = 21 ∧ (m.run xs).2.cp = m.cb ∧ (m.run xs).2.cn = m.cb ∧ (m.run xs).2.sn ≤ (m.free.run xs).s
  | [], m, h, _, _, hp => by unfold MS.ok at h; simp only [Free.run, MS.free] at hp; omega
  | x :: xs, m, h, hr, hs, hp => by
    have hf := Free.ok_does (MS.free_ok h) x
    have hg := Free.ok_run xs hf.1
    simp only [Free.run] at hs hp ⊢
    rcases MS.does_cases h hr x with ⟨a, b, c, d, e, _, _⟩ | ⟨a, b, c, d, _, _⟩ | ⟨a, b, c, d, e, _⟩
    · unfold MS.run
      rw [if_pos a]
      have := MS.run_cells xs (MS.ok_does h x) b (by rw [c, d]; exact hs) (by rw [c, e]; exact hp)
      rw [c, e] at this
      exact ⟨by simp only [List.length_cons]; omega, this.2⟩
    · omega
    · unfold MS.run
      rw [if_neg (by simp [a])]
      refine ⟨by simp, b, c, d, ?_⟩
      rw [e]
      have : m.free.s = m.sn := rfl
      omega

/-- All that the law asks of a script of at most 2^20 calls. -/
theorem tight (xs : List Act) (hl : xs.length ≤ 1048576) : ∃ mm : MS, (MS.new 4611686018427387904 4611686018427387904).run xs = (xs.length, mm) ∧ 0 ≤ mm.sn ∧ mm.sn ≤ 1099511627776 ∧ 0 ≤ mm.cp ∧ mm.cp ≤ 1099511627776 ∧
    (∀ a b : Int, 0 ≤ a → a ≤ 1099511627776 → 0 ≤ b → b ≤ 1099511627776 → ∃ mx : MS, (MS.new (mm.sn + a) (mm.cp + b)).run xs = (xs.length, mx) ∧ mx.sn = mm.sn ∧ mx.cp = mm.cp ∧ mx.cn = mm.cn ∧ mx.rf = 0) ∧
    (∀ b c : Int, 0 ≤ b → b < mm.sn → mm.cp ≤ c → c ≤ 4398046511104 → ∃ (n : Nat) (mx : MS), (MS.new b c).run xs = (n, mx) ∧ n < xs.length ∧ mx.rf = 20 ∧ mx.sn = b ∧ mx.cp ≤ mm.cp) ∧
    (∀ b c : Int, 0 ≤ c → c < mm.cp → mm.sn ≤ b → b ≤ 4398046511104 → ∃ (n : Nat) (mx : MS), (MS.new b c).run xs = (n, mx) ∧ n < xs.length ∧ mx.rf = 21 ∧ mx.cp = c ∧ mx.cn = c ∧ mx.sn ≤ mm.sn) := by
  have h0 : (⟨0, 0, 0⟩ : Free).ok := by unfold Free.ok; simp only; omega
  obtain ⟨g1, g2, g3, g4, g5⟩ := Free.ok_run xs h0
  have hf : ∀ b c, (MS.new b c).free = ⟨0, 0, 0⟩ := fun _ _ => rfl
  have hb : ∀ b c, (MS.new b c).sb = b := fun _ _ => rfl
  have hc : ∀ b c, (MS.new b c).cb = c := fun _ _ => rfl
  generalize hF : (⟨0, 0, 0⟩ : Free).run xs = F at *
  simp only at g2 g3 g4 g5
  have k1 := MS.run_fits xs (m := MS.new 4611686018427387904 4611686018427387904) (MS.ok_new (by omega) (by omega) (by omega) (by omega)) rfl (by rw [hf, hF, hb]; omega) (by rw [hf, hF, hc]; omega)
  rw [hf, hF] at k1
  obtain ⟨e1, e2, e3⟩ := k1
  generalize (MS.new 4611686018427387904 4611686018427387904).run xs = r at *
  obtain ⟨n, mm⟩ := r
  simp only at e1 e2 e3
  subst e1
  have es : mm.sn = F.s := by rw [← e3]; rfl
  have ec : mm.cn = F.c := by rw [← e3]; rfl
  have ep : mm.cp = F.p := by rw [← e3]; rfl
  refine ⟨mm, rfl, by omega, by omega, by omega, by omega, ?_, ?_, ?_⟩
  · intro a b ha ha' hb1 hb'
    have k := MS.run_fits xs (m := MS.new (mm.sn + a) (mm.cp + b)) (MS.ok_new (by omega) (by omega) (by omega) (by omega)) rfl (by rw [hf, hF, hb]; omega) (by rw [hf, hF, hc]; omega)
    rw [hf, hF] at k
    obtain ⟨f1, f2, f3⟩ := k
    refine ⟨_, Prod.ext f1 rfl, ?_, ?_, ?_, f2⟩
    · exact (congrArg Free.s f3).trans es.symm
    · exact (congrArg Free.p f3).trans ep.symm
    · exact (congrArg Free.c f3).trans ec.symm
  · intro b c h1 h2 h3 h4
    have k := MS.run_steps xs (m := MS.new b c) (MS.ok_new (by omega) (by omega) (by omega) (by omega)) rfl (by rw [hf, hF, hb]; omega) (by rw [hf, hF, hc]; omega)
    rw [hf, hF, hb] at k
    exact ⟨_, _, rfl, k.1, k.2.1, k.2.2.1, by have := k.2.2.2; omega⟩
  · intro b c h1 h2 h3 h4
    have k := MS.run_cells xs (m := MS.new b c) (MS.ok_new (by omega) (by omega) (by omega) (by omega)) rfl (by rw [hf, hF, hb]; omega) (by rw [hf, hF, hc]; omega)
    rw [hf, hF, hc] at k
    exact ⟨_, _, rfl, k.1, k.2.1, k.2.2.1, k.2.2.2.1, by have := k.2.2.2.2; omega⟩

end Go.Proofs.Ytgelccenbceeoaa
