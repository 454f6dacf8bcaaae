/- What both Slabs answer at any lists; lines that were copied, each into a row of its own. -/
import Derived.Test.YtgelccenbceeoaaRefSlabs
import Derived.Test.YtgelccenbceeoaaLists
import Derived.Test.YtgelccenbceeoaaWalkColumnParts
namespace Go.Proofs.Ytgelccenbceeoaa
open Go.RowKit
set_option linter.unusedSimpArgs false
set_option linter.unusedVariables false

theorem slabsAll_same : ∀ (ps : List ParX) (ls ls' : List LinesX) (d : Int) (i : Nat), ls'.map (fun x => x.l) = ls.map (fun x => x.l) → slabsAll d i ps ls' = slabsAll d i ps ls
  | [], _, _, _, _, _ => by simp [slabsAll]
  | _ :: _, [], [], _, _, _ => rfl
  | _ :: _, [], _ :: _, _, _, h => by simp at h
  | _ :: _, _ :: _, [], _, _, h => by simp at h
  | p :: ps, x :: ls, y :: ls', d, i, h => by
    simp only [List.map_cons, List.cons.injEq] at h
    simp only [slabsAll]
    rw [h.1, slabsAll_same ps ls ls' _ _ h.2]

/-- What Slabs answers: the slabs, the fault's number, the meter. -/
def outs (ps : List ParX) (ls : List LinesX) (m : MS) : List Slab × Int × MS :=
  if ps.length = ls.length then (if (chargeN m (slabsAll 0 0 ps ls).length).1 = true then slabsAll 0 0 ps ls else [], if (chargeN m (slabsAll 0 0 ps ls).length).1 = true then 0 else (chargeN m (slabsAll 0 0 ps ls).length).2.rf, (chargeN m (slabsAll 0 0 ps ls).length).2)
  else ([], 1, m)

theorem outs_same (ps : List ParX) (ls ls' : List LinesX) (m : MS) (h : ls'.map (fun x => x.l) = ls.map (fun x => x.l)) : outs ps ls' m = outs ps ls m := by
  have hl : ls'.length = ls.length := by have := congrArg List.length h; simpa using this
  unfold outs
  rw [slabsAll_same ps ls ls' 0 0 h, hl]

def SOutPost (g : Nat) (R : List Slab × Int × MS) (w : World) (e : Ending) (w' : World) : Prop :=
  ∃ v : Value, e = .returned (.tuple #[v, .agg #[.int .i64 R.2.1, .int .i64 0]]) ∧ w'.ownsRow w.heap.size 51 9 v R.1.length (R.1.flatMap Slab.row) ∧ IsM w' g R.2.2 ∧ Keep [g] w w'
def RSOutPost (g : Nat) (R : List Slab × Int × MS) (w : World) (e : Ending) (w' : World) : Prop :=
  ∃ (v : Value) (r : RS), e = .returned (.tuple #[v, .agg #[.int .i64 R.2.1, .int .i64 0]]) ∧ w'.ownsRow w.heap.size 51 9 v R.1.length (R.1.flatMap Slab.row) ∧ IsR w' g r ∧ Like R.2.2 r ∧ Keep [g] w w'

theorem totalN_bounds {ps : List ParX} {ls : List LinesX} (ht : totalN ps ls ≤ 2147483647) : (slabsAll 0 0 ps ls).length ≤ 2147483647 ∧ ps.length ≤ 2147483647 ∧ ls.length ≤ 2147483647 ∧ ∀ x ∈ ls, x.l.length ≤ 2147483647 := by
  have q5 := slabsAll_len ps ls 0 0
  have q7 : sumN (fun x : LinesX => x.l.length) ls + ps.length + ls.length ≤ totalN ps ls := by unfold totalN; omega
  refine ⟨by omega, by omega, by omega, fun x hx => ?_⟩
  have := sumN_mem (fun x : LinesX => x.l.length) ls x hx
  omega

theorem slabs_out (g : Nat) (m0 : MS) (A B : Option Addr) (c d : Nat) (ps : List ParX) (ls : List LinesX) (w : World) (hg : IsM w g m0) (ok : m0.ok) (key : ∀ W, Keep [g] w W → Laid W A B c d ps ls) (ht : totalN ps ls ≤ 2147483647) {n m : Nat} (hn : ps.length = n) (hm : ls.length = m) :
    Calls Try.prog 38 #[.pointer (some ⟨g, 0, none⟩), .slice A n c, .slice B m d] w fun e w' => SOutPost g (outs ps ls m0) w e w' := by
  subst hn hm
  obtain ⟨h1, h2, h3, h4⟩ := totalN_bounds ht
  by_cases hlen : ps.length = ls.length
  · unfold outs
    rw [if_pos hlen]
    refine (slabs_any g m0 A B c d ps ls w hg ok (fun W K => (key W K).p) (fun W K => (key W K).l) (fun W K => (key W K).x) hlen h1 h2 h4).mono ?_
    rintro e w' ⟨v, he, O, M, K⟩
    exact ⟨v, he, O, M, K⟩
  · unfold outs
    rw [if_neg hlen]
    refine (slabs_bad g A B ps.length c ls.length d w hlen (by omega) (by omega)).mono ?_
    rintro e w' ⟨he, K⟩
    exact ⟨_, he, World.ownsRow_nil _ _ _ _, hg.keep K (by simp), K.mono (by simp)⟩

theorem rslabs_out (g : Nat) (m0 : MS) (r0 : RS) (A B : Option Addr) (c d : Nat) (ps : List ParX) (ls : List LinesX) (w : World) (hg : IsR w g r0) (hL : Like m0 r0) (ok : m0.ok) (key : ∀ W, Keep [g] w W → Laid W A B c d ps ls) (ht : totalN ps ls ≤ 2147483647) :
    Calls Try.prog 60 #[.pointer (some ⟨g, 0, none⟩), .slice A ps.length c, .slice B ls.length d] w fun e w' => RSOutPost g (outs ps ls m0) w e w' := by
  obtain ⟨h1, h2, h3, h4⟩ := totalN_bounds ht
  by_cases hlen : ps.length = ls.length
  · unfold outs
    rw [if_pos hlen]
    refine (rslabs_any g m0 r0 A B c d ps ls w hg hL ok (fun W K => (key W K).p) (fun W K => (key W K).l) (fun W K => (key W K).x) hlen h1 h2 h4).mono ?_
    rintro e w' ⟨v, r, he, O, M, L, K⟩
    exact ⟨v, r, he, O, M, L, K⟩
  · unfold outs
    rw [if_neg hlen]
    refine (rslabs_bad g A B ps.length c ls.length d w hlen (by omega) (by omega)).mono ?_
    rintro e w' ⟨he, K⟩
    exact ⟨_, r0, he, World.ownsRow_nil _ _ _ _, hg.keep K (by simp), hL, K.mono (by simp)⟩

theorem own_mono {w : World} {b b' : Nat} {e : TypeId} {size n : Nat} {v : Value} {xs : List Value} (h : w.ownsRow b e size v n xs) (hb : b' ≤ b) : w.ownsRow b' e size v n xs := by
  obtain ⟨h1, h2⟩ := h
  refine ⟨h1, ?_⟩
  rcases h2 with h2 | ⟨g, cap, cur, hv, hg, rest⟩
  · exact .inl h2
  · exact .inr ⟨g, cap, cur, hv, Nat.le_trans hb hg, rest⟩
theorem own_formN {w : World} {b : Nat} {e : TypeId} {size n : Nat} {v : Value} {xs : List Value} (h : w.ownsRow b e size v n xs) (hn : 0 < n) : ∃ g cap, v = .slice (some ⟨g, 0, none⟩) n cap ∧ n ≤ cap ∧ b ≤ g ∧ cap ≤ 9223372036854775807 := by
  rcases h.2 with ⟨_, h'⟩ | ⟨g', cap', cur, h', hb, hh, hn', hm, _⟩
  · omega
  · exact ⟨g', cap', h', hn', hb, hm⟩

/-- A paragraph, a line that marks an end. -/
def markPar : ParX := ⟨none, 0, 0, 0, 0, 0, 0, -77, 0⟩
def markLine : LineX := ⟨-77, 0, 0, 0, 0, 0, 0, 0, 0, false, false, false, 0, 0⟩

/-- A list of lines in a row of its own, a mark behind it. -/
structure Own1 where
  g : Nat
  cap : Nat
  l : List LineX
def Own1.row (o : Own1) : List Value := [.slice (some ⟨o.g, 0, none⟩) o.l.length o.cap]
def Own1.x (o : Own1) : LinesX := ⟨some ⟨o.g, 0, none⟩, o.cap, o.l⟩
theorem Own1.row_len (o : Own1) : o.row.length = 1 := rfl

structure Copies (B : Nat) (w : World) (os : List Own1) : Prop where
  own : ∀ o ∈ os, w.ownsRow B 92 14 (.slice (some ⟨o.g, 0, none⟩) (o.l.length + 1) o.cap) (o.l.length + 1) ((o.l ++ [markLine]).flatMap LineX.row)
  up : os.Pairwise (fun a b => a.g < b.g)

theorem Copies.keep {B : Nat} {w w' : World} {os : List Own1} {S : List Nat} (h : Copies B w os) (k : Keep S w w') (hS : ∀ b ∈ S, ∀ o ∈ os, b ≠ o.g) : Copies B w' os :=
  { h with own := fun o ho => own_keep (h.own o ho) k (fun b hb e => hS b hb o ho (by simpa [Value.ownBlock] using e)) }

theorem Copies.blk {B : Nat} {w : World} {os : List Own1} (h : Copies B w os) {o : Own1} (ho : o ∈ os) : ∃ cur, w.heap[o.g]? = some (.cells cur 92 (0, 0)) ∧ B ≤ o.g ∧ o.l.length + 1 ≤ o.cap ∧ cur.size = o.cap * 14 ∧ o.cap ≤ 9223372036854775807 ∧ cur.toList.take ((o.l.length + 1) * 14) = (o.l ++ [markLine]).flatMap LineX.row := by
  rcases (h.own o ho).2 with ⟨h', _⟩ | ⟨g', cap', cur, h', hb, hh, hn', hm, hs, ht⟩
  · simp at h'
  · simp only [Value.slice.injEq, Option.some.injEq, Addr.mk.injEq, and_true, true_and] at h'
    obtain ⟨rfl, rfl⟩ := h'
    exact ⟨cur, hh, hb, hn', hs, hm, ht⟩

/-- A row of another type is none of these. -/
theorem Copies.apart {B b : Nat} {w : World} {os : List Own1} (h : Copies B w os) {e : TypeId} {size n : Nat} {v : Value} {xs : List Value} (O : w.ownsRow b e size v n xs) (he : e ≠ 92) : ∀ k ∈ v.ownBlock.toList, ∀ o ∈ os, k ≠ o.g := fun k hk o ho e' => by
  obtain ⟨cur, hc, _⟩ := h.blk ho
  have := own_ne O hc he
  simp at hk
  exact this (by rw [hk, e'])

theorem Copies.snoc {B : Nat} {w : World} {os : List Own1} (h : Copies B w os) (o : Own1) (ho : w.ownsRow B 92 14 (.slice (some ⟨o.g, 0, none⟩) (o.l.length + 1) o.cap) (o.l.length + 1) ((o.l ++ [markLine]).flatMap LineX.row)) (hu : ∀ a ∈ os, a.g < o.g) : Copies B w (os ++ [o]) where
  own := fun a ha => by
    rcases List.mem_append.1 ha with ha | ha
    · exact h.own a ha
    · obtain rfl : a = o := by simpa using ha
      exact ho
  up := by
    rw [List.pairwise_append]
    exact ⟨h.up, by simp, fun a ha b hb => by
      have hb' : b = o := by simpa using hb
      rw [hb']
      exact hu a ha⟩

/-- Where a call of Slabs leaves its answer and its fault. -/
def SlabOut (g : Nat) (R : List Slab × Int × MS) (W : World) (v b : Value) (wc : World) : Prop :=
  ∃ bb : Nat, b = .pointer (some ⟨bb, 0, none⟩) ∧ W.heap.size ≤ bb ∧ wc.heap[bb]? = some (.cells #[.int .i64 R.2.1, .int .i64 0] 59 (0, 0)) ∧ wc.ownsRow W.heap.size 51 9 v R.1.length (R.1.flatMap Slab.row) ∧ IsM wc g R.2.2 ∧ Keep [g] W wc

theorem SlabOut.after {g : Nat} {R : List Slab × Int × MS} {W w5 : World} {v : Value} (O : w5.ownsRow W.drew.heap.size 51 9 v R.1.length (R.1.flatMap Slab.row)) (M : IsM w5 g R.2.2) (K : Keep [g] W.drew w5) :
    SlabOut g R W v (.pointer (some ⟨w5.heap.size, 0, none⟩)) (w5.alloc (.cells #[.int .i64 R.2.1, .int .i64 0] 59)) :=
  ⟨_, rfl, K.size, blk_new _ _, O.alloc _, blk_alloc M _, ((Keep.refl [g] W).drew.trans K).alloc _⟩

theorem SlabOut.before {g : Nat} {R : List Slab × Int × MS} {W w5 : World} {v : Value} (O : w5.ownsRow (W.alloc (.cells #[.int .i64 0, .int .i64 0] 59)).drew.heap.size 51 9 v R.1.length (R.1.flatMap Slab.row)) (M : IsM w5 g R.2.2) (K : Keep [g] (W.alloc (.cells #[.int .i64 0, .int .i64 0] 59)).drew w5) (hg : g < W.heap.size) :
    SlabOut g R W v (.pointer (some ⟨W.heap.size, 0, none⟩)) ((w5.setCell ⟨W.heap.size, 0, none⟩ (.int .i64 R.2.1)).setCell ⟨W.heap.size, 1, none⟩ (.int .i64 0)) := by
  have hb : ∀ k, v.ownBlock = some k → W.heap.size < k := fun k hk => by have := (own_base O k hk).1; simp at this; omega
  refine ⟨_, rfl, Nat.le_refl _, ?_, ?_, ?_, ?_⟩
  · exact (blk_set (blk_set (K.blk (blk_drew (blk_new W _)) (by simp; omega)) 0 _) 1 _).trans (by simp)
  · refine own_keep (own_mono O (by simp)) (((Keep.refl [W.heap.size] _).set (.inl (by simp)) _).set (.inl (by simp)) _) (fun b hb' e => ?_)
    simp at hb'
    subst hb'
    have := hb _ e.symm
    omega
  · exact blk_far (blk_far M (by simp; omega) _) (by simp; omega) _
  · exact ((((Keep.refl [g] W).alloc _).drew.trans K).set (.inr (Nat.le_refl _)) _).set (.inr (Nat.le_refl _)) _

end Go.Proofs.Ytgelccenbceeoaa
