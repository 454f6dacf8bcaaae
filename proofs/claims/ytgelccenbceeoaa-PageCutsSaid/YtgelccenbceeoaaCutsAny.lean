/- Cuts at any height, the reference beside it; gauge; copy of a list of slabs. -/
import Derived.Test.YtgelccenbceeoaaRefCuts
import Derived.Test.YtgelccenbceeoaaLists
import Derived.Laws.CopyRow
import Derived.Laws.IdiomCopy
namespace Go.Proofs.Ytgelccenbceeoaa
open Go.RowKit
set_option linter.unusedSimpArgs false
set_option linter.unusedVariables false

/-- What Cuts answers: the pages, the fault's number, the meter. -/
def outc (l : List Slab) (h : Int) (m : MS) : List CutX × Int × MS :=
  if h < 1 ∨ 536870912 < h then ([], 180, m) else (if (cutsAll l h m).1 = true then (cutsAll l h m).2.1 else [], if (cutsAll l h m).1 = true then 0 else (cutsAll l h m).2.2.rf, (cutsAll l h m).2.2)

def OutPost (g : Nat) (R : List CutX × Int × MS) (w : World) (e : Ending) (w' : World) : Prop :=
  ∃ v : Value, e = .returned (.tuple #[v, .agg #[.int .i64 R.2.1, .int .i64 0]]) ∧ w'.ownsRow w.heap.size 75 4 v R.1.length (R.1.flatMap CutX.row) ∧ IsM w' g R.2.2 ∧ Keep [g] w w'
def ROutPost (g : Nat) (R : List CutX × Int × MS) (w : World) (e : Ending) (w' : World) : Prop :=
  ∃ (v : Value) (r : RS), e = .returned (.tuple #[v, .agg #[.int .i64 R.2.1, .int .i64 0]]) ∧ w'.ownsRow w.heap.size 75 4 v R.1.length (R.1.flatMap CutX.row) ∧ IsR w' g r ∧ Like R.2.2 r ∧ Keep [g] w w'

theorem cuts_out (g : Nat) (m0 : MS) (A : Option Addr) (c : Nat) (l : List Slab) (h : Int) (w : World) (hg : IsM w g m0) (ok : m0.ok) (hr : ∀ W, Keep [g] w W → Rd Slab.row 9 W A l) (hl : l.length ≤ 1099511627776) (hc : l.length ≤ c) (hof : OfIn l) (N : Nat) (hN : l.length = N) :
    Calls Try.prog 44 #[.pointer (some ⟨g, 0, none⟩), .slice A N c, .int .i64 h] w fun e w' => OutPost g (outc l h m0) w e w' := by
  by_cases hh : h < 1 ∨ 536870912 < h
  · have ho : outc l h m0 = ([], 180, m0) := by unfold outc; rw [if_pos hh]
    rw [ho]
    refine (cuts_bad g A N c h w hh).mono ?_
    rintro e w' ⟨he, K⟩
    exact ⟨_, he, World.ownsRow_nil _ _ _ _, hg.keep K (by simp), K.mono (by simp)⟩
  · have ho : outc l h m0 = (if (cutsAll l h m0).1 = true then (cutsAll l h m0).2.1 else [], if (cutsAll l h m0).1 = true then 0 else (cutsAll l h m0).2.2.rf, (cutsAll l h m0).2.2) := by unfold outc; rw [if_neg hh]
    rw [ho]
    refine (cuts_any g m0 A c l h w hg ok hr hl hc hof (by omega) (by omega) N hN).mono ?_
    rintro e w' ⟨v, he, O, M, K⟩
    exact ⟨v, he, O, M, K⟩

theorem rcuts_out (g : Nat) (m0 : MS) (r0 : RS) (A : Option Addr) (c : Nat) (l : List Slab) (h : Int) (w : World) (hg : IsR w g r0) (hL : Like m0 r0) (ok : m0.ok) (hr : ∀ W, Keep [g] w W → Rd Slab.row 9 W A l) (hl : l.length ≤ 1099511627776) (hc : l.length ≤ c) (hof : OfIn l) (N : Nat) (hN : l.length = N) :
    Calls Try.prog 45 #[.pointer (some ⟨g, 0, none⟩), .slice A N c, .int .i64 h] w fun e w' => ROutPost g (outc l h m0) w e w' := by
  by_cases hh : h < 1 ∨ 536870912 < h
  · have ho : outc l h m0 = ([], 180, m0) := by unfold outc; rw [if_pos hh]
    rw [ho]
    refine (rcuts_bad g A N c h w hh).mono ?_
    rintro e w' ⟨he, K⟩
    exact ⟨_, r0, he, World.ownsRow_nil _ _ _ _, hg.keep K (by simp), hL, K.mono (by simp)⟩
  · have ho : outc l h m0 = (if (cutsAll l h m0).1 = true then (cutsAll l h m0).2.1 else [], if (cutsAll l h m0).1 = true then 0 else (cutsAll l h m0).2.2.rf, (cutsAll l h m0).2.2) := by unfold outc; rw [if_neg hh]
    rw [ho]
    refine (rcuts_any g m0 r0 A c l h w hg hL ok hr hl hc hof (by omega) (by omega) N hN).mono ?_
    rintro e w' ⟨v, r, he, O, M, L, K⟩
    exact ⟨v, r, he, O, M, L, K⟩

set_option maxHeartbeats 800000 in
theorem gauge_like (g q : Nat) (m : MS) (r : RS) (w : World) (hg : IsM w g m) (hq : IsR w q r) (hL : Like m r) :
    Calls Try.prog 47 #[.pointer (some ⟨g, 0, none⟩), .pointer (some ⟨q, 0, none⟩)] w fun e w' => e = .returned (.bool true) ∧ w = w' := by
  obtain ⟨h1, h2, h3, h4, h5, h6⟩ := hL
  have H3 := hid h3
  have H4 := hid h4
  have H5 := hid h5
  have H6 := hid h6
  clear h1 h2 h3 h4 h5 h6
  go_enter Try.func47, Try.ntmps47
  go_wp2_with fail
  refine (steps_any g m _ hg).mono ?_
  rintro e w' ⟨rfl, rfl⟩
  go_wp2_with fail
  refine (rsteps_any q r _ hq).mono ?_
  rintro e w' ⟨rfl, rfl⟩
  rw [H3.out]
  go_wp2_with fail
  refine (held_any g m _ hg).mono ?_
  rintro e w' ⟨rfl, rfl⟩
  go_wp2_with fail
  refine (rheld_any q r _ hq).mono ?_
  rintro e w' ⟨rfl, rfl⟩
  rw [H4.out]
  go_wp2_with fail
  refine (peak_any g m _ hg).mono ?_
  rintro e w' ⟨rfl, rfl⟩
  go_wp2_with fail
  refine (rpeak_any q r _ hq).mono ?_
  rintro e w' ⟨rfl, rfl⟩
  rw [H5.out]
  go_wp2_with fail
  refine (refused_any g m _ hg).mono ?_
  rintro e w' ⟨rfl, rfl⟩
  go_wp2_with fail
  refine (rrefused_any q r _ hq).mono ?_
  rintro e w' ⟨rfl, rfl⟩
  rw [H6.out]
  go_wp2
  go_ret
  exact ⟨rfl, rfl⟩

theorem run_copy_rows {P : Program} (w : World) (dT sT ty elem : TypeId) (g dLen dCap : Nat) (a : Addr) (sLen sCap size m : Nat) (cur : Array Value) (t : TypeId) (cs : List Value)
    (hu : P.underlying dT = some (.slice elem)) (hs : (P.info? elem).map (·.size) = some size) (hm : Nat.min sLen dLen = m)
    (hg : w.heap[g]? = some (.cells cur t (0, 0))) (hn : cs.length = m * size)
    (hsrc : ∀ j v, cs[j]? = some v → w.cell? (a.add j) = some v) (hfit : cs.length ≤ cur.size) (h1 : ∀ v ∈ cs, v.oneCell' = true) :
    (Builtin.copy_ #[dT, sT] ty #[.slice (some ⟨g, 0, none⟩) dLen dCap, .slice (some a) sLen sCap]).run P w =
      .ok (goInt m) (w.setRow g (cs ++ cur.toList.drop cs.length).toArray) := by
  have hl := run_loadCells_list (P := P) w a cs hsrc
  have hst := run_storeCells_at P g 0 t cs 0 cur w hg (by simpa using hfit) h1
  rw [hn] at hl
  cases hq : P.info? elem with
  | none => simp [hq] at hs
  | some i =>
    have hi : i.size = size := by simpa [hq] using hs
    simp [Builtin.copy_, run_underlying hu, Builtin.lenOf, Builtin.firstCells, sizeOf, typeInfo, hq, hi, hm, hl, hst]

theorem run_copy_zero {P : Program} (w : World) (dT sT ty elem : TypeId) (d a : Option Addr) (dLen dCap sCap size : Nat) (hu : P.underlying dT = some (.slice elem)) (hs : (P.info? elem).map (·.size) = some size) :
    (Builtin.copy_ #[dT, sT] ty #[.slice d dLen dCap, .slice a 0 sCap]).run P w = .ok (goInt 0) w := by
  cases hq : P.info? elem with
  | none => simp [hq] at hs
  | some i =>
    have hl : ∀ (x : Addr), (loadCells x 0).run P w = .ok #[] w := fun x => by simpa using run_loadCells_list (P := P) w x [] (by simp)
    cases d <;> cases a <;> simp [Builtin.copy_, run_underlying hu, Builtin.lenOf, Builtin.firstCells, sizeOf, typeInfo, hq, storeCells, hl]

/-- copy(own, l), own a block known whole, l a list that is read. -/
theorem copy_list {α : Type} {enc : α → List Value} {P : Program} {ops : Array Oper} {rest : List Oper} {o : Oper} {a : Act} {Q : Exit → Act → World → Prop} {W : World} (hgd : o.guard = none) (d s : Operand) (t elem : TypeId) (size : Nat)
    (ho : o.op = .call { callee := .builtin .copy, args := #[d, s], argTypes := #[t, t] })
    (hu : P.underlying t = some (.slice elem)) (hs : (P.info? elem).map (·.size) = some size)
    {g dLen dCap sCap n : Nat} {A : Option Addr} {ls : List α} (hd : a.eval d = .slice (some ⟨g, 0, none⟩) dLen dCap) (hx : a.eval s = .slice A n sCap) (hn : ls.length = n) (hle : n ≤ dLen)
    {cur : Array Value} {T : TypeId} (hg : W.heap[g]? = some (.cells cur T (0, 0))) (hr : Rd enc size W A ls) (hsz : ∀ y, (enc y).length = size) (h0 : 0 < size) (h1 : ∀ y, ∀ u ∈ enc y, u.oneCell' = true) (hfit : n * size ≤ cur.size)
    (h : ∀ w', w'.heap[g]? = some (.cells (ls.flatMap enc ++ cur.toList.drop (n * size)).toArray T (0, 0)) → Keep [g] W w' → wpList P ops Q rest (a.put o.dst (goInt n)) w') :
    wpList P ops Q (o :: rest) a W := by
  subst hn
  have hkeep : ∀ cs, Keep [g] W (W.setRow g cs) := fun cs => ⟨rfl, rfl, rfl, by simp [World.setRow], fun k hk hn => setRow_other W g k cs (by simpa using hn)⟩
  refine wpList_plain hgd fun K hK => ?_
  cases ls with
  | nil =>
    have hrun := run_copy_zero (P := P) W t t o.type elem (some ⟨g, 0, none⟩) A dLen dCap sCap size hu hs
    unfold Oper.wp execOp
    simp only [List.length_nil] at hx
    simp only [ho, resolve, invoke, builtin, Sem.run_bind, Sem.run_pure, Result.andThen_ok, List.map_toArray, List.map_cons, List.map_nil, hd, hx, hrun]
    exact hK _ _ (h W (by simpa using hg) (Keep.refl _ _))
  | cons x xs =>
    obtain ⟨ad, hA, _⟩ := hr 0 x rfl
    subst hA
    have hrun := run_copy_rows (P := P) W t t o.type elem g dLen dCap ad (x :: xs).length sCap size (x :: xs).length cur T ((x :: xs).flatMap enc) hu hs (Nat.min_eq_left hle) hg (flat_len hsz _) (fun j u hj => hr.cells hsz h0 j u hj) (by rw [flat_len hsz]; exact hfit)
      (fun u hu => by obtain ⟨y, _, hy⟩ := List.mem_flatMap.1 hu; exact h1 y u hy)
    rw [flat_len hsz] at hrun
    unfold Oper.wp execOp
    simp only [ho, resolve, invoke, builtin, Sem.run_bind, Sem.run_pure, Result.andThen_ok, List.map_toArray, List.map_cons, List.map_nil, hd, hx, hrun]
    exact hK _ _ (h _ (setRow_heap W g _ _ T _ hg) (hkeep _))

end Go.Proofs.Ytgelccenbceeoaa
