/- Fault: what the listed variables give the walks; a world that has them. -/
import Derived.Test.YtihiffemeodfhaaDoorFtWalks
import Derived.Test.YtihiffemeodfhaaDoorTie
import Derived.Stop.LaidErr
import Derived.LaidHandle
import Derived.LaidSub
import Derived.Lay
import Derived.MakeChecks
namespace Go.Proofs.YtihiffemeodfhaaDoor
open Go.RowKit Go.ChangeShapes Go.WideShapes
set_option linter.unusedSimpArgs false
set_option linter.unusedVariables false
set_option maxRecDepth 100000

theorem laid_sent {P : Program} {n0 nm : String} {text0 : List UInt8} {r : List (String × DataW Unit)} {W : World} {g0 : Nat} {ti tp te ts : TypeId} {ms : Array (String × TypeId)} {f : Field}
    (h : laidMet P ((n0, .iface nm (.ptr (.agg [.lit (.string text0)]))) :: r) W)
    (hg0 : P.globalNamed n0 = some g0) (ht0 : (P.globals[g0]?).map (·.type) = some ti)
    (hi : P.underlying ti = some (.interface ms)) (hrow : ∀ u, P.typeName? 3 u = some nm → u = tp)
    (hp : P.underlying tp = some (.pointer te)) (he : P.underlying te = some (.struct #[f])) (hft : f.type = ts) (hfo : f.offset = 0) (hs : P.underlying ts = some .string) (hc : P.cellsOf te = 1) (hcs : P.cellsOf ts = 1) :
    ∃ (a0 : Addr) (s0 : ByteArray) (c0 : Array Value) (t0 : TypeId), W.cell? ⟨g0, 0, none⟩ = some (.iface tp (.pointer (some a0))) ∧ W.cell? a0 = some (.string s0) ∧ s0.data.toList = text0 ∧ W.heap[a0.block]? = some (.cells c0 t0 (0, 0)) := by
  obtain ⟨ps, ⟨g0', t0', cs0, f0, p0, q0, hg0', ht0', hv0, hd0, _, e0⟩, hnd, hrows⟩ := h
  obtain rfl := Option.some.inj (hg0.symm.trans hg0')
  obtain rfl := Option.some.inj (ht0.symm.trans ht0')
  subst e0
  obtain ⟨l0⟩ := cs0
  have ok0 : ∀ u v, l0 = [.iface u v] → Value.okWide P W .any 0 u v := fun u v e => by
    subst e
    exact (hrows g0 0 (by simp [MemPlace.row])).2 u v (by simpa using World.var?_cell hg0' hv0 0)
  obtain ⟨a0, s0, rfl, hc0, hs0, hz0, rfl⟩ := errorString_of_trod hi hrow hp he hft hfo hs hc hcs hd0 ok0
  obtain ⟨c0, t0, hb0⟩ := (hrows a0.block a0.off (by simp [MemPlace.row])).1
  exact ⟨a0, s0, c0, t0, by simpa using World.var?_cell hg0' hv0 0, hc0, hs0, hb0⟩
theorem errStar : "*" ++ "errors.errorString" = "*errors.errorString" := by decide
theorem errRow : ∀ u, Tryd.prog.typeName? 3 u = some "*errors.errorString" → u = 84 := fun u h =>
  typeName_ptr_named (nm := "errors.errorString") (by rw [errStar]; kernel_rfl) (by kernel_rfl) (by decide) u (by rw [errStar]; exact h)
theorem str_of {s : ByteArray} {l : List UInt8} (h : s.data.toList = l) : s = ⟨l.toArray⟩ := by
  cases s with
  | mk d =>
    simp only at h
    rw [← h]

/-! ### the handle -/
theorem rtName : (Tryd.prog.cutTypes.find? (·.1 == "internal/reflectlite.rtype")).map (·.2) = some 71 := by kernel_rfl
theorem oneRow : ((List.range 139).filter fun t => Tryd.prog.rowNamed t [101, 114, 114, 111, 114]) = [27] := by kernel_rfl
theorem tySize : Tryd.prog.types.size = 139 := by kernel_rfl
theorem etName : Tryd.prog.globalNamed "errors.errorType" = some 6 := by kernel_rfl
theorem hnd_of {l : List (String × DataW Unit)} {W : World} (h : handlesMet Tryd.prog l W) (hm : ("errors.errorType", Rows.laid_errors_errorType) ∈ l) : Hnd W := by
  obtain ⟨name, u, ty, e1, e2, e3, e4, e5⟩ := h _ hm
  have en : name = [101, 114, 114, 111, 114] := (Option.some.inj e1).symm
  subst en
  obtain rfl := Option.some.inj (rtName.symm.trans e2)
  have hmm : ty ∈ (List.range 139).filter fun t => Tryd.prog.rowNamed t [101, 114, 114, 111, 114] := List.mem_filter.2 ⟨List.mem_range.2 (by rw [← tySize]; exact e3), e4⟩
  rw [oneRow] at hmm
  obtain rfl := List.mem_singleton.1 hmm
  have hh : typeHandle Tryd.prog 27 = .pointer (some ⟨10, 27, none⟩) := by kernel_rfl
  rw [hh] at e5
  unfold Hnd
  simpa using World.var?_cell etName e5 0

def laidTwo : List (String × DataW Unit) := [("errors.errorType", Rows.laid_errors_errorType), ("platen/fault.ErrSyntax", Rows.laid_platen_fault_ErrSyntax), ("platen/fault.ErrText", Rows.laid_platen_fault_ErrText)]
def laidSix : List (String × DataW Unit) := [("errors.errorType", Rows.laid_errors_errorType), ("platen/fault.ErrBudget", Rows.laid_platen_fault_ErrBudget), ("platen/fault.ErrSyntax", Rows.laid_platen_fault_ErrSyntax), ("platen/fault.ErrText", Rows.laid_platen_fault_ErrText), ("platen/fault.ErrFont", Rows.laid_platen_fault_ErrFont), ("platen/fault.ErrLimit", Rows.laid_platen_fault_ErrLimit), ("platen/fault.ErrRange", Rows.laid_platen_fault_ErrRange)]
theorem txt_inj : ∀ i ∈ six, ∀ j ∈ six, txtN i = txtN j → i = j := by decide
theorem two_of {W : World} (h : laidMetH Tryd.prog laidTwo W) : (∃ S, Cls [2, 3] S W) ∧ Hnd W := by
  obtain ⟨hd, hh⟩ := laidMetH_iff.1 h
  refine ⟨?_, hnd_of hh (List.mem_filter.2 ⟨List.mem_cons_self, by kernel_rfl⟩)⟩
  have h1 : laidMet Tryd.prog [("platen/fault.ErrSyntax", Rows.laid_platen_fault_ErrSyntax), ("platen/fault.ErrText", Rows.laid_platen_fault_ErrText)] W := hd
  obtain ⟨a3, s3, c3, t3, v3, x3, y3, b3⟩ := laid_sent (tp := 84) h1 (g0 := 1) (by kernel_rfl) (by kernel_rfl) Tryd.underlying27 errRow Tryd.underlying84 Tryd.underlying127 rfl rfl Tryd.underlying9 (by kernel_rfl) (by kernel_rfl)
  obtain ⟨a2, s2, c2, t2, v2, x2, y2, b2⟩ := laid_sent (tp := 84) h1.tail (g0 := 0) (by kernel_rfl) (by kernel_rfl) Tryd.underlying27 errRow Tryd.underlying84 Tryd.underlying127 rfl rfl Tryd.underlying9 (by kernel_rfl) (by kernel_rfl)
  have z2 := str_of y2
  have z3 := str_of y3
  subst z2 z3
  have hx : ∀ j ∈ [2, 3], W.cell? (if j = 2 then a2 else a3) = some (.string (txtN j)) := by
    intro j hj
    simp at hj
    rcases hj with rfl | rfl
    · exact x2
    · exact x3
  refine ⟨fun j => if j = 2 then a2 else a3, fun j hj => ?_, hx, fun j hj => ?_, fun i hi j hj e => ?_⟩
  · simp at hj
    rcases hj with rfl | rfl
    · exact v2
    · exact v3
  · simp at hj
    rcases hj with rfl | rfl
    · exact ⟨_, _, b2⟩
    · exact ⟨_, _, b3⟩
  · have h1 := hx i hi
    have h2 := hx j hj
    have e' : (if i = 2 then a2 else a3) = (if j = 2 then a2 else a3) := e
    rw [e'] at h1
    rw [h1] at h2
    refine txt_inj i ?_ j ?_ (by simpa using h2)
    · simp at hi; rcases hi with rfl | rfl <;> simp [six]
    · simp at hj; rcases hj with rfl | rfl <;> simp [six]
theorem six_of {W : World} (h : laidMetH Tryd.prog laidSix W) : (∃ S, Cls six S W) ∧ Hnd W := by
  obtain ⟨hd, hh⟩ := laidMetH_iff.1 h
  refine ⟨?_, hnd_of hh (List.mem_filter.2 ⟨List.mem_cons_self, by kernel_rfl⟩)⟩
  have h1 : laidMet Tryd.prog [("platen/fault.ErrBudget", Rows.laid_platen_fault_ErrBudget), ("platen/fault.ErrSyntax", Rows.laid_platen_fault_ErrSyntax), ("platen/fault.ErrText", Rows.laid_platen_fault_ErrText), ("platen/fault.ErrFont", Rows.laid_platen_fault_ErrFont), ("platen/fault.ErrLimit", Rows.laid_platen_fault_ErrLimit), ("platen/fault.ErrRange", Rows.laid_platen_fault_ErrRange)] W := hd
  obtain ⟨a1, s1, c1, t1, v1, x1, y1, b1⟩ := laid_sent (tp := 84) h1 (g0 := 2) (by kernel_rfl) (by kernel_rfl) Tryd.underlying27 errRow Tryd.underlying84 Tryd.underlying127 rfl rfl Tryd.underlying9 (by kernel_rfl) (by kernel_rfl)
  obtain ⟨a3, s3, c3, t3, v3, x3, y3, b3⟩ := laid_sent (tp := 84) h1.tail (g0 := 1) (by kernel_rfl) (by kernel_rfl) Tryd.underlying27 errRow Tryd.underlying84 Tryd.underlying127 rfl rfl Tryd.underlying9 (by kernel_rfl) (by kernel_rfl)
  obtain ⟨a2, s2, c2, t2, v2, x2, y2, b2⟩ := laid_sent (tp := 84) h1.tail.tail (g0 := 0) (by kernel_rfl) (by kernel_rfl) Tryd.underlying27 errRow Tryd.underlying84 Tryd.underlying127 rfl rfl Tryd.underlying9 (by kernel_rfl) (by kernel_rfl)
  obtain ⟨a4, s4, c4, t4, v4, x4, y4, b4⟩ := laid_sent (tp := 84) h1.tail.tail.tail (g0 := 3) (by kernel_rfl) (by kernel_rfl) Tryd.underlying27 errRow Tryd.underlying84 Tryd.underlying127 rfl rfl Tryd.underlying9 (by kernel_rfl) (by kernel_rfl)
  obtain ⟨a5, s5, c5, t5, v5, x5, y5, b5⟩ := laid_sent (tp := 84) h1.tail.tail.tail.tail (g0 := 4) (by kernel_rfl) (by kernel_rfl) Tryd.underlying27 errRow Tryd.underlying84 Tryd.underlying127 rfl rfl Tryd.underlying9 (by kernel_rfl) (by kernel_rfl)
  obtain ⟨a6, s6, c6, t6, v6, x6, y6, b6⟩ := laid_sent (tp := 84) h1.tail.tail.tail.tail.tail (g0 := 5) (by kernel_rfl) (by kernel_rfl) Tryd.underlying27 errRow Tryd.underlying84 Tryd.underlying127 rfl rfl Tryd.underlying9 (by kernel_rfl) (by kernel_rfl)
  have z1 := str_of y1
  have z2 := str_of y2
  have z3 := str_of y3
  have z4 := str_of y4
  have z5 := str_of y5
  have z6 := str_of y6
  subst z1 z2 z3 z4 z5 z6
  obtain ⟨S, hS⟩ : ∃ S : Nat → Addr, S = fun j => match j with | 1 => a1 | 2 => a2 | 3 => a3 | 4 => a4 | 5 => a5 | _ => a6 := ⟨_, rfl⟩
  have hx : ∀ j ∈ six, W.cell? (S j) = some (.string (txtN j)) := by
    intro j hj
    rw [hS]
    simp [six] at hj
    rcases hj with rfl | rfl | rfl | rfl | rfl | rfl
    · exact x1
    · exact x2
    · exact x3
    · exact x4
    · exact x5
    · exact x6
  refine ⟨S, fun j hj => ?_, hx, fun j hj => ?_, fun i hi j hj e => ?_⟩
  · rw [hS]
    simp [six] at hj
    rcases hj with rfl | rfl | rfl | rfl | rfl | rfl
    · exact v1
    · exact v2
    · exact v3
    · exact v4
    · exact v5
    · exact v6
  · rw [hS]
    simp [six] at hj
    rcases hj with rfl | rfl | rfl | rfl | rfl | rfl
    · exact ⟨_, _, b1⟩
    · exact ⟨_, _, b2⟩
    · exact ⟨_, _, b3⟩
    · exact ⟨_, _, b4⟩
    · exact ⟨_, _, b5⟩
    · exact ⟨_, _, b6⟩
  · have h1 := hx i hi
    have h2 := hx j hj
    rw [e] at h1
    rw [h1] at h2
    exact txt_inj i hi j hj (by simpa using h2)

/-! ### a world that has them -/
noncomputable def witWorld (os : Os) (l : List (String × DataW Unit)) : World :=
  let w0 := World.laidAll Tryd.prog os (l.filter fun x => x.2.handleName?.isNone)
  { w0 with heap := w0.heap.modify 6 fun
      | .cells _ t fr => .cells #[.iface 71 (.agg #[.pointer (some ⟨10, 27, none⟩)])] t fr
      | o => o }
theorem wit_os (os : Os) (l : List (String × DataW Unit)) : (witWorld os l).os = os := World.laidAll_os _ _ _
theorem witTwo_met (os : Os) (args : Array Value) : laidMetH Tryd.prog laidTwo ((witWorld os laidTwo).forCall (fun _ _ => 0) ⟨#[], args, []⟩).memory := laidMetH_of_parts (laidMet_of_run' 8 (by kernel_rfl) (by kernel_rfl)) (by kernel_rfl)
theorem witSix_met (os : Os) (args : Array Value) : laidMetH Tryd.prog laidSix ((witWorld os laidSix).forCall (fun _ _ => 0) ⟨#[], args, []⟩).memory := laidMetH_of_parts (laidMet_of_run' 8 (by kernel_rfl) (by kernel_rfl)) (by kernel_rfl)

theorem walkFaultNumbers (w : World) (G : (∃ S, Cls [2, 3] S w) ∧ Hnd w) : Calls Tryd.prog 6 #[] w fun e w' => e = .returned (.bool true) ∧ Below w.heap.size w w' := by
  obtain ⟨⟨S, C⟩, H⟩ := G
  exact walkNumbers S w C H
theorem walkFaultNames (k : Int) (_wk : (Lit.int .i64 k).wf = true) (w : World) (G : (∃ S, Cls six S w) ∧ Hnd w) : Calls Tryd.prog 3 #[.int .i64 k] w fun e w' => e = .returned (.bool true) ∧ Below w.heap.size w w' := by
  obtain ⟨⟨S, C⟩, H⟩ := G
  exact walkNames k S w C H

end Go.Proofs.YtihiffemeodfhaaDoor
