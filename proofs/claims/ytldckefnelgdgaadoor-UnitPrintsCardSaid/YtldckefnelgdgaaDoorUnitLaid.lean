/- Layer 8: what the listed variables give the walks. -/
import Derived.Test.YtldckefnelgdgaaDoorUnitWalks
import Derived.Test.YtldckefnelgdgaaDoorTie
import Derived.Stop.LaidErr
import Derived.Lib.LaidTab
import Derived.OpenShut
import Derived.MakeChecks
namespace Go.Proofs.YtldckefnelgdgaaDoor
open Go.RowKit Go.ChangeShapes Go.WideShapes
set_option linter.unusedSimpArgs false
set_option linter.unusedVariables false
set_option maxRecDepth 100000

def seatLaid : List (String × DataW Unit) := [("math/bits.deBruijn32tab", Rows.laid_math_bits_deBruijn32tab), ("math/bits.deBruijn64tab", Rows.laid_math_bits_deBruijn64tab), ("internal/strconv.uint64pow10", Rows.laid_internal_strconv_uint64pow10), ("strconv.ErrRange", Rows.laid_strconv_ErrRange), ("strconv.ErrSyntax", Rows.laid_strconv_ErrSyntax), ("platen/unit.units", Rows.laid_platen_unit_units)]

theorem unit_cells {w : World} {fuel : Nat} {cs : List Value} {bs : List UInt8} {a b : Int} {p : List MemPlace}
    (h : DataW.trod (fun _ => ()) Tryd.prog w 0 (fun _ => true) false fuel 37 cs = some (.agg [.lit (.string bs), .lit (.int .i64 a), .lit (.int .i64 b)], p)) :
    cs = [.string (B bs), .int .i64 a, .int .i64 b] := by
  obtain ⟨xs, n, rfl, hx, hl, hxl, hf⟩ := DataW.trod_struct Tryd.underlying37 h
  have hm : xs.map (·.1) = [.lit (.string bs), .lit (.int .i64 a), .lit (.int .i64 b)] := by
    have := congrArg Prod.fst hx
    simpa using this.symm
  have h0 := hf 0 _ rfl
  have h1 := hf 1 _ rfl
  have h2 := hf 2 _ rfl
  have hl3 : cs.length = 3 := hl.trans (by kernel_rfl)
  match xs, hm with
  | [x0, x1, x2], hm =>
    simp only [List.map_cons, List.map_nil, List.cons.injEq, and_true] at hm
    obtain ⟨m0, m1, m2⟩ := hm
    obtain ⟨s, e0, y0, _⟩ := DataW.trod_string Tryd.underlying9 (h0.trans rfl)
    obtain ⟨k1, e1, y1, _⟩ := DataW.trod_int Tryd.underlying3 (h1.trans rfl)
    obtain ⟨k2, e2, y2, _⟩ := DataW.trod_int Tryd.underlying3 (h2.trans rfl)
    rw [y0] at m0
    rw [y1] at m1
    rw [y2] at m2
    simp only [DataW.lit.injEq, Lit.string.injEq, Lit.int.injEq, true_and] at m0 m1 m2
    match cs, hl3 with
    | [c0, c1, c2], _ =>
      have g0 : c0 = .string s := by simpa using (show [c0] = [.string s] from e0)
      have g1 : c1 = .int .i64 k1 := by simpa using (show [c1] = [.int .i64 k1] from e1)
      have g2 : c2 = .int .i64 k2 := by simpa using (show [c2] = [.int .i64 k2] from e2)
      rw [g0, g1, g2, m1, m2, ← m0, B_of]

theorem errStar : "*" ++ "errors.errorString" = "*errors.errorString" := by decide
theorem errRow : ∀ u, Tryd.prog.typeName? 3 u = some "*errors.errorString" → u = 76 := fun u h =>
  typeName_ptr_named (nm := "errors.errorString") (by rw [errStar]; kernel_rfl) (by kernel_rfl) (by decide) u (by rw [errStar]; exact h)

theorem glob_of {W : World} (h0 : laidMetH Tryd.prog seatLaid W) : Glob W := by
  rw [MakeChecks.laidMetH_plain _ _ _ (by kernel_rfl)] at h0
  have h2 := h0.tail.tail
  have tab : Lib.TabIs Tryd.prog W "internal/strconv.uint64pow10" .u64 Lib.pow10Tab := Lib.tabIs_of_head (g := 3) (n := 20) (by kernel_rfl) (t := 81) (by kernel_rfl) Tryd.underlying81 Tryd.underlying61 (by kernel_rfl) (by kernel_rfl) h2
  have h3 := h2.tail
  obtain ⟨a1, s1, hv1, _⟩ := laid_sentinel (tp := 76) h3 (g := 2) (by kernel_rfl) (by kernel_rfl) Tryd.underlying40 errRow Tryd.underlying76 Tryd.underlying78 rfl rfl Tryd.underlying9 (by kernel_rfl) (by kernel_rfl)
  have he := (World.var?_cell (g := 2) (by kernel_rfl) hv1 0).trans rfl
  have h5 := h3.tail.tail
  obtain ⟨ps, ⟨g, t, cs, fuel, p, q, hg, ht, hv, hd, _, _⟩, _⟩ := h5
  obtain rfl := Option.some.inj (hg.symm.trans (show Tryd.prog.globalNamed "platen/unit.units" = some 0 by kernel_rfl))
  obtain rfl := Option.some.inj (ht.symm.trans (show (Tryd.prog.globals[0]?).map (·.type) = some 38 by kernel_rfl))
  obtain ⟨xs, m, rfl, hx, hl, hxl, hf⟩ := DataW.trod_array Tryd.underlying38 hd
  have hm : xs.map (·.1) = [.agg [.lit (.string [112, 116]), .lit (.int .i64 65536), .lit (.int .i64 1)], .agg [.lit (.string [105, 110]), .lit (.int .i64 4718592), .lit (.int .i64 1)], .agg [.lit (.string [109, 109]), .lit (.int .i64 23592960), .lit (.int .i64 127)], .agg [.lit (.string [115, 112]), .lit (.int .i64 1), .lit (.int .i64 1)], .agg [.lit (.string [101, 109]), .lit (.int .i64 0), .lit (.int .i64 1)]] := by
    have := congrArg Prod.fst hx
    simpa [Rows.laid_platen_unit_units] using this.symm
  have hl15 : cs.toList.length = 15 := hl.trans (by kernel_rfl)
  have c3 : Tryd.prog.cellsOf 37 = 3 := by kernel_rfl
  rw [c3] at hf
  match xs, hm with
  | [x0, x1, x2, x3, x4], hm =>
    simp only [List.map_cons, List.map_nil, List.cons.injEq, and_true] at hm
    obtain ⟨m0, m1, m2, m3, m4⟩ := hm
    obtain ⟨d0, p0⟩ := x0
    obtain ⟨d1, p1⟩ := x1
    obtain ⟨d2, p2⟩ := x2
    obtain ⟨d3, p3⟩ := x3
    obtain ⟨d4, p4⟩ := x4
    simp only at m0 m1 m2 m3 m4
    subst m0 m1 m2 m3 m4
    have e0 := unit_cells ((hf 0 (by omega)).trans rfl)
    have e1 := unit_cells ((hf 1 (by omega)).trans rfl)
    have e2 := unit_cells ((hf 2 (by omega)).trans rfl)
    have e3 := unit_cells ((hf 3 (by omega)).trans rfl)
    have e4 := unit_cells ((hf 4 (by omega)).trans rfl)
    refine ⟨⟨_, _, he⟩, fun j v hj => ?_, tab⟩
    have hc := World.var?_cell (g := 0) (by kernel_rfl) hv j
    rw [hc, ← hj]
    have hcs : cs.toList = unitCells := by
      match h : cs.toList, hl15 with
      | [a0, a1, a2, a3, a4, a5, a6, a7, a8, a9, a10, a11, a12, a13, a14], _ =>
        rw [h] at e0 e1 e2 e3 e4
        simp at e0 e1 e2 e3 e4
        obtain ⟨r0, r1, r2⟩ := e0
        obtain ⟨r3, r4, r5⟩ := e1
        obtain ⟨r6, r7, r8⟩ := e2
        obtain ⟨r9, r10, r11⟩ := e3
        obtain ⟨r12, r13, r14⟩ := e4
        rw [r0, r1, r2, r3, r4, r5, r6, r7, r8, r9, r10, r11, r12, r13, r14]
        rfl
    rw [← hcs]
    simp

theorem walkUnitNames (w : World) (G : Glob w) : Calls Tryd.prog 6 #[] w fun e w' => e = .returned (.bool true) ∧ Below w.heap.size w w' := walkNames w G

theorem wf_range {a : Int} (h : (Lit.int .i64 a).wf = true) : -9223372036854775808 ≤ a ∧ a ≤ 9223372036854775807 := by
  simp [Lit.wf, IntKind.min, IntKind.max, IntKind.signed, IntKind.bits] at h
  omega

theorem walkUnitReads (s : ByteArray) (_ys : s.size ≤ maxLen) (zs : s.size ≤ 140737488351232) (size : Int) (wz : (Lit.int .i64 size).wf = true) (w : World) (G : Glob w) : Calls Tryd.prog 3 #[.string s, .int .i64 size] w fun e w' => e = .returned (.bool true) ∧ Below w.heap.size w w' :=
  walkReads s (by omega) size (wf_range wz).1 (wf_range wz).2 w G

theorem walkUnitPrints (d : Int) (_wd : (Lit.int .i64 d).wf = true) (size : Int) (wz : (Lit.int .i64 size).wf = true) (w : World) (G : Glob w) : Calls Tryd.prog 4 #[.int .i64 d, .int .i64 size] w fun e w' => e = .returned (.bool true) ∧ Below w.heap.size w w' :=
  walkPrints d size (wf_range wz).1 (wf_range wz).2 w G

end Go.Proofs.YtldckefnelgdgaaDoor
