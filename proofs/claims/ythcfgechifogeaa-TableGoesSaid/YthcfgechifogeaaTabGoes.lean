/- TableGoes' walk. -/
import Derived.Test.YthcfgechifogeaaTabFinds
import Derived.Test.YthcfgechifogeaaTabAll
import Derived.Test.YthcfgechifogeaaTabFont
import Derived.Test.YthcfgechifogeaaQuietIn
import Derived.Laws.EntriesVeiled
namespace Go.Proofs.Ythcfgechifogeaa
open Go.RowKit Go.Maps Go.Shelf
set_option linter.unusedSimpArgs false
set_option linter.unusedVariables false
attribute [local go_sem] Oper.semAt_some

/-- The marks that finished ranges leave behind. -/
def marks (ds : List Nat) : List Deferred := ds.map fun D => { target := .collected D, args := #[] }
theorem leave_marks {F : Fence} {n : Nat} {P : Program} {fn : Func} {tmps : Array Value} {R : Ending → World → Prop} {m : Nat} : ∀ (ds : List Nat) (w : World), ds.Nodup → (∀ D ∈ ds, m ≤ D ∧ w.heap[D]? = some (.deferred (some []))) →
    (∀ w', Below m w w' → LeavesInM F n P fn tmps R [] .returning w') → LeavesInM F n P fn tmps R (marks ds) .returning w
  | [], w, _, _, h => h w (Below.refl _ _)
  | D :: ds, w, hnd, hD, h => by
    obtain ⟨h1, h2⟩ := List.nodup_cons.1 hnd
    obtain ⟨h3, h4⟩ := hD D (by simp)
    refine ⟨by simp, .inl ⟨D, _, rfl, run_takeDeferred h4, ?_⟩⟩
    have hlt : D < w.heap.size := by rw [Array.getElem?_eq_some_iff] at h4; exact h4.1
    have hB : Below m w (w.putObj D (.deferred none)) := (Below.refl _ _).grown (grownBy_putObj' w D _) (by omega) (fun k e => by cases e; exact h3)
    refine leave_marks ds _ h2 (fun D' hD' => ?_) (fun w' hB' => h w' (hB.trans hB'))
    refine ⟨(hD D' (by simp [hD'])).1, ?_⟩
    have hne : D' ≠ D := fun e => h1 (by rw [← e]; exact hD')
    rw [World.putObj_heap_other hne]
    exact (hD D' (by simp [hD'])).2

/-- What the law hands back once its result's cell is true. -/
theorem goes_res (tmps : Array Value) (RB : Nat) (W : World) (h4 : tmps.getD 4 undef = .pointer (some ⟨RB, 0, none⟩)) (hc : W.cell? ⟨RB, 0, none⟩ = some (.bool true)) :
    (results Try.f4 tmps).run Try.prog W = .ok (.bool true) W := by
  have h5 : tmps[4]?.getD undef = .pointer (some ⟨RB, 0, none⟩) := by simpa using h4
  simp [results, Try.results4, go_sem, h5, hc]

/-- The way out, with the marks. -/
theorem goes_out {tmps : Array Value} {w w3 W : World} {ds : List Nat} (KW : Keep [] w w3) (hn : w.heap.size + 2 ≤ w3.heap.size) (bl : Below w3.heap.size w3 W) (R3 : w3.heap[w.heap.size + 1]? = some (.cells #[.bool false] 4 (0, 0))) (nd : ds.Nodup)
    (dm : ∀ D ∈ ds, w3.heap.size + 2 ≤ D ∧ W.heap[D]? = some (.deferred (some []))) (h4 : tmps.getD 4 undef = .pointer (some ⟨w.heap.size + 1, 0, none⟩)) :
    LeavesInM Fence.wide 20 Try.prog Try.f4 tmps (fun e w' => e = .returned (.bool true) ∧ Below w.heap.size w w') (marks ds) .returning (W.setCell ⟨w.heap.size + 1, 0, none⟩ (.bool true)) := by
  have R4 := (blk_set ((bl.block (w.heap.size + 1) (by omega)).trans R3) 0 (.bool true)).trans (by simp; rfl)
  refine leave_marks (m := w3.heap.size) ds _ nd (fun D hD => ?_) (fun w' hB => ?_)
  · obtain ⟨h1, h2⟩ := dm D hD
    exact ⟨by omega, (KeepsOthers.setCell _ _ _).same D _ h2 rfl⟩
  · have R5 := (hB.block (w.heap.size + 1) (by omega)).trans R4
    exact ⟨_, goes_res _ (w.heap.size + 1) _ h4 (blk_cell R5 0), rfl, (((KW.below (Nat.le_refl _) (by simp)).trans (bl.mono (by omega))).setCell (p := ⟨w.heap.size + 1, 0, none⟩) (by simp) _).trans (hB.mono (by omega))⟩

theorem glyph_neq {x y : GlyphX} (h : x ≠ y) (w : World) : (binOp .neq 45 (.agg #[.int .i64 x.ru, .int .i64 x.wd, .int .i64 x.ht, .int .i64 x.dp]) (.agg #[.int .i64 y.ru, .int .i64 y.wd, .int .i64 y.ht, .int .i64 y.dp])).run Try.prog w = .ok (.bool true) w := by
  simp [go_sem]
  intro e1 e2 e3 e4
  apply h
  cases x; cases y
  simp_all

/-- What holds ahead of each round: the memory. -/
structure GoF (n0 : Nat) (t : TabX) (w0 : World) (i IB : Nat) (ds : List Nat) (W : World) : Prop where
  le : i ≤ 20
  ib : W.heap[IB]? = some (.cells #[.int .i64 (i : Int)] 3 (0, 0))
  i0 : n0 + 2 ≤ IB
  sb : W.heap[n0 + 1]? = some (.cells #[.func (.func 48) #[] #[.pointer (some ⟨n0, 0, none⟩)]] 42 (0, 0))
  ba : W.heap[n0]? = some (.cells #[.pointer (some ⟨t.T, 0, none⟩)] 30 (0, 0))
  bl : Below n0 w0 W
  nd : ds.Nodup
  dm : ∀ D ∈ ds, n0 + 2 ≤ D ∧ W.heap[D]? = some (.deferred (some []))
/-- What holds between two rounds of the range. -/
structure GoJ (t : TabX) (w0 : World) (i : Nat) (L : Int) (IB LX N : Nat) (ds : List Nat) (k : Nat) (b : Bool) (W : World) : Prop where
  ib : W.heap[IB]? = some (.cells #[.int .i64 (i : Int)] 3 (0, 0))
  lb : W.heap[LX]? = some (.cells #[.int .i64 L] 3 (0, 0))
  nb : W.heap[N]? = some (.cells #[.int .i64 (k : Int)] 3 (0, 0))
  fl : W.heap[N + 1]? = some (.cells #[.bool b] 4 (0, 0))
  sb : W.heap[w0.heap.size + 1]? = some (.cells #[.func (.func 48) #[] #[.pointer (some ⟨w0.heap.size, 0, none⟩)]] 42 (0, 0))
  ba : W.heap[w0.heap.size]? = some (.cells #[.pointer (some ⟨t.T, 0, none⟩)] 30 (0, 0))
  bl : Below w0.heap.size w0 W
  dm : ∀ D ∈ ds, W.heap[D]? = some (.deferred (some []))
theorem GoJ.turn {β : Type} {t : TabX} {w0 : World} {i : Nat} {L : Int} {IB LX N : Nat} {ds : List Nat} {m : Nat} (hn : w0.heap.size ≤ m) (hd : ∀ D ∈ ds, D < m) (k : β → Nat) (b : Bool) : OwnFrom m (fun s W => GoJ t w0 i L IB LX N ds (k s) b W) := by
  rintro pre W W' row ⟨h1, h2, h3, h4, h5, h6, h7, h8⟩ hg hr
  have hr' : ∀ r, row = some r → ∃ o : Obj, W.heap[r]? = some o ∧ o.isCells = false := fun r e => (hr r e).2
  exact ⟨turn_blk h1 hg hr', turn_blk h2 hg hr', turn_blk h3 hg hr', turn_blk h4 hg hr', turn_blk h5 hg hr', turn_blk h6 hg hr', h7.grown hg h7.size (fun k e => Nat.le_trans hn (hr k e).1),
    fun D hD => (hg.block D (by have := h8 D hD; rw [Array.getElem?_eq_some_iff] at this; exact this.1) (fun e => by have := (hr D e.symm).1; have := hd D hD; omega)).trans (h8 D hD)⟩
theorem GoX.turn {t : TabX} {w0 : World} {i : Nat} {L : Int} {IB LX N : Nat} {ds : List Nat} {m : Nat} (hn : w0.heap.size ≤ m) (hd : ∀ D ∈ ds, D < m) (c : Code) : OwnFrom m (fun (pre : List GlyphX) W => (c = .ret ∧ ¬ pre <+: t.gs) ∨ (c = .exit 2 ∧ GoJ t w0 i L IB LX N ds pre.length true W)) := by
  rintro pre W W' row (h | ⟨h1, h2⟩) hg hr
  · exact .inl h
  · exact .inr ⟨h1, GoJ.turn hn hd (fun pre : List GlyphX => pre.length) true pre W W' row h2 hg hr⟩
theorem GoJ.alloc {t : TabX} {w0 : World} {i : Nat} {L : Int} {IB LX N : Nat} {ds : List Nat} {k : Nat} {b : Bool} {W : World} (h : GoJ t w0 i L IB LX N ds k b W) (o : Obj) : GoJ t w0 i L IB LX N ds k b (W.alloc o) := by
  obtain ⟨h1, h2, h3, h4, h5, h6, h7, h8⟩ := h
  exact ⟨blk_alloc h1 _, blk_alloc h2 _, blk_alloc h3 _, blk_alloc h4 _, blk_alloc h5 _, blk_alloc h6 _, h7.alloc h7.size _, fun D hD => (KeepsOthers.alloc _ _).same D _ (h8 D hD) rfl⟩
theorem others_drewN (W : World) (q : Nat) : KeepsOthers W (W.drewN q) := ⟨Nat.le_refl _, fun _ _ h _ => h⟩
theorem below_drewN (n : Nat) (W : World) (q : Nat) : Below n W (W.drewN q) := ⟨rfl, rfl, rfl, Nat.le_refl _, fun _ _ => rfl⟩
theorem GoJ.step {t : TabX} {w0 : World} {i : Nat} {L : Int} {IB LX N : Nat} {ds : List Nat} {k : Nat} {b : Bool} {W : World} (h : GoJ t w0 i L IB LX N ds k b W) (g1 : IB < N) (g2 : LX < N) (g3 : w0.heap.size + 1 < N) (q : Nat) :
    GoJ t w0 i L IB LX N ds (k + 1) b ((W.drewN q).setCell ⟨N, 0, none⟩ (.int .i64 ((k : Int) + 1))) := by
  obtain ⟨h1, h2, h3, h4, h5, h6, h7, h8⟩ := h
  have K : Keep [N] W ((W.drewN q).setCell ⟨N, 0, none⟩ (.int .i64 ((k : Int) + 1))) := ((Keep.refl [N] W).drewN q).set (p := ⟨N, 0, none⟩) (.inl (by simp)) _
  refine ⟨K.blk h1 (by simp; omega), K.blk h2 (by simp; omega), ?_, K.blk h4 (by simp), K.blk h5 (by simp; omega), K.blk h6 (by simp; omega), (h7.trans (below_drewN _ _ q)).setCell (p := ⟨N, 0, none⟩) (by simp; omega) _, fun D hD => ((others_drewN W q).trans (KeepsOthers.setCell _ _ _)).same D _ (h8 D hD) rfl⟩
  exact (blk_set (show (W.drewN q).heap[N]? = _ from h3) 0 _).trans (by simp)
theorem GoJ.flag {t : TabX} {w0 : World} {i : Nat} {L : Int} {IB LX N : Nat} {ds : List Nat} {k : Nat} {b : Bool} {W : World} (h : GoJ t w0 i L IB LX N ds k b W) (g1 : IB < N) (g2 : LX < N) (g3 : w0.heap.size + 1 < N) :
    GoJ t w0 i L IB LX N ds k true (W.setCell ⟨N + 1, 0, none⟩ (.bool true)) := by
  obtain ⟨h1, h2, h3, h4, h5, h6, h7, h8⟩ := h
  have K : Keep [N + 1] W (W.setCell ⟨N + 1, 0, none⟩ (.bool true)) := (Keep.refl [N + 1] W).set (p := ⟨N + 1, 0, none⟩) (.inl (by simp)) _
  refine ⟨K.blk h1 (by simp; omega), K.blk h2 (by simp; omega), K.blk h3 (by simp), ?_, K.blk h5 (by simp; omega), K.blk h6 (by simp; omega), h7.setCell (p := ⟨N + 1, 0, none⟩) (by simp; omega) _, fun D hD => (KeepsOthers.setCell _ _ _).same D _ (h8 D hD) rfl⟩
  exact (blk_set h4 0 _).trans (by simp)
theorem not_next {gs ts : List GlyphX} {pre : List GlyphX} {x y : GlyphX} (h : gs[pre.length]? = some y) (e : ts = gs) (hxy : ¬ x = y) : ¬ pre ++ [x] <+: ts := by
  rintro ⟨r, hr⟩
  rw [← e, ← hr] at h
  simp at h
  exact hxy h
/-- And the frame. -/
def GoI (f : FontX) (A : Option Addr) (ac : Nat) (lv : List Int) (n n0 : Nat) (t : TabX) (w0 : World) (a : Act) (W : World) : Prop :=
  ∃ (i IB : Nat) (ds : List Nat) (u : Nat → Value), a = { tmps := #[.agg #[.int .i64 f.em, .slice f.ga f.gs.length f.gc, .slice f.pa f.ps.length f.pc], .slice A lv.length ac, .pointer (some ⟨n, 0, none⟩), undef, .pointer (some ⟨n + 1, 0, none⟩), .pointer (some ⟨t.T, 0, none⟩), .int .i64 0, .pointer (some ⟨n0 + 1, 0, none⟩), .pointer (some ⟨IB, 0, none⟩), u 9, u 10, u 11, u 12, u 13, u 14, u 15, u 16, u 17, u 18, u 19, u 20, u 21, u 22, u 23, u 24, u 25, u 26, u 27, u 28, u 29, u 30, u 31, u 32, u 33, u 34, u 35, u 36, u 37, u 38, u 39, u 40, u 41, u 42, u 43, u 44, u 45, u 46, u 47, u 48, u 49, u 50, u 51, u 52, u 53, u 54, u 55, u 56, u 57, u 58, u 59, u 60, u 61, u 62, u 63, u 64, u 65, u 66, u 67, u 68, u 69, u 70, u 71, u 72, u 73, u 74, u 75, u 76, u 77, u 78, u 79, u 80, u 81, u 82, u 83, u 84, u 85, u 86, u 87, u 88, u 89, u 90, u 91, u 92, u 93, u 94, u 95, u 96, u 97, u 98, u 99, u 100, u 101, u 102, u 103, u 104, u 105, u 106, u 107, u 108, u 109], defers := marks ds } ∧ GoF n0 t w0 i IB ds W
theorem GoI.intro {f : FontX} {A : Option Addr} {ac : Nat} {lv : List Int} {n n0 : Nat} {t : TabX} {w0 : World} {i IB : Nat} {ds : List Nat} {W : World} (u9 u10 u11 u12 u13 u14 u15 u16 u17 u18 u19 u20 u21 u22 u23 u24 u25 u26 u27 u28 u29 u30 u31 u32 u33 u34 u35 u36 u37 u38 u39 u40 u41 u42 u43 u44 u45 u46 u47 u48 u49 u50 u51 u52 u53 u54 u55 u56 u57 u58 u59 u60 u61 u62 u63 u64 u65 u66 u67 u68 u69 u70 u71 u72 u73 u74 u75 u76 u77 u78 u79 u80 u81 u82 u83 u84 u85 u86 u87 u88 u89 u90 u91 u92 u93 u94 u95 u96 u97 u98 u99 u100 u101 u102 u103 u104 u105 u106 u107 u108 u109 : Value) (h : GoF n0 t w0 i IB ds W) :
    GoI f A ac lv n n0 t w0 { tmps := #[.agg #[.int .i64 f.em, .slice f.ga f.gs.length f.gc, .slice f.pa f.ps.length f.pc], .slice A lv.length ac, .pointer (some ⟨n, 0, none⟩), undef, .pointer (some ⟨n + 1, 0, none⟩), .pointer (some ⟨t.T, 0, none⟩), .int .i64 0, .pointer (some ⟨n0 + 1, 0, none⟩), .pointer (some ⟨IB, 0, none⟩), u9, u10, u11, u12, u13, u14, u15, u16, u17, u18, u19, u20, u21, u22, u23, u24, u25, u26, u27, u28, u29, u30, u31, u32, u33, u34, u35, u36, u37, u38, u39, u40, u41, u42, u43, u44, u45, u46, u47, u48, u49, u50, u51, u52, u53, u54, u55, u56, u57, u58, u59, u60, u61, u62, u63, u64, u65, u66, u67, u68, u69, u70, u71, u72, u73, u74, u75, u76, u77, u78, u79, u80, u81, u82, u83, u84, u85, u86, u87, u88, u89, u90, u91, u92, u93, u94, u95, u96, u97, u98, u99, u100, u101, u102, u103, u104, u105, u106, u107, u108, u109], defers := marks ds } W :=
  ⟨i, IB, ds, fun k => [u9, u10, u11, u12, u13, u14, u15, u16, u17, u18, u19, u20, u21, u22, u23, u24, u25, u26, u27, u28, u29, u30, u31, u32, u33, u34, u35, u36, u37, u38, u39, u40, u41, u42, u43, u44, u45, u46, u47, u48, u49, u50, u51, u52, u53, u54, u55, u56, u57, u58, u59, u60, u61, u62, u63, u64, u65, u66, u67, u68, u69, u70, u71, u72, u73, u74, u75, u76, u77, u78, u79, u80, u81, u82, u83, u84, u85, u86, u87, u88, u89, u90, u91, u92, u93, u94, u95, u96, u97, u98, u99, u100, u101, u102, u103, u104, u105, u106, u107, u108, u109].getD (k - 9) undef, rfl, h⟩
/-- How many rounds are left. -/
def goMu (a : Act) (W : World) : Nat :=
  match a.tmps.getD 8 undef with
  | .pointer (some p) => match W.cell? p with
    | some (.int _ i) => 20 - i.toNat
    | _ => 0
  | _ => 0
theorem goMu_at (tmps : Array Value) (dfs : List Deferred) (IB : Nat) (W : World) (i : Nat) (h8 : tmps.getD 8 undef = .pointer (some ⟨IB, 0, none⟩)) (hc : W.cell? ⟨IB, 0, none⟩ = some (.int .i64 (i : Int))) : goMu { tmps := tmps, defers := dfs } W = 20 - i := by
  unfold goMu
  simp only [h8, hc]
  simp

set_option maxHeartbeats 4000000 in
set_option maxRecDepth 100000 in
theorem walkGoes (f : FontX) (A : Option Addr) (ac : Nat) (lv : List Int) (w : World) (h : OpenF w f) (hr : Rd intRow 1 w A lv) (hn : lv.length ≤ 9223372036854775807) :
    Calls Try.prog 4 #[f.val, .slice A lv.length ac] w fun e w' => e = .returned (.bool true) ∧ Below w.heap.size w w' := by
  obtain ⟨em, fa, fc, fb, fd, gs, ps⟩ := f
  unfold FontX.val
  have K0 : Keep [] w ((w.alloc (.cells #[.int .i64 em, .slice fa gs.length fc, .slice fb ps.length fd] 25)).alloc (.cells #[.bool false] 4)) := ((Keep.refl _ _).alloc _).alloc _
  have F0 := blk_alloc (blk_new w (.cells #[.int .i64 em, .slice fa gs.length fc, .slice fb ps.length fd] 25)) (.cells #[.bool false] 4)
  have R0 := blk_new (w.alloc (.cells #[.int .i64 em, .slice fa gs.length fc, .slice fb ps.length fd] 25)) (.cells #[.bool false] 4)
  rw [size_alloc'] at R0
  refine (callsIn_wide (n := 20)).1 ?_
  refine callsIn_of_wp_marks Try.func4 rfl trivial ?_
  simp only [Try.ntmps4, List.size_toArray, List.length_cons, List.length_nil, Nat.reduceAdd, Nat.reduceSub, Array.replicate_succ, Array.replicate_zero, List.push_toArray, List.append_toArray, List.nil_append, List.cons_append]
  rw [wpIn_wide]
  by_cases hb : 2147483647 < gs.length + ps.length
  · have HB := hid (show decide (2147483647 < gs.length + ps.length) = true by simpa using hb)
    clear hb
    go_wp2_with fail
    refine (beyond_at ⟨em, fa, fc, fb, fd, gs, ps⟩ true _ h.gl h.pl_ HB.out).mono ?_
    rintro e w1 ⟨rfl, K1⟩
    have R1 := K1.blk R0 (by simp)
    have r0 := blk_cell R1 0
    have r1 := blk_free R1 0
    simp only [List.getElem?_toArray, List.getElem?_cons_zero] at r0
    go_wp2
    have R2 := (blk_set R1 0 (.bool true)).trans (by simp; rfl)
    exact ⟨_, goes_res _ (w.heap.size + 1) _ rfl (blk_cell R2 0), rfl, ((K0.trans K1).below (Nat.le_refl _) (by simp)).setCell (p := ⟨w.heap.size + 1, 0, none⟩) (by simp) _⟩
  have HB := hid (show decide (2147483647 < gs.length + ps.length) = false by simp; omega)
  have HF := hid (h.isF (by simp only; omega))
  have hgl : gs.length ≤ 2147483647 := by omega
  clear hb
  go_wp2_with fail
  refine (beyond_at ⟨em, fa, fc, fb, fd, gs, ps⟩ false _ h.gl h.pl_ HB.out).mono ?_
  rintro e w1 ⟨rfl, K1⟩
  have K1' := K0.trans K1
  have F1 := K1.blk F0 (by simp)
  have R1 := K1.blk R0 (by simp)
  clear K0 K1 F0 R0
  go_wp2_with fail
  refine (shown_any _).mono ?_
  rintro e w2 ⟨rfl, K2⟩
  have F2 := K2.blk F1 (by simp)
  have R2 := K2.blk R1 (by simp)
  have K2' := K1'.trans K2
  clear K1' K2 F1 R1
  obtain ⟨f0, f1, f2, _, _, _, fs⟩ := cells3 F2
  go_wp2_with fail
  refine (new_at ⟨em, fa, fc, fb, fd, gs, ps⟩ _ (HF.out.old K2' (by simp))).mono ?_
  clear f0 f1 f2 fs
  rintro e w3 (⟨hc, rfl, K3⟩ | ⟨hc, t, rfl, I3, tem, tgs, tps, tb, K3⟩)
  · simp only at hc
    have h1 : (checkX em gs ps == 0) = false := by simpa using hc
    have h2 : (checkX em gs ps != 0) = true := by simpa using hc
    simp only at *
    generalize checkX em gs ps = c at *
    clear hc
    have R3 := K3.blk R2 (by simp)
    have r0 := blk_cell R3 0
    have r1 := blk_free R3 0
    simp only [List.getElem?_toArray, List.getElem?_cons_zero] at r0
    go_wp2
    have R4 := (blk_set R3 0 (.bool true)).trans (by simp; rfl)
    exact ⟨_, goes_res _ (w.heap.size + 1) _ rfl (blk_cell R4 0), rfl, ((K2'.trans K3).below (Nat.le_refl _) (by simp)).setCell (p := ⟨w.heap.size + 1, 0, none⟩) (by simp) _⟩
  · simp only at hc tem tgs tps tb I3
    have F3 := K3.blk F2 (by simp)
    have R3 := K3.blk R2 (by simp)
    have KW := K2'.trans K3
    have HO := hid h
    have HT := hid tgs
    have HR := hid hr
    clear hc tem tgs tps tb K3 K2' F2 R2 h hr HB HF
    have hnf : ∀ (w : World) (b : Nat), (binOp .eql 42 (.func (.func 48) #[] #[.pointer (some ⟨b, 0, none⟩)]) .nilFunc).run Try.prog w = .ok (.bool false) w := fun w b => by kernel_rfl
    go_wp2_with fail
    refine (all_any t.T _).mono ?_
    rintro e w4 ⟨rfl, rfl⟩
    go_wp2_with fail
    have S4 := blk_new (w3.alloc (.cells #[.pointer (some ⟨t.T, 0, none⟩)] 30)) (.cells #[.func (.func 48) #[] #[.pointer (some ⟨w3.heap.size, 0, none⟩)]] 42)
    have B4 := blk_alloc (blk_new w3 (.cells #[.pointer (some ⟨t.T, 0, none⟩)] 30)) (.cells #[.func (.func 48) #[] #[.pointer (some ⟨w3.heap.size, 0, none⟩)]] 42)
    have I4 := blk_new ((w3.alloc (.cells #[.pointer (some ⟨t.T, 0, none⟩)] 30)).alloc (.cells #[.func (.func 48) #[] #[.pointer (some ⟨w3.heap.size, 0, none⟩)]] 42)) (.cells #[.int .i64 0] 3)
    have K4 := ((Keep.refl [] w3).alloc (.cells #[.pointer (some ⟨t.T, 0, none⟩)] 30)).alloc (.cells #[.func (.func 48) #[] #[.pointer (some ⟨w3.heap.size, 0, none⟩)]] 42)
    simp only [size_alloc'] at S4 I4
    have J4 := blk_alloc S4 (.cells #[.int .i64 0] 3)
    have C4 := blk_alloc B4 (.cells #[.int .i64 0] 3)
    have K5 := K4.alloc (.cells #[.int .i64 0] 3)
    clear S4 B4 K4
    generalize ((w3.alloc (.cells #[.pointer (some ⟨t.T, 0, none⟩)] 30)).alloc (.cells #[.func (.func 48) #[] #[.pointer (some ⟨w3.heap.size, 0, none⟩)]] 42)).alloc (.cells #[.int .i64 0] 3) = W4 at *
    have hs3 : w.heap.size + 2 ≤ w3.heap.size := by have := blk_lt R3; omega
    rw [← wpIn_wide (n := 20)]
    refine wpIn_loop (GoI ⟨em, fa, fc, fb, fd, gs, ps⟩ A ac lv w.heap.size w3.heap.size t w3) goMu ?_ ?_
    · exact GoI.intro (i := 0) (ds := []) _ _ _ _ _ _ _ _ _ _ _ _ _ _ _ _ _ _ _ _ _ _ _ _ _ _ _ _ _ _ _ _ _ _ _ _ _ _ _ _ _ _ _ _ _ _ _ _ _ _ _ _ _ _ _ _ _ _ _ _ _ _ _ _ _ _ _ _ _ _ _ _ _ _ _ _ _ _ _ _ _ _ _ _ _ _ _ _ _ _ _ _ _ _ _ _ _ _ _ _ _ ⟨by omega, I4, by omega, J4, C4, K5.below (Nat.le_refl _) (by simp), by simp, by simp⟩
    · intro a W hI
      obtain ⟨i, IB, ds, u, rfl, ⟨hi20, ib, i0, sb, ba, bl, nd, dm⟩⟩ := hI
      rw [wpIn_wide]
      have c8 : W.cell? ⟨IB, 0, none⟩ = some (.int .i64 (i : Int)) := blk_cell ib 0
      by_cases hil : (lv.length : Int) < (i : Int)
      · have r3 := (bl.block (w.heap.size + 1) (by omega)).trans R3
        have r0 := blk_cell r3 0
        have r1 := blk_free r3 0
        simp only [List.getElem?_toArray, List.getElem?_cons_zero] at r0
        go_wp2
        exact goes_out KW hs3 bl R3 nd dm rfl
      by_cases hi2 : i = 20
      · subst hi2
        have hil2 : ((20 : Nat) : Int) ≤ (lv.length : Int) := by omega
        have r3 := (bl.block (w.heap.size + 1) (by omega)).trans R3
        have r0 := blk_cell r3 0
        have r1 := blk_free r3 0
        simp only [List.getElem?_toArray, List.getElem?_cons_zero] at r0
        go_wp2
        exact goes_out KW hs3 bl R3 nd dm rfl
      have hil2 : (i : Int) ≤ (lv.length : Int) := by omega
      have hi3 : (i : Int) < 20 := by omega
      clear hil hi2
      go_upto_region 15 with (fail)
      have gl0 := blk_new W (.cells #[.int .i64 (-1)] 3)
      have Bn : Below w3.heap.size W (W.alloc (.cells #[.int .i64 (-1)] 3)) := (Below.refl _ _).alloc bl.size _
      have KOn : KeepsOthers W (W.alloc (.cells #[.int .i64 (-1)] 3)) := KeepsOthers.alloc _ _
      have c8' : (W.alloc (.cells #[.int .i64 (-1)] 3)).cell? ⟨IB, 0, none⟩ = some (.int .i64 (i : Int)) := blk_cell (blk_alloc ib _) 0
      have iW := blk_lt ib
      have sb' := blk_alloc sb (.cells #[.int .i64 (-1)] 3)
      have ba' := blk_alloc ba (.cells #[.int .i64 (-1)] 3)
      have ib' := blk_alloc ib (.cells #[.int .i64 (-1)] 3)
      have dm' : ∀ D ∈ ds, w3.heap.size + 2 ≤ D ∧ D < W.heap.size ∧ (W.alloc (.cells #[.int .i64 (-1)] 3)).heap[D]? = some (.deferred (some [])) := fun D hD => by
        obtain ⟨h1, h2⟩ := dm D hD
        have : D < W.heap.size := by rw [Array.getElem?_eq_some_iff] at h2; exact h2.1
        exact ⟨h1, this, KOn.same D _ h2 rfl⟩
      go_upto_if 45 with (fail)
      have HC8 := hid c8
      have KA : Keep [] w (W.alloc (.cells #[.int .i64 (-1)] 3)) := (KW.trans (Keep.of_below bl [])).alloc (.cells #[.int .i64 (-1)] 3)
      have sz1 : (W.alloc (.cells #[.int .i64 (-1)] 3)).heap.size = W.heap.size + 1 := size_alloc' _ _
      generalize W.alloc (.cells #[.int .i64 (-1)] 3) = W1 at *
      go_cut [] from 46 to 49 (fun wc => ∃ L : Int, wc.heap[W.heap.size]? = some (.cells #[.int .i64 L] 3 (0, 0)) ∧ Keep [W.heap.size] W1 wc ∧ KeepsOthers W1 wc)
      case first =>
        have gl0' := blk_cell gl0 0
        have gl1 := blk_free gl0 0
        by_cases hlt : i < lv.length
        · have hlt' : (i : Int) < (lv.length : Int) := by omega
          obtain ⟨L, hL⟩ : ∃ L, lv[i]? = some L := ⟨lv[i], List.getElem?_eq_getElem hlt⟩
          obtain ⟨ad, hA, hcs⟩ := HR.out.old KA (by simp) i L hL
          have d0 := hcs 0 _ rfl
          rw [Nat.add_zero, Nat.mul_one] at d0
          subst hA
          clear hcs hL
          go_wp2
          go_meet
          exact ⟨L, (blk_set gl0 0 _).trans (by simp), (Keep.refl _ _).set (.inl (by simp)) _, KeepsOthers.setCell _ _ _⟩
        · have hlt' : (lv.length : Int) ≤ (i : Int) := by omega
          go_wp2
          go_meet
          exact ⟨-1, gl0, Keep.refl _ _, KeepsOthers.refl _⟩
      case rest =>
        obtain ⟨L, gl1, Kc, KOc⟩ := hcut
        have sb1 := Kc.blk sb' (by simp; omega)
        have ba1 := Kc.blk ba' (by simp; omega)
        have ib1 := Kc.blk ib' (by simp; omega)
        have bl1 : Below w3.heap.size w3 wc := (bl.trans Bn).trans (Kc.below (by have := bl.size; omega) (by have := bl.size; simp; omega))
        have dm1 : ∀ D ∈ ds, w3.heap.size + 2 ≤ D ∧ D < W.heap.size ∧ wc.heap[D]? = some (.deferred (some [])) := fun D hD => by
          obtain ⟨h1, h2, h3⟩ := dm' D hD
          exact ⟨h1, h2, KOc.same D _ h3 rfl⟩
        have sW : W.heap.size < wc.heap.size := blk_lt gl1
        clear sb' ba' ib' dm' Kc KOc gl0 KOn Bn c8' c8 ib sb ba dm KA sz1
        have B6 : Below w3.heap.size wc ((wc.alloc (.cells #[.int .i64 0] 3)).alloc (.cells #[.bool false] 4)) := ((Below.refl _ _).alloc bl1.size _).alloc (by have := bl1.size; simp; omega) _
        have N6 := blk_alloc (blk_new wc (.cells #[.int .i64 0] 3)) (.cells #[.bool false] 4)
        have L6 := blk_new (wc.alloc (.cells #[.int .i64 0] 3)) (.cells #[.bool false] 4)
        rw [size_alloc'] at L6
        have sb6 := blk_alloc (blk_alloc sb1 (.cells #[.int .i64 0] 3)) (.cells #[.bool false] 4)
        have ba6 := blk_alloc (blk_alloc ba1 (.cells #[.int .i64 0] 3)) (.cells #[.bool false] 4)
        have ib6 := blk_alloc (blk_alloc ib1 (.cells #[.int .i64 0] 3)) (.cells #[.bool false] 4)
        have gl6 := blk_alloc (blk_alloc gl1 (.cells #[.int .i64 0] 3)) (.cells #[.bool false] 4)
        have sb2 := blk_cell sb6 0
        simp only [List.getElem?_toArray, List.getElem?_cons_zero] at sb2
        have dm6 : ∀ D ∈ ds, w3.heap.size + 2 ≤ D ∧ D < wc.heap.size ∧ ((wc.alloc (.cells #[.int .i64 0] 3)).alloc (.cells #[.bool false] 4)).heap[D]? = some (.deferred (some [])) := fun D hD => by
          obtain ⟨h1, h2, h3⟩ := dm1 D hD
          exact ⟨h1, by omega, ((KeepsOthers.alloc _ _).trans (KeepsOthers.alloc _ _)).same D _ h3 rfl⟩
        have bl6 := bl1.trans B6
        have nW := blk_lt L6
        go_wp2
        clear sb2 B6 sb1 ba1 ib1 gl1 dm1
        generalize (wc.alloc (.cells #[.int .i64 0] 3)).alloc (.cells #[.bool false] 4) = W6 at *
        have hdW : ∀ D ∈ ds, D < W6.heap.size := fun D hD => by have := (dm6 D hD).2.1; omega
        have hJ0 : GoJ t w3 i L IB W.heap.size wc.heap.size ds 0 false W6 := ⟨ib6, gl6, N6, L6, sb6, ba6, bl6, fun D hD => (dm6 D hD).2.2⟩
        have hBs : W6.cell? ⟨w3.heap.size, 0, none⟩ = some (.pointer (some ⟨t.T, 0, none⟩)) := blk_cell ba6 0
        rw [← wpIn_wide (n := 20)]
        refine wpIn_rangeFunc_ownH rfl (by omega) (gf := 48) (lb := #[.pointer (some ⟨w3.heap.size, 0, none⟩)]) rfl trivial (enters_of Try.func48 (by kernel_rfl) rfl)
          (all_stops Fence.wide 19 trivial rfl (by omega) w3.heap.size w3.heap.size t gs.length ps.length w3 W6 I3 rfl bl6 hBs) belowK_t (belowK_b bl6.size) (Below.refl _ _) (fun _ => rfl)
          (fun pre W' => GoJ t w3 i L IB W.heap.size wc.heap.size ds pre.length false W') (fun c pre W' => (c = .ret ∧ ¬ pre <+: t.gs) ∨ (c = .exit 2 ∧ GoJ t w3 i L IB W.heap.size wc.heap.size ds pre.length true W')) (GoJ.turn bl6.size hdW (fun pre : List GlyphX => pre.length) false) (GoX.turn bl6.size hdW) hJ0
          (fun x a' W' => ∃ GB, wc.heap.size + 1 < GB ∧ W'.heap[GB]? = some (.cells #[.int .i64 x.ru, .int .i64 x.wd, .int .i64 x.ht, .int .i64 x.dp] 45 (0, 0)) ∧ a' = { tmps := #[.agg #[.int .i64 em, .slice fa gs.length fc, .slice fb ps.length fd], .slice A lv.length ac, .pointer (some ⟨w.heap.size, 0, none⟩), undef, .pointer (some ⟨w.heap.size + 1, 0, none⟩), .pointer (some ⟨t.T, 0, none⟩), .int .i64 0, .pointer (some ⟨w3.heap.size + 1, 0, none⟩), .pointer (some ⟨IB, 0, none⟩), .pointer (some ⟨W.heap.size, 0, none⟩), .pointer (some ⟨wc.heap.size, 0, none⟩), .pointer (some ⟨wc.heap.size + 1, 0, none⟩), .pointer (some ⟨GB, 0, none⟩), u 13, u 14, u 15, u 16, u 17, u 18, u 19, u 20, u 21, u 22, u 23, u 24, u 25, u 26, u 27, u 28, u 29, u 30, u 31, .int .i64 (i : Int), .slice A lv.length ac, .int .i64 (lv.length : Int), .bool true, .bool true, .int .i64 (i : Int), .bool true, .bool true, u 40, u 41, .int .i64 (i : Int), .slice A lv.length ac, .int .i64 (lv.length : Int), .bool (decide (i < lv.length)), u46, u47, u48, u49, .func (.func 48) #[] #[.pointer (some ⟨w3.heap.size, 0, none⟩)], x.val, u 52, u 53, u 54, u 55, u 56, u 57, u 58, u 59, u 60, u 61, u 62, u 63, u 64, u 65, u 66, u 67, u 68, u 69, u 70, u 71, u 72, u 73, u 74, u 75, u 76, u 77, u 78, u 79, u 80, u 81, u 82, u 83, u 84, u 85, u 86, u 87, u 88, u 89, u 90, u 91, u 92, u 93, u 94, u 95, u 96, u 97, u 98, u 99, u 100, u 101, u 102, u 103, u 104, u 105, u 106, u 107, u 108, u 109], defers := [] })
          (fun x a' _ X Y row hs hg hr => by obtain ⟨Bx, h1, h2, h3⟩ := hs; exact ⟨Bx, h1, turn_blk h2 hg (fun r e => (hr r e).2), h3⟩)
          ?assign ?body ?done ?stop
        case assign =>
          rintro l pre x W' K hJ hK
          unfold gEnc
          unfold GlyphX.val
          gi_wp2
          exact hK _ _ ((KeepsOthers.alloc _ _).from _) ((Below.refl _ W').alloc hJ.bl.size _) (hJ.alloc _) ⟨W'.heap.size, blk_lt hJ.fl, blk_new _ _, rfl⟩
        case body =>
          rintro l pre x a' W' hl ⟨r, hr⟩ ⟨ib, lb, nb, fl, sb, ba, bl', dm⟩ ⟨GB, hGB, hX, rfl⟩ hlt
          rw [HT.out] at hlt
          obtain ⟨y, hy⟩ : ∃ y, gs[pre.length]? = some y := ⟨gs[pre.length], List.getElem?_eq_getElem hlt⟩
          have KA : Keep [] w W' := KW.trans (Keep.of_below bl' [])
          obtain ⟨ad, hA, hcs⟩ := HO.out.gr.old KA (by simp) pre.length y hy
          have d0 := hcs 0 _ rfl
          have d1 := hcs 1 _ rfl
          have d2 := hcs 2 _ rfl
          have d3 := hcs 3 _ rfl
          rw [add_at _ _ _ (by omega)] at d1 d2 d3
          rw [Nat.add_zero] at d0
          obtain ⟨f0, f1, f2, _, _, _, fs⟩ := cells3 ((bl'.block w.heap.size (by omega)).trans F3)
          obtain ⟨x0, x1, x2, x3, _, _, _, _, xs⟩ := cells4 hX
          have n0 : W'.cell? ⟨wc.heap.size, 0, none⟩ = some (.int .i64 (pre.length : Int)) := blk_cell nb 0
          have n1 := blk_free nb 0
          have l0 : W'.cell? ⟨W.heap.size, 0, none⟩ = some (.int .i64 L) := blk_cell lb 0
          have b1 := blk_free fl 0
          have b0 : W'.cell? ⟨wc.heap.size + 1, 0, none⟩ = some (.bool false) := blk_cell fl 0
          have i0' : W'.cell? ⟨IB, 0, none⟩ = some (.int .i64 (i : Int)) := blk_cell ib 0
          have hlt' : (pre.length : Int) < (gs.length : Int) := by omega
          have hgl' : (gs.length : Int) ≤ 2147483647 := by omega
          simp only at hA
          subst hA
          clear hcs
          have HY := hid hy
          clear hy
          unfold GlyphX.val
          have hle : decide (gs.length ≤ pre.length) = false := by simp; omega
          have hle2 : decide ((gs.length : Int) ≤ (pre.length : Int)) = false := by simp; omega
          by_cases hxy : x = y
          · subst hxy
            have hJ : GoJ t w3 i L IB W.heap.size wc.heap.size ds pre.length false W' := ⟨ib, lb, nb, fl, sb, ba, bl', dm⟩
            gi_wp2_with fail
            gi_quiet
            by_cases hL : (pre.length : Int) + 1 = L
            · subst hL
              gi_wp2
              refine ⟨((others_drewN _ _).trans ((KeepsOthers.setCell _ _ _).trans (KeepsOthers.setCell _ _ _))).from _, .inr ⟨rfl, ?_⟩⟩
              simp only [List.length_append, List.length_cons, List.length_nil, Nat.zero_add]
              exact (hJ.step (by omega) (by omega) (by omega) nq).flag (by omega) (by omega) (by omega)
            have hLb : ((pre.length : Int) + 1 == L) = false := by simpa using hL
            clear hL
            by_cases hi1 : 1 < i
            · have hi1' : (1 : Int) < (i : Int) := by omega
              gi_wp2
              refine ⟨((others_drewN _ _).trans (KeepsOthers.setCell _ _ _)).from _, (below_drewN _ _ nq).setCell (p := ⟨wc.heap.size, 0, none⟩) (by simp; omega) _, ?_⟩
              simp only [List.length_append, List.length_cons, List.length_nil, Nat.zero_add]
              exact hJ.step (by omega) (by omega) (by omega) nq
            have hi1' : (i : Int) ≤ 1 := by omega
            clear hi1
            by_cases hp1 : pre.length = 1
            · have hn2 : ((pre.length : Int) + 1 != 2) = false := by simp [hp1]
              have hdi : decide ((1 : Int) < (i : Int)) = false := by simpa using hi1'
              have HP := hid hp1
              clear hp1
              have hJ1 := hJ.step (by omega) (by omega) (by omega) nq
              have hJ2 := hJ1.alloc (.cells #[.int .i64 0] 3)
              have s7 := blk_cell hJ2.sb 0
              simp only [List.getElem?_toArray, List.getElem?_cons_zero] at s7
              gi_wp2
              have m7 := blk_new ((W'.drewN nq).setCell ⟨wc.heap.size, 0, none⟩ (.int .i64 ((pre.length : Int) + 1))) (.cells #[.int .i64 0] 3)
              have z7 : ((W'.drewN nq).setCell ⟨wc.heap.size, 0, none⟩ (.int .i64 ((pre.length : Int) + 1))).heap.size = W'.heap.size := by simp [World.setCell]
              rw [z7] at m7
              have B7 : Below w3.heap.size W' (((W'.drewN nq).setCell ⟨wc.heap.size, 0, none⟩ (.int .i64 ((pre.length : Int) + 1))).alloc (.cells #[.int .i64 0] 3)) := ((below_drewN _ _ nq).setCell (p := ⟨wc.heap.size, 0, none⟩) (by simp; omega) _).alloc (by rw [z7]; exact bl'.size) _
              have KO7 : KeepsOthers W' (((W'.drewN nq).setCell ⟨wc.heap.size, 0, none⟩ (.int .i64 ((pre.length : Int) + 1))).alloc (.cells #[.int .i64 0] 3)) := ((others_drewN _ _).trans (KeepsOthers.setCell _ _ _)).trans (KeepsOthers.alloc _ _)
              have sN : wc.heap.size + 1 < W'.heap.size := blk_lt fl
              clear s7 z7 d0 d1 d2 d3 x0 x1 x2 x3 n0 n1 l0 b1 b0 i0' f0 f1 f2 hn2 hdi hLb hJ1
              generalize ((W'.drewN nq).setCell ⟨wc.heap.size, 0, none⟩ (.int .i64 ((pre.length : Int) + 1))).alloc (.cells #[.int .i64 0] 3) = W7 at *
              have hBs7 : W7.cell? ⟨w3.heap.size, 0, none⟩ = some (.pointer (some ⟨t.T, 0, none⟩)) := blk_cell hJ2.ba 0
              have s7W := blk_lt m7
              refine wpIn_rangeFunc_ownN (l₀ := l) (r₀ := r) rfl (KO7.same l _ hr rfl) (by omega) (gf := 48) (lb := #[.pointer (some ⟨w3.heap.size, 0, none⟩)]) rfl trivial (enters_of Try.func48 (by kernel_rfl) rfl)
                ((all_stops Fence.wide 17 trivial rfl (by omega) w3.heap.size w3.heap.size t gs.length ps.length w3 W7 I3 rfl hJ2.bl hBs7).inRound l) belowK_t (belowK_b hJ2.bl.size) (Below.refl _ _) (fun _ => rfl)
                (fun pre2 Z => GoJ t w3 i L IB W.heap.size wc.heap.size ds (pre.length + 1) false Z ∧ Z.heap[W'.heap.size]? = some (.cells #[.int .i64 (pre2.length : Int)] 3 (0, 0)) ∧ Below w3.heap.size W7 Z ∧ KeepsFrom W6.heap.size W7 Z) (fun c pre2 _ => c = .ret ∧ ¬ pre2 <+: t.gs)
                ?own ?ownx ⟨hJ2, m7, Below.refl _ _, KeepsFrom.refl _ _⟩
                (fun x2 a'' Z => ∃ HB, W'.heap.size < HB ∧ Z.heap[HB]? = some (.cells #[.int .i64 x2.ru, .int .i64 x2.wd, .int .i64 x2.ht, .int .i64 x2.dp] 45 (0, 0)) ∧ a'' = { tmps := #[.agg #[.int .i64 em, .slice (some ad) gs.length fc, .slice fb ps.length fd], .slice A lv.length ac, .pointer (some ⟨w.heap.size, 0, none⟩), undef, .pointer (some ⟨w.heap.size + 1, 0, none⟩), .pointer (some ⟨t.T, 0, none⟩), .int .i64 0, .pointer (some ⟨w3.heap.size + 1, 0, none⟩), .pointer (some ⟨IB, 0, none⟩), .pointer (some ⟨W.heap.size, 0, none⟩), .pointer (some ⟨wc.heap.size, 0, none⟩), .pointer (some ⟨wc.heap.size + 1, 0, none⟩), .pointer (some ⟨GB, 0, none⟩), (.pointer (some ⟨W'.heap.size, 0, none⟩) : Value), .pointer (some ⟨HB, 0, none⟩), u 15, u 16, u 17, u 18, u 19, u 20, u 21, u 22, u 23, u 24, u 25, u 26, u 27, u 28, u 29, u 30, u 31, .int .i64 (i : Int), .slice A lv.length ac, .int .i64 (lv.length : Int), .bool true, .bool true, .int .i64 (i : Int), .bool true, .bool true, u 40, u 41, .int .i64 (i : Int), .slice A lv.length ac, .int .i64 (lv.length : Int), .bool (decide (i < lv.length)), u46, u47, u48, u49, .func (.func 48) #[] #[.pointer (some ⟨w3.heap.size, 0, none⟩)], .agg #[.int .i64 x.ru, .int .i64 x.wd, .int .i64 x.ht, .int .i64 x.dp], .int .i64 (pre.length : Int), .pointer (some ⟨w.heap.size, 1, none⟩), .slice (some ad) gs.length fc, .int .i64 (gs.length : Int), .bool false, .bool false, .agg #[.int .i64 x.ru, .int .i64 x.wd, .int .i64 x.ht, .int .i64 x.dp], .pointer (some ⟨w.heap.size, 1, none⟩), .slice (some ad) gs.length fc, .int .i64 (pre.length : Int), .pointer (some (ad.add (pre.length * 4))), .agg #[.int .i64 x.ru, .int .i64 x.wd, .int .i64 x.ht, .int .i64 x.dp], .bool false, .bool false, .int .i64 (pre.length : Int), .int .i64 ((pre.length : Int) + 1), .int .i64 ((pre.length : Int) + 1), .int .i64 L, .bool false, .int .i64 (i : Int), .bool false, .bool false, .int .i64 ((pre.length : Int) + 1), .bool false, .bool false, .func (.func 48) #[] #[.pointer (some ⟨w3.heap.size, 0, none⟩)], x2.val, u 79, u 80, u 81, u 82, u 83, u 84, u 85, u 86, u 87, u 88, u 89, u 90, u 91, u 92, u 93, u 94, u 95, u 96, u 97, u 98, u 99, u 100, u 101, u 102, u 103, u 104, u 105, u 106, u 107, u 108, u 109], defers := [] })
                (fun x a' _ X Y row hs hg hr => by obtain ⟨Bx, h1, h2, h3⟩ := hs; exact ⟨Bx, h1, turn_blk h2 hg (fun r e => (hr r e).2), h3⟩)
                ?assign2 ?body2 ?done2 ?stop2
              case own =>
                have hlW : l < W'.heap.size := by rw [Array.getElem?_eq_some_iff] at hr; exact hr.1
                rintro pre2 X Y row ⟨h1, h2, h3, h4⟩ hg hr'
                refine ⟨GoJ.turn (by have := hJ2.bl.size; omega) (fun D hD => by have := hdW D hD; omega) (fun _ : List GlyphX => pre.length + 1) false pre2 X Y row h1 hg hr', turn_blk h2 hg (fun r e => (hr' r e).2), h3.grown hg (Nat.le_trans hJ2.bl.size h3.size) (fun k e => Nat.le_trans hJ2.bl.size (hr' k e).1), ownFrom_keepsFrom (β := Unit) (Nat.le_refl _) () X Y row h4 hg hr'⟩
              case ownx =>
                intro c pre2 X Y row h _ _
                exact h
              case assign2 =>
                rintro l2 pre2 x2 Z K ⟨h1, h2, h3, h4⟩ hK
                unfold gEnc
                unfold GlyphX.val
                gi_wp2
                exact hK _ _ ((KeepsOthers.alloc _ _).from _) ((Below.refl _ Z).alloc h1.bl.size _) ⟨h1.alloc _, blk_alloc h2 _, h3.alloc h1.bl.size _, h4.trans ((KeepsOthers.alloc _ _).from _)⟩ ⟨Z.heap.size, blk_lt h2, blk_new _ _, rfl⟩
              case body2 =>
                rintro l2 pre2 x2 a'' Z hl2 ⟨r2, hr2⟩ ⟨h1, h2, h3, h4⟩ ⟨HB, hHB, hX2, rfl⟩ hlt2
                rw [HT.out] at hlt2
                obtain ⟨y2, hy2⟩ : ∃ y2, gs[pre2.length]? = some y2 := ⟨gs[pre2.length], List.getElem?_eq_getElem hlt2⟩
                obtain ⟨ad2, hA2, hcs⟩ := HO.out.gr.old (KW.trans (Keep.of_below h1.bl [])) (by simp) pre2.length y2 hy2
                simp only at hA2
                cases hA2
                have d0 := hcs 0 _ rfl
                have d1 := hcs 1 _ rfl
                have d2 := hcs 2 _ rfl
                have d3 := hcs 3 _ rfl
                rw [add_at _ _ _ (by omega)] at d1 d2 d3
                rw [Nat.add_zero] at d0
                obtain ⟨f0, f1, f2, _, _, _, fs⟩ := cells3 ((h1.bl.block w.heap.size (by omega)).trans F3)
                obtain ⟨x0, x1, x2', x3, _, _, _, _, xs⟩ := cells4 hX2
                have m0 : Z.cell? ⟨W'.heap.size, 0, none⟩ = some (.int .i64 (pre2.length : Int)) := blk_cell h2 0
                have m1 := blk_free h2 0
                have hlt2' : (pre2.length : Int) < (gs.length : Int) := by omega
                have hle3 : decide (gs.length ≤ pre2.length) = false := by simp; omega
                have hle4 : decide ((gs.length : Int) ≤ (pre2.length : Int)) = false := by simp; omega
                clear hcs
                have HY2 := hid hy2
                clear hy2
                unfold GlyphX.val
                by_cases hxy : x2 = y2
                · subst hxy
                  gi_wp2_with fail
                  gi_quiet
                  gi_wp2
                  have K : Keep [W'.heap.size] Z ((Z.drewN nq).setCell ⟨W'.heap.size, 0, none⟩ (.int .i64 ((pre2.length : Int) + 1))) := ((Keep.refl [W'.heap.size] Z).drewN nq).set (p := ⟨W'.heap.size, 0, none⟩) (.inl (by simp)) _
                  have KO : KeepsOthers Z ((Z.drewN nq).setCell ⟨W'.heap.size, 0, none⟩ (.int .i64 ((pre2.length : Int) + 1))) := (others_drewN _ _).trans (KeepsOthers.setCell _ _ _)
                  have hB : Below w3.heap.size Z ((Z.drewN nq).setCell ⟨W'.heap.size, 0, none⟩ (.int .i64 ((pre2.length : Int) + 1))) := (below_drewN _ _ nq).setCell (p := ⟨W'.heap.size, 0, none⟩) (by simp; omega) _
                  refine ⟨KO.from _, hB, ⟨K.blk h1.ib (by simp; omega), K.blk h1.lb (by simp; omega), K.blk h1.nb (by simp; omega), K.blk h1.fl (by simp; omega), K.blk h1.sb (by simp; omega), K.blk h1.ba (by simp; omega), h1.bl.trans hB, fun D hD => KO.same D _ (h1.dm D hD) rfl⟩, ?_, h3.trans hB, h4.trans (KO.from _)⟩
                  exact (blk_set (show (Z.drewN nq).heap[W'.heap.size]? = _ from h2) 0 _).trans (by simp)
                · have hne := glyph_neq hxy
                  have r3 := (h1.bl.block (w.heap.size + 1) (by omega)).trans R3
                  have r0 := blk_cell r3 0
                  have r1 := blk_free r3 0
                  simp only [List.getElem?_toArray, List.getElem?_cons_zero] at r0
                  gi_wp2_with fail
                  gi_quiet
                  gi_wp2
                  exact ⟨((others_drewN _ _).trans (KeepsOthers.setCell _ _ _)).from _, rfl, not_next HY2.out HT.out hxy⟩
              case done2 =>
                rintro ys Z rfl ⟨h1, h2, h3, h4⟩
                rw [HT.out] at h2
                obtain ⟨f0, f1, f2, _, _, _, fs⟩ := cells3 ((h1.bl.block w.heap.size (by omega)).trans F3)
                have m0 : Z.cell? ⟨W'.heap.size, 0, none⟩ = some (.int .i64 (gs.length : Int)) := blk_cell h2 0
                gi_wp2
                refine ⟨(KO7.from _).trans h4, B7.trans h3, ?_⟩
                simp only [List.length_append, List.length_cons, List.length_nil, Nat.zero_add]
                exact h1
              case stop2 =>
                rintro c pre2 Z hp ⟨rfl, hnp⟩
                exact absurd hp hnp
            · have hn2 : ((pre.length : Int) + 1 != 2) = true := by simp; omega
              gi_wp2
              refine ⟨((others_drewN _ _).trans (KeepsOthers.setCell _ _ _)).from _, (below_drewN _ _ nq).setCell (p := ⟨wc.heap.size, 0, none⟩) (by simp; omega) _, ?_⟩
              simp only [List.length_append, List.length_cons, List.length_nil, Nat.zero_add]
              exact hJ.step (by omega) (by omega) (by omega) nq
          · have hne := glyph_neq hxy
            have r3 := (bl'.block (w.heap.size + 1) (by omega)).trans R3
            have r0 := blk_cell r3 0
            have r1 := blk_free r3 0
            simp only [List.getElem?_toArray, List.getElem?_cons_zero] at r0
            gi_wp2_with fail
            gi_quiet
            gi_wp2
            exact ⟨((others_drewN _ _).trans (KeepsOthers.setCell _ _ _)).from _, .inl ⟨rfl, not_next HY.out HT.out hxy⟩⟩
        case done =>
          rintro D ys Z hD rfl hJ hK
          rw [HT.out] at hJ
          have i1 : Z.cell? ⟨IB, 0, none⟩ = some (.int .i64 (i : Int)) := blk_cell hJ.ib 0
          have b1 : Z.cell? ⟨wc.heap.size + 1, 0, none⟩ = some (.bool false) := blk_cell hJ.fl 0
          have k1 : Z.cell? ⟨wc.heap.size, 0, none⟩ = some (.int .i64 ((gs.length : Nat) : Int)) := blk_cell hJ.nb 0
          obtain ⟨f0, f1, f2, _, _, _, fs⟩ := cells3 ((hJ.bl.block w.heap.size (by omega)).trans F3)
          go_wp2
          have KN := (Keep.refl [] Z).alloc (.cells #[.int .i64 ((i : Int) + 1)] 3)
          have hNN := blk_new Z (.cells #[.int .i64 ((i : Int) + 1)] 3)
          have hDl : D ∉ ds := fun hd => by have := hdW D hd; omega
          have hDl2 : D < Z.heap.size := by rw [Array.getElem?_eq_some_iff] at hK; exact hK.1
          refine ⟨GoI.intro (f := ⟨em, fa, fc, fb, fd, gs, ps⟩) (i := i + 1) (ds := D :: ds) _ _ _ _ _ _ _ _ _ _ _ _ _ _ _ _ _ _ _ _ _ _ _ _ _ _ _ _ _ _ _ _ _ _ _ _ _ _ _ _ _ _ _ _ _ _ _ _ _ _ _ _ _ _ _ _ _ _ _ _ _ _ _ _ _ _ _ _ _ _ _ _ _ _ _ _ _ _ _ _ _ _ _ _ _ _ _ _ _ _ _ _ _ _ _ _ _ _ _ _ _ ⟨by omega, hNN, by have := hJ.bl.size; have := hJ.sb; have := blk_lt hJ.sb; omega, KN.blk hJ.sb (by simp), KN.blk hJ.ba (by simp), hJ.bl.alloc hJ.bl.size _, List.nodup_cons.2 ⟨hDl, nd⟩, ?_⟩, ?_⟩
          · intro D' hD'
            rcases List.mem_cons.1 hD' with rfl | hD'
            · exact ⟨by have := bl6.size; omega, (KeepsOthers.alloc _ _).same _ _ hK rfl⟩
            · exact ⟨(dm6 D' hD').1, (KeepsOthers.alloc _ _).same _ _ (hJ.dm D' hD') rfl⟩
          · rw [goMu_at _ _ Z.heap.size _ (i + 1) rfl (blk_cell hNN 0), goMu_at _ _ IB _ i rfl HC8.out]
            omega
        case stop =>
          rintro D c pre Z hD hp (⟨rfl, hnp⟩ | ⟨rfl, hJ⟩) hK
          · exact absurd hp hnp
          rw [wpIn_wide]
          have i1 : Z.cell? ⟨IB, 0, none⟩ = some (.int .i64 (i : Int)) := blk_cell hJ.ib 0
          have b1 : Z.cell? ⟨wc.heap.size + 1, 0, none⟩ = some (.bool true) := blk_cell hJ.fl 0
          have k1 : Z.cell? ⟨wc.heap.size, 0, none⟩ = some (.int .i64 ((pre.length : Nat) : Int)) := blk_cell hJ.nb 0
          obtain ⟨f0, f1, f2, _, _, _, fs⟩ := cells3 ((hJ.bl.block w.heap.size (by omega)).trans F3)
          go_wp2
          have KN := (Keep.refl [] Z).alloc (.cells #[.int .i64 ((i : Int) + 1)] 3)
          have hNN := blk_new Z (.cells #[.int .i64 ((i : Int) + 1)] 3)
          have hDl : D ∉ ds := fun hd => by have := hdW D hd; omega
          have hDl2 : D < Z.heap.size := by rw [Array.getElem?_eq_some_iff] at hK; exact hK.1
          refine ⟨GoI.intro (f := ⟨em, fa, fc, fb, fd, gs, ps⟩) (i := i + 1) (ds := D :: ds) _ _ _ _ _ _ _ _ _ _ _ _ _ _ _ _ _ _ _ _ _ _ _ _ _ _ _ _ _ _ _ _ _ _ _ _ _ _ _ _ _ _ _ _ _ _ _ _ _ _ _ _ _ _ _ _ _ _ _ _ _ _ _ _ _ _ _ _ _ _ _ _ _ _ _ _ _ _ _ _ _ _ _ _ _ _ _ _ _ _ _ _ _ _ _ _ _ _ _ _ _ ⟨by omega, hNN, by have := hJ.bl.size; have := hJ.sb; have := blk_lt hJ.sb; omega, KN.blk hJ.sb (by simp), KN.blk hJ.ba (by simp), hJ.bl.alloc hJ.bl.size _, List.nodup_cons.2 ⟨hDl, nd⟩, ?_⟩, ?_⟩
          · intro D' hD'
            rcases List.mem_cons.1 hD' with rfl | hD'
            · exact ⟨by have := bl6.size; omega, (KeepsOthers.alloc _ _).same _ _ hK rfl⟩
            · exact ⟨(dm6 D' hD').1, (KeepsOthers.alloc _ _).same _ _ (hJ.dm D' hD') rfl⟩
          · rw [goMu_at _ _ Z.heap.size _ (i + 1) rfl (blk_cell hNN 0), goMu_at _ _ IB _ i rfl HC8.out]
            omega

end Go.Proofs.Ythcfgechifogeaa
