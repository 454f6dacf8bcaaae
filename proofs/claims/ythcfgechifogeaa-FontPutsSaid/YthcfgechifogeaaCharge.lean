/- The meter's charge, by contracts: what a call answers, and what the meter holds behind it. -/
import Derived.Test.YthcfgechifogeaaBase
namespace Go.Proofs.Ythcfgechifogeaa
open Go.RowKit
set_option linter.unusedSimpArgs false
set_option linter.unusedVariables false

/-- What a meter holds: steps now, peak, budget; cells now, peak, budget; refused. -/
structure MS where
  sn : Int
  sp : Int
  sb : Int
  cn : Int
  cp : Int
  cb : Int
  rf : Int

/-- The meter m lies at block g. -/
def IsM (w : World) (g : Nat) (m : MS) : Prop := w.heap[g]? = some (.cells #[.int .i64 m.sn, .int .i64 m.sp, .int .i64 m.sb, .int .i64 m.cn, .int .i64 m.cp, .int .i64 m.cb, .int .i64 m.rf] 108 (0, 0))

theorem IsM.keep {S : List Nat} {w w' : World} {g : Nat} {m : MS} (h : IsM w g m) (k : Keep S w w') (hs : g ∉ S) : IsM w' g m := k.blk h hs

/-- sn and sp behind a charge of t. -/
def MS.addS (m : MS) (t : Int) : MS := { m with sn := m.sn + t, sp := if m.sp < m.sn + t then m.sn + t else m.sp }

set_option maxHeartbeats 800000 in
theorem charge1_S (g b0 b1 b2 b3 b4 : Nat) (m : MS) (taken kind : Int) (okb : Bool) (w : World)
    (hg : IsM w g m) (h0 : w.cell? ⟨b0, 0, none⟩ = some (.pointer (some ⟨g, 0, none⟩))) (h1 : w.cell? ⟨b1, 0, none⟩ = some (.int .i64 taken))
    (h2 : w.cell? ⟨b2, 0, none⟩ = some (.bool okb)) (h3 : w.cell? ⟨b3, 0, none⟩ = some (.int .i64 kind)) (h4 : w.cell? ⟨b4, 0, none⟩ = some (.pointer (some ⟨g, 0, none⟩)))
    (_n0 : b0 ≠ g) (_n1 : b1 ≠ g) (_n2 : b2 ≠ g) (_n3 : b3 ≠ g) (_n4 : b4 ≠ g) (lo : 0 ≤ m.sn + taken) (hi : m.sn + taken ≤ 9223372036854775807) :
    CallsD Try.prog 94 #[.pointer (some ⟨b0, 0, none⟩), .pointer (some ⟨b1, 0, none⟩), .pointer (some ⟨b2, 0, none⟩), .pointer (some ⟨b3, 0, none⟩), .pointer (some ⟨b4, 0, none⟩)] .returning w
      fun e u w' => u = .returning ∧ (e = .returned (.tuple #[]) ∧ IsM w' g (if okb then m.addS taken else { m.addS taken with rf := kind }) ∧ Keep [g] w w' ∧ w'.heap.size = w.heap.size) := by
  go_enter_d Try.func94, Try.ntmps94
  have c0 := blk_cell hg 0
  have c1 := blk_cell hg 1
  have c6 := blk_cell hg 6
  have f0 := blk_free hg 0
  have f1 := blk_free hg 1
  have f6 := blk_free hg 6
  simp only [List.getElem?_toArray, List.getElem?_cons_zero, List.getElem?_cons_succ] at c0 c1 c6
  go_wp2
  go_region
  go_wp2
  go_region
  obtain ⟨pk, hpk⟩ : ∃ pk : Int, pk = (if m.sp < m.sn + taken then m.sn + taken else m.sp) := ⟨_, rfl⟩
  rw [← hpk]
  have Hpk := hid hpk
  clear hpk
  cases okb
  all_goals
    go_wp2
    go_end0
    refine ⟨rfl, ?_, ?_, by simp [World.setCell, World.drew]⟩
    · have h := hg
      unfold IsM at h ⊢
      simp only [World.drew, World.setCell, Array.getElem?_modify, if_true, h, Option.map_some]
      simp [MS.addS, Hpk.out]
    · repeat (first | exact Keep.refl _ _ | apply Keep.drew | refine Keep.set ?_ (.inl (by simp)) _)

/-- cn and cp behind a charge of t. -/
def MS.addC (m : MS) (t : Int) : MS := { m with cn := m.cn + t, cp := if m.cp < m.cn + t then m.cn + t else m.cp }

set_option maxHeartbeats 800000 in
theorem charge1_C (g b0 b1 b2 b3 b4 : Nat) (m : MS) (taken kind : Int) (okb : Bool) (w : World)
    (hg : IsM w g m) (h0 : w.cell? ⟨b0, 0, none⟩ = some (.pointer (some ⟨g, 3, none⟩))) (h1 : w.cell? ⟨b1, 0, none⟩ = some (.int .i64 taken))
    (h2 : w.cell? ⟨b2, 0, none⟩ = some (.bool okb)) (h3 : w.cell? ⟨b3, 0, none⟩ = some (.int .i64 kind)) (h4 : w.cell? ⟨b4, 0, none⟩ = some (.pointer (some ⟨g, 0, none⟩)))
    (_n0 : b0 ≠ g) (_n1 : b1 ≠ g) (_n2 : b2 ≠ g) (_n3 : b3 ≠ g) (_n4 : b4 ≠ g) (lo : 0 ≤ m.cn + taken) (hi : m.cn + taken ≤ 9223372036854775807) :
    CallsD Try.prog 94 #[.pointer (some ⟨b0, 0, none⟩), .pointer (some ⟨b1, 0, none⟩), .pointer (some ⟨b2, 0, none⟩), .pointer (some ⟨b3, 0, none⟩), .pointer (some ⟨b4, 0, none⟩)] .returning w
      fun e u w' => u = .returning ∧ (e = .returned (.tuple #[]) ∧ IsM w' g (if okb then m.addC taken else { m.addC taken with rf := kind }) ∧ Keep [g] w w' ∧ w'.heap.size = w.heap.size) := by
  go_enter_d Try.func94, Try.ntmps94
  have c0 := blk_cell hg 3
  have c1 := blk_cell hg 4
  have c6 := blk_cell hg 6
  have f0 := blk_free hg 3
  have f1 := blk_free hg 4
  have f6 := blk_free hg 6
  simp only [List.getElem?_toArray, List.getElem?_cons_zero, List.getElem?_cons_succ] at c0 c1 c6
  go_wp2
  go_region
  go_wp2
  go_region
  obtain ⟨pk, hpk⟩ : ∃ pk : Int, pk = (if m.cp < m.cn + taken then m.cn + taken else m.cp) := ⟨_, rfl⟩
  rw [← hpk]
  have Hpk := hid hpk
  clear hpk
  cases okb
  all_goals
    go_wp2
    go_end0
    refine ⟨rfl, ?_, ?_, by simp [World.setCell, World.drew]⟩
    · have h := hg
      unfold IsM at h ⊢
      simp only [World.drew, World.setCell, Array.getElem?_modify, if_true, h, Option.map_some]
      simp [MS.addC, Hpk.out]
    · repeat (first | exact Keep.refl _ _ | apply Keep.drew | refine Keep.set ?_ (.inl (by simp)) _)

set_option maxHeartbeats 1600000 in
theorem charge_S_early (g : Nat) (m : MS) (n kind : Int) (w : World) (hg : IsM w g m) (he : n < 0 ∨ m.rf ≠ 0) :
    Calls Try.prog 84 #[.pointer (some ⟨g, 0, none⟩), .pointer (some ⟨g, 0, none⟩), .int .i64 n, .int .i64 kind] w
      fun e w' => e = .returned (.bool false) ∧ Keep [] w w' := by
  have hlt := blk_lt hg
  have l1 : g < w.heap.size + 1 := by omega
  have l2 : g < w.heap.size + 1 + 1 := by omega
  have l3 : g < w.heap.size + 1 + 1 + 1 := by omega
  have l4 : g < w.heap.size + 1 + 1 + 1 + 1 := by omega
  have c6 := blk_cell hg 6
  have cn := blk_cell hg 0
  have cb := blk_cell hg 2
  simp only [List.getElem?_toArray, List.getElem?_cons_zero, List.getElem?_cons_succ] at c6 cn cb
  have hmf := makeFunc_run
  by_cases h : n < 0
  · go_enter_defers Try.func84, Try.ntmps84
    go_wp2
    simp [bodyPostD, Leaves, settle, results, Try.results84, go_sem]
    exact ((((Keep.refl _ _).alloc _).alloc _).alloc _).alloc _
  · have hr : (m.rf != 0) = true := by simpa using he.resolve_left h
    go_enter_defers Try.func84, Try.ntmps84
    go_wp2
    simp [bodyPostD, Leaves, settle, results, Try.results84, go_sem]
    exact ((((Keep.refl _ _).alloc _).alloc _).alloc _).alloc _
set_option maxHeartbeats 1600000 in
theorem charge_S_fine (g : Nat) (m : MS) (n kind : Int) (w : World) (hg : IsM w g m) (hn : 0 ≤ n) (hr : m.rf = 0) (hf : n ≤ m.sb - m.sn) (lo : 0 ≤ m.sn) (hi : m.sb ≤ 9223372036854775807) :
    Calls Try.prog 84 #[.pointer (some ⟨g, 0, none⟩), .pointer (some ⟨g, 0, none⟩), .int .i64 n, .int .i64 kind] w
      fun e w' => e = .returned (.bool true) ∧ IsM w' g (m.addS n) ∧ Keep [g] w w' := by
  have hlt := blk_lt hg
  have l1 : g < w.heap.size + 1 := by omega
  have l2 : g < w.heap.size + 1 + 1 := by omega
  have l3 : g < w.heap.size + 1 + 1 + 1 := by omega
  have l4 : g < w.heap.size + 1 + 1 + 1 + 1 := by omega
  have c6 := blk_cell hg 6
  have cn := blk_cell hg 0
  have cb := blk_cell hg 2
  simp only [List.getElem?_toArray, List.getElem?_cons_zero, List.getElem?_cons_succ] at c6 cn cb
  have hmf := makeFunc_run
  have hrb : (m.rf != 0) = false := by simp [hr]
  clear hr
  go_enter_defers Try.func84, Try.ntmps84
  go_wp2
  go_quiet (fail)
  go_wp2
  refine leaves_cons (f := 94) (args := #[.pointer (some ⟨w.heap.size + 1, 0, none⟩), .pointer (some ⟨w.heap.size + 1 + 1 + 1 + 1, 0, none⟩), .pointer (some ⟨w.heap.size + 1 + 1 + 1, 0, none⟩), .pointer (some ⟨w.heap.size + 1 + 1, 0, none⟩), .pointer (some ⟨w.heap.size, 0, none⟩)]) (by simp) (by simp [go_sem]) ?_
  refine (charge1_S g (w.heap.size + 1) (w.heap.size + 1 + 1 + 1 + 1) (w.heap.size + 1 + 1 + 1) (w.heap.size + 1 + 1) w.heap.size m (n) kind true _ ?_ ?_ ?_ ?_ ?_ ?_ (by omega) (by omega) (by omega) (by omega) (by omega) (by omega) (by omega)).mono ?_
  · repeat (first | exact hg | refine blk_far ?_ (by simp; omega) _ | refine blk_drewN ?_ _ | refine blk_alloc ?_ _)
  · simp [go_sem]
  · simp [go_sem]
  · simp [go_sem]
  · simp [go_sem]
  · simp [go_sem]
  rintro e u w2 ⟨rfl, rfl, hM, hK, hS⟩
  have hok : w2.cell? ⟨w.heap.size + 1 + 1 + 1, 0, none⟩ = some (.bool true) := by
    rw [World.cell?_of_block (hK.block _ (by simp [World.setCell, World.drewN]) (by simp; omega))]
    simp [go_sem]
  simp [Leaves, settle, results, Try.results84, go_sem, hok]
  refine ⟨hM, Keep.then ?_ hK (by simp)⟩
  refine Keep.set ?_ (.inr (by simp; omega)) _
  exact ((((((Keep.refl _ _).alloc _).alloc _).alloc _).alloc _).alloc _).drewN _
set_option maxHeartbeats 1600000 in
theorem charge_S_over (g : Nat) (m : MS) (n kind : Int) (w : World) (hg : IsM w g m) (hr : m.rf = 0) (hf : m.sb - m.sn < n) (lo : 0 ≤ m.sn) (lb : m.sn ≤ m.sb) (hi : m.sb ≤ 9223372036854775807) :
    Calls Try.prog 84 #[.pointer (some ⟨g, 0, none⟩), .pointer (some ⟨g, 0, none⟩), .int .i64 n, .int .i64 kind] w
      fun e w' => e = .returned (.bool false) ∧ IsM w' g { m.addS (m.sb - m.sn) with rf := kind } ∧ Keep [g] w w' := by
  have hlt := blk_lt hg
  have l1 : g < w.heap.size + 1 := by omega
  have l2 : g < w.heap.size + 1 + 1 := by omega
  have l3 : g < w.heap.size + 1 + 1 + 1 := by omega
  have l4 : g < w.heap.size + 1 + 1 + 1 + 1 := by omega
  have c6 := blk_cell hg 6
  have cn := blk_cell hg 0
  have cb := blk_cell hg 2
  simp only [List.getElem?_toArray, List.getElem?_cons_zero, List.getElem?_cons_succ] at c6 cn cb
  have hmf := makeFunc_run
  have hrb : (m.rf != 0) = false := by simp [hr]
  have hn : 0 ≤ n := by omega
  clear hr
  go_enter_defers Try.func84, Try.ntmps84
  go_wp2
  go_quiet (fail)
  go_wp2
  refine leaves_cons (f := 94) (args := #[.pointer (some ⟨w.heap.size + 1, 0, none⟩), .pointer (some ⟨w.heap.size + 1 + 1 + 1 + 1, 0, none⟩), .pointer (some ⟨w.heap.size + 1 + 1 + 1, 0, none⟩), .pointer (some ⟨w.heap.size + 1 + 1, 0, none⟩), .pointer (some ⟨w.heap.size, 0, none⟩)]) (by simp) (by simp [go_sem]) ?_
  refine (charge1_S g (w.heap.size + 1) (w.heap.size + 1 + 1 + 1 + 1) (w.heap.size + 1 + 1 + 1) (w.heap.size + 1 + 1) w.heap.size m (m.sb - m.sn) kind false _ ?_ ?_ ?_ ?_ ?_ ?_ (by omega) (by omega) (by omega) (by omega) (by omega) (by omega) (by omega)).mono ?_
  · repeat (first | exact hg | refine blk_far ?_ (by simp; omega) _ | refine blk_drewN ?_ _ | refine blk_alloc ?_ _)
  · simp [go_sem]
  · simp [go_sem]
  · simp [go_sem]
  · simp [go_sem]
  · simp [go_sem]
  rintro e u w2 ⟨rfl, rfl, hM, hK, hS⟩
  have hok : w2.cell? ⟨w.heap.size + 1 + 1 + 1, 0, none⟩ = some (.bool false) := by
    rw [World.cell?_of_block (hK.block _ (by simp [World.setCell, World.drewN]) (by simp; omega))]
    simp [go_sem]
  simp [Leaves, settle, results, Try.results84, go_sem, hok]
  refine ⟨hM, Keep.then ?_ hK (by simp)⟩
  refine Keep.set (Keep.set ?_ (.inr (by simp; omega)) _) (.inr (by simp; omega)) _
  exact ((((((Keep.refl _ _).alloc _).alloc _).alloc _).alloc _).alloc _).drewN _

set_option maxHeartbeats 1600000 in
theorem charge_C_early (g : Nat) (m : MS) (n kind : Int) (w : World) (hg : IsM w g m) (he : n < 0 ∨ m.rf ≠ 0) :
    Calls Try.prog 84 #[.pointer (some ⟨g, 0, none⟩), .pointer (some ⟨g, 3, none⟩), .int .i64 n, .int .i64 kind] w
      fun e w' => e = .returned (.bool false) ∧ Keep [] w w' := by
  have hlt := blk_lt hg
  have l1 : g < w.heap.size + 1 := by omega
  have l2 : g < w.heap.size + 1 + 1 := by omega
  have l3 : g < w.heap.size + 1 + 1 + 1 := by omega
  have l4 : g < w.heap.size + 1 + 1 + 1 + 1 := by omega
  have c6 := blk_cell hg 6
  have cn := blk_cell hg 3
  have cb := blk_cell hg 5
  simp only [List.getElem?_toArray, List.getElem?_cons_zero, List.getElem?_cons_succ] at c6 cn cb
  have hmf := makeFunc_run
  by_cases h : n < 0
  · go_enter_defers Try.func84, Try.ntmps84
    go_wp2
    simp [bodyPostD, Leaves, settle, results, Try.results84, go_sem]
    exact ((((Keep.refl _ _).alloc _).alloc _).alloc _).alloc _
  · have hr : (m.rf != 0) = true := by simpa using he.resolve_left h
    go_enter_defers Try.func84, Try.ntmps84
    go_wp2
    simp [bodyPostD, Leaves, settle, results, Try.results84, go_sem]
    exact ((((Keep.refl _ _).alloc _).alloc _).alloc _).alloc _
set_option maxHeartbeats 1600000 in
theorem charge_C_fine (g : Nat) (m : MS) (n kind : Int) (w : World) (hg : IsM w g m) (hn : 0 ≤ n) (hr : m.rf = 0) (hf : n ≤ m.cb - m.cn) (lo : 0 ≤ m.cn) (hi : m.cb ≤ 9223372036854775807) :
    Calls Try.prog 84 #[.pointer (some ⟨g, 0, none⟩), .pointer (some ⟨g, 3, none⟩), .int .i64 n, .int .i64 kind] w
      fun e w' => e = .returned (.bool true) ∧ IsM w' g (m.addC n) ∧ Keep [g] w w' := by
  have hlt := blk_lt hg
  have l1 : g < w.heap.size + 1 := by omega
  have l2 : g < w.heap.size + 1 + 1 := by omega
  have l3 : g < w.heap.size + 1 + 1 + 1 := by omega
  have l4 : g < w.heap.size + 1 + 1 + 1 + 1 := by omega
  have c6 := blk_cell hg 6
  have cn := blk_cell hg 3
  have cb := blk_cell hg 5
  simp only [List.getElem?_toArray, List.getElem?_cons_zero, List.getElem?_cons_succ] at c6 cn cb
  have hmf := makeFunc_run
  have hrb : (m.rf != 0) = false := by simp [hr]
  clear hr
  go_enter_defers Try.func84, Try.ntmps84
  go_wp2
  go_quiet (fail)
  go_wp2
  refine leaves_cons (f := 94) (args := #[.pointer (some ⟨w.heap.size + 1, 0, none⟩), .pointer (some ⟨w.heap.size + 1 + 1 + 1 + 1, 0, none⟩), .pointer (some ⟨w.heap.size + 1 + 1 + 1, 0, none⟩), .pointer (some ⟨w.heap.size + 1 + 1, 0, none⟩), .pointer (some ⟨w.heap.size, 0, none⟩)]) (by simp) (by simp [go_sem]) ?_
  refine (charge1_C g (w.heap.size + 1) (w.heap.size + 1 + 1 + 1 + 1) (w.heap.size + 1 + 1 + 1) (w.heap.size + 1 + 1) w.heap.size m (n) kind true _ ?_ ?_ ?_ ?_ ?_ ?_ (by omega) (by omega) (by omega) (by omega) (by omega) (by omega) (by omega)).mono ?_
  · repeat (first | exact hg | refine blk_far ?_ (by simp; omega) _ | refine blk_drewN ?_ _ | refine blk_alloc ?_ _)
  · simp [go_sem]
  · simp [go_sem]
  · simp [go_sem]
  · simp [go_sem]
  · simp [go_sem]
  rintro e u w2 ⟨rfl, rfl, hM, hK, hS⟩
  have hok : w2.cell? ⟨w.heap.size + 1 + 1 + 1, 0, none⟩ = some (.bool true) := by
    rw [World.cell?_of_block (hK.block _ (by simp [World.setCell, World.drewN]) (by simp; omega))]
    simp [go_sem]
  simp [Leaves, settle, results, Try.results84, go_sem, hok]
  refine ⟨hM, Keep.then ?_ hK (by simp)⟩
  refine Keep.set ?_ (.inr (by simp; omega)) _
  exact ((((((Keep.refl _ _).alloc _).alloc _).alloc _).alloc _).alloc _).drewN _
set_option maxHeartbeats 1600000 in
theorem charge_C_over (g : Nat) (m : MS) (n kind : Int) (w : World) (hg : IsM w g m) (hr : m.rf = 0) (hf : m.cb - m.cn < n) (lo : 0 ≤ m.cn) (lb : m.cn ≤ m.cb) (hi : m.cb ≤ 9223372036854775807) :
    Calls Try.prog 84 #[.pointer (some ⟨g, 0, none⟩), .pointer (some ⟨g, 3, none⟩), .int .i64 n, .int .i64 kind] w
      fun e w' => e = .returned (.bool false) ∧ IsM w' g { m.addC (m.cb - m.cn) with rf := kind } ∧ Keep [g] w w' := by
  have hlt := blk_lt hg
  have l1 : g < w.heap.size + 1 := by omega
  have l2 : g < w.heap.size + 1 + 1 := by omega
  have l3 : g < w.heap.size + 1 + 1 + 1 := by omega
  have l4 : g < w.heap.size + 1 + 1 + 1 + 1 := by omega
  have c6 := blk_cell hg 6
  have cn := blk_cell hg 3
  have cb := blk_cell hg 5
  simp only [List.getElem?_toArray, List.getElem?_cons_zero, List.getElem?_cons_succ] at c6 cn cb
  have hmf := makeFunc_run
  have hrb : (m.rf != 0) = false := by simp [hr]
  have hn : 0 ≤ n := by omega
  clear hr
  go_enter_defers Try.func84, Try.ntmps84
  go_wp2
  go_quiet (fail)
  go_wp2
  refine leaves_cons (f := 94) (args := #[.pointer (some ⟨w.heap.size + 1, 0, none⟩), .pointer (some ⟨w.heap.size + 1 + 1 + 1 + 1, 0, none⟩), .pointer (some ⟨w.heap.size + 1 + 1 + 1, 0, none⟩), .pointer (some ⟨w.heap.size + 1 + 1, 0, none⟩), .pointer (some ⟨w.heap.size, 0, none⟩)]) (by simp) (by simp [go_sem]) ?_
  refine (charge1_C g (w.heap.size + 1) (w.heap.size + 1 + 1 + 1 + 1) (w.heap.size + 1 + 1 + 1) (w.heap.size + 1 + 1) w.heap.size m (m.cb - m.cn) kind false _ ?_ ?_ ?_ ?_ ?_ ?_ (by omega) (by omega) (by omega) (by omega) (by omega) (by omega) (by omega)).mono ?_
  · repeat (first | exact hg | refine blk_far ?_ (by simp; omega) _ | refine blk_drewN ?_ _ | refine blk_alloc ?_ _)
  · simp [go_sem]
  · simp [go_sem]
  · simp [go_sem]
  · simp [go_sem]
  · simp [go_sem]
  rintro e u w2 ⟨rfl, rfl, hM, hK, hS⟩
  have hok : w2.cell? ⟨w.heap.size + 1 + 1 + 1, 0, none⟩ = some (.bool false) := by
    rw [World.cell?_of_block (hK.block _ (by simp [World.setCell, World.drewN]) (by simp; omega))]
    simp [go_sem]
  simp [Leaves, settle, results, Try.results84, go_sem, hok]
  refine ⟨hM, Keep.then ?_ hK (by simp)⟩
  refine Keep.set (Keep.set ?_ (.inr (by simp; omega)) _) (.inr (by simp; omega)) _
  exact ((((((Keep.refl _ _).alloc _).alloc _).alloc _).alloc _).alloc _).drewN _

end Go.Proofs.Ythcfgechifogeaa
