/- Font: rows of bytes: number, the reference's laid, as one contract; the plain words of a font's bytes. -/
import Derived.Test.YthcfgechifogeaaFnSum
import Derived.Test.YthcfgechifogeaaHeldLex
import Derived.Laws.IdiomStrings
import Derived.StillTailTactics
namespace Go.Proofs.Ythcfgechifogeaa
open Go.RowKit
set_option linter.unusedSimpArgs false
set_option linter.unusedVariables false

theorem digs_len (k W : Nat) : (digs k W).length = W := by simp [digs]
theorem digs_succ (k W : Nat) : digs k (W + 1) = (k / 2 ^ (8 * W) % 256) :: digs k W := by
  unfold digs
  rw [List.range_succ_eq_map, List.map_cons, List.map_map]
  congr 1
  apply List.map_congr_left
  intro j hj
  have hj := List.mem_range.1 hj
  simp only [Function.comp_apply, dig]
  rw [show W + 1 - 1 - (j + 1) = W - 1 - j by omega]
theorem digs_lt {k W x : Nat} (h : x ∈ digs k W) : x < 256 := by
  obtain ⟨j, _, rfl⟩ := List.mem_map.1 h
  exact Nat.mod_lt _ (by omega)
def AllB (l : List Nat) : Prop := ∀ x ∈ l, x < 256
theorem AllB.app {a b : List Nat} (h : AllB a) (k : AllB b) : AllB (a ++ b) := fun x hx => (List.mem_append.1 hx).elim (h x) (k x)
theorem AllB.digs (k W : Nat) : AllB (digs k W) := fun _ h => digs_lt h
theorem AllB.nil : AllB [] := fun _ h => nomatch h

/-- A row of bytes of its own. -/
def RowB (base : Nat) (w : World) (v : Value) (l : List Nat) : Prop := ∃ A c, v = .slice A l.length c ∧ w.ownsRow base 5 1 (.slice A l.length c) l.length (l.map byV)
/-- What is not of bytes stays. -/
structure KeepB (base : Nat) (w w' : World) : Prop where
  below : Below base w w'
  size : w.heap.size ≤ w'.heap.size
  cells : ∀ (g : Nat) (cs : Array Value) (t : TypeId) (fr : Nat × Nat), t ≠ 5 → w.heap[g]? = some (.cells cs t fr) → w'.heap[g]? = some (.cells cs t fr)
theorem KeepB.refl (base : Nat) (w : World) : KeepB base w w := ⟨Below.refl _ _, Nat.le_refl _, fun _ _ _ _ _ h => h⟩
theorem KeepB.trans {base : Nat} {a b c : World} (h : KeepB base a b) (k : KeepB base b c) : KeepB base a c := ⟨h.below.trans k.below, Nat.le_trans h.size k.size, fun g cs t fr ht hg => k.cells g cs t fr ht (h.cells g cs t fr ht hg)⟩
theorem KeepB.grown {base : Nat} {w w' : World} {v : Value} {n : Nat} {xs : List Value} (h : w.ownsRow base 5 1 v n xs) (hb : base ≤ w.heap.size) (g : w.grownBy w' v.ownBlock) : KeepB base w w' :=
  ⟨(Below.refl _ _).grown g hb (fun k e => (own_base h k e).1), g.size, fun b cs t fr ht hg => blk_grown hg g (own_ne h hg (Ne.symm ht))⟩
theorem RowB.nil (base : Nat) (w : World) : RowB base w (.slice none 0 0) [] := ⟨none, 0, rfl, World.ownsRow_nil _ _ _ _⟩
theorem RowB.alloc {base : Nat} {w : World} {v : Value} {l : List Nat} (h : RowB base w v l) (o : Obj) : RowB base (w.alloc o) v l := by
  obtain ⟨A, c, rfl, h⟩ := h
  exact ⟨A, c, rfl, h.alloc o⟩
theorem RowB.drew {base : Nat} {w : World} {v : Value} {l : List Nat} (h : RowB base w v l) : RowB base w.drew v l := by
  obtain ⟨A, c, rfl, h⟩ := h
  exact ⟨A, c, rfl, own_keep h (Keep.refl [] w).drew (by simp)⟩

theorem number_at (base : Nat) (v : Value) (l : List Nat) (kI WI : Int) (W : Nat) (w : World) (hW : WI = (W : Int)) (ho : RowB base w v l) (hb : base ≤ w.heap.size) (h0 : 0 ≤ kI) (hk : kI ≤ 9223372036854775807) (h1 : 1 ≤ W) (h4 : W ≤ 4) (hn : l.length ≤ 140737488000000) :
    Calls Try.prog 51 #[v, .int .i64 kI, .int .i64 WI] w fun e w' => ∃ v', e = .returned v' ∧ RowB base w' v' (l ++ digs kI.toNat W) ∧ KeepB base w w' := by
  obtain ⟨A, c, rfl, ho⟩ := ho
  obtain ⟨k, rfl⟩ := Int.eq_ofNat_of_zero_le h0
  subst hW
  rw [Int.toNat_natCast]
  refine (number_any base _ l.length _ k W w ho hb (by omega) h1 h4 hn).mono ?_
  rintro e w' ⟨A', c', rfl, O, G⟩
  refine ⟨_, rfl, ⟨A', c', ?_, ?_⟩, KeepB.grown ho hb G⟩
  · rw [List.length_append, digs_len]
  · rw [List.length_append, digs_len, List.map_append]
    exact O

/-- A literal's row: read alone, without room. -/
def LitB (w : World) (b : Nat) (l : List Nat) : Prop := ∀ j u, (l.map byV)[j]? = some u → w.cell? ((⟨b, 0, none⟩ : Addr).add j) = some u
theorem LitB.new {w : World} {l : List Nat} {cs : Array Value} {t : TypeId} {fr : Nat × Nat} (h : cs.toList = l.map byV) : LitB (w.alloc (.cells cs t fr)) w.heap.size l := fun j u hj => by
  rw [add_zero_at, World.cell?_alloc_mark, ← Array.getElem?_toList, h]
  exact hj
theorem number_lit_at (base : Nat) (b : Nat) (l : List Nat) (n : Nat) (kI WI : Int) (W : Nat) (w : World) (hW : WI = (W : Int)) (hn : l.length = n) (ho : LitB w b l) (hb : base ≤ w.heap.size) (h0 : 0 ≤ kI) (hk : kI ≤ 9223372036854775807) (h1 : 1 ≤ W) (h4 : W ≤ 4) (hl : n ≤ 140737488000000) :
    Calls Try.prog 51 #[.slice (some ⟨b, 0, none⟩) n n, .int .i64 kI, .int .i64 WI] w fun e w' => ∃ v', e = .returned v' ∧ RowB base w' v' (l ++ digs kI.toNat W) ∧ KeepB base w w' := by
  subst hn
  obtain ⟨k, rfl⟩ := Int.eq_ofNat_of_zero_le h0
  subst hW
  rw [Int.toNat_natCast]
  refine (number_lit base ⟨b, 0, none⟩ l.length (l.map byV) k W w (by simp) ho hb (by omega) h1 h4 hl).mono ?_
  rintro e w' ⟨A', c', rfl, O, G⟩
  refine ⟨_, rfl, ⟨A', c', ?_, ?_⟩, (Below.refl _ _).grown G hb (fun k e => nomatch e), G.size, fun b cs t fr ht hg => blk_grown hg G (by simp)⟩
  · rw [List.length_append, digs_len]
  · rw [List.length_append, digs_len, List.map_append]
    exact O
theorem flat_by (l : List Nat) : l.flatMap byRow = l.map byV := by induction l with | nil => rfl | cons x r ih => simp_all [byRow]
theorem bytes_own {base : Nat} {w : World} {v : Value} {l : List Nat} (h : RowB base w v l) : ∃ A c, v = .slice A l.length c ∧ Rd byRow 1 w A l ∧ (A = none → l.length = 0) := by
  obtain ⟨A, c, rfl, h⟩ := h
  have h' : w.ownsRow base 5 1 (.slice A l.length c) l.length (l.flatMap byRow) := by
    rw [flat_by]; exact h
  obtain ⟨A', cap, e, _, hr, _⟩ := own_rd (enc := byRow) (fun _ => rfl) h'
  simp at e
  obtain ⟨rfl, rfl⟩ := e
  refine ⟨A, c, rfl, hr, fun e => ?_⟩
  subst e
  rcases h.2 with ⟨_, h1⟩ | ⟨g, cap, cur, h1, _⟩
  · exact h1
  · simp at h1

/-- A string of these bytes. -/
def SB (l : List Nat) : ByteArray := ⟨(l.map UInt8.ofNat).toArray⟩
theorem SB_size (l : List Nat) : (SB l).size = l.length := by show (l.map UInt8.ofNat).toArray.size = _; simp
theorem string_row {base : Nat} {w : World} {A : Option Addr} {c : Nat} {l : List Nat} (h : w.ownsRow base 5 1 (.slice A l.length c) l.length (l.map byV)) (hl : AllB l) (h0 : 0 < l.length) :
    (convert 66 9 (.slice A l.length c)).run Try.prog w = .ok (.string (SB l)) w := by
  cases A with
  | none =>
    rcases h.2 with ⟨_, h1⟩ | ⟨g, cap, cur, h1, _⟩
    · omega
    · simp at h1
  | some ad =>
    have hb := h
    obtain ⟨g, hg⟩ : ∃ g, ad = ⟨g, 0, none⟩ := by
      rcases h.2 with ⟨h1, _⟩ | ⟨g, cap, cur, h1, _⟩
      · cases h1
      · exact ⟨g, by simpa using (Value.slice.inj h1).1⟩
    subst hg
    have e := run_convert_bytes_back (P := Try.prog) w 66 9 5 ⟨g, 0, none⟩ c (l.map UInt8.ofNat) (by kernel_rfl) (by kernel_rfl) (by kernel_rfl) (fun j hj => by
      have hj' : j < l.length := by simpa using hj
      have hx := hl l[j] (List.getElem_mem _)
      rw [hb.cells (g := g) rfl j (byV l[j]) (by rw [List.getElem?_map, List.getElem?_eq_getElem hj']; rfl)]
      simp [byV, Nat.mod_eq_of_lt hx])
    rw [List.length_map] at e
    exact e
/-- The sum of a row. -/
theorem sum_at (base : Nat) (v : Value) (l : List Nat) (w : World) (h : RowB base w v l) (hl : l.length ≤ 140737488355328) (hb : AllB l) :
    Calls Try.prog 52 #[v] w fun e w' => e = .returned (.int .u32 (sumX l : Int)) ∧ w' = w := by
  obtain ⟨A, c, rfl, hr, _⟩ := bytes_own h
  exact sum_any A c l w hr hl hb
theorem string_at {base : Nat} {w : World} {v : Value} {l : List Nat} (h : RowB base w v l) (hl : AllB l) (h0 : 0 < l.length) : (convert 66 9 v).run Try.prog w = .ok (.string (SB l)) w := by
  obtain ⟨A, c, rfl, ho⟩ := h
  exact string_row ho hl h0
end Go.Proofs.Ythcfgechifogeaa
