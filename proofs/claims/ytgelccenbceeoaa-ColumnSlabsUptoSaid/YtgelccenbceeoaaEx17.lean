/- What the document's examples of layer 17 need. -/
import Derived.Test.YtgelccenbceeoaaSlabs
import Derived.Test.YtgelccenbceeoaaRef17
import Derived.Test.YtgelccenbceeoaaLists
namespace Go.Proofs.Ytgelccenbceeoaa
open Go.RowKit
set_option linter.unusedSimpArgs false
set_option linter.unusedVariables false

def exPar : ParX := ⟨none, 0, 0, 0, 12, 6, 0, 0, 0⟩
def exLine (h d : Int) : LineX := ⟨0, 0, 0, 0, 0, 0, 0, 0, 0, false, false, false, h, d⟩

theorem blk_at {W : World} {o : Obj} {n : Nat} {x : Option Obj} (h : n = W.heap.size) (ho : some o = x) : (W.alloc o).heap[n]? = x := h ▸ (blk_new W o).trans ho

def PlainPost (w : World) (e : Ending) (w' : World) : Prop :=
  ∃ a b c d : Nat, e = .returned (.tuple #[.slice (some ⟨a, 0, none⟩) 2 2, .slice (some ⟨b, 0, none⟩) 2 2]) ∧ w.heap.size ≤ a ∧ w.heap.size ≤ b ∧ w.heap.size ≤ c ∧ w.heap.size ≤ d ∧ Keep [] w w' ∧
    w'.heap[a]? = some (.cells (exPar.row ++ exPar.row).toArray 66 (0, 0)) ∧
    w'.heap[b]? = some (.cells #[.slice (some ⟨c, 0, none⟩) 2 2, .slice (some ⟨d, 0, none⟩) 1 1] 63 (0, 0)) ∧
    w'.heap[c]? = some (.cells ((exLine 7 2).row ++ (exLine 7 6).row).toArray 92 (0, 0)) ∧
    w'.heap[d]? = some (.cells (exLine 9 2).row.toArray 92 (0, 0))

set_option maxHeartbeats 1600000 in
set_option maxRecDepth 100000 in
theorem plain17 (w : World) : Calls Try.prog 54 #[] w fun e w' => PlainPost w e w' := by
  go_enter Try.func54, Try.ntmps54
  go_wp2
  refine bodyPost_ret (v := .tuple #[.slice (some ⟨w.heap.size + 1, 0, none⟩) 2 2, .slice (some ⟨w.heap.size + 4, 0, none⟩) 2 2]) (by simp [results, Try.results54, go_sem]) rfl (show PlainPost w _ _ from ⟨w.heap.size + 1, w.heap.size + 4, w.heap.size + 2, w.heap.size + 3, rfl, by omega, by omega, by omega, by omega, ?_, ?_, ?_, ?_, ?_⟩)
  · repeat (with_reducible first | exact Keep.refl _ _ | refine Keep.drew ?_ | refine Keep.alloc ?_ _ | refine Keep.set ?_ (.inr (by first | exact Nat.le_refl _ | omega)) _)
  all_goals repeat (first | (refine blk_at (by simp; done) ?_; rfl) | (with_reducible refine blk_alloc ?_ _))

def exLines (c d : Nat) : List LinesX := [⟨some ⟨c, 0, none⟩, 2, [exLine 7 2, exLine 7 6]⟩, ⟨some ⟨d, 0, none⟩, 1, [exLine 9 2]⟩]
def exSlabs : List Slab := [⟨0, 0, 7, 2, 12, 6, 0, 0, 2⟩, ⟨0, 1, 7, 6, 12, 0, 0, 1, 2⟩, ⟨1, 0, 9, 2, 15, 6, 0, 0, 1⟩]
theorem ex_slabs (c d : Nat) : slabsAll 0 0 [exPar, exPar] (exLines c d) = exSlabs := by
  simp [slabsAll, exLines, exSlabs, slabsIn, slabAt, depthIn, exPar, exLine, cl, gr]

theorem ex_pars {W : World} {a : Nat} (h : W.heap[a]? = some (.cells (exPar.row ++ exPar.row).toArray 66 (0, 0))) : Rd ParX.row 7 W (some ⟨a, 0, none⟩) [exPar, exPar] :=
  Rd.of_block h (fun i x j v hx hv => by simpa using flat_get (enc := ParX.row) (sz := 7) (fun _ => rfl) [exPar, exPar] i j x v hx hv)
theorem ex_lines {W : World} {b c d : Nat} (h : W.heap[b]? = some (.cells #[.slice (some ⟨c, 0, none⟩) 2 2, .slice (some ⟨d, 0, none⟩) 1 1] 63 (0, 0))) : Rd LinesX.row 1 W (some ⟨b, 0, none⟩) (exLines c d) :=
  Rd.of_block h (fun i x j v hx hv => by simpa [exLines, LinesX.row] using flat_get (enc := LinesX.row) (sz := 1) (fun _ => rfl) (exLines c d) i j x v hx hv)
theorem ex_line {W : World} {c d : Nat} (h : W.heap[c]? = some (.cells ((exLine 7 2).row ++ (exLine 7 6).row).toArray 92 (0, 0))) (h' : W.heap[d]? = some (.cells (exLine 9 2).row.toArray 92 (0, 0))) :
    ∀ x ∈ exLines c d, Rd LineX.row 14 W x.a x.l := by
  intro x hx
  simp [exLines] at hx
  rcases hx with rfl | rfl
  · exact Rd.of_block h (fun i x j v hx hv => by simpa using flat_get (enc := LineX.row) (sz := 14) (fun _ => rfl) [exLine 7 2, exLine 7 6] i j x v hx hv)
  · exact Rd.of_block h' (fun i x j v hx hv => by simpa using flat_get (enc := LineX.row) (sz := 14) (fun _ => rfl) [exLine 9 2] i j x v hx hv)

theorem ex_slabs_any (g : Nat) (m0 : MS) (a b c d : Nat) (w : World) (hg : IsM w g m0) (ok : m0.ok) (B1 : w.heap[a]? = some (.cells (exPar.row ++ exPar.row).toArray 66 (0, 0)))
    (B2 : w.heap[b]? = some (.cells #[.slice (some ⟨c, 0, none⟩) 2 2, .slice (some ⟨d, 0, none⟩) 1 1] 63 (0, 0)))
    (B3 : w.heap[c]? = some (.cells ((exLine 7 2).row ++ (exLine 7 6).row).toArray 92 (0, 0))) (B4 : w.heap[d]? = some (.cells (exLine 9 2).row.toArray 92 (0, 0))) (ha : g < a) (hb : g < b) (hc : g < c) (hd : g < d) :
    Calls Try.prog 38 #[.pointer (some ⟨g, 0, none⟩), .slice (some ⟨a, 0, none⟩) 2 2, .slice (some ⟨b, 0, none⟩) 2 2] w fun e w' => SlabsPost g m0 exSlabs w e w' := by
  have h := slabs_any g m0 (some ⟨a, 0, none⟩) (some ⟨b, 0, none⟩) 2 2 [exPar, exPar] (exLines c d) w hg ok (fun W K => ex_pars (K.blk B1 (by simp; omega))) (fun W K => ex_lines (K.blk B2 (by simp; omega))) (fun W K => ex_line (K.blk B3 (by simp; omega)) (K.blk B4 (by simp; omega))) rfl
    (by rw [ex_slabs]; decide) (by simp) (by intro x hx; simp [exLines] at hx; rcases hx with rfl | rfl <;> simp)
  rw [ex_slabs] at h
  exact h

end Go.Proofs.Ytgelccenbceeoaa
