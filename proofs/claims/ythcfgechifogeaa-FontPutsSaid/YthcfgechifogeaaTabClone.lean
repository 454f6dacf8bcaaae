/- slices.Clone at glyphs and pairs. -/
import Derived.Test.YthcfgechifogeaaTab
import Derived.WalkSpells
namespace Go.Proofs.Ythcfgechifogeaa
open Go.RowKit Go.Maps
set_option linter.unusedSimpArgs false
set_option linter.unusedVariables false

def ClonePost {α : Type} (enc : α → List Value) (sz : Nat) (T : TypeId) (xs : List α) (w : World) (e : Ending) (w' : World) : Prop :=
  ∃ A c, e = .returned (.slice A xs.length c) ∧ w'.ownsRow w.heap.size T sz (.slice A xs.length c) xs.length (xs.flatMap enc) ∧ Keep [] w w'

set_option maxHeartbeats 1000000 in
theorem cloneG (A : Option Addr) (c : Nat) (gs : List GlyphX) (w : World) (hr : Rd GlyphX.row 4 w A gs) (hA : A = none → gs.length = 0) (hl : gs.length ≤ 2147483647) :
    Calls Try.prog 38 #[.slice A gs.length c] w fun e w' => ClonePost GlyphX.row 4 45 gs w e w' := by
  have hn : ∀ w : World, (binOp .eql 22 (.slice A gs.length c) (.slice none 0 0)).run Try.prog w = .ok (.bool A.isNone) w := fun w => Lib.run_eql_slice_nil w _ _ _ _ _ _ _ Try.underlying22
  have hn1 := hn w
  clear hn
  rcases A with _ | ad
  · have h0 := hA rfl
    obtain rfl := List.eq_nil_of_length_eq_zero h0
    simp only [Option.isNone_none, List.length_nil] at hn1 ⊢
    go_enter Try.func38, Try.ntmps38
    go_wp2
    go_ret
    exact ⟨none, 0, rfl, World.ownsRow_nil _ _ _ _, Keep.refl _ _⟩
  · simp only [Option.isNone_some] at hn1
    have O1 := World.ownsRow_lit (base := w.heap.size) (e := 45) (size := 4) w #[] 0 (Nat.le_refl _) (by simp [maxLen]) rfl
    have r1 := hr.old ((Keep.refl [] w).alloc (.cells #[] 45)) (by simp)
    go_enter Try.func38, Try.ntmps38
    go_wp2_with (at_builtin; (refine append_list (enc := GlyphX.row) rfl _ _ 22 (.agg #[.int .i64 0, .int .i64 0, .int .i64 0, .int .i64 0]) 4 32 rfl (by kernel_rfl) (by kernel_rfl) (by kernel_rfl) (by decide) (by decide) w.heap.size (.slice (some ⟨w.heap.size, 0, none⟩) 0 0) 0 _ rfl rfl rfl (fun h => nomatch h) r1 row4 one4 O1 (by simp) (by omega) ?_; rintro v2 w2 O2 G2))
    have K2 : Keep [] w w2 := Keep.grown ((Keep.refl _ _).alloc _) G2 (fun k hk => .inr (by simp [Value.ownBlock] at hk; omega))
    simp only [Nat.zero_add, List.nil_append] at O2
    obtain ⟨A2, c2, e2, _⟩ := own_rd row4 O2
    go_ret
    subst e2
    exact ⟨A2, c2, rfl, O2, K2⟩

set_option maxHeartbeats 1000000 in
theorem cloneP (A : Option Addr) (c : Nat) (ps : List PairX) (w : World) (hr : Rd PairX.row 5 w A ps) (hA : A = none → ps.length = 0) (hl : ps.length ≤ 2147483647) :
    Calls Try.prog 39 #[.slice A ps.length c] w fun e w' => ClonePost PairX.row 5 52 ps w e w' := by
  have hn : ∀ w : World, (binOp .eql 23 (.slice A ps.length c) (.slice none 0 0)).run Try.prog w = .ok (.bool A.isNone) w := fun w => Lib.run_eql_slice_nil w _ _ _ _ _ _ _ Try.underlying23
  have hn1 := hn w
  clear hn
  rcases A with _ | ad
  · have h0 := hA rfl
    obtain rfl := List.eq_nil_of_length_eq_zero h0
    simp only [Option.isNone_none, List.length_nil] at hn1 ⊢
    go_enter Try.func39, Try.ntmps39
    go_wp2
    go_ret
    exact ⟨none, 0, rfl, World.ownsRow_nil _ _ _ _, Keep.refl _ _⟩
  · simp only [Option.isNone_some] at hn1
    have O1 := World.ownsRow_lit (base := w.heap.size) (e := 52) (size := 5) w #[] 0 (Nat.le_refl _) (by simp [maxLen]) rfl
    have r1 := hr.old ((Keep.refl [] w).alloc (.cells #[] 52)) (by simp)
    go_enter Try.func39, Try.ntmps39
    go_wp2_with (at_builtin; (refine append_list (enc := PairX.row) rfl _ _ 23 (.agg #[.int .i64 0, .int .i64 0, .bool false, .int .i64 0, .int .i64 0]) 5 40 rfl (by kernel_rfl) (by kernel_rfl) (by kernel_rfl) (by decide) (by decide) w.heap.size (.slice (some ⟨w.heap.size, 0, none⟩) 0 0) 0 _ rfl rfl rfl (fun h => nomatch h) r1 row5 one5 O1 (by simp) (by omega) ?_; rintro v2 w2 O2 G2))
    have K2 : Keep [] w w2 := Keep.grown ((Keep.refl _ _).alloc _) G2 (fun k hk => .inr (by simp [Value.ownBlock] at hk; omega))
    simp only [Nat.zero_add, List.nil_append] at O2
    obtain ⟨A2, c2, e2, _⟩ := own_rd row5 O2
    go_ret
    subst e2
    exact ⟨A2, c2, rfl, O2, K2⟩

end Go.Proofs.Ythcfgechifogeaa
