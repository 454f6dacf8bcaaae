/- Font: which runes are known, and what a pair's runes must be. -/
import Derived.Test.YthcfgechifogeaaFnRight
namespace Go.Proofs.Ythcfgechifogeaa
open Go.RowKit Go.Maps
set_option linter.unusedSimpArgs false
set_option linter.unusedVariables false

theorem map_some {gs : List GlyphX} (r : Int) : ((gFind gs r).map (·.wd)).isSome = (gFind gs r).isSome := by cases gFind gs r <;> rfl

set_option maxRecDepth 100000 in
set_option maxHeartbeats 1000000 in
theorem known_any {w : World} {X : RX} {p : Nat} {k a em : Int} {G P : Value} (gs : List GlyphX) (n m : Nat) (hn : n < 4294967296) (h : IsRd w X p k a em G P) (hmap : MapF Try.prog 3 3 ik InI w X.mb m (fun r => (gFind gs r).map (·.wd))) :
    Calls Try.prog 91 #[.pointer (some ⟨X.rb, 0, none⟩), .int .i64 n] w fun e w' => e = .returned (.bool (knownR gs n)) ∧ Keep [] w w' := by
  have hi : InI (n : Int) := by unfold InI; omega
  obtain ⟨kl, hkl⟩ := keyOf_ik hi
  have hrun := hmap.look keyInt Try.underlying47 Try.underlying3 (by kernel_rfl) hi hkl
  rw [map_some] at hrun
  obtain ⟨v, hv⟩ : ∃ v, ((gFind gs (n : Int)).map (·.wd)).getD 0 = v := ⟨_, rfl⟩
  rw [hv] at hrun
  have hrun' : (Instr.lookup 47 (.map (some X.mb)) (.int .i64 (n : Int)) true).run Try.prog w = .ok (.tuple #[.int .i64 v, .bool (knownR gs n)]) w := hrun
  have HR : w.heap[X.rb]? = _ := h
  obtain ⟨c0, c1, c2, c3, c4, c5, c6, c7, c8⟩ := cells9 HR
  clear hrun hv hkl
  go_enter Try.func91, Try.ntmps91
  go_wp2
  go_ret
  exact ⟨rfl, Keep.refl _ _⟩

set_option maxRecDepth 100000 in
set_option maxHeartbeats 1000000 in
theorem left1_any {w : World} {X : RX} {p : Nat} {k a em : Int} {G P : Value} (gs : List GlyphX) (n m br ba : Nat) (x : Int × Int) (hn : n < 4294967296) (h : IsRd w X p k a em G P) (hmap : MapF Try.prog 3 3 ik InI w X.mb m (fun r => (gFind gs r).map (·.wd)))
    (hr : w.cell? ⟨br, 0, none⟩ = some (.pointer (some ⟨X.rb, 0, none⟩))) (hx : w.cell? ⟨ba, 0, none⟩ = some (.int .i64 x.1)) :
    Calls Try.prog 90 #[.int .i64 n, .pointer (some ⟨br, 0, none⟩), .pointer (some ⟨ba, 0, none⟩)] w fun e w' => e = .returned (.bool (leftR gs x n)) ∧ Keep [] w w' := by
  obtain ⟨x1, x2⟩ := x
  simp only at hx
  have HK := known_any gs n m hn h hmap
  unfold leftR
  obtain ⟨b, hb⟩ : ∃ b, knownR gs n = b := ⟨_, rfl⟩
  rw [hb] at HK ⊢
  clear hb
  have hlt := World.block_lt_of_cell? _ _ hx
  go_enter Try.func90, Try.ntmps90
  go_wp2_with fail
  refine HK.mono ?_
  rintro e w1 ⟨rfl, K1⟩
  have hx1 := K1.cell hx (by simp)
  cases b with
  | true =>
    go_wp2
    go_ret
    refine ret_b ?_ K1
    simp
  | false =>
    go_wp2
    go_ret
    refine ret_b ?_ K1
    simp

set_option maxRecDepth 100000 in
set_option maxHeartbeats 1000000 in
theorem right1_any {w : World} {X : RX} {p : Nat} {k a em : Int} {G P : Value} (gs : List GlyphX) (n m br bp ba lf : Nat) (x : Int × Int) (hn : n < 4294967296) (h : IsRd w X p k a em G P) (hmap : MapF Try.prog 3 3 ik InI w X.mb m (fun r => (gFind gs r).map (·.wd)))
    (hr : w.cell? ⟨br, 0, none⟩ = some (.pointer (some ⟨X.rb, 0, none⟩))) (hp : w.cell? ⟨bp, 0, none⟩ = some (.int .i64 lf)) (hx : w.cell? ⟨ba, 0, none⟩ = some (.int .i64 x.1)) (hy : w.cell? ⟨ba, 1, none⟩ = some (.int .i64 x.2)) :
    Calls Try.prog 92 #[.int .i64 n, .pointer (some ⟨br, 0, none⟩), .pointer (some ⟨bp, 0, none⟩), .pointer (some ⟨ba, 0, none⟩)] w fun e w' => e = .returned (.bool (rightR gs x lf n)) ∧ Keep [] w w' := by
  obtain ⟨x1, x2⟩ := x
  simp only at hx hy
  have HK := known_any gs n m hn h hmap
  unfold rightR
  obtain ⟨b, hb⟩ : ∃ b, knownR gs n = b := ⟨_, rfl⟩
  rw [hb] at HK ⊢
  clear hb
  have hlt := World.block_lt_of_cell? _ _ hx
  go_enter Try.func92, Try.ntmps92
  go_wp2_with fail
  refine HK.mono ?_
  rintro e w1 ⟨rfl, K1⟩
  have hx1 := K1.cell hx (by simp)
  have hy1 := K1.cell hy (by simp)
  have hp1 := K1.cell hp (by simp)
  cases b with
  | true =>
    go_wp2
    all_goals
      go_ret
      refine ret_b ?_ K1
      rw [Bool.eq_iff_iff] <;> simp <;> omega
  | false =>
    go_wp2
    go_ret
    refine ret_b ?_ K1
    simp
end Go.Proofs.Ythcfgechifogeaa
