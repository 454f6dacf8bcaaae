/- The reference's table: its glyph, paired, behind, by contracts. -/
import Derived.Test.YthcfgechifogeaaTabCheck
import Derived.Deep.RegionHeld3
import Derived.Deep.DeepCutAuto
import Derived.Deep.CutBlock
namespace Go.Proofs.Ythcfgechifogeaa
open Go.RowKit Go.Maps
set_option linter.unusedSimpArgs false
set_option linter.unusedVariables false

theorem gFind_snoc (gs : List GlyphX) (g : GlyphX) (r : Int) : gFind (gs ++ [g]) r = match gFind gs r with | some x => some x | none => if g.ru = r then some g else none := by
  unfold gFind
  rw [List.find?_append]
  cases h : gs.find? (fun g => g.ru == r) with
  | some x => simp
  | none => by_cases e : g.ru = r <;> simp [e]
theorem gFind_first {gs : List GlyphX} {k : Nat} {g : GlyphX} {r : Int} (h : gFind (gs.take k) r = none) (hg : gs[k]? = some g) (e : g.ru = r) : gFind gs r = some g := by
  have h1 : gFind (gs.take (k + 1)) r = some g := by rw [take_snoc hg, gFind_snoc, h]; simp [e]
  unfold gFind at h1 ⊢
  rw [← List.take_append_drop (k + 1) gs, List.find?_append, h1]
  rfl
theorem gFind_next {gs : List GlyphX} {k : Nat} {g : GlyphX} {r : Int} (h : gFind (gs.take k) r = none) (hg : gs[k]? = some g) (e : g.ru ≠ r) : gFind (gs.take (k + 1)) r = none := by
  rw [take_snoc hg, gFind_snoc, h]; simp [e]

theorem cells3 {w : World} {n : Nat} {a b c : Value} {t : TypeId} (h : w.heap[n]? = some (.cells #[a, b, c] t (0, 0))) :
    w.cell? ⟨n, 0, none⟩ = some a ∧ w.cell? ⟨n, 1, none⟩ = some b ∧ w.cell? ⟨n, 2, none⟩ = some c ∧
    w.frozen? ⟨n, 0, none⟩ = false ∧ w.frozen? ⟨n, 1, none⟩ = false ∧ w.frozen? ⟨n, 2, none⟩ = false ∧ n < w.heap.size :=
  ⟨blk_cell h 0, blk_cell h 1, blk_cell h 2, blk_free h 0, blk_free h 1, blk_free h 2, blk_lt h⟩
theorem cells4 {w : World} {n : Nat} {a b c d : Value} {t : TypeId} (h : w.heap[n]? = some (.cells #[a, b, c, d] t (0, 0))) :
    w.cell? ⟨n, 0, none⟩ = some a ∧ w.cell? ⟨n, 1, none⟩ = some b ∧ w.cell? ⟨n, 2, none⟩ = some c ∧ w.cell? ⟨n, 3, none⟩ = some d ∧
    w.frozen? ⟨n, 0, none⟩ = false ∧ w.frozen? ⟨n, 1, none⟩ = false ∧ w.frozen? ⟨n, 2, none⟩ = false ∧ w.frozen? ⟨n, 3, none⟩ = false ∧ n < w.heap.size :=
  ⟨blk_cell h 0, blk_cell h 1, blk_cell h 2, blk_cell h 3, blk_free h 0, blk_free h 1, blk_free h 2, blk_free h 3, blk_lt h⟩
theorem set4 {w : World} {n : Nat} {a b c d a' b' c' d' : Value} {t : TypeId} (h : w.heap[n]? = some (.cells #[a, b, c, d] t (0, 0))) :
    ((((w.setCell ⟨n, 0, none⟩ a').setCell ⟨n, 1, none⟩ b').setCell ⟨n, 2, none⟩ c').setCell ⟨n, 3, none⟩ d').heap[n]? = some (.cells #[a', b', c', d'] t (0, 0)) :=
  (blk_set (blk_set (blk_set (blk_set h 0 a') 1 b') 2 c') 3 d').trans (by simp)
theorem set5 {w : World} {n : Nat} {a b c d e a' b' c' d' e' : Value} {t : TypeId} (h : w.heap[n]? = some (.cells #[a, b, c, d, e] t (0, 0))) :
    (((((w.setCell ⟨n, 0, none⟩ a').setCell ⟨n, 1, none⟩ b').setCell ⟨n, 2, none⟩ c').setCell ⟨n, 3, none⟩ d').setCell ⟨n, 4, none⟩ e').heap[n]? = some (.cells #[a', b', c', d', e'] t (0, 0)) :=
  (blk_set (blk_set (blk_set (blk_set (blk_set h 0 a') 1 b') 2 c') 3 d') 4 e').trans (by simp)
theorem keep4 {u w : World} {n : Nat} {a b c d : Value} (k : Keep [] u w) (h : u.heap.size ≤ n) : Keep [] u ((((w.setCell ⟨n, 0, none⟩ a).setCell ⟨n, 1, none⟩ b).setCell ⟨n, 2, none⟩ c).setCell ⟨n, 3, none⟩ d) :=
  (((k.set (.inr h) _).set (.inr h) _).set (.inr h) _).set (.inr h) _
theorem keep5 {u w : World} {n : Nat} {a b c d e : Value} (k : Keep [] u w) (h : u.heap.size ≤ n) : Keep [] u (((((w.setCell ⟨n, 0, none⟩ a).setCell ⟨n, 1, none⟩ b).setCell ⟨n, 2, none⟩ c).setCell ⟨n, 3, none⟩ d).setCell ⟨n, 4, none⟩ e) :=
  ((((k.set (.inr h) _).set (.inr h) _).set (.inr h) _).set (.inr h) _).set (.inr h) _
theorem cells5' {w : World} {n : Nat} {a b c d e : Value} {t : TypeId} (h : w.heap[n]? = some (.cells #[a, b, c, d, e] t (0, 0))) :
    w.cell? ⟨n, 0, none⟩ = some a ∧ w.cell? ⟨n, 1, none⟩ = some b ∧ w.cell? ⟨n, 2, none⟩ = some c ∧ w.cell? ⟨n, 3, none⟩ = some d ∧ w.cell? ⟨n, 4, none⟩ = some e ∧
    w.frozen? ⟨n, 0, none⟩ = false ∧ w.frozen? ⟨n, 1, none⟩ = false ∧ w.frozen? ⟨n, 2, none⟩ = false ∧ w.frozen? ⟨n, 3, none⟩ = false ∧ w.frozen? ⟨n, 4, none⟩ = false ∧ n < w.heap.size :=
  ⟨blk_cell h 0, blk_cell h 1, blk_cell h 2, blk_cell h 3, blk_cell h 4, blk_free h 0, blk_free h 1, blk_free h 2, blk_free h 3, blk_free h 4, blk_lt h⟩

set_option maxHeartbeats 1000000 in
set_option maxRecDepth 100000 in
theorem rglyph_any (em : Int) (A B : Option Addr) (c m d : Nat) (gs : List GlyphX) (r : Int) (o : Option GlyphX) (w : World) (ho : gFind gs r = o) (hr : Rd GlyphX.row 4 w A gs) (hl : gs.length ≤ 9223372036854775807) :
    Calls Try.prog 77 #[.agg #[.int .i64 em, .slice A gs.length c, .slice B m d], .int .i64 r] w fun e w' =>
      e = .returned (.tuple #[.agg #[.int .i64 (o.getD GlyphX.zero).ru, .int .i64 (o.getD GlyphX.zero).wd, .int .i64 (o.getD GlyphX.zero).ht, .int .i64 (o.getD GlyphX.zero).dp], .bool o.isSome]) ∧ Keep [] w w' := by
  have HO := hid ho
  clear ho
  go_enter Try.func77, Try.ntmps77
  go_wp2_with fail
  have K0 : Keep [] w ((w.alloc (.cells #[.int .i64 em, .slice A gs.length c, .slice B m d] 25)).alloc (.cells #[.int .i64 0, .int .i64 0, .int .i64 0, .int .i64 0] 45)) := ((Keep.refl _ _).alloc _).alloc _
  have F0 := blk_alloc (blk_new w (.cells #[.int .i64 em, .slice A gs.length c, .slice B m d] 25)) (.cells #[.int .i64 0, .int .i64 0, .int .i64 0, .int .i64 0] 45)
  have Z0 := blk_new (w.alloc (.cells #[.int .i64 em, .slice A gs.length c, .slice B m d] 25)) (.cells #[.int .i64 0, .int .i64 0, .int .i64 0, .int .i64 0] 45)
  rw [size_alloc'] at Z0
  have r0 := hr.old K0 (by simp)
  generalize (w.alloc (.cells #[.int .i64 em, .slice A gs.length c, .slice B m d] 25)).alloc (.cells #[.int .i64 0, .int .i64 0, .int .i64 0, .int .i64 0] 45) = W0 at *
  obtain ⟨f0, f1, f2, _, _, _, fs⟩ := cells3 F0
  obtain ⟨z0, z1, z2, z3, y0, y1, y2, y3, zs⟩ := cells4 Z0
  go_loop [6] (fun vi => ∃ k : Nat, k ≤ gs.length ∧ vi = .int .i64 k ∧ Hid (gFind (gs.take k) r = none)) (fun vi => gs.length - (intOf vi).toNat)
  case atStart => exact ⟨0, Nat.zero_le _, rfl, hid rfl⟩
  case round =>
    obtain ⟨k, hk, rfl, HN⟩ := hrel
    by_cases hlt : k < gs.length
    · obtain ⟨g, hg⟩ : ∃ g, gs[k]? = some g := ⟨gs[k], List.getElem?_eq_getElem hlt⟩
      obtain ⟨ad, hA, hc⟩ := r0 k g hg
      have d0 := hc 0 _ rfl
      have d1 := hc 1 _ rfl
      have d2 := hc 2 _ rfl
      have d3 := hc 3 _ rfl
      rw [add_at _ _ _ (by omega)] at d1 d2 d3
      rw [Nat.add_zero] at d0
      have HG := hid hg
      have R0 := hid r0
      clear hc hg r0
      subst hA
      by_cases e : g.ru = r
      · obtain rfl : o = some g := HO.out.symm.trans (gFind_first HN.out HG.out e)
        have e' : (g.ru == r) = true := by simpa using e
        clear e
        go_wp2
        have K1 := keep4 (a := .int .i64 g.ru) (b := .int .i64 g.wd) (c := .int .i64 g.ht) (d := .int .i64 g.dp) K0 (Nat.le_succ w.heap.size)
        have Z1 := set4 (a' := .int .i64 g.ru) (b' := .int .i64 g.wd) (c' := .int .i64 g.ht) (d' := .int .i64 g.dp) Z0
        generalize (((W0.setCell ⟨w.heap.size + 1, 0, none⟩ (.int .i64 g.ru)).setCell ⟨w.heap.size + 1, 1, none⟩ (.int .i64 g.wd)).setCell ⟨w.heap.size + 1, 2, none⟩ (.int .i64 g.ht)).setCell ⟨w.heap.size + 1, 3, none⟩ (.int .i64 g.dp) = W1 at *
        obtain ⟨x0, x1, x2, x3, _⟩ := cells4 Z1
        exact bodyPost_ret (v := .tuple #[.agg #[.int .i64 g.ru, .int .i64 g.wd, .int .i64 g.ht, .int .i64 g.dp], .bool true]) (by simp [results, Try.results77, go_sem, x0, x1, x2, x3]) rfl ⟨rfl, K1⟩
      · have e' : (g.ru == r) = false := by simpa using e
        have E := hid e
        clear e
        go_wp2
        go_round
        case rel => exact ⟨k + 1, hlt, by go_num, hid (gFind_next HN.out HG.out E.out)⟩
        case measure => simp [intOf]; omega
    · obtain rfl : k = gs.length := by omega
      obtain rfl : o = none := HO.out.symm.trans (show gFind gs r = none by have := HN.out; rwa [List.take_length] at this)
      clear HN
      go_wp2
      have K1 := keep4 (a := .int .i64 0) (b := .int .i64 0) (c := .int .i64 0) (d := .int .i64 0) K0 (Nat.le_succ w.heap.size)
      have Z1 := set4 (a' := .int .i64 0) (b' := .int .i64 0) (c' := .int .i64 0) (d' := .int .i64 0) Z0
      generalize (((W0.setCell ⟨w.heap.size + 1, 0, none⟩ (.int .i64 0)).setCell ⟨w.heap.size + 1, 1, none⟩ (.int .i64 0)).setCell ⟨w.heap.size + 1, 2, none⟩ (.int .i64 0)).setCell ⟨w.heap.size + 1, 3, none⟩ (.int .i64 0) = W1 at *
      obtain ⟨x0, x1, x2, x3, _⟩ := cells4 Z1
      exact bodyPost_ret (v := .tuple #[.agg #[.int .i64 0, .int .i64 0, .int .i64 0, .int .i64 0], .bool false]) (by simp [results, Try.results77, go_sem, x0, x1, x2, x3]) rfl ⟨rfl, K1⟩

end Go.Proofs.Ythcfgechifogeaa
