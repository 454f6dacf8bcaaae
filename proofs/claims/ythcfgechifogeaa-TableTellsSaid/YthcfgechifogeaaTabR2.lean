/- The reference's Glyph, Pair, Font. -/
import Derived.Test.YthcfgechifogeaaTabRNew
namespace Go.Proofs.Ythcfgechifogeaa
open Go.RowKit Go.Maps
set_option linter.unusedSimpArgs false
set_option linter.unusedVariables false

set_option maxHeartbeats 1000000 in
theorem rtglyph_any (t : RTabX) (r : Int) (o : Option GlyphX) (w : World) (h : IsRT w t) (ho : gFind t.gs r = o) :
    Calls Try.prog 44 #[.pointer (some ⟨t.T, 0, none⟩), .int .i64 r] w fun e w' =>
      e = .returned (.tuple #[.agg #[.int .i64 (o.getD GlyphX.zero).ru, .int .i64 (o.getD GlyphX.zero).wd, .int .i64 (o.getD GlyphX.zero).ht, .int .i64 (o.getD GlyphX.zero).dp], .bool o.isSome]) ∧ Keep [] w w' := by
  have hr := (own_rd row4 h.gown)
  obtain ⟨A, cap, e, _, hr, _⟩ := hr
  simp at e
  obtain ⟨rfl, rfl⟩ := e
  have K0 : Keep [] w (w.alloc (.cells #[.int .i64 0, .int .i64 0, .int .i64 0, .int .i64 0] 45)) := (Keep.refl _ _).alloc _
  have T0 := K0.blk h.blk (by simp)
  have Z0 := blk_new w (.cells #[.int .i64 0, .int .i64 0, .int .i64 0, .int .i64 0] 45)
  have r0 := hr.old K0 (by simp)
  have hl : t.gs.length ≤ 2147483647 := by have := h.glen; omega
  obtain ⟨g, hg⟩ : ∃ g, o.getD GlyphX.zero = g := ⟨_, rfl⟩
  rw [hg]
  have HG := hid hg
  have HO := hid ho
  clear ho h hr hg
  go_enter Try.func44, Try.ntmps44
  go_upto_region 1 with (fail)
  generalize w.alloc (.cells #[.int .i64 0, .int .i64 0, .int .i64 0, .int .i64 0] 45) = W0 at *
  obtain ⟨t0, t1, t2, _, _, _, ts⟩ := cells3 T0
  go_wp2_with fail
  refine (rglyph_any t.em t.ga t.pa t.gc t.ps.length t.pc t.gs r o _ HO.out r0 hl).mono ?_
  rintro e w1 ⟨rfl, K1⟩
  rw [HG.out]
  have Z1 := K1.blk Z0 (by simp)
  have K2 := K0.trans K1
  clear t0 t1 t2 ts T0 Z0 r0 K0 K1
  obtain ⟨z0, z1, z2, z3, y0, y1, y2, y3, zs⟩ := cells4 Z1
  go_wp2
  have K3 := keep4 (a := .int .i64 g.ru) (b := .int .i64 g.wd) (c := .int .i64 g.ht) (d := .int .i64 g.dp) K2 (Nat.le_refl w.heap.size)
  have Z3 := set4 (a' := .int .i64 g.ru) (b' := .int .i64 g.wd) (c' := .int .i64 g.ht) (d' := .int .i64 g.dp) Z1
  generalize (((w1.setCell ⟨w.heap.size, 0, none⟩ (.int .i64 g.ru)).setCell ⟨w.heap.size, 1, none⟩ (.int .i64 g.wd)).setCell ⟨w.heap.size, 2, none⟩ (.int .i64 g.ht)).setCell ⟨w.heap.size, 3, none⟩ (.int .i64 g.dp) = W3 at *
  obtain ⟨x0, x1, x2, x3, _⟩ := cells4 Z3
  exact bodyPost_ret (v := .tuple #[.agg #[.int .i64 g.ru, .int .i64 g.wd, .int .i64 g.ht, .int .i64 g.dp], .bool o.isSome]) (by simp [results, Try.results44, go_sem, x0, x1, x2, x3]) rfl ⟨rfl, K3⟩

theorem pFind_snoc (ps : List PairX) (p : PairX) (k : Int × Int) : pFind (ps ++ [p]) k = match pFind ps k with | some x => some x | none => if p.lf = k.1 ∧ p.rt = k.2 then some p else none := by
  unfold pFind
  rw [List.find?_append]
  cases h : ps.find? (fun p => p.lf == k.1 && p.rt == k.2) with
  | some x => simp
  | none => by_cases e : p.lf = k.1 ∧ p.rt = k.2 <;> simp [e]
theorem pFind_first {ps : List PairX} {n : Nat} {p : PairX} {k : Int × Int} (h : pFind (ps.take n) k = none) (hp : ps[n]? = some p) (e : p.lf = k.1 ∧ p.rt = k.2) : pFind ps k = some p := by
  have h1 : pFind (ps.take (n + 1)) k = some p := by rw [take_snoc hp, pFind_snoc, h]; simp [e]
  unfold pFind at h1 ⊢
  rw [← List.take_append_drop (n + 1) ps, List.find?_append, h1]
  rfl
theorem pFind_next {ps : List PairX} {n : Nat} {p : PairX} {k : Int × Int} (h : pFind (ps.take n) k = none) (hp : ps[n]? = some p) (e : ¬ (p.lf = k.1 ∧ p.rt = k.2)) : pFind (ps.take (n + 1)) k = none := by
  rw [take_snoc hp, pFind_snoc, h]; simp only [if_neg e]

set_option maxHeartbeats 1000000 in
set_option maxRecDepth 100000 in
theorem rtpair_any (t : RTabX) (a b : Int) (o : Option PairX) (w : World) (h : IsRT w t) (ho : pFind t.ps (a, b) = o) :
    Calls Try.prog 45 #[.pointer (some ⟨t.T, 0, none⟩), .int .i64 a, .int .i64 b] w fun e w' =>
      e = .returned (.tuple #[.agg #[.int .i64 (o.getD PairX.zero).lf, .int .i64 (o.getD PairX.zero).rt, .bool (o.getD PairX.zero).is, .int .i64 (o.getD PairX.zero).lg, .int .i64 (o.getD PairX.zero).kn], .bool o.isSome]) ∧ Keep [] w w' := by
  have K0 : Keep [] w (w.alloc (.cells #[.int .i64 0, .int .i64 0, .bool false, .int .i64 0, .int .i64 0] 52)) := (Keep.refl _ _).alloc _
  have Z0 := blk_new w (.cells #[.int .i64 0, .int .i64 0, .bool false, .int .i64 0, .int .i64 0] 52)
  have h0 := h.keep K0 (by simp)
  have hl : t.ps.length ≤ 4096 := h.plen
  have HO := hid ho
  have HW := hid h
  clear ho h
  go_enter Try.func45, Try.ntmps45
  go_wp2_with fail
  generalize w.alloc (.cells #[.int .i64 0, .int .i64 0, .bool false, .int .i64 0, .int .i64 0] 52) = W0 at *
  go_loopw [8] (fun vi wr => ∃ k : Nat, k ≤ t.ps.length ∧ vi = .int .i64 k ∧ Hid (pFind (t.ps.take k) (a, b) = none) ∧ Keep [] W0 wr) (fun vi _ => t.ps.length - (intOf vi).toNat)
  case atStart => exact ⟨0, Nat.zero_le _, rfl, hid rfl, Keep.refl _ _⟩
  case round =>
    obtain ⟨k, hk, rfl, HN, Kk⟩ := hrel
    have hk0 := h0.keep Kk (by simp)
    have Zk := Kk.blk Z0 (by simp)
    obtain ⟨t0, t1, t2, _, _, _, ts⟩ := cells3 hk0.blk
    by_cases hlt : k < t.ps.length
    · obtain ⟨p, hp⟩ : ∃ p, t.ps[k]? = some p := ⟨t.ps[k], List.getElem?_eq_getElem hlt⟩
      obtain ⟨pb, hA, _, hpb, hc⟩ := own_at row5 hk0.pown hp
      have d0 := hc 0 _ rfl
      have d1 := hc 1 _ rfl
      have d2 := hc 2 _ rfl
      have d3 := hc 3 _ rfl
      have d4 := hc 4 _ rfl
      rw [Nat.add_zero] at d0
      rw [hA] at t2
      have HP := hid hp
      have HA := hid hA
      clear hc hp hA
      by_cases e : p.lf = a ∧ p.rt = b
      · obtain rfl : o = some p := HO.out.symm.trans (pFind_first HN.out HP.out e)
        have e1 : (p.lf == a) = true := by simpa using e.1
        have e2 : (p.rt == b) = true := by simpa using e.2
        clear e
        obtain ⟨z0, z1, z2, z3, z4, y0, y1, y2, y3, y4, zs⟩ := cells5 Zk
        go_wp2
        have K3 := (keep5 (a := .int .i64 p.lf) (b := .int .i64 p.rt) (c := .bool p.is) (d := .int .i64 p.lg) (e := .int .i64 p.kn) (K0.trans Kk) (Nat.le_refl w.heap.size)).alloc (.cells #[.int .i64 p.lf, .int .i64 p.rt, .bool p.is, .int .i64 p.lg, .int .i64 p.kn] 52)
        have Z3 := blk_alloc (set5 (a' := .int .i64 p.lf) (b' := .int .i64 p.rt) (c' := .bool p.is) (d' := .int .i64 p.lg) (e' := .int .i64 p.kn) Zk) (.cells #[.int .i64 p.lf, .int .i64 p.rt, .bool p.is, .int .i64 p.lg, .int .i64 p.kn] 52)
        generalize ((((((wr.setCell ⟨w.heap.size, 0, none⟩ (.int .i64 p.lf)).setCell ⟨w.heap.size, 1, none⟩ (.int .i64 p.rt)).setCell ⟨w.heap.size, 2, none⟩ (.bool p.is)).setCell ⟨w.heap.size, 3, none⟩ (.int .i64 p.lg)).setCell ⟨w.heap.size, 4, none⟩ (.int .i64 p.kn)).alloc (.cells #[.int .i64 p.lf, .int .i64 p.rt, .bool p.is, .int .i64 p.lg, .int .i64 p.kn] 52)) = W3 at *
        obtain ⟨x0, x1, x2, x3, x4, _⟩ := cells5 Z3
        exact bodyPost_ret (v := .tuple #[.agg #[.int .i64 p.lf, .int .i64 p.rt, .bool p.is, .int .i64 p.lg, .int .i64 p.kn], .bool true]) (by simp [results, Try.results45, go_sem, x0, x1, x2, x3, x4]) rfl ⟨rfl, K3⟩
      · have E := hid (pFind_next HN.out HP.out e)
        by_cases e1 : p.lf = a
        · have e2 : (p.rt == b) = false := by simp; exact fun h => e ⟨e1, h⟩
          have e3 : (p.lf == a) = true := by simpa using e1
          clear e e1
          go_wp2
          go_roundw
          case rel => exact ⟨k + 1, hlt, by go_num, E, Kk.alloc _⟩
          case measure => simp [intOf]; omega
        · have e3 : (p.lf == a) = false := by simpa using e1
          clear e e1
          go_wp2
          go_roundw
          case rel => exact ⟨k + 1, hlt, by go_num, E, Kk.alloc _⟩
          case measure => simp [intOf]; omega
    · obtain rfl : k = t.ps.length := by omega
      obtain rfl : o = none := HO.out.symm.trans (show pFind t.ps (a, b) = none by have := HN.out; rwa [List.take_length] at this)
      obtain ⟨z0, z1, z2, z3, z4, y0, y1, y2, y3, y4, zs⟩ := cells5 Zk
      clear HN
      go_wp2
      have K3 := keep5 (a := .int .i64 0) (b := .int .i64 0) (c := .bool false) (d := .int .i64 0) (e := .int .i64 0) (K0.trans Kk) (Nat.le_refl w.heap.size)
      have Z3 := set5 (a' := .int .i64 0) (b' := .int .i64 0) (c' := .bool false) (d' := .int .i64 0) (e' := .int .i64 0) Zk
      generalize (((((wr.setCell ⟨w.heap.size, 0, none⟩ (.int .i64 0)).setCell ⟨w.heap.size, 1, none⟩ (.int .i64 0)).setCell ⟨w.heap.size, 2, none⟩ (.bool false)).setCell ⟨w.heap.size, 3, none⟩ (.int .i64 0)).setCell ⟨w.heap.size, 4, none⟩ (.int .i64 0)) = W3 at *
      obtain ⟨x0, x1, x2, x3, x4, _⟩ := cells5 Z3
      exact bodyPost_ret (v := .tuple #[.agg #[.int .i64 0, .int .i64 0, .bool false, .int .i64 0, .int .i64 0], .bool false]) (by simp [results, Try.results45, go_sem, x0, x1, x2, x3, x4]) rfl ⟨rfl, K3⟩

set_option maxHeartbeats 1000000 in
theorem rtfont_any (t : RTabX) (w : World) (h : IsRT w t) :
    Calls Try.prog 46 #[.pointer (some ⟨t.T, 0, none⟩)] w fun e w' => e = .returned (.agg #[.int .i64 t.em, .slice t.ga t.gs.length t.gc, .slice t.pa t.ps.length t.pc]) ∧ Keep [] w w' := by
  have K0 : Keep [] w (w.alloc (.cells #[.int .i64 0, .slice none 0 0, .slice none 0 0] 25)) := (Keep.refl _ _).alloc _
  have T0 := K0.blk h.blk (by simp)
  have Z0 := blk_new w (.cells #[.int .i64 0, .slice none 0 0, .slice none 0 0] 25)
  go_enter Try.func46, Try.ntmps46
  go_upto_region 1 with (fail)
  generalize w.alloc (.cells #[.int .i64 0, .slice none 0 0, .slice none 0 0] 25) = W0 at *
  obtain ⟨t0, t1, t2, _, _, _, ts⟩ := cells3 T0
  obtain ⟨z0, z1, z2, y0, y1, y2, zs⟩ := cells3 Z0
  go_wp2
  have K3 := ((K0.set (p := ⟨w.heap.size, 0, none⟩) (.inr (Nat.le_refl _)) (.int .i64 t.em)).set (p := ⟨w.heap.size, 1, none⟩) (.inr (Nat.le_refl _)) (.slice t.ga t.gs.length t.gc)).set (p := ⟨w.heap.size, 2, none⟩) (.inr (Nat.le_refl _)) (.slice t.pa t.ps.length t.pc)
  have Z3 := (blk_set (blk_set (blk_set Z0 0 (.int .i64 t.em)) 1 (.slice t.ga t.gs.length t.gc)) 2 (.slice t.pa t.ps.length t.pc)).trans (show _ = some (.cells #[.int .i64 t.em, .slice t.ga t.gs.length t.gc, .slice t.pa t.ps.length t.pc] 25 (0, 0)) by simp)
  generalize ((W0.setCell ⟨w.heap.size, 0, none⟩ (.int .i64 t.em)).setCell ⟨w.heap.size, 1, none⟩ (.slice t.ga t.gs.length t.gc)).setCell ⟨w.heap.size, 2, none⟩ (.slice t.pa t.ps.length t.pc) = W3 at *
  obtain ⟨x0, x1, x2, _⟩ := cells3 Z3
  exact bodyPost_ret (v := .agg #[.int .i64 t.em, .slice t.ga t.gs.length t.gc, .slice t.pa t.ps.length t.pc]) (by simp [results, Try.results46, go_sem, x0, x1, x2]) rfl ⟨rfl, K3⟩

end Go.Proofs.Ythcfgechifogeaa
