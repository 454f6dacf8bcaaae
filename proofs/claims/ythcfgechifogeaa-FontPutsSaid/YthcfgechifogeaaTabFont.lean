/- The table's Font, by a contract. -/
import Derived.Test.YthcfgechifogeaaTabAll
import Derived.Test.YthcfgechifogeaaTabRef
namespace Go.Proofs.Ythcfgechifogeaa
open Go.RowKit Go.Maps Go.Shelf
set_option linter.unusedSimpArgs false
set_option linter.unusedVariables false
attribute [local go_sem] Oper.semAt_some

def FontPost (t : TabX) (w : World) (e : Ending) (w' : World) : Prop :=
  ∃ A c B d, e = .returned (.agg #[.int .i64 t.em, .slice A t.gs.length c, .slice B t.ps.length d]) ∧ w'.ownsRow w.heap.size 45 4 (.slice A t.gs.length c) t.gs.length (t.gs.flatMap GlyphX.row) ∧
    w'.ownsRow w.heap.size 52 5 (.slice B t.ps.length d) t.ps.length (t.ps.flatMap PairX.row) ∧ Keep [] w w'

def FontMid (t : TabX) (w : World) (v : Value) (wc : World) : Prop :=
  ∃ FB B d, v = .pointer (some ⟨FB, 0, none⟩) ∧ w.heap.size < FB ∧ wc.heap[FB]? = some (.cells #[.int .i64 t.em, .slice none 0 0, .slice B t.ps.length d] 25 (0, 0)) ∧
    wc.ownsRow w.heap.size 52 5 (.slice B t.ps.length d) t.ps.length (t.ps.flatMap PairX.row) ∧ Keep [] w wc ∧ wc.heap[w.heap.size]? = some (.cells #[.int .i64 0, .slice none 0 0, .slice none 0 0] 25 (0, 0))
theorem own_slice' {w : World} {base : Nat} {e : TypeId} {sz : Nat} {v : Value} {n : Nat} {xs : List Value} (h : w.ownsRow base e sz v n xs) : ∃ A c, v = .slice A n c := by
  rcases h.2 with ⟨rfl, rfl⟩ | ⟨g, cap, cur, rfl, _⟩
  · exact ⟨none, 0, rfl⟩
  · exact ⟨_, _, rfl⟩
/-- A block of cells, a row of one's own, lie on where a block that is no cells turns. -/
theorem turn_blk {W W' : World} {row : Option Nat} {b : Nat} {cs : Array Value} {t : TypeId} {fr : Nat × Nat} (h : W.heap[b]? = some (.cells cs t fr)) (hg : W.grownBy W' row) (hr : ∀ r, row = some r → ∃ o : Obj, W.heap[r]? = some o ∧ o.isCells = false) : W'.heap[b]? = some (.cells cs t fr) :=
  (hg.block b (blk_lt h) (fun e => by obtain ⟨o, ho, hc⟩ := hr b e.symm; rw [h] at ho; cases ho; cases hc)).trans h
theorem turn_own {W W' : World} {row : Option Nat} {base : Nat} {e : TypeId} {sz : Nat} {v : Value} {n : Nat} {xs : List Value} (h : W.ownsRow base e sz v n xs) (hg : W.grownBy W' row) (hr : ∀ r, row = some r → ∃ o : Obj, W.heap[r]? = some o ∧ o.isCells = false) : W'.ownsRow base e sz v n xs := by
  obtain ⟨h1, h2⟩ := h
  refine ⟨h1, ?_⟩
  rcases h2 with h2 | ⟨g, cap, cur, rfl, hb, hh, rest⟩
  · exact .inl h2
  · exact .inr ⟨g, cap, cur, rfl, hb, turn_blk hh hg hr, rest⟩
/-- What holds between two rounds: what the font has so far. -/
def FontI (t : TabX) (FB : Nat) (B : Option Addr) (d : Nat) (w : World) (pre : List GlyphX) (W : World) : Prop :=
  ∃ A c, W.heap[FB]? = some (.cells #[.int .i64 t.em, .slice A pre.length c, .slice B t.ps.length d] 25 (0, 0)) ∧ W.ownsRow w.heap.size 45 4 (.slice A pre.length c) pre.length (pre.flatMap GlyphX.row) ∧
    W.ownsRow w.heap.size 52 5 (.slice B t.ps.length d) t.ps.length (t.ps.flatMap PairX.row) ∧ W.heap[w.heap.size]? = some (.cells #[.int .i64 0, .slice none 0 0, .slice none 0 0] 25 (0, 0)) ∧ Below w.heap.size w W
theorem FontI.turn {t : TabX} {FB : Nat} {B : Option Addr} {d : Nat} {w : World} {n : Nat} (hn : w.heap.size ≤ n) : OwnFrom n (FontI t FB B d w) := by
  rintro pre W W' row ⟨A, c, h1, h2, h3, h4, h5⟩ hg hr
  have hr' : ∀ r, row = some r → ∃ o : Obj, W.heap[r]? = some o ∧ o.isCells = false := fun r e => (hr r e).2
  exact ⟨A, c, turn_blk h1 hg hr', turn_own h2 hg hr', turn_own h3 hg hr', turn_blk h4 hg hr', h5.grown hg h5.size (fun k e => Nat.le_trans hn (hr k e).1)⟩
theorem FontI.alloc {t : TabX} {FB : Nat} {B : Option Addr} {d : Nat} {w : World} {pre : List GlyphX} {W : World} (h : FontI t FB B d w pre W) (o : Obj) : FontI t FB B d w pre (W.alloc o) := by
  obtain ⟨A, c, h1, h2, h3, h4, h5⟩ := h
  exact ⟨A, c, blk_alloc h1 o, h2.alloc o, h3.alloc o, blk_alloc h4 o, h5.alloc h5.size o⟩

theorem set3' {w : World} {n : Nat} {a b c a' b' c' : Value} {t : TypeId} (h : w.heap[n]? = some (.cells #[a, b, c] t (0, 0))) :
    (((w.setCell ⟨n, 0, none⟩ a').setCell ⟨n, 1, none⟩ b').setCell ⟨n, 2, none⟩ c').heap[n]? = some (.cells #[a', b', c'] t (0, 0)) :=
  (blk_set (blk_set (blk_set h 0 a') 1 b') 2 c').trans (by simp)
theorem keep3 {S : List Nat} {u w : World} {n : Nat} {a b c : Value} (k : Keep S u w) (h : n ∈ S ∨ u.heap.size ≤ n) : Keep S u (((w.setCell ⟨n, 0, none⟩ a).setCell ⟨n, 1, none⟩ b).setCell ⟨n, 2, none⟩ c) :=
  ((k.set h _).set h _).set h _

set_option maxRecDepth 100000 in
set_option maxHeartbeats 2000000 in
theorem tfont_any (t : TabX) (gk pn : Nat) (w : World) (h : IsT w t gk pn) : Calls Try.prog 22 #[.pointer (some ⟨t.T, 0, none⟩)] w fun e w' => FontPost t w e w' := by
  have K0 : Keep [] w (w.alloc (.cells #[.int .i64 0, .slice none 0 0, .slice none 0 0] 25)) := (Keep.refl _ _).alloc _
  have R0 := blk_new w (.cells #[.int .i64 0, .slice none 0 0, .slice none 0 0] 25)
  have h0 := h.keep K0 (by simp)
  have hpl := h.plen
  have hgl := h.glen
  have hpn : t.pa = none → t.ps.length = 0 := by
    intro e
    have := h.pown
    rcases this.2 with ⟨h1, h2⟩ | ⟨g, cap, cur, h1, _⟩
    · simpa using h2
    · rw [e] at h1; simp at h1
  refine (callsIn_wide (n := 20)).1 ?_
  refine callsIn_of_wp_marks Try.func22 rfl trivial ?_
  simp only [Try.ntmps22, List.size_toArray, List.length_cons, List.length_nil, Nat.reduceAdd, Nat.reduceSub, Array.replicate_succ, Array.replicate_zero, List.push_toArray, List.append_toArray, List.nil_append, List.cons_append]
  rw [wpIn_wide]
  go_upto_region 1 with (fail)
  generalize w.alloc (.cells #[.int .i64 0, .slice none 0 0, .slice none 0 0] 25) = W0 at *
  obtain ⟨c0, c1, c2, c3, c4, _, _, _, _, _, cT⟩ := cells5 h0.blk
  obtain ⟨z0, z1, z2, y0, y1, y2, zs⟩ := cells3 R0
  go_cut [3] from 5 to 16 (fun v wc => FontMid t w v wc)
  case first =>
    go_region_held3 (fun w' => w'.cell? ⟨t.T, 0, none⟩ = some (.int .i64 t.em) ∧ w'.cell? ⟨t.T, 2, none⟩ = some (.slice t.pa t.ps.length t.pc) ∧ Keep [] w w') ((go_split_ands; refine ⟨?_, ?_, ?_⟩ <;> (repeat (with_reducible first | assumption | refine cell_drew' ?_ | refine cell_alloc' ?_ _ | exact K0 | refine Keep.drew ?_ | refine Keep.alloc ?_ _ | refine cell_set' ?_ (by simp; omega) _ | refine Keep.set ?_ (.inr (by simp <;> omega)) _ | refine Keep.cell' (S := []) (by assumption) ?_ (by simp) | refine Keep.trans (S := []) ?_ (by assumption))))) ((go_at_call 39; (with_reducible refine (cloneP t.pa t.pc t.ps _ (h.prd.1.old (S := []) (by repeat (with_reducible first | exact K0 | assumption | refine Keep.drew ?_ | refine Keep.alloc ?_ _ | refine Keep.trans (S := []) ?_ (by assumption))) (by simp)) hpn (by omega)).mono ?_); rintro e w2 ⟨B, d, rfl, O2, K2⟩; (try obtain ⟨p0, p1, p2, r0, r1, r2, rs⟩ := cells3 (K2.blk (blk_drew (blk_new W0 (.cells #[.int .i64 0, .slice none 0 0, .slice none 0 0] 25))) (by simp)))))
    · go_wp2
      go_meet
      have z2 : w.heap.size < w2.heap.size := by have := K2.size; rw [size_drew'] at this; omega
      exact ⟨w2.heap.size, B, d, rfl, z2, blk_new _ _, (own_base_le O2 (by rw [size_drew']; omega)).alloc _, (K0.drew.trans K2).alloc _, blk_alloc (K2.blk (blk_drew R0) (by simp)) _⟩
    · go_wp2
      go_meet
      have z2 : W0.heap.size < w2.heap.size := by have := K2.size; simp at this; omega
      have N2 := K2.blk (blk_drew (blk_new W0 (.cells #[.int .i64 0, .slice none 0 0, .slice none 0 0] 25))) (by simp)
      have KS := keep3 (n := W0.heap.size) (a := .int .i64 t.em) (b := .slice none 0 0) (c := .slice B t.ps.length d) (Keep.refl [W0.heap.size] w2) (.inl (by simp))
      exact ⟨W0.heap.size, B, d, rfl, zs, set3' N2, own_keep (own_base_le O2 (by simp; omega)) KS (fun b hb => by simp at hb; subst hb; exact own_ne O2 N2 (by decide)), keep3 (((K0.alloc _).drew).trans K2) (.inr (by omega)),
        KS.blk (K2.blk (blk_drew (blk_alloc R0 _)) (by simp)) (by simp; omega)⟩
  case rest =>
    obtain ⟨FB, B, d, rfl, hFB, F1, O1, K1, R1⟩ := hcut
    have sz1 := blk_lt F1
    have h1 := h.keep K1 (by simp)
    go_wp2_with (go_at_call 19; (with_reducible refine (all_any t.T _).mono ?_); rintro e w2 ⟨rfl, rfl⟩)
    have hI0 : FontI t FB B d w [] (wc.alloc (.cells #[.pointer (some ⟨t.T, 0, none⟩)] 30)) :=
      FontI.alloc ⟨none, 0, F1, World.ownsRow_nil _ _ _ _, O1, R1, K1.below (Nat.le_refl _) (by simp)⟩ _
    have hBA := (blk_cell (blk_new wc (.cells #[.pointer (some ⟨t.T, 0, none⟩)] 30)) 0)
    simp only [List.getElem?_toArray, List.getElem?_cons_zero] at hBA
    have hB1 : Below w.heap.size w (wc.alloc (.cells #[.pointer (some ⟨t.T, 0, none⟩)] 30)) := (K1.alloc _).below (Nat.le_refl _) (by simp)
    have hsz : w.heap.size < (wc.alloc (.cells #[.pointer (some ⟨t.T, 0, none⟩)] 30)).heap.size := by simp; omega
    have hFB2 : FB < (wc.alloc (.cells #[.pointer (some ⟨t.T, 0, none⟩)] 30)).heap.size := by simp; omega
    obtain ⟨i0, hi, hz0, hz1, hz2⟩ := info_parts (show (Try.prog.info? 45).map (fun i => (i.zero, i.size, i.bytes)) = some (some (.agg #[.int .i64 0, .int .i64 0, .int .i64 0, .int .i64 0]), 4, 32) by kernel_rfl)
    generalize wc.heap.size = BA at *
    generalize wc.alloc (.cells #[.pointer (some ⟨t.T, 0, none⟩)] 30) = W1 at *
    clear F1 O1 R1
    rw [← wpIn_wide (n := 20)]
    refine wpIn_rangeFunc_ownH rfl (by omega) (gf := 48) (lb := #[.pointer (some ⟨BA, 0, none⟩)]) rfl trivial (enters_of Try.func48 (by kernel_rfl) rfl)
      (all_stops Fence.wide 19 trivial rfl (by omega) BA w.heap.size t gk pn w W1 h rfl hB1 hBA) belowK_t (belowK_b (by omega)) (Below.refl _ _) (fun _ => rfl)
      (FontI t FB B d w) (fun _ _ _ => False) (FontI.turn (by omega)) (fun _ _ _ _ _ hs _ _ => hs) hI0
      (fun x a' W => ∃ Bx, FB < Bx ∧ W.heap[Bx]? = some (.cells #[.int .i64 x.ru, .int .i64 x.wd, .int .i64 x.ht, .int .i64 x.dp] 45 (0, 0)) ∧ a' = { tmps := #[.pointer (some ⟨t.T, 0, none⟩), undef, .pointer (some ⟨w.heap.size, 0, none⟩), .pointer (some ⟨FB, 0, none⟩), .pointer (some ⟨Bx, 0, none⟩), u5, u6, u7, u8, u9, u10, u11, u12, u13, u14, u15, u16, .pointer (some ⟨t.T, 0, none⟩), .func (.func 48) #[] #[.pointer (some ⟨BA, 0, none⟩)], x.val, undef, undef, undef, undef, undef, undef, undef], defers := [] })
      (fun x a' _ X Y row hs hg hr => by obtain ⟨Bx, h1, h2, h3⟩ := hs; exact ⟨Bx, h1, turn_blk h2 hg (fun r e => (hr r e).2), h3⟩)
      ?assign ?body ?done ?stop
    case assign =>
      rintro l pre x W K hI hK
      unfold gEnc
      unfold GlyphX.val
      gi_wp2
      obtain ⟨A, c, h1, h2, h3, h4, h5⟩ := hI
      have := blk_lt h1
      exact hK _ _ ((KeepsOthers.alloc _ _).from _) ((Below.refl _ W).alloc h5.size _) (FontI.alloc ⟨A, c, h1, h2, h3, h4, h5⟩ _) ⟨W.heap.size, this, blk_new _ _, rfl⟩
    case body =>
      rintro l pre x a' W hl ⟨r, hr⟩ ⟨A, c, g1, g2, g3, g4, g5⟩ ⟨Bx, hBx, X1, rfl⟩ hlt
      obtain ⟨f0, f1, f2, _, _, _, fs⟩ := cells3 g1
      obtain ⟨x0, x1, x2, x3, _, _, _, _, xs⟩ := cells4 X1
      have hne : some FB ≠ (Value.slice A pre.length c).ownBlock := own_ne g2 g1 (by decide)
      have hne2 : some w.heap.size ≠ (Value.slice A pre.length c).ownBlock := own_ne g2 g4 (by decide)
      have hb1 : pre.length + 1 ≤ maxLen := by simp only [maxLen]; omega
      have hb2 : (pre.length + 1) * 32 ≤ 140737488355328 := by omega
      have hb3 : w.heap.size ≤ (W.alloc (.cells #[.int .i64 x.ru, .int .i64 x.wd, .int .i64 x.ht, .int .i64 x.dp] 45)).heap.size := by simp; omega
      gi_wp2_with (gi_at_builtin; (refine wpListIn_append_own _ rfl _ _ 22 rfl w.heap.size 45 i0 (.agg #[.int .i64 0, .int .i64 0, .int .i64 0, .int .i64 0]) 4 32 Try.underlying22 hi hz0 hz1 hz2 rfl (by decide) _ _ _ rfl (g2.alloc _) ⟨W.heap.size, 0, none⟩ 1 1 x.row rfl rfl (fun j u hj => by rw [add_zero_at]; exact (blk_cell (blk_new W _) j).trans (by simpa [GlyphX.row] using hj)) (one4 x) hb1 hb2 hb3 ?_; intro v1 w1 O1 G1 _; obtain ⟨A1, c1, rfl⟩ := own_slice' O1; have hf := blk_grown (blk_alloc g1 _) G1 hne; obtain ⟨h0', h1', h2', y0', y1', y2', hs'⟩ := cells3 hf))
      have e1 : pre.length + 1 = (pre ++ [x]).length := by simp
      have O2 : w1.ownsRow w.heap.size 45 4 (.slice A1 (pre ++ [x]).length c1) (pre ++ [x]).length ((pre ++ [x]).flatMap GlyphX.row) := by rw [← e1, List.flatMap_append, List.flatMap_cons, List.flatMap_nil, List.append_nil]; exact O1
      have hO : ∀ b, (Value.slice A pre.length c).ownBlock = some b → w.heap.size ≤ b ∧ ∃ cs, W.heap[b]? = some (.cells cs 45 (0, 0)) := fun b hb => ⟨(own_base g2 b hb).1, (own_base g2 b hb).2.2⟩
      have hne3 : ∀ b, (Value.slice B t.ps.length d).ownBlock = some b → some b ≠ (Value.slice A pre.length c).ownBlock := fun b hb e => by
        obtain ⟨_, _, cs, hcs⟩ := own_base g3 b hb
        exact own_ne g2 hcs (by decide) e
      have hb0 : Below w.heap.size W w1 := ((Below.refl w.heap.size W).alloc g5.size _).grown G1 (by simp; omega) (fun k e => (hO k e).1)
      have hsFB : FB < w1.heap.size := blk_lt hf
      have hP : w1.ownsRow w.heap.size 52 5 (.slice B t.ps.length d) t.ps.length (t.ps.flatMap PairX.row) := by
        have g3' := g3.alloc (.cells #[.int .i64 x.ru, .int .i64 x.wd, .int .i64 x.ht, .int .i64 x.dp] 45)
        obtain ⟨k1, k2⟩ := g3'
        refine ⟨k1, ?_⟩
        rcases k2 with k2 | ⟨g, cap, cur, hv, hgb, hh, rest⟩
        · exact .inl k2
        · exact .inr ⟨g, cap, cur, hv, hgb, blk_grown hh G1 (hne3 g (by rw [hv]; rfl)), rest⟩
      have KS : Keep [FB] w1 (w1.setCell ⟨FB, 1, none⟩ (.slice A1 (pre.length + 1) c1)) := (Keep.refl _ _).set (.inl (by simp)) _
      refine ⟨(((KeepsOthers.alloc _ _).trans (KeepsOthers.of_grownBy G1 (fun j o e ho => by
          obtain ⟨_, cs, hcs⟩ := hO j e
          rw [(Below.heap_alloc W _ j (blk_lt hcs)).trans hcs] at ho
          cases ho; rfl))).trans (KeepsOthers.setCell _ _ _)).from _, hb0.setCell (p := ⟨FB, 1, none⟩) (by simp; omega) _, A1, c1, ?_, own_keep O2 KS (fun b hb => by simp at hb; subst hb; exact own_ne O2 hf (by decide)), own_keep hP KS (fun b hb => by simp at hb; subst hb; exact own_ne hP hf (by decide)), ?_, (g5.trans hb0).setCell (p := ⟨FB, 1, none⟩) (by simp; omega) _⟩
      · rw [← e1]
        exact (blk_set hf 1 _).trans (by simp)
      · exact KS.blk (blk_grown (blk_alloc g4 _) G1 hne2) (by simp; omega)
    case done =>
      rintro D ys W hD rfl ⟨A, c, g1, g2, g3, g4, g5⟩ hK
      obtain ⟨f0, f1, f2, _, _, _, fs⟩ := cells3 g1
      obtain ⟨r0, r1, r2, q0, q1, q2, rs⟩ := cells3 g4
      go_wp2
      have KS : Keep [w.heap.size] W (((W.setCell ⟨w.heap.size, 0, none⟩ (.int .i64 t.em)).setCell ⟨w.heap.size, 1, none⟩ (.slice A t.gs.length c)).setCell ⟨w.heap.size, 2, none⟩ (.slice B t.ps.length d)) := keep3 (Keep.refl _ _) (.inl (by simp))
      have hKO : KeepsOthers W (((W.setCell ⟨w.heap.size, 0, none⟩ (.int .i64 t.em)).setCell ⟨w.heap.size, 1, none⟩ (.slice A t.gs.length c)).setCell ⟨w.heap.size, 2, none⟩ (.slice B t.ps.length d)) := ((KeepsOthers.setCell _ _ _).trans (KeepsOthers.setCell _ _ _)).trans (KeepsOthers.setCell _ _ _)
      have g4' := set3' (a' := .int .i64 t.em) (b' := .slice A t.gs.length c) (c' := .slice B t.ps.length d) g4
      have g2' := own_keep g2 KS (fun b hb => by simp at hb; subst hb; exact own_ne g2 g4 (by decide))
      have g3' := own_keep g3 KS (fun b hb => by simp at hb; subst hb; exact own_ne g3 g4 (by decide))
      have g5' := ((g5.setCell (p := ⟨w.heap.size, 0, none⟩) (by simp) (.int .i64 t.em)).setCell (p := ⟨w.heap.size, 1, none⟩) (by simp) (.slice A t.gs.length c)).setCell (p := ⟨w.heap.size, 2, none⟩) (by simp) (.slice B t.ps.length d)
      have hK' := hKO.same D _ hK rfl
      generalize ((W.setCell ⟨w.heap.size, 0, none⟩ (.int .i64 t.em)).setCell ⟨w.heap.size, 1, none⟩ (.slice A t.gs.length c)).setCell ⟨w.heap.size, 2, none⟩ (.slice B t.ps.length d) = W6 at *
      refine ⟨by simp, .inl ⟨_, _, rfl, run_takeDeferred hK', ?_⟩⟩
      have hg := grownBy_putObj' W6 D (.deferred none)
      have hr : ∀ r, some D = some r → ∃ o : Obj, W6.heap[r]? = some o ∧ o.isCells = false := fun r e => by cases e; exact ⟨_, hK', rfl⟩
      have g6 := turn_blk g4' hg hr
      obtain ⟨x0, x1, x2, _, _, _, _⟩ := cells3 g6
      exact ⟨.agg #[.int .i64 t.em, .slice A t.gs.length c, .slice B t.ps.length d], by simp [results, Try.results22, go_sem, x0, x1, x2], A, c, B, d, rfl, turn_own g2' hg hr, turn_own g3' hg hr, Keep.of_below (g5'.trans (belowK_b (w := w) (Nat.le_refl _) W6 D _ _ (by omega) hK' rfl rfl)) []⟩
    case stop =>
      rintro D c pre W _ _ h _
      exact h.elim

end Go.Proofs.Ythcfgechifogeaa
