/- Font: the reader's glyph, by a contract. -/
import Derived.Test.YthcfgechifogeaaFnKnown
import Derived.Test.YthcfgechifogeaaTabNew
import Derived.Test.YthcfgechifogeaaTabRef
import Derived.Test.YthcfgechifogeaaStep
namespace Go.Proofs.Ythcfgechifogeaa
open Go.RowKit Go.Maps
set_option linter.unusedSimpArgs false
set_option linter.unusedVariables false

/-- What a glyph's reading leaves. -/
def GlyphPost (X : RX) (base : Nat) (k a em : Int) (gs : List GlyphX) (ps : List PairX) (A : Option Addr) (c : Nat) (B : Option Addr) (d : Nat) (r : PR GlyphX) (w : World) (e : Ending) (w' : World) : Prop :=
  Fr base X.g w w' ∧
  match r with
  | .ok (x, q) => e = .returned (.bool true) ∧ ∃ A' c', RdS w' X base q k a em (gs ++ [x]) ps A' c' B d
  | .error (k', a', q) => e = .returned (.bool false) ∧ IsRd w' X q k' a' em (.slice A gs.length c) (.slice B ps.length d) ∧ IsM w' X.g (mBad X.S X.C k' q) ∧ (q : Int) ≤ X.S ∧ q ≤ X.s.size
theorem numX_ok {bs : List Nat} {S : Int} {W p n q : Nat} {right : Nat → Bool} (h : numX bs S W right p = .ok (n, q)) : right n = true ∧ ∃ n', rawX bs S W 0 p = .ok (n', q) ∧ n' = n := by
  unfold numX at h
  cases hr : rawX bs S W 0 p with
  | error e => rw [hr] at h; simp [PR.bind] at h
  | ok v =>
    obtain ⟨n', q'⟩ := v
    rw [hr] at h
    simp only [PR.bind, rightX] at h
    split at h
    · simp only [Except.ok.injEq, Prod.mk.injEq] at h
      obtain ⟨rfl, rfl⟩ := h
      exact ⟨by assumption, _, rfl, rfl⟩
    · simp at h

/-- What a reader holds lies below n0. -/
structure Under (X : RX) (base : Nat) (V U : Value) (n0 : Nat) : Prop where
  b : base ≤ n0
  g : X.g < n0
  r : X.rb < n0
  m : X.mb < n0
  v : ∀ k, V.ownBlock = some k → k < n0
  u : ∀ k, U.ownBlock = some k → k < n0
theorem RdS.under {w : World} {X : RX} {base p : Nat} {k a em : Int} {gs : List GlyphX} {ps : List PairX} {A B : Option Addr} {c d : Nat} (h : RdS w X base p k a em gs ps A c B d) : Under X base (.slice A gs.length c) (.slice B ps.length d) w.heap.size :=
  ⟨h.lt.1, Nat.lt_of_lt_of_le h.bG h.lt.1, h.lt.2.1, h.lt.2.2, fun k e => (own_base h.gown k e).2.1, fun k e => (own_base h.pown k e).2.1⟩
theorem RdS.keepN {w w' : World} {X : RX} {base p : Nat} {k a em : Int} {gs : List GlyphX} {ps : List PairX} {A B : Option Addr} {c d n0 : Nat} (h : RdS w X base p k a em gs ps A c B d) (u : Under X base (.slice A gs.length c) (.slice B ps.length d) n0) {S : List Nat} (K : Keep S w w') (hS : ∀ b, b ∈ S → n0 ≤ b) : RdS w' X base p k a em gs ps A c B d :=
  h.keep K (fun hm => by have := hS _ hm; have := u.r; omega) (fun hm => by have := hS _ hm; have := u.g; omega) (fun hm => by have := hS _ hm; have := u.m; omega)
    (fun b hb e => by have := hS _ hb; have := u.v b e.symm; omega) (fun b hb e => by have := hS _ hb; have := u.u b e.symm; omega)

/-- What stands in glyph's frame between two numbers. -/
structure GlSt (w : World) (X : RX) (base : Nat) (p : Nat) (k a em : Int) (gs : List GlyphX) (ps : List PairX) (A : Option Addr) (c : Nat) (B : Option Addr) (d : Nat) (n0 n2 : Nat) (gv ov : Array Value) (W : World) : Prop where
  rd : RdS W X base p k a em gs ps A c B d
  fr : Fr base X.g w W
  gbox : W.heap[n0]? = some (.cells gv 45 (0, 0))
  obox : W.heap[n2]? = some (.cells ov 131 (0, 0))
  un : Under X base (.slice A gs.length c) (.slice B ps.length d) n0
  lt : n0 < n2
theorem GlSt.alloc {w : World} {X : RX} {base p : Nat} {k a em : Int} {gs : List GlyphX} {ps : List PairX} {A B : Option Addr} {c d n0 n2 : Nat} {gv ov : Array Value} {W : World} (h : GlSt w X base p k a em gs ps A c B d n0 n2 gv ov W) (o : Obj) : GlSt w X base p k a em gs ps A c B d n0 n2 gv ov (W.alloc o) :=
  ⟨h.rd.keepN h.un ((Keep.refl [] W).alloc o) (by simp), h.fr.trans (((Keep.refl [] W).alloc o).fr h.rd.lt.1 (by simp)), blk_alloc h.gbox o, blk_alloc h.obox o, h.un, h.lt⟩
/-- A number was read, and laid down. -/
theorem GlSt.next {w : World} {X : RX} {base p q : Nat} {k a em : Int} {gs : List GlyphX} {ps : List PairX} {A B : Option Addr} {c d n0 n2 : Nat} {gv ov : Array Value} {W w1 : World} (h : GlSt w X base p k a em gs ps A c B d n0 n2 gv ov W) (K : Keep [X.g, X.rb] W w1)
    (r : IsRd w1 X q k a em (.slice A gs.length c) (.slice B ps.length d)) (m : IsM w1 X.g (mAt X.S X.C q)) (hp : (q : Int) ≤ X.S) (hs : q ≤ X.s.size) (i : Nat) (y z : Value) :
    GlSt w X base q k a em gs ps A c B d n0 n2 (gv.setIfInBounds i y) (ov.setIfInBounds i z) ((w1.setCell ⟨n0, i, none⟩ y).setCell ⟨n2, i, none⟩ z) := by
  have hl := h.lt
  have hg := h.un.g
  have hr := h.un.r
  have G1 := K.blk h.gbox (by simp; omega)
  have O1 := K.blk h.obox (by simp; omega)
  have KS : Keep [n0, n2] w1 ((w1.setCell ⟨n0, i, none⟩ y).setCell ⟨n2, i, none⟩ z) := ((Keep.refl _ _).set (.inl (by simp)) _).set (.inl (by simp)) _
  have R1 := h.rd.read K r m hp hs
  refine ⟨R1.keepN h.un KS (by simp; omega), h.fr.trans ((K.fr h.rd.lt.1 (by simp; have := h.rd.bR; omega)).trans (KS.fr R1.lt.1 (by simp; have := h.un.b; omega))), ?_, ?_, h.un, h.lt⟩
  · exact blk_far (blk_set G1 i y) (p := ⟨n2, i, none⟩) (by simp; omega) z
  · exact blk_set (blk_far O1 (p := ⟨n0, i, none⟩) (by simp; omega) y) i z
theorem GlSt.bad {w : World} {X : RX} {base p q : Nat} {k a em k' a' : Int} {gs : List GlyphX} {ps : List PairX} {A B : Option Addr} {c d n0 n2 : Nat} {gv ov : Array Value} {W w1 : World} (h : GlSt w X base p k a em gs ps A c B d n0 n2 gv ov W) (K : Keep [X.g, X.rb] W w1)
    (r : IsRd w1 X q k' a' em (.slice A gs.length c) (.slice B ps.length d)) (m : IsM w1 X.g (mBad X.S X.C k' q)) (hp : (q : Int) ≤ X.S) (hs : q ≤ X.s.size) (i : Nat) (y z : Value) :
    GlyphPost X base k a em gs ps A c B d (.error (k', a', q)) w (.returned (.bool false)) ((w1.setCell ⟨n0, i, none⟩ y).setCell ⟨n2, i, none⟩ z) := by
  have hl := h.lt
  have hg := h.un.g
  have hr := h.un.r
  have KS : Keep [n0, n2] w1 ((w1.setCell ⟨n0, i, none⟩ y).setCell ⟨n2, i, none⟩ z) := ((Keep.refl _ _).set (.inl (by simp)) _).set (.inl (by simp)) _
  have hsz := Nat.le_trans h.rd.lt.1 K.size
  exact ⟨h.fr.trans ((K.fr h.rd.lt.1 (by simp; have := h.rd.bR; omega)).trans (KS.fr hsz (by simp; have := h.un.b; omega))), rfl, r.keep KS (by simp; omega), m.keep KS (by simp; omega), hp, hs⟩

theorem cells1 {w : World} {n : Nat} {a : Value} {t : TypeId} (h : w.heap[n]? = some (.cells #[a] t (0, 0))) : w.cell? ⟨n, 0, none⟩ = some a ∧ w.frozen? ⟨n, 0, none⟩ = false ∧ n < w.heap.size := ⟨blk_cell h 0, blk_free h 0, blk_lt h⟩
/-- The glyphs rise. -/
def Ris (gs : List GlyphX) : Prop := ∀ g ∈ gs, g.ru ≤ lastG gs
theorem lastG_snoc (gs : List GlyphX) (x : GlyphX) : lastG (gs ++ [x]) = x.ru := by unfold lastG; simp
theorem Ris.snoc {gs : List GlyphX} (h : Ris gs) {x : GlyphX} (hx : lastG gs < x.ru) : Ris (gs ++ [x]) := fun g hg => by
  rw [lastG_snoc]
  rcases List.mem_append.1 hg with hg | hg
  · have := h g hg; omega
  · simp at hg; rw [hg]; exact Int.le_refl _
theorem Ris.none {gs : List GlyphX} (h : Ris gs) {r : Int} (hr : lastG gs < r) : gFind gs r = none := by
  unfold gFind
  rw [List.find?_eq_none]
  intro g hg
  have := h g hg
  simp
  omega
theorem Ris.map {gs : List GlyphX} (h : Ris gs) {x : GlyphX} (hx : lastG gs < x.ru) (r : Int) : (if r = x.ru then some x.wd else (gFind gs r).map (·.wd)) = (gFind (gs ++ [x]) r).map (·.wd) := by
  rw [gFind_snoc]
  by_cases e : r = x.ru
  · subst e
    rw [if_pos rfl, h.none hx]
    simp
  · rw [if_neg e]
    cases gFind gs r with
    | some y => rfl
    | none => simp only [if_neg (Ne.symm e)]
theorem RdS.map_ne {w : World} {X : RX} {base p : Nat} {k a em : Int} {gs : List GlyphX} {ps : List PairX} {A B : Option Addr} {c d : Nat} (h : RdS w X base p k a em gs ps A c B d) {g : Nat} {cs : Array Value} {t : TypeId} {fr : Nat × Nat} (hg : w.heap[g]? = some (.cells cs t fr)) : g ≠ X.mb := map_ne_cells h.map hg
theorem rd_one (w : World) (x : GlyphX) : Rd GlyphX.row 4 (w.alloc (.cells #[.int .i64 x.ru, .int .i64 x.wd, .int .i64 x.ht, .int .i64 x.dp] 45)) (some ⟨w.heap.size, 0, none⟩) [x] :=
  Rd.of_block (blk_new _ _) (fun i y j v hy hv => by
    cases i with
    | zero => simp at hy; subst hy; simpa [GlyphX.row] using hv
    | succ i => simp at hy)
theorem own_grown {W W' : World} {base : Nat} {e : TypeId} {sz n : Nat} {v : Value} {xs : List Value} {row : Option Nat} (h : W.ownsRow base e sz v n xs) (G : W.grownBy W' row) (hne : ∀ b, v.ownBlock = some b → some b ≠ row) : W'.ownsRow base e sz v n xs :=
  own_keep h (S := row.toList) ⟨G.os, G.tape, G.output, G.size, fun k hk hn => G.block k hk (fun e => hn (by simp [← e]))⟩ (fun b hb e => by simp at hb; exact hne b e.symm hb.symm)
theorem Fr.grown {base g : Nat} {W W' : World} {row : Option Nat} (G : W.grownBy W' row) (hr : ∀ k, row = some k → base ≤ k) (hb : base ≤ W.heap.size) : Fr base g W W' :=
  ⟨G.os, G.tape, G.output, G.size, fun k hk _ => G.block k (by omega) (fun e => by have := hr k e.symm; omega)⟩
theorem RdS.addG {V w6 w7 : World} {X : RX} {base q : Nat} {k a em : Int} {gs : List GlyphX} {ps : List PairX} {A B A7 : Option Addr} {c d c7 : Nat} (h : RdS V X base q k a em gs ps A c B d) (x : GlyphX)
    (M6 : MapF Try.prog 3 3 ik InI w6 X.mb (gs.length + 1) (fun y => if y = x.ru then some x.wd else (gFind gs y).map (·.wd))) (G6 : V.drew.grownBy w6 (some X.mb)) (hx : lastG gs < x.ru) (hris : Ris gs) (box : Obj)
    (O7 : w7.ownsRow base 45 4 (.slice A7 (gs.length + 1) c7) (gs.length + 1) (gs.flatMap GlyphX.row ++ [x].flatMap GlyphX.row)) (G7 : (w6.drew.alloc box).grownBy w7 (Value.slice A gs.length c).ownBlock) :
    RdS (w7.setCell ⟨X.rb, 7, none⟩ (.slice A7 (gs.length + 1) c7)) X base q k a em (gs ++ [x]) ps A7 c7 B d ∧ Fr base X.g V (w7.setCell ⟨X.rb, 7, none⟩ (.slice A7 (gs.length + 1) c7)) := by
  have hrb : X.rb ≠ X.mb := h.map_ne h.rd
  have hgb : X.g ≠ X.mb := h.map_ne h.meter
  have K6 : Keep [X.mb] V w6 := (Keep.refl [X.mb] V).drew.trans (grown_keep G6)
  have hK : Keep [X.mb] V (w6.drew.alloc box) := K6.drew.alloc box
  have gown := own_keep h.gown hK (fun b hb => by simp at hb; subst hb; exact map_ne_row h.map h.gown)
  have pown := own_keep h.pown hK (fun b hb => by simp at hb; subst hb; exact map_ne_row h.map h.pown)
  have rd : (w6.drew.alloc box).heap[X.rb]? = _ := hK.blk h.rd (by simpa using hrb)
  have met := h.meter.keep hK (by simpa using hgb)
  have map := (M6.keep ((Keep.refl [] w6).drew.alloc box) (by simp))
  have rd7 := blk_grown rd G7 (own_ne gown rd (by decide))
  have met7 := blk_grown met G7 (own_ne gown met (by decide))
  have map7 := map.grown G7 (map_ne_row map gown)
  have pown7 := own_grown pown G7 (fun b hb => by
    obtain ⟨_, _, cs, hcs⟩ := own_base pown b hb
    exact own_ne gown hcs (by decide))
  have KS : Keep [X.rb] w7 (w7.setCell ⟨X.rb, 7, none⟩ (.slice A7 (gs.length + 1) c7)) := (Keep.refl _ _).set (.inl (by simp)) _
  have hlb : base ≤ (w6.drew.alloc box).heap.size := Nat.le_trans h.lt.1 hK.size
  have e1 : gs.length + 1 = (gs ++ [x]).length := by simp
  refine ⟨⟨?_, ?_, own_keep pown7 KS (fun b hb => by simp at hb; subst hb; exact own_ne pown7 rd7 (by decide)), ?_, IsM.keep met7 KS (by have := h.rd; simp; exact fun e => by have := h.bR; have := h.bG; omega), h.bR, h.bM, h.bG, h.ps_, h.sz⟩,
    ((hK.fr h.lt.1 (by simp; exact .inr h.bM)).trans (Fr.grown G7 (fun k e => (own_base gown k e).1) hlb)).trans (KS.fr (Nat.le_trans hlb G7.size) (by simp; exact .inr h.bR))⟩
  · rw [← e1]
    exact (blk_set rd7 7 _).trans (by simp)
  · rw [← e1, List.flatMap_append]
    exact own_keep O7 KS (fun b hb => by simp at hb; subst hb; exact own_ne O7 rd7 (by decide))
  · rw [← e1]
    exact (map7.keep KS (by simpa using hrb.symm)).ext (fun r _ => hris.map hx r)
def dimX (bs : List Nat) (S : Int) (p : Nat) : PR Nat := numX bs S 2 (toR 0 16384) p
def glA (bs : List Nat) (S : Int) (ru p : Nat) : PR GlyphX := (dimX bs S p).bind fun wd p => (dimX bs S p).bind fun ht p => (dimX bs S p).bind fun dp p => .ok (⟨ru, wd, ht, dp⟩, p)
def glB (bs : List Nat) (S : Int) (ru wd p : Nat) : PR GlyphX := (dimX bs S p).bind fun ht p => (dimX bs S p).bind fun dp p => .ok (⟨ru, wd, ht, dp⟩, p)
def glC (bs : List Nat) (S : Int) (ru wd ht p : Nat) : PR GlyphX := (dimX bs S p).bind fun dp p => .ok (⟨ru, wd, ht, dp⟩, p)

theorem right_to {X : RX} {k a em : Int} {G P : Value} {W : World} {b1 b2 lo hi : Nat} (h1 : W.cell? ⟨b1, 0, none⟩ = some (.int .i64 lo)) (h2 : W.cell? ⟨b2, 0, none⟩ = some (.int .i64 hi)) (e1 : b1 ≠ X.g ∧ b1 ≠ X.rb) (e2 : b2 ≠ X.g ∧ b2 ≠ X.rb) :
    RightIs X k a em G P W 88 #[] #[.pointer (some ⟨b1, 0, none⟩), .pointer (some ⟨b2, 0, none⟩)] (toR lo hi) := fun n q w1 hn K _ =>
  to1_any n lo hi b1 b2 w1 (K.cell h1 (by simp; exact e1)) (K.cell h2 (by simp; exact e2))
theorem right_rune {X : RX} {k a em : Int} {G P : Value} {W : World} {b : Nat} {last : Int} (h1 : W.cell? ⟨b, 0, none⟩ = some (.int .i64 last)) (e1 : b ≠ X.g ∧ b ≠ X.rb) :
    RightIs X k a em G P W 89 #[] #[.pointer (some ⟨b, 0, none⟩)] (runeR last) := fun n q w1 hn K _ => rune1_any n b last w1 hn (K.cell h1 (by simp; exact e1))
theorem enters_to : ∀ args w, (callFunc 88 args).run Try.prog w = .ok (.enter 88 args) w := enters_of Try.func88 (by kernel_rfl) rfl
theorem enters_rune : ∀ args w, (callFunc 89 args).run Try.prog w = .ok (.enter 89 args) w := enters_of Try.func89 (by kernel_rfl) rfl

set_option maxHeartbeats 8000000 in
set_option maxRecDepth 100000 in
theorem glyph_reads (X : RX) (hX : X.ok) (base p : Nat) (k a em : Int) (gs : List GlyphX) (ps : List PairX) (A : Option Addr) (c : Nat) (B : Option Addr) (d : Nat) (w : World) (h : RdS w X base p k a em gs ps A c B d) (hgl : gs.length ≤ 1024) (hris : Ris gs) :
    Calls Try.prog 81 #[.pointer (some ⟨X.rb, 0, none⟩)] w fun e w' => GlyphPost X base k a em gs ps A c B d (glyphX (LB X.s) X.S (lastG gs) p) w e w' := by
  obtain ⟨F, hF⟩ : ∃ F, glyphX (LB X.s) X.S (lastG gs) p = F := ⟨_, rfl⟩
  rw [hF]
  have HF : Hid ((numX (LB X.s) X.S 3 (runeR (lastG gs)) p).bind (fun ru p => glA (LB X.s) X.S ru p) = F) := hid hF
  clear hF
  have HR : w.heap[X.rb]? = _ := h.rd
  obtain ⟨hb0, hb1, hb2⟩ := h.lt
  have hun := h.under
  obtain ⟨c0, c1, c2, c3, c4, c5, c6, c7, c8⟩ := cells9 HR
  have hmf := makeFunc_run
  go_enter Try.func81, Try.ntmps81
  go_upto_if 15 with (fail)
  go_cut [] from 16 to 25 (fun wc => wc.heap[w.heap.size]? = some (.cells #[.int .i64 0, .int .i64 0, .int .i64 0, .int .i64 0] 45 (0, 0)) ∧ wc.heap[w.heap.size + 1]? = some (.cells #[.int .i64 (lastG gs)] 3 (0, 0)) ∧ Keep [] w wc)
  case first =>
    have hN0 := blk_alloc (blk_new w (.cells #[.int .i64 0, .int .i64 0, .int .i64 0, .int .i64 0] 45)) (.cells #[.int .i64 (-1)] 3)
    have hN1 := blk_new (w.alloc (.cells #[.int .i64 0, .int .i64 0, .int .i64 0, .int .i64 0] 45)) (.cells #[.int .i64 (-1)] 3)
    rw [size_alloc'] at hN1
    have K0 : Keep [] w ((w.alloc (.cells #[.int .i64 0, .int .i64 0, .int .i64 0, .int .i64 0] 45)).alloc (.cells #[.int .i64 (-1)] 3)) := ((Keep.refl _ _).alloc _).alloc _
    rcases List.eq_nil_or_concat gs with hg0 | ⟨gs', x, hg0⟩
    · have hl0 : ¬ (0 < gs.length) := by rw [hg0]; simp
      have hlast : lastG gs = -1 := by rw [hg0]; rfl
      have HL := hid hlast
      clear hlast hg0
      go_wp2
      go_meet
      rw [HL.out]
      exact ⟨hN0, hN1, K0⟩
    · have hlen : gs.length = gs'.length + 1 := by rw [hg0]; simp
      have hlast : lastG gs = x.ru := by rw [hg0]; unfold lastG; simp
      have hx : gs[gs'.length]? = some x := by rw [hg0, List.concat_eq_append]; simp
      obtain ⟨gb, hA, _, hgb, hc⟩ := own_at row4 h.gown hx
      have d0 := hc 0 _ rfl
      rw [Nat.add_zero] at d0
      subst hA
      have HL := hid hlast
      have hp1 : (0 : Int) < (gs.length : Int) := by omega
      have hp2 : IntKind.i64.wrap ((gs.length : Int) - 1) = (gs'.length : Int) := by rw [show (gs.length : Int) - 1 = (gs'.length : Int) by omega]; exact IntWalk.i64_in _ (by omega)
      have hp3 : (gs'.length : Int) < (gs.length : Int) := by omega
      obtain ⟨n1, n2, n3⟩ := cells1 hN1
      clear hlast hx hc hg0
      go_wp2
      go_meet
      rw [HL.out]
      have hM := blk_new (w.alloc (.cells #[.int .i64 0, .int .i64 0, .int .i64 0, .int .i64 0] 45)) (.cells #[.int .i64 x.ru] 3)
      rw [size_alloc'] at hM
      exact ⟨blk_alloc (blk_new _ _) _, hM, ((Keep.refl _ _).alloc _).alloc _⟩
  case rest =>
    obtain ⟨hN0, hN1, KC⟩ := hcut
    have hs1 := blk_lt hN1
    clear c0 c1 c2 c3 c4 c5 c6 c7 c8
    have st : GlSt w X base p k a em gs ps A c B d w.heap.size wc.heap.size #[.int .i64 0, .int .i64 0, .int .i64 0, .int .i64 0] #[.bool false, .bool false, .bool false, .bool false] (wc.alloc (.cells #[.bool false, .bool false, .bool false, .bool false] 131)) :=
      ⟨h.keepN hun (KC.alloc _) (by simp), (KC.alloc _).fr hb0 (by simp), blk_alloc hN0 _, blk_new _ _, hun, by omega⟩
    have hN1' := (cells1 (blk_alloc hN1 (.cells #[.bool false, .bool false, .bool false, .bool false] 131))).1
    have HN := numb_any X hX p 3 89 #[] #[.pointer (some ⟨w.heap.size + 1, 0, none⟩)] (runeR (lastG gs)) k a em _ _ _ st.rd.rd st.rd.meter st.rd.ps_ st.rd.sz (by omega) enters_rune (right_rune hN1' ⟨by have := hun.g; omega, by omega⟩)
    go_wp2_with fail
    generalize wc.alloc (.cells #[.bool false, .bool false, .bool false, .bool false] 131) = W0 at *
    generalize hN2 : wc.heap.size = n2 at *
    generalize hn0 : w.heap.size = n0 at *
    clear KC hN0 hN1 hN1' h HR hs1 hN2 hn0
    obtain ⟨r, hr⟩ : ∃ r, numX (LB X.s) X.S 3 (runeR (lastG gs)) p = r := ⟨_, rfl⟩
    rw [hr] at HN
    refine HN.mono ?_
    clear HN
    rintro e w1 ⟨K1, HP⟩
    have g1 := K1.blk st.gbox (by simp; have := st.un.g; have := st.un.r; omega)
    have o1 := K1.blk st.obox (by simp; have := st.un.g; have := st.un.r; have := st.lt; omega)
    have hlt2 := st.lt
    obtain ⟨a0, a1, a2, a3, af0, af1, af2, af3, asz⟩ := cells4 g1
    obtain ⟨b0, b1, b2, b3, bf0, bf1, bf2, bf3, bs⟩ := cells4 o1
    cases r with
    | error e0 =>
      obtain ⟨k', a', q'⟩ := e0
      obtain ⟨rfl, R1, M1, hp1, hs1⟩ := HP
      have hFe : F = .error (k', a', q') := by rw [← HF.out]; rw [hr]; rfl
      go_wp2
      go_ret
      rw [hFe]
      exact st.bad K1 R1 M1 hp1 hs1 0 _ _
    | ok v0 =>
      obtain ⟨ru, q1⟩ := v0
      obtain ⟨rfl, R1, M1, hp1, hs1⟩ := HP
      have st0 := st.next K1 R1 M1 hp1 hs1 0 (.int .i64 ((ru : Nat) : Int)) (.bool true)
      simp only [List.setIfInBounds_toArray, List.set_cons_zero, List.set_cons_succ] at st0
      have Q0 := hid (numX_ok hr).1
      have HF1 : Hid (glA (LB X.s) X.S ru q1 = F) := hid (by rw [← HF.out]; rw [hr]; rfl)
      clear HF hr st
      go_wp2_with fail
      clear a0 a1 a2 a3 af0 af1 af2 af3 asz b0 b1 b2 b3 bf0 bf1 bf2 bf3 bs g1 o1 K1 R1 M1
      generalize ((w1.setCell ⟨n0, 0, none⟩ (.int .i64 ((ru : Nat) : Int))).setCell ⟨n2, 0, none⟩ (.bool true)) = V1 at *
      refine (to_at 0 16384 V1).mono ?_
      rintro e wt ⟨rfl, rfl⟩
      have st := (st0.alloc (.cells #[.int .i64 0] 3)).alloc (.cells #[.int .i64 16384] 3)
      have t0 := (cells1 (blk_alloc (blk_new V1 (.cells #[.int .i64 0] 3)) (.cells #[.int .i64 16384] 3))).1
      have t1 := (cells1 (blk_new (V1.alloc (.cells #[.int .i64 0] 3)) (.cells #[.int .i64 16384] 3))).1
      rw [size_alloc'] at t1
      have hV := st0.rd.lt
      have hVg := st0.rd.bG
      have HN := numb_any X hX q1 2 88 #[] #[.pointer (some ⟨V1.heap.size, 0, none⟩), .pointer (some ⟨V1.heap.size + 1, 0, none⟩)] (toR 0 16384) k a em _ _ _ st.rd.rd st.rd.meter st.rd.ps_ st.rd.sz (by omega) enters_to (right_to (lo := 0) (hi := 16384) t0 t1 ⟨by omega, by omega⟩ ⟨by omega, by omega⟩)
      have HF := HF1
      clear HF1
      go_wp2_with fail
      clear t0 t1 hV hVg st0
      generalize (V1.alloc (.cells #[.int .i64 0] 3)).alloc (.cells #[.int .i64 16384] 3) = U1 at *
      obtain ⟨r, hr⟩ : ∃ r, numX (LB X.s) X.S 2 (toR 0 16384) q1 = r := ⟨_, rfl⟩
      rw [hr] at HN
      refine HN.mono ?_
      clear HN
      rintro e w2 ⟨K1, HP⟩
      have g1 := K1.blk st.gbox (by simp; have := st.un.g; have := st.un.r; omega)
      have o1 := K1.blk st.obox (by simp; have := st.un.g; have := st.un.r; have := st.lt; omega)
      have hlt2 := st.lt
      obtain ⟨a0, a1, a2, a3, af0, af1, af2, af3, asz⟩ := cells4 g1
      obtain ⟨b0, b1, b2, b3, bf0, bf1, bf2, bf3, bs⟩ := cells4 o1
      cases r with
      | error e0 =>
        obtain ⟨k', a', q'⟩ := e0
        obtain ⟨rfl, R1, M1, hp1, hs1⟩ := HP
        have hFe : F = .error (k', a', q') := by rw [← HF.out]; unfold glA; unfold dimX; rw [hr]; rfl
        go_wp2
        go_ret
        rw [hFe]
        exact st.bad K1 R1 M1 hp1 hs1 1 _ _
      | ok v0 =>
        obtain ⟨wd, q2⟩ := v0
        obtain ⟨rfl, R1, M1, hp1, hs1⟩ := HP
        have st1 := st.next K1 R1 M1 hp1 hs1 1 (.int .i64 ((wd : Nat) : Int)) (.bool true)
        simp only [List.setIfInBounds_toArray, List.set_cons_zero, List.set_cons_succ] at st1
        have Q1 := hid (numX_ok hr).1
        have HF1 : Hid (glB (LB X.s) X.S ru wd q2 = F) := hid (by rw [← HF.out]; rw [show glA (LB X.s) X.S ru _ = _ from by unfold glA; unfold dimX; rw [hr]] ; rfl)
        clear HF hr st
        go_wp2_with fail
        clear a0 a1 a2 a3 af0 af1 af2 af3 asz b0 b1 b2 b3 bf0 bf1 bf2 bf3 bs g1 o1 K1 R1 M1
        generalize ((w2.setCell ⟨n0, 1, none⟩ (.int .i64 ((wd : Nat) : Int))).setCell ⟨n2, 1, none⟩ (.bool true)) = V2 at *
        refine (to_at 0 16384 V2).mono ?_
        rintro e wt ⟨rfl, rfl⟩
        have st := (st1.alloc (.cells #[.int .i64 0] 3)).alloc (.cells #[.int .i64 16384] 3)
        have t0 := (cells1 (blk_alloc (blk_new V2 (.cells #[.int .i64 0] 3)) (.cells #[.int .i64 16384] 3))).1
        have t1 := (cells1 (blk_new (V2.alloc (.cells #[.int .i64 0] 3)) (.cells #[.int .i64 16384] 3))).1
        rw [size_alloc'] at t1
        have hV := st1.rd.lt
        have hVg := st1.rd.bG
        have HN := numb_any X hX q2 2 88 #[] #[.pointer (some ⟨V2.heap.size, 0, none⟩), .pointer (some ⟨V2.heap.size + 1, 0, none⟩)] (toR 0 16384) k a em _ _ _ st.rd.rd st.rd.meter st.rd.ps_ st.rd.sz (by omega) enters_to (right_to (lo := 0) (hi := 16384) t0 t1 ⟨by omega, by omega⟩ ⟨by omega, by omega⟩)
        have HF := HF1
        clear HF1
        go_wp2_with fail
        clear t0 t1 hV hVg st1
        generalize (V2.alloc (.cells #[.int .i64 0] 3)).alloc (.cells #[.int .i64 16384] 3) = U2 at *
        obtain ⟨r, hr⟩ : ∃ r, numX (LB X.s) X.S 2 (toR 0 16384) q2 = r := ⟨_, rfl⟩
        rw [hr] at HN
        refine HN.mono ?_
        clear HN
        rintro e w3 ⟨K1, HP⟩
        have g1 := K1.blk st.gbox (by simp; have := st.un.g; have := st.un.r; omega)
        have o1 := K1.blk st.obox (by simp; have := st.un.g; have := st.un.r; have := st.lt; omega)
        have hlt2 := st.lt
        obtain ⟨a0, a1, a2, a3, af0, af1, af2, af3, asz⟩ := cells4 g1
        obtain ⟨b0, b1, b2, b3, bf0, bf1, bf2, bf3, bs⟩ := cells4 o1
        cases r with
        | error e0 =>
          obtain ⟨k', a', q'⟩ := e0
          obtain ⟨rfl, R1, M1, hp1, hs1⟩ := HP
          have hFe : F = .error (k', a', q') := by rw [← HF.out]; unfold glB; unfold dimX; rw [hr]; rfl
          go_wp2
          go_ret
          rw [hFe]
          exact st.bad K1 R1 M1 hp1 hs1 2 _ _
        | ok v0 =>
          obtain ⟨ht, q3⟩ := v0
          obtain ⟨rfl, R1, M1, hp1, hs1⟩ := HP
          have st2 := st.next K1 R1 M1 hp1 hs1 2 (.int .i64 ((ht : Nat) : Int)) (.bool true)
          simp only [List.setIfInBounds_toArray, List.set_cons_zero, List.set_cons_succ] at st2
          have Q2 := hid (numX_ok hr).1
          have HF1 : Hid (glC (LB X.s) X.S ru wd ht q3 = F) := hid (by rw [← HF.out]; rw [show glB (LB X.s) X.S ru wd _ = _ from by unfold glB; unfold dimX; rw [hr]] ; rfl)
          clear HF hr st
          go_wp2_with fail
          clear a0 a1 a2 a3 af0 af1 af2 af3 asz b0 b1 b2 b3 bf0 bf1 bf2 bf3 bs g1 o1 K1 R1 M1
          generalize ((w3.setCell ⟨n0, 2, none⟩ (.int .i64 ((ht : Nat) : Int))).setCell ⟨n2, 2, none⟩ (.bool true)) = V3 at *
          refine (to_at 0 16384 V3).mono ?_
          rintro e wt ⟨rfl, rfl⟩
          have st := (st2.alloc (.cells #[.int .i64 0] 3)).alloc (.cells #[.int .i64 16384] 3)
          have t0 := (cells1 (blk_alloc (blk_new V3 (.cells #[.int .i64 0] 3)) (.cells #[.int .i64 16384] 3))).1
          have t1 := (cells1 (blk_new (V3.alloc (.cells #[.int .i64 0] 3)) (.cells #[.int .i64 16384] 3))).1
          rw [size_alloc'] at t1
          have hV := st2.rd.lt
          have hVg := st2.rd.bG
          have HN := numb_any X hX q3 2 88 #[] #[.pointer (some ⟨V3.heap.size, 0, none⟩), .pointer (some ⟨V3.heap.size + 1, 0, none⟩)] (toR 0 16384) k a em _ _ _ st.rd.rd st.rd.meter st.rd.ps_ st.rd.sz (by omega) enters_to (right_to (lo := 0) (hi := 16384) t0 t1 ⟨by omega, by omega⟩ ⟨by omega, by omega⟩)
          have HF := HF1
          clear HF1
          go_wp2_with fail
          clear t0 t1 hV hVg st2
          generalize (V3.alloc (.cells #[.int .i64 0] 3)).alloc (.cells #[.int .i64 16384] 3) = U3 at *
          obtain ⟨r, hr⟩ : ∃ r, numX (LB X.s) X.S 2 (toR 0 16384) q3 = r := ⟨_, rfl⟩
          rw [hr] at HN
          refine HN.mono ?_
          clear HN
          rintro e w4 ⟨K1, HP⟩
          have g1 := K1.blk st.gbox (by simp; have := st.un.g; have := st.un.r; omega)
          have o1 := K1.blk st.obox (by simp; have := st.un.g; have := st.un.r; have := st.lt; omega)
          have hlt2 := st.lt
          obtain ⟨a0, a1, a2, a3, af0, af1, af2, af3, asz⟩ := cells4 g1
          obtain ⟨b0, b1, b2, b3, bf0, bf1, bf2, bf3, bs⟩ := cells4 o1
          cases r with
          | error e0 =>
            obtain ⟨k', a', q'⟩ := e0
            obtain ⟨rfl, R1, M1, hp1, hs1⟩ := HP
            have hFe : F = .error (k', a', q') := by rw [← HF.out]; unfold glC; unfold dimX; rw [hr]; rfl
            go_wp2
            go_ret
            rw [hFe]
            exact st.bad K1 R1 M1 hp1 hs1 3 _ _
          | ok v0 =>
            obtain ⟨dp, q4⟩ := v0
            obtain ⟨rfl, R1, M1, hp1, hs1⟩ := HP
            have st3 := st.next K1 R1 M1 hp1 hs1 3 (.int .i64 ((dp : Nat) : Int)) (.bool true)
            simp only [List.setIfInBounds_toArray, List.set_cons_zero, List.set_cons_succ] at st3
            have Q3 := hid (numX_ok hr).1
            have HF1 : Hid (F = .ok (⟨ru, wd, ht, dp⟩, q4)) := hid (by rw [← HF.out]; unfold glC; unfold dimX; rw [hr]; rfl)
            clear HF hr st
            have hlr : lastG gs < (ru : Int) ∧ ru ≤ 1114111 := by have := Q0.out; simp [runeR] at this; omega
            have hwd : wd ≤ 16384 := by have := Q1.out; simp [toR] at this; omega
            go_upto_region 20 with (fail)
            clear a0 a1 a2 a3 af0 af1 af2 af3 asz b0 b1 b2 b3 bf0 bf1 bf2 bf3 bs g1 o1 K1 M1 R1
            generalize ((w4.setCell ⟨n0, 3, none⟩ (.int .i64 ((dp : Nat) : Int))).setCell ⟨n2, 3, none⟩ (.bool true)) = V4 at *
            have HR : V4.heap[X.rb]? = _ := st3.rd.rd
            obtain ⟨c0, c1, c2, c3, c4, c5, c6, c7, c8⟩ := cells9 HR
            obtain ⟨a0, a1, a2, a3, af0, af1, af2, af3, asz⟩ := cells4 st3.gbox
            have hiru : InI (ru : Int) := by unfold InI; omega
            obtain ⟨kl, hkl⟩ := keyOf_ik hiru
            obtain ⟨w6, hrun0, M6, G6⟩ := (st3.rd.map.keep (Keep.refl [] V4).drew (by simp)).store keyInt Try.underlying47 Try.underlying3 (by simp [maxLen] <;> omega) (fun a b kl _ _ ha hb => ik_inj ha hb) (v := (wd : Int)) hiru hkl (wfI (show InI _ by unfold InI; omega))
            have hrun : (Instr.mapUpdate 47 (.map (some X.mb)) (.int .i64 (ru : Int)) (.int .i64 (wd : Int))).run Try.prog V4.drew = .ok () w6 := hrun0
            clear hrun0 hkl
            go_still_tail 8, (by kernel_rfl)
            go_upto_region 21 with (fail)
            clear hrun c0 c1 c2 c3 c4 c5 c6 c7 c8 a0 a1 a2 a3 af0 af1 af2 af3 asz
            have hrow : ∀ (t : TypeId) (fr : Nat × Nat) (g : Nat) (cs : Array Value), V4.heap[g]? = some (.cells cs t fr) → w6.heap[g]? = some (.cells cs t fr) := fun t fr g cs hg => blk_grown (blk_drew hg) G6 (by simpa using st3.rd.map_ne hg)
            have K6 := grown_keep G6
            have rd6 := hrow _ _ _ _ HR
            have gb6 := hrow _ _ _ _ st3.gbox
            obtain ⟨c0, c1, c2, c3, c4, c5, c6, c7, c8⟩ := cells9 rd6
            obtain ⟨a0, a1, a2, a3, af0, af1, af2, af3, asz⟩ := cells4 gb6
            have crf := blk_free rd6 7
            have gown6 := own_keep st3.rd.gown ((Keep.refl [X.mb] V4).drew.trans K6) (fun b hb => by simp at hb; subst hb; exact map_ne_row st3.rd.map st3.rd.gown)
            have hrl6 := blk_lt rd6
            have hne7 := own_ne gown6 rd6 (by decide)
            have hbs6 : base ≤ w6.heap.size := by have := blk_lt rd6; have := st3.rd.bR; omega
            have rone := rd_one w6.drew ⟨ru, wd, ht, dp⟩
            go_region_law ((refine step_append_list (enc := GlyphX.row) (ls := [⟨ru, wd, ht, dp⟩]) (A := some ⟨w6.heap.size, 0, none⟩) (m := 1) (c := 1) rfl _ _ 22 (.agg #[.int .i64 0, .int .i64 0, .int .i64 0, .int .i64 0]) 4 32 rfl (by kernel_rfl) (by kernel_rfl) (by kernel_rfl) (by decide) (by decide) base (.slice A gs.length c) gs.length (gs.flatMap GlyphX.row) rfl rfl rfl (by intro e; cases e) rone row4 one4 ((own_keep gown6 (Keep.refl [] w6).drew (by simp)).alloc _) (by simp; omega) (by omega) ?_; intro A7 c7 w7 O7 G7; obtain ⟨e0, e1, e2, e3, e4, e5, e6, e7, e8⟩ := cells9 (blk_grown (blk_alloc (blk_drew rd6) _) G7 hne7); have ef := blk_free (blk_grown (blk_alloc (blk_drew rd6) _) G7 hne7) 7))
            all_goals
              go_wp2
              go_ret
              rw [HF1.out]
              obtain ⟨r8, f8⟩ := st3.rd.addG ⟨ru, wd, ht, dp⟩ M6 G6 hlr.1 hris _ O7 G7
              exact ⟨st3.fr.trans f8, rfl, A7, c7, r8⟩
end Go.Proofs.Ythcfgechifogeaa
