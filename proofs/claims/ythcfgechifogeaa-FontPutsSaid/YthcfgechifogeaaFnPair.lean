/- Font: the reader's pair, by a contract. -/
import Derived.Test.YthcfgechifogeaaFnGlyph
import Derived.Test.YthcfgechifogeaaHeldLex
import Derived.Test.YthcfgechifogeaaHeldZ
import Derived.Deep.RegionHeld3
namespace Go.Proofs.Ythcfgechifogeaa
open Go.RowKit Go.Maps
set_option linter.unusedSimpArgs false
set_option linter.unusedVariables false

theorem MapF.get {κ : Type} {P : Program} {K E : TypeId} {kf : κ → Value} {ok : κ → Prop} {w : World} {b n : Nat} {f : κ → Option Int} (h : MapF P K E kf ok w b n f) (L : Keyed P K) {t : TypeId} (ht : P.underlying t = some (.map K E)) (he : P.underlying E = some (.int .i64)) (hz : (zeroValue E).run P w = .ok (.int .i64 0) w)
    {k : κ} {kl : Lit} (o : ok k) (hk : keyOf P K (kf k) = some kl) :
    (Instr.lookup t (.map (some b)) (kf k) false).run P w = .ok (.int .i64 ((f k).getD 0)) w := by
  obtain ⟨D, h1, h2⟩ := h
  obtain ⟨c, hrun, hat, _⟩ := h1.lookup_int L ht he hz hk
  have := (h2 k kl o hk).2
  rw [hat] at this
  simp only [DataW.lit.injEq, Lit.int.injEq, true_and] at this
  rw [hrun, this]

/-- What a pair's reading leaves. -/
def PairPost (X : RX) (base : Nat) (k a em : Int) (gs : List GlyphX) (ps : List PairX) (A : Option Addr) (c : Nat) (B : Option Addr) (d : Nat) (r : PR PairX) (w : World) (e : Ending) (w' : World) : Prop :=
  Fr base X.g w w' ∧
  match r with
  | .ok (x, q) => e = .returned (.bool true) ∧ ∃ B' d', RdS w' X base q k a em gs (ps ++ [x]) A c B' d'
  | .error (k', a', q) => e = .returned (.bool false) ∧ IsRd w' X q k' a' em (.slice A gs.length c) (.slice B ps.length d) ∧ IsM w' X.g (mBad X.S X.C k' q) ∧ (q : Int) ≤ X.S ∧ q ≤ X.s.size

/-- What stands in pair's frame between two numbers. -/
structure PrSt (w : World) (X : RX) (base : Nat) (p : Nat) (k a em : Int) (gs : List GlyphX) (ps : List PairX) (A : Option Addr) (c : Nat) (B : Option Addr) (d : Nat) (n0 : Nat) (pv av : Array Value) (W : World) : Prop where
  rd : RdS W X base p k a em gs ps A c B d
  fr : Fr base X.g w W
  rbox : W.heap[n0]? = some (.cells #[.pointer (some ⟨X.rb, 0, none⟩)] 101 (0, 0))
  pbox : W.heap[n0 + 1]? = some (.cells pv 52 (0, 0))
  abox : W.heap[n0 + 1 + 1]? = some (.cells av 52 (0, 0))
  un : Under X base (.slice A gs.length c) (.slice B ps.length d) n0
section
variable {w W w1 : World} {X : RX} {base p q : Nat} {k a em k' a' : Int} {gs : List GlyphX} {ps : List PairX} {A B : Option Addr} {c d n0 : Nat} {pv av : Array Value}
theorem PrSt.keep (h : PrSt w X base p k a em gs ps A c B d n0 pv av W) (K : Keep [] W w1) : PrSt w X base p k a em gs ps A c B d n0 pv av w1 :=
  ⟨h.rd.keepN h.un K (by simp), h.fr.trans (K.fr h.rd.lt.1 (by simp)), K.blk h.rbox (by simp), K.blk h.pbox (by simp), K.blk h.abox (by simp), h.un⟩
theorem PrSt.lt (h : PrSt w X base p k a em gs ps A c B d n0 pv av W) : n0 + 1 + 1 < W.heap.size := blk_lt h.abox
theorem PrSt.ne (h : PrSt w X base p k a em gs ps A c B d n0 pv av W) : ∀ j, n0 ≤ j → j ≠ X.g ∧ j ≠ X.rb := fun j hj => ⟨by have := h.un.g; omega, by have := h.un.r; omega⟩
theorem PrSt.read (h : PrSt w X base p k a em gs ps A c B d n0 pv av W) (K : Keep [X.g, X.rb] W w1) (r : IsRd w1 X q k a em (.slice A gs.length c) (.slice B ps.length d)) (m : IsM w1 X.g (mAt X.S X.C q)) (hp : (q : Int) ≤ X.S) (hs : q ≤ X.s.size) :
    PrSt w X base q k a em gs ps A c B d n0 pv av w1 :=
  ⟨h.rd.read K r m hp hs, h.fr.trans (K.fr h.rd.lt.1 (by simp; have := h.rd.bR; omega)), K.blk h.rbox (by simp; exact h.ne _ (by omega)), K.blk h.pbox (by simp; exact h.ne _ (by omega)), K.blk h.abox (by simp; exact h.ne _ (by omega)), h.un⟩
theorem PrSt.put (h : PrSt w X base p k a em gs ps A c B d n0 pv av W) (i : Nat) (y : Value) : PrSt w X base p k a em gs ps A c B d n0 (pv.setIfInBounds i y) av (W.setCell ⟨n0 + 1, i, none⟩ y) :=
  have KS : Keep [n0 + 1] W (W.setCell ⟨n0 + 1, i, none⟩ y) := (Keep.refl _ _).set (.inl (by simp)) _
  ⟨h.rd.keepN h.un KS (by simp), h.fr.trans (KS.fr h.rd.lt.1 (by simp; have := h.un.b; omega)), KS.blk h.rbox (by simp), blk_set h.pbox i y, KS.blk h.abox (by simp), h.un⟩
theorem PrSt.bad (h : PrSt w X base p k a em gs ps A c B d n0 pv av W) (K : Keep [X.g, X.rb] W w1) (r : IsRd w1 X q k' a' em (.slice A gs.length c) (.slice B ps.length d)) (m : IsM w1 X.g (mBad X.S X.C k' q)) (hp : (q : Int) ≤ X.S) (hs : q ≤ X.s.size) {w2 : World} (K2 : Keep [n0 + 1] w1 w2) :
    PairPost X base k a em gs ps A c B d (.error (k', a', q)) w (.returned (.bool false)) w2 :=
  ⟨h.fr.trans ((K.fr h.rd.lt.1 (by simp; have := h.rd.bR; omega)).trans (K2.fr (Nat.le_trans h.rd.lt.1 K.size) (by simp; have := h.un.b; omega))), rfl, r.keep K2 (by simp; have := h.un.r; omega), m.keep K2 (by simp; have := h.un.g; omega), hp, hs⟩
theorem PrSt.right_left (h : PrSt w X base p k a em gs ps A c B d n0 pv av W) {x : Int × Int} (hx : av[0]? = some (.int .i64 x.1)) :
    RightIs X k a em (.slice A gs.length c) (.slice B ps.length d) W 90 #[] #[.pointer (some ⟨n0, 0, none⟩), .pointer (some ⟨n0 + 1 + 1, 0, none⟩)] (leftR gs x) := fun n q w1 hn K r =>
  left1_any gs n gs.length n0 (n0 + 1 + 1) x hn r (h.rd.map.keep K (by simp; exact ⟨fun e => h.rd.map_ne h.rd.meter e.symm, fun e => h.rd.map_ne h.rd.rd e.symm⟩)) (K.cell (blk_cell h.rbox 0) (by simp; exact h.ne _ (by omega))) (K.cell ((blk_cell h.abox 0).trans hx) (by simp; exact h.ne _ (by omega)))
theorem PrSt.right_right (h : PrSt w X base p k a em gs ps A c B d n0 pv av W) {x : Int × Int} {lf : Nat} (hl : pv[0]? = some (.int .i64 lf)) (hx : av[0]? = some (.int .i64 x.1)) (hy : av[1]? = some (.int .i64 x.2)) :
    RightIs X k a em (.slice A gs.length c) (.slice B ps.length d) W 92 #[] #[.pointer (some ⟨n0, 0, none⟩), .pointer (some ⟨n0 + 1, 0, none⟩), .pointer (some ⟨n0 + 1 + 1, 0, none⟩)] (rightR gs x lf) := fun n q w1 hn K r =>
  right1_any gs n gs.length n0 (n0 + 1) (n0 + 1 + 1) lf x hn r (h.rd.map.keep K (by simp; exact ⟨fun e => h.rd.map_ne h.rd.meter e.symm, fun e => h.rd.map_ne h.rd.rd e.symm⟩)) (K.cell (blk_cell h.rbox 0) (by simp; exact h.ne _ (by omega))) (K.cell ((blk_cell h.pbox 0).trans hl) (by simp; exact h.ne _ (by omega))) (K.cell ((blk_cell h.abox 0).trans hx) (by simp; exact h.ne _ (by omega))) (K.cell ((blk_cell h.abox 1).trans hy) (by simp; exact h.ne _ (by omega)))
theorem PrSt.right_known (h : PrSt w X base p k a em gs ps A c B d n0 pv av W) : RightIs X k a em (.slice A gs.length c) (.slice B ps.length d) W 91 #[.pointer (some ⟨X.rb, 0, none⟩)] #[] (knownR gs) := fun n q w1 hn K r =>
  known_any gs n gs.length hn r (h.rd.map.keep K (by simp; exact ⟨fun e => h.rd.map_ne h.rd.meter e.symm, fun e => h.rd.map_ne h.rd.rd e.symm⟩))
end
theorem right_kern {X : RX} {k a em : Int} {G P : Value} {W : World} {b : Nat} {least : Int} (h1 : W.cell? ⟨b, 0, none⟩ = some (.int .i64 least)) (e1 : b ≠ X.g ∧ b ≠ X.rb) :
    RightIs X k a em G P W 93 #[] #[.pointer (some ⟨b, 0, none⟩)] (kernR least) := fun n q w1 hn K _ => kern1_any n b least w1 hn (K.cell h1 (by simp; exact e1))
theorem enters_left : ∀ args w, (callFunc 90 args).run Try.prog w = .ok (.enter 90 args) w := enters_of Try.func90 (by kernel_rfl) rfl
theorem enters_right : ∀ args w, (callFunc 92 args).run Try.prog w = .ok (.enter 92 args) w := enters_of Try.func92 (by kernel_rfl) rfl
theorem enters_kern : ∀ args w, (callFunc 93 args).run Try.prog w = .ok (.enter 93 args) w := enters_of Try.func93 (by kernel_rfl) rfl
theorem enters_known : ∀ args w, (callFunc 91 args).run Try.prog w = .ok (.enter 91 args) w := enters_of Try.func91 (by kernel_rfl) rfl

theorem boxes3 (w : World) (o0 o1 o2 : Obj) : (((w.alloc o0).alloc o1).alloc o2).heap[w.heap.size]? = some o0 ∧ (((w.alloc o0).alloc o1).alloc o2).heap[w.heap.size + 1]? = some o1 ∧ (((w.alloc o0).alloc o1).alloc o2).heap[w.heap.size + 1 + 1]? = some o2 ∧ Keep [] w (((w.alloc o0).alloc o1).alloc o2) := by
  have h1 := blk_alloc (blk_new (w.alloc o0) o1) o2
  have h2 := blk_new ((w.alloc o0).alloc o1) o2
  rw [size_alloc'] at h1 h2
  rw [size_alloc'] at h2
  exact ⟨blk_alloc (blk_alloc (blk_new w o0) o1) o2, h1, h2, (((Keep.refl _ _).alloc _).alloc _).alloc _⟩
theorem rd_oneP (w : World) (x : PairX) : Rd PairX.row 5 (w.alloc (.cells #[.int .i64 x.lf, .int .i64 x.rt, .bool x.is, .int .i64 x.lg, .int .i64 x.kn] 52)) (some ⟨w.heap.size, 0, none⟩) [x] :=
  Rd.of_block (blk_new _ _) (fun i y j v hy hv => by
    cases i with
    | zero => simp at hy; subst hy; simpa [PairX.row] using hv
    | succ i => simp at hy)
theorem RdS.addP {V w7 : World} {X : RX} {base q : Nat} {k a em : Int} {gs : List GlyphX} {ps : List PairX} {A B B7 : Option Addr} {c d d7 : Nat} (h : RdS V X base q k a em gs ps A c B d) (x : PairX) (box : Obj)
    (O7 : w7.ownsRow base 52 5 (.slice B7 (ps.length + 1) d7) (ps.length + 1) (ps.flatMap PairX.row ++ [x].flatMap PairX.row)) (G7 : (V.drew.alloc box).grownBy w7 (Value.slice B ps.length d).ownBlock) :
    RdS (w7.setCell ⟨X.rb, 8, none⟩ (.slice B7 (ps.length + 1) d7)) X base q k a em gs (ps ++ [x]) A c B7 d7 ∧ Fr base X.g V (w7.setCell ⟨X.rb, 8, none⟩ (.slice B7 (ps.length + 1) d7)) := by
  have hrb : X.rb ≠ X.mb := h.map_ne h.rd
  have hK : Keep [] V (V.drew.alloc box) := (Keep.refl _ _).drew.alloc box
  have gown := own_keep h.gown hK (by simp)
  have pown := own_keep h.pown hK (by simp)
  have rd : (V.drew.alloc box).heap[X.rb]? = _ := hK.blk h.rd (by simp)
  have met := h.meter.keep hK (by simp)
  have map := h.map.keep hK (by simp)
  have rd7 := blk_grown rd G7 (own_ne pown rd (by decide))
  have met7 := blk_grown met G7 (own_ne pown met (by decide))
  have map7 := map.grown G7 (map_ne_row map pown)
  have gown7 := own_grown gown G7 (fun b hb => by
    obtain ⟨_, _, cs, hcs⟩ := own_base gown b hb
    exact own_ne pown hcs (by decide))
  have KS : Keep [X.rb] w7 (w7.setCell ⟨X.rb, 8, none⟩ (.slice B7 (ps.length + 1) d7)) := (Keep.refl _ _).set (.inl (by simp)) _
  have hlb : base ≤ (V.drew.alloc box).heap.size := Nat.le_trans h.lt.1 hK.size
  have e1 : ps.length + 1 = (ps ++ [x]).length := by simp
  refine ⟨⟨?_, own_keep gown7 KS (fun b hb => by simp at hb; subst hb; exact own_ne gown7 rd7 (by decide)), ?_, map7.keep KS (by simpa using hrb.symm), IsM.keep met7 KS (by simp; exact fun e => by have := h.bR; have := h.bG; omega), h.bR, h.bM, h.bG, h.ps_, h.sz⟩,
    ((hK.fr h.lt.1 (by simp)).trans (Fr.grown G7 (fun k e => (own_base pown k e).1) hlb)).trans (KS.fr (Nat.le_trans hlb G7.size) (by simp; exact .inr h.bR))⟩
  · rw [← e1]
    exact (blk_set rd7 8 _).trans (by simp)
  · rw [← e1, List.flatMap_append]
    exact own_keep O7 KS (fun b hb => by simp at hb; subst hb; exact own_ne O7 rd7 (by decide))
/-- What each glyph that was read is. -/
def GOK (gs : List GlyphX) : Prop := ∀ g ∈ gs, g.ru ≤ 1114111 ∧ 0 ≤ g.wd ∧ g.wd ≤ 16384
theorem GOK.known {gs : List GlyphX} (h : GOK gs) {n : Nat} (hk : knownR gs n = true) : n ≤ 1114111 := by
  unfold knownR at hk
  obtain ⟨g, hg⟩ := Option.isSome_iff_exists.1 hk
  have := h g (List.mem_of_find?_eq_some hg)
  have := List.find?_some hg
  simp at this
  omega
theorem GOK.wd {gs : List GlyphX} (h : GOK gs) (r : Int) : 0 ≤ wdOf gs r ∧ wdOf gs r ≤ 16384 := by
  unfold wdOf
  cases hg : gFind gs r with
  | none => simp
  | some g => have := h g (List.mem_of_find?_eq_some hg); simpa using this.2
theorem MapF.wdAt {X : RX} {gs : List GlyphX} {n : Nat} {W : World} (h : MapF Try.prog 3 3 ik InI W X.mb n (fun r => (gFind gs r).map (·.wd))) (r : Nat) (hr : r ≤ 1114111) :
    (Instr.lookup 47 (.map (some X.mb)) (.int .i64 (r : Int)) false).run Try.prog W = .ok (.int .i64 (wdOf gs r)) W := by
  have hi : InI (r : Int) := by unfold InI; omega
  obtain ⟨kl, hkl⟩ := keyOf_ik hi
  exact h.get keyInt Try.underlying47 Try.underlying3 (zeroInt _) hi hkl
def prA (bs : List Nat) (S : Int) (gs : List GlyphX) (a : Int × Int) (lf p : Nat) : PR PairX := (numX bs S 3 (rightR gs a lf) p).bind fun rt p => (numX bs S 1 (toR 1 2) p).bind fun kind p => pairTailX bs S gs lf rt kind p
def prB (bs : List Nat) (S : Int) (gs : List GlyphX) (lf rt p : Nat) : PR PairX := (numX bs S 1 (toR 1 2) p).bind fun kind p => pairTailX bs S gs lf rt kind p

set_option maxHeartbeats 8000000 in
set_option maxRecDepth 100000 in
theorem pair_reads (X : RX) (hX : X.ok) (base p : Nat) (k a em : Int) (gs : List GlyphX) (ps : List PairX) (A : Option Addr) (c : Nat) (B : Option Addr) (d : Nat) (w : World) (h : RdS w X base p k a em gs ps A c B d) (hpl : ps.length ≤ 4096) (hgw : GOK gs) :
    Calls Try.prog 82 #[.pointer (some ⟨X.rb, 0, none⟩)] w fun e w' => PairPost X base k a em gs ps A c B d (pairX (LB X.s) X.S gs (lastP ps) p) w e w' := by
  obtain ⟨x, hx⟩ : ∃ x, lastP ps = x := ⟨_, rfl⟩
  obtain ⟨F, hF⟩ : ∃ F, pairX (LB X.s) X.S gs x p = F := ⟨_, rfl⟩
  rw [hx, hF]
  have HF : Hid ((numX (LB X.s) X.S 3 (leftR gs x) p).bind (fun lf p => prA (LB X.s) X.S gs x lf p) = F) := hid hF
  have HX := hid hx
  clear hF hx
  have HR : w.heap[X.rb]? = _ := h.rd
  obtain ⟨hb0, hb1, hb2⟩ := h.lt
  have hun := h.under
  obtain ⟨c0, c1, c2, c3, c4, c5, c6, c7, c8⟩ := cells9 HR
  have hmf := makeFunc_run
  go_enter Try.func82, Try.ntmps82
  have l1 : X.rb < w.heap.size + 1 := by omega
  have l2 : X.rb < w.heap.size + 1 + 1 := by omega
  go_upto_if 18 with (fail)
  go_cut [] from 19 to 27 (fun wc => wc.heap[w.heap.size]? = some (.cells #[.pointer (some ⟨X.rb, 0, none⟩)] 101 (0, 0)) ∧ wc.heap[w.heap.size + 1]? = some (.cells #[.int .i64 0, .int .i64 0, .bool false, .int .i64 0, .int .i64 0] 52 (0, 0)) ∧ (∃ y2 y3 y4, wc.heap[w.heap.size + 1 + 1]? = some (.cells #[.int .i64 x.1, .int .i64 x.2, y2, y3, y4] 52 (0, 0))) ∧ Keep [] w wc)
  case first =>
    rcases List.eq_nil_or_concat ps with hg0 | ⟨ps', y, hg0⟩
    · have hl0 : ¬ (0 < ps.length) := by rw [hg0]; simp
      have hx1 : x = (-1, -1) := by rw [← HX.out, hg0]; rfl
      have HX1 := hid hx1
      clear hx1 hg0
      go_wp2
      go_meet
      rw [HX1.out]
      obtain ⟨b1, b2, b3, b4⟩ := boxes3 w (.cells #[.pointer (some ⟨X.rb, 0, none⟩)] 101) (.cells #[.int .i64 0, .int .i64 0, .bool false, .int .i64 0, .int .i64 0] 52) (.cells #[.int .i64 (-1), .int .i64 (-1), .bool false, .int .i64 0, .int .i64 0] 52)
      exact ⟨b1, b2, ⟨_, _, _, b3⟩, b4⟩
    · have hlen : ps.length = ps'.length + 1 := by rw [hg0]; simp
      have hx1 : x = (y.lf, y.rt) := by rw [← HX.out, hg0]; unfold lastP; simp
      have hx : ps[ps'.length]? = some y := by rw [hg0, List.concat_eq_append]; simp
      obtain ⟨gb, hA, _, hgb, hc⟩ := own_at row5 h.pown hx
      have d0 := hc 0 _ rfl
      have d1 := hc 1 _ rfl
      have d2 := hc 2 _ rfl
      have d3 := hc 3 _ rfl
      have d4 := hc 4 _ rfl
      rw [Nat.add_zero] at d0
      subst hA
      have HX1 := hid hx1
      have hp1 : (0 : Int) < (ps.length : Int) := by omega
      have hp2 : IntKind.i64.wrap ((ps.length : Int) - 1) = (ps'.length : Int) := by rw [show (ps.length : Int) - 1 = (ps'.length : Int) by omega]; exact IntWalk.i64_in _ (by omega)
      have hp3 : (ps'.length : Int) < (ps.length : Int) := by omega
      have m1 : gb < w.heap.size + 1 := by omega
      have m2 : gb < w.heap.size + 1 + 1 := by omega
      clear hx1 hx hc hg0
      go_wp2
      go_meet
      rw [HX1.out]
      obtain ⟨b1, b2, b3, b4⟩ := boxes3 w (.cells #[.pointer (some ⟨X.rb, 0, none⟩)] 101) (.cells #[.int .i64 0, .int .i64 0, .bool false, .int .i64 0, .int .i64 0] 52) (.cells #[.int .i64 y.lf, .int .i64 y.rt, .bool y.is, .int .i64 y.lg, .int .i64 y.kn] 52)
      exact ⟨b1, b2, ⟨_, _, _, b3⟩, b4⟩
  case rest =>
    obtain ⟨hN0, hN1, ⟨y2, y3, y4, hN2⟩, KC⟩ := hcut
    clear c0 c1 c2 c3 c4 c5 c6 c7 c8 l1 l2
    have st : PrSt w X base p k a em gs ps A c B d w.heap.size #[.int .i64 0, .int .i64 0, .bool false, .int .i64 0, .int .i64 0] #[.int .i64 x.1, .int .i64 x.2, y2, y3, y4] wc :=
      ⟨h.keepN hun KC (by simp), KC.fr hb0 (by simp), hN0, hN1, hN2, hun⟩
    generalize hn0 : w.heap.size = n0 at *
    clear KC hN0 hN1 hN2 h HR hn0
    obtain ⟨rc0, rcf, rcl⟩ := cells1 st.rbox
    obtain ⟨a0, a1, a2, a3, a4, af0, af1, af2, af3, af4, asz⟩ := cells5 st.pbox
    have HN := numb_any X hX p 3 90 #[] #[.pointer (some ⟨n0, 0, none⟩), .pointer (some ⟨n0 + 1 + 1, 0, none⟩)] (leftR gs x) k a em _ _ _ st.rd.rd st.rd.meter st.rd.ps_ st.rd.sz (by omega) enters_left (st.right_left rfl)
    obtain ⟨r, hr⟩ : ∃ r, numX (LB X.s) X.S 3 (leftR gs x) p = r := ⟨_, rfl⟩
    rw [hr] at HN
    go_wp2_with fail
    refine HN.mono ?_
    clear HN
    rintro e w1 ⟨K1, HP⟩
    have r1 := K1.blk st.rbox (by simp; exact st.ne _ (by omega))
    have g1 := K1.blk st.pbox (by simp; exact st.ne _ (by omega))
    clear a0 a1 a2 a3 a4 af0 af1 af2 af3 af4 asz rc0 rcf rcl
    obtain ⟨rc0, rcf, rcl⟩ := cells1 r1
    obtain ⟨a0, a1, a2, a3, a4, af0, af1, af2, af3, af4, asz⟩ := cells5 g1
    cases r with
    | error e0 =>
      obtain ⟨k', a', q'⟩ := e0
      obtain ⟨rfl, R1, M1, hp1, hs1⟩ := HP
      have hFe : F = .error (k', a', q') := by rw [← HF.out]; rw [hr]; rfl
      go_wp2
      go_ret
      rw [hFe]
      exact st.bad K1 R1 M1 hp1 hs1 ((Keep.refl _ _).set (.inl (by simp)) _)
    | ok v0 =>
      obtain ⟨lf, q1⟩ := v0
      obtain ⟨rfl, R1, M1, hp1, hs1⟩ := HP
      have stR := st.read K1 R1 M1 hp1 hs1
      have Qlf := hid (numX_ok hr).1
      have HF1 : Hid (prA (LB X.s) X.S gs x lf q1 = F) := hid (by rw [← HF.out, hr]; rfl)
      clear HF hr st R1 M1 K1
      have st := stR.put 0 (.int .i64 ((lf : Nat) : Int))
      simp only [List.setIfInBounds_toArray, List.set_cons_zero, List.set_cons_succ] at st
      clear stR
      go_upto_region 9 with (fail)
      clear a0 a1 a2 a3 a4 af0 af1 af2 af3 af4 asz rc0 rcf rcl r1 g1
      generalize w1.setCell ⟨n0 + 1, 0, none⟩ (.int .i64 ((lf : Nat) : Int)) = V1 at *
      have HF := HF1
      clear HF1
      obtain ⟨rc0, rcf, rcl⟩ := cells1 st.rbox
      obtain ⟨a0, a1, a2, a3, a4, af0, af1, af2, af3, af4, asz⟩ := cells5 st.pbox
      have HN := numb_any X hX q1 3 92 #[] #[.pointer (some ⟨n0, 0, none⟩), .pointer (some ⟨n0 + 1, 0, none⟩), .pointer (some ⟨n0 + 1 + 1, 0, none⟩)] (rightR gs x lf) k a em _ _ _ st.rd.rd st.rd.meter st.rd.ps_ st.rd.sz (by omega) enters_right (st.right_right rfl rfl rfl)
      obtain ⟨r, hr⟩ : ∃ r, numX (LB X.s) X.S 3 (rightR gs x lf) q1 = r := ⟨_, rfl⟩
      rw [hr] at HN
      go_wp2_with fail
      refine HN.mono ?_
      clear HN
      rintro e w2 ⟨K1, HP⟩
      have r1 := K1.blk st.rbox (by simp; exact st.ne _ (by omega))
      have g1 := K1.blk st.pbox (by simp; exact st.ne _ (by omega))
      clear a0 a1 a2 a3 a4 af0 af1 af2 af3 af4 asz rc0 rcf rcl
      obtain ⟨rc0, rcf, rcl⟩ := cells1 r1
      obtain ⟨a0, a1, a2, a3, a4, af0, af1, af2, af3, af4, asz⟩ := cells5 g1
      cases r with
      | error e0 =>
        obtain ⟨k', a', q'⟩ := e0
        obtain ⟨rfl, R1, M1, hp1, hs1⟩ := HP
        have hFe : F = .error (k', a', q') := by rw [← HF.out]; unfold prA; rw [hr]; rfl
        go_wp2
        go_ret
        rw [hFe]
        exact st.bad K1 R1 M1 hp1 hs1 ((Keep.refl _ _).set (.inl (by simp)) _)
      | ok v0 =>
        obtain ⟨rt, q2⟩ := v0
        obtain ⟨rfl, R1, M1, hp1, hs1⟩ := HP
        have stR := st.read K1 R1 M1 hp1 hs1
        have Qrt := hid (numX_ok hr).1
        have HF1 : Hid (prB (LB X.s) X.S gs lf rt q2 = F) := hid (by rw [← HF.out]; unfold prA; rw [hr]; rfl)
        clear HF hr st R1 M1 K1
        have st := stR.put 1 (.int .i64 ((rt : Nat) : Int))
        simp only [List.setIfInBounds_toArray, List.set_cons_zero, List.set_cons_succ] at st
        clear stR
        go_upto_region 12 with (fail)
        clear a0 a1 a2 a3 a4 af0 af1 af2 af3 af4 asz rc0 rcf rcl r1 g1
        generalize w2.setCell ⟨n0 + 1, 1, none⟩ (.int .i64 ((rt : Nat) : Int)) = V2 at *
        have HF := HF1
        clear HF1
        obtain ⟨rc0, rcf, rcl⟩ := cells1 st.rbox
        have st2 := st.keep (((Keep.refl [] V2).alloc (.cells #[.int .i64 1] 3)).alloc (.cells #[.int .i64 2] 3)).drew
        have t0 := (cells1 (blk_drew (blk_alloc (blk_new V2 (.cells #[.int .i64 1] 3)) (.cells #[.int .i64 2] 3)))).1
        have t1 := (cells1 (blk_drew (blk_new (V2.alloc (.cells #[.int .i64 1] 3)) (.cells #[.int .i64 2] 3)))).1
        rw [size_alloc'] at t1
        have hV := st.lt
        have hVr := st.un.r
        have hVg := st.un.g
        have rc2 := (cells1 st2.rbox).1
        have HN := numb_any X hX q2 1 88 #[] #[.pointer (some ⟨V2.heap.size, 0, none⟩), .pointer (some ⟨V2.heap.size + 1, 0, none⟩)] (toR 1 2) k a em _ _ _ st2.rd.rd st2.rd.meter st2.rd.ps_ st2.rd.sz (by omega) enters_to (right_to (lo := 1) (hi := 2) t0 t1 ⟨by omega, by omega⟩ ⟨by omega, by omega⟩)
        obtain ⟨r, hr⟩ : ∃ r, numX (LB X.s) X.S 1 (toR 1 2) q2 = r := ⟨_, rfl⟩
        rw [hr] at HN
        clear t0 t1
        cases r with
        | error e0 =>
          obtain ⟨k', a', q'⟩ := e0
          go_region_held3 (fun w' => w'.cell? ⟨n0, 0, none⟩ = some (.pointer (some ⟨X.rb, 0, none⟩))) ((first | assumption | exact cell_drew' rc0 | exact (cells1 r1).1)) ((first | (go_at_call 80; (with_reducible refine (to_at 1 2 _).mono ?_); rintro e wt ⟨rfl, rfl⟩) | (go_at_call 79; refine HN.mono ?_; rintro e w3 ⟨K1, HP⟩; obtain ⟨rfl, R1, M1, hp1, hs1⟩ := HP; have r1 := K1.blk st2.rbox (by simp; exact st2.ne _ (by omega)))))
          have hFe : F = .error (k', a', q') := by rw [← HF.out]; unfold prB; rw [hr]; rfl
          go_wp2
          go_ret
          rw [hFe]
          exact st2.bad K1 R1 M1 hp1 hs1 (Keep.refl _ _)
        | ok v0 =>
          obtain ⟨kind, q3⟩ := v0
          go_region_held3 (fun w' => w'.cell? ⟨n0, 0, none⟩ = some (.pointer (some ⟨X.rb, 0, none⟩))) ((first | assumption | exact cell_drew' rc0 | exact (cells1 r1).1)) ((first | (go_at_call 80; (with_reducible refine (to_at 1 2 _).mono ?_); rintro e wt ⟨rfl, rfl⟩) | (go_at_call 79; refine HN.mono ?_; rintro e w3 ⟨K1, HP⟩; obtain ⟨rfl, R1, M1, hp1, hs1⟩ := HP; have r1 := K1.blk st2.rbox (by simp; exact st2.ne _ (by omega)))))
          have stR := st2.read K1 R1 M1 hp1 hs1
          have HF1 : Hid (pairTailX (LB X.s) X.S gs lf rt kind q3 = F) := hid (by rw [← HF.out]; unfold prB; rw [hr]; rfl)
          have hk12 : kind = 1 ∨ kind = 2 := by have := (numX_ok hr).1; simp [toR] at this; omega
          clear HF hr st st2 R1 M1 K1 HN rc0 rc2 rcf rcl hV hVr hVg r1
          rename_i hHeld0
          clear hHeld0
          by_cases hk1 : kind = 1
          · subst hk1
            have HF : Hid ((numX (LB X.s) X.S 3 (knownR gs) q3).bind (fun lg p => .ok (⟨lf, rt, true, lg, 0⟩, p)) = F) := HF1
            clear HF1
            have st := stR.put 2 (.bool true)
            simp only [List.setIfInBounds_toArray, List.set_cons_zero, List.set_cons_succ] at st
            obtain ⟨rc0, rcf, rcl⟩ := cells1 stR.rbox
            obtain ⟨a0, a1, a2, a3, a4, af0, af1, af2, af3, af4, asz⟩ := cells5 stR.pbox
            go_upto_region 17 with (fail)
            clear rc0 rcf rcl a0 a1 a2 a3 a4 af0 af1 af2 af3 af4 asz stR
            generalize w3.setCell ⟨n0 + 1, 2, none⟩ (.bool true) = V3 at *
            obtain ⟨rc0, rcf, rcl⟩ := cells1 st.rbox
            obtain ⟨a0, a1, a2, a3, a4, af0, af1, af2, af3, af4, asz⟩ := cells5 st.pbox
            have HN := numb_any X hX q3 3 91 #[.pointer (some ⟨X.rb, 0, none⟩)] #[] (knownR gs) k a em _ _ _ st.rd.rd st.rd.meter st.rd.ps_ st.rd.sz (by omega) enters_known (st.right_known)
            obtain ⟨r, hr⟩ : ∃ r, numX (LB X.s) X.S 3 (knownR gs) q3 = r := ⟨_, rfl⟩
            rw [hr] at HN
            go_wp2_with fail
            refine HN.mono ?_
            clear HN
            rintro e w4 ⟨K1, HP⟩
            have r1 := K1.blk st.rbox (by simp; exact st.ne _ (by omega))
            have g1 := K1.blk st.pbox (by simp; exact st.ne _ (by omega))
            clear a0 a1 a2 a3 a4 af0 af1 af2 af3 af4 asz rc0 rcf rcl
            obtain ⟨rc0, rcf, rcl⟩ := cells1 r1
            obtain ⟨a0, a1, a2, a3, a4, af0, af1, af2, af3, af4, asz⟩ := cells5 g1
            cases r with
            | error e0 =>
              obtain ⟨k', a', q'⟩ := e0
              obtain ⟨rfl, R1, M1, hp1, hs1⟩ := HP
              have hFe : F = .error (k', a', q') := by rw [← HF.out]; rw [hr]; rfl
              go_wp2
              go_ret
              rw [hFe]
              exact st.bad K1 R1 M1 hp1 hs1 ((Keep.refl _ _).set (.inl (by simp)) _)
            | ok v0 =>
              obtain ⟨lg, q4⟩ := v0
              obtain ⟨rfl, R1, M1, hp1, hs1⟩ := HP
              have stR := st.read K1 R1 M1 hp1 hs1
              have Qlg := hid (numX_ok hr).1
              have HF1 : Hid (F = .ok ((⟨lf, rt, true, lg, 0⟩ : PairX), q4)) := hid (by rw [← HF.out, hr]; rfl)
              clear HF hr st R1 M1 K1
              have st := (stR.put 3 (.int .i64 (((lg : Nat) : Int))))
              simp only [List.setIfInBounds_toArray, List.set_cons_zero, List.set_cons_succ] at st
              clear stR
              go_upto_region 23 with (fail)
              clear a0 a1 a2 a3 a4 af0 af1 af2 af3 af4 asz rc0 rcf rcl r1 g1
              generalize w4.setCell ⟨n0 + 1, 3, none⟩ (.int .i64 ((lg : Nat) : Int)) = V4 at *
              have HR : V4.heap[X.rb]? = _ := st.rd.rd
              obtain ⟨rc0, rcf, rcl⟩ := cells1 st.rbox
              obtain ⟨a0, a1, a2, a3, a4, af0, af1, af2, af3, af4, asz⟩ := cells5 st.pbox
              obtain ⟨c0, c1, c2, c3, c4, c5, c6, c7, c8⟩ := cells9 HR
              have crf := blk_free HR 8
              have hrl6 := blk_lt HR
              have hne7 := own_ne st.rd.pown HR (by decide)
              have hbs6 := st.rd.lt.1
              have rone := rd_oneP V4.drew ⟨lf, rt, true, lg, 0⟩
              have hun := st.un
              have hneR : some n0 ≠ (Value.slice B ps.length d).ownBlock := fun e => by have := hun.u _ e.symm; omega
              have hneP : some (n0 + 1) ≠ (Value.slice B ps.length d).ownBlock := fun e => by have := hun.u _ e.symm; omega
              have hrn : X.rb < n0 := hun.r
              have hSd : V4.drew.cell? ⟨n0, 0, none⟩ = some (.pointer (some ⟨X.rb, 0, none⟩)) ∧ V4.drew.cell? ⟨n0 + 1, 0, none⟩ = some (.int .i64 ((lf : Nat) : Int)) ∧ V4.drew.cell? ⟨n0 + 1, 1, none⟩ = some (.int .i64 ((rt : Nat) : Int)) ∧ V4.drew.cell? ⟨n0 + 1, 2, none⟩ = some (.bool true) ∧ V4.drew.cell? ⟨n0 + 1, 3, none⟩ = some (.int .i64 ((lg : Nat) : Int)) ∧ V4.drew.cell? ⟨n0 + 1, 4, none⟩ = some (.int .i64 0) ∧ V4.drew.cell? ⟨X.rb, 8, none⟩ = some (.slice B ps.length d) := ⟨rc0, a0, a1, a2, a3, a4, c8⟩
              refine wp_region_Z (fun w' => w'.cell? ⟨n0, 0, none⟩ = some (.pointer (some ⟨X.rb, 0, none⟩)) ∧ w'.cell? ⟨n0 + 1, 0, none⟩ = some (.int .i64 ((lf : Nat) : Int)) ∧ w'.cell? ⟨n0 + 1, 1, none⟩ = some (.int .i64 ((rt : Nat) : Int)) ∧ w'.cell? ⟨n0 + 1, 2, none⟩ = some (.bool true) ∧ w'.cell? ⟨n0 + 1, 3, none⟩ = some (.int .i64 ((lg : Nat) : Int)) ∧ w'.cell? ⟨n0 + 1, 4, none⟩ = some (.int .i64 0) ∧ w'.cell? ⟨X.rb, 8, none⟩ = some (.slice B ps.length d)) 12 (by kernel_rfl) ?_
              change wpZ _ _ _ _ _ _ (7 + 6) _ _ _
              refine wpZ_seg 0 7 6 (by simp) (by kernel_rfl) (by kernel_rfl) (fun _ _ d _ _ h => by cases d <;> exact h) hSd ?_
              simp only [List.drop_zero, List.take_succ_cons, List.take_zero]
              repeat (refine heldL_yes (v := ?_) rfl (fun w hSw => ?_) ?_; rotate_left; (obtain ⟨y0, y1, y2, y3, y4, y5, y6⟩ := hSw; go_simp; (try with_reducible rfl)); (try simp only [Act.put, List.setIfInBounds_toArray, List.set_cons_zero, List.set_cons_succ]))
              refine heldL_nil ?_
              change wpZ _ _ _ _ _ _ (5 + 1) _ _ _
              refine wpZ_lone (i := 7) (o := ?oa7) (by kernel_rfl) ?hoa7 ?hha7
              case hoa7 => (simp only [List.getElem?_toArray, List.getElem?_cons_zero, List.getElem?_cons_succ]; rfl)
              intro KK7 hK7
              rw [if_pos (by rfl)]
              go_simp
              refine hK7.out _ _ (.inr ⟨cell_drew' (cell_alloc' rc0 _), cell_drew' (cell_alloc' a0 _), cell_drew' (cell_alloc' a1 _), cell_drew' (cell_alloc' a2 _), cell_drew' (cell_alloc' a3 _), cell_drew' (cell_alloc' a4 _), cell_drew' (cell_alloc' c8 _)⟩) ?_
              clear hK7 KK7
              change wpZ _ _ _ _ _ _ (4 + 1) _ _ _
              refine wpZ_lone (i := 8) (o := ?oa8) (by kernel_rfl) ?hoa8 ?hha8
              case hoa8 => (simp only [List.getElem?_toArray, List.getElem?_cons_zero, List.getElem?_cons_succ]; rfl)
              intro KK8 hK8
              refine step_append_list (enc := PairX.row) (ls := [⟨lf, rt, true, lg, 0⟩]) (A := some ⟨V4.heap.size, 0, none⟩) (m := 1) (c := 1) rfl _ _ 23 (.agg #[.int .i64 0, .int .i64 0, .bool false, .int .i64 0, .int .i64 0]) 5 40 rfl (by kernel_rfl) (by kernel_rfl) (by kernel_rfl) (by decide) (by decide) base (.slice B ps.length d) ps.length (ps.flatMap PairX.row) rfl rfl rfl (by intro e; cases e) rone row5 one5 (own_keep st.rd.pown ((Keep.refl [] V4).alloc _).drew (by simp)) (by rw [size_drew', size_alloc']; omega) (by omega) ?_
              intro A7 c7 w7 O7 G7
              have HR7 := blk_grown (blk_drew (blk_alloc HR _)) G7 hne7
              obtain ⟨e0, e1, e2, e3, e4, e5, e6, e7, e8⟩ := cells9 HR7
              have ef := blk_free HR7 8
              obtain ⟨x0, _, _⟩ := cells1 (blk_grown (blk_drew (blk_alloc st.rbox _)) G7 hneR)
              obtain ⟨x1, x2, x3, x4, x5, _, _, _, _, _, _⟩ := cells5 (blk_grown (blk_drew (blk_alloc st.pbox _)) G7 hneP)
              refine hK8.out _ _ (.inr ⟨x0, x1, x2, x3, x4, x5, e8⟩) ?_
              clear hK8 KK8
              change wpZ _ _ _ _ _ _ (3 + 1) _ _ _
              refine wpZ_lone (i := 9) (o := ?oa9) (by kernel_rfl) ?hoa9 ?hha9
              case hoa9 => (simp only [List.getElem?_toArray, List.getElem?_cons_zero, List.getElem?_cons_succ]; rfl)
              intro KK9 hK9
              rw [if_pos (by rfl)]
              go_simp
              refine hK9.out _ _ (.inr ⟨x0, x1, x2, x3, x4, x5, e8⟩) ?_
              clear hK9 KK9
              change wpZ _ _ _ _ _ _ (2 + 1) _ _ _
              refine wpZ_lone (i := 10) (o := ?oa10) (by kernel_rfl) ?hoa10 ?hha10
              case hoa10 => (simp only [List.getElem?_toArray, List.getElem?_cons_zero, List.getElem?_cons_succ]; rfl)
              intro KK10 hK10
              rw [if_pos (by rfl)]
              go_simp
              refine hK10.out _ _ (.inr ⟨x0, x1, x2, x3, x4, x5, e8⟩) ?_
              clear hK10 KK10
              change wpZ _ _ _ _ _ _ (1 + 1) _ _ _
              refine wpZ_lone (i := 11) (o := ?oa11) (by kernel_rfl) ?hoa11 ?hha11
              case hoa11 => (simp only [List.getElem?_toArray, List.getElem?_cons_zero, List.getElem?_cons_succ]; rfl)
              intro KK11 hK11
              rw [if_pos (by rfl)]
              go_simp
              refine hK11.out _ _ (.inr ⟨x0, x1, x2, x3, x4, x5, e8⟩) ?_
              clear hK11 KK11
              change wpZ _ _ _ _ _ _ (0 + 1) _ _ _
              refine wpZ_lone (i := 12) (o := ?oa12) (by kernel_rfl) ?hoa12 ?hha12
              case hoa12 => (simp only [List.getElem?_toArray, List.getElem?_cons_zero, List.getElem?_cons_succ]; rfl)
              intro KK12 hK12
              rw [if_pos (by rfl)]
              go_simp
              refine hK12.out _ _ (.inl rfl) ?_
              clear hK12 KK12
              refine wpZ_done (by kernel_rfl) ?_
              all_goals
                go_wp2
                go_ret
                rw [HF1.out]
                obtain ⟨r8, f8⟩ := st.rd.addP ⟨lf, rt, true, lg, 0⟩ _ O7 G7
                exact ⟨st.fr.trans f8, rfl, A7, c7, r8⟩
          · obtain rfl : kind = 2 := hk12.resolve_left hk1
            obtain ⟨a1, ha1⟩ : ∃ a1, wdOf gs lf = a1 := ⟨_, rfl⟩
            obtain ⟨b1, hb1⟩ : ∃ b1, wdOf gs rt = b1 := ⟨_, rfl⟩
            have HF : Hid ((numX (LB X.s) X.S 2 (kernR (-(min a1 b1))) q3).bind (fun k p => .ok (⟨lf, rt, false, 0, (k : Int) - 32768⟩, p)) = F) := by rw [← ha1, ← hb1]; exact HF1
            have ra1 := hgw.wd lf
            have rb1 := hgw.wd rt
            rw [ha1] at ra1
            rw [hb1] at rb1
            have hlf := hgw.known (show knownR gs lf = true by have := Qlf.out; unfold leftR at this; simp at this; exact this.1)
            have hrt := hgw.known (show knownR gs rt = true by have := Qrt.out; unfold rightR at this; simp at this; exact this.1)
            have LL : ∀ w', Keep [] w3 w' → (Instr.lookup 47 (.map (some X.mb)) (.int .i64 (lf : Int)) false).run Try.prog w' = .ok (.int .i64 a1) w' := fun w' K => by rw [← ha1]; exact (stR.rd.map.keep K (by simp)).wdAt lf hlf
            have LR : ∀ w', Keep [] w3 w' → (Instr.lookup 47 (.map (some X.mb)) (.int .i64 (rt : Int)) false).run Try.prog w' = .ok (.int .i64 b1) w' := fun w' K => by rw [← hb1]; exact (stR.rd.map.keep K (by simp)).wdAt rt hrt
            clear ha1 hb1 HF1
            have HR : w3.heap[X.rb]? = _ := stR.rd.rd
            obtain ⟨rc0, rcf, rcl⟩ := cells1 stR.rbox
            obtain ⟨a0', a1', a2', a3', a4', af0, af1, af2, af3, af4, asz⟩ := cells5 stR.pbox
            obtain ⟨c0, c1, c2, c3, c4, c5, c6, c7, c8⟩ := cells9 HR
            go_upto_region 18 with (fail)
            refine wp_region_held_lex 16 (fun w' => w'.cell? ⟨n0, 0, none⟩ = some (.pointer (some ⟨X.rb, 0, none⟩)) ∧ w'.cell? ⟨n0 + 1, 0, none⟩ = some (.int .i64 ((lf : Nat) : Int)) ∧ w'.cell? ⟨n0 + 1, 1, none⟩ = some (.int .i64 ((rt : Nat) : Int)) ∧ w'.cell? ⟨X.rb, 5, none⟩ = some (.map (some X.mb)) ∧ Keep [] w3 w') (by kernel_rfl) (by simp) (by kernel_rfl) (by kernel_rfl) (fun _ _ d _ _ h => by cases d <;> exact h) ⟨rc0, a0', a1', c5, (Keep.refl _ _).drew⟩ ?_
            simp only [List.take_succ_cons, List.take_zero]
            repeat (refine heldL_yes (v := ?_) rfl (fun w hSw => ?_) ?_; rotate_left; (obtain ⟨y0, y1, y2, y3, y4⟩ := hSw; have l1 := LL _ y4; have l2 := LR _ y4; go_simp; (try with_reducible rfl)); (try simp only [Act.put, List.setIfInBounds_toArray, List.set_cons_zero, List.set_cons_succ]))
            refine heldL_nil ?_
            change wpAnyH _ _ _ _ _ (1 + 1) _ _ _
            refine wpAnyH_lone (k := 16) (o := ?oa16) (by kernel_rfl) ?hoa16 ?hha16
            case hoa16 => (simp only [List.getElem?_toArray, List.getElem?_cons_zero, List.getElem?_cons_succ]; rfl)
            intro KK16 hK16
            rw [if_pos (by rfl)]
            go_simp
            refine hK16.out _ _ ⟨cell_drew' (cell_alloc' rc0 _), cell_drew' (cell_alloc' a0' _), cell_drew' (cell_alloc' a1' _), cell_drew' (cell_alloc' c5 _), ((Keep.refl _ _).alloc _).drew⟩ (fun hHeld16 => ?_)
            clear hK16 KK16
            change wpAnyH _ _ _ _ _ (0 + 1) _ _ _
            refine wpAnyH_lone (k := 17) (o := ?oa17) (by kernel_rfl) ?hoa17 ?hha17
            case hoa17 => (simp only [List.getElem?_toArray, List.getElem?_cons_zero, List.getElem?_cons_succ]; rfl)
            intro KK17 hK17
            rw [if_pos (by rfl)]
            go_simp
            refine hK17.out _ _ ⟨cell_drew' (cell_alloc' rc0 _), cell_drew' (cell_alloc' a0' _), cell_drew' (cell_alloc' a1' _), cell_drew' (cell_alloc' c5 _), ((Keep.refl _ _).alloc _).drew⟩ (fun hHeld17 => ?_)
            clear hK17 KK17
            refine wpAnyH_done (by kernel_rfl) ?_ _
            clear hHeld17 hHeld16
            obtain ⟨ls, hls⟩ : ∃ ls, -(min a1 b1) = ls := ⟨_, rfl⟩
            obtain ⟨mm, hmm⟩ : ∃ mm, (if b1 < a1 then b1 else a1) = mm := ⟨_, rfl⟩
            have hle : IntKind.i64.wrap (-mm) = ls := by
              rw [IntWalk.i64_in _ (by rw [← hmm]; split <;> omega), ← hls, ← hmm]
              split <;> omega
            have hls1 : -16384 ≤ ls := by omega
            rw [hmm, hle]
            rw [hls] at HF
            clear hle hls hmm LL LR ra1 rb1
            have st := stR.keep (((Keep.refl [] w3).alloc (.cells #[.int .i64 ls] 3)).drew)
            have t0 := (cells1 (blk_drew (blk_new w3 (.cells #[.int .i64 ls] 3)))).1
            have hV := stR.lt
            have hVr := stR.un.r
            have hVg := stR.un.g
            clear rc0 rcf rcl a0' a1' a2' a3' a4' af0 af1 af2 af3 af4 asz c0 c1 c2 c3 c4 c5 c6 c7 c8 HR stR
            generalize (w3.alloc (.cells #[.int .i64 ls] 3)).drew = V3 at *
            generalize w3.heap.size = nb at *
            obtain ⟨rc0, rcf, rcl⟩ := cells1 st.rbox
            obtain ⟨a0, a1, a2, a3, a4, af0, af1, af2, af3, af4, asz⟩ := cells5 st.pbox
            have HN := numb_any X hX q3 2 93 #[] #[.pointer (some ⟨nb, 0, none⟩)] (kernR ls) k a em _ _ _ st.rd.rd st.rd.meter st.rd.ps_ st.rd.sz (by omega) enters_kern (right_kern t0 ⟨by omega, by omega⟩)
            obtain ⟨r, hr⟩ : ∃ r, numX (LB X.s) X.S 2 (kernR ls) q3 = r := ⟨_, rfl⟩
            rw [hr] at HN
            go_wp2_with fail
            refine HN.mono ?_
            clear HN
            rintro e w4 ⟨K1, HP⟩
            have r1 := K1.blk st.rbox (by simp; exact st.ne _ (by omega))
            have g1 := K1.blk st.pbox (by simp; exact st.ne _ (by omega))
            clear a0 a1 a2 a3 a4 af0 af1 af2 af3 af4 asz rc0 rcf rcl
            obtain ⟨rc0, rcf, rcl⟩ := cells1 r1
            obtain ⟨a0, a1, a2, a3, a4, af0, af1, af2, af3, af4, asz⟩ := cells5 g1
            cases r with
            | error e0 =>
              obtain ⟨k', a', q'⟩ := e0
              obtain ⟨rfl, R1, M1, hp1, hs1⟩ := HP
              have hFe : F = .error (k', a', q') := by rw [← HF.out]; rw [hr]; rfl
              go_wp2
              go_ret
              rw [hFe]
              exact st.bad K1 R1 M1 hp1 hs1 (((Keep.refl _ _).set (.inl (by simp)) _).set (.inl (by simp)) _)
            | ok v0 =>
              obtain ⟨kk, q4⟩ := v0
              obtain ⟨rfl, R1, M1, hp1, hs1⟩ := HP
              have stR := st.read K1 R1 M1 hp1 hs1
              have Qkk := hid (numX_ok hr).1
              have HF1 : Hid (F = .ok ((⟨lf, rt, false, 0, (kk : Int) - 32768⟩ : PairX), q4)) := hid (by rw [← HF.out, hr]; rfl)
              have hwk := IntWalk.i64_in ((kk : Int) - 32768) (by have := Qkk.out; simp [kernR] at this; omega)
              clear HF hr st R1 M1 K1
              have st := (stR.put 4 (.int .i64 (((kk : Nat) : Int)))).put 4 (.int .i64 (((kk : Nat) : Int) - 32768))
              simp only [List.setIfInBounds_toArray, List.set_cons_zero, List.set_cons_succ] at st
              clear stR
              go_upto_region 23 with (fail)
              clear a0 a1 a2 a3 a4 af0 af1 af2 af3 af4 asz rc0 rcf rcl r1 g1
              generalize (w4.setCell ⟨n0 + 1, 4, none⟩ (.int .i64 ((kk : Nat) : Int))).setCell ⟨n0 + 1, 4, none⟩ (.int .i64 (((kk : Nat) : Int) - 32768)) = V4 at *
              have HR : V4.heap[X.rb]? = _ := st.rd.rd
              obtain ⟨rc0, rcf, rcl⟩ := cells1 st.rbox
              obtain ⟨a0, a1, a2, a3, a4, af0, af1, af2, af3, af4, asz⟩ := cells5 st.pbox
              obtain ⟨c0, c1, c2, c3, c4, c5, c6, c7, c8⟩ := cells9 HR
              have crf := blk_free HR 8
              have hrl6 := blk_lt HR
              have hne7 := own_ne st.rd.pown HR (by decide)
              have hbs6 := st.rd.lt.1
              have rone := rd_oneP V4.drew ⟨lf, rt, false, 0, (kk : Int) - 32768⟩
              have hun := st.un
              have hneR : some n0 ≠ (Value.slice B ps.length d).ownBlock := fun e => by have := hun.u _ e.symm; omega
              have hneP : some (n0 + 1) ≠ (Value.slice B ps.length d).ownBlock := fun e => by have := hun.u _ e.symm; omega
              have hrn : X.rb < n0 := hun.r
              have hSd : V4.drew.cell? ⟨n0, 0, none⟩ = some (.pointer (some ⟨X.rb, 0, none⟩)) ∧ V4.drew.cell? ⟨n0 + 1, 0, none⟩ = some (.int .i64 ((lf : Nat) : Int)) ∧ V4.drew.cell? ⟨n0 + 1, 1, none⟩ = some (.int .i64 ((rt : Nat) : Int)) ∧ V4.drew.cell? ⟨n0 + 1, 2, none⟩ = some (.bool false) ∧ V4.drew.cell? ⟨n0 + 1, 3, none⟩ = some (.int .i64 0) ∧ V4.drew.cell? ⟨n0 + 1, 4, none⟩ = some (.int .i64 (((kk : Nat) : Int) - 32768)) ∧ V4.drew.cell? ⟨X.rb, 8, none⟩ = some (.slice B ps.length d) := ⟨rc0, a0, a1, a2, a3, a4, c8⟩
              refine wp_region_Z (fun w' => w'.cell? ⟨n0, 0, none⟩ = some (.pointer (some ⟨X.rb, 0, none⟩)) ∧ w'.cell? ⟨n0 + 1, 0, none⟩ = some (.int .i64 ((lf : Nat) : Int)) ∧ w'.cell? ⟨n0 + 1, 1, none⟩ = some (.int .i64 ((rt : Nat) : Int)) ∧ w'.cell? ⟨n0 + 1, 2, none⟩ = some (.bool false) ∧ w'.cell? ⟨n0 + 1, 3, none⟩ = some (.int .i64 0) ∧ w'.cell? ⟨n0 + 1, 4, none⟩ = some (.int .i64 (((kk : Nat) : Int) - 32768)) ∧ w'.cell? ⟨X.rb, 8, none⟩ = some (.slice B ps.length d)) 12 (by kernel_rfl) ?_
              change wpZ _ _ _ _ _ _ (7 + 6) _ _ _
              refine wpZ_seg 0 7 6 (by simp) (by kernel_rfl) (by kernel_rfl) (fun _ _ d _ _ h => by cases d <;> exact h) hSd ?_
              simp only [List.drop_zero, List.take_succ_cons, List.take_zero]
              repeat (refine heldL_yes (v := ?_) rfl (fun w hSw => ?_) ?_; rotate_left; (obtain ⟨y0, y1, y2, y3, y4, y5, y6⟩ := hSw; go_simp; (try with_reducible rfl)); (try simp only [Act.put, List.setIfInBounds_toArray, List.set_cons_zero, List.set_cons_succ]))
              refine heldL_nil ?_
              change wpZ _ _ _ _ _ _ (5 + 1) _ _ _
              refine wpZ_lone (i := 7) (o := ?ob7) (by kernel_rfl) ?hob7 ?hhb7
              case hob7 => (simp only [List.getElem?_toArray, List.getElem?_cons_zero, List.getElem?_cons_succ]; rfl)
              intro KK7 hK7
              rw [if_pos (by rfl)]
              go_simp
              refine hK7.out _ _ (.inr ⟨cell_drew' (cell_alloc' rc0 _), cell_drew' (cell_alloc' a0 _), cell_drew' (cell_alloc' a1 _), cell_drew' (cell_alloc' a2 _), cell_drew' (cell_alloc' a3 _), cell_drew' (cell_alloc' a4 _), cell_drew' (cell_alloc' c8 _)⟩) ?_
              clear hK7 KK7
              change wpZ _ _ _ _ _ _ (4 + 1) _ _ _
              refine wpZ_lone (i := 8) (o := ?ob8) (by kernel_rfl) ?hob8 ?hhb8
              case hob8 => (simp only [List.getElem?_toArray, List.getElem?_cons_zero, List.getElem?_cons_succ]; rfl)
              intro KK8 hK8
              refine step_append_list (enc := PairX.row) (ls := [⟨lf, rt, false, 0, (kk : Int) - 32768⟩]) (A := some ⟨V4.heap.size, 0, none⟩) (m := 1) (c := 1) rfl _ _ 23 (.agg #[.int .i64 0, .int .i64 0, .bool false, .int .i64 0, .int .i64 0]) 5 40 rfl (by kernel_rfl) (by kernel_rfl) (by kernel_rfl) (by decide) (by decide) base (.slice B ps.length d) ps.length (ps.flatMap PairX.row) rfl rfl rfl (by intro e; cases e) rone row5 one5 (own_keep st.rd.pown ((Keep.refl [] V4).alloc _).drew (by simp)) (by rw [size_drew', size_alloc']; omega) (by omega) ?_
              intro A7 c7 w7 O7 G7
              have HR7 := blk_grown (blk_drew (blk_alloc HR _)) G7 hne7
              obtain ⟨e0, e1, e2, e3, e4, e5, e6, e7, e8⟩ := cells9 HR7
              have ef := blk_free HR7 8
              obtain ⟨x0, _, _⟩ := cells1 (blk_grown (blk_drew (blk_alloc st.rbox _)) G7 hneR)
              obtain ⟨x1, x2, x3, x4, x5, _, _, _, _, _, _⟩ := cells5 (blk_grown (blk_drew (blk_alloc st.pbox _)) G7 hneP)
              refine hK8.out _ _ (.inr ⟨x0, x1, x2, x3, x4, x5, e8⟩) ?_
              clear hK8 KK8
              change wpZ _ _ _ _ _ _ (3 + 1) _ _ _
              refine wpZ_lone (i := 9) (o := ?ob9) (by kernel_rfl) ?hob9 ?hhb9
              case hob9 => (simp only [List.getElem?_toArray, List.getElem?_cons_zero, List.getElem?_cons_succ]; rfl)
              intro KK9 hK9
              rw [if_pos (by rfl)]
              go_simp
              refine hK9.out _ _ (.inr ⟨x0, x1, x2, x3, x4, x5, e8⟩) ?_
              clear hK9 KK9
              change wpZ _ _ _ _ _ _ (2 + 1) _ _ _
              refine wpZ_lone (i := 10) (o := ?ob10) (by kernel_rfl) ?hob10 ?hhb10
              case hob10 => (simp only [List.getElem?_toArray, List.getElem?_cons_zero, List.getElem?_cons_succ]; rfl)
              intro KK10 hK10
              rw [if_pos (by rfl)]
              go_simp
              refine hK10.out _ _ (.inr ⟨x0, x1, x2, x3, x4, x5, e8⟩) ?_
              clear hK10 KK10
              change wpZ _ _ _ _ _ _ (1 + 1) _ _ _
              refine wpZ_lone (i := 11) (o := ?ob11) (by kernel_rfl) ?hob11 ?hhb11
              case hob11 => (simp only [List.getElem?_toArray, List.getElem?_cons_zero, List.getElem?_cons_succ]; rfl)
              intro KK11 hK11
              rw [if_pos (by rfl)]
              go_simp
              refine hK11.out _ _ (.inr ⟨x0, x1, x2, x3, x4, x5, e8⟩) ?_
              clear hK11 KK11
              change wpZ _ _ _ _ _ _ (0 + 1) _ _ _
              refine wpZ_lone (i := 12) (o := ?ob12) (by kernel_rfl) ?hob12 ?hhb12
              case hob12 => (simp only [List.getElem?_toArray, List.getElem?_cons_zero, List.getElem?_cons_succ]; rfl)
              intro KK12 hK12
              rw [if_pos (by rfl)]
              go_simp
              refine hK12.out _ _ (.inl rfl) ?_
              clear hK12 KK12
              refine wpZ_done (by kernel_rfl) ?_
              all_goals
                go_wp2
                go_ret
                rw [HF1.out]
                obtain ⟨r8, f8⟩ := st.rd.addP ⟨lf, rt, false, 0, (kk : Int) - 32768⟩ _ O7 G7
                exact ⟨st.fr.trans f8, rfl, A7, c7, r8⟩
end Go.Proofs.Ythcfgechifogeaa
