/- A table: its font, its maps; Clone, Glyph and Pair by contracts. -/
import Derived.Test.YthcfgechifogeaaTabW
import Derived.DataShut
namespace Go.Proofs.Ythcfgechifogeaa
open Go.RowKit Go.Maps
set_option linter.unusedSimpArgs false
set_option linter.unusedVariables false

structure GlyphX where
  ru : Int
  wd : Int
  ht : Int
  dp : Int
deriving DecidableEq
structure PairX where
  lf : Int
  rt : Int
  is : Bool
  lg : Int
  kn : Int
deriving DecidableEq
def GlyphX.row (g : GlyphX) : List Value := [.int .i64 g.ru, .int .i64 g.wd, .int .i64 g.ht, .int .i64 g.dp]
def PairX.row (p : PairX) : List Value := [.int .i64 p.lf, .int .i64 p.rt, .bool p.is, .int .i64 p.lg, .int .i64 p.kn]
def GlyphX.zero : GlyphX := ⟨0, 0, 0, 0⟩
def PairX.zero : PairX := ⟨0, 0, false, 0, 0⟩
def InI (x : Int) : Prop := -9223372036854775808 ≤ x ∧ x ≤ 9223372036854775807
def GlyphX.inI (g : GlyphX) : Prop := InI g.ru ∧ InI g.wd ∧ InI g.ht ∧ InI g.dp
def PairX.inI (p : PairX) : Prop := InI p.lf ∧ InI p.rt ∧ InI p.lg ∧ InI p.kn
theorem row4 (x : GlyphX) : x.row.length = 4 := rfl
theorem row5 (x : PairX) : x.row.length = 5 := rfl
theorem one4 (x : GlyphX) : ∀ u ∈ x.row, u.oneCell' = true := by intro u hu; simp [GlyphX.row] at hu; rcases hu with rfl | rfl | rfl | rfl <;> rfl
theorem one5 (x : PairX) : ∀ u ∈ x.row, u.oneCell' = true := by intro u hu; simp [PairX.row] at hu; rcases hu with rfl | rfl | rfl | rfl | rfl <;> rfl
theorem wfI {x : Int} (h : InI x) : (Lit.int .i64 x).wf = true := (Lit.wf_int_iff _ _).2 h

theorem zeroInt (w : World) : (zeroValue 3).run Try.prog w = .ok (.int .i64 0) w := by kernel_rfl
theorem keyInt : Keyed Try.prog 3 := int_keyed Try.underlying3
theorem laidOutT : laidOutB Try.prog = true := by kernel_rfl
theorem rowArr : (87 : TypeId) < Try.prog.types.size := of_decide_eq_true (by kernel_rfl)
theorem wideArr : (match Try.prog.underlying 87 with | some (.array _ _) | some (.struct _) => true | _ => false) = true := by rw [Try.underlying87]
set_option maxRecDepth 100000 in
theorem keyArr : Keyed Try.prog 87 := Keyed.of_law (deep_law_laid laidOutT (m := 2) (by omega) rowArr (by kernel_rfl) wideArr)
theorem cellsArr : Try.prog.cellsOf 87 = 2 := by kernel_rfl
theorem cellsIntT : Try.prog.cellsOf 3 = 1 := by kernel_rfl
theorem keyTypeArr : Try.prog.keyType 87 = true := by kernel_rfl
theorem typesSize : ∃ n, Try.prog.types.size + 1 = n + 2 := by
  have h : (87 : Nat) < Try.prog.types.size := rowArr
  exact ⟨Try.prog.types.size - 1, by omega⟩
/-- How a rune, and how two, stand as a key. -/
def ik (r : Int) : Value := .int .i64 r
def pk (k : Int × Int) : Value := .agg #[.int .i64 k.1, .int .i64 k.2]
def PInI (k : Int × Int) : Prop := InI k.1 ∧ InI k.2
theorem keyOf_ik {r : Int} (h : InI r) : ∃ kl, keyOf Try.prog 3 (ik r) = some kl := ⟨_, keyOf_int_mk Try.underlying3 (wfI h)⟩
theorem keyOf_pk {k : Int × Int} (h : PInI k) : ∃ kl, keyOf Try.prog 87 (pk k) = some kl := by
  obtain ⟨n, hn⟩ := typesSize
  have f : (pk k).formed Try.prog 87 = true := by simp [pk, Value.formed, Try.underlying87, cellsArr]
  unfold keyOf
  rw [Try.underlying87]
  simp only [keyTypeArr, f, Bool.and_self, if_true, hn]
  simp [Program.keyLits, Try.underlying87, Try.underlying3, cellsArr, cellsIntT, pk, Value.cells, wfI h.1, wfI h.2, List.range, List.range.loop]
theorem ik_inj {a b : Int} {kl : Lit} (ha : keyOf Try.prog 3 (ik a) = some kl) (hb : keyOf Try.prog 3 (ik b) = some kl) : a = b := by
  have := keyInt.inj ha hb
  simpa [ik] using this
theorem pk_inj {a b : Int × Int} {kl : Lit} (ha : keyOf Try.prog 87 (pk a) = some kl) (hb : keyOf Try.prog 87 (pk b) = some kl) : a = b := by
  have := keyArr.inj ha hb
  simp [pk] at this
  exact Prod.ext this.1 this.2

/-- The number of the first glyph of a rune, of the first pair of two. -/
def gIdx (gs : List GlyphX) (r : Int) : Option Int := (gs.findIdx? (fun g => g.ru == r)).map Int.ofNat
def pIdx (ps : List PairX) (k : Int × Int) : Option Int := (ps.findIdx? (fun p => p.lf == k.1 && p.rt == k.2)).map Int.ofNat
def gFind (gs : List GlyphX) (r : Int) : Option GlyphX := gs.find? (fun g => g.ru == r)
def pFind (ps : List PairX) (k : Int × Int) : Option PairX := ps.find? (fun p => p.lf == k.1 && p.rt == k.2)

theorem idx_find {α : Type} (p : α → Bool) (l : List α) : (l.findIdx? p = none ∧ l.find? p = none) ∨ ∃ i x, l.findIdx? p = some i ∧ l.find? p = some x ∧ l[i]? = some x := by
  induction l with
  | nil => exact .inl ⟨rfl, rfl⟩
  | cons y r ih =>
    rw [List.findIdx?_cons, List.find?_cons]
    cases hp : p y
    · simp only [Bool.false_eq_true, if_false]
      rcases ih with ⟨h1, h2⟩ | ⟨i, x, h1, h2, h3⟩
      · exact .inl ⟨by simp [h1], h2⟩
      · exact .inr ⟨i + 1, x, by simp [h1], h2, by simpa using h3⟩
    · exact .inr ⟨0, y, by simp, rfl, rfl⟩

/-- A table: where it lies, what it has. -/
structure TabX where
  T : Nat
  base : Nat
  em : Int
  ga : Option Addr
  gc : Nat
  pa : Option Addr
  pc : Nat
  mg : Nat
  mp : Nat
  gs : List GlyphX
  ps : List PairX

/-- It lies there; its maps have the first glyphs and pairs. -/
structure IsT (w : World) (t : TabX) (gk pn : Nat) : Prop where
  blk : w.heap[t.T]? = some (.cells #[.int .i64 t.em, .slice t.ga t.gs.length t.gc, .slice t.pa t.ps.length t.pc, .map (some t.mg), .map (some t.mp)] 81 (0, 0))
  gown : w.ownsRow t.base 45 4 (.slice t.ga t.gs.length t.gc) t.gs.length (t.gs.flatMap GlyphX.row)
  pown : w.ownsRow t.base 52 5 (.slice t.pa t.ps.length t.pc) t.ps.length (t.ps.flatMap PairX.row)
  gmap : MapF Try.prog 3 3 ik InI w t.mg gk (gIdx (t.gs.take gk))
  pmap : MapF Try.prog 87 3 pk PInI w t.mp pn (pIdx (t.ps.take pn))
  bT : t.base ≤ t.T
  bg : t.base ≤ t.mg
  bp : t.base ≤ t.mp
  gin : ∀ g ∈ t.gs, g.inI
  pin : ∀ p ∈ t.ps, p.inI
  glen : t.gs.length ≤ 1024
  plen : t.ps.length ≤ 4096
  ne : t.mg ≠ t.mp

theorem IsT.keep {w w' : World} {t : TabX} {gk pn : Nat} (h : IsT w t gk pn) {S : List Nat} (k : Keep S w w') (hs : ∀ b, b ∈ S → b < t.base) : IsT w' t gk pn := by
  have ne : ∀ v b, Value.ownBlock v = some b → ∀ {e n sz xs}, w.ownsRow t.base e sz v n xs → b ∉ S := fun v b hb e n sz xs ho hm => by
    have := (own_base ho b hb).1
    have := hs b hm
    omega
  exact ⟨k.blk h.blk (fun hm => by have := hs _ hm; have := h.bT; omega),
    own_keep h.gown k (fun b hm e => ne _ b e.symm h.gown hm), own_keep h.pown k (fun b hm e => ne _ b e.symm h.pown hm),
    h.gmap.keep k (fun hm => by have := hs _ hm; have := h.bg; omega), h.pmap.keep k (fun hm => by have := hs _ hm; have := h.bp; omega),
    h.bT, h.bg, h.bp, h.gin, h.pin, h.glen, h.plen, h.ne⟩

theorem IsT.grd {w : World} {t : TabX} {gk pn : Nat} (h : IsT w t gk pn) : Rd GlyphX.row 4 w t.ga t.gs ∧ t.gs.length ≤ t.gc := by
  obtain ⟨A, cap, e, hc, hr, _⟩ := own_rd row4 h.gown
  simp at e
  obtain ⟨rfl, rfl⟩ := e
  exact ⟨hr, hc⟩
theorem IsT.prd {w : World} {t : TabX} {gk pn : Nat} (h : IsT w t gk pn) : Rd PairX.row 5 w t.pa t.ps ∧ t.ps.length ≤ t.pc := by
  obtain ⟨A, cap, e, hc, hr, _⟩ := own_rd row5 h.pown
  simp at e
  obtain ⟨rfl, rfl⟩ := e
  exact ⟨hr, hc⟩

theorem own_at {α : Type} {enc : α → List Value} {sz : Nat} {w : World} {base : Nat} {e : TypeId} {A : Option Addr} {n c : Nat} {xs : List α} (hsz : ∀ x, (enc x).length = sz) (h : w.ownsRow base e sz (.slice A n c) xs.length (xs.flatMap enc))
    {i : Nat} {x : α} (hx : xs[i]? = some x) : ∃ b, A = some ⟨b, 0, none⟩ ∧ base ≤ b ∧ b < w.heap.size ∧ ∀ j v, (enc x)[j]? = some v → w.cell? ⟨b, i * sz + j, none⟩ = some v := by
  obtain ⟨A', cap, e, hc, hr, ha⟩ := own_rd hsz h
  simp at e
  obtain ⟨rfl, _, rfl⟩ := e
  obtain ⟨ad, rfl, hcs⟩ := hr i x hx
  obtain ⟨g, cur, rfl, hb, hh, _⟩ := ha _ rfl
  exact ⟨g, rfl, hb, blk_lt hh, fun j v hv => by rw [← add_zero_at]; exact hcs j v hv⟩

def GlyphX.val (g : GlyphX) : Value := .agg #[.int .i64 g.ru, .int .i64 g.wd, .int .i64 g.ht, .int .i64 g.dp]
def PairX.val (p : PairX) : Value := .agg #[.int .i64 p.lf, .int .i64 p.rt, .bool p.is, .int .i64 p.lg, .int .i64 p.kn]

set_option maxHeartbeats 1000000 in
theorem glyph_no (t : TabX) (gk pn : Nat) (r : Int) (w : World) (h : IsT w t gk pn) (hr : InI r) (hf : gFind (t.gs.take gk) r = none) :
    Calls Try.prog 20 #[.pointer (some ⟨t.T, 0, none⟩), .int .i64 r] w fun e w' => e = .returned (.tuple #[GlyphX.zero.val, .bool false]) ∧ Keep [] w w' := by
  obtain ⟨kl, hk⟩ := keyOf_ik hr
  have hl : ∀ W, Keep [] w W → (Instr.lookup 47 (.map (some t.mg)) (.int .i64 r) true).run Try.prog W = .ok (.tuple #[.int .i64 0, .bool false]) W := by
    intro W K
    have := (h.gmap.keep K (by simp)).look keyInt Try.underlying47 Try.underlying3 (zeroInt _) hr hk
    rw [show gIdx (t.gs.take gk) r = none by
      unfold gFind at hf
      unfold gIdx
      rcases idx_find (fun g : GlyphX => g.ru == r) (t.gs.take gk) with ⟨h1, _⟩ | ⟨i, x, h1, h2, h3⟩
      · rw [h1]; rfl
      · rw [hf] at h2; cases h2] at this
    exact this
  have hl1 := hl (w.alloc (.cells #[.int .i64 0, .int .i64 0, .int .i64 0, .int .i64 0] 45)) ((Keep.refl _ _).alloc _)
  have hb := h.blk
  have c3 := (blk_cell hb 3).trans rfl
  have hT := blk_lt hb
  clear hl h hf hb
  go_enter Try.func20, Try.ntmps20
  go_wp2
  exact bodyPost_ret (v := .tuple #[GlyphX.zero.val, .bool false]) (by simp [results, Try.results20, go_sem, GlyphX.zero, GlyphX.val]) rfl ⟨rfl, (Keep.refl _ _).alloc _⟩

set_option maxHeartbeats 1000000 in
theorem glyph_yes (t : TabX) (gk pn : Nat) (r : Int) (g : GlyphX) (w : World) (h : IsT w t gk pn) (hr : InI r) (hf : gFind (t.gs.take gk) r = some g) :
    Calls Try.prog 20 #[.pointer (some ⟨t.T, 0, none⟩), .int .i64 r] w fun e w' => e = .returned (.tuple #[g.val, .bool true]) ∧ Keep [] w w' := by
  obtain ⟨kl, hk⟩ := keyOf_ik hr
  obtain ⟨i, h1, h3⟩ : ∃ i, gIdx (t.gs.take gk) r = some (Int.ofNat i) ∧ (t.gs.take gk)[i]? = some g := by
    unfold gFind at hf
    unfold gIdx
    rcases idx_find (fun g : GlyphX => g.ru == r) (t.gs.take gk) with ⟨_, h2⟩ | ⟨i, x, h1, h2, h3⟩
    · rw [hf] at h2; cases h2
    · rw [hf] at h2; cases h2; exact ⟨i, by rw [h1]; rfl, h3⟩
  have h4 : t.gs[i]? = some g := by rw [List.getElem?_take] at h3; split at h3; exact h3; cases h3
  have hi := (List.getElem?_eq_some_iff.1 h4).1
  obtain ⟨gb, hA, _, hgb, hc⟩ := own_at row4 h.gown h4
  have hl : ∀ W, Keep [] w W → (Instr.lookup 47 (.map (some t.mg)) (.int .i64 r) true).run Try.prog W = .ok (.tuple #[.int .i64 i, .bool true]) W := by
    intro W K
    have := (h.gmap.keep K (by simp)).look keyInt Try.underlying47 Try.underlying3 (zeroInt _) hr hk
    rw [h1] at this
    exact this
  have hl1 := hl (w.alloc (.cells #[.int .i64 0, .int .i64 0, .int .i64 0, .int .i64 0] 45)) ((Keep.refl _ _).alloc _)
  have hb := h.blk
  have b3 := (blk_cell hb 3).trans rfl
  have b1 := (blk_cell hb 1).trans rfl
  have hT := blk_lt hb
  have d0 := hc 0 _ rfl
  have d1 := hc 1 _ rfl
  have d2 := hc 2 _ rfl
  have d3 := hc 3 _ rfl
  rw [Nat.add_zero] at d0
  have hlen := h.glen
  rw [hA] at b1
  clear hl h hf hb h1 h3 h4 hc hA
  go_enter Try.func20, Try.ntmps20
  go_wp2
  exact bodyPost_ret (v := .tuple #[g.val, .bool true]) (by simp [results, Try.results20, go_sem, GlyphX.val]) rfl ⟨rfl, (Keep.refl _ _).alloc _⟩

set_option maxHeartbeats 1000000 in
theorem pair_no (t : TabX) (gk pn : Nat) (k : Int × Int) (w : World) (h : IsT w t gk pn) (hr : PInI k) (hf : pFind (t.ps.take pn) k = none) :
    Calls Try.prog 21 #[.pointer (some ⟨t.T, 0, none⟩), .int .i64 k.1, .int .i64 k.2] w fun e w' => e = .returned (.tuple #[PairX.zero.val, .bool false]) ∧ Keep [] w w' := by
  obtain ⟨kl, hk⟩ := keyOf_pk hr
  have hl : ∀ W, Keep [] w W → (Instr.lookup 79 (.map (some t.mp)) (.agg #[.int .i64 k.1, .int .i64 k.2]) true).run Try.prog W = .ok (.tuple #[.int .i64 0, .bool false]) W := by
    intro W K
    have := (h.pmap.keep K (by simp)).look keyArr Try.underlying79 Try.underlying3 (zeroInt _) hr hk
    rw [show pIdx (t.ps.take pn) k = none by
      unfold pFind at hf
      unfold pIdx
      rcases idx_find (fun p : PairX => p.lf == k.1 && p.rt == k.2) (t.ps.take pn) with ⟨h1, _⟩ | ⟨i, x, h1, h2, h3⟩
      · rw [h1]; rfl
      · rw [hf] at h2; cases h2] at this
    exact this
  have hl1 := hl (w.alloc (.cells #[.int .i64 0, .int .i64 0, .bool false, .int .i64 0, .int .i64 0] 52)) ((Keep.refl _ _).alloc _)
  have hb := h.blk
  have c3 := (blk_cell hb 4).trans rfl
  have hT := blk_lt hb
  clear hl h hf hb
  go_enter Try.func21, Try.ntmps21
  go_wp2
  exact bodyPost_ret (v := .tuple #[PairX.zero.val, .bool false]) (by simp [results, Try.results21, go_sem, PairX.zero, PairX.val]) rfl ⟨rfl, (Keep.refl _ _).alloc _⟩

set_option maxHeartbeats 1000000 in
theorem pair_yes (t : TabX) (gk pn : Nat) (k : Int × Int) (p : PairX) (w : World) (h : IsT w t gk pn) (hr : PInI k) (hf : pFind (t.ps.take pn) k = some p) :
    Calls Try.prog 21 #[.pointer (some ⟨t.T, 0, none⟩), .int .i64 k.1, .int .i64 k.2] w fun e w' => e = .returned (.tuple #[p.val, .bool true]) ∧ Keep [] w w' := by
  obtain ⟨kl, hk⟩ := keyOf_pk hr
  obtain ⟨i, h1, h3⟩ : ∃ i, pIdx (t.ps.take pn) k = some (Int.ofNat i) ∧ (t.ps.take pn)[i]? = some p := by
    unfold pFind at hf
    unfold pIdx
    rcases idx_find (fun p : PairX => p.lf == k.1 && p.rt == k.2) (t.ps.take pn) with ⟨_, h2⟩ | ⟨i, x, h1, h2, h3⟩
    · rw [hf] at h2; cases h2
    · rw [hf] at h2; cases h2; exact ⟨i, by rw [h1]; rfl, h3⟩
  have h4 : t.ps[i]? = some p := by rw [List.getElem?_take] at h3; split at h3; exact h3; cases h3
  have hi := (List.getElem?_eq_some_iff.1 h4).1
  obtain ⟨gb, hA, _, hgb, hc⟩ := own_at row5 h.pown h4
  have hl : ∀ W, Keep [] w W → (Instr.lookup 79 (.map (some t.mp)) (.agg #[.int .i64 k.1, .int .i64 k.2]) true).run Try.prog W = .ok (.tuple #[.int .i64 i, .bool true]) W := by
    intro W K
    have := (h.pmap.keep K (by simp)).look keyArr Try.underlying79 Try.underlying3 (zeroInt _) hr hk
    rw [h1] at this
    exact this
  have hl1 := hl (w.alloc (.cells #[.int .i64 0, .int .i64 0, .bool false, .int .i64 0, .int .i64 0] 52)) ((Keep.refl _ _).alloc _)
  have hb := h.blk
  have b4 := (blk_cell hb 4).trans rfl
  have b2 := (blk_cell hb 2).trans rfl
  have hT := blk_lt hb
  have d0 := hc 0 _ rfl
  have d1 := hc 1 _ rfl
  have d2 := hc 2 _ rfl
  have d3 := hc 3 _ rfl
  have d4 := hc 4 _ rfl
  rw [Nat.add_zero] at d0
  have hlen := h.plen
  rw [hA] at b2
  clear hl h hf hb h1 h3 h4 hc hA
  go_enter Try.func21, Try.ntmps21
  go_wp2
  exact bodyPost_ret (v := .tuple #[p.val, .bool true]) (by simp [results, Try.results21, go_sem, PairX.val]) rfl ⟨rfl, (Keep.refl _ _).alloc _⟩

end Go.Proofs.Ythcfgechifogeaa
