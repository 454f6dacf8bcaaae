/- Font: the reading in stages, as the program walks it. -/
import Derived.Test.YthcfgechifogeaaFnPair
import Derived.Lib.OthersKept
namespace Go.Proofs.Ythcfgechifogeaa
open Go.RowKit Go.Maps Go.Lib
set_option linter.unusedSimpArgs false
set_option linter.unusedVariables false

theorem keep_iter {S : List Nat} {a w : World} {k : Nat} (h : Keep S a w) (hk : k ∈ S ∨ a.heap.size ≤ k) (s : ByteArray) (p : Nat) : Keep S a (w.iterAt k s p) :=
  h.then (T := [k]) ⟨rfl, rfl, rfl, by rw [iterAt_size]; exact Nat.le_refl _, fun i hi hn => iterAt_other w k i s p (fun e => hn (by simp [e]))⟩ (fun i hi => by simp at hi; subst hi; exact hk)
theorem iterPos_of {w : World} {k p : Nat} {s : ByteArray} (h : w.heap[k]? = some (.stringIter s p)) : w.iterPos k = p := by unfold World.iterPos; rw [h]

abbrev Fnt := Int × List GlyphX × List PairX
def lettersL (bs : List Nat) (S : Int) : List Nat → Nat → (Nat → PR Fnt) → PR Fnt
  | [], p, k => k p
  | c :: cs, p, k => (letterX bs S c p).bind fun _ q => lettersL bs S cs q k
theorem readX_letters (bs : List Nat) (S : Int) : readX bs S = lettersL bs S [80, 70, 49] 0 (fun p => bodyX bs S p) := rfl

def endF (bs : List Nat) (S : Int) (em : Int) (gs : List GlyphX) (ps : List PairX) (p : Nat) : PR Fnt := (tailX bs S p).bind fun _ p => .ok ((em, gs, ps), p)
def pairsF (bs : List Nat) (S : Int) (em : Int) (gs : List GlyphX) (m : Nat) (ps : List PairX) (p : Nat) : PR Fnt := (pairsX bs S gs m ps p).bind fun ps p => endF bs S em gs ps p
def manyF (bs : List Nat) (S : Int) (em : Int) (gs : List GlyphX) (p : Nat) : PR Fnt := (numX bs S 2 (toR 0 4096) p).bind fun m p => pairsF bs S em gs m [] p
def glyphsF (bs : List Nat) (S : Int) (em : Int) (n : Nat) (gs : List GlyphX) (p : Nat) : PR Fnt := (glyphsX bs S n gs p).bind fun gs p => manyF bs S em gs p
def countF (bs : List Nat) (S : Int) (em : Int) (p : Nat) : PR Fnt := (numX bs S 2 (toR 0 1024) p).bind fun n p => glyphsF bs S em n [] p
theorem bodyX_is (bs : List Nat) (S : Int) (p : Nat) : bodyX bs S p = (numX bs S 2 (toR 1 16384) p).bind fun em p => countF bs S em p := rfl
theorem PR.bind_assoc {α β γ : Type} (x : PR α) (f : α → Nat → PR β) (g : β → Nat → PR γ) : (x.bind f).bind g = x.bind (fun v p => (f v p).bind g) := by
  cases x with
  | error e => rfl
  | ok v => rfl
theorem glyphsF_more (bs : List Nat) (S : Int) (em : Int) (n : Nat) (gs : List GlyphX) (p : Nat) : glyphsF bs S em (n + 1) gs p = (glyphX bs S (lastG gs) p).bind fun g p => glyphsF bs S em n (gs ++ [g]) p := PR.bind_assoc _ _ _
theorem pairsF_more (bs : List Nat) (S : Int) (em : Int) (gs : List GlyphX) (n : Nat) (ps : List PairX) (p : Nat) : pairsF bs S em gs (n + 1) ps p = (pairX bs S gs (lastP ps) p).bind fun x p => pairsF bs S em gs n (ps ++ [x]) p := PR.bind_assoc _ _ _

theorem glyphX_ok {bs : List Nat} {S last : Int} {p q : Nat} {g : GlyphX} (h : glyphX bs S last p = .ok (g, q)) : last < g.ru ∧ g.ru ≤ 1114111 ∧ (0 ≤ g.ru ∧ (g.ru < 55296 ∨ 57343 < g.ru)) ∧ (0 ≤ g.wd ∧ g.wd ≤ 16384) ∧ (0 ≤ g.ht ∧ g.ht ≤ 16384) ∧ (0 ≤ g.dp ∧ g.dp ≤ 16384) := by
  unfold glyphX at h
  cases h1 : numX bs S 3 (runeR last) p with
  | error e => rw [h1] at h; cases h
  | ok v1 =>
    obtain ⟨ru, p1⟩ := v1
    rw [h1] at h
    simp only [PR.bind] at h
    cases h2 : numX bs S 2 (toR 0 16384) p1 with
    | error e => rw [h2] at h; cases h
    | ok v2 =>
      obtain ⟨wd, p2⟩ := v2
      rw [h2] at h
      simp only at h
      cases h3 : numX bs S 2 (toR 0 16384) p2 with
      | error e => rw [h3] at h; cases h
      | ok v3 =>
        obtain ⟨ht, p3⟩ := v3
        rw [h3] at h
        simp only at h
        cases h4 : numX bs S 2 (toR 0 16384) p3 with
        | error e => rw [h4] at h; cases h
        | ok v4 =>
          obtain ⟨dp, p4⟩ := v4
          rw [h4] at h
          simp only [Except.ok.injEq, Prod.mk.injEq] at h
          obtain ⟨rfl, rfl⟩ := h
          have r1 := (numX_ok h1).1
          have r2 := (numX_ok h2).1
          have r3 := (numX_ok h3).1
          have r4 := (numX_ok h4).1
          simp [runeR, toR] at r1 r2 r3 r4
          refine ⟨r1.1.1, ?_, ⟨?_, ?_⟩, ⟨?_, ?_⟩, ⟨?_, ?_⟩, ⟨?_, ?_⟩⟩ <;> (simp only []; omega)
theorem GOK.snoc {gs : List GlyphX} (h : GOK gs) {g : GlyphX} (hg : g.ru ≤ 1114111 ∧ 0 ≤ g.wd ∧ g.wd ≤ 16384) : GOK (gs ++ [g]) := fun x hx => by
  rcases List.mem_append.1 hx with hx | hx
  · exact h x hx
  · simp at hx; subst hx; exact hg

/-- What read leaves. -/
def ReadPost (X : RX) (base : Nat) (r : PR Fnt) (w : World) (e : Ending) (w' : World) : Prop :=
  Fr base X.g w w' ∧
  match r with
  | .ok (x, q) => e = .returned (.bool true) ∧ ∃ A c B d, RdS w' X base q 0 0 x.1 x.2.1 x.2.2 A c B d
  | .error (k', a', q) => e = .returned (.bool false) ∧ (∃ em G P, IsRd w' X q k' a' em G P) ∧ IsM w' X.g (mBad X.S X.C k' q) ∧ (q : Int) ≤ X.S ∧ q ≤ X.s.size

theorem iter_new (w : World) (s : ByteArray) : (w.iter s 0).heap[w.heap.size]? = some (.stringIter s 0) := World.iter_heap w s 0
theorem keep_new_iter (w : World) (s : ByteArray) : Keep [] w (w.iter s 0) := (Keep.refl _ _).alloc _
theorem RdS.keepI {w w' : World} {X : RX} {base p : Nat} {k a em : Int} {gs : List GlyphX} {ps : List PairX} {A B : Option Addr} {c d n0 : Nat} (h : RdS w X base p k a em gs ps A c B d) (u : Under X base (.slice A gs.length c) (.slice B ps.length d) n0) (K : Keep [n0] w w') : RdS w' X base p k a em gs ps A c B d :=
  h.keepN u K (fun b hb => by simp at hb; omega)
theorem RdS.em {w : World} {X : RX} {base p : Nat} {k a em : Int} {gs : List GlyphX} {ps : List PairX} {A B : Option Addr} {c d : Nat} (h : RdS w X base p k a em gs ps A c B d) (hne : X.rb ≠ X.g) (v : Int) :
    RdS (w.setCell ⟨X.rb, 6, none⟩ (.int .i64 v)) X base p k a v gs ps A c B d ∧ Fr base X.g w (w.setCell ⟨X.rb, 6, none⟩ (.int .i64 v)) := by
  have KS : Keep [X.rb] w (w.setCell ⟨X.rb, 6, none⟩ (.int .i64 v)) := (Keep.refl _ _).set (.inl (by simp)) _
  exact ⟨⟨(blk_set h.rd 6 _).trans (by simp), own_keep h.gown KS (fun b hb => by simp at hb; subst hb; exact own_ne h.gown h.rd (by decide)), own_keep h.pown KS (fun b hb => by simp at hb; subst hb; exact own_ne h.pown h.rd (by decide)),
    h.map.keep KS (by simp; exact fun e => h.map_ne h.rd e.symm), h.meter.keep KS (by simpa using Ne.symm hne), h.bR, h.bM, h.bG, h.ps_, h.sz⟩, KS.fr h.lt.1 (by simp; exact .inr h.bR)⟩
theorem LB_take (s : ByteArray) (q : Nat) : LB (s.extract 0 q) = (LB s).take q := by
  unfold LB
  rw [← List.map_take]
  congr 1
  show ((s.extract 0 q).data).toList = _
  rw [ByteArray.data_extract, Array.toList_extract]
  simp [List.extract]
/-- The row of a string's bytes. -/
theorem rd_blk {w : World} {g : Nat} {s : ByteArray} {cap : Nat} {t : TypeId} {fr : Nat × Nat} (hg : w.heap[g]? = some (.cells (bytesRow s cap) t fr)) : Rd byRow 1 w (some ⟨g, 0, none⟩) (LB s) :=
  Rd.of_block hg (fun i x j v hx hv => by
    have hi := (List.getElem?_eq_some_iff.1 hx).1
    rw [LB_len] at hi
    have hj : j = 0 := by
      have := (List.getElem?_eq_some_iff.1 hv).1
      simp [byRow] at this
      exact this
    subst hj
    simp [byRow] at hv
    subst hv
    unfold LB at hx
    rw [List.getElem?_map] at hx
    unfold bytesRow
    rw [Nat.mul_one, Nat.add_zero, Array.getElem?_append_left (by simpa using hi), Array.getElem?_map]
    cases hb : s.data.toList[i]? with
    | none => rw [hb] at hx; cases hx
    | some b =>
      rw [hb] at hx
      simp at hx
      rw [← Array.getElem?_toList, hb]
      simp [byV, ← hx])
theorem sumS_at (g c n : Nat) (s : ByteArray) (cap : Nat) (t : TypeId) (fr : Nat × Nat) (w : World) (hn : s.size = n) (h : w.heap[g]? = some (.cells (bytesRow s cap) t fr)) (hs : s.size ≤ 140737488355328) : Calls Try.prog 52 #[.slice (some ⟨g, 0, none⟩) n c] w fun e w' => e = .returned (.int .u32 (sumX (LB s) : Int)) ∧ w' = w := by
  subst hn
  rw [← LB_len]
  exact sum_any _ c (LB s) w (rd_blk h) (by rw [LB_len]; exact hs) (LB_all s)
theorem blk_new1 (w : World) (a b : Obj) : ((w.alloc a).alloc b).heap[w.heap.size + 1]? = some b := by
  have := blk_new (w.alloc a) b
  rw [size_alloc'] at this
  exact this
theorem wpAnyH_two {P : Program} {md : Region.Mode} {ops : Array Oper} {Q : Exit → Act → World → Prop} {S : World → Prop} {i j fuel : Nat} {listed : Array Bool} {a : Act} {w : World} {o1 o2 : Oper} (hr : Region.ready md ops listed = [i, j]) (h1 : ops[i]? = some o1) (h2 : ops[j]? = some o2)
    (k1 : ∀ K' : Act → World → Prop, Shut (∀ a w, S w → (S w → wpAnyH P md ops Q S fuel (listed.setIfInBounds i true) a w) → K' a w) → if Region.wanted o1 (yielded ops a.tmps) = true then Oper.wp P o1 a w K' Q else K' (a.put o1.dst undef) w)
    (k2 : ∀ K' : Act → World → Prop, Shut (∀ a w, S w → (S w → wpAnyH P md ops Q S fuel (listed.setIfInBounds j true) a w) → K' a w) → if Region.wanted o2 (yielded ops a.tmps) = true then Oper.wp P o2 a w K' Q else K' (a.put o2.dst undef) w) :
    wpAnyH P md ops Q S (fuel + 1) listed a w := wpAnyH_ready hr (by simp) (AllReadyH.cons h1 k1 (AllReadyH.cons h2 k2 AllReadyH.nil))
/-- A raw number's fault: the end, or the budget. -/
theorem byteX_err {bs : List Nat} {S : Int} {p q : Nat} {k a : Int} (h : byteX bs S p = .error (k, a, q)) (hp : p ≤ bs.length) : (k = 60 ∧ a = (bs.length : Int) ∧ q = bs.length) ∨ (k = 20 ∧ a = 0) := by
  unfold byteX at h
  cases hb : bs[p]? with
  | none =>
    rw [hb] at h
    simp only [Except.error.injEq, Prod.mk.injEq] at h
    have := List.getElem?_eq_none_iff.1 hb
    omega
  | some c =>
    rw [hb] at h
    simp only at h
    split at h
    · simp only [Except.error.injEq, Prod.mk.injEq] at h
      omega
    · cases h
theorem rawX_err {bs : List Nat} {S : Int} {q : Nat} {k a : Int} : ∀ (W n p : Nat), rawX bs S W n p = .error (k, a, q) → p ≤ bs.length → (k = 60 ∧ a = (bs.length : Int) ∧ q = bs.length) ∨ (k = 20 ∧ a = 0)
  | 0, n, p, h, _ => by cases h
  | W + 1, n, p, h, hp => by
    unfold rawX at h
    cases hb : byteX bs S p with
    | error e =>
      rw [hb] at h
      obtain ⟨k', a', q'⟩ := e
      simp only [PR.bind, Except.error.injEq, Prod.mk.injEq] at h
      obtain ⟨rfl, rfl, rfl⟩ := h
      exact byteX_err hb hp
    | ok v =>
      obtain ⟨c, p'⟩ := v
      rw [hb] at h
      obtain ⟨rfl, hc, _⟩ := byteX_ok hb
      have := (List.getElem?_eq_some_iff.1 hc).1
      exact rawX_err W _ _ h (by omega)
theorem rawX_ok {bs : List Nat} {S : Int} {m q : Nat} : ∀ (W n p : Nat), rawX bs S W n p = .ok (m, q) → p ≤ bs.length → q = p + W ∧ q ≤ bs.length
  | 0, n, p, h, hp => by
    simp only [rawX, Except.ok.injEq, Prod.mk.injEq] at h
    omega
  | W + 1, n, p, h, hp => by
    unfold rawX at h
    cases hb : byteX bs S p with
    | error e => rw [hb] at h; cases h
    | ok v =>
      obtain ⟨c, p'⟩ := v
      rw [hb] at h
      obtain ⟨rfl, hc, _⟩ := byteX_ok hb
      have := (List.getElem?_eq_some_iff.1 hc).1
      have := rawX_ok W _ _ h (by omega)
      omega
theorem sum_num {bs : List Nat} {S : Int} {want p q : Nat} {k a : Int} (h : numX bs S 4 (fun n => n == want) p = .error (k, a, q)) (hp : p ≤ bs.length) :
    (k = 60 ∧ a = (bs.length : Int) ∧ sumNumX bs S want p = .error (60, (bs.length : Int), q)) ∨ (k = 20 ∧ a = 0 ∧ sumNumX bs S want p = .error (20, 0, q)) ∨ (k = 60 ∧ a = (q : Int) - 1 ∧ 1 ≤ q ∧ q ≤ bs.length ∧ sumNumX bs S want p = .error (61, (q : Int) - 1, q)) := by
  unfold numX at h
  unfold sumNumX
  cases hr : rawX bs S 4 0 p with
  | error e =>
    obtain ⟨k', a', q'⟩ := e
    rw [hr] at h
    simp only [PR.bind, Except.error.injEq, Prod.mk.injEq] at h
    obtain ⟨rfl, rfl, rfl⟩ := h
    rcases rawX_err 4 0 p hr hp with ⟨rfl, rfl, _⟩ | ⟨rfl, rfl⟩
    · exact .inl ⟨rfl, rfl, rfl⟩
    · exact .inr (.inl ⟨rfl, rfl, rfl⟩)
  | ok v =>
    obtain ⟨n, q'⟩ := v
    rw [hr] at h
    have hq := rawX_ok 4 0 p hr hp
    simp only [PR.bind, rightX] at h
    split at h
    · cases h
    · rename_i hne
      simp only [Except.error.injEq, Prod.mk.injEq] at h
      obtain ⟨rfl, rfl, rfl⟩ := h
      refine .inr (.inr ⟨rfl, rfl, by omega, hq.2, ?_⟩)
      simp only [PR.bind, rightX]
      rw [if_neg hne]
theorem sum_num_ok {bs : List Nat} {S : Int} {want p q n : Nat} (h : numX bs S 4 (fun n => n == want) p = .ok (n, q)) : sumNumX bs S want p = .ok (n, q) := by
  unfold numX at h
  unfold sumNumX
  cases hr : rawX bs S 4 0 p with
  | error e => rw [hr] at h; cases h
  | ok v =>
    rw [hr] at h
    simp only [PR.bind, rightX] at h ⊢
    split at h
    · rename_i he; rw [if_pos he]; exact h
    · cases h
theorem IsRd.kind {w : World} {X : RX} {p : Nat} {k a em k' : Int} {G P : Value} (h : IsRd w X p k a em G P) : IsRd (w.setCell ⟨X.rb, 3, none⟩ (.int .i64 k')) X p k' a em G P := (blk_set h 3 _).trans (by simp)
theorem enters_sum : ∀ args w, (callFunc 83 args).run Try.prog w = .ok (.enter 83 args) w := enters_of Try.func83 (by kernel_rfl) rfl
theorem right_sum {X : RX} {k a em : Int} {G P : Value} {W : World} {b want : Nat} (hw : want < 4294967296) (h1 : W.cell? ⟨b, 0, none⟩ = some (.int .u32 want)) (e1 : b ≠ X.g ∧ b ≠ X.rb) :
    RightIs X k a em G P W 83 #[] #[.pointer (some ⟨b, 0, none⟩)] (fun n => n == want) := fun n q w1 hn K _ => sum1_any n b want w1 hn hw (K.cell h1 (by simp; exact e1))
/-- A bound's two boxes. -/
theorem RdS.boxes {w : World} {X : RX} {base p : Nat} {k a em : Int} {gs : List GlyphX} {ps : List PairX} {A B : Option Addr} {c d : Nat} (h : RdS w X base p k a em gs ps A c B d) (lo hi : Int) :
    RdS ((w.alloc (.cells #[.int .i64 lo] 3)).alloc (.cells #[.int .i64 hi] 3)) X base p k a em gs ps A c B d ∧ Fr base X.g w ((w.alloc (.cells #[.int .i64 lo] 3)).alloc (.cells #[.int .i64 hi] 3)) ∧
    ((w.alloc (.cells #[.int .i64 lo] 3)).alloc (.cells #[.int .i64 hi] 3)).cell? ⟨w.heap.size, 0, none⟩ = some (.int .i64 lo) ∧ ((w.alloc (.cells #[.int .i64 lo] 3)).alloc (.cells #[.int .i64 hi] 3)).cell? ⟨w.heap.size + 1, 0, none⟩ = some (.int .i64 hi) ∧
    (w.heap.size ≠ X.g ∧ w.heap.size ≠ X.rb) ∧ (w.heap.size + 1 ≠ X.g ∧ w.heap.size + 1 ≠ X.rb) := by
  have K : Keep [] w ((w.alloc (.cells #[.int .i64 lo] 3)).alloc (.cells #[.int .i64 hi] 3)) := ((Keep.refl _ _).alloc _).alloc _
  have t1 := blk_new (w.alloc (.cells #[.int .i64 lo] 3)) (.cells #[.int .i64 hi] 3)
  rw [size_alloc'] at t1
  have hl := h.lt
  have hg := h.bG
  exact ⟨h.keepN h.under K (by simp), K.fr h.lt.1 (by simp), (cells1 (blk_alloc (blk_new w (.cells #[.int .i64 lo] 3)) (.cells #[.int .i64 hi] 3))).1, (cells1 t1).1, ⟨by omega, by omega⟩, ⟨by omega, by omega⟩⟩

end Go.Proofs.Ythcfgechifogeaa
