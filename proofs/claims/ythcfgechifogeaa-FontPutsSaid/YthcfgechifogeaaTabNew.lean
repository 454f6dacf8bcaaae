/- table.New by a contract. -/
import Derived.Test.YthcfgechifogeaaTabCheck
import Derived.Deep.RegionHeld3
import Derived.Deep.DeepCutAuto
import Derived.Deep.CutBlock
import Derived.StillTailTactics
namespace Go.Proofs.Ythcfgechifogeaa
open Go.RowKit Go.Maps
set_option linter.unusedSimpArgs false
set_option linter.unusedVariables false

structure FontX where
  em : Int
  ga : Option Addr
  gc : Nat
  pa : Option Addr
  pc : Nat
  gs : List GlyphX
  ps : List PairX
def FontX.val (f : FontX) : Value := .agg #[.int .i64 f.em, .slice f.ga f.gs.length f.gc, .slice f.pa f.ps.length f.pc]
/-- The font's lists lie where its slices lead. -/
structure IsF (w : World) (f : FontX) : Prop where
  gr : Rd GlyphX.row 4 w f.ga f.gs
  pr : Rd PairX.row 5 w f.pa f.ps
  gn : f.ga = none → f.gs.length = 0
  pn : f.pa = none → f.ps.length = 0
  gi : ∀ g ∈ f.gs, g.inI
  pi_ : ∀ p ∈ f.ps, p.inI
  gl : f.gs.length ≤ 9223372036854775807
  pl_ : f.ps.length ≤ 9223372036854775807
theorem IsF.old {w w' : World} {f : FontX} (h : IsF w f) {S : List Nat} (k : Keep S w w') (hs : ∀ b, b ∈ S → w.heap.size ≤ b) : IsF w' f :=
  ⟨h.gr.old k hs, h.pr.old k hs, h.gn, h.pn, h.gi, h.pi_, h.gl, h.pl_⟩

def NewPost (f : FontX) (w : World) (e : Ending) (w' : World) : Prop :=
  (checkX f.em f.gs f.ps ≠ 0 ∧ e = .returned (.tuple #[.pointer none, .int .i64 (checkX f.em f.gs f.ps)]) ∧ Keep [] w w') ∨
  (checkX f.em f.gs f.ps = 0 ∧ ∃ t : TabX, e = .returned (.tuple #[.pointer (some ⟨t.T, 0, none⟩), .int .i64 0]) ∧ IsT w' t f.gs.length f.ps.length ∧ t.em = f.em ∧ t.gs = f.gs ∧ t.ps = f.ps ∧ t.base = w.heap.size ∧ Keep [] w w')

theorem cells5 {w : World} {n : Nat} {a b c d e : Value} {t : TypeId} (h : w.heap[n]? = some (.cells #[a, b, c, d, e] t (0, 0))) :
    w.cell? ⟨n, 0, none⟩ = some a ∧ w.cell? ⟨n, 1, none⟩ = some b ∧ w.cell? ⟨n, 2, none⟩ = some c ∧ w.cell? ⟨n, 3, none⟩ = some d ∧ w.cell? ⟨n, 4, none⟩ = some e ∧
    w.frozen? ⟨n, 0, none⟩ = false ∧ w.frozen? ⟨n, 1, none⟩ = false ∧ w.frozen? ⟨n, 2, none⟩ = false ∧ w.frozen? ⟨n, 3, none⟩ = false ∧ w.frozen? ⟨n, 4, none⟩ = false ∧ n < w.heap.size :=
  ⟨blk_cell h 0, blk_cell h 1, blk_cell h 2, blk_cell h 3, blk_cell h 4, blk_free h 0, blk_free h 1, blk_free h 2, blk_free h 3, blk_free h 4, blk_lt h⟩
theorem set3 {w : World} {n : Nat} {a b c d e a' b' c' : Value} {t : TypeId} (h : w.heap[n]? = some (.cells #[a, b, c, d, e] t (0, 0))) :
    (((w.setCell ⟨n, 0, none⟩ a').setCell ⟨n, 1, none⟩ b').setCell ⟨n, 2, none⟩ c').heap[n]? = some (.cells #[a', b', c', d, e] t (0, 0)) :=
  (blk_set (blk_set (blk_set h 0 a') 1 b') 2 c').trans (by simp)
theorem units_at (n : Int) (b : Bool) (w : World) (h : decide (0 ≤ n ∧ n ≤ 16384) = b) : Calls Try.prog 41 #[.int .i64 n] w fun e w' => e = .returned (.bool b) ∧ w' = w := by subst h; exact (units_any n w).mono fun _ _ ⟨h, e⟩ => ⟨h, e.symm⟩
theorem width_at (n v : Int) (w : World) (h : wd n = v) : Calls Try.prog 40 #[.int .i64 n] w fun e w' => e = .returned (.int .i64 v) ∧ w' = w := by subst h; exact (width_any n w).mono fun _ _ ⟨h, e⟩ => ⟨h, e.symm⟩
theorem MapF.obj {κ : Type} {P : Program} {K E : TypeId} {kf : κ → Value} {ok : κ → Prop} {w : World} {b n : Nat} {f : κ → Option Int} (h : MapF P K E kf ok w b n f) : ∃ es clock, w.heap[b]? = some (.map es clock) := by
  obtain ⟨D, ⟨es, clock, hh, _⟩, _⟩ := h
  exact ⟨es, clock, hh⟩
theorem map_ne_row {κ : Type} {P : Program} {K E : TypeId} {kf : κ → Value} {ok : κ → Prop} {w : World} {b n : Nat} {f : κ → Option Int} (h : MapF P K E kf ok w b n f) {base : Nat} {e : TypeId} {size m : Nat} {v : Value} {xs : List Value} (ho : w.ownsRow base e size v m xs) : some b ≠ v.ownBlock := by
  intro hb
  obtain ⟨es, clock, hh⟩ := h.obj
  obtain ⟨_, _, cur, hc⟩ := own_base ho b hb.symm
  rw [hh] at hc
  cases hc
theorem map_ne_cells {κ : Type} {P : Program} {K E : TypeId} {kf : κ → Value} {ok : κ → Prop} {w : World} {b n g : Nat} {f : κ → Option Int} (h : MapF P K E kf ok w b n f) {cs : Array Value} {t : TypeId} {fr : Nat × Nat} (hg : w.heap[g]? = some (.cells cs t fr)) : g ≠ b := by
  intro e
  subst e
  obtain ⟨es, clock, hh⟩ := h.obj
  rw [hh] at hg
  cases hg
theorem grown_keep {w w' : World} {b : Nat} (h : w.grownBy w' (some b)) : Keep [b] w w' := Keep.grown (Keep.refl _ _) h (fun k hk => by cases hk; exact .inl (by simp))

/-- A glyph more in the map. -/
theorem IsT.stepG {wr W5 w6 : World} {t : TabX} {k : Nat} {g : GlyphX} (I : IsT wr t k 0) (K5 : Keep [] wr W5) (M : MapF Try.prog 3 3 ik InI w6 t.mg (k + 1) (fun x => if x = g.ru then some ((k : Nat) : Int) else gIdx (t.gs.take k) x)) (G : W5.drew.grownBy w6 (some t.mg))
    (hG : ∀ i, i < k → okG t.gs i) (hk : okG t.gs k) (hg : t.gs[k]? = some g) : IsT w6 t (k + 1) 0 := by
  have J := I.keep (K5.drew) (by simp)
  have K6 := grown_keep G
  refine ⟨K6.blk J.blk (by simpa using map_ne_cells J.gmap J.blk), own_keep J.gown K6 (fun b hb => by simp at hb; subst hb; exact map_ne_row J.gmap J.gown), own_keep J.pown K6 (fun b hb => by simp at hb; subst hb; exact map_ne_row J.gmap J.pown), M.ext (fun r _ => (gIdx_snoc hG hk hg r).symm), J.pmap.keep K6 (by simpa using J.ne.symm), J.bT, J.bg, J.bp, J.gin, J.pin, J.glen, J.plen, J.ne⟩
/-- A pair more. -/
theorem IsT.stepP {wr W5 w6 : World} {t : TabX} {k : Nat} {p : PairX} (I : IsT wr t t.gs.length k) (K5 : Keep [] wr W5) (M : MapF Try.prog 87 3 pk PInI w6 t.mp (k + 1) (fun x => if x = (p.lf, p.rt) then some ((k : Nat) : Int) else pIdx (t.ps.take k) x)) (G : W5.drew.grownBy w6 (some t.mp))
    (hP : ∀ i, i < k → okP t.gs t.ps i) (hk : okP t.gs t.ps k) (hp : t.ps[k]? = some p) : IsT w6 t t.gs.length (k + 1) := by
  have J := I.keep (K5.drew) (by simp)
  have K6 := grown_keep G
  refine ⟨K6.blk J.blk (by simpa using map_ne_cells J.pmap J.blk), own_keep J.gown K6 (fun b hb => by simp at hb; subst hb; exact map_ne_row J.pmap J.gown), own_keep J.pown K6 (fun b hb => by simp at hb; subst hb; exact map_ne_row J.pmap J.pown), J.gmap.keep K6 (by simpa using J.ne), M.ext (fun r _ => (pIdx_snoc hP hk hp r).symm), J.bT, J.bg, J.bp, J.gin, J.pin, J.glen, J.plen, J.ne⟩
theorem NewPost.bad {em : Int} {ga pa : Option Addr} {gc pc : Nat} {gs : List GlyphX} {ps : List PairX} {w w' : World} {e : Ending} {c : Int} (h : checkX em gs ps = c) (hc : c ≠ 0) (he : e = .returned (.tuple #[.pointer none, .int .i64 c])) (K : Keep [] w w') :
    NewPost ⟨em, ga, gc, pa, pc, gs, ps⟩ w e w' := .inl ⟨by simp only [h]; exact hc, by simp only [h]; exact he, K⟩

set_option maxHeartbeats 2000000 in
set_option maxRecDepth 100000 in
theorem new_any (f : FontX) (w : World) (h : IsF w f) : Calls Try.prog 15 #[f.val] w fun e w' => NewPost f w e w' := by
  have hgl := h.gl
  have hpl := h.pl_
  obtain ⟨em, ga, gc, pa, pc, gs, ps⟩ := f
  simp only [FontX.val] at hgl hpl ⊢
  by_cases he : em < 1 ∨ 16384 < em
  · have C := hid (check_arg (gs := gs) (ps := ps) he)
    rcases he with he | he
    · have hd : decide (em < 1) = true := by simpa using he
      go_enter Try.func15, Try.ntmps15
      go_wp2
      go_ret2
      exact NewPost.bad C.out (by decide) rfl ((Keep.refl _ _).alloc _)
    · have hd : decide (em < 1) = false := by simp; omega
      go_enter Try.func15, Try.ntmps15
      go_wp2
      go_ret2
      exact NewPost.bad C.out (by decide) rfl ((Keep.refl _ _).alloc _)
  have he1 : 1 ≤ em := by omega
  have he2 : em ≤ 16384 := by omega
  have HE := hid he
  by_cases hm : 1024 < gs.length ∨ 4096 < ps.length
  · have C := hid (check_many he hm)
    clear he
    by_cases hm1 : 1024 < gs.length
    · have hm2 : (1024 : Int) < (gs.length : Int) := by omega
      go_enter Try.func15, Try.ntmps15
      go_wp2
      go_ret2
      exact NewPost.bad C.out (by decide) rfl ((Keep.refl _ _).alloc _)
    · have hm2 : (gs.length : Int) ≤ 1024 := by omega
      have hm3 : (4096 : Int) < (ps.length : Int) := by omega
      go_enter Try.func15, Try.ntmps15
      go_wp2
      go_ret2
      exact NewPost.bad C.out (by decide) rfl ((Keep.refl _ _).alloc _)
  have HM := hid hm
  have hg1 : (gs.length : Int) ≤ 1024 := by omega
  have hp1 : (ps.length : Int) ≤ 4096 := by omega
  replace hgl : gs.length ≤ 2147483647 := by omega
  replace hpl : ps.length ≤ 2147483647 := by omega
  have D1 : decide (em < 1) = false := by simp; omega
  have D2 : decide (16384 < em) = false := by simp; omega
  have D3 : decide ((1024 : Int) < (gs.length : Int)) = false := by simp; omega
  have D4 : decide ((4096 : Int) < (ps.length : Int)) = false := by simp; omega
  clear he hm
  have hmm := @run_makeMap Try.prog
  go_enter Try.func15, Try.ntmps15
  go_wp2_with fail
  clear hmm
  have K0 : Keep [] w ((((w.alloc (.cells #[.int .i64 em, .slice ga gs.length gc, .slice pa ps.length pc] 25)).alloc (.map #[] 0)).alloc (.map #[] 0)).alloc (.cells #[.int .i64 0, .slice none 0 0, .slice none 0 0, .map (some (w.heap.size + 1)), .map (some (w.heap.size + 1 + 1))] 81)) := ((((Keep.refl _ _).alloc _).alloc _).alloc _).alloc _
  have F0 := blk_alloc (blk_alloc (blk_alloc (blk_new w (.cells #[.int .i64 em, .slice ga gs.length gc, .slice pa ps.length pc] 25)) (.map #[] 0)) (.map #[] 0)) (.cells #[.int .i64 0, .slice none 0 0, .slice none 0 0, .map (some (w.heap.size + 1)), .map (some (w.heap.size + 1 + 1))] 81)
  have T0 := blk_new (((w.alloc (.cells #[.int .i64 em, .slice ga gs.length gc, .slice pa ps.length pc] 25)).alloc (.map #[] 0)).alloc (.map #[] 0)) (.cells #[.int .i64 0, .slice none 0 0, .slice none 0 0, .map (some (w.heap.size + 1)), .map (some (w.heap.size + 1 + 1))] 81)
  have A0 := ((MapF.made (w.alloc (.cells #[.int .i64 em, .slice ga gs.length gc, .slice pa ps.length pc] 25)) Try.prog 3 3 ik InI).keep ((Keep.refl [] _).alloc (.map #[] 0)) (by simp)).keep ((Keep.refl [] _).alloc (.cells #[.int .i64 0, .slice none 0 0, .slice none 0 0, .map (some (w.heap.size + 1)), .map (some (w.heap.size + 1 + 1))] 81)) (by simp)
  have B0 := (MapF.made ((w.alloc (.cells #[.int .i64 em, .slice ga gs.length gc, .slice pa ps.length pc] 25)).alloc (.map #[] 0)) Try.prog 87 3 pk PInI).keep ((Keep.refl [] _).alloc (.cells #[.int .i64 0, .slice none 0 0, .slice none 0 0, .map (some (w.heap.size + 1)), .map (some (w.heap.size + 1 + 1))] 81)) (by simp)
  simp only [size_alloc'] at T0 A0 B0
  have h0 := h.old K0 (by simp)
  generalize ((((w.alloc (.cells #[.int .i64 em, .slice ga gs.length gc, .slice pa ps.length pc] 25)).alloc (.map #[] 0)).alloc (.map #[] 0)).alloc (.cells #[.int .i64 0, .slice none 0 0, .slice none 0 0, .map (some (w.heap.size + 1)), .map (some (w.heap.size + 1 + 1))] 81)) = W0 at *
  have sT := blk_lt T0
  have f0 := blk_cell F0 0
  have f1 := blk_cell F0 1
  have f2 := blk_cell F0 2
  have t0 := blk_cell T0 0
  have t1 := blk_cell T0 1
  have t2 := blk_cell T0 2
  have fr := blk_free T0 0
  simp only [List.getElem?_toArray, List.getElem?_cons_succ, List.getElem?_cons_zero] at f0 f1 f2 t0 t1 t2
  go_region_held3 (fun w' => w'.cell? ⟨w.heap.size, 0, none⟩ = some (.int .i64 em) ∧ w'.cell? ⟨w.heap.size, 1, none⟩ = some (.slice ga gs.length gc) ∧ w'.cell? ⟨w.heap.size, 2, none⟩ = some (.slice pa ps.length pc) ∧ Keep [] w w') ((go_split_ands; refine ⟨?_, ?_, ?_, ?_⟩ <;> (repeat (with_reducible first | assumption | refine cell_drew' ?_ | exact K0 | refine Keep.drew ?_ | refine Keep.set ?_ (.inr (by simp <;> omega)) _ | refine cell_set' ?_ (by simp; omega) _ | refine Keep.cell' (S := []) (by assumption) ?_ (by simp) | refine Keep.trans (S := []) ?_ (by assumption))))) ((first | (go_at_call 38; (with_reducible refine (cloneG ga gc gs _ (h0.gr.old (S := []) (by repeat (with_reducible first | assumption | exact Keep.refl _ _ | refine Keep.drew ?_ | refine Keep.trans (S := []) ?_ (by assumption))) (by simp)) h.gn hgl).mono ?_); rintro e w1 ⟨A1, c1, rfl, O1, K1⟩) | (go_at_call 39; (with_reducible refine (cloneP pa pc ps _ (h0.pr.old (S := []) (by repeat (with_reducible first | assumption | exact Keep.refl _ _ | refine Keep.drew ?_ | refine Keep.trans (S := []) ?_ (by assumption))) (by simp)) h.pn hpl).mono ?_); rintro e w2 ⟨A2, c2, rfl, O2, K2⟩; have KK : Keep [] W0 w2 := (by repeat (with_reducible first | assumption | exact Keep.refl _ _ | refine Keep.drew ?_ | refine Keep.trans (S := []) ?_ (by assumption))); obtain ⟨u0, u1, u2, u3, u4, v0, v1, v2, v3, v4, uT⟩ := cells5 (KK.blk T0 (by simp)))))
  clear u0 u1 u2 u3 u4 v0 v1 v2 v3 v4 f0 f1 f2 t0 t1 t2 fr F0
  have T4 := set3 (a' := .int .i64 em) (b' := .slice A1 gs.length c1) (c' := .slice A2 ps.length c2) (KK.blk T0 (by simp))
  have KS : Keep [w.heap.size + 1 + 1 + 1] w2 (((w2.setCell ⟨w.heap.size + 1 + 1 + 1, 0, none⟩ (.int .i64 em)).setCell ⟨w.heap.size + 1 + 1 + 1, 1, none⟩ (.slice A1 gs.length c1)).setCell ⟨w.heap.size + 1 + 1 + 1, 2, none⟩ (.slice A2 ps.length c2)) := (((Keep.refl _ _).set (.inl (by simp)) _).set (.inl (by simp)) _).set (.inl (by simp)) _
  have s01 := K1.size
  rw [size_drew'] at s01 O1
  have IT : IsT (((w2.setCell ⟨w.heap.size + 1 + 1 + 1, 0, none⟩ (.int .i64 em)).setCell ⟨w.heap.size + 1 + 1 + 1, 1, none⟩ (.slice A1 gs.length c1)).setCell ⟨w.heap.size + 1 + 1 + 1, 2, none⟩ (.slice A2 ps.length c2)) ⟨w.heap.size + 1 + 1 + 1, w.heap.size, em, A1, c1, A2, c2, w.heap.size + 1, w.heap.size + 1 + 1, gs, ps⟩ 0 0 := by
    refine ⟨T4, ?_, ?_, ?_, ?_, by simp only []; omega, by simp only []; omega, by simp only []; omega, h0.gi, h0.pi_, by simp only []; omega, by simp only []; omega, by simp only []; omega⟩
    · exact own_keep (own_keep (own_base_le O1 (by simp only []; omega)) K2 (by simp)) KS (fun b hb e => by have := (own_base O1 b e.symm).1; simp at hb; omega)
    · exact own_keep (own_base_le O2 (by simp only []; omega)) KS (fun b hb e => by have := (own_base O2 b e.symm).1; simp at hb; omega)
    · exact ((A0.keep KK (by simp)).keep KS (by simp)).ext (fun k _ => rfl)
    · exact ((B0.keep KK (by simp)).keep KS (by simp)).ext (fun k _ => rfl)
  have KW : Keep [] w (((w2.setCell ⟨w.heap.size + 1 + 1 + 1, 0, none⟩ (.int .i64 em)).setCell ⟨w.heap.size + 1 + 1 + 1, 1, none⟩ (.slice A1 gs.length c1)).setCell ⟨w.heap.size + 1 + 1 + 1, 2, none⟩ (.slice A2 ps.length c2)) := by rename_i hh; exact hh.2.2.2
  rename_i hh
  clear hh T4 KS KK K0 K1 K2 O1 O2 A0 B0 T0 h0 uT sT s01
  generalize (((w2.setCell ⟨w.heap.size + 1 + 1 + 1, 0, none⟩ (.int .i64 em)).setCell ⟨w.heap.size + 1 + 1 + 1, 1, none⟩ (.slice A1 gs.length c1)).setCell ⟨w.heap.size + 1 + 1 + 1, 2, none⟩ (.slice A2 ps.length c2)) = W4 at *
  obtain ⟨t, ht⟩ : ∃ t : TabX, t = ⟨w.heap.size + 1 + 1 + 1, w.heap.size, em, A1, c1, A2, c2, w.heap.size + 1, w.heap.size + 1 + 1, gs, ps⟩ := ⟨_, rfl⟩
  rw [← ht] at IT
  have e1 : w.heap.size + 1 + 1 + 1 = t.T := by rw [ht]
  have e2 : A1 = t.ga := by rw [ht]
  have e3 : c1 = t.gc := by rw [ht]
  have e4 : A2 = t.pa := by rw [ht]
  have e5 : c2 = t.pc := by rw [ht]
  have e6 : gs = t.gs := by rw [ht]
  have e7 : ps = t.ps := by rw [ht]
  have e8 : em = t.em := by rw [ht]
  have e9 : w.heap.size + 1 = t.mg := by rw [ht]
  have e10 : w.heap.size + 1 + 1 = t.mp := by rw [ht]
  have e11 := hid (show t.base = w.heap.size by rw [ht])
  clear ht
  rw [e1, e10, e9]
  clear e1 e9 e10
  subst e2 e3 e4 e5 e6 e7 e8
  obtain ⟨u0, u1, u2, u3, u4, v0, v1, v2, v3, v4, uT⟩ := cells5 IT.blk
  go_wp2_with fail
  clear u0 u1 u2 u3 u4 v0 v1 v2 v3 v4 uT
  go_loopw [52] (fun vk wr => ∃ k : Nat, k ≤ t.gs.length ∧ vk = .int .i64 k ∧ IsT wr t k 0 ∧ Hid (∀ i, i < k → okG t.gs i) ∧ Keep [] w wr) (fun vk _ => t.gs.length - (intOf vk).toNat)
  case atStart => exact ⟨0, Nat.zero_le _, rfl, IT, hid (fun i hi => by omega), KW⟩
  case round =>
    obtain ⟨k, hk, rfl, Ik, HG, Kk⟩ := hrel
    clear IT KW
    by_cases hlt : k < t.gs.length
    · -- slow<
      obtain ⟨g, hg⟩ : ∃ g, t.gs[k]? = some g := ⟨t.gs[k], List.getElem?_eq_getElem hlt⟩
      obtain ⟨gb, hA, _, hgb, hc⟩ := own_at row4 Ik.gown hg
      obtain ⟨u0, u1, u2, u3, u4, v0, v1, v2, v3, v4, uT⟩ := cells5 Ik.blk
      have d0 := hc 0 _ rfl
      have d1 := hc 1 _ rfl
      have d2 := hc 2 _ rfl
      have d3 := hc 3 _ rfl
      rw [Nat.add_zero] at d0
      rw [hA] at u1
      have HA := hid hA
      rw [hA]
      have HGE := hid hg
      clear hc hA hg
      have OK := hid (okG_at HGE.out)
      -- what may be wrong
      have hcs : wd g.ru = 0 ∨ wd g.ru ≠ 0 ∧ ((0 < k ∧ ∃ q, t.gs[k - 1]? = some q ∧ g.ru ≤ q.ru) ∨
          ((k = 0 ∨ 0 < k ∧ ∃ q, t.gs[k - 1]? = some q ∧ q.ru < g.ru) ∧ (decide (0 ≤ g.wd ∧ g.wd ≤ 16384) = false ∨ decide (0 ≤ g.wd ∧ g.wd ≤ 16384) = true ∧ (decide (0 ≤ g.ht ∧ g.ht ≤ 16384) = false ∨ decide (0 ≤ g.ht ∧ g.ht ≤ 16384) = true ∧ (decide (0 ≤ g.dp ∧ g.dp ≤ 16384) = false ∨ decide (0 ≤ g.dp ∧ g.dp ≤ 16384) = true))))) := by
        by_cases a1 : wd g.ru = 0
        · exact .inl a1
        refine .inr ⟨a1, ?_⟩
        by_cases a2 : k = 0
        · refine .inr ⟨.inl a2, ?_⟩
          by_cases b1 : 0 ≤ g.wd ∧ g.wd ≤ 16384 <;> by_cases b2 : 0 ≤ g.ht ∧ g.ht ≤ 16384 <;> by_cases b3 : 0 ≤ g.dp ∧ g.dp ≤ 16384 <;> simp [b1, b2, b3]
        · obtain ⟨q, hq⟩ : ∃ q, t.gs[k - 1]? = some q := ⟨t.gs[k - 1], List.getElem?_eq_getElem (by omega)⟩
          by_cases a3 : g.ru ≤ q.ru
          · exact .inl ⟨by omega, q, hq, a3⟩
          · refine .inr ⟨.inr ⟨by omega, q, hq, by omega⟩, ?_⟩
            by_cases b1 : 0 ≤ g.wd ∧ g.wd ≤ 16384 <;> by_cases b2 : 0 ≤ g.ht ∧ g.ht ≤ 16384 <;> by_cases b3 : 0 ≤ g.dp ∧ g.dp ≤ 16384 <;> simp [b1, b2, b3]
      rcases hcs with c1 | ⟨c1, ⟨hk0, q, hq, c2⟩ | ⟨c2, c3⟩⟩
      · -- no rune
        have C := hid (check_glyph (em := t.em) (ps := t.ps) HE.out HM.out hlt (fun hok => (OK.out.1 hok).1 c1))
        have W := hid c1
        clear c1
        go_upto_region 10 with (fail)
        go_quiet ((first | (go_at_call 40; exact Calls.quiet_of_same (width_at _ _ _ W.out))))
        go_wp2
        go_ret2
        exact NewPost.bad C.out (by decide) rfl ((Kk.alloc _).drewN _)
      · -- not behind the one ahead
        have C := hid (check_glyph (em := t.em) (ps := t.ps) HE.out HM.out hlt (fun hok => by have := (OK.out.1 hok).2.1 q hk0 hq; omega))
        obtain ⟨gb', hA', _, _, hc'⟩ := own_at row4 Ik.gown hq
        have hgg : gb' = gb := by rw [HA.out] at hA'; simp at hA'; exact hA'.symm
        subst hgg
        have q0 := hc' 0 _ rfl
        rw [Nat.add_zero] at q0
        obtain ⟨n, hn⟩ : ∃ n, wd g.ru = n := ⟨_, rfl⟩
        rw [hn] at c1
        have W := hid hn
        have c1' : (n == 0) = false := by simpa using c1
        clear c1 hc' hA' hq hn
        obtain ⟨j, rfl⟩ : ∃ j, k = j + 1 := ⟨k - 1, by omega⟩
        have p1 : (0 : Int) < ((j + 1 : Nat) : Int) := by omega
        have p2 : IntKind.i64.wrap (((j + 1 : Nat) : Int) - 1) = ((j : Nat) : Int) := by rw [show ((j + 1 : Nat) : Int) - 1 = ((j : Nat) : Int) by omega]; exact IntWalk.i64_in _ (by omega)
        have p3 : j < t.gs.length := by omega
        rw [Nat.add_sub_cancel] at q0
        go_upto_region 10 with (fail)
        go_quiet ((first | (go_at_call 40; exact Calls.quiet_of_same (width_at _ _ _ W.out))))
        go_wp2
        go_ret2
        exact NewPost.bad C.out (by decide) rfl ((Kk.alloc _).drewN _)
      · obtain ⟨n, hn⟩ : ∃ n, wd g.ru = n := ⟨_, rfl⟩
        rw [hn] at c1
        have W := hid hn
        have c1' : (n == 0) = false := by simpa using c1
        clear hn
        rcases c2 with rfl | ⟨hk0, q, hq, c2⟩
        · rcases c3 with c3 | ⟨c3, c4 | ⟨c4, c5 | c5⟩⟩
          · have U1 := hid c3
            clear c3
            have C := hid (check_glyph (em := t.em) (ps := t.ps) HE.out HM.out hlt (fun hok => by obtain ⟨_, _, h1, h2, h3⟩ := OK.out.1 hok; have hu := U1.out; rw [decide_eq_true h1] at hu; cases hu))
            go_upto_region 10 with (fail)
            go_quiet ((first | (go_at_call 40; exact Calls.quiet_of_same (width_at _ _ _ W.out)) | (go_at_call 41; (first | (with_reducible exact Calls.quiet_of_same (units_at g.wd _ _ U1.out))))))
            go_wp2
            go_ret2
            exact NewPost.bad C.out (by decide) rfl ((Kk.alloc _).drewN _)
          · have U1 := hid c3
            have U2 := hid c4
            clear c3 c4
            have C := hid (check_glyph (em := t.em) (ps := t.ps) HE.out HM.out hlt (fun hok => by obtain ⟨_, _, h1, h2, h3⟩ := OK.out.1 hok; have hu := U2.out; rw [decide_eq_true h2] at hu; cases hu))
            go_upto_region 10 with (fail)
            go_quiet ((first | (go_at_call 40; exact Calls.quiet_of_same (width_at _ _ _ W.out)) | (go_at_call 41; (first | (with_reducible exact Calls.quiet_of_same (units_at g.wd _ _ U1.out)) | (with_reducible exact Calls.quiet_of_same (units_at g.ht _ _ U2.out))))))
            go_wp2
            go_ret2
            exact NewPost.bad C.out (by decide) rfl ((Kk.alloc _).drewN _)
          · have U1 := hid c3
            have U2 := hid c4
            have U3 := hid c5
            clear c3 c4 c5
            have C := hid (check_glyph (em := t.em) (ps := t.ps) HE.out HM.out hlt (fun hok => by obtain ⟨_, _, h1, h2, h3⟩ := OK.out.1 hok; have hu := U3.out; rw [decide_eq_true h3] at hu; cases hu))
            go_upto_region 10 with (fail)
            go_quiet ((first | (go_at_call 40; exact Calls.quiet_of_same (width_at _ _ _ W.out)) | (go_at_call 41; (first | (with_reducible exact Calls.quiet_of_same (units_at g.wd _ _ U1.out)) | (with_reducible exact Calls.quiet_of_same (units_at g.ht _ _ U2.out)) | (with_reducible exact Calls.quiet_of_same (units_at g.dp _ _ U3.out))))))
            go_wp2
            go_ret2
            exact NewPost.bad C.out (by decide) rfl ((Kk.alloc _).drewN _)
          · have U1 := hid c3
            have U2 := hid c4
            have U3 := hid c5
            clear c3 c4 c5
            go_upto_region 10 with (fail)
            go_quiet ((first | (go_at_call 40; exact Calls.quiet_of_same (width_at _ _ _ W.out)) | (go_at_call 41; (first | (with_reducible exact Calls.quiet_of_same (units_at g.wd _ _ U1.out)) | (with_reducible exact Calls.quiet_of_same (units_at g.ht _ _ U2.out)) | (with_reducible exact Calls.quiet_of_same (units_at g.dp _ _ U3.out))))))
            have okk := hid (OK.out.2 ⟨by rw [W.out]; exact c1, fun q h => by omega, by simpa using U1.out, by simpa using U2.out, by simpa using U3.out⟩)
            go_upto_region 12 with (fail)
            have K5 : Keep [] wr ((wr.alloc (.cells #[.int .i64 g.ru, .int .i64 g.wd, .int .i64 g.ht, .int .i64 g.dp] 45)).drewN nq) := ((Keep.refl _ _).alloc _).drewN _
            have N5 := blk_drewN (blk_new wr (.cells #[.int .i64 g.ru, .int .i64 g.wd, .int .i64 g.ht, .int .i64 g.dp] 45)) nq
            generalize ((wr.alloc (.cells #[.int .i64 g.ru, .int .i64 g.wd, .int .i64 g.ht, .int .i64 g.dp] 45)).drewN nq) = W5 at *
            have x0 := blk_cell N5 0
            simp only [List.getElem?_toArray, List.getElem?_cons_zero] at x0
            have y3 := K5.cell' u3 (by simp)
            obtain ⟨kl, hkl⟩ := keyOf_ik (Ik.gin g (List.mem_of_getElem? HGE.out)).1
            obtain ⟨w6, hrun0, M6, G6⟩ := ((Ik.gmap.keep K5 (by simp)).keep (Keep.refl [] W5).drew (by simp)).store keyInt Try.underlying47 Try.underlying3 (by simp [maxLen] <;> omega) (fun a b kl _ _ ha hb => ik_inj ha hb) (v := (0 : Nat)) (Ik.gin g (List.mem_of_getElem? HGE.out)).1 hkl (wfI (show InI _ by unfold InI; omega))
            have hrun : (Instr.mapUpdate 47 (.map (some t.mg)) (.int .i64 g.ru) (.int .i64 0)).run Try.prog W5.drew = .ok () w6 := hrun0
            clear hrun0 hkl
            clear d0 d1 d2 d3
            go_still_tail 7, (by kernel_rfl)
            go_wp2
            go_roundw
            case rel => exact ⟨0 + 1, hlt, by go_num, Ik.stepG K5 M6 G6 HG.out okk.out HGE.out, hid (fun i hi => by by_cases e : i = 0; exact e ▸ okk.out; exact HG.out i (by omega)), (Kk.trans (K5.drew)).then (grown_keep G6) (fun b hb => .inr (by simp at hb; have := Ik.bg; have := e11.out; omega))⟩
            case measure => simp [intOf]; omega
        · obtain ⟨gb', hA', _, _, hc'⟩ := own_at row4 Ik.gown hq
          have hgg : gb' = gb := by rw [HA.out] at hA'; simp at hA'; exact hA'.symm
          subst hgg
          have q0 := hc' 0 _ rfl
          rw [Nat.add_zero] at q0
          have HQ := hid hq
          clear hc' hA' hq
          obtain ⟨j, rfl⟩ : ∃ j, k = j + 1 := ⟨k - 1, by omega⟩
          have p1 : (0 : Int) < ((j + 1 : Nat) : Int) := by omega
          have p2 : IntKind.i64.wrap (((j + 1 : Nat) : Int) - 1) = ((j : Nat) : Int) := by rw [show ((j + 1 : Nat) : Int) - 1 = ((j : Nat) : Int) by omega]; exact IntWalk.i64_in _ (by omega)
          have p3 : j < t.gs.length := by omega
          have p4 : decide (g.ru ≤ q.ru) = false := by simp; omega
          rw [Nat.add_sub_cancel] at q0
          rcases c3 with c3 | ⟨c3, c4 | ⟨c4, c5 | c5⟩⟩
          · have U1 := hid c3
            clear c3
            have C := hid (check_glyph (em := t.em) (ps := t.ps) HE.out HM.out hlt (fun hok => by obtain ⟨_, _, h1, h2, h3⟩ := OK.out.1 hok; have hu := U1.out; rw [decide_eq_true h1] at hu; cases hu))
            go_upto_region 10 with (fail)
            go_quiet ((first | (go_at_call 40; exact Calls.quiet_of_same (width_at _ _ _ W.out)) | (go_at_call 41; (first | (with_reducible exact Calls.quiet_of_same (units_at g.wd _ _ U1.out))))))
            go_wp2
            go_ret2
            exact NewPost.bad C.out (by decide) rfl ((Kk.alloc _).drewN _)
          · have U1 := hid c3
            have U2 := hid c4
            clear c3 c4
            have C := hid (check_glyph (em := t.em) (ps := t.ps) HE.out HM.out hlt (fun hok => by obtain ⟨_, _, h1, h2, h3⟩ := OK.out.1 hok; have hu := U2.out; rw [decide_eq_true h2] at hu; cases hu))
            go_upto_region 10 with (fail)
            go_quiet ((first | (go_at_call 40; exact Calls.quiet_of_same (width_at _ _ _ W.out)) | (go_at_call 41; (first | (with_reducible exact Calls.quiet_of_same (units_at g.wd _ _ U1.out)) | (with_reducible exact Calls.quiet_of_same (units_at g.ht _ _ U2.out))))))
            go_wp2
            go_ret2
            exact NewPost.bad C.out (by decide) rfl ((Kk.alloc _).drewN _)
          · have U1 := hid c3
            have U2 := hid c4
            have U3 := hid c5
            clear c3 c4 c5
            have C := hid (check_glyph (em := t.em) (ps := t.ps) HE.out HM.out hlt (fun hok => by obtain ⟨_, _, h1, h2, h3⟩ := OK.out.1 hok; have hu := U3.out; rw [decide_eq_true h3] at hu; cases hu))
            go_upto_region 10 with (fail)
            go_quiet ((first | (go_at_call 40; exact Calls.quiet_of_same (width_at _ _ _ W.out)) | (go_at_call 41; (first | (with_reducible exact Calls.quiet_of_same (units_at g.wd _ _ U1.out)) | (with_reducible exact Calls.quiet_of_same (units_at g.ht _ _ U2.out)) | (with_reducible exact Calls.quiet_of_same (units_at g.dp _ _ U3.out))))))
            go_wp2
            go_ret2
            exact NewPost.bad C.out (by decide) rfl ((Kk.alloc _).drewN _)
          · have U1 := hid c3
            have U2 := hid c4
            have U3 := hid c5
            clear c3 c4 c5
            go_upto_region 10 with (fail)
            go_quiet ((first | (go_at_call 40; exact Calls.quiet_of_same (width_at _ _ _ W.out)) | (go_at_call 41; (first | (with_reducible exact Calls.quiet_of_same (units_at g.wd _ _ U1.out)) | (with_reducible exact Calls.quiet_of_same (units_at g.ht _ _ U2.out)) | (with_reducible exact Calls.quiet_of_same (units_at g.dp _ _ U3.out))))))
            have okk := hid (OK.out.2 ⟨by rw [W.out]; exact c1, fun q' _ hq' => by rw [Nat.add_sub_cancel] at hq'; have := HQ.out; rw [Nat.add_sub_cancel] at this; rw [hq'] at this; cases this; exact c2, by simpa using U1.out, by simpa using U2.out, by simpa using U3.out⟩)
            go_upto_region 12 with (fail)
            have K5 : Keep [] wr ((wr.alloc (.cells #[.int .i64 g.ru, .int .i64 g.wd, .int .i64 g.ht, .int .i64 g.dp] 45)).drewN nq) := ((Keep.refl _ _).alloc _).drewN _
            have N5 := blk_drewN (blk_new wr (.cells #[.int .i64 g.ru, .int .i64 g.wd, .int .i64 g.ht, .int .i64 g.dp] 45)) nq
            generalize ((wr.alloc (.cells #[.int .i64 g.ru, .int .i64 g.wd, .int .i64 g.ht, .int .i64 g.dp] 45)).drewN nq) = W5 at *
            have x0 := blk_cell N5 0
            simp only [List.getElem?_toArray, List.getElem?_cons_zero] at x0
            have y3 := K5.cell' u3 (by simp)
            obtain ⟨kl, hkl⟩ := keyOf_ik (Ik.gin g (List.mem_of_getElem? HGE.out)).1
            obtain ⟨w6, hrun0, M6, G6⟩ := ((Ik.gmap.keep K5 (by simp)).keep (Keep.refl [] W5).drew (by simp)).store keyInt Try.underlying47 Try.underlying3 (by simp [maxLen] <;> omega) (fun a b kl _ _ ha hb => ik_inj ha hb) (v := (j + 1 : Nat)) (Ik.gin g (List.mem_of_getElem? HGE.out)).1 hkl (wfI (show InI _ by unfold InI; omega))
            have hrun : (Instr.mapUpdate 47 (.map (some t.mg)) (.int .i64 g.ru) (.int .i64 ((j : Int) + 1))).run Try.prog W5.drew = .ok () w6 := hrun0
            clear hrun0 hkl
            clear d0 d1 d2 d3
            go_still_tail 7, (by kernel_rfl)
            go_wp2
            go_roundw
            case rel => exact ⟨j + 1 + 1, hlt, by go_num, Ik.stepG K5 M6 G6 HG.out okk.out HGE.out, hid (fun i hi => by by_cases e : i = j + 1; exact e ▸ okk.out; exact HG.out i (by omega)), (Kk.trans (K5.drew)).then (grown_keep G6) (fun b hb => .inr (by simp at hb; have := Ik.bg; have := e11.out; omega))⟩
            case measure => simp [intOf]; omega
      -- slow>
    · obtain rfl : k = t.gs.length := by omega
      have HGG := hid (show GoodG t.gs from HG.out)
      have HGW := hid (goodW HGG.out)
      clear HG hlt hk
      obtain ⟨u0, u1, u2, u3, u4, v0, v1, v2, v3, v4, uT⟩ := cells5 Ik.blk
      go_wp2_with fail
      clear u0 u1 u2 u3 u4 v0 v1 v2 v3 v4 uT
      go_loopw [112] (fun vk wr => ∃ k : Nat, k ≤ t.ps.length ∧ vk = .int .i64 k ∧ IsT wr t t.gs.length k ∧ Hid (∀ i, i < k → okP t.gs t.ps i) ∧ Keep [] w wr) (fun vk _ => t.ps.length - (intOf vk).toNat)
      case atStart => exact ⟨0, Nat.zero_le _, rfl, Ik, hid (fun i hi => by omega), Kk⟩
      case round =>
        clear Ik Kk
        obtain ⟨k, hk, rfl, Ik, HP, Kk⟩ := hrel
        by_cases hlt : k < t.ps.length
        · obtain ⟨p, hp⟩ : ∃ p, t.ps[k]? = some p := ⟨t.ps[k], List.getElem?_eq_getElem hlt⟩
          obtain ⟨pb, hA, _, hpb, hc⟩ := own_at row5 Ik.pown hp
          obtain ⟨u0, u1, u2, u3, u4, v0, v1, v2, v3, v4, uT⟩ := cells5 Ik.blk
          have d0 := hc 0 _ rfl
          have d1 := hc 1 _ rfl
          have d2 := hc 2 _ rfl
          have d3 := hc 3 _ rfl
          have d4 := hc 4 _ rfl
          rw [Nat.add_zero] at d0
          rw [hA] at u2
          have HA := hid hA
          rw [hA]
          have HPE := hid hp
          have PI := hid (Ik.pin p (List.mem_of_getElem? hp))
          have OK := hid (okP_at (gs := t.gs) hp)
          have CF : ∀ W, Keep [] wr W → Calls Try.prog 42 #[.pointer (some ⟨t.T, 0, none⟩), .agg #[.int .i64 p.lf, .int .i64 p.rt, .bool p.is, .int .i64 p.lg, .int .i64 p.kn]] W fun e w' => e = .returned (.bool (fineX t.gs p)) ∧ Keep [] W w' := fun W K => fine_any t k p W (Ik.keep K (by simp)) PI.out HGW.out
          have HCF := hid CF
          clear hc hA hp CF
          obtain ⟨b, hb⟩ : ∃ b, fineX t.gs p = b := ⟨_, rfl⟩
          have HB := hid hb
          rw [hb] at HCF OK
          clear hb
          rcases Nat.eq_zero_or_pos k with rfl | hk0
          · cases b with
            | false =>
              have C := hid (check_pair (em := t.em) HE.out HM.out HGG.out hlt (fun hok => by have := (OK.out.1 hok).1; cases this))
              go_wp2_with (go_at_call 42; (with_reducible refine (HCF.out _ (by repeat (with_reducible first | exact Keep.refl _ _ | refine Keep.alloc ?_ _))).mono ?_); rintro e w5 ⟨rfl, K5⟩)
              go_ret2
              exact NewPost.bad C.out (by decide) rfl ((Kk.trans ((Keep.refl _ _).alloc _)).trans K5)
            | true =>
              have okk := hid (OK.out.2 ⟨rfl, fun q h => by omega⟩)
              go_wp2_with (go_at_call 42; (with_reducible refine (HCF.out _ (by repeat (with_reducible first | exact Keep.refl _ _ | refine Keep.alloc ?_ _))).mono ?_); rintro e w5 ⟨rfl, K5⟩)
              have KK : Keep [] wr w5 := ((Keep.refl [] wr).alloc (.cells #[.int .i64 p.lf, .int .i64 p.rt, .bool p.is, .int .i64 p.lg, .int .i64 p.kn] 52)).trans K5
              have N5 := K5.blk (blk_new wr (.cells #[.int .i64 p.lf, .int .i64 p.rt, .bool p.is, .int .i64 p.lg, .int .i64 p.kn] 52)) (by simp)
              clear d0 d1 d2 d3 d4
              have x0 := blk_cell N5 0
              have x1 := blk_cell N5 1
              simp only [List.getElem?_toArray, List.getElem?_cons_zero, List.getElem?_cons_succ] at x0 x1
              have y4 := KK.cell' u4 (by simp)
              obtain ⟨kl, hkl⟩ := keyOf_pk (k := (p.lf, p.rt)) ⟨PI.out.1, PI.out.2.1⟩
              obtain ⟨w6, hrun0, M6, G6⟩ := ((Ik.pmap.keep KK (by simp)).keep (Keep.refl [] w5).drew (by simp)).store keyArr Try.underlying79 Try.underlying3 (by simp [maxLen] <;> omega) (fun a b kl _ _ ha hb => pk_inj ha hb) (v := ((0 : Nat) : Int)) ⟨PI.out.1, PI.out.2.1⟩ hkl (wfI (show InI _ by unfold InI; omega))
              have hrun : (Instr.mapUpdate 79 (.map (some t.mp)) (.agg #[.int .i64 p.lf, .int .i64 p.rt]) (.int .i64 0)).run Try.prog w5.drew = .ok () w6 := hrun0
              clear hrun0 hkl K5 N5
              go_still_tail 10, (by kernel_rfl)
              go_wp2
              go_roundw
              case rel => exact ⟨0 + 1, hlt, by go_num, Ik.stepP KK M6 G6 HP.out okk.out HPE.out, hid (fun i hi => by by_cases e : i = 0; exact e ▸ okk.out; exact HP.out i (by omega)), (Kk.trans KK.drew).then (grown_keep G6) (fun b hb => .inr (by simp at hb; have := Ik.bp; have := e11.out; omega))⟩
              case measure => simp [intOf]; omega
          · obtain ⟨j, rfl⟩ : ∃ j, k = j + 1 := ⟨k - 1, by omega⟩
            obtain ⟨q, hq⟩ : ∃ q, t.ps[j]? = some q := ⟨t.ps[j], List.getElem?_eq_getElem (by omega)⟩
            obtain ⟨pb', hA', _, _, hc'⟩ := own_at row5 Ik.pown hq
            have hgg : pb' = pb := by rw [HA.out] at hA'; simp at hA'; exact hA'.symm
            subst hgg
            have q0 := hc' 0 _ rfl
            have q1 := hc' 1 _ rfl
            have q2 := hc' 2 _ rfl
            have q3 := hc' 3 _ rfl
            have q4 := hc' 4 _ rfl
            rw [Nat.add_zero] at q0
            have HQ := hid hq
            clear hc' hA' hq
            have p1 : (0 : Int) < ((j + 1 : Nat) : Int) := by omega
            have p2 : IntKind.i64.wrap (((j + 1 : Nat) : Int) - 1) = ((j : Nat) : Int) := by rw [show ((j + 1 : Nat) : Int) - 1 = ((j : Nat) : Int) by omega]; exact IntWalk.i64_in _ (by omega)
            have p3 : j < t.ps.length := by omega
            have hcs : p.lf < q.lf ∨ (p.lf = q.lf ∧ p.rt ≤ q.rt) ∨ (q.lf < p.lf ∨ p.lf = q.lf ∧ q.rt < p.rt) := by omega
            rcases hcs with c1 | ⟨c1, c2⟩ | c1
            · have b1 : decide (p.lf < q.lf) = true := by simpa using c1
              have C := hid (check_pair (em := t.em) HE.out HM.out HGG.out hlt (fun hok => by have := (OK.out.1 hok).2 q hk0 (by rw [Nat.add_sub_cancel]; exact HQ.out); unfold behindX at this; omega))
              go_wp2_with (go_at_call 42; (with_reducible refine (HCF.out _ (by repeat (with_reducible first | exact Keep.refl _ _ | refine Keep.alloc ?_ _))).mono ?_); rintro e w5 ⟨rfl, K5⟩)
              go_ret2
              exact NewPost.bad C.out (by decide) rfl ((Kk.trans ((Keep.refl _ _).alloc _)).alloc _)
            · have b1 : decide (p.lf < q.lf) = false := by simp; omega
              have b2 : (p.lf == q.lf) = true := by simpa using c1
              have b3 : decide (p.rt ≤ q.rt) = true := by simpa using c2
              have c3 := hid c1
              clear c1
              have C := hid (check_pair (em := t.em) HE.out HM.out HGG.out hlt (fun hok => by have := c3.out; have := (OK.out.1 hok).2 q hk0 (by rw [Nat.add_sub_cancel]; exact HQ.out); unfold behindX at this; omega))
              go_wp2_with (go_at_call 42; (with_reducible refine (HCF.out _ (by repeat (with_reducible first | exact Keep.refl _ _ | refine Keep.alloc ?_ _))).mono ?_); rintro e w5 ⟨rfl, K5⟩)
              go_ret2
              exact NewPost.bad C.out (by decide) rfl ((Kk.trans ((Keep.refl _ _).alloc _)).alloc _)
            · have c9 := hid c1
              have b1 : decide (p.lf < q.lf) = false := by simp; omega
              rcases c1 with c1 | ⟨c1, c2⟩
              · have b2 : (p.lf == q.lf) = false := by simp; omega
                cases b with
                | false =>
                  have C := hid (check_pair (em := t.em) HE.out HM.out HGG.out hlt (fun hok => by have := (OK.out.1 hok).1; cases this))
                  go_wp2_with (go_at_call 42; (with_reducible refine (HCF.out _ (by repeat (with_reducible first | exact Keep.refl _ _ | refine Keep.alloc ?_ _))).mono ?_); rintro e w5 ⟨rfl, K5⟩)
                  go_ret2
                  exact NewPost.bad C.out (by decide) rfl (((Kk.trans ((Keep.refl _ _).alloc _)).alloc _).trans K5)
                | true =>
                  have okk := hid (OK.out.2 ⟨rfl, fun q' _ hq' => by rw [Nat.add_sub_cancel] at hq'; have h := HQ.out; rw [hq'] at h; cases h; have := c9.out; unfold behindX; omega⟩)
                  go_wp2_with (go_at_call 42; (with_reducible refine (HCF.out _ (by repeat (with_reducible first | exact Keep.refl _ _ | refine Keep.alloc ?_ _))).mono ?_); rintro e w5 ⟨rfl, K5⟩)
                  have KK : Keep [] wr w5 := (((Keep.refl [] wr).alloc (.cells #[.int .i64 p.lf, .int .i64 p.rt, .bool p.is, .int .i64 p.lg, .int .i64 p.kn] 52)).alloc (.cells #[.int .i64 q.lf, .int .i64 q.rt, .bool q.is, .int .i64 q.lg, .int .i64 q.kn] 52)).trans K5
                  have N5 := K5.blk (blk_alloc (blk_new wr (.cells #[.int .i64 p.lf, .int .i64 p.rt, .bool p.is, .int .i64 p.lg, .int .i64 p.kn] 52)) (.cells #[.int .i64 q.lf, .int .i64 q.rt, .bool q.is, .int .i64 q.lg, .int .i64 q.kn] 52)) (by simp)
                  clear d0 d1 d2 d3 d4 q0 q1 q2 q3 q4
                  have x0 := blk_cell N5 0
                  have x1 := blk_cell N5 1
                  simp only [List.getElem?_toArray, List.getElem?_cons_zero, List.getElem?_cons_succ] at x0 x1
                  have y4 := KK.cell' u4 (by simp)
                  obtain ⟨kl, hkl⟩ := keyOf_pk (k := (p.lf, p.rt)) ⟨PI.out.1, PI.out.2.1⟩
                  obtain ⟨w6, hrun0, M6, G6⟩ := ((Ik.pmap.keep KK (by simp)).keep (Keep.refl [] w5).drew (by simp)).store keyArr Try.underlying79 Try.underlying3 (by simp [maxLen] <;> omega) (fun a b kl _ _ ha hb => pk_inj ha hb) (v := ((j + 1 : Nat) : Int)) ⟨PI.out.1, PI.out.2.1⟩ hkl (wfI (show InI _ by unfold InI; omega))
                  have hrun : (Instr.mapUpdate 79 (.map (some t.mp)) (.agg #[.int .i64 p.lf, .int .i64 p.rt]) (.int .i64 ((j : Int) + 1))).run Try.prog w5.drew = .ok () w6 := hrun0
                  clear hrun0 hkl K5 N5
                  go_still_tail 10, (by kernel_rfl)
                  go_wp2
                  go_roundw
                  case rel => exact ⟨j + 1 + 1, hlt, by go_num, Ik.stepP KK M6 G6 HP.out okk.out HPE.out, hid (fun i hi => by by_cases e : i = j + 1; exact e ▸ okk.out; exact HP.out i (by omega)), (Kk.trans KK.drew).then (grown_keep G6) (fun b hb => .inr (by simp at hb; have := Ik.bp; have := e11.out; omega))⟩
                  case measure => simp [intOf]; omega
              · have b2 : (p.lf == q.lf) = true := by simpa using c1
                have b3 : decide (p.rt ≤ q.rt) = false := by simp; omega
                clear c1
                cases b with
                | false =>
                  have C := hid (check_pair (em := t.em) HE.out HM.out HGG.out hlt (fun hok => by have := (OK.out.1 hok).1; cases this))
                  go_wp2_with (go_at_call 42; (with_reducible refine (HCF.out _ (by repeat (with_reducible first | exact Keep.refl _ _ | refine Keep.alloc ?_ _))).mono ?_); rintro e w5 ⟨rfl, K5⟩)
                  go_ret2
                  exact NewPost.bad C.out (by decide) rfl (((Kk.trans ((Keep.refl _ _).alloc _)).alloc _).trans K5)
                | true =>
                  have okk := hid (OK.out.2 ⟨rfl, fun q' _ hq' => by rw [Nat.add_sub_cancel] at hq'; have h := HQ.out; rw [hq'] at h; cases h; have := c9.out; unfold behindX; omega⟩)
                  go_wp2_with (go_at_call 42; (with_reducible refine (HCF.out _ (by repeat (with_reducible first | exact Keep.refl _ _ | refine Keep.alloc ?_ _))).mono ?_); rintro e w5 ⟨rfl, K5⟩)
                  have KK : Keep [] wr w5 := (((Keep.refl [] wr).alloc (.cells #[.int .i64 p.lf, .int .i64 p.rt, .bool p.is, .int .i64 p.lg, .int .i64 p.kn] 52)).alloc (.cells #[.int .i64 q.lf, .int .i64 q.rt, .bool q.is, .int .i64 q.lg, .int .i64 q.kn] 52)).trans K5
                  have N5 := K5.blk (blk_alloc (blk_new wr (.cells #[.int .i64 p.lf, .int .i64 p.rt, .bool p.is, .int .i64 p.lg, .int .i64 p.kn] 52)) (.cells #[.int .i64 q.lf, .int .i64 q.rt, .bool q.is, .int .i64 q.lg, .int .i64 q.kn] 52)) (by simp)
                  clear d0 d1 d2 d3 d4 q0 q1 q2 q3 q4
                  have x0 := blk_cell N5 0
                  have x1 := blk_cell N5 1
                  simp only [List.getElem?_toArray, List.getElem?_cons_zero, List.getElem?_cons_succ] at x0 x1
                  have y4 := KK.cell' u4 (by simp)
                  obtain ⟨kl, hkl⟩ := keyOf_pk (k := (p.lf, p.rt)) ⟨PI.out.1, PI.out.2.1⟩
                  obtain ⟨w6, hrun0, M6, G6⟩ := ((Ik.pmap.keep KK (by simp)).keep (Keep.refl [] w5).drew (by simp)).store keyArr Try.underlying79 Try.underlying3 (by simp [maxLen] <;> omega) (fun a b kl _ _ ha hb => pk_inj ha hb) (v := ((j + 1 : Nat) : Int)) ⟨PI.out.1, PI.out.2.1⟩ hkl (wfI (show InI _ by unfold InI; omega))
                  have hrun : (Instr.mapUpdate 79 (.map (some t.mp)) (.agg #[.int .i64 p.lf, .int .i64 p.rt]) (.int .i64 ((j : Int) + 1))).run Try.prog w5.drew = .ok () w6 := hrun0
                  clear hrun0 hkl K5 N5
                  go_still_tail 10, (by kernel_rfl)
                  go_wp2
                  go_roundw
                  case rel => exact ⟨j + 1 + 1, hlt, by go_num, Ik.stepP KK M6 G6 HP.out okk.out HPE.out, hid (fun i hi => by by_cases e : i = j + 1; exact e ▸ okk.out; exact HP.out i (by omega)), (Kk.trans KK.drew).then (grown_keep G6) (fun b hb => .inr (by simp at hb; have := Ik.bp; have := e11.out; omega))⟩
                  case measure => simp [intOf]; omega
        · obtain rfl : k = t.ps.length := by omega
          go_wp2
          go_ret2
          exact .inr ⟨check_ok HE.out HM.out HGG.out HP.out, t, rfl, Ik, rfl, rfl, rfl, e11.out, Kk⟩

end Go.Proofs.Ythcfgechifogeaa
