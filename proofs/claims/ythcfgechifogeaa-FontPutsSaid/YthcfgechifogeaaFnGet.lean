/- Font: Get, by a contract. -/
import Derived.Test.YthcfgechifogeaaFnRead
namespace Go.Proofs.Ythcfgechifogeaa
open Go.RowKit Go.Maps
set_option linter.unusedSimpArgs false
set_option linter.unusedVariables false

theorem cells2 {w : World} {n : Nat} {a b : Value} {t : TypeId} (h : w.heap[n]? = some (.cells #[a, b] t (0, 0))) :
    w.cell? ⟨n, 0, none⟩ = some a ∧ w.cell? ⟨n, 1, none⟩ = some b ∧ w.frozen? ⟨n, 0, none⟩ = false ∧ w.frozen? ⟨n, 1, none⟩ = false ∧ n < w.heap.size := ⟨blk_cell h 0, blk_cell h 1, blk_free h 0, blk_free h 1, blk_lt h⟩
/-- What Get leaves. -/
def GetPost (g : Nat) (r : Option Fnt × Int × Int × MS) (w : World) (e : Ending) (w' : World) : Prop :=
  Keep [g] w w' ∧ IsM w' g r.2.2.2 ∧ ∃ f : FontX, e = .returned (.tuple #[f.val, .agg #[.int .i64 r.2.1, .int .i64 r.2.2.1]]) ∧
    w'.ownsRow w.heap.size 45 4 (.slice f.ga f.gs.length f.gc) f.gs.length (f.gs.flatMap GlyphX.row) ∧ w'.ownsRow w.heap.size 52 5 (.slice f.pa f.ps.length f.pc) f.ps.length (f.ps.flatMap PairX.row) ∧
    (f.em, f.gs, f.ps) = r.1.getD (0, [], [])
theorem Fr.keep {base g : Nat} {w0 w w' : World} (h : Fr base g w w') (K : Keep [g] w0 w) (hb : base = w0.heap.size) : Keep [g] w0 w' :=
  ⟨h.os.trans K.os, h.tape.trans K.tape, h.output.trans K.output, Nat.le_trans K.size h.size, fun k hk hn => (h.block k (by omega) (by simpa using hn)).trans (K.block k hk hn)⟩

def getF (S C : Int) (F : PR Fnt) : Option Fnt × Int × Int × MS :=
  match F with
  | .error (k, a, p) => (none, k, a, mBad S C k p)
  | .ok (x, p) => if ((x.2.1.length + x.2.2.length : Nat) : Int) ≤ C then (some x, 0, 0, mHeld S C p (x.2.1.length + x.2.2.length : Nat)) else (none, 21, 0, { mHeld S C p C with rf := 21 })
theorem getEnd {w : World} {n : Nat} {a0 b0 c0 k0 x0 a b c k x : Value} {t1 t2 : TypeId} (h1 : w.heap[n]? = some (.cells #[a0, b0, c0] t1 (0, 0))) (h2 : w.heap[n + 1]? = some (.cells #[k0, x0] t2 (0, 0))) :
    (((((w.setCell ⟨n, 0, none⟩ a).setCell ⟨n, 1, none⟩ b).setCell ⟨n, 2, none⟩ c).setCell ⟨n + 1, 0, none⟩ k).setCell ⟨n + 1, 1, none⟩ x).heap[n]? = some (.cells #[a, b, c] t1 (0, 0)) ∧
    (((((w.setCell ⟨n, 0, none⟩ a).setCell ⟨n, 1, none⟩ b).setCell ⟨n, 2, none⟩ c).setCell ⟨n + 1, 0, none⟩ k).setCell ⟨n + 1, 1, none⟩ x).heap[n + 1]? = some (.cells #[k, x] t2 (0, 0)) ∧
    Keep [n, n + 1] w (((((w.setCell ⟨n, 0, none⟩ a).setCell ⟨n, 1, none⟩ b).setCell ⟨n, 2, none⟩ c).setCell ⟨n + 1, 0, none⟩ k).setCell ⟨n + 1, 1, none⟩ x) := by
  refine ⟨blk_far (blk_far (set3' h1) (p := ⟨n + 1, 0, none⟩) (by simp) _) (p := ⟨n + 1, 1, none⟩) (by simp) _, ?_, ?_⟩
  · have e := blk_far (blk_far (blk_far h2 (p := ⟨n, 0, none⟩) (by simp) a) (p := ⟨n, 1, none⟩) (by simp) b) (p := ⟨n, 2, none⟩) (by simp) c
    exact (blk_set (blk_set e 0 k) 1 x).trans (by simp)
  · exact (((((Keep.refl _ _).set (.inl (by simp)) _).set (.inl (by simp)) _).set (.inl (by simp)) _).set (.inl (by simp)) _).set (.inl (by simp)) _
theorem bind_ok {α β : Type} {x : PR α} {f : α → Nat → PR β} {v : β} {q : Nat} (h : x.bind f = .ok (v, q)) : ∃ a p, x = .ok (a, p) ∧ f a p = .ok (v, q) := by
  cases x with
  | error e => cases h
  | ok v0 => obtain ⟨a, p⟩ := v0; exact ⟨a, p, rfl, h⟩
theorem glyphsX_len {bs : List Nat} {S : Int} {gs' : List GlyphX} {q : Nat} : ∀ (k : Nat) (gs : List GlyphX) (p : Nat), glyphsX bs S k gs p = .ok (gs', q) → gs'.length = gs.length + k
  | 0, gs, p, h => by simp only [glyphsX, Except.ok.injEq, Prod.mk.injEq] at h; rw [← h.1]; rfl
  | k + 1, gs, p, h => by
    unfold glyphsX at h
    obtain ⟨g, p', _, h⟩ := bind_ok h
    have := glyphsX_len k _ _ h
    simp at this
    omega
theorem pairsX_len {bs : List Nat} {S : Int} {gs : List GlyphX} {ps' : List PairX} {q : Nat} : ∀ (k : Nat) (ps : List PairX) (p : Nat), pairsX bs S gs k ps p = .ok (ps', q) → ps'.length = ps.length + k
  | 0, ps, p, h => by simp only [pairsX, Except.ok.injEq, Prod.mk.injEq] at h; rw [← h.1]; rfl
  | k + 1, ps, p, h => by
    unfold pairsX at h
    obtain ⟨g, p', _, h⟩ := bind_ok h
    have := pairsX_len k _ _ h
    simp at this
    omega
theorem readX_len {bs : List Nat} {S : Int} {x : Fnt} {q : Nat} (h : readX bs S = .ok (x, q)) : x.2.1.length ≤ 1024 ∧ x.2.2.length ≤ 4096 := by
  unfold readX at h
  obtain ⟨_, _, _, h⟩ := bind_ok h
  obtain ⟨_, _, _, h⟩ := bind_ok h
  obtain ⟨_, _, _, h⟩ := bind_ok h
  unfold bodyX at h
  obtain ⟨em, _, _, h⟩ := bind_ok h
  obtain ⟨n, _, hn, h⟩ := bind_ok h
  obtain ⟨gs, _, hg, h⟩ := bind_ok h
  obtain ⟨m, _, hm, h⟩ := bind_ok h
  obtain ⟨ps, _, hp, h⟩ := bind_ok h
  obtain ⟨_, _, _, h⟩ := bind_ok h
  simp only [Except.ok.injEq, Prod.mk.injEq] at h
  obtain ⟨rfl, rfl⟩ := h
  have h1 := glyphsX_len _ _ _ hg
  have h2 := pairsX_len _ _ _ hp
  have h3 := (numX_ok hn).1
  have h4 := (numX_ok hm).1
  simp [toR] at h1 h2 h3 h4
  simp only
  omega
def bx1 : Obj := .cells #[.int .i64 0, .slice none 0 0, .slice none 0 0] 25
def bx2 : Obj := .cells #[.int .i64 0, .int .i64 0] 60
def rdr (g m : Nat) (s : ByteArray) : Obj := .cells #[.pointer (some ⟨g, 0, none⟩), .string s, .int .i64 0, .int .i64 0, .int .i64 0, .map (some m), .int .i64 0, .slice none 0 0, .slice none 0 0] 103
theorem gstart (w : World) (s : ByteArray) (S C : Int) (g : Nat) (hm : IsM w g (MS.new S C)) (hg : g < w.heap.size) (S0 : 0 ≤ S) (hs : s.size ≤ 140737488355328) :
    RdS ((((w.alloc bx1).alloc bx2).alloc (.map #[] 0)).alloc (rdr g (w.heap.size + 1 + 1) s)) ⟨w.heap.size + 1 + 1 + 1, g, w.heap.size + 1 + 1, s, S, C⟩ (w.heap.size + 1 + 1) 0 0 0 0 [] [] none 0 none 0 ∧
    Keep [] w ((((w.alloc bx1).alloc bx2).alloc (.map #[] 0)).alloc (rdr g (w.heap.size + 1 + 1) s)) ∧
    ((((w.alloc bx1).alloc bx2).alloc (.map #[] 0)).alloc (rdr g (w.heap.size + 1 + 1) s)).heap[w.heap.size]? = some bx1 ∧ ((((w.alloc bx1).alloc bx2).alloc (.map #[] 0)).alloc (rdr g (w.heap.size + 1 + 1) s)).heap[w.heap.size + 1]? = some bx2 := by
  have K : Keep [] w ((((w.alloc bx1).alloc bx2).alloc (.map #[] 0)).alloc (rdr g (w.heap.size + 1 + 1) s)) := ((((Keep.refl _ _).alloc _).alloc _).alloc _).alloc _
  have e1 : (w.alloc bx1).heap.size = w.heap.size + 1 := by simp
  have e2 : ((w.alloc bx1).alloc bx2).heap.size = w.heap.size + 1 + 1 := by simp
  have e3 : (((w.alloc bx1).alloc bx2).alloc (.map #[] 0)).heap.size = w.heap.size + 1 + 1 + 1 := by simp
  have b2 := blk_alloc (blk_alloc (blk_new (w.alloc bx1) bx2) (.map #[] 0)) (rdr g (w.heap.size + 1 + 1) s)
  rw [e1] at b2
  have b4 := blk_new (((w.alloc bx1).alloc bx2).alloc (.map #[] 0)) (rdr g (w.heap.size + 1 + 1) s)
  rw [e3] at b4
  have mp := (MapF.made ((w.alloc bx1).alloc bx2) Try.prog 3 3 ik InI).keep ((Keep.refl [] _).alloc (rdr g (w.heap.size + 1 + 1) s)) (by simp)
  rw [e2] at mp
  refine ⟨⟨b4, World.ownsRow_nil _ _ _ _, World.ownsRow_nil _ _ _ _, mp.ext (fun r _ => rfl), hm.keep K (by simp), by simp, by simp, by simp; omega, by simpa using S0, Nat.zero_le _⟩, K, blk_alloc (blk_alloc (blk_alloc (blk_new w bx1) _) _) _, b2⟩

set_option maxHeartbeats 8000000 in
set_option maxRecDepth 100000 in
theorem get_any (g : Nat) (s : ByteArray) (S C : Int) (w : World) (hm : IsM w g (MS.new S C)) (S0 : 0 ≤ S) (S1 : S ≤ 9223372036854775807) (C0 : 0 ≤ C) (C1 : C ≤ 9223372036854775807) (hs : s.size ≤ 140737488355328) :
    Calls Try.prog 29 #[.pointer (some ⟨g, 0, none⟩), .string s] w fun e w' => GetPost g (getX (LB s) S C) w e w' := by
  have hg := blk_lt hm
  have hmm := @run_makeMap Try.prog
  obtain ⟨F, hF⟩ : ∃ F, readX (LB s) S = F := ⟨_, rfl⟩
  have HG : Hid (getX (LB s) S C = getF S C F) := hid (by rw [← hF]; rfl)
  have hW := gstart w s S C g hm hg S0 hs
  obtain ⟨R0, K0, X1, X2⟩ := hW
  have hX : RX.ok ⟨w.heap.size + 1 + 1 + 1, g, w.heap.size + 1 + 1, s, S, C⟩ := ⟨by show w.heap.size + 1 + 1 + 1 ≠ g; omega, S0, S1, C0, C1, hs⟩
  have HR := read_all ⟨w.heap.size + 1 + 1 + 1, g, w.heap.size + 1 + 1, s, S, C⟩ hX (w.heap.size + 1 + 1) _ R0
  unfold bx1 bx2 rdr at *
  simp only at HR
  rw [hF] at HR
  rw [HG.out]
  clear HG
  go_enter Try.func29, Try.ntmps29
  go_wp2_with fail
  generalize ((((w.alloc (.cells #[.int .i64 0, .slice none 0 0, .slice none 0 0] 25)).alloc (.cells #[.int .i64 0, .int .i64 0] 60)).alloc (.map #[] 0)).alloc (.cells #[.pointer (some ⟨g, 0, none⟩), .string s, .int .i64 0, .int .i64 0, .int .i64 0, .map (some (w.heap.size + 1 + 1)), .int .i64 0, .slice none 0 0, .slice none 0 0] 103)) = W0 at *
  refine HR.mono ?_
  clear HR
  rintro e w1 ⟨F1, HP⟩
  have hgb : g ≠ w.heap.size := by omega
  have hgb1 : g ≠ w.heap.size + 1 := by omega
  have Y1 := (F1.block w.heap.size (by omega) (Ne.symm hgb)).trans X1
  have Y2 := (F1.block (w.heap.size + 1) (by omega) (Ne.symm hgb1)).trans X2
  have K1 : Keep [g] w w1 := ⟨F1.os.trans K0.os, F1.tape.trans K0.tape, F1.output.trans K0.output, Nat.le_trans K0.size F1.size, fun k hk hn => (F1.block k (by omega) (by simpa using hn)).trans (K0.block k hk (by simp))⟩
  clear X1 X2 K0 R0 F1
  obtain ⟨x0, x1, x2, xf0, xf1, xf2, xs⟩ := cells3 Y1
  obtain ⟨y0, y1, yf0, yf1, ys⟩ := cells2 Y2
  cases F with
  | error e0 =>
    obtain ⟨k', a', q⟩ := e0
    obtain ⟨rfl, ⟨em, G, P, R1⟩, M1, hq, hsz⟩ := HP
    have hRb : w1.heap[w.heap.size + 1 + 1 + 1]? = _ := R1
    simp only at hRb
    obtain ⟨c0, c1, c2, c3, c4, c5, c6, c7, c8⟩ := cells9 hRb
    go_wp2
    go_region
    go_wp2
    obtain ⟨Z1, Z2, KZ⟩ := getEnd (a := .int .i64 0) (b := .slice none 0 0) (c := .slice none 0 0) (k := .int .i64 k') (x := .int .i64 a') Y1 Y2
    have KZ' := KZ.drew
    have Z1' := blk_drew Z1
    have Z2' := blk_drew Z2
    obtain ⟨z0, z1, z2, _, _, _, _⟩ := cells3 Z1'
    obtain ⟨v0, v1, _, _, _⟩ := cells2 Z2'
    refine bodyPost_ret (v := .tuple #[.agg #[.int .i64 0, .slice none 0 0, .slice none 0 0], .agg #[.int .i64 k', .int .i64 a']]) (by simp [results, Try.results29, go_sem, z0, z1, z2, v0, v1]) rfl ?_
    exact ⟨K1.then KZ' (by simp <;> omega), M1.keep KZ' (by simp; exact ⟨hgb, hgb1⟩), ⟨0, none, 0, none, 0, [], []⟩, rfl, World.ownsRow_nil _ _ _ _, World.ownsRow_nil _ _ _ _, rfl⟩
  | ok v0 =>
    obtain ⟨x, q⟩ := v0
    obtain ⟨em, gs, ps⟩ := x
    obtain ⟨rfl, A, c, B, d, R1⟩ := HP
    simp only at R1
    obtain ⟨hgl, hpl⟩ := readX_len hF
    simp only at hgl hpl
    have hRb : w1.heap[w.heap.size + 1 + 1 + 1]? = _ := R1.rd
    simp only at hRb
    obtain ⟨c0, c1, c2, c3, c4, c5, c6, c7, c8⟩ := cells9 hRb
    have M1 : IsM w1 g (mHeld S C q ((0 : Nat) : Int)) := R1.meter
    have hq := R1.ps_
    simp only at hq
    have hlens : IntKind.i64.wrap ((gs.length : Int) + (ps.length : Int)) = ((gs.length + ps.length : Nat) : Int) := by rw [show (gs.length : Int) + (ps.length : Int) = ((gs.length + ps.length : Nat) : Int) by omega]; exact IntWalk.i64_in _ (by omega)
    go_wp2
    go_quiet (fail)
    go_wp2
    have KN : Keep [g] w1 (w1.drewN nq) := (Keep.refl _ _).drewN nq
    have MN : IsM (w1.drewN nq) g (mHeld S C q ((0 : Nat) : Int)) := M1
    obtain ⟨N, hN⟩ : ∃ N, gs.length + ps.length = N := ⟨_, rfl⟩
    have hNe : (gs.length : Int) + (ps.length : Int) = (N : Int) := by omega
    have hN2 : N ≤ 5120 := by omega
    rw [hN] at hlens
    have HNe := hid hNe
    have HN' := hid hN
    (try rw [hNe])
    clear hNe hN hlens
    clear c0 c1 c2 c3 c4 c5 c6 c7 c8 x0 x1 x2 xf0 xf1 xf2 xs y0 y1 yf0 yf1 ys M1
    generalize w1.drewN nq = W0 at *
    go_loopw [33] (fun vi wr => ∃ i : Nat, i ≤ N ∧ vi = .int .i64 i ∧ (i : Int) ≤ C ∧ IsM wr g (mHeld S C q (i : Int)) ∧ Keep [g] w1 wr) (fun vi _ => N - (intOf vi).toNat)
    case atStart => exact ⟨0, Nat.zero_le _, rfl, by simpa using C0, MN, KN⟩
    case round =>
      clear MN KN
      obtain ⟨i, hi, rfl, hiC, M, K⟩ := hrel
      have hok : (mHeld S C q (i : Int)).ok := mHeld_ok hq S1 (by omega) hiC C1
      by_cases hlt : i < N
      · have hlt' : (i : Int) < (N : Int) := by omega
        by_cases hc : (i : Int) < C
        · have HH := hold_any g (mHeld S C q (i : Int)) 1 wr M hok
          rw [mHeld_hold (by omega) hc] at HH
          go_wp2_with fail
          refine HH.mono ?_
          clear HH
          rintro e w2 ⟨rfl, M2, K2⟩
          go_wp2
          refine ⟨⟨i + 1, hlt, by go_num, by omega, ?_, K.trans K2⟩, by simp [intOf]; omega⟩
          rw [show ((i + 1 : Nat) : Int) = (i : Int) + 1 by omega]
          exact M2
        · have hic : (i : Int) = C := by omega
          have HH := hold_any g (mHeld S C q (i : Int)) 1 wr M hok
          rw [mHeld_over (by omega) hic] at HH
          go_wp2_with fail
          refine HH.mono ?_
          clear HH
          rintro e w2 ⟨rfl, M2, K2⟩
          have K3 := K.trans K2
          have Y1' := K3.blk Y1 (by simp; exact Ne.symm hgb)
          have Y2' := K3.blk Y2 (by simp; exact Ne.symm hgb1)
          obtain ⟨x0, x1, x2, xf0, xf1, xf2, xs⟩ := cells3 Y1'
          obtain ⟨y0, y1, yf0, yf1, ys⟩ := cells2 Y2'
          go_wp2_with fail
          refine (refused_any g _ w2 M2).mono ?_
          rintro e w3 ⟨rfl, rfl⟩
          go_wp2
          obtain ⟨Z1, Z2, KZ⟩ := getEnd (a := .int .i64 0) (b := .slice none 0 0) (c := .slice none 0 0) (k := .int .i64 21) (x := .int .i64 0) Y1' Y2'
          obtain ⟨z0, z1, z2, _, _, _, _⟩ := cells3 Z1
          obtain ⟨v0, v1, _, _, _⟩ := cells2 Z2
          refine bodyPost_ret (v := .tuple #[.agg #[.int .i64 0, .slice none 0 0, .slice none 0 0], .agg #[.int .i64 21, .int .i64 0]]) (by simp [results, Try.results29, go_sem, z0, z1, z2, v0, v1]) rfl ?_
          have hE : getF S C (.ok ((em, gs, ps), q)) = (none, 21, 0, { mHeld S C q C with rf := 21 }) := by
            unfold getF
            simp only
            rw [HN'.out, if_neg (by omega)]
          rw [hE]
          exact ⟨(K1.trans K3).then KZ (by simp <;> omega), M2.keep KZ (by simp; exact ⟨hgb, hgb1⟩), ⟨0, none, 0, none, 0, [], []⟩, rfl, World.ownsRow_nil _ _ _ _, World.ownsRow_nil _ _ _ _, rfl⟩
      · obtain rfl : i = N := by omega
        have Y1' := K.blk Y1 (by simp; exact Ne.symm hgb)
        have Y2' := K.blk Y2 (by simp; exact Ne.symm hgb1)
        have hRb' := K.blk hRb (by simp; omega)
        obtain ⟨x0, x1, x2, xf0, xf1, xf2, xs⟩ := cells3 Y1'
        obtain ⟨y0, y1, yf0, yf1, ys⟩ := cells2 Y2'
        obtain ⟨c0, c1, c2, c3, c4, c5, c6, c7, c8⟩ := cells9 hRb'
        go_wp2
        obtain ⟨Z1, Z2, KZ⟩ := getEnd (a := .int .i64 em) (b := .slice A gs.length c) (c := .slice B ps.length d) (k := .int .i64 0) (x := .int .i64 0) Y1' Y2'
        obtain ⟨z0, z1, z2, _, _, _, _⟩ := cells3 Z1
        obtain ⟨v0, v1, _, _, _⟩ := cells2 Z2
        refine bodyPost_ret (v := .tuple #[.agg #[.int .i64 em, .slice A gs.length c, .slice B ps.length d], .agg #[.int .i64 0, .int .i64 0]]) (by simp [results, Try.results29, go_sem, z0, z1, z2, v0, v1]) rfl ?_
        have hE : getF S C (.ok ((em, gs, ps), q)) = (some (em, gs, ps), 0, 0, mHeld S C q (i : Int)) := by
          unfold getF
          simp only
          rw [HN'.out, if_pos hiC]
        rw [hE]
        have hG := own_keep R1.gown K (fun b hb => by simp at hb; subst hb; exact own_ne R1.gown R1.meter (by decide))
        have hP := own_keep R1.pown K (fun b hb => by simp at hb; subst hb; exact own_ne R1.pown R1.meter (by decide))
        have hG2 := own_keep hG KZ (fun b hb => by simp at hb; rcases hb with rfl | rfl; exact own_ne hG Y1' (by decide); exact own_ne hG Y2' (by decide))
        have hP2 := own_keep hP KZ (fun b hb => by simp at hb; rcases hb with rfl | rfl; exact own_ne hP Y1' (by decide); exact own_ne hP Y2' (by decide))
        exact ⟨(K1.trans K).then KZ (by simp <;> omega), M.keep KZ (by simp; exact ⟨hgb, hgb1⟩), ⟨em, A, c, B, d, gs, ps⟩, rfl, own_base_le hG2 (by omega), own_base_le hP2 (by omega), rfl⟩
end Go.Proofs.Ythcfgechifogeaa
