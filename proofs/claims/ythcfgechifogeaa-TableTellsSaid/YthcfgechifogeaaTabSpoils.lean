/- The law's spoils: whoever has a font's lists marks them, lets them grow; they read so. -/
import Derived.Test.YthcfgechifogeaaTabStill
namespace Go.Proofs.Ythcfgechifogeaa
open Go.RowKit Go.Maps
set_option linter.unusedSimpArgs false
set_option linter.unusedVariables false

def gm (i : Nat) : GlyphX := ⟨-(i : Int), 0, 0, 0⟩
def pm (i : Nat) : PairX := ⟨-(i : Int), 0, false, 0, 0⟩
def gms (n : Nat) : List GlyphX := (List.range n).map gm
def pms (n : Nat) : List PairX := (List.range n).map pm
theorem gms_len (n : Nat) : (gms n).length = n := by simp [gms]
theorem pms_len (n : Nat) : (pms n).length = n := by simp [pms]
theorem gms_at {n i : Nat} (h : i < n) : (gms n)[i]? = some (gm i) := by simp [gms, h]
theorem pms_at {n i : Nat} (h : i < n) : (pms n)[i]? = some (pm i) := by simp [pms, h]
theorem gms_put {gs : List GlyphX} {i : Nat} (h : i < gs.length) : (((((gms i ++ gs.drop i).flatMap GlyphX.row).set (i * 4) (.int .i64 (-(i : Int)))).set (i * 4 + 1) (.int .i64 0)).set (i * 4 + 2) (.int .i64 0)).set (i * 4 + 3) (.int .i64 0) = (gms (i + 1) ++ gs.drop (i + 1)).flatMap GlyphX.row := by
  rw [List.drop_eq_getElem_cons h]
  have e := set_row4 (gms i) (gs.drop (i + 1)) gs[i] (gm i)
  rw [gms_len] at e
  refine e.trans ?_
  simp [gms, List.range_succ]
theorem pms_put {gs : List PairX} {i : Nat} (h : i < gs.length) : ((((((pms i ++ gs.drop i).flatMap PairX.row).set (i * 5) (.int .i64 (-(i : Int)))).set (i * 5 + 1) (.int .i64 0)).set (i * 5 + 2) (.bool false)).set (i * 5 + 3) (.int .i64 0)).set (i * 5 + 4) (.int .i64 0) = (pms (i + 1) ++ gs.drop (i + 1)).flatMap PairX.row := by
  rw [List.drop_eq_getElem_cons h]
  have e := set_row5 (pms i) (gs.drop (i + 1)) gs[i] (pm i)
  rw [pms_len] at e
  refine e.trans ?_
  simp [pms, List.range_succ]
theorem below4 {B n a b c d : Nat} {u w : World} (k : Below B u w) (h : B ≤ n) (x y z t : Value) : Below B u ((((w.setCell ⟨n, a, none⟩ x).setCell ⟨n, b, none⟩ y).setCell ⟨n, c, none⟩ z).setCell ⟨n, d, none⟩ t) :=
  (((k.setCell (p := ⟨n, a, none⟩) h _).setCell (p := ⟨n, b, none⟩) h _).setCell (p := ⟨n, c, none⟩) h _).setCell (p := ⟨n, d, none⟩) h _
theorem below5 {B n a b c d e : Nat} {u w : World} (k : Below B u w) (h : B ≤ n) (x y z t r : Value) : Below B u (((((w.setCell ⟨n, a, none⟩ x).setCell ⟨n, b, none⟩ y).setCell ⟨n, c, none⟩ z).setCell ⟨n, d, none⟩ t).setCell ⟨n, e, none⟩ r) :=
  (below4 k h x y z t).setCell (p := ⟨n, e, none⟩) h _
/-- What holds while the lists are marked. -/
structure SpI (F base : Nat) (em : Int) (A B : Option Addr) (n m c d : Nat) (xs : List GlyphX) (ys : List PairX) (w0 w : World) : Prop where
  blk : w.heap[F]? = some (.cells #[.int .i64 em, .slice A n c, .slice B m d] 25 (0, 0))
  go : w.ownsRow base 45 4 (.slice A n c) n (xs.flatMap GlyphX.row)
  po : w.ownsRow base 52 5 (.slice B m d) m (ys.flatMap PairX.row)
  bl : Below base w0 w
  sz : base ≤ w.heap.size
  fb : ∀ (k : Nat) (cs : Array Value) (fr : Nat × Nat), w0.heap[k]? = some (.cells cs 25 fr) → w.heap[k]? = some (.cells cs 25 fr)

theorem SpI.growG {F base : Nat} {em : Int} {A B : Option Addr} {n m c d : Nat} {xs : List GlyphX} {ys : List PairX} {w0 W w1 : World} (I : SpI F base em A B n m c d xs ys w0 W) {vl : Value} {q : Nat} {zs : List Value} {o : Obj} (hq : n ≤ q)
    (OL : W.ownsRow base 45 4 vl q zs) (OL1 : w1.ownsRow base 45 4 vl q zs) (G : (W.alloc o).grownBy w1 vl.ownBlock) : SpI F base em A B n m c d xs ys w0 w1 :=
  have hs : base ≤ (W.alloc o).heap.size := by have := I.sz; simp; omega
  ⟨blk_grown (blk_alloc I.blk o) G (own_ne OL I.blk (by decide)), own_pre_keep OL OL1 G I.go hq (by decide), own_other (I.po.alloc o) G (fun b hb => by
    obtain ⟨_, _, cs, hcs⟩ := own_base I.po b hb
    exact own_ne OL hcs (by decide)), (I.bl.alloc I.sz o).grown G hs (fun k e => (own_base OL k e).1), Nat.le_trans hs G.size, fun k cs fr h => blk_grown (blk_alloc (I.fb k cs fr h) o) G (own_ne OL (I.fb k cs fr h) (by decide))⟩
theorem SpI.growP {F base : Nat} {em : Int} {A B : Option Addr} {n m c d : Nat} {xs : List GlyphX} {ys : List PairX} {w0 W w1 : World} (I : SpI F base em A B n m c d xs ys w0 W) {vl : Value} {q : Nat} {zs : List Value} {o : Obj} (hq : m ≤ q)
    (OL : W.ownsRow base 52 5 vl q zs) (OL1 : w1.ownsRow base 52 5 vl q zs) (G : (W.alloc o).grownBy w1 vl.ownBlock) : SpI F base em A B n m c d xs ys w0 w1 :=
  have hs : base ≤ (W.alloc o).heap.size := by have := I.sz; simp; omega
  ⟨blk_grown (blk_alloc I.blk o) G (own_ne OL I.blk (by decide)), own_other (I.go.alloc o) G (fun b hb => by
    obtain ⟨_, _, cs, hcs⟩ := own_base I.go b hb
    exact own_ne OL hcs (by decide)), own_pre_keep OL OL1 G I.po hq (by decide), (I.bl.alloc I.sz o).grown G hs (fun k e => (own_base OL k e).1), Nat.le_trans hs G.size, fun k cs fr h => blk_grown (blk_alloc (I.fb k cs fr h) o) G (own_ne OL (I.fb k cs fr h) (by decide))⟩
theorem own_across {W w1 : World} {base : Nat} {e e' : TypeId} {sz sz' q q' : Nat} {vl v : Value} {zs xs : List Value} {o : Obj} (OL : W.ownsRow base e sz vl q zs) (G : (W.alloc o).grownBy w1 vl.ownBlock) (h : W.ownsRow base e' sz' v q' xs) (hne : e ≠ e') : w1.ownsRow base e' sz' v q' xs :=
  own_other (h.alloc o) G (fun b hb => by
    obtain ⟨_, _, cs, hcs⟩ := own_base h b hb
    exact own_ne OL hcs hne)
theorem SpI.keep {F base : Nat} {em : Int} {A B : Option Addr} {n m c d : Nat} {xs : List GlyphX} {ys : List PairX} {w0 W w1 : World} (I : SpI F base em A B n m c d xs ys w0 W) (k : Keep [] W w1) : SpI F base em A B n m c d xs ys w0 w1 :=
  ⟨k.blk I.blk (by simp), own_keep I.go k (by simp), own_keep I.po k (by simp), I.bl.trans (k.below I.sz (by simp)), Nat.le_trans I.sz k.size, fun j cs fr h => k.blk (I.fb j cs fr h) (by simp)⟩

set_option maxHeartbeats 2000000 in
set_option maxRecDepth 100000 in
theorem spoils_any (em : Int) (A B : Option Addr) (c d base : Nat) (gs : List GlyphX) (ps : List PairX) (w : World) (h1 : w.ownsRow base 45 4 (.slice A gs.length c) gs.length (gs.flatMap GlyphX.row)) (h2 : w.ownsRow base 52 5 (.slice B ps.length d) ps.length (ps.flatMap PairX.row))
    (hg : gs.length ≤ 1024) (hp : ps.length ≤ 4096) (hb : base ≤ w.heap.size) : Calls Try.prog 47 #[.agg #[.int .i64 em, .slice A gs.length c, .slice B ps.length d]] w fun e w' => e = .returned (.bool true) ∧ Below base w w' ∧ ∀ (k : Nat) (cs : Array Value) (fr : Nat × Nat), w.heap[k]? = some (.cells cs 25 fr) → w'.heap[k]? = some (.cells cs 25 fr) := by
  have I0 : SpI w.heap.size base em A B gs.length ps.length c d (gms 0 ++ gs.drop 0) (pms 0 ++ ps.drop 0) w (w.alloc (.cells #[.int .i64 em, .slice A gs.length c, .slice B ps.length d] 25)) := ⟨blk_new w _, h1.alloc _, h2.alloc _, (Below.refl _ _).alloc hb _, by simp; omega, fun k cs fr h => blk_alloc h _⟩
  clear h1 h2
  go_enter Try.func47, Try.ntmps47
  go_upto_region 1 with (fail)
  generalize w.alloc (.cells #[.int .i64 em, .slice A gs.length c, .slice B ps.length d] 25) = W0 at *
  generalize w.heap.size = F at *
  obtain ⟨f0, f1, f2, _, _, _, fs⟩ := cells3 I0.blk
  go_wp2_with fail
  clear f0 f1 f2 fs
  go_loopw [3] (fun vi wr => ∃ i : Nat, i ≤ gs.length ∧ vi = .int .i64 i ∧ SpI F base em A B gs.length ps.length c d (gms i ++ gs.drop i) (pms 0 ++ ps.drop 0) w wr) (fun vi _ => gs.length - (intOf vi).toNat)
  case atStart => exact ⟨0, Nat.zero_le _, rfl, I0⟩
  case round =>
    clear I0
    obtain ⟨i, hi, rfl, I⟩ := hrel
    obtain ⟨f0, f1, f2, _, _, _, fs⟩ := cells3 I.blk
    by_cases hlt : i < gs.length
    · obtain ⟨g, cap, e, hcap, hbg, hcm⟩ := own_formN I.go (by omega)
      simp only [Value.slice.injEq, true_and] at e
      obtain ⟨rfl, rfl⟩ := e
      obtain ⟨⟨u0, e0⟩, p0⟩ := own_cell (j := i * 4) I.go (by omega)
      obtain ⟨⟨u1, e1⟩, p1⟩ := own_cell (j := i * 4 + 1) I.go (by omega)
      obtain ⟨⟨u2, e2⟩, p2⟩ := own_cell (j := i * 4 + 2) I.go (by omega)
      obtain ⟨⟨u3, e3⟩, p3⟩ := own_cell (j := i * 4 + 3) I.go (by omega)
      have OY := own_put4 (i := i) I.go (.int .i64 (-(i : Int))) (.int .i64 0) (.int .i64 0) (.int .i64 0)
      rw [gms_put hlt] at OY
      have KS := keep4' (n := g) (Keep.refl [g] wr) (by simp) (.int .i64 (-(i : Int))) (.int .i64 0) (.int .i64 0) (.int .i64 0) (a := i * 4) (b := i * 4 + 1) (c := i * 4 + 2) (d := i * 4 + 3)
      have hFg : F ∉ [g] := fun hm => by simp at hm; exact own_ne I.go I.blk (by decide) (by simp [Value.ownBlock, hm])
      have IY := hid (SpI.mk (KS.blk I.blk hFg) OY (own_keep I.po KS (fun b hb e => by
        simp at hb
        subst hb
        obtain ⟨_, _, cs, hcs⟩ := own_base I.po b e.symm
        exact own_ne I.go hcs (by decide) (by simp [Value.ownBlock]))) (below4 I.bl hbg _ _ _ _) (by simpa using I.sz) (fun k cs fr h => KS.blk (I.fb k cs fr h) (fun hm => by simp at hm; exact own_ne I.go (I.fb k cs fr h) (by decide) (by simp [Value.ownBlock, hm]))))
      have hi2 : (i : Int) < (gs.length : Int) := by omega
      have hi3 : (0 : Int) ≤ (i : Int) := by omega
      clear OY KS hFg I hbg
      go_wp2
      go_roundw
      case rel => exact ⟨i + 1, hlt, by go_num, IY.out⟩
      case measure => simp [intOf]; omega
    · obtain rfl : i = gs.length := by omega
      have hdr : gms gs.length ++ gs.drop gs.length = gms gs.length := by simp
      rw [hdr] at I
      clear hdr hlt hi
      go_wp2_with fail
      clear f0 f1 f2 fs
      go_loopw [4] (fun vi wr => ∃ i : Nat, i ≤ ps.length ∧ vi = .int .i64 i ∧ SpI F base em A B gs.length ps.length c d (gms gs.length) (pms i ++ ps.drop i) w wr) (fun vi _ => ps.length - (intOf vi).toNat)
      case atStart => exact ⟨0, Nat.zero_le _, rfl, I⟩
      case round =>
        clear I
        obtain ⟨i, hi, rfl, I⟩ := hrel
        obtain ⟨f0, f1, f2, _, _, _, fs⟩ := cells3 I.blk
        by_cases hlt : i < ps.length
        · obtain ⟨g, cap, e, hcap, hbg, hcm⟩ := own_formN I.po (by omega)
          simp only [Value.slice.injEq, true_and] at e
          obtain ⟨rfl, rfl⟩ := e
          obtain ⟨⟨u0, e0⟩, p0⟩ := own_cell (j := i * 5) I.po (by omega)
          obtain ⟨⟨u1, e1⟩, p1⟩ := own_cell (j := i * 5 + 1) I.po (by omega)
          obtain ⟨⟨u2, e2⟩, p2⟩ := own_cell (j := i * 5 + 2) I.po (by omega)
          obtain ⟨⟨u3, e3⟩, p3⟩ := own_cell (j := i * 5 + 3) I.po (by omega)
          obtain ⟨⟨u4, e4⟩, p4⟩ := own_cell (j := i * 5 + 4) I.po (by omega)
          have OY := own_put5 (i := i) I.po (.int .i64 (-(i : Int))) (.int .i64 0) (.bool false) (.int .i64 0) (.int .i64 0)
          rw [pms_put hlt] at OY
          have KS := keep5' (n := g) (Keep.refl [g] wr) (by simp) (.int .i64 (-(i : Int))) (.int .i64 0) (.bool false) (.int .i64 0) (.int .i64 0) (a := i * 5) (b := i * 5 + 1) (c := i * 5 + 2) (d := i * 5 + 3) (e := i * 5 + 4)
          have hFg : F ∉ [g] := fun hm => by simp at hm; exact own_ne I.po I.blk (by decide) (by simp [Value.ownBlock, hm])
          have IY := hid (SpI.mk (KS.blk I.blk hFg) (own_keep I.go KS (fun b hb e => by
            simp at hb
            subst hb
            obtain ⟨_, _, cs, hcs⟩ := own_base I.go b e.symm
            exact own_ne I.po hcs (by decide) (by simp [Value.ownBlock]))) OY (below5 I.bl hbg _ _ _ _ _) (by simpa using I.sz) (fun k cs fr h => KS.blk (I.fb k cs fr h) (fun hm => by simp at hm; exact own_ne I.po (I.fb k cs fr h) (by decide) (by simp [Value.ownBlock, hm]))))
          have hi2 : (i : Int) < (ps.length : Int) := by omega
          have hi3 : (0 : Int) ≤ (i : Int) := by omega
          clear OY KS hFg I hbg
          go_wp2
          go_roundw
          case rel => exact ⟨i + 1, hlt, by go_num, IY.out⟩
          case measure => simp [intOf]; omega
        · obtain rfl : i = ps.length := by omega
          have hdr : pms ps.length ++ ps.drop ps.length = pms ps.length := by simp
          rw [hdr] at I
          clear hdr hlt hi
          go_wp2_with fail
          clear f0 f1 f2 fs
          go_loopw [7, 5, 6] (fun vi vg vp wr => ∃ (k : Nat) (xs ys : List Value), k ≤ 9 ∧ vi = .int .i64 k ∧ SpI F base em A B gs.length ps.length c d (gms gs.length) (pms ps.length) w wr ∧ wr.ownsRow base 45 4 vg (gs.length + k) xs ∧ wr.ownsRow base 52 5 vp (ps.length + k) ys) (fun vi _ _ _ => 9 - (intOf vi).toNat)
          case atStart => exact ⟨0, _, _, Nat.zero_le _, rfl, I, I.go, I.po⟩
          case round =>
            clear I
            obtain ⟨k, xs, ys, hk, rfl, I, OG, OP⟩ := hrel
            by_cases hlk : k < 9
            · have hk2 : (k : Int) < 9 := by omega
              have hk3 : (0 : Int) ≤ (k : Int) := by omega
              go_upto_region 15 with (at_builtin; (refine append_cells_keep rfl _ _ 22 (.agg #[.int .i64 0, .int .i64 0, .int .i64 0, .int .i64 0]) 4 32 rfl (by kernel_rfl) (by kernel_rfl) (by kernel_rfl) (by decide) (by decide) base u5 (gs.length + k) _ rfl rfl (by simp) rfl (by simp [Value.oneCell']) OG I.sz (by omega) ?_; rintro v7 w7 O7 G7 _ OL7))
              have I7 := I.growG (by omega) OG OL7 G7
              have OP7 := own_across OG G7 OP (by decide)
              clear I OG OP OL7 G7
              go_wp2_with (at_builtin; (refine append_cells_keep rfl _ _ 23 (.agg #[.int .i64 0, .int .i64 0, .bool false, .int .i64 0, .int .i64 0]) 5 40 rfl (by kernel_rfl) (by kernel_rfl) (by kernel_rfl) (by decide) (by decide) base u6 (ps.length + k) _ rfl rfl (by simp) rfl (by simp [Value.oneCell']) OP7 I7.sz (by omega) ?_; rintro v8 w8 O8 G8 _ OL8))
              have I8 := I7.growP (by omega) OP7 OL8 G8
              have OG8 := own_across OP7 G8 O7 (by decide)
              clear I7 OP7 O7 OL8 G8
              go_wp2
              go_roundw
              case rel => exact ⟨k + 1, _, _, hlk, by go_num, I8, OG8, O8⟩
              case measure => simp [intOf]; omega
            · obtain rfl : k = 9 := by omega
              clear OG OP hk hlk
              obtain ⟨f0, f1, f2, _, _, _, fs⟩ := cells3 I.blk
              go_wp2_with fail
              clear f0 f1 f2 fs
              go_loopw [8] (fun vi wr => ∃ i : Nat, i ≤ gs.length ∧ vi = .int .i64 i ∧ SpI F base em A B gs.length ps.length c d (gms gs.length) (pms ps.length) w wr) (fun vi _ => gs.length - (intOf vi).toNat)
              case atStart => exact ⟨0, Nat.zero_le _, rfl, I⟩
              case round =>
                clear I
                obtain ⟨i, hi, rfl, I⟩ := hrel
                obtain ⟨f0, f1, f2, _, _, _, fs⟩ := cells3 I.blk
                by_cases hlt : i < gs.length
                · obtain ⟨g, hA, _, _, hcs⟩ := own_at row4 (xs := gms gs.length) (n := gs.length) (by simpa [gms_len] using I.go) (gms_at hlt)
                  subst hA
                  have e0 := hcs 0 _ rfl
                  have e1 := hcs 1 _ rfl
                  have e2 := hcs 2 _ rfl
                  have e3 := hcs 3 _ rfl
                  rw [Nat.add_zero] at e0
                  simp only [gm] at e0 e1 e2 e3
                  have hi2 : (i : Int) < (gs.length : Int) := by omega
                  have hi3 : (0 : Int) ≤ (i : Int) := by omega
                  clear hcs
                  go_wp2
                  go_roundw
                  case rel => exact ⟨i + 1, hlt, by go_num, I⟩
                  case measure => simp [intOf]; omega
                · obtain rfl : i = gs.length := by omega
                  clear hlt hi
                  go_wp2_with fail
                  clear f0 f1 f2 fs
                  go_loopw [9] (fun vi wr => ∃ i : Nat, i ≤ ps.length ∧ vi = .int .i64 i ∧ SpI F base em A B gs.length ps.length c d (gms gs.length) (pms ps.length) w wr) (fun vi _ => ps.length - (intOf vi).toNat)
                  case atStart => exact ⟨0, Nat.zero_le _, rfl, I⟩
                  case round =>
                    clear I
                    obtain ⟨i, hi, rfl, I⟩ := hrel
                    obtain ⟨f0, f1, f2, _, _, _, fs⟩ := cells3 I.blk
                    by_cases hlt : i < ps.length
                    · obtain ⟨g, hA, _, _, hcs⟩ := own_at row5 (xs := pms ps.length) (n := ps.length) (by simpa [pms_len] using I.po) (pms_at hlt)
                      subst hA
                      have e0 := hcs 0 _ rfl
                      have e1 := hcs 1 _ rfl
                      have e2 := hcs 2 _ rfl
                      have e3 := hcs 3 _ rfl
                      have e4 := hcs 4 _ rfl
                      rw [Nat.add_zero] at e0
                      simp only [pm] at e0 e1 e2 e3 e4
                      have hi2 : (i : Int) < (ps.length : Int) := by omega
                      have hi3 : (0 : Int) ≤ (i : Int) := by omega
                      clear hcs
                      go_wp2
                      go_roundw
                      case rel => exact ⟨i + 1, hlt, by go_num, I⟩
                      case measure => simp [intOf]; omega
                    · obtain rfl : i = ps.length := by omega
                      go_wp2
                      go_ret
                      exact ⟨rfl, I.bl, I.fb⟩

end Go.Proofs.Ythcfgechifogeaa
