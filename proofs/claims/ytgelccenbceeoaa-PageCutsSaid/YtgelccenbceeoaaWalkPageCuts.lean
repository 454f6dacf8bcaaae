/- PageCuts' walk. -/
import Derived.Test.YtgelccenbceeoaaWalkPageGood
import Derived.Test.YtgelccenbceeoaaCutsAny
namespace Go.Proofs.Ytgelccenbceeoaa
open Go.RowKit
set_option linter.unusedSimpArgs false
set_option linter.unusedVariables false

theorem slab_one (y : Slab) : ∀ u ∈ Slab.row y, u.oneCell' = true := fun u hu => by simp [Slab.row] at hu; rcases hu with rfl | rfl | rfl | rfl | rfl | rfl | rfl | rfl | rfl <;> rfl

/-- The copy's block: the list, and a slab behind it. -/
theorem own_block {w : World} {g : Nat} {cur : List Value} {l : List Slab} {T : TypeId} (h : w.heap[g]? = some (.cells (l.flatMap Slab.row ++ cur).toArray T (0, 0))) : Rd Slab.row 9 w (some ⟨g, 0, none⟩) l :=
  Rd.of_block h (fun i x j v hx hv => by
    have := flat_get (enc := Slab.row) (sz := 9) (fun _ => rfl) l i j x v hx hv
    have hlt := (List.getElem?_eq_some_iff.1 this).1
    simp only [List.getElem?_toArray]
    rw [List.getElem?_append_left hlt]
    exact this)

/-- The copy: the list, and the number -77 behind it. -/
structure OwnC (w : World) (g : Nat) (l : List Slab) : Prop where
  rd : Rd Slab.row 9 w (some ⟨g, 0, none⟩) l
  m77 : w.cell? ⟨g, l.length * 9, none⟩ = some (.int .i64 (-77))
theorem OwnC.keep {w w' : World} {g : Nat} {l : List Slab} {S : List Nat} (h : OwnC w g l) (k : Keep S w w') (hs : g ∉ S) : OwnC w' g l :=
  ⟨h.rd.keep k (fun ad e => by obtain rfl := Option.some.inj e; exact hs), k.cell' h.m77 hs⟩

theorem own_set {w : World} {g : Nat} {cur : List Value} {l : List Slab} {T : TypeId} (h : w.heap[g]? = some (.cells (l.flatMap Slab.row ++ cur).toArray T (0, 0))) (hc : 0 < cur.length) : OwnC (w.setCell ⟨g, l.length * 9, none⟩ (.int .i64 (-77))) g l := by
  have hset := blk_set h (l.length * 9) (.int .i64 (-77))
  have hfl := flat_len (enc := Slab.row) (sz := 9) (fun _ => rfl) l
  constructor
  · refine own_block (T := T) (cur := cur.set 0 (.int .i64 (-77))) (hset.trans ?_)
    congr 2
    apply Array.ext'
    simp only [List.setIfInBounds_toArray]
    rw [List.set_append_right _ _ (by rw [hfl]; omega), hfl, Nat.sub_self]
  · rw [blk_cell hset]
    simp only [List.setIfInBounds_toArray, List.getElem?_toArray]
    rw [List.getElem?_set_self (by rw [List.length_append, hfl]; omega)]

theorem made_block {w : World} {base n g : Nat} {xs : List Value} (h : w.ownsRow base 51 9 (.slice (some ⟨g, 0, none⟩) n n) n xs) : ∃ cur, w.heap[g]? = some (.cells cur 51 (0, 0)) ∧ cur.size = n * 9 := by
  rcases h.2 with ⟨h', _⟩ | ⟨g', cap, cur, h', _, hh, _, _, hs, _⟩
  · simp at h'
  · simp only [Value.slice.injEq, Option.some.injEq, Addr.mk.injEq, and_true, true_and] at h'
    obtain ⟨rfl, rfl⟩ := h'
    exact ⟨cur, hh, hs⟩

theorem cell_behind {w : World} {g : Nat} {cur : List Value} {l : List Slab} {T : TypeId} (h : w.heap[g]? = some (.cells (l.flatMap Slab.row ++ cur).toArray T (0, 0))) (hc : 0 < cur.length) : ∃ z, w.cell? ⟨g, l.length * 9, none⟩ = some z := by
  have hfl := flat_len (enc := Slab.row) (sz := 9) (fun _ => rfl) l
  rw [blk_cell h]
  simp only [List.getElem?_toArray]
  exact ⟨_, List.getElem?_eq_getElem (by rw [List.length_append, hfl]; omega)⟩

theorem cutsGo_len {l : List Slab} {h : Int} : ∀ (f : Nat) (m : MS) (a : Nat), (cutsGo l h f m a).2.1.length ≤ l.length - a
  | 0, m, a => by simp [cutsGo]
  | f + 1, m, a => by
    by_cases ha : a < l.length
    · obtain ⟨n, h1, h2, h3, h4⟩ := cutOf_range (h := h) ha
      rw [cutsGo, if_pos ha]
      split
      · split
        · have := cutsGo_len (l := l) (h := h) f ((stepN m (cutOf l h a).span).2.hold 1).2 (cutOf l h a).last.toNat
          rw [h2] at this
          simp only [List.length_cons, h2]
          simp only [Int.toNat_natCast] at this ⊢
          omega
        · simp
      · simp
    · rw [cutsGo_done ha]; simp
theorem outc_len (l : List Slab) (h : Int) (m : MS) : (outc l h m).1.length ≤ l.length := by
  unfold outc
  split
  · simp
  · have := cutsGo_len (l := l) (h := h) l.length m 0
    simp only
    split
    · simpa [cutsAll] using this
    · simp

theorem own_setCell {w : World} {base n cap g j sz : Nat} {e : TypeId} {xs : List Value} (h : w.ownsRow base e sz (.slice (some ⟨g, 0, none⟩) n cap) n xs) (u : Value) : ∃ ys, (w.setCell ⟨g, j, none⟩ u).ownsRow base e sz (.slice (some ⟨g, 0, none⟩) n cap) n ys := by
  rcases h.2 with ⟨h', _⟩ | ⟨g', cap', cur, h', hb, hh, hn, hm, hs, ht⟩
  · simp at h'
  · simp only [Value.slice.injEq, Option.some.injEq, Addr.mk.injEq, and_true, true_and] at h'
    obtain ⟨rfl, rfl⟩ := h'
    refine ⟨(cur.setIfInBounds j u).toList.take (n * sz), ?_, .inr ⟨g, cap, cur.setIfInBounds j u, rfl, hb, blk_set hh j u, hn, hm, by simpa using hs, rfl⟩⟩
    simp only [List.length_take, Array.length_toList, Array.size_setIfInBounds]
    rw [hs]
    have := Nat.mul_le_mul_right sz hn
    omega
theorem own_cell {w : World} {base n cap g j sz : Nat} {e : TypeId} {xs : List Value} (h : w.ownsRow base e sz (.slice (some ⟨g, 0, none⟩) n cap) n xs) (hj : j < n * sz) : (∃ z, w.cell? ⟨g, j, none⟩ = some z) ∧ w.frozen? ⟨g, j, none⟩ = false := by
  rcases h.2 with ⟨h', _⟩ | ⟨g', cap', cur, h', hb, hh, hn, hm, hs, ht⟩
  · simp at h'
  · simp only [Value.slice.injEq, Option.some.injEq, Addr.mk.injEq, and_true, true_and] at h'
    obtain ⟨rfl, rfl⟩ := h'
    have := Nat.mul_le_mul_right sz hn
    exact ⟨⟨cur[j]'(by omega), (blk_cell hh j).trans (Array.getElem?_eq_getElem _)⟩, blk_free hh j⟩
theorem own_form {w : World} {base n sz : Nat} {e : TypeId} {v : Value} {xs : List Value} (h : w.ownsRow base e sz v n xs) (hn : 0 < n) : ∃ g cap, v = .slice (some ⟨g, 0, none⟩) n cap ∧ n ≤ cap := by
  rcases h.2 with ⟨_, h'⟩ | ⟨g', cap', cur, h', hb, hh, hn, _⟩
  · omega
  · exact ⟨g', cap', h', hn⟩

/-- append(v, x1, .., xm), the variadic's box just laid. -/
theorem append_block {P : Program} {ops : Array Oper} {rest : List Oper} {o : Oper} {a : Act} {Q : Exit → Act → World → Prop} {W : World} (hgd : o.guard = none) (s x : Operand) (t : TypeId) {e : TypeId} (z : Value) (size bytes m : Nat)
    (ho : o.op = .call { callee := .builtin .append, args := #[s, x], argTypes := #[t, t] })
    (ht : P.underlying t = some (.slice e)) (hinfo : (P.info? e).map (fun i => (i.zero, i.size, i.bytes)) = some (some z, size, bytes)) (hz : z.cells.size = size) (hs0 : 0 < size) (hb0 : 0 < bytes) (base : Nat)
    (v : Value) (n : Nat) (xs : List Value) {ys : List Value} (hs : a.eval s = v) {N : Nat} (hx : a.eval x = .slice (some ⟨N, 0, none⟩) m m) (hN : N = W.heap.size) (hys : ys.length = m * size) (h1 : ∀ u ∈ ys, u.oneCell' = true)
    (HO : W.ownsRow base e size v n xs) (hbase : base ≤ W.heap.size) (hl : (n + m) * bytes ≤ 140737488355328)
    (h : ∀ v1 w1, w1.ownsRow base e size v1 (n + m) (xs ++ ys) → (W.alloc (.cells ys.toArray e)).grownBy w1 v.ownBlock → wpList P ops Q rest (a.put o.dst v1) w1) :
    wpList P ops Q (o :: rest) a (W.alloc (.cells ys.toArray e)) := by
  subst hN
  obtain ⟨i0, hi, hz0, hz1, hz2⟩ := info_parts hinfo
  have hlen : n + m ≤ 140737488355328 := Nat.le_trans (Nat.le_mul_of_pos_right _ hb0) hl
  refine wpList_append_own_at (W.alloc (.cells ys.toArray e)) hgd s x t ho base e i0 z size bytes ht hi hz0 hz1 hz2 hz hs0 v n xs hs (HO.alloc _) ⟨W.heap.size, 0, none⟩ m m ys hx hys
    (fun j u hj => ?_) h1 (by simp only [maxLen]; omega) hl (by simp; omega) ?_
  · rw [add_zero_at]
    exact (blk_cell (blk_new W _) j).trans (by simpa using hj)
  · intro v1 w1 hown hg _ _
    exact h v1 w1 hown hg

set_option maxHeartbeats 6400000 in
set_option maxRecDepth 100000 in
theorem walkCuts (A : Option Addr) (c : Nat) (l : List Slab) (h s d : Int) (w : World) (hr : Rd Slab.row 9 w A l) (hc : l.length ≤ c) (hcm : c ≤ 9223372036854775807) (hof : OfIn l) (hs : s ≤ 9223372036854775807) (hd : d ≤ 9223372036854775807) :
    Calls Try.prog 14 #[.slice A l.length c, .int .i64 h, .int .i64 s, .int .i64 d] w fun e w' => e = .returned (.bool true) ∧ Below w.heap.size w w' := by
  have hl' : (l.length : Int) ≤ 9223372036854775807 := by omega
  go_enter Try.func14, Try.ntmps14
  go_wp2_with fail
  refine (shown18 _).mono ?_
  rintro e w1 ⟨rfl, K1⟩
  by_cases hsd : s < 0 ∨ d < 0
  · go_wp2_with fail
    refine (new_bad s d _ hsd).mono ?_
    rintro e w2 ⟨rfl, rfl⟩
    go_wp2_with fail
    refine (rnew_bad s d _ hsd).mono ?_
    rintro e w2 ⟨rfl, rfl⟩
    go_wp2
    go_ret
    exact ⟨rfl, K1.below (Nat.le_refl _) (by simp)⟩
  · go_wp2_with fail
    refine (new_good s d _ (by omega) (by omega)).mono ?_
    rintro e w2 ⟨rfl, M2, K2, s2⟩
    have S2 := hid s2
    clear s2
    go_wp2_with fail
    refine (rnew_good s d _ (by omega) (by omega)).mono ?_
    rintro e w3 ⟨rfl, N3, K3, s3⟩
    have S3 := hid s3
    clear s3
    have hge : w1.heap.size < w2.heap.size := by have := S2.out; omega
    have hwg := K1.size
    have M3 : IsM w3 w1.heap.size (MS.new s d) := M2.keep K3 (by simp)
    have K13 := (K1.trans K2).trans K3
    have hlt3 : w2.heap.size < w3.heap.size := by have := S3.out; omega
    generalize w1.heap.size = g at *
    generalize w2.heap.size = q at *
    clear K1 K2 K3 M2
    by_cases h3000 : 3000 < l.length
    · have h3' : (3000 : Int) < (l.length : Int) := by omega
      go_wp2
      go_ret
      exact ⟨rfl, K13.below (Nat.le_refl _) (by simp)⟩
    · have h3' : (l.length : Int) ≤ 3000 := by omega
      have e3 : decide ((3000 : Int) < (l.length : Int)) = false := decide_eq_false (by omega)
      obtain ⟨i0, hi, hz0, hz1, hz2⟩ := info_parts (show (Try.prog.info? 51).map (fun i => (i.zero, i.size, i.bytes)) = some (some (.agg #[.int .i64 0, .int .i64 0, .int .i64 0, .int .i64 0, .int .i64 0, .int .i64 0, .int .i64 0, .int .i64 0, .int .i64 0]), 9, 72) by kernel_rfl)
      go_wp2_with (first | ((with_reducible refine wpList_make_full _ rfl _ _ _ rfl w3.heap.size 51 i0 (.agg #[.int .i64 0, .int .i64 0, .int .i64 0, .int .i64 0, .int .i64 0, .int .i64 0, .int .i64 0, .int .i64 0, .int .i64 0]) 9 (by kernel_rfl) hi hz0 hz1 .i64 .i64 _ _ (l.length + 1) rfl rfl (by simp) (by simp) (by rw [hz2]; omega) (by simp [maxLen]; omega) (Nat.le_refl _) ?_); rintro w4 O4 G4; obtain ⟨cur, B4, hcs⟩ := made_block O4; have K4 : Keep [] w3 w4 := Keep.grown (Keep.refl _ _) G4 (by simp); have r4 := hr.old (K13.trans K4) (by simp)) | ((with_reducible refine copy_list (enc := Slab.row) rfl _ _ 49 51 9 rfl (by kernel_rfl) (by kernel_rfl) rfl rfl rfl (by omega) B4 r4 (fun _ => rfl) (by omega) slab_one (by rw [hcs]; omega) ?_); rintro w5 B5 K5; obtain ⟨z, x5⟩ := cell_behind B5 (by simp; omega); have y5 := blk_free B5 (l.length * 9)))
      have OW := own_set B5 (by simp; omega)
      have KL : Keep [] w4 (w5.setCell ⟨w3.heap.size, l.length * 9, none⟩ (.int .i64 (-77))) ∨ True := .inr trivial
      have K6 : Keep [w3.heap.size] w4 (w5.setCell ⟨w3.heap.size, l.length * 9, none⟩ (.int .i64 (-77))) := K5.set (.inl (by simp)) _
      have M6 := (M3.keep K4 (by simp)).keep K6 (by simp; omega)
      have N6 := (N3.keep K4 (by simp)).keep K6 (by simp; omega)
      have K16 : Keep [] w _ := (K13.trans K4).then K6 (by have := K13.size; simp; omega)
      have hos : w3.heap.size < (w5.setCell ⟨w3.heap.size, l.length * 9, none⟩ (.int .i64 (-77))).heap.size := by have h1 := blk_lt B4; have h2 := K6.size; omega
      have hwo := K13.size
      clear KL K4 K5 K6 M3 N3 K13 B4 B5 x5 y5 r4 O4 G4 hi hz0 hz1 hz2 hcs
      generalize w5.setCell ⟨w3.heap.size, l.length * 9, none⟩ (.int .i64 (-77)) = W6 at *
      generalize w3.heap.size = o at *
      have ok0 : (MS.new s d).ok := MS.ok_new (by omega) hs (by omega) hd
      have hRl := outc_len l h (MS.new s d)
      obtain ⟨R, hR⟩ : ∃ R, outc l h (MS.new s d) = R := ⟨_, rfl⟩
      have HR := hid hR
      rw [hR] at hRl
      clear hR
      refine (cuts_out g (MS.new s d) (some ⟨o, 0, none⟩) (l.length + 1) l h W6 M6 ok0 (fun W K => (OW.keep K (by simp; omega)).rd) (by omega) (by omega) hof _ rfl).mono ?_
      rintro e w7 ⟨va, rfl, Oa, M7, K7⟩
      rw [HR.out] at Oa M7 ⊢
      obtain ⟨A7, c7, rfl, hc7, Ra, hAa⟩ := own_rd (enc := CutX.row) (fun _ => rfl) Oa
      have N7 := N6.keep K7 (by simp; omega)
      have OW7 := OW.keep K7 (by simp; omega)
      have K17 := K16.then K7 (T := [g]) (S := []) (by simp; omega)
      have z7 := K7.size
      have Fa := blk_new w7 (.cells #[.int .i64 R.2.1, .int .i64 0] 59)
      have KF : Keep [] w7 (w7.alloc (.cells #[.int .i64 R.2.1, .int .i64 0] 59)) := (Keep.refl _ _).alloc _
      go_wp2_with fail
      refine (rcuts_out q (MS.new s d) (RS.new s d) A c l h _ (N7.keep KF (by simp)) (Like.new s d) ok0 (fun W K => hr.old ((K17.trans KF).then K (T := [q]) (S := []) (by have := K16.size; simp; omega)) (by simp)) (by omega) hc hof _ rfl).mono ?_
      rintro e w8 ⟨vb, r8, rfl, Ob, N8, L8, K8⟩
      rw [HR.out] at Ob L8 ⊢
      obtain ⟨A8, c8, rfl, hc8, Rb, hAb⟩ := own_rd (enc := CutX.row) (fun _ => rfl) Ob
      have Kd : Keep [q] w7 (w8.alloc (.cells #[.int .i64 R.2.1, .int .i64 0] 59)) := ((KF.mono (T := [q]) (by simp)).trans K8).alloc _
      have hqa : ∀ b, (Value.slice A7 R.1.length c7).ownBlock = some b → W6.heap.size ≤ b ∧ b < w7.heap.size := fun b hb => ⟨(own_base Oa b hb).1, (own_base Oa b hb).2.1⟩
      have OWv := OW7.keep Kd (by simp; omega)
      have Mv := M7.keep Kd (by simp; omega)
      have Nv := N8.keep ((Keep.refl [] w8).alloc (.cells #[.int .i64 R.2.1, .int .i64 0] 59)) (by simp)
      have Rav := Ra.keep Kd (fun ad e hm => by obtain ⟨g', cur', rfl, hb, _⟩ := hAa ad e; simp at hm; omega)
      have Oav := own_keep Oa Kd (fun b hb he => by simp at hb; have := hqa b he.symm; omega)
      have Rbv := Rb.old ((Keep.refl [] w8).alloc (.cells #[.int .i64 R.2.1, .int .i64 0] 59)) (by simp)
      have Fav := blk_alloc (K8.blk Fa (by simp; omega)) (.cells #[.int .i64 R.2.1, .int .i64 0] 59)
      have Fbv := blk_new w8 (.cells #[.int .i64 R.2.1, .int .i64 0] 59)
      have hfa : w7.heap.size < w8.heap.size := by have h1 := K8.size; simp at h1; omega
      have hbl : ∀ ad, A8 = some ad → w7.heap.size < ad.block := fun ad e => by obtain ⟨g', cur', rfl, hb, _⟩ := hAb ad e; simp at hb; simp; omega
      have Kv : Keep [] w (w8.alloc (.cells #[.int .i64 R.2.1, .int .i64 0] 59)) := K17.then Kd (by have := K16.size; simp; omega)
      have hv8 : w8.heap.size < (w8.alloc (.cells #[.int .i64 R.2.1, .int .i64 0] 59)).heap.size := by simp
      clear OW7 M7 N8 Ra Oa Rb Fa K17 K8 KF K16 OW M6 N6 N7 K7
      go_upto_region 15 with (fail)
      generalize w8.alloc (.cells #[.int .i64 R.2.1, .int .i64 0] 59) = V at *
      go_wp2_with fail
      refine (same_same A7 A8 R.1.length R.1.length c7 c8 R.1 V rfl rfl Rav Rbv (by omega)).mono ?_
      rintro e w9 ⟨rfl, K9⟩
      go_wp2_with fail
      refine (gauge_like g q R.2.2 r8 w9 (Mv.keep K9 (by simp)) (Nv.keep K9 (by simp)) L8).mono ?_
      rintro e w' ⟨rfl, rfl⟩
      have OW9 := OWv.keep K9 (by simp)
      have Oa9 := own_keep Oav K9 (by simp)
      have Rb9 := Rbv.old K9 (by simp)
      have Kw9 := Kv.trans K9
      have z9 := K9.size
      have f0 := blk_cell (K9.blk Fav (by simp)) 0
      have f1 := blk_cell (K9.blk Fav (by simp)) 1
      have f2 := blk_cell (K9.blk Fbv (by simp)) 0
      have f3 := blk_cell (K9.blk Fbv (by simp)) 1
      simp only [List.getElem?_toArray, List.getElem?_cons_zero, List.getElem?_cons_succ] at f0 f1 f2 f3
      have f4 := OW9.m77
      clear Rav Rbv Oav OWv Fav Fbv Mv Nv Kv K9 Kd L8
      go_wp2_with fail
      clear f0 f1 f2 f3 f4
      go_loopw [21] (fun vi wr => ∃ i : Nat, i ≤ l.length ∧ vi = .int .i64 i ∧ Keep [] w9 wr) (fun vi _ => l.length - (intOf vi).toNat)
      case atStart => exact ⟨0, Nat.zero_le _, rfl, Keep.refl _ _⟩
      case round =>
        obtain ⟨i, hi, rfl, K⟩ := hrel
        by_cases hlt : i < l.length
        · obtain ⟨y, hy⟩ : ∃ y, l[i]? = some y := ⟨l[i], List.getElem?_eq_getElem hlt⟩
          obtain ⟨ad, hA, hcs⟩ := (hr.old Kw9 (by simp)).old K (by simp) i y hy
          obtain ⟨bd, hB, hds⟩ := OW9.rd.old K (by simp) i y hy
          obtain rfl := Option.some.inj hB
          subst hA
          have d0 := hcs 0 _ rfl
          have d1 := hcs 1 _ rfl
          have d2 := hcs 2 _ rfl
          have d3 := hcs 3 _ rfl
          have d4 := hcs 4 _ rfl
          have d5 := hcs 5 _ rfl
          have d6 := hcs 6 _ rfl
          have d7 := hcs 7 _ rfl
          have d8 := hcs 8 _ rfl
          have e0 := hds 0 _ rfl
          have e1 := hds 1 _ rfl
          have e2 := hds 2 _ rfl
          have e3' := hds 3 _ rfl
          have e4 := hds 4 _ rfl
          have e5 := hds 5 _ rfl
          have e6 := hds 6 _ rfl
          have e7 := hds 7 _ rfl
          have e8 := hds 8 _ rfl
          rw [add_at _ _ _ (by omega)] at d1 d2 d3 d4 d5 d6 d7 d8
          rw [add_zero_at] at e0 e1 e2 e3' e4 e5 e6 e7 e8
          rw [Nat.add_zero] at d0 e0
          clear hcs hds hy
          go_upto_region 22 with (fail)
          go_quiet (fail)
          go_wp2
          go_roundw
          case rel => exact ⟨i + 1, hlt, by go_num, K.drewN _⟩
          case measure => simp [intOf]; omega
        · obtain rfl : i = l.length := by omega
          have OW10 := OW9.keep K (by simp)
          have Oa10 := own_keep Oa9 K (by simp)
          have Rb10 := Rb9.old K (by simp)
          have K10 := Kw9.trans K
          have z10 := K.size
          clear OW9 Oa9 Rb9 Kw9 K
          rename World => w10
          go_wp2_with fail
          refine (new_good s d _ (by omega) (by omega)).mono ?_
          rintro e w11 ⟨rfl, M11, K11, s11⟩
          clear s11
          have OW11 := OW10.keep K11 (by simp)
          have Oa11 := own_keep Oa10 K11 (by simp)
          have Rb11 := Rb10.old K11 (by simp)
          have K1b := K10.trans K11
          have z11 := blk_lt M11
          have kg : w9.heap.size ≤ w10.heap.size := z10
          have zw := K10.size
          generalize w10.heap.size = kk at *
          clear OW10 Oa10 Rb10 K10 K11
          go_wp2_with fail
          refine (cuts_out kk (MS.new s d) (some ⟨o, 0, none⟩) (l.length + 1) l h w11 M11 ok0 (fun W K => (OW11.keep K (by simp; omega)).rd) (by omega) (by omega) hof _ rfl).mono ?_
          rintro e w12 ⟨vx, rfl, Ox, M12, K12⟩
          rw [HR.out] at Ox ⊢
          obtain ⟨A9, c9, rfl, hc9, Rx, hAx⟩ := own_rd (enc := CutX.row) (fun _ => rfl) Ox
          have hxb : ∀ ad, A9 = some ad → w11.heap.size ≤ ad.block := fun ad e => by obtain ⟨g', cur', rfl, hb, _⟩ := hAx ad e; exact hb
          have Ke : Keep [kk] w11 (w12.alloc (.cells #[.int .i64 R.2.1, .int .i64 0] 59)) := K12.alloc _
          have Oa12 := own_keep Oa11 Ke (fun b hb he => by simp at hb; have := hqa b he.symm; omega)
          have Rb12 := Rb11.keep Ke (fun ad e hm => by obtain ⟨g', cur', rfl, _, hh, _⟩ := hAb ad e; have := blk_lt hh; simp at hm; omega)
          have Rx12 := Rx.old ((Keep.refl [] w12).alloc (.cells #[.int .i64 R.2.1, .int .i64 0] 59)) (by simp)
          have K1c : Keep [] w (w12.alloc (.cells #[.int .i64 R.2.1, .int .i64 0] 59)) := K1b.then Ke (by simp; omega)
          clear OW11 Oa11 Rb11 K1b K12 Ox Rx M11 M12
          go_upto_region 26 with (fail)
          have zz := K1c.size
          have ze := Ke.size
          generalize w12.alloc (.cells #[.int .i64 R.2.1, .int .i64 0] 59) = X at *
          clear Ke
          go_wp2_with fail
          go_loopw [26] (fun vi wr => ∃ (i : Nat) (ys : List Value), i ≤ R.1.length ∧ vi = .int .i64 i ∧ Keep (Value.slice A7 R.1.length c7).ownBlock.toList X wr ∧ wr.ownsRow W6.heap.size 75 4 (.slice A7 R.1.length c7) R.1.length ys) (fun vi _ => R.1.length - (intOf vi).toNat)
          case atStart => exact ⟨0, _, Nat.zero_le _, rfl, Keep.refl _ _, Oa12⟩
          case round =>
            obtain ⟨i, ys, hi, rfl, K, OA⟩ := hrel
            by_cases hlt : i < R.1.length
            · obtain ⟨ga, ca, hva, _⟩ := own_form OA (by omega)
              simp only [Value.slice.injEq, true_and] at hva
              obtain ⟨hva, hca⟩ := hva
              subst hva hca
              obtain ⟨⟨z, x0⟩, y0⟩ := own_cell (j := i * 4) OA (by omega)
              obtain ⟨ys', OA'⟩ := own_setCell (j := i * 4) OA (.int .i64 (-9))
              go_wp2
              go_roundw
              case rel => exact ⟨i + 1, ys', hlt, by go_num, K.set (.inl (by simp [Value.ownBlock])) _, OA'⟩
              case measure => simp [intOf]; omega
            · obtain rfl : i = R.1.length := by omega
              have hnb : ∀ b, b ∈ (Value.slice A7 R.1.length c7).ownBlock.toList → W6.heap.size ≤ b ∧ b < w7.heap.size := fun b hb => hqa b (by simpa using hb)
              have Kw : Keep [] w _ := K1c.then K (fun b hb => .inr (by have := hnb b hb; omega))
              have RbF := Rb12.keep K (fun ad e hm => by have := (hnb _ hm).2; have := hbl ad e; omega)
              have RxF := Rx12.keep K (fun ad e hm => by have := (hnb _ hm).2; have := hxb ad e; omega)
              have hzF := K.size
              clear K Rb12 Rx12 K1c Oa12
              go_wp2_with (with_reducible refine append_block rfl _ _ 71 (.agg #[.int .i64 0, .int .i64 0, .bool false, .bool false]) 4 24 4 rfl (by kernel_rfl) (by kernel_rfl) (by kernel_rfl) (by decide) (by decide) W6.heap.size (.slice A7 R.1.length c7) R.1.length ys rfl rfl (by simp) rfl (by simp [Value.oneCell']) OA (by omega) (by omega) ?_; rintro v1 w13 hown hgr; obtain ⟨g13, c13, rfl, hc13⟩ := own_form hown (by omega))
              have K14 : Keep (Value.slice A7 R.1.length c7).ownBlock.toList wr w13 := Keep.grown ((Keep.refl _ wr).alloc _) hgr (fun k hk => .inl (by simp [hk]))
              have RbG := RbF.keep K14 (fun ad e hm => by have := (hnb _ hm).2; have := hbl ad e; omega)
              have RxG := RxF.keep K14 (fun ad e hm => by have := (hnb _ hm).2; have := hxb ad e; omega)
              have KwG : Keep [] w w13 := Kw.then K14 (fun b hb => .inr (by have := hnb b hb; omega))
              have hn9 : (R.1.length : Int) ≤ 3000 := by omega
              clear RbF RxF Kw K14 hgr hown OA
              refine (same_same A9 A8 R.1.length R.1.length c9 c8 R.1 w13 rfl rfl RxG RbG (by omega)).mono ?_
              rintro e w14 ⟨rfl, K15⟩
              go_wp2
              go_ret
              exact ⟨rfl, (KwG.trans K15).below (Nat.le_refl _) (by simp)⟩

set_option maxRecDepth 100000 in
theorem walkPageCuts {H : Type} {enc : TypeId × Value → H} {W : World} {base : Nat} {v0 : Value} {d0 : DataW H} {p0 : List MemPlace} (ok0 : Value.okWide Try.prog W .any base 49 v0) (h0 : DataW.Trod enc Try.prog W 0 (fun _ => true) true 49 v0 d0 p0)
    (z0 : ∀ n ∈ d0.weights Try.prog 49, n ≤ reachBytes) (h : Int) (wh : (Lit.int .i64 h).wf = true) (s : Int) (ws : (Lit.int .i64 s).wf = true) (d : Int) (wd : (Lit.int .i64 d).wf = true) (w : World) (hw : w = W) :
    Calls Try.prog 14 #[v0, .int .i64 h, .int .i64 s, .int .i64 d] w fun e w' => e = .returned (.bool true) ∧ Below w.heap.size w w' := by
  subst hw
  obtain ⟨A, c, l, rfl, h1, h2, hr, _, hof⟩ := open_slabs ok0 h0
  have hs := ((Lit.wf_int_iff _ _).1 ws).2
  have hd := ((Lit.wf_int_iff _ _).1 wd).2
  exact walkCuts A c l h s d w hr h1 h2 hof hs hd

end Go.Proofs.Ytgelccenbceeoaa
