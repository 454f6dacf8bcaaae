/- Layer 17: greatest, held, Tall, and the reference's, by contracts. -/
import Derived.Test.YtgelccenbceeoaaOpen
import Derived.Deep.RegionHeld3
import Derived.Deep.DeepCutAuto
import Derived.Deep.CutBlock
namespace Go.Proofs.Ytgelccenbceeoaa
open Go.RowKit
set_option linter.unusedSimpArgs false
set_option linter.unusedVariables false

theorem Keep.cell' {S : List Nat} {w w' : World} (h : Keep S w w') {p : Addr} {v : Value} (hc : w.cell? p = some v) (hs : p.block ∉ S) : w'.cell? p = some v :=
  (World.cell?_of_block (h.block _ (World.block_lt_of_cell? w p hc) hs)).trans hc
/-- What a call leaves that writes nothing old, as rules for the walk. -/
theorem kcell {w w' : World} (h : Keep [] w w') : (∀ b o, b < w.heap.size → w'.cell? ⟨b, o, none⟩ = w.cell? ⟨b, o, none⟩) ∧ (∀ b o, b < w.heap.size → w'.frozen? ⟨b, o, none⟩ = w.frozen? ⟨b, o, none⟩) ∧ (∀ n, n < w.heap.size → n < w'.heap.size) :=
  ⟨fun b o hb => World.cell?_of_block (h.block b hb (by simp)), fun b o hb => World.frozen?_of_block (h.block b hb (by simp)), fun n hn => Nat.lt_of_lt_of_le hn h.size⟩
theorem cell_alloc' {w : World} {p : Addr} {v : Value} (h : w.cell? p = some v) (o : Obj) : (w.alloc o).cell? p = some v :=
  (World.cell?_of_block (Below.heap_alloc w o _ (World.block_lt_of_cell? w p h))).trans h
theorem size_drew' (w : World) : w.drew.heap.size = w.heap.size := rfl
theorem size_alloc' (w : World) (o : Obj) : (w.alloc o).heap.size = w.heap.size + 1 := by simp
theorem cell_drew' {w : World} {p : Addr} {v : Value} (h : w.cell? p = some v) : w.drew.cell? p = some v := h
theorem cell_set' {w : World} {p q : Addr} {v : Value} (h : w.cell? p = some v) (hne : p.block ≠ q.block) (u : Value) : (w.setCell q u).cell? p = some v :=
  (World.cell?_of_block (Below.heap_setCell w q u _ hne)).trans h
theorem cell_set'' {w : World} {p : Addr} {v : Value} (h : w.cell? p = some v) (q : Addr) (u : Value) (hs : q.spot = none) (hne : p.block ≠ q.block ∨ p.off ≠ q.off) : (w.setCell q u).cell? p = some v := by
  by_cases hb : p.block = q.block
  · have ho : p.off ≠ q.off := hne.resolve_left (fun h => h hb)
    unfold World.cell? at h ⊢
    simp only [World.setCell, Array.getElem?_modify, hb]
    rw [hb] at h
    simp only [if_true]
    cases hg : w.heap[q.block]? with
    | none => rw [hg] at h; simp at h
    | some o =>
      rw [hg] at h
      cases o <;> simp_all [Array.getElem?_setIfInBounds]
      omega
  · exact cell_set' h hb u
theorem add_zero_at (b m : Nat) : (⟨b, 0, none⟩ : Addr).add m = ⟨b, m, none⟩ := by unfold Addr.add; split <;> simp_all

/-- Rows that lie in one block, from its begin. -/
theorem Rd.of_block {α : Type} {enc : α → List Value} {sz : Nat} {w : World} {b : Nat} {cs : Array Value} {T : TypeId} {fr : Nat × Nat} {rows : List α} (h : w.heap[b]? = some (.cells cs T fr))
    (hc : ∀ i x j v, rows[i]? = some x → (enc x)[j]? = some v → cs[i * sz + j]? = some v) : Rd enc sz w (some ⟨b, 0, none⟩) rows := by
  intro i x hx
  refine ⟨_, rfl, fun j v hv => ?_⟩
  rw [add_zero_at]
  exact (blk_cell h _).trans (hc i x j v hx hv)

def intRow (x : Int) : List Value := [.int .i64 x]

/-- The greatest of some numbers; 0, if all are below it. -/
def gr (l : List Int) : Int := l.foldl (fun n x => if n < x then x else n) 0
theorem gr_snoc (l : List Int) (x : Int) : gr (l ++ [x]) = if gr l < x then x else gr l := by unfold gr; rw [List.foldl_append]; rfl

theorem take_snoc {α : Type} {l : List α} {k : Nat} {x : α} (h : l[k]? = some x) : l.take (k + 1) = l.take k ++ [x] := by
  rw [List.take_add_one, h]; rfl

theorem greatest_any (A : Option Addr) (c : Nat) (xs : List Int) (w : World) (hr : Rd intRow 1 w A xs) (hl : xs.length ≤ 1152921504606846976) :
    Calls Try.prog 59 #[.slice A xs.length c] w fun e w' => e = .returned (.int .i64 (gr xs)) ∧ w = w' := by
  go_enter Try.func59, Try.ntmps59
  go_wp2_with fail
  go_loop [3, 8] (fun v i => ∃ k : Nat, k ≤ xs.length ∧ i = .int .i64 k ∧ v = .int .i64 (gr (xs.take k))) (fun _ i => xs.length - (intOf i).toNat)
  case atStart => exact ⟨0, Nat.zero_le _, rfl, rfl⟩
  case round =>
    obtain ⟨k, hk, rfl, rfl⟩ := hrel
    by_cases hlt : k < xs.length
    · obtain ⟨x, hx⟩ : ∃ x, xs[k]? = some x := ⟨xs[k], List.getElem?_eq_getElem hlt⟩
      obtain ⟨ad, hA, hc⟩ := hr k x hx
      have hc0 := hc 0 _ rfl
      rw [Nat.mul_one, Nat.add_zero] at hc0
      have HS := hid ((congrArg gr (take_snoc hx)).trans (gr_snoc _ _))
      clear hc hx
      subst hA
      by_cases hg : gr (xs.take k) < x
      · go_wp2
        go_round
        case rel => exact ⟨k + 1, hlt, by go_num, by rw [HS.out, if_pos hg]⟩
        case measure => simp [intOf]; omega
      · go_wp2
        go_round
        case rel => exact ⟨k + 1, hlt, by go_num, by rw [HS.out, if_neg hg]⟩
        case measure => simp [intOf]; omega
    · go_wp2
      go_ret
      exact ⟨by rw [List.take_of_length_le (by omega)]; rfl, rfl⟩

/-- A number brought between 0 and another one. -/
def cl (n most : Int) : Int := if n < 0 then 0 else if most < n then most else n
theorem cl_range (n : Int) {most : Int} (h : 0 ≤ most) : 0 ≤ cl n most ∧ cl n most ≤ most := by unfold cl; omega

theorem held17_any (n most : Int) (w : World) (hm : 0 ≤ most) : Calls Try.prog 55 #[.int .i64 n, .int .i64 most] w fun e w' => e = .returned (.int .i64 (cl n most)) ∧ Keep [] w w' := by
  have hg : gr [n] = if 0 < n then n else 0 := rfl
  have Hg := hid hg
  clear hg
  go_enter Try.func55, Try.ntmps55
  go_wp2_with fail
  refine (greatest_any (some ⟨w.heap.size, 0, none⟩) 1 [n] _ (Rd.of_block (blk_new _ _) (fun i x j v hx hv => ?_)) (by simp)).mono ?_
  · match i, j with
    | 0, 0 => simp [intRow] at hx hv ⊢; rw [hx, hv]
    | 0, j + 1 => simp [intRow] at hv
    | i + 1, _ => simp at hx
  rintro e w' ⟨rfl, rfl⟩
  rw [Hg.out]
  by_cases h0 : 0 < n
  · rw [if_pos h0]
    by_cases h1 : most < n
    · have E := hid (show cl n most = most by unfold cl; omega)
      go_wp2
      go_ret
      exact ⟨by rw [E.out]; rfl, (Keep.refl _ _).alloc _⟩
    · have E := hid (show cl n most = n by unfold cl; omega)
      go_wp2
      go_ret
      exact ⟨by rw [E.out]; rfl, (Keep.refl _ _).alloc _⟩
  · have E := hid (show cl n most = 0 by unfold cl; omega)
    rw [if_neg h0]
    go_wp2
    go_ret
    exact ⟨by rw [E.out]; rfl, (Keep.refl _ _).alloc _⟩

/-- A slab: its nine numbers. -/
structure Slab where
  pr : Int
  ln : Int
  ht : Int
  dp : Int
  ld : Int
  sk : Int
  tl : Int
  ix : Int
  of_ : Int
deriving DecidableEq

def Slab.row (x : Slab) : List Value := [.int .i64 x.pr, .int .i64 x.ln, .int .i64 x.ht, .int .i64 x.dp, .int .i64 x.ld, .int .i64 x.sk, .int .i64 x.tl, .int .i64 x.ix, .int .i64 x.of_]

def top (n : Int) : Int := if 4611686018427387904 < n then 4611686018427387904 else n

/-- How much room slabs take below what stands ahead. -/
def tallS : Int → List Slab → Int
  | n, [] => n
  | n, s :: r => tallS (top (n + cl s.sk 70368744177664 + cl s.ld 70368744177664)) r

def tall : List Slab → Int
  | [] => 0
  | x :: xs => top (tallS (cl x.ht 70368744177664) xs + cl ((x :: xs).getLast (by simp)).dp 70368744177664)

theorem top_range {n : Int} (h : 0 ≤ n) : 0 ≤ top n ∧ top n ≤ 4611686018427387904 := by unfold top; omega
theorem tallS_range : ∀ (l : List Slab) {n : Int}, 0 ≤ n → n ≤ 4611686018427387904 → 0 ≤ tallS n l ∧ tallS n l ≤ 4611686018427387904
  | [], n, h, h' => ⟨h, h'⟩
  | s :: r, n, h, h' => by
    have a := cl_range s.sk (most := 70368744177664) (by omega)
    have b := cl_range s.ld (most := 70368744177664) (by omega)
    have c := top_range (n := n + cl s.sk 70368744177664 + cl s.ld 70368744177664) (by omega)
    exact tallS_range r c.1 c.2
theorem tallS_snoc : ∀ (l : List Slab) (n : Int) (s : Slab), tallS n (l ++ [s]) = top (tallS n l + cl s.sk 70368744177664 + cl s.ld 70368744177664)
  | [], n, s => rfl
  | x :: l, n, s => tallS_snoc l _ s

set_option maxHeartbeats 1600000 in
theorem tall_any (A : Option Addr) (c : Nat) (l : List Slab) (w : World) (hr : Rd Slab.row 9 w A l) (hl : l.length ≤ 1152921504606846976) (hc : l.length ≤ c) :
    Calls Try.prog 34 #[.slice A l.length c] w fun e w' => e = .returned (.int .i64 (tall l)) ∧ Keep [] w w' := by
  cases l with
  | nil =>
    go_enter Try.func34, Try.ntmps34
    go_wp2
    go_ret
    exact ⟨rfl, Keep.refl _ _⟩
  | cons x xs =>
    obtain ⟨ad, hA, h0⟩ := hr 0 x rfl
    subst hA
    simp only [List.length_cons] at hl hc
    have hlast : (x :: xs)[xs.length]? = some ((x :: xs).getLast (by simp)) := by rw [List.getLast_eq_getElem]; simp
    have HT := hid (show tall (x :: xs) = top (tallS (cl x.ht 70368744177664) xs + cl ((x :: xs).getLast (by simp)).dp 70368744177664) from rfl)
    generalize (x :: xs).getLast (by simp) = z at *
    have q3 := cl_range z.dp (most := 70368744177664) (by omega)
    have Hlast := hid hlast
    clear hlast
    have c2 := h0 2 _ rfl
    rw [add_at _ _ _ (by omega)] at c2
    simp only [Nat.zero_mul] at c2
    have e0 : ad.add 0 = ad := rfl
    rw [e0] at c2
    have hn : ((xs.length : Int) + 1 == 0) = false := by simp; omega
    go_enter Try.func34, Try.ntmps34
    go_wp2_with fail
    refine (held17_any _ _ _ (by omega)).mono ?_
    rintro e w1 ⟨rfl, K1⟩
    have q1 := cl_range x.ht (most := 70368744177664) (by omega)
    by_cases hcap : c = 1
    · have hx0 : xs = [] := List.eq_nil_of_length_eq_zero (by omega)
      subst hx0
      go_wp2_with fail
      go_loopw [3, 17] (fun v i wr => i = .int .i64 0 ∧ v = .int .i64 (cl x.ht 70368744177664) ∧ Keep [] w wr) (fun _ _ _ => 0)
      case atStart => exact ⟨rfl, rfl, K1⟩
      case round =>
        obtain ⟨rfl, rfl, K⟩ := hrel
        obtain ⟨adz, hAz, hz⟩ := hr.old K (by simp) 0 z Hlast.out
        obtain rfl := Option.some.inj hAz
        have g3 := hz 3 _ rfl
        rw [add_at _ _ _ (by omega)] at g3
        simp only [Nat.zero_mul, e0] at g3
        clear hz
        go_wp2_with fail
        refine (held17_any _ _ _ (by omega)).mono ?_
        rintro e w5 ⟨rfl, K5⟩
        have K6 := K.trans K5
        go_wp2
        all_goals
          go_ret
          refine ⟨?_, K6⟩
          rw [HT.out]
          try simp only [tallS]
          unfold top
          first | rfl | (rw [if_pos (by omega)]; rfl) | (rw [if_neg (by omega)]; rfl)
    · have hr1 : Rd Slab.row 9 w (some ⟨ad.block, ad.off + 9, none⟩) xs := by have h := hr.drop 1; simpa [Addr.add] using h
      go_wp2_with fail
      generalize (⟨ad.block, ad.off + 9, none⟩ : Addr) = ad9 at *
      go_loopw [3, 17] (fun v i wr => ∃ k : Nat, k ≤ xs.length ∧ i = .int .i64 k ∧ v = .int .i64 (tallS (cl x.ht 70368744177664) (xs.take k)) ∧ Keep [] w wr) (fun _ i _ => xs.length - (intOf i).toNat)
      case atStart => exact ⟨0, Nat.zero_le _, rfl, rfl, K1⟩
      case round =>
        obtain ⟨k, hk, rfl, rfl, K⟩ := hrel
        have q2 := tallS_range (xs.take k) (n := cl x.ht 70368744177664) (by omega) (by omega)
        by_cases hlt : k < xs.length
        · obtain ⟨y, hy⟩ : ∃ y, xs[k]? = some y := ⟨xs[k], List.getElem?_eq_getElem hlt⟩
          obtain ⟨ad1, hA1, hcs⟩ := hr1.old K (by simp) k y hy
          replace hA1 := Option.some.inj hA1
          have d0 := hcs 0 _ rfl
          have d1 := hcs 1 _ rfl
          have d2 := hcs 2 _ rfl
          have d3 := hcs 3 _ rfl
          have d4 := hcs 4 _ rfl
          have d5 := hcs 5 _ rfl
          have d6 := hcs 6 _ rfl
          have d7 := hcs 7 _ rfl
          have d8 := hcs 8 _ rfl
          rw [add_at _ _ _ (by omega)] at d1 d2 d3 d4 d5 d6 d7 d8
          rw [Nat.add_zero] at d0
          subst hA1
          have HS := hid ((congrArg (tallS (cl x.ht 70368744177664)) (take_snoc hy)).trans (tallS_snoc _ _ _))
          clear hcs hy
          generalize tallS (cl x.ht 70368744177664) (xs.take k) = t at *
          go_upto_region 7 with (fail)
          have s4 := (blk_cell (blk_new wr (.cells #[.int .i64 y.pr, .int .i64 y.ln, .int .i64 y.ht, .int .i64 y.dp, .int .i64 y.ld, .int .i64 y.sk, .int .i64 y.tl, .int .i64 y.ix, .int .i64 y.of_] 51)) 4)
          have s5 := (blk_cell (blk_new wr (.cells #[.int .i64 y.pr, .int .i64 y.ln, .int .i64 y.ht, .int .i64 y.dp, .int .i64 y.ld, .int .i64 y.sk, .int .i64 y.tl, .int .i64 y.ix, .int .i64 y.of_] 51)) 5)
          have KW := K.alloc (.cells #[.int .i64 y.pr, .int .i64 y.ln, .int .i64 y.ht, .int .i64 y.dp, .int .i64 y.ld, .int .i64 y.sk, .int .i64 y.tl, .int .i64 y.ix, .int .i64 y.of_] 51)
          simp only [List.getElem?_toArray, List.getElem?_cons_zero, List.getElem?_cons_succ] at s4 s5
          generalize wr.alloc (.cells #[.int .i64 y.pr, .int .i64 y.ln, .int .i64 y.ht, .int .i64 y.dp, .int .i64 y.ld, .int .i64 y.sk, .int .i64 y.tl, .int .i64 y.ix, .int .i64 y.of_] 51) = W0 at *
          generalize wr.heap.size = gb at *
          have z1 := cl_range y.sk (most := 70368744177664) (by omega)
          have z2 := cl_range y.ld (most := 70368744177664) (by omega)
          clear d0 d1 d2 d3 d4 d5 d6 d7 d8 c2
          obtain ⟨z1a, z1b⟩ := z1
          obtain ⟨z2a, z2b⟩ := z2
          obtain ⟨q2a, q2b⟩ := q2
          have e1 := IntWalk.i64_in (t + cl y.sk 70368744177664) (by omega)
          have e2 := IntWalk.i64_in (t + cl y.sk 70368744177664 + cl y.ld 70368744177664) (by omega)
          have E1 := hid e1
          have E2 := hid e2
          clear e1 e2
          go_region_held3 (fun w' => w'.cell? ⟨gb, 5, none⟩ = some (.int .i64 y.sk) ∧ w'.cell? ⟨gb, 4, none⟩ = some (.int .i64 y.ld)) (first | (go_split_ands; refine ⟨?_, ?_⟩ <;> (refine hK.cell' ?_ (by simp); assumption)) | go_keep) ((go_at_call 55; refine (held17_any _ _ _ (by omega)).mono ?_; rintro e w' ⟨rfl, hK⟩))
          rename_i w9 k9 _
          have K9 : Keep [] w w' := (KW.drew.trans k9).trans hK
          rw [E1.out, E2.out]
          go_wp2
          go_roundw
          case rel => exact ⟨k + 1, hlt, by go_num, by rw [HS.out]; rfl, K9⟩
          case measure => simp [intOf]; omega
        · obtain rfl : k = xs.length := by omega
          rw [List.take_length] at q2 ⊢
          have HT2 := HT
          generalize tallS (cl x.ht 70368744177664) xs = t at *
          obtain ⟨adz, hAz, hz⟩ := hr.old K (by simp) xs.length z Hlast.out
          obtain rfl := Option.some.inj hAz
          have g3 := hz 3 _ rfl
          rw [add_at _ _ _ (by omega)] at g3
          clear hz
          go_wp2_with fail
          refine (held17_any _ _ _ (by omega)).mono ?_
          rintro e w5 ⟨rfl, K5⟩
          have K6 := K.trans K5
          go_wp2
          all_goals
            go_ret
            refine ⟨?_, K6⟩
            rw [HT.out]
            try simp only [tallS]
            unfold top
            first | rfl | (rw [if_pos (by omega)]; rfl) | (rw [if_neg (by omega)]; rfl)

end Go.Proofs.Ytgelccenbceeoaa
