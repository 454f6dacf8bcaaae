/- column.Slabs, by a contract. -/
import Derived.Test.YtgelccenbceeoaaColumn
import Derived.Test.YtgelccenbceeoaaRef02
import Derived.Maps.AppendAt
namespace Go.Proofs.Ytgelccenbceeoaa
open Go.RowKit
set_option linter.unusedSimpArgs false
set_option linter.unusedVariables false

structure ParX where
  pa : Option Addr
  pn : Nat
  pc : Nat
  wd : Int
  ld : Int
  sk : Int
  tl : Int
  at_ : Int
  en : Int
def ParX.row (p : ParX) : List Value := [.slice p.pa p.pn p.pc, .int .i64 p.wd, .int .i64 p.ld, .int .i64 p.sk, .int .i64 p.tl, .int .i64 p.at_, .int .i64 p.en]

structure LineX where
  a0 : Int
  a1 : Int
  a2 : Int
  a3 : Int
  a4 : Int
  a5 : Int
  a6 : Int
  a7 : Int
  a8 : Int
  b0 : Bool
  b1 : Bool
  b2 : Bool
  ht : Int
  dp : Int
def LineX.row (x : LineX) : List Value := [.int .i64 x.a0, .int .i64 x.a1, .int .i64 x.a2, .int .i64 x.a3, .int .i64 x.a4, .int .i64 x.a5, .int .i64 x.a6, .int .i64 x.a7, .int .i64 x.a8, .bool x.b0, .bool x.b1, .bool x.b2, .int .i64 x.ht, .int .i64 x.dp]

/-- A list of lines: where it lies, its room, its lines. -/
structure LinesX where
  a : Option Addr
  cap : Nat
  l : List LineX
def LinesX.row (x : LinesX) : List Value := [.slice x.a x.l.length x.cap]

def slabAt (d : Int) (i k of_ : Nat) (p : ParX) (x : LineX) : Slab :=
  { pr := i, ln := k, ht := cl x.ht 70368744177664, dp := cl x.dp 70368744177664, ld := gr [cl p.ld 70368744177664, d + cl x.ht 70368744177664], sk := if k = 0 then cl p.sk 70368744177664 else 0, tl := cl p.tl 10000, ix := k, of_ := of_ }
def slabsIn (i of_ : Nat) (p : ParX) : Int → Nat → List LineX → List Slab
  | _, _, [] => []
  | d, k, x :: xs => slabAt d i k of_ p x :: slabsIn i of_ p (cl x.dp 70368744177664) (k + 1) xs
def depthIn : Int → List LineX → Int
  | d, [] => d
  | _, x :: xs => depthIn (cl x.dp 70368744177664) xs
def slabsAll : Int → Nat → List ParX → List LinesX → List Slab
  | d, i, p :: ps, l :: ls => slabsIn i l.l.length p d 0 l.l ++ slabsAll (depthIn d l.l) (i + 1) ps ls
  | _, _, _, _ => []

/-- So many charges, of a step and a cell each; up to the first that is refused. -/
def chargeN : MS → Nat → Bool × MS
  | m, 0 => (true, m)
  | m, n + 1 => if (m.step 1).1 = true then (if ((m.step 1).2.hold 1).1 = true then chargeN ((m.step 1).2.hold 1).2 n else (false, ((m.step 1).2.hold 1).2)) else (false, (m.step 1).2)

theorem chargeN_succ (m : MS) (n : Nat) : chargeN m (n + 1) = if (m.step 1).1 = true then (if ((m.step 1).2.hold 1).1 = true then chargeN ((m.step 1).2.hold 1).2 n else (false, ((m.step 1).2.hold 1).2)) else (false, (m.step 1).2) := rfl

theorem own_base {w : World} {base : Nat} {e : TypeId} {size n : Nat} {v : Value} {xs : List Value} (h : w.ownsRow base e size v n xs) (k : Nat) (hk : v.ownBlock = some k) : base ≤ k ∧ k < w.heap.size ∧ ∃ cur, w.heap[k]? = some (.cells cur e (0, 0)) := by
  rcases h.2 with ⟨rfl, _⟩ | ⟨g, cap, cur, rfl, hg, hh, _⟩
  · simp [Value.ownBlock] at hk
  · simp [Value.ownBlock] at hk
    subst hk
    exact ⟨hg, blk_lt hh, cur, hh⟩
theorem own_ne {w : World} {base : Nat} {e t : TypeId} {size n g : Nat} {v : Value} {xs : List Value} {cs : Array Value} {fr : Nat × Nat} (h : w.ownsRow base e size v n xs) (hg : w.heap[g]? = some (.cells cs t fr)) (hne : e ≠ t) : some g ≠ v.ownBlock := by
  intro he
  obtain ⟨_, _, cur, hc⟩ := own_base h g he.symm
  rw [hg] at hc
  simp only [Option.some.injEq, Obj.cells.injEq] at hc
  exact hne hc.2.1.symm
theorem Keep.grown {S : List Nat} {a w w' : World} {row : Option Nat} (h : Keep S a w) (hg : w.grownBy w' row) (hr : ∀ k, row = some k → k ∈ S ∨ a.heap.size ≤ k) : Keep S a w' :=
  h.then (T := row.toList) ⟨hg.os, hg.tape, hg.output, hg.size, fun k hk hn => hg.block k hk (fun e => hn (by simp [← e]))⟩ (fun k hk => hr k (by simpa using hk))
theorem blk_grown {w w1 : World} {g : Nat} {o : Obj} {row : Option Nat} (h : w.heap[g]? = some o) (hg : w.grownBy w1 row) (hne : some g ≠ row) : w1.heap[g]? = some o := (hg.block g (blk_lt h) hne).trans h
theorem own_keep {w w1 : World} {base : Nat} {e : TypeId} {size n : Nat} {v : Value} {xs : List Value} (h : w.ownsRow base e size v n xs) {S : List Nat} (k : Keep S w w1) (hS : ∀ b, b ∈ S → some b ≠ v.ownBlock) : w1.ownsRow base e size v n xs := by
  obtain ⟨h1, h2⟩ := h
  refine ⟨h1, ?_⟩
  rcases h2 with h2 | ⟨g, cap, cur, rfl, hb, hh, rest⟩
  · exact .inl h2
  · exact .inr ⟨g, cap, cur, rfl, hb, k.blk hh (fun hm => hS g hm rfl), rest⟩

/-- append(v, x), x of several cells, the variadic's box just laid. -/
theorem append_cells {P : Program} {ops : Array Oper} {rest : List Oper} {o : Oper} {a : Act} {Q : Exit → Act → World → Prop} {W : World} (hgd : o.guard = none) (s x : Operand) (t : TypeId) {e : TypeId} (z : Value) (size bytes : Nat)
    (ho : o.op = .call { callee := .builtin .append, args := #[s, x], argTypes := #[t, t] })
    (ht : P.underlying t = some (.slice e)) (hinfo : (P.info? e).map (fun i => (i.zero, i.size, i.bytes)) = some (some z, size, bytes)) (hz : z.cells.size = size) (hs0 : 0 < size) (hb0 : 0 < bytes) (base : Nat)
    (v : Value) (n : Nat) (xs : List Value) {ys : List Value} (hs : a.eval s = v) {N : Nat} (hx : a.eval x = .slice (some ⟨N, 0, none⟩) 1 1) (hN : N = W.heap.size) (hys : ys.length = size) (h1 : ∀ u ∈ ys, u.oneCell' = true)
    (HO : W.ownsRow base e size v n xs) (hbase : base ≤ W.heap.size) (hl : (n + 1) * bytes ≤ 140737488355328)
    (h : ∀ v1 w1, w1.ownsRow base e size v1 (n + 1) (xs ++ ys) → (W.alloc (.cells ys.toArray e)).grownBy w1 v.ownBlock → wpList P ops Q rest (a.put o.dst v1) w1) :
    wpList P ops Q (o :: rest) a (W.alloc (.cells ys.toArray e)) := by
  subst hN
  obtain ⟨i0, hi, hz0, hz1, hz2⟩ := info_parts hinfo
  have hlen : n + 1 ≤ 140737488355328 := Nat.le_trans (Nat.le_mul_of_pos_right _ hb0) hl
  refine wpList_append_own_at (W.alloc (.cells ys.toArray e)) hgd s x t ho base e i0 z size bytes ht hi hz0 hz1 hz2 hz hs0 v n xs hs (HO.alloc _) ⟨W.heap.size, 0, none⟩ 1 1 ys hx (by rw [hys]; simp)
    (fun j u hj => ?_) h1 (by simp only [maxLen]; omega) hl (by simp; omega) ?_
  · rw [add_zero_at]
    exact (blk_cell (blk_new W _) j).trans (by simpa using hj)
  · intro v1 w1 hown hg _ _
    exact h v1 w1 hown hg

theorem greatest2 (a b : Int) (W : World) : Calls Try.prog 59 #[.slice (some ⟨W.heap.size, 0, none⟩) 2 2] (W.alloc (.cells #[.int .i64 a, .int .i64 b] 3)) fun e w' => e = .returned (.int .i64 (gr [a, b])) ∧ W.alloc (.cells #[.int .i64 a, .int .i64 b] 3) = w' :=
  greatest_any (some ⟨W.heap.size, 0, none⟩) 2 [a, b] _ (Rd.of_block (blk_new _ _) (fun i x j v hx hv => by
    match i, j with
    | 0, 0 => simp [intRow] at hx hv ⊢; rw [hx, hv]
    | 1, 0 => simp [intRow] at hx hv ⊢; rw [hx, hv]
    | i + 2, _ => simp at hx
    | i, j + 1 => simp [intRow] at hv)) (by simp)

theorem slab_sets {w : World} {n : Nat} {T : TypeId} {a b c d e f g h i a' b' c' d' e' f' g' h' i' : Value} (hz : w.heap[n]? = some (.cells #[a, b, c, d, e, f, g, h, i] T (0, 0))) :
    (((((((((w.setCell ⟨n, 0, none⟩ a').setCell ⟨n, 1, none⟩ b').setCell ⟨n, 2, none⟩ c').setCell ⟨n, 3, none⟩ d').setCell ⟨n, 4, none⟩ e').setCell ⟨n, 5, none⟩ f').setCell ⟨n, 6, none⟩ g').setCell ⟨n, 7, none⟩ h').setCell ⟨n, 8, none⟩ i').heap[n]? = some (.cells #[a', b', c', d', e', f', g', h', i'] T (0, 0)) :=
  (blk_set (blk_set (blk_set (blk_set (blk_set (blk_set (blk_set (blk_set (blk_set hz 0 a') 1 b') 2 c') 3 d') 4 e') 5 f') 6 g') 7 h') 8 i').trans (by simp)

theorem slab_sets0 {w : World} {n : Nat} {a' b' c' d' e' f' g' h' i' : Value} (hz : w.heap[n]? = some (.cells #[.int .i64 0, .int .i64 0, .int .i64 0, .int .i64 0, .int .i64 0, .int .i64 0, .int .i64 0, .int .i64 0, .int .i64 0] 51 (0, 0))) :
    (((((((((w.setCell ⟨n, 0, none⟩ a').setCell ⟨n, 1, none⟩ b').setCell ⟨n, 2, none⟩ c').setCell ⟨n, 3, none⟩ d').setCell ⟨n, 4, none⟩ e').setCell ⟨n, 5, none⟩ f').setCell ⟨n, 6, none⟩ g').setCell ⟨n, 7, none⟩ h').setCell ⟨n, 8, none⟩ i').heap[n]? = some (.cells #[a', b', c', d', e', f', g', h', i'] 51 (0, 0)) := slab_sets hz
theorem blk_drew0 {w : World} {n : Nat} {x : Option Obj} (h : w.heap[n]? = x) : w.drew.heap[n]? = x := h
theorem zero_slab {U W : World} {N : Nat} (h : U.heap[N]? = some (.cells #[.int .i64 0, .int .i64 0, .int .i64 0, .int .i64 0, .int .i64 0, .int .i64 0, .int .i64 0, .int .i64 0, .int .i64 0] 51 (0, 0))) (k : Keep [] U W) :
    W.heap[N]? = some (.cells #[.int .i64 0, .int .i64 0, .int .i64 0, .int .i64 0, .int .i64 0, .int .i64 0, .int .i64 0, .int .i64 0, .int .i64 0] 51 (0, 0)) := k.blk h (by simp)

/-- Where the loops stand: what is out, the depth, the meter, the result's cells. -/
structure SlabRel (g gb : Nat) (w wr : World) (v : Value) (out : List Slab) (m : MS) : Prop where
  own : wr.ownsRow w.heap.size 51 9 v out.length (out.flatMap Slab.row)
  isM : IsM wr g m
  ok : m.ok
  keep : Keep [g] w wr
  blk : wr.heap[gb]? = some (.cells #[.int .i64 0, .int .i64 0] 59 (0, 0))

theorem SlabRel.grown {g gb : Nat} {w W W' : World} {v v1 : Value} {out : List Slab} {m : MS} {s : Slab} {o : Obj} (R : SlabRel g gb w W v out m) (hgr : (W.alloc o).grownBy W' v.ownBlock)
    (hown : W'.ownsRow w.heap.size 51 9 v1 (out.length + 1) (out.flatMap Slab.row ++ s.row)) : SlabRel g gb w W' v1 (out ++ [s]) m :=
  ⟨by simpa using hown, blk_grown (blk_alloc R.isM _) hgr (own_ne R.own R.isM (by decide)), R.ok, Keep.grown (R.keep.alloc _) hgr (fun k hk => .inr (own_base R.own k hk).1), blk_grown (blk_alloc R.blk _) hgr (own_ne R.own R.blk (by decide))⟩

theorem slabs_bad (g : Nat) (A B : Option Addr) (n c m d : Nat) (w : World) (h : n ≠ m) (hn : n ≤ 9223372036854775807) (hm : m ≤ 9223372036854775807) :
    Calls Try.prog 38 #[.pointer (some ⟨g, 0, none⟩), .slice A n c, .slice B m d] w fun e w' => e = .returned (.tuple #[.slice none 0 0, .agg #[.int .i64 1, .int .i64 0]]) ∧ Keep [] w w' := by
  have hne : ((n : Int) != (m : Int)) = true := by simp; omega
  go_enter Try.func38, Try.ntmps38
  go_wp2
  exact bodyPost_ret (v := .tuple #[.slice none 0 0, .agg #[.int .i64 1, .int .i64 0]]) (by simp [results, Try.results38, go_sem]) rfl ⟨rfl, (Keep.refl _ _).alloc _⟩

/-- What Slabs leaves: all slabs, if every charge is taken; else none, and why. -/
def SlabsPost (g : Nat) (m0 : MS) (ALL : List Slab) (w : World) (e : Ending) (w' : World) : Prop :=
  ∃ v : Value, e = .returned (.tuple #[v, .agg #[.int .i64 (if (chargeN m0 ALL.length).1 = true then 0 else (chargeN m0 ALL.length).2.rf), .int .i64 0]]) ∧
    w'.ownsRow w.heap.size 51 9 v (if (chargeN m0 ALL.length).1 = true then ALL else []).length ((if (chargeN m0 ALL.length).1 = true then ALL else []).flatMap Slab.row) ∧
    IsM w' g (chargeN m0 ALL.length).2 ∧ Keep [g] w w'

set_option maxHeartbeats 6400000 in
set_option maxRecDepth 100000 in
theorem slabs_any (g : Nat) (m0 : MS) (A B : Option Addr) (c d : Nat) (ps : List ParX) (ls : List LinesX) (w : World) (hg : IsM w g m0) (ok : m0.ok)
    (hp : ∀ W, Keep [g] w W → Rd ParX.row 7 W A ps) (hl : ∀ W, Keep [g] w W → Rd LinesX.row 1 W B ls) (hll : ∀ W, Keep [g] w W → ∀ x ∈ ls, Rd LineX.row 14 W x.a x.l) (hlen : ps.length = ls.length) (hn : (slabsAll 0 0 ps ls).length ≤ 2147483647) (hps : ps.length ≤ 2147483647) (hls : ∀ x ∈ ls, x.l.length ≤ 2147483647) :
    Calls Try.prog 38 #[.pointer (some ⟨g, 0, none⟩), .slice A ps.length c, .slice B ls.length d] w fun e w' =>
      SlabsPost g m0 (slabsAll 0 0 ps ls) w e w' := by
  have hlt := blk_lt hg
  rw [← hlen]
  have Hlen := hid hlen
  clear hlen
  obtain ⟨i0, hi, hz0, hz1, hz2⟩ := info_parts (show (Try.prog.info? 51).map (fun i => (i.zero, i.size, i.bytes)) = some (some (.agg #[.int .i64 0, .int .i64 0, .int .i64 0, .int .i64 0, .int .i64 0, .int .i64 0, .int .i64 0, .int .i64 0, .int .i64 0]), 9, 72) by kernel_rfl)
  go_enter Try.func38, Try.ntmps38
  go_wp2_with fail
  have R0 : SlabRel g w.heap.size w (w.alloc (.cells #[.int .i64 0, .int .i64 0] 59)) (.slice none 0 0) [] m0 := ⟨World.ownsRow_nil _ _ _ _, blk_alloc hg _, ok, (Keep.refl _ _).alloc _, blk_new _ _⟩
  obtain ⟨ALL, hALL⟩ : ∃ ALL, ALL = slabsAll 0 0 ps ls := ⟨_, rfl⟩
  have HALL := hid hALL
  rw [← hALL] at hn
  clear hALL
  go_loopw [23, 8, 9] (fun vi vo vd wr => ∃ (i : Nat) (dd : Int) (out : List Slab) (m : MS), i ≤ ps.length ∧ vi = .int .i64 i ∧ vd = .int .i64 dd ∧ 0 ≤ dd ∧ dd ≤ 70368744177664 ∧
      Hid (ALL = out ++ slabsAll dd i (ps.drop i) (ls.drop i)) ∧ Hid (chargeN m0 ALL.length = chargeN m (ALL.length - out.length)) ∧ SlabRel g w.heap.size w wr vo out m) (fun vi _ _ _ => ps.length - (intOf vi).toNat)
  case atStart => exact ⟨0, 0, [], m0, by omega, rfl, rfl, by omega, by omega, hid (by rw [HALL.out]; simp), hid (by simp), R0⟩
  case round =>
    obtain ⟨i, dd, out, m, hi1, rfl, rfl, hd0, hd1, HA, HC, R⟩ := hrel
    clear R0
    by_cases hlt2 : i < ps.length
    · obtain ⟨p, hpi⟩ : ∃ p, ps[i]? = some p := ⟨ps[i], List.getElem?_eq_getElem hlt2⟩
      obtain ⟨x, hxi⟩ : ∃ x, ls[i]? = some x := ⟨ls[i], List.getElem?_eq_getElem (by have := Hlen.out; omega)⟩
      have hxm := List.mem_of_getElem? hxi
      have hxl := hls x hxm
      obtain ⟨ad, hA1, hcs⟩ := hp _ R.keep i p hpi
      have d0 := hcs 0 _ rfl
      have d1 := hcs 1 _ rfl
      have d2 := hcs 2 _ rfl
      have d3 := hcs 3 _ rfl
      have d4 := hcs 4 _ rfl
      have d5 := hcs 5 _ rfl
      have d6 := hcs 6 _ rfl
      rw [add_at _ _ _ (by omega)] at d1 d2 d3 d4 d5 d6
      rw [Nat.add_zero] at d0
      obtain ⟨bd, hB1, hbs⟩ := hl _ (R.keep.alloc (.cells p.row.toArray 66)) i x hxi
      have f0 := hbs 0 _ rfl
      rw [Nat.add_zero, Nat.mul_one] at f0
      subst hA1 hB1
      have hdp : ps.drop i = p :: ps.drop (i + 1) := by rw [List.drop_eq_getElem_cons hlt2]; rw [List.getElem?_eq_getElem hlt2] at hpi; rw [Option.some.inj hpi]
      have hdl : ls.drop i = x :: ls.drop (i + 1) := by rw [List.drop_eq_getElem_cons (by have := Hlen.out; omega)]; rw [List.getElem?_eq_getElem (by have := Hlen.out; omega)] at hxi; rw [Option.some.inj hxi]
      have HA2 : Hid (ALL = out ++ (slabsIn i x.l.length p dd 0 (x.l.drop 0) ++ slabsAll (depthIn dd (x.l.drop 0)) (i + 1) (ps.drop (i + 1)) (ls.drop (i + 1)))) := by
        have h := HA.out
        rw [hdp, hdl] at h
        exact h
      have Hx := hid hxi
      clear hpi hxi hcs hbs hdp hdl HA
      have hi2 : (i : Int) < (ps.length : Int) := by omega
      unfold ParX.row at f0
      go_wp2_with fail
      have hbl : w.heap.size < wr.heap.size := blk_lt R.blk
      have R1 : SlabRel g w.heap.size w (wr.alloc (.cells #[.slice p.pa p.pn p.pc, .int .i64 p.wd, .int .i64 p.ld, .int .i64 p.sk, .int .i64 p.tl, .int .i64 p.at_, .int .i64 p.en] 66)) u8 out m := ⟨R.own.alloc _, blk_alloc R.isM _, R.ok, R.keep.alloc _, blk_alloc R.blk _⟩
      have P1 := blk_new wr (.cells #[.slice p.pa p.pn p.pc, .int .i64 p.wd, .int .i64 p.ld, .int .i64 p.sk, .int .i64 p.tl, .int .i64 p.at_, .int .i64 p.en] 66)
      generalize wr.alloc (.cells #[.slice p.pa p.pn p.pc, .int .i64 p.wd, .int .i64 p.ld, .int .i64 p.sk, .int .i64 p.tl, .int .i64 p.at_, .int .i64 p.en] 66) = W1 at *
      generalize wr.heap.size = bp at *
      clear R d0 d1 d2 d3 d4 d5 d6 f0
      go_loopw [33, 8, 9] (fun vk vo vd wi => ∃ (k : Nat) (d' : Int) (out' : List Slab) (m' : MS), k ≤ x.l.length ∧ vk = .int .i64 k ∧ vd = .int .i64 d' ∧ 0 ≤ d' ∧ d' ≤ 70368744177664 ∧
          Hid (ALL = out' ++ (slabsIn i x.l.length p d' k (x.l.drop k) ++ slabsAll (depthIn d' (x.l.drop k)) (i + 1) (ps.drop (i + 1)) (ls.drop (i + 1)))) ∧ Hid (chargeN m0 ALL.length = chargeN m' (ALL.length - out'.length)) ∧ SlabRel g w.heap.size w wi vo out' m' ∧
          wi.heap[bp]? = some (.cells #[.slice p.pa p.pn p.pc, .int .i64 p.wd, .int .i64 p.ld, .int .i64 p.sk, .int .i64 p.tl, .int .i64 p.at_, .int .i64 p.en] 66 (0, 0))) (fun vk _ _ _ => x.l.length - (intOf vk).toNat)
      case atStart => exact ⟨0, dd, out, m, by omega, rfl, rfl, hd0, hd1, HA2, HC, R1, P1⟩
      case round =>
        obtain ⟨k, d', out', m', hk1, rfl, rfl, hd'0, hd'1, HA3, HC3, R, P⟩ := hrel
        clear R1 P1 HA2 HC hd0 hd1
        by_cases hlt3 : k < x.l.length
        · obtain ⟨y, hyk⟩ : ∃ y, x.l[k]? = some y := ⟨x.l[k], List.getElem?_eq_getElem hlt3⟩
          have hdy : x.l.drop k = y :: x.l.drop (k + 1) := by rw [List.drop_eq_getElem_cons hlt3]; rw [List.getElem?_eq_getElem hlt3] at hyk; rw [Option.some.inj hyk]
          obtain ⟨yd, hY, hcs⟩ := hll _ R.keep x hxm k y hyk
          have d0 := hcs 0 _ rfl
          have d1 := hcs 1 _ rfl
          have d2 := hcs 2 _ rfl
          have d3 := hcs 3 _ rfl
          have d4 := hcs 4 _ rfl
          have d5 := hcs 5 _ rfl
          have d6 := hcs 6 _ rfl
          have d7 := hcs 7 _ rfl
          have d8 := hcs 8 _ rfl
          have d9 := hcs 9 _ rfl
          have d10 := hcs 10 _ rfl
          have d11 := hcs 11 _ rfl
          have d12 := hcs 12 _ rfl
          have d13 := hcs 13 _ rfl
          rw [add_at _ _ _ (by omega)] at d1 d2 d3 d4 d5 d6 d7 d8 d9 d10 d11 d12 d13
          rw [Nat.add_zero] at d0
          rw [hY]
          have HA4 : Hid (ALL = (out' ++ [slabAt d' i k x.l.length p y]) ++ (slabsIn i x.l.length p (cl y.dp 70368744177664) (k + 1) (x.l.drop (k + 1)) ++ slabsAll (depthIn (cl y.dp 70368744177664) (x.l.drop (k + 1))) (i + 1) (ps.drop (i + 1)) (ls.drop (i + 1)))) := by
            have h := HA3.out
            rw [hdy] at h
            show ALL = _
            rw [h]
            simp [slabsIn, depthIn]
          clear hcs hdy hyk HA3
          obtain ⟨q, hq⟩ : ∃ q, ALL.length - out'.length = q + 1 := ⟨ALL.length - out'.length - 1, by have := congrArg List.length HA4.out; simp at this; omega⟩
          have hC := HC3.out
          rw [hq, chargeN_succ] at hC
          obtain ⟨b1, m1, e1⟩ : ∃ b m1, m'.step 1 = (b, m1) := ⟨_, _, rfl⟩
          have ok1 := MS.ok_step R.ok 1
          rw [e1] at ok1 hC
          simp only at ok1 hC
          have H1 := hid e1
          have Hq := hid hq
          clear e1 hq HC3
          go_wp2_with fail
          have hbl3 : w.heap.size < wr.heap.size := blk_lt R.blk
          have R2 : SlabRel g w.heap.size w (wr.alloc (.cells #[.int .i64 y.a0, .int .i64 y.a1, .int .i64 y.a2, .int .i64 y.a3, .int .i64 y.a4, .int .i64 y.a5, .int .i64 y.a6, .int .i64 y.a7, .int .i64 y.a8, .bool y.b0, .bool y.b1, .bool y.b2, .int .i64 y.ht, .int .i64 y.dp] 92)) u8 out' m' := ⟨R.own.alloc _, blk_alloc R.isM _, R.ok, R.keep.alloc _, blk_alloc R.blk _⟩
          have P2 := blk_alloc P (.cells #[.int .i64 y.a0, .int .i64 y.a1, .int .i64 y.a2, .int .i64 y.a3, .int .i64 y.a4, .int .i64 y.a5, .int .i64 y.a6, .int .i64 y.a7, .int .i64 y.a8, .bool y.b0, .bool y.b1, .bool y.b2, .int .i64 y.ht, .int .i64 y.dp] 92)
          have L2 := blk_new wr (.cells #[.int .i64 y.a0, .int .i64 y.a1, .int .i64 y.a2, .int .i64 y.a3, .int .i64 y.a4, .int .i64 y.a5, .int .i64 y.a6, .int .i64 y.a7, .int .i64 y.a8, .bool y.b0, .bool y.b1, .bool y.b2, .int .i64 y.ht, .int .i64 y.dp] 92)
          have hbpl := blk_lt P
          generalize wr.alloc (.cells #[.int .i64 y.a0, .int .i64 y.a1, .int .i64 y.a2, .int .i64 y.a3, .int .i64 y.a4, .int .i64 y.a5, .int .i64 y.a6, .int .i64 y.a7, .int .i64 y.a8, .bool y.b0, .bool y.b1, .bool y.b2, .int .i64 y.ht, .int .i64 y.dp] 92) = W2 at *
          generalize wr.heap.size = bl at *
          clear R P d0 d1 d2 d3 d4 d5 d6 d7 d8 d9 d10 d11 d12 d13
          refine (step_any g m' 1 _ R2.isM R2.ok).mono ?_
          rintro e w3 ⟨rfl, hM3, hK3⟩
          rw [H1.out] at hM3 ⊢
          cases b1
          · have HF := hid (hC.trans (if_neg (by simp)))
            have hMf := hM3
            have Kf := R2.keep.trans hK3
            clear hC
            go_wp2_with fail
            refine (refused_any g m1 _ hMf).mono ?_
            rintro e w' ⟨rfl, rfl⟩
            have hbf : _ := hK3.blk R2.blk (by simp; omega)
            have x0 := blk_cell hbf 0
            have x1 := blk_cell hbf 1
            have y0 := blk_free hbf 0
            have y1 := blk_free hbf 1
            simp only [List.getElem?_toArray, List.getElem?_cons_zero, List.getElem?_cons_succ] at x0 x1
            go_wp2
            refine bodyPost_ret (v := .tuple #[.slice none 0 0, .agg #[.int .i64 m1.rf, .int .i64 0]]) (by simp [results, Try.results38, go_sem, x0, x1, y0, y1]) rfl (show SlabsPost g m0 (slabsAll 0 0 ps ls) w _ _ from ⟨.slice none 0 0, ?_, ?_, ?_, ?_⟩)
            · rw [← HALL.out, HF.out]; simp
            · rw [← HALL.out, HF.out]; simp [World.ownsRow_nil]
            · rw [← HALL.out, HF.out]; exact blk_far (blk_far hMf (by simp; omega) _) (by simp; omega) _
            · exact (Kf.set (.inr (by simp)) _).set (.inr (by simp)) _

          · rw [if_pos rfl] at hC
            obtain ⟨b2, m2, e2⟩ : ∃ b m2, m1.hold 1 = (b, m2) := ⟨_, _, rfl⟩
            have ok2 := MS.ok_hold ok1 1
            rw [e2] at ok2 hC
            simp only at ok2 hC hM3
            have H2 := hid e2
            clear e2
            go_wp2_with fail
            refine (hold_any g m1 1 _ hM3 ok1).mono ?_
            rintro e w4 ⟨rfl, hM4, hK4⟩
            rw [H2.out] at hM4 ⊢
            cases b2
            · have HF := hid (hC.trans (if_neg (by simp)))
              have hMf := hM4
              have Kf := (R2.keep.trans hK3).trans hK4
              clear hC
              go_wp2_with fail
              refine (refused_any g m2 _ hMf).mono ?_
              rintro e w' ⟨rfl, rfl⟩
              have hbf : _ := hK4.blk (hK3.blk R2.blk (by simp; omega)) (by simp; omega)
              have x0 := blk_cell hbf 0
              have x1 := blk_cell hbf 1
              have y0 := blk_free hbf 0
              have y1 := blk_free hbf 1
              simp only [List.getElem?_toArray, List.getElem?_cons_zero, List.getElem?_cons_succ] at x0 x1
              go_wp2
              refine bodyPost_ret (v := .tuple #[.slice none 0 0, .agg #[.int .i64 m2.rf, .int .i64 0]]) (by simp [results, Try.results38, go_sem, x0, x1, y0, y1]) rfl (show SlabsPost g m0 (slabsAll 0 0 ps ls) w _ _ from ⟨.slice none 0 0, ?_, ?_, ?_, ?_⟩)
              · rw [← HALL.out, HF.out]; simp
              · rw [← HALL.out, HF.out]; simp [World.ownsRow_nil]
              · rw [← HALL.out, HF.out]; exact blk_far (blk_far hMf (by simp; omega) _) (by simp; omega) _
              · exact (Kf.set (.inr (by simp)) _).set (.inr (by simp)) _
            · have HC5 := hid (hC.trans (if_pos rfl))
              have o2 := own_ne R2.own R2.isM (by decide)
              have R4 : SlabRel g w.heap.size w w4 u8 out' m2 := ⟨own_keep (own_keep R2.own hK3 (by simpa using o2)) hK4 (by simpa using o2), hM4, ok2, (R2.keep.trans hK3).trans hK4, hK4.blk (hK3.blk R2.blk (by simp; omega)) (by simp; omega)⟩
              have P4 := hK4.blk (hK3.blk P2 (by simp; omega)) (by simp; omega)
              have L4 := hK4.blk (hK3.blk L2 (by simp; omega)) (by simp; omega)
              clear hC R2 P2 L2 hM3 hM4 hK3 hK4 o2 H1 H2 ok1 ok2
              obtain ⟨bd', hB2, hbs⟩ := hl _ R4.keep i x Hx.out
              obtain rfl := Option.some.inj hB2
              have f0 := hbs 0 _ rfl
              rw [Nat.add_zero, Nat.mul_one] at f0
              have f1 := blk_cell L4 12
              have f2 := blk_cell L4 13
              have f3 := blk_cell P4 4
              simp only [List.getElem?_toArray, List.getElem?_cons_zero, List.getElem?_cons_succ] at f1 f2 f3
              clear hbs hB2
              go_upto_region 13 with (fail)
              have hi3 : (0 : Int) ≤ (i : Int) := by omega
              obtain ⟨W5, hW5⟩ : ∃ W5, W5 = w4 := ⟨_, rfl⟩
              have n1 := blk_lt L4
              have n2 := blk_lt P4
              have n3 := World.block_lt_of_cell? _ _ f0
              go_cut [14] (fun v wc => ∃ bs : Nat, v = .pointer (some ⟨bs, 0, none⟩) ∧ w4.heap.size ≤ bs ∧ Keep [] w4 wc ∧ wc.heap[bs]? = some (.cells #[.int .i64 i, .int .i64 k, .int .i64 (cl y.ht 70368744177664), .int .i64 (cl y.dp 70368744177664), .int .i64 0, .int .i64 0, .int .i64 (cl p.tl 10000), .int .i64 k, .int .i64 x.l.length] 51 (0, 0)))
              case first =>
                go_region_held3 (fun w' => w'.cell? (bd.add i) = some (.slice x.a x.l.length x.cap) ∧ w'.cell? ⟨bl, 12, none⟩ = some (.int .i64 y.ht) ∧ w'.cell? ⟨bl, 13, none⟩ = some (.int .i64 y.dp) ∧ w'.cell? ⟨bp, 4, none⟩ = some (.int .i64 p.tl)) ((refine ⟨?_, ?_, ?_, ?_⟩ <;> (repeat (with_reducible first | exact f0 | exact f1 | exact f2 | exact f3 | refine cell_drew' ?_ | refine cell_alloc' ?_ _ | refine Keep.cell' (S := []) (by assumption) ?_ (by simp) | refine cell_set' ?_ (Nat.ne_of_lt (by assumption)) _)))) ((go_at_call 55; refine (held17_any _ _ _ (by omega)).mono ?_; rintro e w' ⟨rfl, hK⟩; obtain ⟨hkc, hkf, hkl⟩ := kcell hK; have hks := hK.size; (try simp only [size_alloc', size_drew'] at hkc hkf hkl hks); have hb1 : bl < w'.heap.size := (by omega); have hb2 : bp < w'.heap.size := (by omega); have hb3 : (bd.add i).block < w'.heap.size := (by omega); (try have hb4 : w4.heap.size < w'.heap.size := (by omega)); (try have hb5 : w4.heap.size ≤ w'.heap.size := (by omega))))
                all_goals go_wp2
                all_goals go_meet
                all_goals
                  refine ⟨_, rfl, ?_, ?_, ?_⟩
                  · first
                      | omega
                      | (simp only [World.size_alloc]; omega)
                  · repeat (with_reducible first | exact Keep.refl _ _ | refine Keep.drew ?_ | refine Keep.alloc ?_ _ | refine Keep.set ?_ (.inr (by first | exact Nat.le_refl _ | assumption | omega)) _ | refine Keep.trans (S := []) ?_ (by assumption))
                  · first
                      | (with_reducible exact blk_new _ _)
                      | (refine slab_sets0 ?_; repeat (with_reducible first | exact blk_new _ _ | refine zero_slab ?_ (by assumption) | refine blk_drew0 ?_))
              case rest =>
                obtain ⟨bs, rfl, hbs, K5, S5⟩ := hcut
                have R5 : SlabRel g w.heap.size w wc u8 out' m2 := ⟨own_keep R4.own K5 (by simp), R4.isM.keep K5 (by simp), R4.ok, R4.keep.trans (K5.mono (by simp)), K5.blk R4.blk (by simp)⟩
                have P5 := K5.blk P4 (by simp)
                have L5 := K5.blk L4 (by simp)
                have hbw : w.heap.size < bs := by have := blk_lt R4.blk; omega
                have hob : some bs ≠ u8.ownBlock := fun he => by obtain ⟨_, h, _⟩ := own_base R4.own bs he.symm; omega
                have hbb : bl ≠ bs ∧ bp ≠ bs := by omega
                clear R4 P4 L4 f0 f1 f2 f3 hW5 W5 n1 n2 n3 K5
                have f0 := blk_cell P5 2
                have f1 := blk_cell S5 2
                have f2 := blk_cell S5 4
                have f3 := blk_free S5 4
                have n1 := blk_lt P5
                have n2 := blk_lt S5
                simp only [List.getElem?_toArray, List.getElem?_cons_zero, List.getElem?_cons_succ] at f0 f1 f2
                go_upto_region 14 with (fail)
                have z1 := cl_range y.ht (most := 70368744177664) (by omega)
                have z2 := cl_range p.ld (most := 70368744177664) (by omega)
                have E1 := hid (IntWalk.i64_in (d' + cl y.ht 70368744177664) (by omega))
                go_region_held3? (fun w' => w'.cell? ⟨bp, 2, none⟩ = some (.int .i64 p.ld) ∧ w'.cell? ⟨bs, 2, none⟩ = some (.int .i64 (cl y.ht 70368744177664))) ((refine ⟨?_, ?_⟩ <;> (repeat (with_reducible first | exact f0 | exact f1 | refine cell_drew' ?_ | refine cell_alloc' ?_ _ | refine Keep.cell' (S := []) (by assumption) ?_ (by simp) | refine cell_set'' ?_ _ _ rfl (by first | (simp; done) | (simp; omega)))))) (first | (go_at_call 55; refine (held17_any _ _ _ (by omega)).mono ?_; rintro e w' ⟨rfl, hK⟩; obtain ⟨hkc, hkf, hkl⟩ := kcell hK; have hks := hK.size; (try simp only [size_alloc', size_drew'] at hkc hkf hkl hks)) | (go_at_call 59; refine (greatest2 _ _ _).mono ?_; rintro e w' ⟨rfl, rfl⟩))
                have KD : Keep [] wc w' := (Keep.refl [] wc).drew.trans hK
                rename_i hHeld
                clear hHeld
                obtain ⟨la, hla⟩ : ∃ la, la = gr [cl p.ld 70368744177664, d' + cl y.ht 70368744177664] := ⟨_, rfl⟩
                rw [E1.out, ← hla]
                have KW : Keep [bs] wc ((w'.setCell ⟨bs, 4, none⟩ (.int .i64 la)).alloc (.cells #[.int .i64 (cl p.ld 70368744177664), .int .i64 (d' + cl y.ht 70368744177664)] 3)) := ((KD.mono (by simp)).set (.inl (by simp)) _).alloc _
                have R6 : SlabRel g w.heap.size w ((w'.setCell ⟨bs, 4, none⟩ (.int .i64 la)).alloc (.cells #[.int .i64 (cl p.ld 70368744177664), .int .i64 (d' + cl y.ht 70368744177664)] 3)) u8 out' m2 := ⟨own_keep R5.own KW (by simpa using hob), R5.isM.keep KW (by simp; omega), R5.ok, R5.keep.then KW (by simp; omega), KW.blk R5.blk (by simp; omega)⟩
                have P6 := KW.blk P5 (by simp; omega)
                have S6 := blk_alloc ((blk_set (KD.blk S5 (by simp)) 4 (.int .i64 la)).trans (by simp; rfl)) (.cells #[.int .i64 (cl p.ld 70368744177664), .int .i64 (d' + cl y.ht 70368744177664)] 3)
                generalize (w'.setCell ⟨bs, 4, none⟩ (.int .i64 la)).alloc (.cells #[.int .i64 (cl p.ld 70368744177664), .int .i64 (d' + cl y.ht 70368744177664)] 3) = W6 at *
                have Hla := hid hla
                clear hla R5 P5 S5 KD KW hkc hkf hkl hks hK f0 f1 f2 f3 n1 n2 E1
                have hol : (out'.length + 1) * 72 ≤ 140737488355328 := by have := congrArg List.length HA4.out; simp at this; omega
                by_cases hk0 : k = 0
                · subst hk0
                  have q0 := blk_cell P6 3
                  simp only [List.getElem?_toArray, List.getElem?_cons_zero, List.getElem?_cons_succ] at q0
                  go_wp2_with fail
                  refine (held17_any _ _ _ (by omega)).mono ?_
                  rintro e w7 ⟨rfl, K7⟩
                  have R7 : SlabRel g w.heap.size w w7 u8 out' m2 := ⟨own_keep R6.own K7 (by simp), R6.isM.keep K7 (by simp), R6.ok, R6.keep.then K7 (by simp), K7.blk R6.blk (by simp)⟩
                  have P7 := K7.blk P6 (by simp)
                  have S7 := K7.blk S6 (by simp)
                  clear R6 P6 S6 q0 K7
                  have y5 := blk_free S7 5
                  have KS : Keep [bs] w7 (w7.setCell ⟨bs, 5, none⟩ (.int .i64 (cl p.sk 70368744177664))) := (Keep.refl _ _).set (.inl (by simp)) _
                  have R8 : SlabRel g w.heap.size w (w7.setCell ⟨bs, 5, none⟩ (.int .i64 (cl p.sk 70368744177664))) u8 out' m2 := ⟨own_keep R7.own KS (by simpa using hob), R7.isM.keep KS (by simp; omega), R7.ok, R7.keep.then KS (by simp; omega), KS.blk R7.blk (by simp; omega)⟩
                  have P8 := KS.blk P7 (by simp; omega)
                  have hN : Slab.row (slabAt d' i 0 x.l.length p y) = [.int .i64 i, .int .i64 0, .int .i64 (cl y.ht 70368744177664), .int .i64 (cl y.dp 70368744177664), .int .i64 la, .int .i64 (cl p.sk 70368744177664), .int .i64 (cl p.tl 10000), .int .i64 0, .int .i64 x.l.length] := by rw [Hla.out]; rfl
                  have HN := hid hN
                  clear hN KS P7 R7
                  have x0 := blk_cell S7 0
                  have x1 := blk_cell S7 1
                  have x2 := blk_cell S7 2
                  have x3 := blk_cell S7 3
                  have x4 := blk_cell S7 4
                  have x5 := blk_cell S7 5
                  have x6 := blk_cell S7 6
                  have x7 := blk_cell S7 7
                  have x8 := blk_cell S7 8
                  simp only [List.getElem?_toArray, List.getElem?_cons_zero, List.getElem?_cons_succ] at x0 x1 x2 x3 x4 x5 x6 x7 x8
                  go_wp2_with (at_builtin; (refine append_cells rfl _ _ 49 (.agg #[.int .i64 0, .int .i64 0, .int .i64 0, .int .i64 0, .int .i64 0, .int .i64 0, .int .i64 0, .int .i64 0, .int .i64 0]) 9 72 rfl (by kernel_rfl) (by kernel_rfl) (by kernel_rfl) (by decide) (by decide) w.heap.size u8 out'.length _ rfl rfl (by simp) rfl (by simp [Value.oneCell']) R8.own (Nat.le_of_lt (blk_lt R8.blk)) hol ?_; rintro v1 w9 hown hgr))
                  have R9 : SlabRel g w.heap.size w w9 v1 (out' ++ [slabAt d' i 0 x.l.length p y]) m2 := R8.grown hgr (by rw [HN.out]; exact hown)
                  have P9 := blk_grown (blk_alloc P8 _) hgr (own_ne R8.own P8 (by decide))
                  go_wp2
                  go_roundw
                  case rel => exact ⟨0 + 1, _, _, m2, hlt3, by go_num, rfl, (cl_range _ (by omega)).1, (cl_range _ (by omega)).2, HA4, hid (HC5.out.trans (by simp; congr 1; have := Hq.out; omega)), R9, P9⟩
                  case measure => simp [intOf]; omega
                · have x0 := blk_cell S6 0
                  have x1 := blk_cell S6 1
                  have x2 := blk_cell S6 2
                  have x3 := blk_cell S6 3
                  have x4 := blk_cell S6 4
                  have x5 := blk_cell S6 5
                  have x6 := blk_cell S6 6
                  have x7 := blk_cell S6 7
                  have x8 := blk_cell S6 8
                  simp only [List.getElem?_toArray, List.getElem?_cons_zero, List.getElem?_cons_succ] at x0 x1 x2 x3 x4 x5 x6 x7 x8
                  have hN : Slab.row (slabAt d' i k x.l.length p y) = [.int .i64 i, .int .i64 k, .int .i64 (cl y.ht 70368744177664), .int .i64 (cl y.dp 70368744177664), .int .i64 la, .int .i64 0, .int .i64 (cl p.tl 10000), .int .i64 k, .int .i64 x.l.length] := by rw [Hla.out]; unfold Slab.row slabAt; rw [if_neg hk0]
                  have HN := hid hN
                  clear hN
                  go_wp2_with (at_builtin; (refine append_cells rfl _ _ 49 (.agg #[.int .i64 0, .int .i64 0, .int .i64 0, .int .i64 0, .int .i64 0, .int .i64 0, .int .i64 0, .int .i64 0, .int .i64 0]) 9 72 rfl (by kernel_rfl) (by kernel_rfl) (by kernel_rfl) (by decide) (by decide) w.heap.size u8 out'.length _ rfl rfl (by simp) rfl (by simp [Value.oneCell']) R6.own (Nat.le_of_lt (blk_lt R6.blk)) hol ?_; rintro v1 w9 hown hgr))
                  have R9 : SlabRel g w.heap.size w w9 v1 (out' ++ [slabAt d' i k x.l.length p y]) m2 := R6.grown hgr (by rw [HN.out]; exact hown)
                  have P9 := blk_grown (blk_alloc P6 _) hgr (own_ne R6.own P6 (by decide))
                  go_wp2
                  go_roundw
                  case rel => exact ⟨k + 1, _, _, m2, hlt3, by go_num, rfl, (cl_range _ (by omega)).1, (cl_range _ (by omega)).2, HA4, hid (HC5.out.trans (by simp; congr 1; have := Hq.out; omega)), R9, P9⟩
                  case measure => simp [intOf]; omega
        · obtain rfl : k = x.l.length := by omega
          have HA5 : Hid (ALL = out' ++ slabsAll d' (i + 1) (ps.drop (i + 1)) (ls.drop (i + 1))) := by
            have h := HA3.out
            rw [List.drop_length] at h
            exact hid h
          clear HA3
          go_wp2
          go_roundw
          case rel => exact ⟨i + 1, d', out', m', hlt2, by go_num, rfl, hd'0, hd'1, HA5, HC3, R⟩
          case measure => simp [intOf]; omega
    · obtain rfl : i = ps.length := by omega
      have HA5 : ALL = out := by
        have h := HA.out
        rw [List.drop_length] at h
        simpa [slabsAll] using h
      have HF := hid (show chargeN m0 ALL.length = (true, m) by rw [HC.out, HA5, Nat.sub_self]; rfl)
      have HE := hid HA5
      clear HA5 HA HC
      have x0 := blk_cell R.blk 0
      have x1 := blk_cell R.blk 1
      have y0 := blk_free R.blk 0
      have y1 := blk_free R.blk 1
      have hgb : some w.heap.size ≠ u8.ownBlock := own_ne R.own R.blk (by decide)
      simp only [List.getElem?_toArray, List.getElem?_cons_zero, List.getElem?_cons_succ] at x0 x1
      go_wp2
      refine bodyPost_ret (v := .tuple #[u8, .agg #[.int .i64 0, .int .i64 0]]) (by simp [results, Try.results38, go_sem, x0, x1, y0, y1]) rfl (show SlabsPost g m0 (slabsAll 0 0 ps ls) w _ _ from ⟨u8, ?_, ?_, ?_, ?_⟩)
      · rw [← HALL.out, HF.out]; simp
      · rw [← HALL.out, HF.out, HE.out]; exact own_keep R.own (((Keep.refl [w.heap.size] _).set (.inl (by simp)) _).set (.inl (by simp)) _) (by simpa using hgb)
      · rw [← HALL.out, HF.out]; exact blk_far (blk_far R.isM (by simp; omega) _) (by simp; omega) _
      · exact (R.keep.set (.inr (by simp)) _).set (.inr (by simp)) _

end Go.Proofs.Ytgelccenbceeoaa
