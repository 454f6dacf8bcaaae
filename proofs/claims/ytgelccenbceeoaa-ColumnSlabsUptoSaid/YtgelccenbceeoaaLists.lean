/- Lists of slabs: appended whole, compared. -/
import Derived.Test.YtgelccenbceeoaaColumn
import Derived.Maps.AppendAt
namespace Go.Proofs.Ytgelccenbceeoaa
open Go.RowKit
set_option linter.unusedSimpArgs false
set_option linter.unusedVariables false

theorem flat_get {α : Type} {enc : α → List Value} {sz : Nat} (hsz : ∀ x, (enc x).length = sz) : ∀ (xs : List α) (i j : Nat) (x : α) (v : Value), xs[i]? = some x → (enc x)[j]? = some v → (xs.flatMap enc)[i * sz + j]? = some v
  | [], i, j, x, v, h, _ => by simp at h
  | y :: ys, 0, j, x, v, h, hv => by
    simp at h
    subst h
    rw [List.flatMap_cons, Nat.zero_mul, Nat.zero_add, List.getElem?_append_left (List.getElem?_eq_some_iff.mp hv).1]
    exact hv
  | y :: ys, i + 1, j, x, v, h, hv => by
    simp at h
    rw [List.flatMap_cons, Nat.add_mul, Nat.one_mul, List.getElem?_append_right (by rw [hsz]; omega), hsz]
    have e : i * sz + sz + j - sz = i * sz + j := by omega
    rw [e]
    exact flat_get hsz ys i j x v h hv

/-- A row of its own, as a list that is read. -/
theorem own_rd {α : Type} {enc : α → List Value} {sz : Nat} {w : World} {base : Nat} {e : TypeId} {v : Value} {xs : List α} (hsz : ∀ x, (enc x).length = sz) (h : w.ownsRow base e sz v xs.length (xs.flatMap enc)) :
    ∃ A cap, v = .slice A xs.length cap ∧ xs.length ≤ cap ∧ Rd enc sz w A xs ∧ (∀ ad, A = some ad → ∃ g cur, ad = ⟨g, 0, none⟩ ∧ base ≤ g ∧ w.heap[g]? = some (.cells cur e (0, 0)) ∧ cur.size = cap * sz) := by
  rcases h.2 with ⟨rfl, h0⟩ | ⟨g, cap, cur, rfl, hb, hh, h1, h2, h3, h4⟩
  · refine ⟨none, 0, by rw [h0], by omega, ?_, fun ad h => by simp at h⟩
    rw [List.eq_nil_of_length_eq_zero h0]
    exact Rd.nil _ _ _ _
  · refine ⟨some ⟨g, 0, none⟩, cap, rfl, h1, Rd.of_block hh (fun i x j v hx hv => ?_), fun ad h => ⟨g, cur, (Option.some.inj h).symm, hb, hh, h3⟩⟩
    have hf := flat_get hsz xs i j x v hx hv
    rw [← h4, List.getElem?_take] at hf
    split at hf
    · simpa using hf
    · simp at hf

theorem flat_len {α : Type} {enc : α → List Value} {sz : Nat} (hsz : ∀ x, (enc x).length = sz) (xs : List α) : (xs.flatMap enc).length = xs.length * sz := by
  induction xs with
  | nil => simp
  | cons x r ih => rw [List.flatMap_cons, List.length_append, ih, hsz, List.length_cons, Nat.add_mul]; omega

/-- The cells of a list that is read, one by one. -/
theorem Rd.cells {α : Type} {enc : α → List Value} {sz : Nat} {w : World} {ad : Addr} {xs : List α} (h : Rd enc sz w (some ad) xs) (hsz : ∀ x, (enc x).length = sz) (h0 : 0 < sz) (j : Nat) (u : Value) (hj : (xs.flatMap enc)[j]? = some u) : w.cell? (ad.add j) = some u := by
  have hlt := (List.getElem?_eq_some_iff.1 hj).1
  rw [flat_len hsz] at hlt
  have hq : j / sz < xs.length := Nat.div_lt_of_lt_mul (by rw [Nat.mul_comm]; exact hlt)
  have hr : j % sz < sz := Nat.mod_lt _ h0
  obtain ⟨x, hx⟩ : ∃ x, xs[j / sz]? = some x := ⟨_, List.getElem?_eq_getElem hq⟩
  obtain ⟨v, hv⟩ : ∃ v, (enc x)[j % sz]? = some v := ⟨_, List.getElem?_eq_getElem (by rw [hsz]; exact hr)⟩
  obtain ⟨ad', he, hc⟩ := h _ x hx
  obtain rfl := Option.some.inj he
  have h1 := hc _ v hv
  have h2 := flat_get hsz xs _ _ x v hx hv
  have e : j / sz * sz + j % sz = j := by rw [Nat.mul_comm]; exact Nat.div_add_mod j sz
  rw [e] at h1 h2
  rw [hj] at h2
  rw [h1, Option.some.inj h2]

theorem run_append_of_nil {P : Program} (w : World) (base : Nat) (t ty e : TypeId) (i : TypeInfo) (size : Nat) (ht : P.underlying t = some (.slice e)) (hi : P.info? e = some i)
    (v : Value) (n : Nat) (xs : List Value) (hown : w.ownsRow base e size v n xs) (c : Nat) : (Builtin.append_ #[t, t] ty #[v, .slice none 0 c]).run P w = .ok v w := by
  rcases hown.2 with ⟨rfl, rfl⟩ | ⟨g, cap, cur, rfl, _, _, hnc, _⟩
  · simp [Builtin.append_, run_underlying ht, sizeOf, typeInfo, hi, Builtin.lenOf, Builtin.firstCells]
  · simp [Builtin.append_, run_underlying ht, sizeOf, typeInfo, hi, Builtin.lenOf, Builtin.firstCells, hnc, storeCells]

/-- append(v, l...), l a list that is read: nil, empty or not. -/
theorem append_list {α : Type} {enc : α → List Value} {P : Program} {ops : Array Oper} {rest : List Oper} {o : Oper} {a : Act} {Q : Exit → Act → World → Prop} {W : World} (hgd : o.guard = none) (s x : Operand) (t : TypeId) {e : TypeId} (z : Value) (size bytes : Nat)
    (ho : o.op = .call { callee := .builtin .append, args := #[s, x], argTypes := #[t, t] })
    (ht : P.underlying t = some (.slice e)) (hinfo : (P.info? e).map (fun i => (i.zero, i.size, i.bytes)) = some (some z, size, bytes)) (hz : z.cells.size = size) (hs0 : 0 < size) (hb0 : 0 < bytes) (base : Nat)
    (v : Value) (n : Nat) (xs : List Value) {ls : List α} {A : Option Addr} {m c : Nat} (hs : a.eval s = v) (hx : a.eval x = .slice A m c) (hm : ls.length = m) (hA : A = none → m = 0) (hr : Rd enc size W A ls) (hsz : ∀ y, (enc y).length = size) (h1 : ∀ y, ∀ u ∈ enc y, u.oneCell' = true)
    (HO : W.ownsRow base e size v n xs) (hbase : base ≤ W.heap.size) (hl : (n + m) * bytes ≤ 140737488355328)
    (h : ∀ v1 w1, w1.ownsRow base e size v1 (n + m) (xs ++ ls.flatMap enc) → W.grownBy w1 v.ownBlock → wpList P ops Q rest (a.put o.dst v1) w1) :
    wpList P ops Q (o :: rest) a W := by
  obtain ⟨i0, hi, hz0, hz1, hz2⟩ := info_parts hinfo
  have hlen : n + m ≤ 140737488355328 := Nat.le_trans (Nat.le_mul_of_pos_right _ hb0) hl
  rcases A with _ | ad
  · obtain rfl := hA rfl
    obtain rfl := List.eq_nil_of_length_eq_zero hm
    refine wpList_plain hgd fun K hK => ?_
    have hrun := run_append_of_nil (P := P) W base t o.type e i0 size ht hi v n xs HO c
    unfold Oper.wp execOp
    simp only [ho, resolve, invoke, builtin, Sem.run_bind, Sem.run_pure, Result.andThen_ok, List.map_toArray, List.map_cons, List.map_nil, hs, hx, hrun]
    exact hK _ _ (h v W (by simpa using HO) (World.grownBy.refl W _))
  · refine wpList_append_own_at W hgd s x t ho base e i0 z size bytes ht hi hz0 hz1 hz2 hz hs0 v n xs hs HO ad m c (ls.flatMap enc) hx (by rw [flat_len hsz, hm]) (fun j u hj => hr.cells hsz hs0 j u hj)
      (fun u hu => by obtain ⟨y, _, hy⟩ := List.mem_flatMap.1 hu; exact h1 y u hy) (by simp only [maxLen]; omega) hl hbase ?_
    intro v1 w1 hown hg _ _
    exact h v1 w1 hown hg

set_option maxHeartbeats 1600000 in
set_option maxRecDepth 100000 in
theorem sameSlabs_same (A B : Option Addr) (n m c d : Nat) (l : List Slab) (w : World) (hn : l.length = n) (hm : l.length = m) (hr : Rd Slab.row 9 w A l) (hs : Rd Slab.row 9 w B l) (hl : l.length ≤ 2147483648) :
    Calls Try.prog 36 #[.slice A n c, .slice B m d] w fun e w' => e = .returned (.bool true) ∧ Keep [] w w' := by
  subst hn hm
  go_enter Try.func36, Try.ntmps36
  go_wp2_with fail
  go_loopw [5] (fun vi wr => ∃ i : Nat, i ≤ l.length ∧ vi = .int .i64 i ∧ Keep [] w wr) (fun vi _ => l.length - (intOf vi).toNat)
  case atStart => exact ⟨0, Nat.zero_le _, rfl, Keep.refl _ _⟩
  case round =>
    obtain ⟨i, hi, rfl, K⟩ := hrel
    by_cases hlt : i < l.length
    · obtain ⟨y, hy⟩ : ∃ y, l[i]? = some y := ⟨l[i], List.getElem?_eq_getElem hlt⟩
      obtain ⟨ad, hA, hcs⟩ := hr.old K (by simp) i y hy
      obtain ⟨bd, hB, hds⟩ := hs.old K (by simp) i y hy
      subst hA hB
      have d0 := hcs 0 _ rfl
      have d1 := hcs 1 _ rfl
      have d2 := hcs 2 _ rfl
      have d3 := hcs 3 _ rfl
      have d4 := hcs 4 _ rfl
      have d5 := hcs 5 _ rfl
      have d6 := hcs 6 _ rfl
      have d7 := hcs 7 _ rfl
      have d8 := hcs 8 _ rfl
      have e0 := hds 0 _ rfl
      have e1 := hds 1 _ rfl
      have e2 := hds 2 _ rfl
      have e3 := hds 3 _ rfl
      have e4 := hds 4 _ rfl
      have e5 := hds 5 _ rfl
      have e6 := hds 6 _ rfl
      have e7 := hds 7 _ rfl
      have e8 := hds 8 _ rfl
      rw [add_at _ _ _ (by omega)] at d1 d2 d3 d4 d5 d6 d7 d8 e1 e2 e3 e4 e5 e6 e7 e8
      rw [Nat.add_zero] at d0 e0
      clear hcs hds hy
      go_upto_region 6 with (fail)
      go_quiet (fail)
      go_wp2
      go_roundw
      case rel => exact ⟨i + 1, hlt, by go_num, K.drewN _⟩
      case measure => simp [intOf]; omega
    · obtain rfl : i = l.length := by omega
      go_wp2
      go_ret
      exact ⟨rfl, K⟩

end Go.Proofs.Ytgelccenbceeoaa
