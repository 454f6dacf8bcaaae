/- append(b, make([]byte, m)...): a row of bytes grows by noughts. -/
import Derived.Test.YthcfgechifogeaaRow
import Derived.Maps.AppendAt
import Derived.Laws.CopyOwn
namespace Go.Proofs.Ythcfgechifogeaa
open Go.RowKit
set_option linter.unusedSimpArgs false
set_option linter.unusedVariables false

section
variable {P : Program}

theorem zeroCells_u8 (m : Nat) : Builtin.zeroCells (Value.cells (.int .u8 0)) m = Array.replicate m (Value.int .u8 0) := by
  apply Array.ext'
  apply List.ext_getElem?
  intro j
  simp [Builtin.zeroCells, Value.cells, List.getElem?_replicate, List.getElem?_range, Nat.mod_one]
  by_cases h : j < m <;> simp [h]
theorem run_zeros_nil (w : World) (t tx ty e : TypeId) (i : TypeInfo) (ht : P.underlying t = some (.slice e)) (hk : P.underlying tx = some (.int .i64)) (hi : P.info? e = some i) (hz : i.zero = some (.int .u8 0)) (hsize : i.size = 1) (hby : i.bytes = 1)
    (m : Nat) (h0 : 0 < m) (hm : m ≤ 140737488355328) :
    (Builtin.append_ #[t, tx] ty #[.slice none 0 0, .int .i64 m]).run P w =
      .ok (.slice (some ⟨w.heap.size, 0, none⟩) m (grownCap w m 0 e)) (w.drew.alloc (.cells (Array.replicate m (Value.int .u8 0) ++ Array.replicate (grownCap w m 0 e - m) (Value.int .u8 0)) e)) := by
  have hn : m ≠ 0 := by omega
  have hw : IntKind.i64.wrap (m : Int) = (m : Int) := by rw [IntKind.wrap_i64]; omega
  have hneg : ¬ (m : Int) < 0 := by omega
  have hbig : ¬ (281474976710656 : Int) < (m : Int) := by omega
  have h63' : ¬ (9223372036854775807 < (m : Int)) := by omega
  have h48' : ¬ (281474976710656 < Builtin.nextslicecap m 0) := by rw [nextslicecap_zero h0]; omega
  simp [-Array.replicate_append_replicate, Builtin.append_, run_underlying ht, run_underlying hk, sizeOf, typeInfo, zeroValue, hi, hz, Builtin.lenOf, asInt, asIntOf, hw, hneg, hbig, hsize, hby, hn, h63', h48', Question.forced, run_firstCells_none, newRow, grownCap, zeroCells_u8]
theorem run_zeros_room (w : World) (t tx ty e : TypeId) (i : TypeInfo) (ht : P.underlying t = some (.slice e)) (hk : P.underlying tx = some (.int .i64)) (hi : P.info? e = some i) (hz : i.zero = some (.int .u8 0)) (hsize : i.size = 1) (hby : i.bytes = 1)
    (g n c : Nat) (cur : Array Value) (hg : w.heap[g]? = some (.cells cur e (0, 0))) (m : Nat) (h0 : 0 < m) (hm : m ≤ 140737488355328) (hroom : n + m ≤ c) (hfit : n + m ≤ cur.size) :
    (Builtin.append_ #[t, tx] ty #[.slice (some ⟨g, 0, none⟩) n c, .int .i64 m]).run P w =
      .ok (.slice (some ⟨g, 0, none⟩) (n + m) c) (w.setRow g (cur.toList.take n ++ List.replicate m (Value.int .u8 0) ++ cur.toList.drop (n + m)).toArray) := by
  have hn : m ≠ 0 := by omega
  have hw : IntKind.i64.wrap (m : Int) = (m : Int) := by rw [IntKind.wrap_i64]; omega
  have hneg : ¬ (m : Int) < 0 := by omega
  have hbig : ¬ (281474976710656 : Int) < (m : Int) := by omega
  have hst := run_storeCells_at P g n e (List.replicate m (Value.int .u8 0)) 0 cur w hg (by simpa using hfit) (by intro u hu; rw [List.mem_replicate] at hu; rw [hu.2]; rfl)
  simp only [Nat.add_zero, List.length_replicate] at hst
  simp [Builtin.append_, run_underlying ht, run_underlying hk, sizeOf, typeInfo, zeroValue, hi, hz, Builtin.lenOf, asInt, asIntOf, hw, hneg, hbig, hsize, hby, hn, hroom, zeroCells_u8, Addr.add_lit, hst]
theorem run_zeros_grow (w : World) (t tx ty e : TypeId) (i : TypeInfo) (ht : P.underlying t = some (.slice e)) (hk : P.underlying tx = some (.int .i64)) (hi : P.info? e = some i) (hz : i.zero = some (.int .u8 0)) (hsize : i.size = 1) (hby : i.bytes = 1)
    (b : Addr) (n c : Nat) (olds : List Value) (hlo : olds.length = n) (holds : ∀ j v, olds[j]? = some v → w.cell? (b.add j) = some v) (m : Nat) (h0 : 0 < m) (hm : n + m ≤ 140737488355328) (hg : c < n + m) :
    (Builtin.append_ #[t, tx] ty #[.slice (some b) n c, .int .i64 m]).run P w =
      .ok (.slice (some ⟨w.heap.size, 0, none⟩) (n + m) (grownCap w (n + m) c e)) (w.drew.alloc (.cells (olds.toArray ++ Array.replicate m (Value.int .u8 0) ++ Array.replicate (grownCap w (n + m) c e - (n + m)) (Value.int .u8 0)) e)) := by
  have hn : m ≠ 0 := by omega
  have hw : IntKind.i64.wrap (m : Int) = (m : Int) := by rw [IntKind.wrap_i64]; omega
  have hneg : ¬ (m : Int) < 0 := by omega
  have hbig : ¬ (281474976710656 : Int) < (m : Int) := by omega
  have h63' : ¬ (9223372036854775807 < ((n : Int) + (m : Int))) := by omega
  have hnn : ¬ (n + m ≤ c) := by omega
  have h48' : ¬ (281474976710656 < Builtin.nextslicecap (n + m) c) := by have := growslice_fits (bytes := 1) hg (by omega); omega
  have hfo := run_firstCells_some (P := P) w.drew 1 n b n c olds (by omega) (by simpa using holds)
  simp [-Array.replicate_append_replicate, Builtin.append_, run_underlying ht, run_underlying hk, sizeOf, typeInfo, zeroValue, hi, hz, Builtin.lenOf, asInt, asIntOf, hw, hneg, hbig, hsize, hby, hn, hnn, h63', h48', Question.forced, hfo, newRow, grownCap, zeroCells_u8]

theorem grownCap_ok (w : World) (need old : Nat) (e : TypeId) (h : need ≤ 140737488355328) : grownCap w need old e ≤ maxLen := grownCap_le_maxLen w need old e (by simp only [maxLen]; omega)
/-- append(b, make([]byte, m)...), b a row of one's own. -/
theorem run_append_zeros (w : World) (base : Nat) (t tx ty e : TypeId) (i : TypeInfo) (ht : P.underlying t = some (.slice e)) (hk : P.underlying tx = some (.int .i64)) (hi : P.info? e = some i) (hz : i.zero = some (.int .u8 0)) (hsize : i.size = 1) (hby : i.bytes = 1)
    (v : Value) (n : Nat) (xs : List Value) (hown : w.ownsRow base e 1 v n xs) (m : Nat) (h0 : 0 < m) (hm : n + m ≤ 140737488355328) (hbase : base ≤ w.heap.size) :
    ∃ g c w', (Builtin.append_ #[t, tx] ty #[v, .int .i64 m]).run P w = .ok (.slice (some ⟨g, 0, none⟩) (n + m) c) w' ∧ w'.ownsRow base e 1 (.slice (some ⟨g, 0, none⟩) (n + m) c) (n + m) (xs ++ List.replicate m (Value.int .u8 0)) ∧
      w.grownBy w' v.ownBlock ∧ (v.ownBlock = some g ∨ g = w.heap.size) := by
  have hxl : xs.length = n := by simpa using hown.1
  have hlen : (xs ++ List.replicate m (Value.int .u8 0)).length = (n + m) * 1 := by simp [hxl]
  have grown : ∀ (old : Nat), old < n + m →
      (w.drew.alloc (.cells (xs.toArray ++ Array.replicate m (Value.int .u8 0) ++ Array.replicate (grownCap w (n + m) old e - (n + m)) (Value.int .u8 0)) e)).ownsRow base e 1
        (.slice (some ⟨w.heap.size, 0, none⟩) (n + m) (grownCap w (n + m) old e)) (n + m) (xs ++ List.replicate m (Value.int .u8 0)) := by
    intro old ho
    have hge := grownCap_ge w (n + m) old e
    refine ⟨hlen, .inr ⟨w.heap.size, _, _, rfl, hbase, heap_alloc_new w.drew _, hge, grownCap_ok w _ old e hm, ?_, ?_⟩⟩
    · simp [hxl]; omega
    · simp only [Array.toList_append, Array.toList_replicate]
      rw [← hlen]
      exact List.take_left
  have gb : ∀ cs (row : Option Nat), w.grownBy (w.drew.alloc (.cells cs e)) row := fun cs row => ⟨rfl, rfl, rfl, by simp, fun k hk _ => Below.heap_alloc w.drew _ k hk⟩
  rcases hown.2 with ⟨rfl, rfl⟩ | ⟨g, cap, cur, rfl, hbg, hg, hnc, hcm, hcs, htake⟩
  · have hx : xs = [] := List.eq_nil_of_length_eq_zero hxl
    subst hx
    have hr := run_zeros_nil (P := P) w t tx ty e i ht hk hi hz hsize hby m h0 (by omega)
    have hgr := grown 0 (by omega)
    simp only [Nat.zero_add, List.nil_append, Array.empty_append] at hgr ⊢
    exact ⟨_, _, _, hr, hgr, gb _ _, .inr rfl⟩
  · by_cases hroom : n + m ≤ cap
    · have hr := run_zeros_room (P := P) w t tx ty e i ht hk hi hz hsize hby g n cap cur hg m h0 (by omega) hroom (by omega)
      refine ⟨g, cap, _, hr, ⟨hlen, .inr ⟨g, cap, _, rfl, hbg, setRow_heap w g cur _ e _ hg, hroom, hcm, ?_, ?_⟩⟩, ⟨rfl, rfl, rfl, by simp, fun k _ hk => setRow_other w g k _ (fun e => hk (by simp [Value.ownBlock, e]))⟩, .inl rfl⟩
      · simp only [List.size_toArray, List.length_append, List.length_take, List.length_drop, Array.length_toList, List.length_replicate]
        omega
      · rw [← hlen]
        rw [Nat.mul_one] at htake
        rw [htake]
        exact List.take_left
    · have holds : ∀ j u, xs[j]? = some u → w.cell? ((⟨g, 0, none⟩ : Addr).add j) = some u := hown.cells (g := g) rfl
      have hr := run_zeros_grow (P := P) w t tx ty e i ht hk hi hz hsize hby ⟨g, 0, none⟩ n cap xs hxl holds m h0 hm (by omega)
      exact ⟨_, _, _, hr, grown cap (by omega), gb _ _, .inr rfl⟩

/-- append(b, make([]byte, m)...), b a literal's row without room. -/
theorem run_zeros_lit (w : World) (base : Nat) (t tx ty e : TypeId) (i : TypeInfo) (ht : P.underlying t = some (.slice e)) (hk : P.underlying tx = some (.int .i64)) (hi : P.info? e = some i) (hz : i.zero = some (.int .u8 0)) (hsize : i.size = 1) (hby : i.bytes = 1)
    (b : Addr) (n : Nat) (xs : List Value) (hxl : xs.length = n) (holds : ∀ j u, xs[j]? = some u → w.cell? (b.add j) = some u) (m : Nat) (h0 : 0 < m) (hm : n + m ≤ 140737488355328) (hbase : base ≤ w.heap.size) :
    ∃ g c w', (Builtin.append_ #[t, tx] ty #[.slice (some b) n n, .int .i64 m]).run P w = .ok (.slice (some ⟨g, 0, none⟩) (n + m) c) w' ∧ w'.ownsRow base e 1 (.slice (some ⟨g, 0, none⟩) (n + m) c) (n + m) (xs ++ List.replicate m (Value.int .u8 0)) ∧
      w.grownBy w' none ∧ (none = some g ∨ g = w.heap.size) := by
  have hlen : (xs ++ List.replicate m (Value.int .u8 0)).length = (n + m) * 1 := by simp [hxl]
  have hge := grownCap_ge w (n + m) n e
  refine ⟨_, _, _, run_zeros_grow (P := P) w t tx ty e i ht hk hi hz hsize hby b n n xs hxl holds m h0 hm (by omega), ⟨hlen, .inr ⟨w.heap.size, _, _, rfl, hbase, heap_alloc_new w.drew _, hge, grownCap_ok w _ n e hm, ?_, ?_⟩⟩, ⟨rfl, rfl, rfl, by simp, fun k hk _ => Below.heap_alloc w.drew _ k hk⟩, .inr rfl⟩
  · simp [hxl]; omega
  · simp only [Array.toList_append, Array.toList_replicate]
    rw [← hlen]
    exact List.take_left

theorem wpList_append_run {ops : Array Oper} {rest : List Oper} {o : Oper} {a : Act} {Q : Exit → Act → World → Prop} {w : World} (hgd : o.guard = none) (s x : Operand) (t tx : TypeId)
    (ho : o.op = .call { callee := .builtin .append, args := #[s, x], argTypes := #[t, tx] }) {v u : Value} (hs : a.eval s = v) (hx : a.eval x = u) {Post : Value → World → Prop} (hr : ∃ r w', (Builtin.append_ #[t, tx] o.type #[v, u]).run P w = .ok r w' ∧ Post r w')
    (h : ∀ r w', Post r w' → wpList P ops Q rest (a.put o.dst r) w') :
    wpList P ops Q (o :: rest) a w := by
  refine wpList_plain hgd fun K hK => ?_
  obtain ⟨r, w', hr, hp⟩ := hr
  unfold Oper.wp execOp
  simp only [ho, resolve, invoke, builtin, Sem.run_bind, Sem.run_pure, Result.andThen_ok, List.map_toArray, List.map_cons, List.map_nil, hs, hx, hr]
  exact hK _ _ (h _ _ hp)

/-- copy into a row that is known whole, in a region that draws its order. -/
theorem step_copy_row {ops : Array Oper} {o : Oper} {a : Act} {w : World} {K : Act → World → Prop} {Q : Exit → Act → World → Prop} {E : Prop} (hgd : o.guard = none) (d s : Operand) (dT sT : TypeId)
    (ho : o.op = .call { callee := .builtin .copy, args := #[d, s], argTypes := #[dT, sT] }) (elem : TypeId) (hu : P.underlying dT = some (.slice elem)) (hsz : (P.info? elem).map (·.size) = some 1)
    (g off dLen dCap : Nat) (ad : Addr) (sLen sCap : Nat) (hd : a.eval d = .slice (some ⟨g, off, none⟩) dLen dCap) (hs : a.eval s = .slice (some ad) sLen sCap)
    (cur : Array Value) (t : TypeId) (hg : w.heap[g]? = some (.cells cur t (0, 0))) (cs : List Value) (hn : cs.length = Nat.min sLen dLen)
    (hsrc : ∀ j v, cs[j]? = some v → w.cell? (ad.add j) = some v) (hfit : off + cs.length ≤ cur.size) (h1 : ∀ v ∈ cs, v.oneCell' = true)
    (h : K (a.put o.dst (goInt cs.length)) (w.setRow g (cur.toList.take off ++ cs ++ cur.toList.drop (off + cs.length)).toArray)) :
    if Region.wanted o (yielded ops a.tmps) = true then Oper.wp P o a w K Q else E := by
  have hw : Region.wanted o (yielded ops a.tmps) = true := by simp [Region.wanted, hgd]
  rw [if_pos hw]
  have hrun := run_copy_row (P := P) w dT sT o.type elem g off dLen dCap ad sLen sCap cur t cs hu hsz hg hn hsrc hfit h1
  unfold Oper.wp execOp
  simp only [ho, resolve, invoke, builtin, Sem.run_bind, Sem.run_pure, Result.andThen_ok, List.map_toArray, List.map_cons, List.map_nil, hd, hs, hrun]
  exact h
end
end Go.Proofs.Ythcfgechifogeaa
