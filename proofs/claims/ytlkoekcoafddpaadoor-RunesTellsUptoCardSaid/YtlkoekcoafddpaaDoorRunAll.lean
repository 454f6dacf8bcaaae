/- Runes: All, the iterator over a text's runes, by contracts. -/
import Derived.Test.YtlkoekcoafddpaaDoorRunSmall
import Derived.RangeFuncNested
import Derived.RangeFuncBound
import Derived.RangeFuncCalls
import Derived.RangeFuncLeaves
import Derived.Shelf.Abstract
import Derived.Shelf.RegionOpen
import Derived.OwnWalkIn
import Derived.TacticsInMore
import Derived.LoopNIn
import Derived.LoopIn
namespace Go.Proofs.YtlkoekcoafddpaaDoor
open Go.RowKit Go.Lib Go.Shelf
set_option linter.unusedSimpArgs false
set_option linter.unusedVariables false
attribute [local go_sem] Oper.semAt_some

theorem all_any (s : ByteArray) (w : World) : Calls Tryd.prog 23 #[.string s] w fun e w' =>
    e = .returned (.func (.func 29) #[] #[.pointer (some ⟨w.heap.size, 0, none⟩)]) ∧ w' = w.alloc (.cells #[.string s] 9) := by
  go_enter Tryd.func23, Tryd.ntmps23
  go_wp2
  go_ret
  exact ⟨rfl, rfl⟩

/-- A rune of a text, by its place; how it is handed to yield. -/
structure RuneOf (s : ByteArray) where
  i : Nat
  lt : i < s.size
  ok : offAt s i = none
def prj {s : ByteArray} (x : RuneOf s) : Nat × Nat := (x.1, runeAt s x.1)
def rEnc {s : ByteArray} (x : RuneOf s) : Array Value := #[.int .i64 (x.1 : Int), .int .i32 (runeAt s x.1 : Int)]
/-- What a round that goes on keeps: iterators, what lay below, the text's own box. -/
structure KpS (base Bs : Nat) (A B : World) : Prop where
  wk : KeepsWalks A B
  bl : Below base A B
  bx : ∀ o, A.heap[Bs]? = some o → B.heap[Bs]? = some o
theorem KpS.trans {base Bs : Nat} {A B C : World} (h : KpS base Bs A B) (k : KpS base Bs B C) : KpS base Bs A C := ⟨h.wk.trans k.wk, h.bl.trans k.bl, fun o ho => k.bx o (h.bx o ho)⟩
theorem KpS.putObj {base Bs : Nat} {w : World} (hb : base ≤ w.heap.size) (hB : Bs < w.heap.size) (W : World) (l : Nat) (o o' : Obj) (hl : w.heap.size ≤ l) (h : W.heap[l]? = some o) (hc : o.isCells = false) (hw : o.isWalk = false) : KpS base Bs W (W.putObj l o') :=
  ⟨KeepsWalks.putObj _ h hw, belowK_b hb W l o o' hl h hc hw, fun o'' ho => ((grownBy_putObj' W l o').block Bs (Array.getElem?_eq_some_iff.1 ho).1 (fun e => by cases e; omega)).trans ho⟩
theorem keep_grown {w w' : World} (k : Keep [] w w') : w.grownBy w' none := ⟨k.os, k.tape, k.output, k.size, fun i hi _ => k.block i hi (by simp)⟩
theorem iter_grown (w : World) (k : Nat) (s : ByteArray) (p : Nat) : w.grownBy (w.iterAt k s p) (some k) := ⟨rfl, rfl, rfl, by rw [iterAt_size]; exact Nat.le_refl _, fun i hi hn => iterAt_other w k i s p (fun e => hn (by rw [e]))⟩
theorem Tabs.below {base : Nat} {w w' : World} (h : Tabs w) (k : Below base w w') (hb : 2 ≤ base) : Tabs w' :=
  ⟨fun c hc => (k.cell (p := ⟨0, c, none⟩) (by simp; omega)).trans (h.1 c hc), fun i hi => ⟨(k.cell (p := ⟨1, 2 * i, none⟩) (by simp; omega)).trans (h.2 i hi).1, (k.cell (p := ⟨1, 2 * i + 1, none⟩) (by simp; omega)).trans (h.2 i hi).2⟩⟩

theorem broken_good (s : ByteArray) (i : Nat) (h : i < s.size) (hs : s.size ≤ 9223372036854775807) (ho : offAt s i = none) (w : World) (T : Tabs w) : Calls Tryd.prog 27 #[.string s, .int .i64 (i : Int), .int .i32 (runeAt s i : Int)] w fun e w' => e = .returned (.bool false) ∧ Keep [] w w' := by
  have := broken_any s i h hs w T
  rw [decode_good ho, ho] at this
  exact this
theorem broken_bad (s : ByteArray) (i k : Nat) (h : i < s.size) (hs : s.size ≤ 9223372036854775807) (ho : offAt s i = some k) (w : World) (T : Tabs w) : Calls Tryd.prog 27 #[.string s, .int .i64 (i : Int), .int .i32 65533] w fun e w' => e = .returned (.bool true) ∧ Keep [] w w' := by
  have := broken_any s i h hs w T
  rw [decode_bad ho, ho] at this
  exact this

set_option maxRecDepth 100000 in
set_option maxHeartbeats 2000000 in
theorem runes_stops (n : Nat) (hn : 1 ≤ n) (Bs base : Nat) (s : ByteArray) (hs : s.size ≤ 9223372036854775807) (w : World) (T : Tabs w) (hb : 2 ≤ base) (hbw : base ≤ w.heap.size) (hBs : w.heap[Bs]? = some (.cells #[.string s] 9 (0, 0))) :
    SeqStopsK Fence.wide n Tryd.prog 29 #[.pointer (some ⟨Bs, 0, none⟩)] (rEnc (s := s)) (KpS base Bs) (fun xs => xs.map prj = runesFrom s 0) (fun pre => pre.map prj <+: runesFrom s 0) (runesFrom s 0).length w := by
  intro l J Jx W hW hJ hJx hY h0
  have hBW := (hW.block Bs (blk_lt hBs)).trans hBs
  have TW : Tabs W := T.below (hW.mono hbw) hb
  have hsz := hW.size
  have c0 : W.cell? ⟨Bs, 0, none⟩ = some (.string s) := blk_cell hBW 0
  refine callsIn_of_wp Tryd.func29 rfl trivial ?_ rfl
  simp only [Tryd.ntmps29, List.size_toArray, List.length_cons, List.length_nil, Nat.reduceAdd, Nat.reduceSub, Array.replicate_succ, Array.replicate_zero, List.push_toArray, List.append_toArray, List.nil_append, List.cons_append]
  gi_wp2
  have N0 := World.iter_heap W s 0
  have J0 : J [] (W.iter s 0) := hJ _ _ _ none h0 (World.grownBy_alloc _ _ _) (fun r e => nomatch e)
  have B0 : Below base W (W.iter s 0) := (Below.refl _ _).alloc (by omega) _
  have X0 : (W.iter s 0).heap[Bs]? = some (.cells #[.string s] 9 (0, 0)) := blk_alloc hBW _
  have S0 : W.heap.size ≤ (W.iter s 0).heap.size := by simp [World.iter]
  generalize W.iter s 0 = W0 at *
  clear c0
  gi_loopw [3, 4] (fun _ _ wr => ∃ (i : Nat) (pre : List (RuneOf s)), i ≤ s.size ∧ wr.heap[W.heap.size]? = some (.stringIter s i) ∧ Hid (pre.map prj ++ runesFrom s i = runesFrom s 0) ∧ J pre wr ∧ Below base W wr ∧ wr.heap[Bs]? = some (.cells #[.string s] 9 (0, 0)) ∧ W.heap.size ≤ wr.heap.size) (fun _ _ w' => s.size - w'.iterPos W.heap.size)
  case atStart => exact ⟨0, [], Nat.zero_le _, N0, hid rfl, J0, B0, X0, S0⟩
  case round =>
    clear N0 J0 B0 X0 S0
    obtain ⟨i, pre, hi, N, HP, hJs, K, hB, hS⟩ := hrel
    have c0 : wr.cell? ⟨Bs, 0, none⟩ = some (.string s) := blk_cell hB 0
    have hne : Bs ≠ W.heap.size := by have := blk_lt hBW; omega
    by_cases hlt : i < s.size
    · cases ho : offAt s i with
      | none =>
        have hnx : ∀ ty, (Instr.next (.pointer (some ⟨W.heap.size, 0, none⟩)) true ty).run Tryd.prog wr = .ok (.tuple #[.bool true, .int .i64 (i : Int), .int .i32 (runeAt s i : Int)]) (wr.iterAt W.heap.size s (i + wideAt s i)) := fun ty => by
          have := run_next_any_at (P := Tryd.prog) wr W.heap.size s i ty N hlt
          rw [decode_good ho] at this
          exact this
        have N1 := iterAt_heap wr W.heap.size s i (i + wideAt s i) N
        have G1 := iter_grown wr W.heap.size s (i + wideAt s i)
        have J1 : J pre (wr.iterAt W.heap.size s (i + wideAt s i)) := hJ _ _ _ _ hJs G1 (fun r e => by cases e; exact ⟨Nat.le_refl _, _, N, rfl⟩)
        have hB1 := (iterAt_other wr W.heap.size Bs s (i + wideAt s i) hne).trans hB
        have c1 : (wr.iterAt W.heap.size s (i + wideAt s i)).cell? ⟨Bs, 0, none⟩ = some (.string s) := blk_cell hB1 0
        have bl1 : Below base W (wr.iterAt W.heap.size s (i + wideAt s i)) := below_iterAt K (by omega) _ _
        have S1 : W.heap.size ≤ (wr.iterAt W.heap.size s (i + wideAt s i)).heap.size := by rw [iterAt_size]; exact hS
        have HC := broken_good s i hlt (by omega) ho (wr.iterAt W.heap.size s (i + wideAt s i)) (TW.below bl1 hb)
        have hp1 := iterPos_of N
        obtain ⟨hw, hle⟩ := at_wide hlt ho
        have HR := hid (runes_good hlt ho).1
        clear N hJs K hS c0
        gi_wp2_with fail
        refine ⟨trivial, (callsIn_wide.2 HC).mono ?_⟩
        rintro e w2 ⟨rfl, K2⟩
        have N2 := K2.blk N1 (by simp)
        have hB2 := K2.blk hB1 (by simp)
        have bl2 : Below base W w2 := bl1.trans (K2.below (by omega) (by simp))
        have J2 : J pre w2 := hJ _ _ _ none J1 (keep_grown K2) (fun r e => nomatch e)
        have S2 : W.heap.size ≤ w2.heap.size := Nat.le_trans S1 K2.size
        have hlen : pre.length < (runesFrom s 0).length := by rw [← HP.out, HR.out]; simp
        obtain ⟨fn, tmps, assign, body, hy, hR⟩ := hY pre ⟨i, hlt, ho⟩ w2 J2 hlen
        dsimp only [rEnc] at hy
        have HW := hid (And.intro N2 (And.intro hB2 (And.intro bl2 S2)))
        clear HC N1 hB1 bl1 S1 J1 G1 N2 hB2 bl2 S2 J2 hnx c1 K2
        gi_wp2
        refine hR.mono ?_
        obtain ⟨N2, hB2, bl2, S2⟩ := HW.out
        rintro e W3 (⟨rfl, hJ3, hk3⟩ | ⟨rfl, hJx3⟩)
        · have N3 := hk3.wk.same _ _ N2 rfl
          have hB3 := hk3.bx _ hB2
          have hp3 := iterPos_of N3
          have HP3 : Hid ((pre ++ [(⟨i, hlt, ho⟩ : RuneOf s)]).map prj ++ runesFrom s (i + wideAt s i) = runesFrom s 0) := hid (by rw [← HP.out, HR.out]; simp [prj])
          gi_wp2
          go_roundw
          case rel => exact ⟨i + wideAt s i, _, hle, N3, HP3, hJ3, bl2.trans hk3.bl, hB3, Nat.le_trans S2 hk3.wk.size⟩
          case measure => rw [hp1, hp3]; omega
        · have hpf : (pre ++ [(⟨i, hlt, ho⟩ : RuneOf s)]).map prj <+: runesFrom s 0 := by rw [← HP.out, HR.out]; exact ⟨runesFrom s (i + wideAt s i), by simp [prj]⟩
          gi_wp2
          refine bodyPost_ret (results_none rfl _ _ _) rfl ?_
          exact ⟨⟨_, rfl⟩, .inr ⟨_, hpf, hJx3⟩⟩
      | some k =>
        have hnx : ∀ ty, (Instr.next (.pointer (some ⟨W.heap.size, 0, none⟩)) true ty).run Tryd.prog wr = .ok (.tuple #[.bool true, .int .i64 (i : Int), .int .i32 65533]) (wr.iterAt W.heap.size s (i + 1)) := fun ty => by
          have := run_next_any_at (P := Tryd.prog) wr W.heap.size s i ty N hlt
          rw [decode_bad ho] at this
          exact this
        have G1 := iter_grown wr W.heap.size s (i + 1)
        have J1 : J pre (wr.iterAt W.heap.size s (i + 1)) := hJ _ _ _ _ hJs G1 (fun r e => by cases e; exact ⟨Nat.le_refl _, _, N, rfl⟩)
        have hB1 := (iterAt_other wr W.heap.size Bs s (i + 1) hne).trans hB
        have c1 : (wr.iterAt W.heap.size s (i + 1)).cell? ⟨Bs, 0, none⟩ = some (.string s) := blk_cell hB1 0
        have bl1 : Below base W (wr.iterAt W.heap.size s (i + 1)) := below_iterAt K (by omega) _ _
        have HC := broken_bad s i k hlt (by omega) ho (wr.iterAt W.heap.size s (i + 1)) (TW.below bl1 hb)
        have HR := (runes_bad hlt ho).1
        have HPF : pre.map prj = runesFrom s 0 := by rw [← HP.out, HR]; simp
        clear hJs K hS c0 HR
        gi_wp2_with fail
        refine ⟨trivial, (callsIn_wide.2 HC).mono ?_⟩
        rintro e w2 ⟨rfl, K2⟩
        have J2 : J pre w2 := hJ _ _ _ none J1 (keep_grown K2) (fun r e => nomatch e)
        gi_wp2
        refine ⟨(fun f h => nomatch h), ?_⟩
        gi_wp2
        refine bodyPost_ret (results_none rfl _ _ _) rfl ?_
        exact ⟨⟨_, rfl⟩, .inl ⟨_, HPF, J2⟩⟩
    · obtain rfl : i = s.size := by omega
      have hnx : ∀ ty, (Instr.next (.pointer (some ⟨W.heap.size, 0, none⟩)) true ty).run Tryd.prog wr = _ := fun ty => run_next_end_at wr W.heap.size s s.size ty N hlt
      have HPF : pre.map prj = runesFrom s 0 := by rw [← HP.out, (runes_end hlt).1]; simp
      gi_wp2
      go_end0
      exact ⟨⟨_, rfl⟩, .inl ⟨_, HPF, hJs⟩⟩

end Go.Proofs.YtlkoekcoafddpaaDoor
