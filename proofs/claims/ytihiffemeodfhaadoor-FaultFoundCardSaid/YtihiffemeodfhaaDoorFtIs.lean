/- Fault: errors.Is by contracts. -/
import Derived.Test.YtihiffemeodfhaaDoorRow
import Derived.LaidEql
import Derived.Stop.Asserts
import Derived.RowKitTokens
namespace Go.Proofs.YtihiffemeodfhaaDoor
open Go.RowKit Go.Extern.Stop Go.Stop Go.Extern
set_option linter.unusedSimpArgs false
set_option linter.unusedVariables false

/-- An error of the law's: a Located at a block; another; one wrapped. -/
inductive Er where
  | loc (b : Nat) (a k : Int)
  | oth
  | wrap (e : Er)
def Er.val : Er → Value
  | .loc b _ _ => .iface 36 (.pointer (some ⟨b, 0, none⟩))
  | .oth => .iface 42 (.agg #[])
  | .wrap e => .iface 44 (.agg #[e.val])
def Er.In (w : World) : Er → Prop
  | .loc b a k => w.heap[b]? = some (.cells #[.int .i64 a, .int .i64 k] 39 (0, 0))
  | .oth => True
  | .wrap e => e.In w
theorem Er.In.keep {w w' : World} (k : Keep [] w w') : ∀ {e : Er}, e.In w → e.In w'
  | .loc _ _ _, h => k.blk h (by simp)
  | .oth, _ => trivial
  | .wrap e, h => Er.In.keep (e := e) k h
/-- A kind's class, by the reference's numbers. -/
def clsN (k : Int) : Nat :=
  if k = 20 ∨ k = 21 then 1 else if k = 40 then 2 else if k = 70 ∨ k = 71 ∨ k = 80 ∨ k = 100 ∨ k = 101 ∨ k = 102 ∨ k = 105 then 3
  else if k = 60 ∨ k = 61 ∨ k = 110 ∨ k = 111 ∨ k = 120 then 4 else if k = 72 ∨ k = 103 ∨ k = 104 ∨ k = 130 ∨ k = 150 then 5 else if k = 81 then 6 else 0
def glN (j : Nat) : Nat := match j with | 1 => 2 | 2 => 0 | 3 => 1 | 4 => 3 | 5 => 4 | _ => 5
def txtN (j : Nat) : ByteArray := match j with | 1 => ⟨#[98, 117, 100, 103, 101, 116]⟩ | 2 => ⟨#[116, 101, 120, 116]⟩ | 3 => ⟨#[115, 121, 110, 116, 97, 120]⟩ | 4 => ⟨#[102, 111, 110, 116]⟩ | 5 => ⟨#[108, 105, 109, 105, 116]⟩ | _ => ⟨#[114, 97, 110, 103, 101]⟩
/-- The classes' errors lie there, those of J. -/
structure Cls (J : List Nat) (S : Nat → Addr) (w : World) : Prop where
  cell : ∀ j ∈ J, w.cell? ⟨glN j, 0, none⟩ = some (.iface 84 (.pointer (some (S j))))
  txt : ∀ j ∈ J, w.cell? (S j) = some (.string (txtN j))
  blk : ∀ j ∈ J, ∃ c t, w.heap[(S j).block]? = some (.cells c t (0, 0))
  inj : ∀ i ∈ J, ∀ j ∈ J, S i = S j → i = j
theorem Cls.keep {J : List Nat} {S : Nat → Addr} {w w' : World} (h : Cls J S w) (k : Keep [] w w') : Cls J S w' :=
  ⟨fun j hj => k.cell' (h.cell j hj) (by simp), fun j hj => k.cell' (h.txt j hj) (by simp), fun j hj => by obtain ⟨c, t, hb⟩ := h.blk j hj; exact ⟨c, t, k.blk hb (by simp)⟩, h.inj⟩
/-- A class's value; none: nil. -/
def clsV (S : Nat → Addr) (j : Nat) : Value := if j = 0 then .nilIface else .iface 84 (.pointer (some (S j)))

/-! ### closed facts -/
theorem eTypeOf (v : Value) (w : World) : (ReflectliteType.typeOf #[.iface 84 v]).run Tryd.prog w = .ok (.iface 71 (.agg #[.pointer (some ⟨10, 84, none⟩)])) w := by kernel_rfl
theorem lTypeOf (v : Value) (w : World) : (ReflectliteType.typeOf #[.iface 36 v]).run Tryd.prog w = .ok (.iface 71 (.agg #[.pointer (some ⟨10, 36, none⟩)])) w := by kernel_rfl
def cmpX : Array Value → Sem Value := ReflectliteType.method fun t => do Rtype.noPackHeld "Comparable" t; pure (.bool (← typeInfo t).comparable)
theorem eComparable (w : World) : (cmpX #[.agg #[.pointer (some ⟨10, 84, none⟩)]]).run Tryd.prog w = .ok (.bool true) w := by kernel_rfl
theorem lComparable (w : World) : (cmpX #[.agg #[.pointer (some ⟨10, 36, none⟩)]]).run Tryd.prog w = .ok (.bool true) w := by kernel_rfl
theorem mComparable (v : Value) (w : World) : (Go.method 239 71 v "Comparable").run Tryd.prog w = .ok (72, v) w := by kernel_rfl
/-! ### what errors.is's assertions find -/
theorem noIsE (v : Value) (xT : TypeId) (w : World) : (Instr.typeAssert (.iface 84 v) xT 73 true).run Tryd.prog w = .ok (.tuple #[.nilIface, .bool false]) w := run_typeAssert_lacksB Tryd.underlying73 (by kernel_rfl) (by kernel_rfl) v xT w
theorem noUnE (v : Value) (xT : TypeId) (w : World) : (Instr.typeAssert (.iface 84 v) xT 76 true).run Tryd.prog w = .ok (.tuple #[.nilIface, .bool false]) w := run_typeAssert_lacksB Tryd.underlying76 (by kernel_rfl) (by kernel_rfl) v xT w
theorem noUsE (v : Value) (xT : TypeId) (w : World) : (Instr.typeAssert (.iface 84 v) xT 77 true).run Tryd.prog w = .ok (.tuple #[.nilIface, .bool false]) w := run_typeAssert_lacksB Tryd.underlying77 (by kernel_rfl) (by kernel_rfl) v xT w
theorem noIsO (v : Value) (xT : TypeId) (w : World) : (Instr.typeAssert (.iface 42 v) xT 73 true).run Tryd.prog w = .ok (.tuple #[.nilIface, .bool false]) w := run_typeAssert_lacksB Tryd.underlying73 (by kernel_rfl) (by kernel_rfl) v xT w
theorem noUnO (v : Value) (xT : TypeId) (w : World) : (Instr.typeAssert (.iface 42 v) xT 76 true).run Tryd.prog w = .ok (.tuple #[.nilIface, .bool false]) w := run_typeAssert_lacksB Tryd.underlying76 (by kernel_rfl) (by kernel_rfl) v xT w
theorem noUsO (v : Value) (xT : TypeId) (w : World) : (Instr.typeAssert (.iface 42 v) xT 77 true).run Tryd.prog w = .ok (.tuple #[.nilIface, .bool false]) w := run_typeAssert_lacksB Tryd.underlying77 (by kernel_rfl) (by kernel_rfl) v xT w
theorem noIsW (v : Value) (xT : TypeId) (w : World) : (Instr.typeAssert (.iface 44 v) xT 73 true).run Tryd.prog w = .ok (.tuple #[.nilIface, .bool false]) w := run_typeAssert_lacksB Tryd.underlying73 (by kernel_rfl) (by kernel_rfl) v xT w
theorem hasUnW (v : Value) (xT : TypeId) (w : World) : (Instr.typeAssert (.iface 44 v) xT 76 true).run Tryd.prog w = .ok (.tuple #[.iface 44 v, .bool true]) w := run_typeAssert_hasB Tryd.underlying76 (by kernel_rfl) v xT w
theorem noIsL (v : Value) (xT : TypeId) (w : World) : (Instr.typeAssert (.iface 36 v) xT 73 true).run Tryd.prog w = .ok (.tuple #[.nilIface, .bool false]) w := run_typeAssert_lacksB Tryd.underlying73 (by kernel_rfl) (by kernel_rfl) v xT w
theorem hasUnL (v : Value) (xT : TypeId) (w : World) : (Instr.typeAssert (.iface 36 v) xT 76 true).run Tryd.prog w = .ok (.tuple #[.iface 36 v, .bool true]) w := run_typeAssert_hasB Tryd.underlying76 (by kernel_rfl) v xT w
theorem mUnW (v : Value) (w : World) : (Go.method 239 44 v "Unwrap").run Tryd.prog w = .ok (66, v) w := by kernel_rfl
theorem mUnL (v : Value) (w : World) : (Go.method 239 36 v "Unwrap").run Tryd.prog w = .ok (18, v) w := by kernel_rfl
theorem eComp : (Tryd.prog.info? 84).map (·.comparable) = some true := by kernel_rfl
theorem eSize : (Tryd.prog.info? 127).map (·.size) = some 1 := by kernel_rfl
theorem lComp : (Tryd.prog.info? 36).map (·.comparable) = some true := by kernel_rfl
theorem lSize : (Tryd.prog.info? 39).map (·.size) = some 2 := by kernel_rfl

/-! ### a kind's class; Unwrap -/
theorem cls_cases (k : Int) : (clsN k = 0 ∧ k ≠ 20 ∧ k ≠ 21 ∧ k ≠ 40 ∧ k ≠ 70 ∧ k ≠ 71 ∧ k ≠ 80 ∧ k ≠ 100 ∧ k ≠ 101 ∧ k ≠ 102 ∧ k ≠ 105 ∧ k ≠ 60 ∧ k ≠ 61 ∧ k ≠ 110 ∧ k ≠ 111 ∧ k ≠ 120 ∧ k ≠ 72 ∧ k ≠ 103 ∧ k ≠ 104 ∧ k ≠ 130 ∧ k ≠ 150 ∧ k ≠ 81) ∨
    (k = 20 ∨ k = 21 ∨ k = 40 ∨ k = 70 ∨ k = 71 ∨ k = 80 ∨ k = 100 ∨ k = 101 ∨ k = 102 ∨ k = 105 ∨ k = 60 ∨ k = 61 ∨ k = 110 ∨ k = 111 ∨ k = 120 ∨ k = 72 ∨ k = 103 ∨ k = 104 ∨ k = 130 ∨ k = 150 ∨ k = 81) := by
  by_cases h : k = 20 ∨ k = 21 ∨ k = 40 ∨ k = 70 ∨ k = 71 ∨ k = 80 ∨ k = 100 ∨ k = 101 ∨ k = 102 ∨ k = 105 ∨ k = 60 ∨ k = 61 ∨ k = 110 ∨ k = 111 ∨ k = 120 ∨ k = 72 ∨ k = 103 ∨ k = 104 ∨ k = 130 ∨ k = 150 ∨ k = 81
  · exact .inr h
  · refine .inl ⟨?_, by omega⟩
    unfold clsN
    rw [if_neg (by omega), if_neg (by omega), if_neg (by omega), if_neg (by omega), if_neg (by omega), if_neg (by omega)]
theorem eqf {k n : Int} (h : k ≠ n) : (k == n) = false := by simpa using h
set_option maxRecDepth 100000 in
set_option maxHeartbeats 4000000 in
theorem class_any (J : List Nat) (S : Nat → Addr) (k : Int) (w : World) (C : Cls J S w) (hJ : clsN k = 0 ∨ clsN k ∈ J) : Calls Tryd.prog 23 #[.int .i64 k] w fun e w' => e = .returned (clsV S (clsN k)) ∧ w' = w := by
  rcases cls_cases k with ⟨h0, h⟩ | h
  · rw [h0]
    have e1 := eqf h.1
    have e2 := eqf h.2.1
    have e3 := eqf h.2.2.1
    have e4 := eqf h.2.2.2.1
    have e5 := eqf h.2.2.2.2.1
    have e6 := eqf h.2.2.2.2.2.1
    have e7 := eqf h.2.2.2.2.2.2.1
    have e8 := eqf h.2.2.2.2.2.2.2.1
    have e9 := eqf h.2.2.2.2.2.2.2.2.1
    have e10 := eqf h.2.2.2.2.2.2.2.2.2.1
    have e11 := eqf h.2.2.2.2.2.2.2.2.2.2.1
    have e12 := eqf h.2.2.2.2.2.2.2.2.2.2.2.1
    have e13 := eqf h.2.2.2.2.2.2.2.2.2.2.2.2.1
    have e14 := eqf h.2.2.2.2.2.2.2.2.2.2.2.2.2.1
    have e15 := eqf h.2.2.2.2.2.2.2.2.2.2.2.2.2.2.1
    have e16 := eqf h.2.2.2.2.2.2.2.2.2.2.2.2.2.2.2.1
    have e17 := eqf h.2.2.2.2.2.2.2.2.2.2.2.2.2.2.2.2.1
    have e18 := eqf h.2.2.2.2.2.2.2.2.2.2.2.2.2.2.2.2.2.1
    have e19 := eqf h.2.2.2.2.2.2.2.2.2.2.2.2.2.2.2.2.2.2.1
    have e20 := eqf h.2.2.2.2.2.2.2.2.2.2.2.2.2.2.2.2.2.2.2.1
    have e21 := eqf h.2.2.2.2.2.2.2.2.2.2.2.2.2.2.2.2.2.2.2.2
    clear h h0 hJ C
    go_enter Tryd.func23, Tryd.ntmps23
    go_wp2
    go_ret
    exact ⟨rfl, rfl⟩
  · have hj : clsN k ∈ J := by
      rcases hJ with h0 | h0
      · exfalso
        unfold clsN at h0
        repeat' split at h0
        all_goals first | (exact absurd h0 (by decide)) | omega
      · exact h0
    have hc := C.cell _ hj
    clear C hJ hj
    rcases h with rfl | rfl | rfl | rfl | rfl | rfl | rfl | rfl | rfl | rfl | rfl | rfl | rfl | rfl | rfl | rfl | rfl | rfl | rfl | rfl | rfl
    all_goals
      simp only [clsN, glN] at hc
      simp at hc
      go_enter Tryd.func23, Tryd.ntmps23
      go_wp2
      go_ret
      exact ⟨rfl, rfl⟩

end Go.Proofs.YtihiffemeodfhaaDoor
