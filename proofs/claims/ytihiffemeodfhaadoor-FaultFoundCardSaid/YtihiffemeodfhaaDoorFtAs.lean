/- Fault: errors.as and errors.As by contracts. -/
import Derived.Test.YtihiffemeodfhaaDoorFtIs2
namespace Go.Proofs.YtihiffemeodfhaaDoor
open Go.RowKit Go.Extern.Stop Go.Stop Go.Extern
set_option linter.unusedSimpArgs false
set_option linter.unusedVariables false

def typeX : Array Value → Sem Value := ReflectliteValue.methodAny (ReflectliteValue.valueError "reflectlite.Value.Type" 0) fun t _ _ _ => ReflectliteType.toType t
def kindX : Array Value → Sem Value := ReflectliteType.abiMethod fun t => do pure (.int .u8 (← Rtype.kind t))
def isNilX : Array Value → Sem Value := ReflectliteValue.method (ReflectliteValue.valueError "reflectlite.Value.IsNil" 0) ReflectliteValue.isNil
def elemX : Array Value → Sem Value := ReflectliteType.method ReflectliteType.elem
def implX : Array Value → Sem Value := ReflectliteType.relation "Implements" ReflectliteType.implements_
def assX : Array Value → Sem Value := ReflectliteType.relation "AssignableTo" ReflectliteType.assignableTo
def vElemX : Array Value → Sem Value := ReflectliteValue.method (ReflectliteValue.valueError "reflectlite.Value.Elem" 0) ReflectliteValue.elem
def valX : Array Value → Sem Value := fun args => ReflectliteValue.unpack (args.getD 0 (.tuple #[]))
def setX : Array Value → Sem Value := ReflectliteValue.set
theorem valOfP (t : Addr) (w : World) : (valX #[.iface 54 (.pointer (some t))]).run Tryd.prog w
    = .ok (.agg #[.pointer (some ⟨10, 54, none⟩), .pointer (some ⟨w.heap.size, 0, none⟩), .int .u64 150]) (w.alloc (.cells #[.pointer (some t)] 54)) := by kernel_rfl
theorem valOfL (e : Addr) (w : World) : (valX #[.iface 36 (.pointer (some e))]).run Tryd.prog w
    = .ok (.agg #[.pointer (some ⟨10, 36, none⟩), .pointer (some ⟨w.heap.size, 0, none⟩), .int .u64 150]) (w.alloc (.cells #[.pointer (some e)] 36)) := by kernel_rfl
theorem typeP (a : Addr) (w : World) : (typeX #[.agg #[.pointer (some ⟨10, 54, none⟩), .pointer (some a), .int .u64 150]]).run Tryd.prog w
    = .ok (.iface 71 (.agg #[.pointer (some ⟨10, 54, none⟩)])) w := by kernel_rfl
theorem kindP (w : World) : (kindX #[.pointer (some ⟨10, 54, none⟩)]).run Tryd.prog w = .ok (.int .u8 22) w := by kernel_rfl
theorem kindL (w : World) : (kindX #[.pointer (some ⟨10, 36, none⟩)]).run Tryd.prog w = .ok (.int .u8 22) w := by kernel_rfl
theorem mKind (h : Value) (w : World) : (Go.method 239 71 (.agg #[h]) "Kind").run Tryd.prog w = .ok (44, h) w := by kernel_rfl
theorem mElem (h : Value) (w : World) : (Go.method 239 71 (.agg #[h]) "Elem").run Tryd.prog w = .ok (73, .agg #[h]) w := by kernel_rfl
theorem mImpl (h : Value) (w : World) : (Go.method 239 71 (.agg #[h]) "Implements").run Tryd.prog w = .ok (74, .agg #[h]) w := by kernel_rfl
theorem mAss (h : Value) (w : World) : (Go.method 239 71 (.agg #[h]) "AssignableTo").run Tryd.prog w = .ok (71, .agg #[h]) w := by kernel_rfl
theorem elemP (w : World) : (elemX #[.agg #[.pointer (some ⟨10, 54, none⟩)]]).run Tryd.prog w = .ok (.iface 71 (.agg #[.pointer (some ⟨10, 36, none⟩)])) w := by kernel_rfl
theorem implL (w : World) : (implX #[.agg #[.pointer (some ⟨10, 36, none⟩)], .iface 71 (.agg #[.pointer (some ⟨10, 27, none⟩)])]).run Tryd.prog w = .ok (.bool true) w := by kernel_rfl
theorem oTypeOf (v : Value) (w : World) : (ReflectliteType.typeOf #[.iface 42 v]).run Tryd.prog w = .ok (.iface 71 (.agg #[.pointer (some ⟨10, 42, none⟩)])) w := by kernel_rfl
theorem wTypeOf (v : Value) (w : World) : (ReflectliteType.typeOf #[.iface 44 v]).run Tryd.prog w = .ok (.iface 71 (.agg #[.pointer (some ⟨10, 44, none⟩)])) w := by kernel_rfl
theorem assL (w : World) : (assX #[.agg #[.pointer (some ⟨10, 36, none⟩)], .iface 71 (.agg #[.pointer (some ⟨10, 36, none⟩)])]).run Tryd.prog w = .ok (.bool true) w := by kernel_rfl
theorem assO (w : World) : (assX #[.agg #[.pointer (some ⟨10, 42, none⟩)], .iface 71 (.agg #[.pointer (some ⟨10, 36, none⟩)])]).run Tryd.prog w = .ok (.bool false) w := by kernel_rfl
theorem assW (w : World) : (assX #[.agg #[.pointer (some ⟨10, 44, none⟩)], .iface 71 (.agg #[.pointer (some ⟨10, 36, none⟩)])]).run Tryd.prog w = .ok (.bool false) w := by kernel_rfl
theorem noAsO (v : Value) (xT : TypeId) (w : World) : (Instr.typeAssert (.iface 42 v) xT 81 true).run Tryd.prog w = .ok (.tuple #[.nilIface, .bool false]) w := run_typeAssert_lacksB Tryd.underlying81 (by kernel_rfl) (by kernel_rfl) v xT w
theorem noAsW (v : Value) (xT : TypeId) (w : World) : (Instr.typeAssert (.iface 44 v) xT 81 true).run Tryd.prog w = .ok (.tuple #[.nilIface, .bool false]) w := run_typeAssert_lacksB Tryd.underlying81 (by kernel_rfl) (by kernel_rfl) v xT w
theorem rlmX (z : Sem Value) (f : TypeId → Addr → Nat → Nat → Sem Value) (v : Value) :
    ReflectliteValue.method z f #[v] = (do match ← ReflectliteValue.parts v with | none => z | some (t, a, fl) => f t a fl (fl % 32)) := rfl
theorem partsP (a : Addr) (w : World) : (ReflectliteValue.parts (.agg #[.pointer (some ⟨10, 54, none⟩), .pointer (some a), .int .u64 150])).run Tryd.prog w = .ok (some (54, a, 150)) w := by kernel_rfl
theorem isNilP (a p : Addr) (W : World) (ha : W.cell? a = some (.pointer (some p))) :
    (isNilX #[.agg #[.pointer (some ⟨10, 54, none⟩), .pointer (some a), .int .u64 150]]).run Tryd.prog W = .ok (.bool false) W := by
  unfold isNilX
  rw [rlmX]
  simp only [Sem.run_bind, partsP, Result.andThen]
  simp [ReflectliteValue.isNil, loadVar, isAgg, underlying, Tryd.underlying54, ha, Result.andThen]
theorem elemOfP (w : World) : (Rtype.elem? 54).run Tryd.prog w = .ok (some 36) w := by kernel_rfl
theorem mkL (p : Addr) (w : World) : (ReflectliteValue.mk 36 p ReflectliteValue.flagAddr).run Tryd.prog w = .ok (.agg #[.pointer (some ⟨10, 36, none⟩), .pointer (some p), .int .u64 406]) w := by kernel_rfl
theorem vElemP (a p : Addr) (W : World) (ha : W.cell? a = some (.pointer (some p))) :
    (vElemX #[.agg #[.pointer (some ⟨10, 54, none⟩), .pointer (some a), .int .u64 150]]).run Tryd.prog W
      = .ok (.agg #[.pointer (some ⟨10, 36, none⟩), .pointer (some p), .int .u64 406]) W := by
  unfold vElemX
  rw [rlmX]
  simp only [Sem.run_bind, partsP, Result.andThen]
  simp [ReflectliteValue.elem, loadVar, isAgg, underlying, Tryd.underlying54, ha, Result.andThen, elemOfP, mkL]

theorem rlsX (v x : Value) : ReflectliteValue.set #[v, x] = (do
    let (some (dst, a, fl), some (src, b, _)) := (← ReflectliteValue.parts v, ← ReflectliteValue.parts x)
      | unsupported (.noEntry "extern/(internal/reflectlite.Value).Set.zeroValue")
    if fl / ReflectliteValue.flagAddr % 2 == 0 then unsupported (.noEntry "extern/(internal/reflectlite.Value).Set.unaddressable")
    let val ← loadVar src b
    if ← Rtype.directlyAssignable dst src then storeVar dst a val
    else if ← Rtype.implements dst src then
      if (← Rtype.kind src) == 20 then
        match val with
        | .nilIface => unsupported (.noEntry "extern/reflectlite: a nil value of one interface type handed on as a value of another")
        | _ => storeVar dst a val
      else storeVar dst a (.iface src val)
    else panicString ("reflectlite.Set: value of type " ++ (← Rtype.spelt src) ++ " is not assignable to type " ++ (← Rtype.spelt dst))
    pure (.tuple #[])) := rfl
theorem partsLa (a : Addr) (w : World) : (ReflectliteValue.parts (.agg #[.pointer (some ⟨10, 36, none⟩), .pointer (some a), .int .u64 406])).run Tryd.prog w = .ok (some (36, a, 406)) w := by kernel_rfl
theorem partsL (a : Addr) (w : World) : (ReflectliteValue.parts (.agg #[.pointer (some ⟨10, 36, none⟩), .pointer (some a), .int .u64 150])).run Tryd.prog w = .ok (some (36, a, 150)) w := by kernel_rfl
theorem directL (w : World) : (Rtype.directlyAssignable 36 36).run Tryd.prog w = .ok true w := by kernel_rfl
theorem setL (ta b e : Addr) (old : Value) (W : World) (hb : W.cell? b = some (.pointer (some e))) (ht : W.cell? ta = some old) (hf : W.frozen? ta = false) :
    (setX #[.agg #[.pointer (some ⟨10, 36, none⟩), .pointer (some ta), .int .u64 406], .agg #[.pointer (some ⟨10, 36, none⟩), .pointer (some b), .int .u64 150]]).run Tryd.prog W
      = .ok (.tuple #[]) (W.setCell ta (.pointer (some e))) := by
  unfold setX
  rw [rlsX]
  simp only [Sem.run_bind, partsLa, partsL, Result.andThen]
  simp [ReflectliteValue.flagAddr, loadVar, isAgg, underlying, Tryd.underlying36, hb, Result.andThen, directL, storeVar, Value.cells, storeCells, Addr.add]
  rw [run_store Tryd.prog W ta _ _ (by rfl)]
  simp [ht, hf]

def asOut (e : Er) (T : Nat) (x : Ending) (w w' : World) : Prop :=
  match e.first with
  | some (b, _, _) => x = .returned (.bool true) ∧ Keep [T] w w' ∧ w'.cell? ⟨T, 0, none⟩ = some (.pointer (some ⟨b, 0, none⟩))
  | none => x = .returned (.bool false) ∧ Keep [] w w'

set_option maxRecDepth 100000 in
set_option maxHeartbeats 8000000 in
theorem as_walk (e : Er) (T vb : Nat) (w : World) (hv : w.cell? ⟨vb, 0, none⟩ = some (.pointer (some ⟨T, 0, none⟩))) (hT : w.heap[T]? = some (.cells #[.pointer none] 36 (0, 0))) (hvT : vb ≠ T) :
    Calls Tryd.prog 27 #[e.val, .iface 54 (.pointer (some ⟨T, 0, none⟩)), .agg #[.pointer (some ⟨10, 54, none⟩), .pointer (some ⟨vb, 0, none⟩), .int .u64 150], .iface 71 (.agg #[.pointer (some ⟨10, 36, none⟩)])] w fun x w' => asOut e T x w w' := by
  have h20 := @run_callFunc_extern Tryd.prog 20 _ ReflectliteType.typeOf Tryd.func20 (by kernel_rfl) (by kernel_rfl) (by kernel_rfl) (by kernel_rfl)
  have h71 := @run_callFunc_extern Tryd.prog 71 _ assX Tryd.func71 (by kernel_rfl) (by kernel_rfl) (by kernel_rfl) (by kernel_rfl)
  have h28 := @run_callFunc_extern Tryd.prog 28 _ vElemX Tryd.func28 (by kernel_rfl) (by kernel_rfl) (by kernel_rfl) (by kernel_rfl)
  have h24 := @run_callFunc_extern Tryd.prog 24 _ valX Tryd.func24 (by kernel_rfl) (by kernel_rfl) (by kernel_rfl) (by kernel_rfl)
  have h29 := @run_callFunc_extern Tryd.prog 29 _ setX Tryd.func29 (by kernel_rfl) (by kernel_rfl) (by kernel_rfl) (by kernel_rfl)
  have mA := mAss
  have tL := lTypeOf
  have tO := oTypeOf
  have tW := wTypeOf
  have aL := assL
  have aO := assO
  have aW := assW
  have vL := valOfL
  have nO := noAsO
  have nW := noAsW
  have uO := noUnO
  have vO := noUsO
  have uW := hasUnW
  have mW := mUnW
  have hTl := blk_lt hT
  have hvl : vb < w.heap.size := World.block_lt_of_cell? w _ hv
  have K0 := (Keep.refl [] w).alloc (.cells #[.pointer (some ⟨10, 54, none⟩), .pointer (some ⟨vb, 0, none⟩), .int .u64 150] 63)
  have V0 := blk_new w (.cells #[.pointer (some ⟨10, 54, none⟩), .pointer (some ⟨vb, 0, none⟩), .int .u64 150] 63)
  go_enter Tryd.func27, Tryd.ntmps27
  go_wp2_with fail
  generalize w.alloc (.cells #[.pointer (some ⟨10, 54, none⟩), .pointer (some ⟨vb, 0, none⟩), .int .u64 150] 63) = W0 at *
  go_loopw [0, 9, 10, 11, 12, 14, 15] (fun v0 _ _ _ _ _ _ wr => Keep [] w wr ∧ wr.heap[w.heap.size]? = some (.cells #[.pointer (some ⟨10, 54, none⟩), .pointer (some ⟨vb, 0, none⟩), .int .u64 150] 63 (0, 0)) ∧ ∃ er : Er, v0 = er.val ∧ Hid (er.first = e.first)) (fun v0 _ _ _ _ _ _ _ => depE v0)
  case atStart => exact ⟨K0, V0, e, rfl, hid rfl⟩
  case round =>
    clear K0 V0
    obtain ⟨K, V, er, rfl, HR⟩ := hrel
    have hv1 := K.cell' hv (by simp)
    have hT1 := K.blk hT (by simp)
    have q0 := blk_cell V 0
    have q1 := blk_cell V 1
    have q2 := blk_cell V 2
    simp only [List.getElem?_toArray, List.getElem?_cons_zero, List.getElem?_cons_succ] at q0 q1 q2
    cases er with
    | loc b a k =>
      have hel := vElemP ⟨vb, 0, none⟩ ⟨T, 0, none⟩ wr hv1
      have hst := setL ⟨T, 0, none⟩ ⟨wr.heap.size, 0, none⟩ ⟨b, 0, none⟩ (.pointer none) (wr.alloc (.cells #[.pointer (some ⟨b, 0, none⟩)] 36)) (by simp) (by have := blk_cell (blk_alloc hT1 (.cells #[.pointer (some ⟨b, 0, none⟩)] 36)) 0; exact this) (blk_free (blk_alloc hT1 _) 0)
      have hkk : Keep [T] w ((wr.alloc (.cells #[.pointer (some ⟨b, 0, none⟩)] 36)).setCell ⟨T, 0, none⟩ (.pointer (some ⟨b, 0, none⟩))) := ((K.mono (fun k hk => by simp at hk)).alloc _).set (.inl (by simp)) _
      have hcc : ((wr.alloc (.cells #[.pointer (some ⟨b, 0, none⟩)] 36)).setCell ⟨T, 0, none⟩ (.pointer (some ⟨b, 0, none⟩))).cell? ⟨T, 0, none⟩ = some (.pointer (some ⟨b, 0, none⟩)) := by
        have := blk_cell (blk_set (blk_alloc hT1 (.cells #[.pointer (some ⟨b, 0, none⟩)] 36)) 0 (.pointer (some ⟨b, 0, none⟩))) 0
        simpa using this
      unfold Er.val
      go_wp2
      go_ret
      have hf : e.first = some (b, a, k) := HR.out.symm
      unfold asOut
      rw [hf]
      exact ⟨rfl, hkk, hcc⟩
    | oth =>
      unfold Er.val
      go_wp2
      go_ret
      have hf : e.first = none := HR.out.symm
      unfold asOut
      rw [hf]
      exact ⟨rfl, K⟩
    | wrap er =>
      have hun := unW_any er wr
      have HR2 : Hid (er.first = e.first) := HR
      have hlt := dep_wrap er
      have hw : (Er.wrap er).val = .iface 44 (.agg #[er.val]) := rfl
      rw [hw] at hlt ⊢
      clear hw
      obtain ⟨ty, vv, hvv⟩ := val_iface er
      rw [hvv] at hun hlt ⊢
      have HV := hid hvv
      clear hvv
      go_wp2_with fail
      refine hun.mono ?_
      rintro x w1 ⟨rfl, K1⟩
      go_wp2
      go_roundw
      case rel => exact ⟨K.trans K1, K1.blk V (by simp), er, HV.out.symm, HR2⟩
      case measure => exact hlt

theorem as_nil (t : Value) (w : World) : Calls Tryd.prog 19 #[.nilIface, t] w fun e w' => e = .returned (.bool false) ∧ w' = w := by
  go_enter Tryd.func19, Tryd.ntmps19
  go_wp2
  go_ret
  exact ⟨rfl, rfl⟩
set_option maxRecDepth 100000 in
set_option maxHeartbeats 8000000 in
theorem as_any (e : Er) (T : Nat) (w : World) (hg : w.cell? ⟨6, 0, none⟩ = some (.iface 71 (.agg #[.pointer (some ⟨10, 27, none⟩)]))) (hT : w.heap[T]? = some (.cells #[.pointer none] 36 (0, 0))) :
    Calls Tryd.prog 19 #[e.val, .iface 54 (.pointer (some ⟨T, 0, none⟩))] w fun x w' => asOut e T x w w' := by
  have h24 := @run_callFunc_extern Tryd.prog 24 _ valX Tryd.func24 (by kernel_rfl) (by kernel_rfl) (by kernel_rfl) (by kernel_rfl)
  have h25 := @run_callFunc_extern Tryd.prog 25 _ typeX Tryd.func25 (by kernel_rfl) (by kernel_rfl) (by kernel_rfl) (by kernel_rfl)
  have h26 := @run_callFunc_extern Tryd.prog 26 _ isNilX Tryd.func26 (by kernel_rfl) (by kernel_rfl) (by kernel_rfl) (by kernel_rfl)
  have h44 := @run_callFunc_extern Tryd.prog 44 _ kindX Tryd.func44 (by kernel_rfl) (by kernel_rfl) (by kernel_rfl) (by kernel_rfl)
  have h73 := @run_callFunc_extern Tryd.prog 73 _ elemX Tryd.func73 (by kernel_rfl) (by kernel_rfl) (by kernel_rfl) (by kernel_rfl)
  have h74 := @run_callFunc_extern Tryd.prog 74 _ implX Tryd.func74 (by kernel_rfl) (by kernel_rfl) (by kernel_rfl) (by kernel_rfl)
  have f6 := valOfP
  have f7 := typeP
  have mK := mKind
  have mE := mElem
  have mI := mImpl
  have k1 := kindP
  have k2 := kindL
  have eP := elemP
  have iL := implL
  have hTl := blk_lt hT
  have K1 := ((Keep.refl [] w).alloc (.cells #[.pointer (some ⟨T, 0, none⟩)] 54)).alloc (.cells #[.pointer (some ⟨10, 54, none⟩), .pointer (some ⟨w.heap.size, 0, none⟩), .int .u64 150] 63)
  have hv0 := blk_alloc (blk_new w (.cells #[.pointer (some ⟨T, 0, none⟩)] 54)) (.cells #[.pointer (some ⟨10, 54, none⟩), .pointer (some ⟨w.heap.size, 0, none⟩), .int .u64 150] 63)
  have hv : ((w.alloc (.cells #[.pointer (some ⟨T, 0, none⟩)] 54)).alloc (.cells #[.pointer (some ⟨10, 54, none⟩), .pointer (some ⟨w.heap.size, 0, none⟩), .int .u64 150] 63)).cell? ⟨w.heap.size, 0, none⟩ = some (.pointer (some ⟨T, 0, none⟩)) := by simp
  have n8 := isNilP ⟨w.heap.size, 0, none⟩ ⟨T, 0, none⟩ _ hv
  have hg2 := K1.cell' hg (by simp)
  have hwalk := as_walk e T w.heap.size _ hv (K1.blk hT (by simp)) (by omega)
  obtain ⟨ty, vv, hvv⟩ := val_iface e
  rw [hvv] at hwalk ⊢
  clear hvv
  go_enter Tryd.func19, Tryd.ntmps19
  go_wp2_with fail
  refine hwalk.mono ?_
  intro x w' hx
  unfold asOut at hx
  have hf2 : ∃ f, e.first = f := ⟨_, rfl⟩
  obtain ⟨f, hf⟩ := hf2
  rw [hf] at hx
  have HF := hid hf
  clear hf
  cases f with
  | none =>
    obtain ⟨rfl, K2⟩ := hx
    go_wp2
    go_ret
    unfold asOut
    rw [HF.out]
    exact ⟨rfl, K1.trans K2⟩
  | some y =>
    obtain ⟨b, a, k⟩ := y
    obtain ⟨rfl, K2, hc⟩ := hx
    go_wp2
    go_ret
    unfold asOut
    rw [HF.out]
    exact ⟨rfl, (K1.mono (fun k hk => by simp at hk)).trans K2, hc⟩

end Go.Proofs.YtihiffemeodfhaaDoor
