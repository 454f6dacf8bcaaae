/- Fault: errors.is and errors.Is by contracts. -/
import Derived.Test.YtihiffemeodfhaaDoorFtIs
namespace Go.Proofs.YtihiffemeodfhaaDoor
open Go.RowKit Go.Extern.Stop Go.Stop Go.Extern
set_option linter.unusedSimpArgs false
set_option linter.unusedVariables false

theorem unL_any (J : List Nat) (S : Nat → Addr) (b : Nat) (a k : Int) (w : World) (C : Cls J S w) (hJ : clsN k = 0 ∨ clsN k ∈ J) (hb : w.heap[b]? = some (.cells #[.int .i64 a, .int .i64 k] 39 (0, 0))) :
    Calls Tryd.prog 18 #[.pointer (some ⟨b, 0, none⟩)] w fun e w' => e = .returned (clsV S (clsN k)) ∧ w' = w := by
  have c1 : w.cell? ⟨b, 1, none⟩ = some (.int .i64 k) := blk_cell hb 1
  have hc := class_any J S k w C hJ
  obtain ⟨v, hv⟩ : ∃ v, clsV S (clsN k) = v := ⟨_, rfl⟩
  rw [hv] at hc ⊢
  clear hv
  go_enter Tryd.func18, Tryd.ntmps18
  go_wp2_with fail
  refine hc.mono ?_
  rintro e w1 ⟨rfl, rfl⟩
  go_wp2
  go_ret
  exact ⟨rfl, rfl⟩
theorem unW_any (e : Er) (w : World) : Calls Tryd.prog 66 #[.agg #[e.val]] w fun x w' => x = .returned e.val ∧ Keep [] w w' := by
  have hk : Keep [] w (w.alloc (.cells #[e.val] 44)) := (Keep.refl _ _).alloc _
  cases e with
  | loc b a k =>
    unfold Er.val at hk ⊢
    go_enter Tryd.func66, Tryd.ntmps66
    go_wp2
    go_ret
    exact ⟨rfl, hk⟩
  | oth =>
    unfold Er.val at hk ⊢
    go_enter Tryd.func66, Tryd.ntmps66
    go_wp2
    go_ret
    exact ⟨rfl, hk⟩
  | wrap e =>
    unfold Er.val at hk ⊢
    generalize e.val = v at *
    go_enter Tryd.func66, Tryd.ntmps66
    go_wp2
    go_ret
    exact ⟨rfl, hk⟩

/-- Is it of that class? -/
def isC (j : Nat) : Er → Bool
  | .loc _ _ k => clsN k == j
  | .oth => false
  | .wrap e => isC j e
def Er.clsIn (J : List Nat) : Er → Prop
  | .loc _ _ k => clsN k = 0 ∨ clsN k ∈ J
  | .oth => True
  | .wrap e => e.clsIn J
noncomputable def depE : Value → Nat
  | .iface t v => if t = 84 then 0 else SizeOf.sizeOf v + 1
  | _ => 0

set_option maxRecDepth 100000 in
set_option maxHeartbeats 4000000 in
theorem is_walk (J : List Nat) (S : Nat → Addr) (j : Nat) (hj : j ∈ J) (hj0 : j ≠ 0) (e : Er) (w : World) (C : Cls J S w) (hI : e.In w) (hE : e.clsIn J) :
    Calls Tryd.prog 21 #[e.val, .iface 84 (.pointer (some (S j))), .bool true] w fun x w' => x = .returned (.bool (isC j e)) ∧ Keep [] w w' := by
  obtain ⟨i0, hi, hcmp⟩ := Option.map_eq_some_iff.1 eComp
  obtain ⟨j0, hj2, hjs⟩ := Option.map_eq_some_iff.1 eSize
  have nE := noIsE
  have uE := noUnE
  have vE := noUsE
  have nO := noIsO
  have uO := noUnO
  have vO := noUsO
  have nW := noIsW
  have uW := hasUnW
  have nL := noIsL
  have uL := hasUnL
  have mW := mUnW
  have mL := mUnL
  go_enter Tryd.func21, Tryd.ntmps21
  go_wp2_with fail
  go_loopw [0, 7, 8, 9, 10, 12, 13] (fun v0 _ _ _ _ _ _ wr => Keep [] w wr ∧ ((∃ er : Er, v0 = er.val ∧ er.In w ∧ er.clsIn J ∧ Hid (isC j er = isC j e)) ∨ (∃ i, i ∈ J ∧ v0 = .iface 84 (.pointer (some (S i))) ∧ Hid ((i == j) = isC j e)))) (fun v0 _ _ _ _ _ _ _ => depE v0)
  case atStart => exact ⟨Keep.refl _ _, .inl ⟨e, rfl, hI, hE, hid rfl⟩⟩
  case round =>
    obtain ⟨K, hrel⟩ := hrel
    rcases hrel with ⟨er, rfl, hIr, hEr, HR⟩ | ⟨i, hiJ, rfl, HR⟩
    · cases er with
      | loc b a k =>
        have hty := run_eql_iface_types (P := Tryd.prog) 36 84 (.pointer (some ⟨b, 0, none⟩)) (.pointer (some (S j))) Tryd.underlying27 (by decide) wr
        have hun := unL_any J S b a k wr (C.keep K) hEr (K.blk hIr (by simp))
        unfold Er.val
        by_cases h0 : clsN k = 0
        · have hv : clsV S (clsN k) = .nilIface := by rw [h0]; rfl
          rw [hv] at hun
          have hr : isC j e = false := by rw [← HR.out]; simp [isC, h0]; omega
          clear hv h0
          go_wp2_with fail
          refine hun.mono ?_
          rintro x w1 ⟨rfl, rfl⟩
          go_wp2
          go_ret
          exact ⟨by rw [hr]; rfl, K⟩
        · have hv : clsV S (clsN k) = .iface 84 (.pointer (some (S (clsN k)))) := by unfold clsV; rw [if_neg h0]
          rw [hv] at hun
          have hm : clsN k ∈ J := by
            rcases hEr with h | h
            · exact absurd h h0
            · exact h
          have HR2 : Hid ((clsN k == j) = isC j e) := HR
          generalize clsN k = i at *
          clear hv
          go_wp2_with fail
          refine hun.mono ?_
          rintro x w1 ⟨rfl, rfl⟩
          go_wp2
          go_roundw
          case rel => exact ⟨K, .inr ⟨i, hm, rfl, HR2⟩⟩
          case measure => simp [depE]
      | oth =>
        have hty := run_eql_iface_types (P := Tryd.prog) 42 84 (.agg #[]) (.pointer (some (S j))) Tryd.underlying27 (by decide) wr
        have hr : isC j e = false := HR.out.symm
        unfold Er.val
        go_wp2
        go_ret
        exact ⟨by rw [hr]; rfl, K⟩
      | wrap er =>
        have hty := run_eql_iface_types (P := Tryd.prog) 44 84 (.agg #[er.val]) (.pointer (some (S j))) Tryd.underlying27 (by decide) wr
        have hun := unW_any er wr
        have HR2 : Hid (isC j er = isC j e) := HR
        have hlt : depE er.val < depE (Er.wrap er).val := by cases er <;> simp [depE, Er.val] <;> omega
        have hw : (Er.wrap er).val = .iface 44 (.agg #[er.val]) := rfl
        rw [hw] at hlt ⊢
        clear hw
        have hEr2 : er.clsIn J := hEr
        have hIr2 : er.In w := hIr
        obtain ⟨ty, vv, hvv⟩ : ∃ ty vv, er.val = .iface ty vv := by cases er <;> exact ⟨_, _, rfl⟩
        rw [hvv] at hty hun hlt ⊢
        have HV := hid hvv
        clear hvv
        go_wp2_with fail
        refine hun.mono ?_
        rintro x w1 ⟨rfl, K1⟩
        go_wp2
        go_roundw
        case rel => exact ⟨K.trans K1, .inl ⟨er, HV.out.symm, hIr2, hEr2, HR2⟩⟩
        case measure => exact hlt
    · by_cases hij : i = j
      · subst hij
        have heq := run_eql_iface_ptr_same (P := Tryd.prog) wr (S i) Tryd.underlying27 Tryd.underlying84 hi hcmp hj2
        go_wp2
        go_ret
        exact ⟨by rw [← HR.out]; simp, K⟩
      · have hne : S i ≠ S j := fun h => hij (C.inj i hiJ j hj h)
        obtain ⟨bi, ti, hbi⟩ := C.blk i hiJ
        obtain ⟨bj, tj, hbj⟩ := C.blk j hj
        have heq := run_eql_iface_ptr_other (P := Tryd.prog) (a := S i) (b := S j) wr Tryd.underlying27 Tryd.underlying84 hi hcmp hj2 (by rw [hjs]; decide) hne (K.blk hbi (by simp)) (K.blk hbj (by simp))
        go_wp2
        go_ret
        exact ⟨by rw [← HR.out]; simp [hij], K⟩

/-- The first Located of a chain. -/
def Er.first : Er → Option (Nat × Int × Int)
  | .loc b a k => some (b, a, k)
  | .oth => none
  | .wrap e => e.first
theorem val_iface (er : Er) : ∃ ty vv, er.val = .iface ty vv := by cases er <;> exact ⟨_, _, rfl⟩
theorem dep_wrap (er : Er) : depE er.val < depE (Er.wrap er).val := by cases er <;> simp [depE, Er.val] <;> omega

set_option maxRecDepth 100000 in
set_option maxHeartbeats 4000000 in
theorem isL_walk (e : Er) (b : Nat) (a k : Int) (hf : e.first = some (b, a, k)) (w : World) :
    Calls Tryd.prog 21 #[e.val, .iface 36 (.pointer (some ⟨b, 0, none⟩)), .bool true] w fun x w' => x = .returned (.bool true) ∧ Keep [] w w' := by
  obtain ⟨i0, hi, hcmp⟩ := Option.map_eq_some_iff.1 lComp
  obtain ⟨j0, hj2, hjs⟩ := Option.map_eq_some_iff.1 lSize
  have nW := noIsW
  have uW := hasUnW
  have mW := mUnW
  have HF := hid hf
  clear hf
  go_enter Tryd.func21, Tryd.ntmps21
  go_wp2_with fail
  go_loopw [0, 7, 8, 9, 10, 12, 13] (fun v0 _ _ _ _ _ _ wr => Keep [] w wr ∧ ∃ er : Er, v0 = er.val ∧ Hid (er.first = some (b, a, k))) (fun v0 _ _ _ _ _ _ _ => depE v0)
  case atStart => exact ⟨Keep.refl _ _, e, rfl, HF⟩
  case round =>
    obtain ⟨K, er, rfl, HR⟩ := hrel
    cases er with
    | loc b' a' k' =>
      obtain rfl : b' = b := by have := HR.out; simp [Er.first] at this; exact this.1
      have heq := run_eql_iface_ptr_same (P := Tryd.prog) wr ⟨b', 0, none⟩ Tryd.underlying27 Tryd.underlying36 hi hcmp hj2
      unfold Er.val
      go_wp2
      go_ret
      exact ⟨rfl, K⟩
    | oth => have := HR.out; simp [Er.first] at this
    | wrap er =>
      have hty := run_eql_iface_types (P := Tryd.prog) 44 36 (.agg #[er.val]) (.pointer (some ⟨b, 0, none⟩)) Tryd.underlying27 (by decide) wr
      have hun := unW_any er wr
      have HR2 : Hid (er.first = some (b, a, k)) := HR
      have hlt := dep_wrap er
      have hw : (Er.wrap er).val = .iface 44 (.agg #[er.val]) := rfl
      rw [hw] at hlt ⊢
      clear hw
      obtain ⟨ty, vv, hvv⟩ := val_iface er
      rw [hvv] at hty hun hlt ⊢
      have HV := hid hvv
      clear hvv
      go_wp2_with fail
      refine hun.mono ?_
      rintro x w1 ⟨rfl, K1⟩
      go_wp2
      go_roundw
      case rel => exact ⟨K.trans K1, er, HV.out.symm, HR2⟩
      case measure => exact hlt

set_option maxRecDepth 100000 in
set_option maxHeartbeats 4000000 in
theorem is_any (J : List Nat) (S : Nat → Addr) (j : Nat) (hj : j ∈ J) (hj0 : j ≠ 0) (e : Er) (w : World) (C : Cls J S w) (hI : e.In w) (hE : e.clsIn J) :
    Calls Tryd.prog 15 #[e.val, .iface 84 (.pointer (some (S j)))] w fun x w' => x = .returned (.bool (isC j e)) ∧ Keep [] w w' := by
  have h20 := @run_callFunc_extern Tryd.prog 20 _ ReflectliteType.typeOf Tryd.func20 (by kernel_rfl) (by kernel_rfl) (by kernel_rfl) (by kernel_rfl)
  have h72 := @run_callFunc_extern Tryd.prog 72 _ cmpX Tryd.func72 (by kernel_rfl) (by kernel_rfl) (by kernel_rfl) (by kernel_rfl)
  have tT := eTypeOf
  have cT := eComparable
  have mR := mComparable
  have hw := is_walk J S j hj hj0 e w C hI hE
  obtain ⟨R, hR⟩ : ∃ R, isC j e = R := ⟨_, rfl⟩
  rw [hR] at hw ⊢
  clear hR
  obtain ⟨ty, vv, hvv⟩ := val_iface e
  rw [hvv] at hw ⊢
  clear hvv
  go_enter Tryd.func15, Tryd.ntmps15
  go_wp2_with fail
  refine hw.mono ?_
  rintro x w1 ⟨rfl, K1⟩
  go_wp2
  go_ret
  exact ⟨rfl, K1⟩
set_option maxRecDepth 100000 in
set_option maxHeartbeats 4000000 in
theorem isL_any (e : Er) (b : Nat) (a k : Int) (hf : e.first = some (b, a, k)) (w : World) :
    Calls Tryd.prog 15 #[e.val, .iface 36 (.pointer (some ⟨b, 0, none⟩))] w fun x w' => x = .returned (.bool true) ∧ Keep [] w w' := by
  have h20 := @run_callFunc_extern Tryd.prog 20 _ ReflectliteType.typeOf Tryd.func20 (by kernel_rfl) (by kernel_rfl) (by kernel_rfl) (by kernel_rfl)
  have h72 := @run_callFunc_extern Tryd.prog 72 _ cmpX Tryd.func72 (by kernel_rfl) (by kernel_rfl) (by kernel_rfl) (by kernel_rfl)
  have tT := lTypeOf
  have cT := lComparable
  have mR := mComparable
  have hw := isL_walk e b a k hf w
  obtain ⟨ty, vv, hvv⟩ := val_iface e
  rw [hvv] at hw ⊢
  clear hvv hf
  go_enter Tryd.func15, Tryd.ntmps15
  go_wp2_with fail
  refine hw.mono ?_
  rintro x w1 ⟨rfl, K1⟩
  go_wp2
  go_ret
  exact ⟨rfl, K1⟩

end Go.Proofs.YtihiffemeodfhaaDoor
