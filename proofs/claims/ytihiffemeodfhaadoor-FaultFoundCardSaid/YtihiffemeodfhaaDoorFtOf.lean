/- Fault: Error, Of, a Located's text, by contracts. -/
import Derived.Test.YtihiffemeodfhaaDoorFtAs
import Derived.Test.YtihiffemeodfhaaDoorFtNames
import Derived.Test.YtihiffemeodfhaaDoorShelf
import Derived.Deep.RegionHeld3
import Derived.OwnWalk
namespace Go.Proofs.YtihiffemeodfhaaDoor
open Go.RowKit Go.Extern.Stop Go.Stop Go.Extern
set_option linter.unusedSimpArgs false
set_option linter.unusedVariables false

theorem set2' {w : World} {n : Nat} {a b a' b' : Value} {t : TypeId} (h : w.heap[n]? = some (.cells #[a, b] t (0, 0))) :
    ((w.setCell ⟨n, 0, none⟩ a').setCell ⟨n, 1, none⟩ b').heap[n]? = some (.cells #[a', b'] t (0, 0)) := (blk_set (blk_set h 0 a') 1 b').trans (by simp)
theorem keep2 {S : List Nat} {u w : World} {n : Nat} {a b : Value} (k : Keep S u w) (h : n ∈ S ∨ u.heap.size ≤ n) : Keep S u ((w.setCell ⟨n, 0, none⟩ a).setCell ⟨n, 1, none⟩ b) := (k.set h _).set h _
theorem keepNew {a w : World} {n j : Nat} (h : Keep [] a w) (hp : a.heap.size ≤ n) (u : Value) : Keep [] a (w.setCell ⟨n, j, none⟩ u) := h.set (.inr hp) u
theorem error_nil (a : Int) (w : World) : Calls Tryd.prog 11 #[.agg #[.int .i64 0, .int .i64 a]] w fun e w' => e = .returned .nilIface ∧ Keep [] w w' := by
  have K := (Keep.refl [] w).alloc (.cells #[.int .i64 0, .int .i64 a] 33)
  go_enter Tryd.func11, Tryd.ntmps11
  go_wp2
  go_ret
  exact ⟨rfl, K⟩
theorem error_some (k a : Int) (hk : k ≠ 0) (w : World) : Calls Tryd.prog 11 #[.agg #[.int .i64 k, .int .i64 a]] w fun e w' => ∃ b, e = .returned (.iface 36 (.pointer (some ⟨b, 0, none⟩))) ∧ w.heap.size ≤ b ∧ (Er.loc b a k).In w' ∧ Keep [] w w' := by
  have K := ((Keep.refl [] w).alloc (.cells #[.int .i64 k, .int .i64 a] 33)).alloc (.cells #[.int .i64 a, .int .i64 k] 39)
  have R := blk_new (w.alloc (.cells #[.int .i64 k, .int .i64 a] 33)) (.cells #[.int .i64 a, .int .i64 k] 39)
  rw [size_alloc'] at R
  have e1 := eqf hk
  clear hk
  go_enter Tryd.func11, Tryd.ntmps11
  go_wp2
  go_ret
  exact ⟨w.heap.size + 1, rfl, by omega, R, K⟩

def faultOf (e : Er) : Int × Int × Bool := match e.first with | some (_, a, k) => (k, a, true) | none => (0, 0, false)
theorem first_in {w : World} : ∀ {e : Er} {b : Nat} {a k : Int}, e.first = some (b, a, k) → e.In w → w.heap[b]? = some (.cells #[.int .i64 a, .int .i64 k] 39 (0, 0))
  | .loc b' a' k', b, a, k, h, hi => by simp [Er.first] at h; obtain ⟨rfl, rfl, rfl⟩ := h; exact hi
  | .oth, _, _, _, h, _ => by simp [Er.first] at h
  | .wrap e, _, _, _, h, hi => first_in (e := e) h hi

set_option maxRecDepth 100000 in
set_option maxHeartbeats 8000000 in
theorem of_any (e : Er) (w : World) (hg : w.cell? ⟨6, 0, none⟩ = some (.iface 71 (.agg #[.pointer (some ⟨10, 27, none⟩)]))) (hI : e.In w) :
    Calls Tryd.prog 13 #[e.val] w fun x w' => x = .returned (.tuple #[.agg #[.int .i64 (faultOf e).1, .int .i64 (faultOf e).2.1], .bool (faultOf e).2.2]) ∧ Keep [] w w' := by
  have K1 := ((Keep.refl [] w).alloc (.cells #[.int .i64 0, .int .i64 0] 33)).alloc (.cells #[.pointer none] 36)
  have F1 := blk_alloc (blk_new w (.cells #[.int .i64 0, .int .i64 0] 33)) (.cells #[.pointer none] 36)
  have T1 := blk_new (w.alloc (.cells #[.int .i64 0, .int .i64 0] 33)) (.cells #[.pointer none] 36)
  rw [size_alloc'] at T1
  have ha := as_any e (w.heap.size + 1) _ (K1.cell' hg (by simp)) T1
  have hI1 := hI.keep K1
  obtain ⟨f, hf⟩ : ∃ f, e.first = f := ⟨_, rfl⟩
  unfold asOut at ha
  unfold faultOf
  rw [hf] at ha ⊢
  have HF := hid hf
  clear hf
  obtain ⟨ty, vv, hvv⟩ := val_iface e
  have HV := hid hvv
  rw [hvv] at ha ⊢
  clear hvv
  go_enter Tryd.func13, Tryd.ntmps13
  go_wp2_with fail
  refine ha.mono ?_
  clear ha
  cases f with
  | none =>
    rintro x w2 ⟨rfl, K2⟩
    have F2 := K2.blk F1 (by simp)
    have K3 := K1.trans K2
    obtain ⟨r0, r1, _, _, rs⟩ : w2.cell? ⟨w.heap.size, 0, none⟩ = some (.int .i64 0) ∧ w2.cell? ⟨w.heap.size, 1, none⟩ = some (.int .i64 0) ∧ w2.frozen? ⟨w.heap.size, 0, none⟩ = false ∧ w2.frozen? ⟨w.heap.size, 1, none⟩ = false ∧ w.heap.size < w2.heap.size := ⟨blk_cell F2 0, blk_cell F2 1, blk_free F2 0, blk_free F2 1, blk_lt F2⟩
    go_wp2
    have S1 := set2' (a' := .int .i64 0) (b' := .int .i64 0) F2
    have K4 := keep2 (n := w.heap.size) (a := .int .i64 0) (b := .int .i64 0) K3 (.inr (Nat.le_refl _))
    generalize (w2.setCell ⟨w.heap.size, 0, none⟩ (.int .i64 0)).setCell ⟨w.heap.size, 1, none⟩ (.int .i64 0) = W5 at *
    have y0 := blk_cell S1 0
    have y1 := blk_cell S1 1
    simp only [List.getElem?_toArray, List.getElem?_cons_zero, List.getElem?_cons_succ] at y0 y1
    exact bodyPost_ret (v := .tuple #[.agg #[.int .i64 0, .int .i64 0], .bool false]) (by simp [results, Tryd.results13, go_sem, y0, y1]) rfl ⟨rfl, K4⟩
  | some y =>
    obtain ⟨b, a, k⟩ := y
    rintro x w2 ⟨rfl, K2, hc⟩
    have F2 := K2.blk F1 (by simp)
    have K3 := K1.then K2 (fun k hk => by simp at hk; subst hk; exact .inr (by omega))
    have hb := first_in HF.out hI
    have hbl := blk_lt hb
    have hb2 := K3.blk hb (by simp)
    have his := isL_any e b a k HF.out w2
    rw [HV.out] at his
    clear K1 K2 F1 T1 hI1 hI hg
    go_wp2_with fail
    refine his.mono ?_
    rintro x w3 ⟨rfl, K5⟩
    have F3 := K5.blk F2 (by simp)
    have hb3 := K5.blk hb2 (by simp)
    have hc3 := K5.cell' hc (by simp)
    have K6 := K3.trans K5
    obtain ⟨r0, r1, s0, s1, rs⟩ : w3.cell? ⟨w.heap.size, 0, none⟩ = some (.int .i64 0) ∧ w3.cell? ⟨w.heap.size, 1, none⟩ = some (.int .i64 0) ∧ w3.frozen? ⟨w.heap.size, 0, none⟩ = false ∧ w3.frozen? ⟨w.heap.size, 1, none⟩ = false ∧ w.heap.size < w3.heap.size := ⟨blk_cell F3 0, blk_cell F3 1, blk_free F3 0, blk_free F3 1, blk_lt F3⟩
    have c0 : w3.cell? ⟨b, 0, none⟩ = some (.int .i64 a) := blk_cell hb3 0
    have c1 : w3.cell? ⟨b, 1, none⟩ = some (.int .i64 k) := blk_cell hb3 1
    clear his F2 hb2 hc
    go_upto_region 4 with (fail)
    go_region_held3 (fun w' => w'.cell? ⟨w.heap.size + 1, 0, none⟩ = some (.pointer (some ⟨b, 0, none⟩)) ∧ w'.cell? ⟨b, 0, none⟩ = some (.int .i64 a) ∧ w'.cell? ⟨b, 1, none⟩ = some (.int .i64 k)) ((go_split_ands; refine ⟨?_, ?_, ?_⟩ <;> (repeat (with_reducible first | assumption | refine cell_drew' ?_ | refine cell_set' ?_ (by simp <;> omega) _)))) ((fail))
    go_wp2
    have S1 := set2' (a' := .int .i64 k) (b' := .int .i64 a) F3
    have K7 := (keep2 (n := w.heap.size) (a := .int .i64 k) (b := .int .i64 a) K6 (.inr (Nat.le_refl _))).drew
    have y0 := cell_drew' (blk_cell S1 0)
    have y1 := cell_drew' (blk_cell S1 1)
    generalize ((w3.setCell ⟨w.heap.size, 0, none⟩ (.int .i64 k)).setCell ⟨w.heap.size, 1, none⟩ (.int .i64 a)).drew = W5 at *
    exact bodyPost_ret (v := .tuple #[.agg #[.int .i64 k, .int .i64 a], .bool true]) (by simp [results, Tryd.results13, go_sem, y0, y1]) rfl ⟨rfl, K7⟩
theorem of_nil (w : World) : Calls Tryd.prog 13 #[.nilIface] w fun x w' => x = .returned (.tuple #[.agg #[.int .i64 0, .int .i64 0], .bool false]) ∧ Keep [] w w' := by
  have K1 := ((Keep.refl [] w).alloc (.cells #[.int .i64 0, .int .i64 0] 33)).alloc (.cells #[.pointer none] 36)
  have F2 := blk_alloc (blk_new w (.cells #[.int .i64 0, .int .i64 0] 33)) (.cells #[.pointer none] 36)
  go_enter Tryd.func13, Tryd.ntmps13
  go_wp2_with fail
  refine (as_nil _ _).mono ?_
  rintro x w2 ⟨rfl, rfl⟩
  generalize (w.alloc (.cells #[.int .i64 0, .int .i64 0] 33)).alloc (.cells #[.pointer none] 36) = w2 at *
  obtain ⟨r0, r1, _, _, rs⟩ : w2.cell? ⟨w.heap.size, 0, none⟩ = some (.int .i64 0) ∧ w2.cell? ⟨w.heap.size, 1, none⟩ = some (.int .i64 0) ∧ w2.frozen? ⟨w.heap.size, 0, none⟩ = false ∧ w2.frozen? ⟨w.heap.size, 1, none⟩ = false ∧ w.heap.size < w2.heap.size := ⟨blk_cell F2 0, blk_cell F2 1, blk_free F2 0, blk_free F2 1, blk_lt F2⟩
  go_wp2
  have S1 := set2' (a' := .int .i64 0) (b' := .int .i64 0) F2
  have K4 := keep2 (n := w.heap.size) (a := .int .i64 0) (b := .int .i64 0) K1 (.inr (Nat.le_refl _))
  generalize (w2.setCell ⟨w.heap.size, 0, none⟩ (.int .i64 0)).setCell ⟨w.heap.size, 1, none⟩ (.int .i64 0) = W5 at *
  have y0 := blk_cell S1 0
  have y1 := blk_cell S1 1
  simp only [List.getElem?_toArray, List.getElem?_cons_zero, List.getElem?_cons_succ] at y0 y1
  exact bodyPost_ret (v := .tuple #[.agg #[.int .i64 0, .int .i64 0], .bool false]) (by simp [results, Tryd.results13, go_sem, y0, y1]) rfl ⟨rfl, K4⟩

/-! ### the text of a kind that has a name -/
theorem kind_of (k : Int) (s : ByteArray) (hs : nameX k = s) (hne : s.toList.isEmpty = false) (w : World) : Calls Tryd.prog 49 #[.int .i64 k] w fun x w' => x = .returned (.iface 103 (.agg #[.string s])) ∧ w' = w := by
  have hn := name_any k w
  rw [hs] at hn
  clear hs
  go_enter Tryd.func49, Tryd.ntmps49
  go_wp2_with fail
  refine hn.mono ?_
  rintro e w1 ⟨rfl, rfl⟩
  go_wp2
  go_ret
  exact ⟨rfl, rfl⟩
theorem kind_known (w : World) : Calls Tryd.prog 49 #[.int .i64 40] w fun x w' => x = .returned (.iface 103 (.agg #[.string ⟨#[98, 121, 116, 101]⟩])) ∧ w' = w := kind_of 40 _ (by kernel_rfl) (by kernel_rfl) w
set_option maxRecDepth 100000 in
theorem word_known (s : ByteArray) (w : World) : Calls Tryd.prog 48 #[.iface 103 (.agg #[.string s])] w fun x w' => x = .returned (.string s) ∧ Keep [] w w' := by
  have K := (Keep.refl [] w).alloc (.cells #[.string s] 103)
  have ta : ∀ (v : Value) (w : World), (Instr.typeAssert (.iface 103 v) 20 103 true).run Tryd.prog w = .ok (.tuple #[v, .bool true]) w := fun v w => by kernel_rfl
  go_enter Tryd.func48, Tryd.ntmps48
  go_wp2
  go_ret
  exact ⟨rfl, K⟩
set_option maxRecDepth 100000 in
set_option maxHeartbeats 4000000 in
theorem text_byte (b : Nat) (w : World) (hb : w.heap[b]? = some (.cells #[.int .i64 12, .int .i64 40] 39 (0, 0))) : Calls Tryd.prog 47 #[.pointer (some ⟨b, 0, none⟩)] w fun x w' => x = .returned (.string ⟨#[98, 121, 116, 101, 32, 97, 116, 32, 49, 50]⟩) ∧ Keep [] w w' := by
  have c0 : w.cell? ⟨b, 0, none⟩ = some (.int .i64 12) := blk_cell hb 0
  have c1 : w.cell? ⟨b, 1, none⟩ = some (.int .i64 40) := blk_cell hb 1
  have hi : ∀ W, Calls Tryd.prog 50 #[.int .i64 12] W fun e w' => e = .returned (.string ⟨#[49, 50]⟩) ∧ w' = W := fun W => by
    have := Tryd.strconv_Itoa_small 12 (by omega) W
    have e : (⟨(Lib.decDigits 12).toArray⟩ : ByteArray) = ⟨#[49, 50]⟩ := by kernel_rfl
    rw [e] at this
    exact this
  go_enter Tryd.func47, Tryd.ntmps47
  go_wp2_with fail
  go_region_held3 (fun w' => w'.cell? ⟨b, 0, none⟩ = some (.int .i64 12) ∧ w'.cell? ⟨b, 1, none⟩ = some (.int .i64 40) ∧ Keep [] w w') ((go_split_ands; refine ⟨?_, ?_, ?_⟩ <;> (repeat (with_reducible first | assumption | refine cell_drew' ?_ | exact Keep.refl _ _ | refine Keep.drew ?_ | refine Keep.cell' (S := []) (by assumption) ?_ (by simp) | refine Keep.trans (S := []) ?_ (by assumption))))) ((first | (go_at_call 49; (with_reducible refine (kind_known _).mono ?_); rintro x w9 ⟨rfl, rfl⟩) | (go_at_call 48; (with_reducible refine (word_known _ _).mono ?_); rintro x w8 ⟨rfl, K8⟩) | (go_at_call 50; (with_reducible refine (hi _).mono ?_); rintro x w9 ⟨rfl, rfl⟩)))
  go_wp2
  go_ret
  exact ⟨by kernel_rfl, (Keep.refl [] w).drew.trans K8⟩

end Go.Proofs.YtihiffemeodfhaaDoor
