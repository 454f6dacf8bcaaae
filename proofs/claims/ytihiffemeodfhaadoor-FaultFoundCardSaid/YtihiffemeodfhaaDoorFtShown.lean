/- Fault: the law's examples. -/
import Derived.Test.YtihiffemeodfhaaDoorFtOf
namespace Go.Proofs.YtihiffemeodfhaaDoor
open Go.RowKit Go.Extern.Stop Go.Stop Go.Extern
set_option linter.unusedSimpArgs false
set_option linter.unusedVariables false

theorem mErrL (v : Value) (w : World) : (Go.method 239 36 v "Error").run Tryd.prog w = .ok (47, v) w := by kernel_rfl
theorem mErrE (v : Value) (w : World) : (Go.method 239 84 v "Error").run Tryd.prog w = .ok (81, v) w := by kernel_rfl
def Hnd (w : World) : Prop := w.cell? ⟨6, 0, none⟩ = some (.iface 71 (.agg #[.pointer (some ⟨10, 27, none⟩)]))
theorem Hnd.keep {w w' : World} (h : Hnd w) (k : Keep [] w w') : Hnd w' := k.cell' h (by simp)

set_option maxRecDepth 100000 in
set_option maxHeartbeats 8000000 in
theorem shown_any (J : List Nat) (S : Nat → Addr) (w : World) (C : Cls J S w) (H : Hnd w) (h2 : 2 ∈ J) (h3 : 3 ∈ J) : Calls Tryd.prog 7 #[] w fun e w' => e = .returned (.bool true) ∧ Keep [] w w' := by
  have mL := mErrL
  have hfd0 : ∀ (x y : Int) (w : World), (Instr.field 33 (.agg #[.int .i64 x, .int .i64 y]) 0).run Tryd.prog w = .ok (.int .i64 x) w := fun _ _ _ => by kernel_rfl
  go_enter Tryd.func7, Tryd.ntmps7
  go_wp2_with fail
  refine (error_some 40 12 (by decide) _).mono ?_
  rintro e w1 ⟨b, rfl, hb, hI, K1⟩
  go_wp2_with fail
  refine (error_nil 7 _).mono ?_
  rintro e w2 ⟨rfl, K2⟩
  have K2' := K1.trans K2
  have ho : ∀ W, Keep [] w1 W → Calls Tryd.prog 13 #[.iface 44 (.agg #[.iface 36 (.pointer (some ⟨b, 0, none⟩))])] W fun x w' => x = .returned (.tuple #[.agg #[.int .i64 40, .int .i64 12], .bool true]) ∧ Keep [] W w' := fun W k => of_any (Er.wrap (Er.loc b 12 40)) W (H.keep (K1.trans k)) (Er.In.keep (e := Er.loc b 12 40) k hI)
  have hoo : ∀ W, Keep [] w W → Calls Tryd.prog 13 #[.iface 42 (.agg #[])] W fun x w' => x = .returned (.tuple #[.agg #[.int .i64 0, .int .i64 0], .bool false]) ∧ Keep [] W w' := fun W k => of_any Er.oth W (H.keep k) trivial
  have his : ∀ W, Keep [] w1 W → Calls Tryd.prog 15 #[.iface 36 (.pointer (some ⟨b, 0, none⟩)), .iface 84 (.pointer (some (S 2)))] W fun x w' => x = .returned (.bool true) ∧ Keep [] W w' := fun W k => is_any J S 2 h2 (by decide) (Er.loc b 12 40) W (C.keep (K1.trans k)) (Er.In.keep (e := Er.loc b 12 40) k hI) (.inr h2)
  have hin : ∀ W, Keep [] w1 W → Calls Tryd.prog 15 #[.iface 36 (.pointer (some ⟨b, 0, none⟩)), .iface 84 (.pointer (some (S 3)))] W fun x w' => x = .returned (.bool false) ∧ Keep [] W w' := fun W k => is_any J S 3 h3 (by decide) (Er.loc b 12 40) W (C.keep (K1.trans k)) (Er.In.keep (e := Er.loc b 12 40) k hI) (.inr h2)
  have htx : ∀ W, Keep [] w1 W → Calls Tryd.prog 47 #[.pointer (some ⟨b, 0, none⟩)] W fun x w' => x = .returned (.string ⟨#[98, 121, 116, 101, 32, 97, 116, 32, 49, 50]⟩) ∧ Keep [] W w' := fun W k => text_byte b W (k.blk hI (by simp))
  have hn1 : ∀ W, Calls Tryd.prog 9 #[.int .i64 130] W fun e w' => e = .returned (.string ⟨#[105, 116, 101, 109, 115]⟩) ∧ w' = W := fun W => name_any 130 W
  have hn2 : ∀ W, Calls Tryd.prog 9 #[.int .i64 (-5)] W fun e w' => e = .returned (.string ⟨#[]⟩) ∧ w' = W := fun W => name_any (-5) W
  go_wp2_with fail
  refine (ho _ K2).mono ?_
  rintro e w3 ⟨rfl, K3⟩
  have K3' := (K2.trans K3).alloc (.cells #[.int .i64 40, .int .i64 12] 33)
  have F3 := blk_new w3 (.cells #[.int .i64 40, .int .i64 12] 33)
  go_wp2_with fail
  refine (hoo _ (K1.trans K3')).mono ?_
  rintro e w4 ⟨rfl, K4⟩
  have K4' := (K3'.trans K4).alloc (.cells #[.int .i64 0, .int .i64 0] 33)
  have F4 := blk_alloc (K4.blk F3 (by simp)) (.cells #[.int .i64 0, .int .i64 0] 33)
  clear F3 K3'
  go_wp2_with fail
  refine (of_nil _).mono ?_
  rintro e w5 ⟨rfl, K5⟩
  have K5' := (K4'.trans K5).alloc (.cells #[.int .i64 0, .int .i64 0] 33)
  have F5 := blk_alloc (K5.blk F4 (by simp)) (.cells #[.int .i64 0, .int .i64 0] 33)
  clear F4 K4' ho hoo
  go_wp2_with fail
  refine (htx _ K5').mono ?_
  rintro e w6 ⟨rfl, K6⟩
  have K6' := K5'.trans K6
  have F6 := K6.blk F5 (by simp)
  clear F5 K5' htx
  have g6 := C.cell 2 h2
  have g6' := (K1.trans K6').cell' g6 (by simp)
  simp only [glN] at g6'
  go_wp2_with fail
  refine (his _ K6').mono ?_
  rintro e w7 ⟨rfl, K7⟩
  have K7' := K6'.trans K7
  have F7 := K7.blk F6 (by simp)
  clear F6 K6' his g6 g6'
  have g7 := C.cell 3 h3
  have g7' := (K1.trans K7').cell' g7 (by simp)
  simp only [glN] at g7'
  go_wp2_with fail
  refine (hin _ K7').mono ?_
  rintro e w8 ⟨rfl, K8⟩
  have K8' := K7'.trans K8
  have F8 := K8.blk F7 (by simp)
  clear F7 K7' hin g7 g7'
  have f0 := blk_cell F8 0
  have f1 := blk_cell F8 1
  simp only [List.getElem?_toArray, List.getElem?_cons_zero, List.getElem?_cons_succ] at f0 f1
  go_wp2_with fail
  refine (hn1 _).mono ?_
  rintro e w9 ⟨rfl, rfl⟩
  go_wp2_with fail
  refine (hn2 _).mono ?_
  rintro e w9 ⟨rfl, rfl⟩
  go_wp2
  go_ret
  exact ⟨rfl, K1.trans K8'⟩

end Go.Proofs.YtihiffemeodfhaaDoor
