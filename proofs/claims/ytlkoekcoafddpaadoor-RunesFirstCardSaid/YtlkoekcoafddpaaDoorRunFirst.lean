/- Runes: RunesFirst. -/
import Derived.Test.YtlkoekcoafddpaaDoorRunShown
import Derived.Test.YtlkoekcoafddpaaDoorRunFirstLaw
import Derived.Deep.RegionHeld3
namespace Go.Proofs.YtlkoekcoafddpaaDoor
open Go.RowKit Go.Lib
set_option linter.unusedSimpArgs false
set_option linter.unusedVariables false

theorem ends_le {e : ByteArray} (h : e ∈ endsL) : e.size ≤ 3 := by
  simp [endsL] at h
  rcases h with rfl | rfl | rfl | rfl | rfl | rfl | rfl | rfl <;> decide

theorem keepNew {w W : World} (h : Keep [] w W) {p : Addr} (hp : w.heap.size ≤ p.block) (v : Value) : Keep [] w (W.setCell p v) := h.set (.inr hp) v
theorem cells2 {w : World} {n : Nat} {a b : Value} {t : TypeId} (h : w.heap[n]? = some (.cells #[a, b] t (0, 0))) :
    w.cell? ⟨n, 0, none⟩ = some a ∧ w.cell? ⟨n, 1, none⟩ = some b ∧ w.frozen? ⟨n, 0, none⟩ = false ∧ w.frozen? ⟨n, 1, none⟩ = false ∧ n < w.heap.size := ⟨blk_cell h 0, blk_cell h 1, blk_free h 0, blk_free h 1, blk_lt h⟩
set_option maxRecDepth 100000 in
set_option maxHeartbeats 4000000 in
theorem walkFirst (s more : ByteArray) (hs : s.size ≤ 140737488351232) (hm : more.size ≤ 140737488351232) (w : World) (T : Tabs w) : Calls Tryd.prog 6 #[.string s, .string more] w fun e w' => e = .returned (.bool true) ∧ Below w.heap.size w w' := by
  go_enter Tryd.func6, Tryd.ntmps6
  go_wp2_with fail
  refine (shown_any _ T).mono ?_
  rintro e w1 ⟨rfl, K1⟩
  go_wp2_with fail
  cases hba : badFrom s 0 with
  | none =>
    refine (check_at s 0 0 (by omega) (by rw [hba]; rfl) _ (T.keep K1)).mono ?_
    rintro e w2 ⟨rfl, K2⟩
    clear hba
    go_wp2
    go_ret
    exact ⟨rfl, ((K1.trans K2).alloc _).below (Nat.le_refl _) (by simp)⟩
  | some p =>
  obtain ⟨i0, k0⟩ := p
  obtain ⟨hb1, hb2, hb3⟩ := bad_le hba
  obtain ⟨q, hq⟩ : ∃ q, i0 + k0 = q := ⟨_, rfl⟩
  have HD := hid (first_dead hba)
  have HA := hid (first_alive hba)
  rw [hq] at HD HA hb3
  refine (check_at s 40 (q : Int) (by omega) (by rw [hba, ← hq]; rfl) _ (T.keep K1)).mono ?_
  rintro e w2 ⟨rfl, K2⟩
  have hq0 : q < s.size ∨ 0 < q := by omega
  have hqs : (q : Int) ≤ (s.size : Int) := by omega
  have dq0 : decide ((q : Int) < 0) = false := by simp <;> omega
  have dqs : decide (s.size < q) = false := by simp <;> omega
  have HQ := hid hq
  have HBA := hid hba
  have R2 := blk_new w2 (.cells #[.int .i64 40, .int .i64 (q : Int)] 36)
  have K3 := (K1.trans K2).alloc (.cells #[.int .i64 40, .int .i64 (q : Int)] 36)
  have z2 := (K1.trans K2).size
  clear hq hba hb1 hb2 K1 K2
  have TF := T.keep K3
  have hA : ∀ e, e ∈ endsL → ∀ W, Tabs W → Calls Tryd.prog 16 #[.string (s.extract 0 q ++ e)] W fun x w' => x = .returned (.agg #[.int .i64 (faultX (badFrom (s.extract 0 q ++ e) 0)).1, .int .i64 (faultX (badFrom (s.extract 0 q ++ e) 0)).2]) ∧ Keep [] W w' := fun e he W TW => check_any (s.extract 0 q ++ e) (by rw [ByteArray.size_append, size_cut hb3]; have := ends_le he; omega) W TW
  have hDD : q < s.size → ∀ e : ByteArray, e.size ≤ 140737488351232 → ∀ W, Tabs W → Calls Tryd.prog 16 #[.string (s.extract 0 (q + 1) ++ e)] W fun x w' => x = .returned (.agg #[.int .i64 40, .int .i64 (q : Int)]) ∧ Keep [] W w' := fun hlt e he W TW => check_at _ 40 (q : Int) (by rw [ByteArray.size_append, size_cut (by omega)]; omega) (by rw [HD.out hlt e, ← HQ.out]; rfl) W TW
  have E3 := blk_new (w2.alloc (.cells #[.int .i64 40, .int .i64 (q : Int)] 36)) (.cells (endsL.map Value.string).toArray 9)
  rw [size_alloc'] at E3
  have R3 := blk_alloc R2 (.cells (endsL.map Value.string).toArray 9)
  have K4 := K3.alloc (.cells (endsL.map Value.string).toArray 9)
  clear R2 K3
  by_cases hlt : q < s.size
  · have hlt2 : (q : Int) < (s.size : Int) := by omega
    have hlt3 : (q : Int) + 1 ≤ (s.size : Int) := by omega
    have hD := hDD hlt
    have hsw : IntKind.i64.wrap ((q : Int) + 1) = (q : Int) + 1 := by rw [IntKind.wrap_i64]; omega
    have hs1 : (0 : Int) ≤ (q : Int) + 1 := by omega
    have hs2 : ¬ s.size < q + 1 := by omega
    have hs3 : ¬ (s.size : Int) < (q : Int) + 1 := by omega
    have hs4 : decide (s.size < q + 1) = false := by simp <;> omega
    go_wp2_with fail
    go_loopw [8, 9, 10, 11, 12] (fun v8 v9 v10 _ _ wr => ∃ (i : Nat) (al : Bool), i ≤ 8 ∧ v8 = .bool al ∧ v9 = .bool true ∧ v10 = .int .i64 (i : Int) ∧ Hid (al = true ↔ ∃ e ∈ endsL.take i, badFrom (s.extract 0 q ++ e) 0 = none) ∧ wr.heap[w2.heap.size]? = some (.cells #[.int .i64 40, .int .i64 (q : Int)] 36 (0, 0)) ∧ wr.heap[w2.heap.size + 1]? = some (.cells (endsL.map Value.string).toArray 9 (0, 0)) ∧ Keep [] w wr ∧ Tabs wr) (fun _ _ v10 _ _ _ => 8 - (RowKit.intOf v10).toNat)
    case atStart => exact ⟨0, false, Nat.zero_le _, rfl, rfl, rfl, hid (by simp), R3, E3, K4, T.keep K4⟩
    case round =>
      clear R3 E3 K4 TF
      obtain ⟨i, al, hi, rfl, rfl, rfl, HAL, R, E, K, TR⟩ := hrel
      have f0 : wr.cell? ⟨w2.heap.size, 0, none⟩ = some (.int .i64 40) := blk_cell R 0
      have f1 : wr.cell? ⟨w2.heap.size, 1, none⟩ = some (.int .i64 (q : Int)) := blk_cell R 1
      by_cases h8 : i < 8
      · obtain ⟨e, he⟩ : ∃ e, endsL[i]? = some e := ⟨endsL[i]'(by simpa [endsL] using h8), List.getElem?_eq_getElem _⟩
        have d8 : (i : Int) < 8 := by omega
        have hem := List.mem_of_getElem? he
        have hel := ends_le hem
        have g0 : wr.cell? ⟨w2.heap.size + 1, i, none⟩ = some (.string e) := (blk_cell E i).trans (by simp [he])
        have hszF := blk_lt R
        have hszE := blk_lt E
        have HTK : Hid (endsL.take (i + 1) = endsL.take i ++ [e]) := hid (take_snoc he)
        have hab : (s.extract 0 q).size + e.size ≤ 9223372036854775807 := by rw [size_cut hb3]; omega
        have hab2 : (s.extract 0 (q + 1)).size + e.size ≤ 9223372036854775807 := by rw [size_cut (by omega)]; omega
        have hab3 : min q s.size + e.size ≤ 9223372036854775807 := by omega
        have hab4 : min (q + 1) s.size + e.size ≤ 9223372036854775807 := by omega
        have hab7 : ¬ 9223372036854775807 < q + e.size := by omega
        have hab8 : ¬ 9223372036854775807 < q + 1 + e.size := by omega
        have hab9 : ¬ 9223372036854775807 < min (q + 1) s.size + e.size := by omega
        have hab10 : ¬ 9223372036854775807 < (s.extract 0 (q + 1)).size + e.size := by omega
        have hab5 : q + e.size ≤ 9223372036854775807 := by omega
        have hab6 : q + 1 + e.size ≤ 9223372036854775807 := by omega
        clear he
        go_upto_region 15 with (fail)
        go_cut [11] from 49 to 86 (fun v wc => ∃ b, v = .pointer (some ⟨b, 0, none⟩) ∧ wr.heap.size ≤ b ∧ wc.heap[b]? = some (.cells #[.int .i64 (faultX (badFrom (s.extract 0 q ++ e) 0)).1, .int .i64 (faultX (badFrom (s.extract 0 q ++ e) 0)).2] 36 (0, 0)) ∧ Keep [] wr wc)
        case first =>
          go_region_held3 (fun w' => w'.cell? ⟨w2.heap.size, 1, none⟩ = some (.int .i64 (q : Int)) ∧ w'.cell? ⟨w2.heap.size + 1, i, none⟩ = some (.string e) ∧ Keep [] wr w') ((go_split_ands; refine ⟨?_, ?_, ?_⟩ <;> (repeat (with_reducible first | assumption | refine cell_drew' ?_ | refine cell_alloc' ?_ _ | exact Keep.refl _ _ | refine Keep.drew ?_ | refine Keep.alloc ?_ _ | refine cell_set' ?_ (by first | exact Nat.ne_of_lt hszF | exact Nat.ne_of_lt hszE | (simp <;> omega)) _ | refine keepNew ?_ (by first | exact Nat.le_refl _ | (simp <;> omega)) _ | refine Keep.cell' (S := []) (by assumption) ?_ (by simp) | refine Keep.trans (S := []) ?_ (by assumption))))) ((go_at_call 16; (with_reducible refine (hA e hem _ (TR.keep (by repeat (with_reducible first | assumption | exact Keep.refl _ _ | refine Keep.drew ?_ | refine Keep.alloc ?_ _ | refine Keep.trans (S := []) ?_ (by assumption))))).mono ?_); rintro x w9 ⟨rfl, K9⟩; (try obtain ⟨p0, p1, r0, r1, rs⟩ := cells2 (K9.blk (blk_drew (blk_new wr (.cells #[.int .i64 0, .int .i64 0] 36))) (by simp)))))
          all_goals (go_wp2; go_meet; first | exact ⟨w9.heap.size, rfl, by have := K9.size; simpa using this, blk_new _ _, (((Keep.refl [] wr).drew).trans K9).alloc _⟩ | exact ⟨wr.heap.size, rfl, Nat.le_refl _, set2' (K9.blk (blk_drew (blk_new wr _)) (by simp)), keep2 ((((Keep.refl [] wr).alloc _).drew).trans K9) (.inr (Nat.le_refl _))⟩)
        case rest =>
          obtain ⟨b, rfl, hbb, RB, KB⟩ := hcut
          obtain ⟨W5, hW5⟩ : ∃ W, W = wc := ⟨_, rfl⟩
          subst hW5
          have f0' := KB.cell' f0 (by simp)
          have f1' := KB.cell' f1 (by simp)
          have g0' := KB.cell' g0 (by simp)
          have b0 := blk_cell RB 0
          simp only [List.getElem?_toArray, List.getElem?_cons_zero] at b0
          have hszb := blk_lt RB
          have TR5 := TR.keep KB
          have hszF' : w2.heap.size < W5.heap.size := Nat.lt_of_lt_of_le hszF KB.size
          have hszE' : w2.heap.size + 1 < W5.heap.size := Nat.lt_of_lt_of_le hszE KB.size
          have hx : ((faultX (badFrom (s.extract 0 q ++ e) 0)).1 == 0) = decide (badFrom (s.extract 0 q ++ e) 0 = none) := by
            cases badFrom (s.extract 0 q ++ e) 0 <;> simp [faultX]
          obtain ⟨ok, hok⟩ : ∃ ok : Bool, decide (badFrom (s.extract 0 q ++ e) 0 = none) = ok := ⟨_, rfl⟩
          have HOK : Hid (ok = true ↔ badFrom (s.extract 0 q ++ e) 0 = none) := hid (by rw [← hok]; simp)
          rw [hok] at hx
          clear hok f0 f1 g0 RB
          generalize (faultX (badFrom (s.extract 0 q ++ e) 0)).1 = x1 at *
          have HAL2 : Hid ((al || ok) = true ↔ ∃ e ∈ endsL.take (i + 1), badFrom (s.extract 0 q ++ e) 0 = none) := hid (by
            rw [HTK.out, Bool.or_eq_true, HAL.out, HOK.out]
            constructor
            · rintro (⟨e', h1, h2⟩ | h)
              · exact ⟨e', by simp [h1], h2⟩
              · exact ⟨e, by simp, h⟩
            · rintro ⟨e', h1, h2⟩
              rcases List.mem_append.1 h1 with h1 | h1
              · exact .inl ⟨e', h1, h2⟩
              · obtain rfl : e' = e := by simpa using h1
                exact .inr h2)
          rcases al with _ | _
          all_goals go_upto_region 18 with (fail)
          all_goals
            go_cut [12] from 49 to 86 (fun v wc => ∃ b, v = .pointer (some ⟨b, 0, none⟩) ∧ W5.heap.size ≤ b ∧ wc.heap[b]? = some (.cells #[.int .i64 40, .int .i64 (q : Int)] 36 (0, 0)) ∧ Keep [] W5 wc)
            case first =>
              go_region_held3 (fun w' => w'.cell? ⟨w2.heap.size, 1, none⟩ = some (.int .i64 (q : Int)) ∧ w'.cell? ⟨w2.heap.size + 1, i, none⟩ = some (.string e) ∧ Keep [] W5 w') ((go_split_ands; refine ⟨?_, ?_, ?_⟩ <;> (repeat (with_reducible first | assumption | refine cell_drew' ?_ | refine cell_alloc' ?_ _ | exact Keep.refl _ _ | refine Keep.drew ?_ | refine Keep.alloc ?_ _ | refine cell_set' ?_ (by first | exact Nat.ne_of_lt hszF' | exact Nat.ne_of_lt hszE' | (simp <;> omega)) _ | refine keepNew ?_ (by first | exact Nat.le_refl _ | (simp <;> omega)) _ | refine Keep.cell' (S := []) (by assumption) ?_ (by simp) | refine Keep.trans (S := []) ?_ (by assumption))))) ((go_at_call 16; (with_reducible refine (hD e (by omega) _ (TR5.keep (by repeat (with_reducible first | assumption | exact Keep.refl _ _ | refine Keep.drew ?_ | refine Keep.alloc ?_ _ | refine Keep.trans (S := []) ?_ (by assumption))))).mono ?_); rintro x w9 ⟨rfl, K9⟩; (try obtain ⟨p0, p1, r0, r1, rs⟩ := cells2 (K9.blk (blk_drew (blk_new W5 (.cells #[.int .i64 0, .int .i64 0] 36))) (by simp)))))
              all_goals (go_wp2; go_meet; first | exact ⟨w9.heap.size, rfl, by have := K9.size; simpa using this, blk_new _ _, (((Keep.refl [] W5).drew).trans K9).alloc _⟩ | exact ⟨W5.heap.size, rfl, Nat.le_refl _, set2' (K9.blk (blk_drew (blk_new W5 _)) (by simp)), keep2 ((((Keep.refl [] W5).alloc _).drew).trans K9) (.inr (Nat.le_refl _))⟩)
            case rest =>
              obtain ⟨d, rfl, hdd, RD, KD⟩ := hcut
              obtain ⟨W6, hW6⟩ : ∃ W, W = wc := ⟨_, rfl⟩
              subst hW6
              have f0 := KD.cell' f0' (by simp)
              have f1 := KD.cell' f1' (by simp)
              obtain ⟨d0, d1, _, _, _⟩ := cells2 RD
              have R6 := (KB.trans KD).blk R (by simp)
              have E6 := (KB.trans KD).blk E (by simp)
              have K6 := K.trans (KB.trans KD)
              have T6 := TR5.keep KD
              clear f0' f1' g0' b0 R E
              go_wp2
              go_roundw
              case rel => exact ⟨i + 1, _, h8, rfl, rfl, by go_num, HAL2, R6, E6, K6, T6⟩
              case measure => simp [RowKit.intOf]; omega
      · obtain rfl : i = 8 := by omega
        have hal : al = true := HAL.out.2 (by rw [List.take_of_length_le (by simp [endsL])]; exact HA.out)
        subst hal
        have hszF := blk_lt R
        have hab : (s.extract 0 (q + 1)).size + more.size ≤ 9223372036854775807 := by rw [size_cut (by omega)]; omega
        have hab4 : min (q + 1) s.size + more.size ≤ 9223372036854775807 := by omega
        have hab6 : q + 1 + more.size ≤ 9223372036854775807 := by omega
        have hab9 : ¬ 9223372036854775807 < min (q + 1) s.size + more.size := by omega
        go_upto_region 20 with (fail)
        go_region_held3 (fun w' => w'.cell? ⟨w2.heap.size, 0, none⟩ = some (.int .i64 40) ∧ w'.cell? ⟨w2.heap.size, 1, none⟩ = some (.int .i64 (q : Int)) ∧ Keep [] wr w') ((go_split_ands; refine ⟨?_, ?_, ?_⟩ <;> (repeat (with_reducible first | assumption | refine cell_drew' ?_ | refine cell_alloc' ?_ _ | exact Keep.refl _ _ | refine Keep.drew ?_ | refine Keep.alloc ?_ _ | refine cell_set' ?_ (by first | exact Nat.ne_of_lt hszF | (simp <;> omega)) _ | refine keepNew ?_ (by first | exact Nat.le_refl _ | (simp <;> omega)) _ | refine Keep.cell' (S := []) (by assumption) ?_ (by simp) | refine Keep.trans (S := []) ?_ (by assumption))))) ((go_at_call 16; (with_reducible refine (hD more (by omega) _ (TR.keep (by repeat (with_reducible first | assumption | exact Keep.refl _ _ | refine Keep.drew ?_ | refine Keep.alloc ?_ _ | refine Keep.trans (S := []) ?_ (by assumption))))).mono ?_); rintro x w9 ⟨rfl, K9⟩))
        have y0 := K9.cell' (cell_drew' f0) (by simp)
        have y1 := K9.cell' (cell_drew' f1) (by simp)
        go_wp2
        go_ret
        exact ⟨rfl, ((K.drew).trans K9).below (Nat.le_refl _) (by simp)⟩
  · have hn2 : ¬ (q : Int) < (s.size : Int) := by omega
    have hn3 : decide (q < s.size) = false := by simp <;> omega
    have hq1 : 0 < q := by omega
    have hq2 : (0 : Int) < (q : Int) := by omega
    clear hDD
    go_wp2_with fail
    go_loopw [8, 9, 10, 11, 12] (fun v8 v9 v10 _ _ wr => ∃ (i : Nat) (al : Bool), i ≤ 8 ∧ v8 = .bool al ∧ v9 = .bool true ∧ v10 = .int .i64 (i : Int) ∧ Hid (al = true ↔ ∃ e ∈ endsL.take i, badFrom (s.extract 0 q ++ e) 0 = none) ∧ wr.heap[w2.heap.size]? = some (.cells #[.int .i64 40, .int .i64 (q : Int)] 36 (0, 0)) ∧ wr.heap[w2.heap.size + 1]? = some (.cells (endsL.map Value.string).toArray 9 (0, 0)) ∧ Keep [] w wr ∧ Tabs wr) (fun _ _ v10 _ _ _ => 8 - (RowKit.intOf v10).toNat)
    case atStart => exact ⟨0, false, Nat.zero_le _, rfl, rfl, rfl, hid (by simp), R3, E3, K4, T.keep K4⟩
    case round =>
      clear R3 E3 K4 TF
      obtain ⟨i, al, hi, rfl, rfl, rfl, HAL, R, E, K, TR⟩ := hrel
      have f0 : wr.cell? ⟨w2.heap.size, 0, none⟩ = some (.int .i64 40) := blk_cell R 0
      have f1 : wr.cell? ⟨w2.heap.size, 1, none⟩ = some (.int .i64 (q : Int)) := blk_cell R 1
      by_cases h8 : i < 8
      · obtain ⟨e, he⟩ : ∃ e, endsL[i]? = some e := ⟨endsL[i]'(by simpa [endsL] using h8), List.getElem?_eq_getElem _⟩
        have d8 : (i : Int) < 8 := by omega
        have hem := List.mem_of_getElem? he
        have hel := ends_le hem
        have g0 : wr.cell? ⟨w2.heap.size + 1, i, none⟩ = some (.string e) := (blk_cell E i).trans (by simp [he])
        have hszF := blk_lt R
        have hszE := blk_lt E
        have HTK : Hid (endsL.take (i + 1) = endsL.take i ++ [e]) := hid (take_snoc he)
        have hab : (s.extract 0 q).size + e.size ≤ 9223372036854775807 := by rw [size_cut hb3]; omega
        have hab3 : min q s.size + e.size ≤ 9223372036854775807 := by omega
        have hab7 : ¬ 9223372036854775807 < q + e.size := by omega
        have hab5 : q + e.size ≤ 9223372036854775807 := by omega
        clear he
        go_upto_region 15 with (fail)
        go_cut [11] from 49 to 86 (fun v wc => ∃ b, v = .pointer (some ⟨b, 0, none⟩) ∧ wr.heap.size ≤ b ∧ wc.heap[b]? = some (.cells #[.int .i64 (faultX (badFrom (s.extract 0 q ++ e) 0)).1, .int .i64 (faultX (badFrom (s.extract 0 q ++ e) 0)).2] 36 (0, 0)) ∧ Keep [] wr wc)
        case first =>
          go_region_held3 (fun w' => w'.cell? ⟨w2.heap.size, 1, none⟩ = some (.int .i64 (q : Int)) ∧ w'.cell? ⟨w2.heap.size + 1, i, none⟩ = some (.string e) ∧ Keep [] wr w') ((go_split_ands; refine ⟨?_, ?_, ?_⟩ <;> (repeat (with_reducible first | assumption | refine cell_drew' ?_ | refine cell_alloc' ?_ _ | exact Keep.refl _ _ | refine Keep.drew ?_ | refine Keep.alloc ?_ _ | refine cell_set' ?_ (by first | exact Nat.ne_of_lt hszF | exact Nat.ne_of_lt hszE | (simp <;> omega)) _ | refine keepNew ?_ (by first | exact Nat.le_refl _ | (simp <;> omega)) _ | refine Keep.cell' (S := []) (by assumption) ?_ (by simp) | refine Keep.trans (S := []) ?_ (by assumption))))) ((go_at_call 16; (with_reducible refine (hA e hem _ (TR.keep (by repeat (with_reducible first | assumption | exact Keep.refl _ _ | refine Keep.drew ?_ | refine Keep.alloc ?_ _ | refine Keep.trans (S := []) ?_ (by assumption))))).mono ?_); rintro x w9 ⟨rfl, K9⟩; (try obtain ⟨p0, p1, r0, r1, rs⟩ := cells2 (K9.blk (blk_drew (blk_new wr (.cells #[.int .i64 0, .int .i64 0] 36))) (by simp)))))
          all_goals (go_wp2; go_meet; first | exact ⟨w9.heap.size, rfl, by have := K9.size; simpa using this, blk_new _ _, (((Keep.refl [] wr).drew).trans K9).alloc _⟩ | exact ⟨wr.heap.size, rfl, Nat.le_refl _, set2' (K9.blk (blk_drew (blk_new wr _)) (by simp)), keep2 ((((Keep.refl [] wr).alloc _).drew).trans K9) (.inr (Nat.le_refl _))⟩)
        case rest =>
          obtain ⟨b, rfl, hbb, RB, KB⟩ := hcut
          obtain ⟨W5, hW5⟩ : ∃ W, W = wc := ⟨_, rfl⟩
          subst hW5
          have f0' := KB.cell' f0 (by simp)
          have f1' := KB.cell' f1 (by simp)
          have g0' := KB.cell' g0 (by simp)
          have b0 := blk_cell RB 0
          simp only [List.getElem?_toArray, List.getElem?_cons_zero] at b0
          have hszb := blk_lt RB
          have TR5 := TR.keep KB
          have hszF' : w2.heap.size < W5.heap.size := Nat.lt_of_lt_of_le hszF KB.size
          have hszE' : w2.heap.size + 1 < W5.heap.size := Nat.lt_of_lt_of_le hszE KB.size
          have hx : ((faultX (badFrom (s.extract 0 q ++ e) 0)).1 == 0) = decide (badFrom (s.extract 0 q ++ e) 0 = none) := by
            cases badFrom (s.extract 0 q ++ e) 0 <;> simp [faultX]
          obtain ⟨ok, hok⟩ : ∃ ok : Bool, decide (badFrom (s.extract 0 q ++ e) 0 = none) = ok := ⟨_, rfl⟩
          have HOK : Hid (ok = true ↔ badFrom (s.extract 0 q ++ e) 0 = none) := hid (by rw [← hok]; simp)
          rw [hok] at hx
          clear hok f0 f1 g0 RB
          generalize (faultX (badFrom (s.extract 0 q ++ e) 0)).1 = x1 at *
          have HAL2 : Hid ((al || ok) = true ↔ ∃ e ∈ endsL.take (i + 1), badFrom (s.extract 0 q ++ e) 0 = none) := hid (by
            rw [HTK.out, Bool.or_eq_true, HAL.out, HOK.out]
            constructor
            · rintro (⟨e', h1, h2⟩ | h)
              · exact ⟨e', by simp [h1], h2⟩
              · exact ⟨e, by simp, h⟩
            · rintro ⟨e', h1, h2⟩
              rcases List.mem_append.1 h1 with h1 | h1
              · exact .inl ⟨e', h1, h2⟩
              · obtain rfl : e' = e := by simpa using h1
                exact .inr h2)
          have f0 := f0'
          have f1 := f1'
          have R6 := KB.blk R (by simp)
          have E6 := KB.blk E (by simp)
          have K6 := K.trans KB
          clear R E
          rcases al with _ | _
          all_goals
            go_wp2
            go_roundw
            case rel => exact ⟨i + 1, _, h8, rfl, rfl, by go_num, HAL2, R6, E6, K6, TR5⟩
            case measure => simp [RowKit.intOf]; omega
      · obtain rfl : i = 8 := by omega
        have hal : al = true := HAL.out.2 (by rw [List.take_of_length_le (by simp [endsL])]; exact HA.out)
        subst hal
        go_upto_region 20 with (fail)
        go_quiet (fail)
        go_wp2
        go_ret
        exact ⟨rfl, (K.drewN _).below (Nat.le_refl _) (by simp)⟩

end Go.Proofs.YtlkoekcoafddpaaDoor
