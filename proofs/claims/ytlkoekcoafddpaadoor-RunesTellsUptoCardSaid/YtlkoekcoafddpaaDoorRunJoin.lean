/- Runes: RunesJoin. -/
import Derived.Test.YtlkoekcoafddpaaDoorRunGoes
import Derived.Test.YtlkoekcoafddpaaDoorRunSame
import Derived.Test.YtlkoekcoafddpaaDoorRunJoinCut
import Derived.Test.YtlkoekcoafddpaaDoorStep
namespace Go.Proofs.YtlkoekcoafddpaaDoor
open Go.RowKit Go.Lib Go.Shelf
set_option linter.unusedSimpArgs false
set_option linter.unusedVariables false

theorem goes_all (s : ByteArray) (hs : s.size ≤ 4398046511104) (w : World) (T : Tabs w) : Calls Tryd.prog 11 #[.string s, .int .i64 ((s.size : Int) + 1)] w fun e w' =>
    ∃ A c, e = .returned (.slice A (flatR (runesFrom s 0)).length c) ∧ w'.ownsRow w.heap.size 3 1 (.slice A (flatR (runesFrom s 0)).length c) (flatR (runesFrom s 0)).length ((flatR (runesFrom s 0)).flatMap intRow) ∧ Keep [] w w' := by
  have := goes_any s ((s.size : Int) + 1) ⟨by omega, by omega⟩ hs w T
  rw [List.take_of_length_le (by have := runes_len s; omega)] at this
  exact this
theorem flat_shift (k : Nat) : ∀ (l : List (Nat × Nat)) (i : Nat) (x : Int), (flatR l)[i]? = some x → (flatR (shift k l))[i]? = some (if i % 2 = 0 then x + k else x)
  | [], i, x, h => by simp [flatR] at h
  | y :: r, 0, x, h => by
    simp [flatR] at h
    subst h
    simp [flatR, shift]
    omega
  | y :: r, 1, x, h => by
    simp [flatR] at h
    subst h
    simp [flatR, shift]
  | y :: r, i + 2, x, h => by
    have h' : (flatR r)[i]? = some x := by simpa [flatR] using h
    have := flat_shift k r i x h'
    have e : (i + 2) % 2 = i % 2 := by omega
    rw [e]
    simpa [flatR, shift] using this
theorem runes_mem (s : ByteArray) : ∀ (f i : Nat) (x : Nat × Nat), x ∈ runesF f s i → x.1 < s.size ∧ offAt s x.1 = none ∧ x.2 = runeAt s x.1
  | 0, i, x, h => by simp [runesF] at h
  | f + 1, i, x, h => by
    unfold runesF at h
    split at h
    · rename_i hi
      cases ho : offAt s i with
      | none =>
        rw [ho] at h
        rcases List.mem_cons.1 h with rfl | h
        · exact ⟨hi, ho, rfl⟩
        · exact runes_mem s f _ x h
      | some k => rw [ho] at h; cases h
    · cases h
theorem flat_le (s : ByteArray) (x : Int) (h : x ∈ flatR (runesFrom s 0)) : 0 ≤ x ∧ x ≤ (s.size : Int) + 2147483647 := by
  unfold flatR at h
  obtain ⟨y, hy, hx⟩ := List.mem_flatMap.1 h
  obtain ⟨h1, h2, h3⟩ := runes_mem s _ 0 y hy
  have h4 := decode_le s y.1
  rw [decode_good h2] at h4
  simp at hx h4
  rcases hx with rfl | rfl <;> omega
theorem own_grown {W W' : World} {row : Option Nat} {base : Nat} {e : TypeId} {sz : Nat} {v : Value} {n : Nat} {xs : List Value} (h : W.ownsRow base e sz v n xs) (hg : W.grownBy W' row) (hr : ∀ g, v.ownBlock = some g → row ≠ some g) : W'.ownsRow base e sz v n xs := by
  obtain ⟨h1, h2⟩ := h
  refine ⟨h1, ?_⟩
  rcases h2 with h2 | ⟨g, cap, cur, rfl, hb, hh, rest⟩
  · exact .inl h2
  · exact .inr ⟨g, cap, cur, rfl, hb, blk_grown hh hg (fun e => hr g rfl e.symm), rest⟩
theorem ext_left (a b : ByteArray) : (a ++ b).extract 0 a.size = a := ByteArray.extract_append_eq_left rfl
theorem ext_right (a b : ByteArray) : (a ++ b).extract a.size (a ++ b).size = b := ByteArray.extract_append_eq_right rfl (by simp)
/-- append(v, x): the new row lies where the old one did, or apart from all. -/
theorem append_apart {P : Program} {ops : Array Oper} {rest : List Oper} {o : Oper} {a : Act} {Q : Exit → Act → World → Prop} {W : World} (hgd : o.guard = none) (s x : Operand) (t : TypeId) {e : TypeId} (z : Value) (size bytes : Nat)
    (ho : o.op = .call { callee := .builtin .append, args := #[s, x], argTypes := #[t, t] })
    (ht : P.underlying t = some (.slice e)) (hinfo : (P.info? e).map (fun i => (i.zero, i.size, i.bytes)) = some (some z, size, bytes)) (hz : z.cells.size = size) (hs0 : 0 < size) (hb0 : 0 < bytes) (base : Nat)
    (v : Value) (n : Nat) (xs : List Value) {ys : List Value} (hs : a.eval s = v) {N : Nat} (hx : a.eval x = .slice (some ⟨N, 0, none⟩) 1 1) (hN : N = W.heap.size) (hys : ys.length = size) (h1 : ∀ u ∈ ys, u.oneCell' = true)
    (HO : W.ownsRow base e size v n xs) (hbase : base ≤ W.heap.size) (hl : (n + 1) * bytes ≤ 140737488355328)
    (h : ∀ v1 w1, w1.ownsRow base e size v1 (n + 1) (xs ++ ys) → (W.alloc (.cells ys.toArray e)).grownBy w1 v.ownBlock → (v1.ownBlock = v.ownBlock ∨ v1.ownBlock = some (W.heap.size + 1)) → wpList P ops Q rest (a.put o.dst v1) w1) :
    wpList P ops Q (o :: rest) a (W.alloc (.cells ys.toArray e)) := by
  subst hN
  obtain ⟨i0, hi, hz0, hz1, hz2⟩ := info_parts hinfo
  have hlen : n + 1 ≤ 140737488355328 := Nat.le_trans (Nat.le_mul_of_pos_right _ hb0) hl
  refine wpList_append_own_at (W.alloc (.cells ys.toArray e)) hgd s x t ho base e i0 z size bytes ht hi hz0 hz1 hz2 hz hs0 v n xs hs (HO.alloc _) ⟨W.heap.size, 0, none⟩ 1 1 ys hx (by rw [hys]; simp)
    (fun j u hj => ?_) h1 (by simp only [maxLen]; omega) hl (by simp; omega) ?_
  · rw [add_zero_at]
    exact (blk_cell (blk_new W _) j).trans (by simpa using hj)
  · intro v1 w1 hown hg _ hb
    exact h v1 w1 hown hg (by simpa using hb)

set_option maxRecDepth 100000 in
set_option maxHeartbeats 4000000 in
theorem walkJoin (a b : ByteArray) (ha : a.size ≤ 1099511627776) (hb : b.size ≤ 1099511627776) (w : World) (T : Tabs w) : Calls Tryd.prog 7 #[.string a, .string b] w fun e w' => e = .returned (.bool true) ∧ Below w.heap.size w w' := by
  have hfd : ∀ (x y : Int) (w : World), (Instr.field 36 (.agg #[.int .i64 x, .int .i64 y]) 0).run Tryd.prog w = .ok (.int .i64 x) w := fun _ _ _ => by kernel_rfl
  go_enter Tryd.func7, Tryd.ntmps7
  go_wp2_with fail
  refine (shown_any _ T).mono ?_
  rintro e w1 ⟨rfl, K1⟩
  go_wp2_with fail
  cases hba : badFrom a 0 with
  | some p =>
    obtain ⟨i, k⟩ := p
    refine (check_at a 40 ((i + k : Nat) : Int) (by omega) (by rw [hba]; rfl) _ (T.keep K1)).mono ?_
    rintro e w2 ⟨rfl, K2⟩
    clear hba
    go_wp2
    go_ret
    exact ⟨rfl, (K1.trans K2).below (Nat.le_refl _) (by simp)⟩
  | none =>
  refine (check_at a 0 0 (by omega) (by rw [hba]; rfl) _ (T.keep K1)).mono ?_
  rintro e w2 ⟨rfl, K2⟩
  have K2' := K1.trans K2
  have HBA := hid hba
  clear hba
  go_wp2_with fail
  cases hbb : badFrom b 0 with
  | some p =>
    obtain ⟨i, k⟩ := p
    refine (check_at b 40 ((i + k : Nat) : Int) (by omega) (by rw [hbb]; rfl) _ (T.keep K2')).mono ?_
    rintro e w3 ⟨rfl, K3⟩
    clear hbb
    go_wp2
    go_ret
    exact ⟨rfl, (K2'.trans K3).below (Nat.le_refl _) (by simp)⟩
  | none =>
  refine (check_at b 0 0 (by omega) (by rw [hbb]; rfl) _ (T.keep K2')).mono ?_
  rintro e w3 ⟨rfl, K3⟩
  have K3' := K2'.trans K3
  have HBB := hid hbb
  clear hbb
  have hab : a.size + b.size ≤ 9223372036854775807 := by omega
  have hRA := runes_len a
  have hRB := runes_len b
  go_wp2_with fail
  refine (goes_all a (by omega) _ (T.keep K3')).mono ?_
  rintro e w4 ⟨A4, c4, rfl, O4, K4⟩
  have K4' := K3'.trans K4
  go_wp2_with fail
  refine (goes_all b (by omega) _ (T.keep K4')).mono ?_
  rintro e w5 ⟨A5, c5, rfl, O5, K5⟩
  have K5' := K4'.trans K5
  have O4' := own_base_le (own_keep O4 K5 (by simp)) (base' := w.heap.size) K3'.size
  have O5' := own_base_le (base' := w.heap.size) O5 K4'.size
  have hfn : ∀ g, (Value.slice A5 (flatR (runesFrom b 0)).length c5).ownBlock = some g → (Value.slice A4 (flatR (runesFrom a 0)).length c4).ownBlock ≠ some g := fun g h5 h4 => by
    have h6 := (own_base O5 g h5).1
    have h7 := (own_base O4 g h4).2.1
    omega
  have hla := flatR_len (runesFrom a 0)
  have hlb := flatR_len (runesFrom b 0)
  have hab1 : (flatR (runesFrom a 0)).length + (flatR (runesFrom b 0)).length ≤ 8796093022208 := by omega
  have HJ := hid (runes_join a b HBA.out HBB.out)
  have HC := hid (cut_left a b HBA.out HBB.out)
  have HSH := hid (flat_shift a.size (runesFrom b 0))
  have HF : Hid (flatR (runesFrom a 0) ++ flatR (shift a.size (runesFrom b 0)) = flatR (runesFrom (a ++ b) 0)) := hid (by rw [HJ.out.1]; simp [flatR])
  have HLE := hid (flat_le b)
  have HL : Hid ((flatR (shift a.size (runesFrom b 0))).length = (flatR (runesFrom b 0)).length) := hid (by rw [flatR_len, flatR_len]; simp [shift])
  have T5 := T.keep K5'
  clear K1 K2 K2' K3 K3' K4 K4' K5 O4 O5 hla hlb
  generalize hX : flatR (shift a.size (runesFrom b 0)) = ms at *
  generalize hM : flatR (runesFrom b 0) = mi at *
  generalize hLa : flatR (runesFrom a 0) = la at *
  clear hX hM hLa
  have RD : Rd intRow 1 w5 A5 mi := by
    obtain ⟨A, cap, h1, h2, h3, _⟩ := own_rd (enc := intRow) (fun _ => rfl) O5'
    cases h1
    exact h3
  go_wp2_with fail
  go_loopw [7, 9, 10] (fun v7 v9 _ wr => ∃ (i : Nat) (A : Option Addr) (c : Nat), i ≤ mi.length ∧ v9 = .int .i64 (i : Int) ∧ v7 = .slice A (la.length + i) c ∧ wr.ownsRow w.heap.size 3 1 (.slice A (la.length + i) c) (la.length + i) ((la ++ ms.take i).flatMap intRow) ∧ Keep [] w wr ∧ wr.ownsRow w.heap.size 3 1 (.slice A5 mi.length c5) mi.length (mi.flatMap intRow) ∧ (∀ g, (Value.slice A5 mi.length c5).ownBlock = some g → (Value.slice A (la.length + i) c).ownBlock ≠ some g)) (fun _ v9 _ _ => mi.length - (RowKit.intOf v9).toNat)
  case atStart => exact ⟨0, A4, c4, Nat.zero_le _, rfl, rfl, by simpa using O4', K5', O5', hfn⟩
  case round =>
    clear O4' O5' hfn K5' RD
    obtain ⟨i, A, c, hi, rfl, rfl, O, K, OM, hne⟩ := hrel
    by_cases hlt : i < mi.length
    · obtain ⟨x, hx⟩ : ∃ x, mi[i]? = some x := ⟨mi[i], List.getElem?_eq_getElem hlt⟩
      have RD : Rd intRow 1 wr A5 mi := by
        obtain ⟨A, cap, h1, h2, h3, _⟩ := own_rd (enc := intRow) (fun _ => rfl) OM
        cases h1
        exact h3
      obtain ⟨ad, hA, hcs⟩ := RD i x hx
      have d0 := hcs 0 _ rfl
      rw [Nat.add_zero, Nat.mul_one] at d0
      have hi2 : (i : Int) < (mi.length : Int) := by omega
      have HX := hid (HSH.out i x hx)
      have hwr := K.size
      have hxb := HLE.out x (List.mem_of_getElem? hx)
      have hms : ms.take (i + 1) = ms.take i ++ [if i % 2 = 0 then x + (a.size : Int) else x] := take_snoc HX.out
      have HMS := hid hms
      clear hms
      clear hcs hx RD
      subst hA
      by_cases hp : i % 2 = 0
      · have hp2 : ((i : Int) % 2 == 0) = true := by simp; omega
        go_wp2_with (at_builtin; (refine append_apart rfl _ _ 26 (.int .i64 0) 1 8 rfl (by kernel_rfl) (by kernel_rfl) (by kernel_rfl) (by decide) (by decide) w.heap.size (.slice A (la.length + i) c) (la.length + i) _ rfl rfl rfl rfl (by simp [Value.oneCell']) O (by omega) (by omega) ?_; rintro v1 w1 O1 G1 HB; obtain ⟨A1, c1, rfl⟩ := own_slice O1))
        have e1 : (la ++ ms.take i).flatMap intRow ++ [Value.int .i64 (x + (a.size : Int))] = (la ++ ms.take (i + 1)).flatMap intRow := by rw [HMS.out, if_pos hp]; simp [intRow]
        rw [e1] at O1
        go_roundw
        case rel =>
          refine ⟨i + 1, A1, c1, hlt, by go_num, by rw [Nat.add_assoc], O1, (K.alloc _).grown G1 (fun k e => .inr (own_base O k e).1), own_grown (OM.alloc _) G1 (fun g h e => hne g h e), fun g h e => ?_⟩
          rcases HB with HB | HB
          · exact hne g h (HB.symm.trans e)
          · have h8 := (own_base OM g h).2.1
            have h9 := HB.symm.trans e
            simp at h9
            omega
        case measure => simp [RowKit.intOf]; omega
      · have hp2 : ((i : Int) % 2 == 0) = false := by simp; omega
        go_wp2_with (at_builtin; (refine append_apart rfl _ _ 26 (.int .i64 0) 1 8 rfl (by kernel_rfl) (by kernel_rfl) (by kernel_rfl) (by decide) (by decide) w.heap.size (.slice A (la.length + i) c) (la.length + i) _ rfl rfl rfl rfl (by simp [Value.oneCell']) O (by omega) (by omega) ?_; rintro v1 w1 O1 G1 HB; obtain ⟨A1, c1, rfl⟩ := own_slice O1))
        have e1 : (la ++ ms.take i).flatMap intRow ++ [Value.int .i64 (x)] = (la ++ ms.take (i + 1)).flatMap intRow := by rw [HMS.out, if_neg hp]; simp [intRow]
        rw [e1] at O1
        go_roundw
        case rel =>
          refine ⟨i + 1, A1, c1, hlt, by go_num, by rw [Nat.add_assoc], O1, (K.alloc _).grown G1 (fun k e => .inr (own_base O k e).1), own_grown (OM.alloc _) G1 (fun g h e => hne g h e), fun g h e => ?_⟩
          rcases HB with HB | HB
          · exact hne g h (HB.symm.trans e)
          · have h8 := (own_base OM g h).2.1
            have h9 := HB.symm.trans e
            simp at h9
            omega
        case measure => simp [RowKit.intOf]; omega
    · obtain rfl : i = mi.length := by omega
      have e1 : la ++ ms.take mi.length = flatR (runesFrom (a ++ b) 0) := by rw [List.take_of_length_le (by rw [HL.out]; omega)]; exact HF.out
      have e2 : la.length + mi.length = (flatR (runesFrom (a ++ b) 0)).length := by rw [← HF.out, List.length_append, HL.out]
      rw [e1, e2] at O
      rw [e2]
      clear e1 e2 OM hne
      have hsz : (a ++ b).size ≤ 4398046511104 := by rw [ByteArray.size_append]; omega
      have hga := goes_all (a ++ b) hsz
      rw [show ((a ++ b).size : Int) + 1 = (a.size : Int) + (b.size : Int) + 1 by rw [ByteArray.size_append]; omega] at hga
      have TR := T.keep K
      go_wp2_with fail
      refine (hga _ TR).mono ?_
      rintro e w6 ⟨A6, c6, rfl, O6, K6⟩
      have K6' := K.trans K6
      have O7 := own_keep O K6 (by simp)
      clear hga
      go_wp2_with fail
      refine (count_at a _ (by omega) rfl _ (T.keep K6')).mono ?_
      rintro e w7 ⟨rfl, K7⟩
      have K7' := K6'.trans K7
      go_wp2_with fail
      refine (cut_at (a ++ b) _ a b (by omega) (by omega) (by rw [HC.out, ext_left, ext_right]) _ (T.keep K7')).mono ?_
      rintro e w8 ⟨rfl, K8⟩
      have K8' := K7'.trans K8
      go_wp2_with fail
      refine (check_at (a ++ b) 0 0 (by omega) (by rw [HJ.out.2]; rfl) _ (T.keep K8')).mono ?_
      rintro e w9 ⟨rfl, K9⟩
      have K9' := K8'.trans K9
      go_wp2_with fail
      refine (count_at (a ++ b) _ (by omega) (show (runesFrom (a ++ b) 0).length = (runesFrom a 0).length + (runesFrom b 0).length by rw [HJ.out.1]; simp [shift]) _ (T.keep K9')).mono ?_
      rintro e w10 ⟨rfl, K10⟩
      have K10' := K9'.trans K10
      go_wp2_with fail
      refine (count_at a _ (by omega) rfl _ (T.keep K10')).mono ?_
      rintro e w11 ⟨rfl, K11⟩
      have K11' := K10'.trans K11
      go_wp2_with fail
      refine (count_at b _ (by omega) rfl _ (T.keep K11')).mono ?_
      rintro e w12 ⟨rfl, K12⟩
      have K12' := K11'.trans K12
      have KB := (((((K7.trans K8).trans K9).trans K10).trans K11).trans K12)
      have O8 := own_keep O7 KB (by simp)
      have O9 := own_keep O6 KB (by simp)
      have R1 : Rd intRow 1 w12 A (flatR (runesFrom (a ++ b) 0)) := by
        obtain ⟨A, cap, h1, h2, h3, _⟩ := own_rd (enc := intRow) (fun _ => rfl) O8
        cases h1
        exact h3
      have R2 : Rd intRow 1 w12 A6 (flatR (runesFrom (a ++ b) 0)) := by
        obtain ⟨A, cap, h1, h2, h3, _⟩ := own_rd (enc := intRow) (fun _ => rfl) O9
        cases h1
        exact h3
      have hle : (flatR (runesFrom (a ++ b) 0)).length ≤ 4611686018427387904 := by rw [flatR_len]; have := runes_len (a ++ b); omega
      go_wp2_with fail
      refine (same_ints A A6 _ _ _ _ R1 R2 hle).mono ?_
      rintro e w13 ⟨rfl, K13⟩
      go_wp2
      go_ret
      exact ⟨rfl, (K12'.trans K13).below (Nat.le_refl _) (by simp)⟩

end Go.Proofs.YtlkoekcoafddpaaDoor
