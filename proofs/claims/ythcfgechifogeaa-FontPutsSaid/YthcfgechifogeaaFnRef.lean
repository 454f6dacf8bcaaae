/- Font: the reference's laid and sum, by contracts. -/
import Derived.Test.YthcfgechifogeaaFnPut
namespace Go.Proofs.Ythcfgechifogeaa
open Go.RowKit
set_option linter.unusedSimpArgs false
set_option linter.unusedVariables false

/-- append of so many bytes goes well, wherever the world has grown. -/
def AppL (base : Nat) (v : Value) (n : Nat) (xs : List Value) (row : Option Nat) (m : Nat) (w : World) : Prop :=
  ∀ W, Keep [] w W → ∀ (A : Option Addr) (c : Nat) (ls : List Nat), ls.length = m → Rd byRow 1 W A ls → ∃ r w', (Builtin.append_ #[66, 66] 66 #[v, .slice A m c]).run Try.prog W = .ok r w' ∧ w'.ownsRow base 5 1 r (n + m) (xs ++ ls.map byV) ∧ W.grownBy w' row
theorem AppL.own {base : Nat} {v : Value} {n : Nat} {xs : List Value} {w : World} (ho : w.ownsRow base 5 1 v n xs) (hb : base ≤ w.heap.size) {m : Nat} (h0 : 0 < m) (hm : n + m ≤ 140737488355328) : AppL base v n xs v.ownBlock m w := fun W K A c ls hl hr => by
  have hs := K.size
  obtain ⟨v', w', hr, h1, h2⟩ := run_append_list (P := Try.prog) W 66 66 (e := 5) (.int .u8 0) 1 1 Try.underlying66 (by kernel_rfl) (by kernel_rfl) (by decide) (by decide) base v n xs (c := c) hl (fun e => by
    subst e
    cases ls with
    | nil => simp at hl; omega
    | cons x r => obtain ⟨ad, h, _⟩ := hr 0 x rfl; cases h) hr (fun _ => rfl) (fun y u hu => by simp [byRow] at hu; subst hu; rfl) (own_keep ho K (by simp)) (by omega) (by omega)
  rw [flat_by] at h1
  exact ⟨v', w', hr, h1, h2⟩
theorem AppL.lit {base : Nat} {b : Addr} {n : Nat} {xs : List Value} {w : World} (hxl : xs.length = n) (holds : ∀ j u, xs[j]? = some u → w.cell? (b.add j) = some u) (hb : base ≤ w.heap.size) {m : Nat} (h0 : 0 < m) (hm : n + m ≤ 140737488355328) : AppL base (.slice (some b) n n) n xs none m w := fun W K A c ls hl hr => by
  have hs := K.size
  obtain ⟨i, hi, hz0, hz1, hz2⟩ := info_parts (show (Try.prog.info? 5).map (fun i => (i.zero, i.size, i.bytes)) = some (some (.int .u8 0), 1, 1) by kernel_rfl)
  cases ls with
  | nil => simp at hl; omega
  | cons x r =>
    obtain ⟨ad, h, _⟩ := hr 0 x rfl
    subst h
    have hlen : (xs ++ (x :: r).map byV).length = (n + m) * 1 := by simp [hxl] at hl ⊢; omega
    have hge := grownCap_ge W (n + m) n 5
    have hru := run_append_grow (P := Try.prog) W 66 66 5 i (.int .u8 0) Try.underlying66 hi hz0 b n n xs (by rw [hz1, hxl]; omega) (fun j u hj => K.cell' (holds j u hj) (by simp)) ad m c ((x :: r).map byV) (by rw [hz1, List.length_map, hl]; omega)
      (fun j u hj => by rw [← flat_by] at hj; exact hr.cells (fun _ => rfl) (by decide) j u hj) (by omega) (by omega) (by rw [hz2]; exact growslice_fits (by omega) (by omega))
    refine ⟨_, _, hru, ⟨hlen, .inr ⟨W.heap.size, _, _, rfl, by omega, heap_alloc_new W.drew _, hge, grownCap_ok W _ n 5 hm, ?_, ?_⟩⟩, ⟨rfl, rfl, rfl, by simp, fun k hk _ => Below.heap_alloc W.drew _ k hk⟩⟩
    · simp only [Array.size_append, List.size_toArray, size_zeroCells, hxl, List.length_map, hl]
      simp [Value.cells]
      omega
    · simp only [Array.toList_append]
      rw [← hlen]
      exact List.take_left

theorem own_fresh (w : World) (base : Nat) (e : TypeId) (x : Value) (hb : base ≤ w.heap.size) : (w.alloc (.cells #[x] e)).ownsRow base e 1 (.slice (some ⟨w.heap.size, 0, none⟩) 1 1) 1 [x] :=
  ⟨rfl, .inr ⟨w.heap.size, 1, #[x], rfl, hb, heap_alloc_new w _, Nat.le_refl _, by unfold maxLen; omega, rfl, rfl⟩⟩

set_option maxRecDepth 100000 in
set_option maxHeartbeats 1000000 in
theorem rlaid_core (base : Nat) (A0 : Option Addr) (n c0 : Nat) (xs : List Value) (row : Option Nat) (k W : Nat) (w : World) (hap : AppL base (.slice A0 n c0) n xs row W w) (hrow : ∀ r, row = some r → r < w.heap.size) (hb : base ≤ w.heap.size) (hx0 : xs.length = n) (hk : k ≤ 9223372036854775807) (h1 : 1 ≤ W) (h4 : W ≤ 4) (hn : n ≤ 140737488000000) :
    Calls Try.prog 53 #[.slice A0 n c0, .int .i64 k, .int .i64 W] w fun e w' => ∃ A c, e = .returned (.slice A (n + W) c) ∧ w'.ownsRow base 5 1 (.slice A (n + W) c) (n + W) (xs ++ (digs k W).map byV) ∧ w.grownBy w' row := by
  have HAP := hid hap
  clear hap
  go_enter Try.func53, Try.ntmps53
  go_wp2_with fail
  have R0 : RowB w.heap.size (w.alloc (.cells #[] 5)) (.slice (some ⟨w.heap.size, 0, none⟩) 0 0) (digs k 0) := ⟨some ⟨w.heap.size, 0, none⟩, 0, rfl, World.ownsRow_made w #[] 0 (Nat.le_refl _) (Nat.zero_le _) rfl⟩
  have K0 : Keep [] w (w.alloc (.cells #[] 5)) := (Keep.refl _ _).alloc _
  generalize w.alloc (.cells #[] 5) = W0 at *
  go_loopw [1, 7, 8] (fun vk vo vi wr => ∃ i : Nat, i ≤ W ∧ vi = .int .i64 i ∧ vk = .int .i64 ((k / 2 ^ (8 * i) : Nat) : Int) ∧ RowB w.heap.size wr vo (digs k i) ∧ Keep [] w wr) (fun _ _ vi _ => W - (intOf vi).toNat)
  case atStart => exact ⟨0, Nat.zero_le _, rfl, by simp, R0, K0⟩
  case round =>
    obtain ⟨i, hi, rfl, rfl, R, K⟩ := hrel
    by_cases hlt : i < W
    · have hlt' : (i : Int) < (W : Int) := by omega
      obtain ⟨q, hq⟩ : ∃ q, k / 2 ^ (8 * i) = q := ⟨_, rfl⟩
      have hqk : q ≤ k := by rw [← hq]; exact Nat.div_le_self _ _
      have hq2 : k / 2 ^ (8 * (i + 1)) = q / 256 := by rw [← hq, Nat.div_div_eq_div_mul, Nat.mul_add, Nat.pow_add]
      have HD := digs_succ k i
      rw [hq] at HD ⊢
      have HQ := hid hq2
      have HD' := hid HD
      clear hq hq2 HD
      obtain ⟨A1, c1, rfl, hr1, hn1⟩ := bytes_own R
      have hrt : ((q : Int).tmod 256) = ((q % 256 : Nat) : Int) := by rw [Int.tmod_eq_emod_of_nonneg (by omega)]; rfl
      have hqt : ((q : Int).tdiv 256) = ((q / 256 : Nat) : Int) := by rw [Int.tdiv_eq_ediv_of_nonneg (by omega)]; rfl
      have hr3 : q % 256 < 256 := Nat.mod_lt _ (by omega)
      have hs := K.size
      have O1 := own_fresh wr w.heap.size 5 (.int .u8 ((q % 256 : Nat) : Int)) hs
      have r1 := hr1.old ((Keep.refl [] wr).alloc (.cells #[.int .u8 ((q % 256 : Nat) : Int)] 5)) (by simp)
      have K1 := K.alloc (.cells #[.int .u8 ((q % 256 : Nat) : Int)] 5)
      go_wp2_with (at_builtin; (refine append_list (enc := byRow) rfl _ _ 66 (.int .u8 0) 1 1 rfl Try.underlying66 (by kernel_rfl) (by kernel_rfl) (by decide) (by decide) w.heap.size (.slice (some ⟨wr.heap.size, 0, none⟩) 1 1) 1 [.int .u8 ((q % 256 : Nat) : Int)] rfl rfl rfl hn1 r1 (fun _ => rfl) (fun y u hu => by simp [byRow] at hu; subst hu; rfl) O1 (by simp; omega) (by rw [digs_len]; omega) ?_; intro v1 w2 O2 G2))
      refine ⟨⟨i + 1, hlt, by go_num, ?_, ?_, ?_⟩, by simp [intOf]; omega⟩
      · rw [HQ.out]; rfl
      · rw [HD'.out]
        rw [flat_by, Nat.add_comm 1] at O2
        obtain ⟨A2, c2, rfl⟩ := own_slice O2
        exact ⟨A2, c2, rfl, O2⟩
      · exact K1.grown G2 (fun r e => by simp [Value.ownBlock] at e; omega)
    · obtain rfl : i = W := by omega
      have hs := K.size
      obtain ⟨A1, c1, rfl, hr1, hn1⟩ := bytes_own R
      have hle := digs_len k i
      go_wp2_with (at_builtin; (refine wpList_append_run rfl _ _ 66 66 rfl (v := .slice A0 n c0) (u := .slice A1 (digs k i).length c1) rfl rfl (Post := fun r w2 => w2.ownsRow base 5 1 r (n + i) (xs ++ (digs k i).map byV) ∧ wr.grownBy w2 row) (by rw [digs_len]; exact HAP.out wr K A1 c1 (digs k i) (digs_len k i) hr1) ?_; rintro r w2 ⟨O2, G2⟩; obtain ⟨A2, c2, rfl⟩ := own_slice O2))
      go_ret
      refine ⟨A2, c2, rfl, O2, ?_⟩
      refine ⟨G2.os.trans K.os, G2.tape.trans K.tape, G2.output.trans K.output, Nat.le_trans hs G2.size, fun b hb hne => (G2.block b (by omega) hne).trans (K.block b hb (by simp))⟩

theorem rlaid_at (base : Nat) (v : Value) (l : List Nat) (kI WI : Int) (W : Nat) (w : World) (hW : WI = (W : Int)) (ho : RowB base w v l) (hb : base ≤ w.heap.size) (h0 : 0 ≤ kI) (hk : kI ≤ 9223372036854775807) (h1 : 1 ≤ W) (h4 : W ≤ 4) (hn : l.length ≤ 140737488000000) :
    Calls Try.prog 53 #[v, .int .i64 kI, .int .i64 WI] w fun e w' => ∃ v', e = .returned v' ∧ RowB base w' v' (l ++ digs kI.toNat W) ∧ KeepB base w w' := by
  obtain ⟨A, c, rfl, ho⟩ := ho
  obtain ⟨k, rfl⟩ := Int.eq_ofNat_of_zero_le h0
  subst hW
  rw [Int.toNat_natCast]
  refine (rlaid_core base A l.length c (l.map byV) _ k W w (AppL.own ho hb (by omega) (by omega)) (fun r e => (own_base ho r e).2.1) hb (by simp) (by omega) h1 h4 hn).mono ?_
  rintro e w' ⟨A', c', rfl, O, G⟩
  refine ⟨_, rfl, ⟨A', c', ?_, ?_⟩, KeepB.grown ho hb G⟩
  · rw [List.length_append, digs_len]
  · rw [List.length_append, digs_len, List.map_append]
    exact O
theorem rlaid_lit_at (base : Nat) (b : Nat) (l : List Nat) (n : Nat) (kI WI : Int) (W : Nat) (w : World) (hW : WI = (W : Int)) (hn : l.length = n) (ho : LitB w b l) (hb : base ≤ w.heap.size) (h0 : 0 ≤ kI) (hk : kI ≤ 9223372036854775807) (h1 : 1 ≤ W) (h4 : W ≤ 4) (hl : n ≤ 140737488000000) :
    Calls Try.prog 53 #[.slice (some ⟨b, 0, none⟩) n n, .int .i64 kI, .int .i64 WI] w fun e w' => ∃ v', e = .returned v' ∧ RowB base w' v' (l ++ digs kI.toNat W) ∧ KeepB base w w' := by
  subst hn
  obtain ⟨k, rfl⟩ := Int.eq_ofNat_of_zero_le h0
  subst hW
  rw [Int.toNat_natCast]
  refine (rlaid_core base (some ⟨b, 0, none⟩) l.length l.length (l.map byV) none k W w (AppL.lit (by simp) ho hb (by omega) (by omega)) (fun r e => nomatch e) hb (by simp) (by omega) h1 h4 hl).mono ?_
  rintro e w' ⟨A', c', rfl, O, G⟩
  refine ⟨_, rfl, ⟨A', c', ?_, ?_⟩, (Below.refl _ _).grown G hb (fun k e => nomatch e), G.size, fun b cs t fr ht hg => blk_grown hg G (by simp)⟩
  · rw [List.length_append, digs_len]
  · rw [List.length_append, digs_len, List.map_append]
    exact O
theorem PutSt.laid {w W : World} {fv : Array Value} {v : Value} {l : List Nat} (h : PutSt w fv W v l) (kI WI : Int) (n : Nat) (hW : WI = (n : Int)) (h0 : 0 ≤ kI) (hk : kI ≤ 9223372036854775807) (h1 : 1 ≤ n) (h4 : n ≤ 4) (hn : l.length ≤ 140737488000000) :
    Calls Try.prog 53 #[v, .int .i64 kI, .int .i64 WI] W fun e w' => ∃ v', e = .returned v' ∧ PutSt w fv w' v' (l ++ digs kI.toNat n) ∧ KeepB (w.heap.size + 1) W w' :=
  (rlaid_at (w.heap.size + 1) v l kI WI n W hW h.row h.size h0 hk h1 h4 hn).mono (by rintro e w' ⟨v', rfl, R, B⟩; exact ⟨v', rfl, h.next R B, B⟩)

set_option maxRecDepth 100000 in
set_option maxHeartbeats 1000000 in
theorem rsum_any (A : Option Addr) (c : Nat) (l : List Nat) (w : World) (h : Rd byRow 1 w A l) (hl : l.length ≤ 140737488355328) (hb : ∀ x ∈ l, x < 256) :
    Calls Try.prog 54 #[.slice A l.length c] w fun e w' => e = .returned (.int .i64 (sumX l : Int)) ∧ w' = w := by
  go_enter Try.func54, Try.ntmps54
  go_wp2_with fail
  go_loopw [3, 4] (fun vs vi wr => ∃ i : Nat, i ≤ l.length ∧ vi = .int .i64 i ∧ vs = .int .u32 (sumX (l.take i) : Int) ∧ wr = w) (fun _ vi _ => l.length - (intOf vi).toNat)
  case atStart => exact ⟨0, Nat.zero_le _, rfl, rfl, rfl⟩
  case round =>
    obtain ⟨i, hi, rfl, rfl, rfl⟩ := hrel
    by_cases hlt : i < l.length
    · have hlt' : (i : Int) < (l.length : Int) := by omega
      obtain ⟨x, hx⟩ : ∃ x, l[i]? = some x := ⟨l[i], List.getElem?_eq_getElem hlt⟩
      obtain ⟨ad, hA, hcs⟩ := h i x hx
      have d0 : wr.cell? (ad.add i) = some (.int .u8 (x : Int)) := by have := hcs 0 _ rfl; rwa [Nat.add_zero, Nat.mul_one] at this
      have hxb := hb x (List.mem_of_getElem? hx)
      have hs := sumX_lt (l.take i)
      have HX := hid (take_snoc hx)
      subst hA
      clear hcs hx
      obtain ⟨S, hS⟩ : ∃ S, sumX (l.take i) = S := ⟨_, rfl⟩
      rw [hS] at hs ⊢
      have HS := hid hS
      clear hS
      have hxo : bits .xor .u32 (S : Int) (x : Int) = ((S ^^^ x : Nat) : Int) := u32_xor_nat S x (by omega) (by omega)
      go_wp2
      refine ⟨⟨i + 1, hlt, by go_num, ?_, trivial⟩, by simp [intOf]; omega⟩
      rw [HX.out, sumX_snoc, HS.out]
      unfold sumStep
      simp only [Int.natCast_mul, Int.natCast_emod]
      rfl
    · obtain rfl : i = l.length := by omega
      rw [List.take_length]
      have hs := sumX_lt l
      go_wp2
      go_ret
      exact ⟨rfl, rfl⟩
theorem rsum_at (base : Nat) (v : Value) (l : List Nat) (w : World) (h : RowB base w v l) (hl : l.length ≤ 140737488355328) (hb : AllB l) :
    Calls Try.prog 54 #[v] w fun e w' => e = .returned (.int .i64 (sumX l : Int)) ∧ w' = w := by
  obtain ⟨A, c, rfl, hr, _⟩ := bytes_own h
  exact rsum_any A c l w hr hl hb

end Go.Proofs.Ythcfgechifogeaa
