/- Font: the reader's byte and number, its bounds, by contracts. -/
import Derived.Test.YthcfgechifogeaaFnParse
import Derived.Test.YthcfgechifogeaaTabCheck
namespace Go.Proofs.Ythcfgechifogeaa
open Go.RowKit Go.Maps
set_option linter.unusedSimpArgs false
set_option linter.unusedVariables false

/-- A reader: its block, the meter's, the map's, the bytes, the budgets. -/
structure RX where
  rb : Nat
  g : Nat
  mb : Nat
  s : ByteArray
  S : Int
  C : Int
structure RX.ok (X : RX) : Prop where
  ne : X.rb ≠ X.g
  S0 : 0 ≤ X.S
  S1 : X.S ≤ 9223372036854775807
  C0 : 0 ≤ X.C
  C1 : X.C ≤ 9223372036854775807
  sz : X.s.size ≤ 140737488355328
/-- The reader lies there. -/
def IsRd (w : World) (X : RX) (p : Nat) (k a em : Int) (G P : Value) : Prop :=
  w.heap[X.rb]? = some (.cells #[.pointer (some ⟨X.g, 0, none⟩), .string X.s, .int .i64 p, .int .i64 k, .int .i64 a, .map (some X.mb), .int .i64 em, G, P] 103 (0, 0))
theorem cells9 {w : World} {n : Nat} {a b c d e f g h i : Value} {t : TypeId} (H : w.heap[n]? = some (.cells #[a, b, c, d, e, f, g, h, i] t (0, 0))) :
    w.cell? ⟨n, 0, none⟩ = some a ∧ w.cell? ⟨n, 1, none⟩ = some b ∧ w.cell? ⟨n, 2, none⟩ = some c ∧ w.cell? ⟨n, 3, none⟩ = some d ∧ w.cell? ⟨n, 4, none⟩ = some e ∧ w.cell? ⟨n, 5, none⟩ = some f ∧ w.cell? ⟨n, 6, none⟩ = some g ∧ w.cell? ⟨n, 7, none⟩ = some h ∧ w.cell? ⟨n, 8, none⟩ = some i :=
  ⟨blk_cell H 0, blk_cell H 1, blk_cell H 2, blk_cell H 3, blk_cell H 4, blk_cell H 5, blk_cell H 6, blk_cell H 7, blk_cell H 8⟩
theorem free9 {w : World} {n : Nat} {cs : Array Value} {t : TypeId} (H : w.heap[n]? = some (.cells cs t (0, 0))) : w.frozen? ⟨n, 2, none⟩ = false ∧ w.frozen? ⟨n, 3, none⟩ = false ∧ w.frozen? ⟨n, 4, none⟩ = false ∧ n < w.heap.size :=
  ⟨blk_free H 2, blk_free H 3, blk_free H 4, blk_lt H⟩
theorem IsRd.keep {S : List Nat} {w w' : World} {X : RX} {p : Nat} {k a em : Int} {G P : Value} (h : IsRd w X p k a em G P) (K : Keep S w w') (hs : X.rb ∉ S) : IsRd w' X p k a em G P := K.blk h hs

/-- What a reading leaves: the reader, the meter, what is told. -/
def RdPost {α : Type} (X : RX) (k a em : Int) (G P : Value) (r : PR α) (good : α → Ending) (bad : Ending) (w : World) (e : Ending) (w' : World) : Prop :=
  Keep [X.g, X.rb] w w' ∧
  match r with
  | .ok (v, p) => e = good v ∧ IsRd w' X p k a em G P ∧ IsM w' X.g (mAt X.S X.C p) ∧ (p : Int) ≤ X.S ∧ p ≤ X.s.size
  | .error (k', a', p) => e = bad ∧ IsRd w' X p k' a' em G P ∧ IsM w' X.g (mBad X.S X.C k' p) ∧ (p : Int) ≤ X.S ∧ p ≤ X.s.size

theorem IsRd.fault {w : World} {X : RX} {p : Nat} {k a em k' a' : Int} {G P : Value} (h : IsRd w X p k a em G P) : IsRd ((w.setCell ⟨X.rb, 3, none⟩ (.int .i64 k')).setCell ⟨X.rb, 4, none⟩ (.int .i64 a')) X p k' a' em G P :=
  (blk_set (blk_set h 3 _) 4 _).trans (by simp)
theorem IsRd.step {w : World} {X : RX} {p q : Nat} {k a em : Int} {G P : Value} (h : IsRd w X p k a em G P) : IsRd (w.setCell ⟨X.rb, 2, none⟩ (.int .i64 q)) X q k a em G P := (blk_set h 2 _).trans (by simp)
theorem keepF {S : List Nat} {u w : World} {n : Nat} {a b : Value} (K : Keep S u w) (hn : n ∈ S) : Keep S u ((w.setCell ⟨n, 3, none⟩ a).setCell ⟨n, 4, none⟩ b) := (K.set (.inl hn) _).set (.inl hn) _
theorem mBad_at {S C : Int} {k : Int} {p : Nat} (h : k ≠ 20) : mBad S C k p = mAt S C p := by unfold mBad; rw [if_neg h]; rfl

set_option maxHeartbeats 2000000 in
set_option maxRecDepth 100000 in
theorem byte_any (X : RX) (hX : X.ok) (p : Nat) (k a em : Int) (G P : Value) (w : World) (h : IsRd w X p k a em G P) (hm : IsM w X.g (mAt X.S X.C p)) (hp : (p : Int) ≤ X.S) (hs : p ≤ X.s.size) :
    Calls Try.prog 78 #[.pointer (some ⟨X.rb, 0, none⟩)] w fun e w' => RdPost X k a em G P (byteX (LB X.s) X.S p) (fun c => .returned (.tuple #[.int .u8 ((c : Nat) : Int), .bool true])) (.returned (.tuple #[.int .u8 0, .bool false])) w e w' := by
  obtain ⟨rb, g, mb, s, S, C⟩ := X
  obtain ⟨ne, S0, S1, C0, C1, sz⟩ := hX
  simp only at *
  have R := h
  unfold IsRd at R
  simp only at R
  obtain ⟨c0, c1, c2, c3, c4, c5, c6, c7, c8⟩ := cells9 R
  obtain ⟨f2, f3, f4, hlt⟩ := free9 R
  by_cases he : p = s.size
  · subst he
    have E : byteX (LB s) S s.size = .error (60, (s.size : Int), s.size) := by
      unfold byteX
      rw [List.getElem?_eq_none (by rw [LB_len]; exact Nat.le_refl _)]
    rw [E]
    clear E
    go_enter Try.func78, Try.ntmps78
    go_wp2
    go_quiet (fail)
    go_wp2
    go_ret2
    refine ⟨keepF ((Keep.refl _ _).drewN _) (by simp), rfl, IsRd.fault (X := ⟨rb, g, mb, s, S, C⟩) (w := w.drewN nq) h, ?_, hp, hs⟩
    rw [mBad_at (by decide)]
    exact IsM.keep (S := [rb]) (w := w.drewN nq) hm (keepF (Keep.refl [rb] (w.drewN nq)) (by simp)) (by simpa using Ne.symm ne)
  · have hlt' : p < s.size := by omega
    obtain ⟨c, hc⟩ : ∃ c, (LB s)[p]? = some c := ⟨_, List.getElem?_eq_getElem (by rw [LB_len]; exact hlt')⟩
    have hne : ((p : Int) == (s.size : Int)) = false := by simp; omega
    have hMk : (mAt S C p).ok := mAt_ok hp S1 C0 C1
    by_cases hS : S ≤ (p : Int)
    · have E : byteX (LB s) S p = .error (20, 0, p) := by unfold byteX; rw [hc]; simp only; rw [if_pos hS]
      rw [E]
      clear E
      have hstep := fun W (K : Keep [] w W) => step_any g (mAt S C p) 1 W (hm.keep K (by simp)) hMk
      rw [mAt_over hS hp] at hstep
      have HS := hid hstep
      clear hstep
      go_enter Try.func78, Try.ntmps78
      go_wp2
      go_quiet (fail)
      go_wp2_with fail
      refine (HS.out _ ((Keep.refl _ _).drewN _)).mono ?_
      rintro e w1 ⟨rfl, M1, K1⟩
      have R1 := K1.blk (blk_drewN R nq) (by simpa using ne)
      clear c0 c1 c2 c3 c4 c5 c6 c7 c8 f2 f3 f4 hlt
      obtain ⟨c0, c1, c2, c3, c4, c5, c6, c7, c8⟩ := cells9 R1
      obtain ⟨f2, f3, f4, hlt⟩ := free9 R1
      go_wp2_with fail
      refine (refused_any g _ w1 M1).mono ?_
      rintro e w2 ⟨rfl, rfl⟩
      go_wp2
      go_ret2
      exact ⟨keepF ((((Keep.refl _ _).drewN nq).trans K1).mono (by simp)) (by simp), rfl, IsRd.fault (X := ⟨rb, g, mb, s, S, C⟩) R1, M1.keep (keepF (Keep.refl [rb] _) (by simp)) (by simpa using Ne.symm ne), hp, hs⟩
    · have E : byteX (LB s) S p = .ok (c, p + 1) := by unfold byteX; rw [hc]; simp only; rw [if_neg hS]
      rw [E]
      clear E
      have hcb : c = (s[p]'hlt').toNat := by rw [LB_at hlt']; have := List.getElem?_eq_some_iff.1 hc; exact this.2.symm
      have hstep := fun W (K : Keep [] w W) => step_any g (mAt S C p) 1 W (hm.keep K (by simp)) hMk
      rw [mAt_step (by omega)] at hstep
      have HS := hid hstep
      have HCB := hid hcb
      clear hstep hcb hc
      go_enter Try.func78, Try.ntmps78
      go_wp2
      go_quiet (fail)
      go_wp2_with fail
      refine (HS.out _ ((Keep.refl _ _).drewN _)).mono ?_
      rintro e w1 ⟨rfl, M1, K1⟩
      have R1 := K1.blk (blk_drewN R nq) (by simpa using ne)
      clear c0 c1 c2 c3 c4 c5 c6 c7 c8 f2 f3 f4 hlt
      obtain ⟨c0, c1, c2, c3, c4, c5, c6, c7, c8⟩ := cells9 R1
      obtain ⟨f2, f3, f4, hlt⟩ := free9 R1
      go_wp2_with fail
      have R2 := IsRd.step (X := ⟨rb, g, mb, s, S, C⟩) (q := p + 1) R1
      have K2 := ((((Keep.refl [g, rb] w).drewN nq).trans (K1.mono (by simp))).set (p := ⟨rb, 2, none⟩) (.inl (by simp)) (.int .i64 ((p + 1 : Nat) : Int)))
      have M2 := M1.keep ((Keep.refl [rb] w1).set (p := ⟨rb, 2, none⟩) (.inl (by simp)) (.int .i64 ((p + 1 : Nat) : Int))) (by simpa using Ne.symm ne)
      clear c0 c1 c2 c3 c4 c5 c6 c7 c8 f2 f3 f4 hlt
      have e1 : ((p + 1 : Nat) : Int) = (p : Int) + 1 := by omega
      rw [e1] at K2 M2
      unfold IsRd at R2
      simp only [e1] at R2
      obtain ⟨c0, c1, c2, c3, c4, c5, c6, c7, c8⟩ := cells9 R2
      go_quiet (fail)
      go_wp2
      go_ret2
      refine ⟨K2.drewN _, by rw [HCB.out]; rfl, ?_, IsM.keep M2 ((Keep.refl [] _).drewN _) (by simp), (show ((p + 1 : Nat) : Int) ≤ S by omega), hlt'⟩
      unfold IsRd
      simp only [e1]
      exact blk_drewN R2 _

theorem i64_or_nat (a b : Nat) (ha : a < 4294967296) (hb : b < 4294967296) : bits .or .i64 (a : Int) (b : Int) = ((a ||| b : Nat) : Int) := by
  have hx : a ||| b < 2 ^ 32 := Nat.or_lt_two_pow (by omega) (by omega)
  show IntKind.i64.wrap ((BitVec.ofInt 64 (a : Int) ||| BitVec.ofInt 64 (b : Int)).toNat : Int) = _
  rw [BitVec.toNat_or, ofInt_u64 a (by omega), ofInt_u64 b (by omega), IntKind.wrap_i64]
  omega
theorem or8 (n c : Nat) (hc : c < 256) (hn : n < 16777216) : bits .or .i64 ((n : Int) * 256) (c : Int) = ((n * 256 + c : Nat) : Int) := by
  have e : ((n : Int) * 256) = ((n * 256 : Nat) : Int) := by omega
  have h1 : n * 256 ||| c = n * 256 + c := by
    have := Nat.shiftLeft_add_eq_or_of_lt (b := c) (i := 8) hc n
    rw [Nat.shiftLeft_eq] at this
    exact this.symm
  rw [e, i64_or_nat _ _ (by omega) (by omega), h1]
/-- What a bound answers, in every world that differs from w by the reader and the meter alone. -/
def RightIs (X : RX) (k a em : Int) (G P : Value) (w : World) (f : FuncId) (first cap : Array Value) (right : Nat → Bool) : Prop :=
  ∀ (n q : Nat) (w1 : World), n < 4294967296 → Keep [X.g, X.rb] w w1 → IsRd w1 X q k a em G P → Calls Try.prog f (first.push (.int .i64 n) ++ cap) w1 fun e w' => e = .returned (.bool (right n)) ∧ Keep [] w1 w'

theorem byteX_ok {bs : List Nat} {S : Int} {p c q : Nat} (h : byteX bs S p = .ok (c, q)) : q = p + 1 ∧ bs[p]? = some c ∧ (p : Int) < S := by
  unfold byteX at h
  cases hb : bs[p]? with
  | none => rw [hb] at h; simp at h
  | some x =>
    rw [hb] at h
    simp only at h
    split at h
    · simp at h
    · simp only [Except.ok.injEq, Prod.mk.injEq] at h
      obtain ⟨rfl, rfl⟩ := h
      exact ⟨rfl, rfl, by omega⟩

set_option maxHeartbeats 2000000 in
set_option maxRecDepth 100000 in
theorem numb_any (X : RX) (hX : X.ok) (p W : Nat) (f : FuncId) (first cap : Array Value) (right : Nat → Bool) (k a em : Int) (G P : Value) (w : World) (h : IsRd w X p k a em G P) (hm : IsM w X.g (mAt X.S X.C p)) (hp : (p : Int) ≤ X.S) (hs : p ≤ X.s.size) (hW : W ≤ 4) (eg : ∀ args w, (callFunc f args).run Try.prog w = .ok (.enter f args) w) (hr : RightIs X k a em G P w f first cap right) :
    Calls Try.prog 79 #[.pointer (some ⟨X.rb, 0, none⟩), .int .i64 W, .func (.func f) first cap] w fun e w' => RdPost X k a em G P (numX (LB X.s) X.S W right p) (fun c => .returned (.tuple #[.int .i64 ((c : Nat) : Int), .bool true])) (.returned (.tuple #[.int .i64 0, .bool false])) w e w' := by
  obtain ⟨F, hF⟩ : ∃ F, numX (LB X.s) X.S W right p = F := ⟨_, rfl⟩
  have HR := hid hr
  have F0 : Hid ((rawX (LB X.s) X.S (W - 0) 0 p).bind (fun n q => rightX (right n) 60 n q) = F) := hid hF
  rw [hF]
  clear hF hr
  go_enter Try.func79, Try.ntmps79
  go_wp2_with fail
  go_loopw [8, 12] (fun vn vi wr => ∃ i q n : Nat, i ≤ W ∧ vi = .int .i64 i ∧ vn = .int .i64 n ∧ n < 256 ^ i ∧ IsRd wr X q k a em G P ∧ IsM wr X.g (mAt X.S X.C q) ∧ (q : Int) ≤ X.S ∧ q ≤ X.s.size ∧ Keep [X.g, X.rb] w wr ∧ Hid ((rawX (LB X.s) X.S (W - i) n q).bind (fun n q => rightX (right n) 60 n q) = F)) (fun _ vi _ => W - (intOf vi).toNat)
  case atStart => exact ⟨0, p, 0, Nat.zero_le _, rfl, rfl, by simp, h, hm, hp, hs, Keep.refl _ _, F0⟩
  case round =>
    clear F0 h hm hp hs
    obtain ⟨i, q, n, hi, rfl, rfl, hn, h, hm, hp, hs, K, HF⟩ := hrel
    by_cases hlt : i < W
    · have hlt' : (i : Int) < (W : Int) := by omega
      obtain ⟨j, hj⟩ : ∃ j, W - i = j + 1 := ⟨W - i - 1, by omega⟩
      have hn2 : n < 16777216 := by
        have : 256 ^ i ≤ 256 ^ 3 := Nat.pow_le_pow_right (by omega) (by omega)
        omega
      have hnn : n * 256 + 255 < 256 ^ (i + 1) := by rw [Nat.pow_succ]; omega
      obtain ⟨r, hrr⟩ : ∃ r, byteX (LB X.s) X.S q = r := ⟨_, rfl⟩
      have HB := byte_any X hX q k a em G P wr h hm hp hs
      have HF2 : (r.bind fun c q => rawX (LB X.s) X.S j (n * 256 + c) q).bind (fun n q => rightX (right n) 60 n q) = F := by
        have := HF.out
        rw [hj] at this
        rw [← hrr]
        exact this
      rw [hrr] at HB
      have hW' : Hid (W - (i + 1) = j) := hid (by omega)
      clear HF hj
      go_wp2_with fail
      refine HB.mono ?_
      rintro e w1 ⟨K1, HP⟩
      have K2 := K.trans K1
      clear K K1 h hm hp hs HB
      cases r with
      | error e0 =>
        obtain ⟨k', a', q'⟩ := e0
        obtain ⟨rfl, h, hm, hp, hs⟩ := HP
        go_wp2
        go_ret2
        have : F = .error (k', a', q') := HF2.symm
        rw [this]
        exact ⟨K2, rfl, h, hm, hp, hs⟩
      | ok v =>
        obtain ⟨c, q'⟩ := v
        obtain ⟨rfl, h, hm, hp, hs⟩ := HP
        have hcb : c < 256 := LB_all _ _ (List.mem_of_getElem? (byteX_ok hrr).2.1)
        have hor := or8 n c hcb hn2
        go_wp2_with fail
        exact ⟨⟨i + 1, q', n * 256 + c, hlt, by go_num, by go_num, by omega, h, hm, hp, hs, K2, hid (by rw [hW'.out]; exact HF2)⟩, by simp [intOf]; omega⟩
    · obtain rfl : i = W := by omega
      rw [Nat.sub_self] at HF
      have hn4 : n < 4294967296 := by
        have : 256 ^ i ≤ 256 ^ 4 := Nat.pow_le_pow_right (by omega) hW
        omega
      have HQ := HR.out n q wr hn4 K h
      cases hrt : right n with
      | true =>
        rw [hrt] at HQ
        go_wp2_with fail
        refine HQ.mono ?_
        rintro e w1 ⟨rfl, K1⟩
        have R1 := h.keep K1 (by simp)
        have M1 := hm.keep K1 (by simp)
        have K2 := K.trans (K1.mono (by simp))
        have : F = .ok (n, q) := by rw [← HF.out]; show rightX (right n) 60 n q = _; unfold rightX; rw [if_pos hrt]
        clear HF HQ HR eg
        go_wp2
        go_ret2
        rw [this]
        exact ⟨K2, rfl, R1, M1, hp, hs⟩
      | false =>
        rw [hrt] at HQ
        go_wp2_with fail
        refine HQ.mono ?_
        rintro e w1 ⟨rfl, K1⟩
        have R1 := h.keep K1 (by simp)
        have M1 := hm.keep K1 (by simp)
        have K2 := K.trans (K1.mono (by simp))
        have : F = .error (60, (q : Int) - 1, q) := by rw [← HF.out]; show rightX (right n) 60 n q = _; unfold rightX; rw [hrt]; rfl
        clear HF HQ HR eg
        obtain ⟨c0, c1, c2, c3, c4, c5, c6, c7, c8⟩ := cells9 R1
        obtain ⟨f2, f3, f4, hlt2⟩ := free9 R1
        have hsz := hX.sz
        have hne := hX.ne
        go_wp2
        go_ret2
        rw [this]
        refine ⟨keepF K2 (by simp), rfl, IsRd.fault R1, ?_, hp, hs⟩
        rw [mBad_at (by decide)]
        exact IsM.keep (S := [X.rb]) M1 (keepF (Keep.refl _ w1) (by simp)) (by simpa using Ne.symm hne)
end Go.Proofs.Ythcfgechifogeaa
