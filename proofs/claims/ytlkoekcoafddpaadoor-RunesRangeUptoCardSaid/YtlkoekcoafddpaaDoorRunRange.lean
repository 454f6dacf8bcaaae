/- Runes: RunesRange. -/
import Derived.Test.YtlkoekcoafddpaaDoorRunJoin
namespace Go.Proofs.YtlkoekcoafddpaaDoor
open Go.RowKit Go.Lib Go.Shelf
set_option linter.unusedSimpArgs false
set_option linter.unusedVariables false

theorem flat_at (pre rest : List (Nat × Nat)) (x : Nat × Nat) : (flatR (pre ++ x :: rest))[2 * pre.length]? = some (x.1 : Int) ∧ (flatR (pre ++ x :: rest))[2 * pre.length + 1]? = some (x.2 : Int) := by
  have e : flatR (pre ++ x :: rest) = flatR pre ++ (x.1 : Int) :: (x.2 : Int) :: flatR rest := by simp [flatR]
  rw [e, ← flatR_len pre]
  simp
/-- Where the range stands: j numbers are told; the text is read up to p. -/
def RangeAt (s : ByteArray) (j p : Nat) (nx : Int) : Prop :=
  (∃ pre, j = 2 * pre.length ∧ pre ++ runesFrom s p = runesFrom s 0 ∧ badFrom s p = badFrom s 0) ∨
  (badFrom s 0 ≠ none ∧ ((j = (flatR (runesFrom s 0)).length + 2 ∧ nx = (p : Int) - 1) ∨ (flatR (runesFrom s 0)).length + 4 ≤ j))

set_option maxRecDepth 100000 in
set_option maxHeartbeats 4000000 in
theorem walkRange (s : ByteArray) (hs : s.size ≤ 1099511627776) (w : World) (T : Tabs w) : Calls Tryd.prog 5 #[.string s] w fun e w' => e = .returned (.bool true) ∧ Below w.heap.size w w' := by
  have hRA := runes_len s
  obtain ⟨L, hL⟩ : ∃ L, flatR (runesFrom s 0) = L := ⟨_, rfl⟩
  have hll : L.length ≤ 2 * s.size := by rw [← hL, flatR_len]; omega
  obtain ⟨fk, hfk⟩ : ∃ x, (faultX (badFrom s 0)).1 = x := ⟨_, rfl⟩
  obtain ⟨fa, hfa⟩ : ∃ x, (faultX (badFrom s 0)).2 = x := ⟨_, rfl⟩
  have HL := hid hL
  have HFK := hid hfk
  have HFA := hid hfa
  have hga := goes_all s (by omega)
  have hch := check_any s (by omega)
  rw [hL] at hga
  rw [hfk, hfa] at hch
  clear hL hfk hfa hRA
  go_enter Tryd.func5, Tryd.ntmps5
  go_wp2_with fail
  refine (shown_any _ T).mono ?_
  rintro e w1 ⟨rfl, K1⟩
  go_wp2_with fail
  refine (hga _ (T.keep K1)).mono ?_
  rintro e w2 ⟨A, c, rfl, O2, K2⟩
  have K2' := K1.trans K2
  go_wp2_with fail
  refine (hch _ (T.keep K2')).mono ?_
  rintro e w3 ⟨rfl, K3⟩
  have K3' := K2'.trans K3
  have O3 := own_keep O2 K3 (by simp)
  clear hga hch
  have R4 := blk_new w3 (.cells #[.int .i64 fk, .int .i64 fa] 36)
  have K4 := K3'.alloc (.cells #[.int .i64 fk, .int .i64 fa] 36)
  have K4a := (Keep.refl [] w3).alloc (.cells #[.int .i64 fk, .int .i64 fa] 36)
  have RD : Rd intRow 1 w3 A L := by
    obtain ⟨A, cap, h1, h2, h3, _⟩ := own_rd (enc := intRow) (fun _ => rfl) O3
    cases h1
    exact h3
  have RD4 := RD.old K4a (by simp)
  have hAb : ∀ ad, A = some ad → ad.block < w3.heap.size := fun ad e => by
    obtain ⟨A, cap, h1, h2, _, h3⟩ := own_rd (enc := intRow) (fun _ => rfl) O3
    cases h1
    obtain ⟨g, cur, rfl, _, h4, _⟩ := h3 ad e
    exact blk_lt h4
  clear O2 O3 RD K1 K2 K2' K3 K3' K4a
  have N0 := World.iter_heap (w3.alloc (.cells #[.int .i64 fk, .int .i64 fa] 36)) s 0
  rw [size_alloc'] at N0
  have R5 := blk_alloc R4 (.stringIter s 0)
  have K5 := K4.alloc (.stringIter s 0)
  have RD5 := RD4.old ((Keep.refl [] _).alloc (.stringIter s 0)) (by simp)
  have hz := K4.size
  rw [size_alloc'] at hz
  clear R4 K4 RD4
  go_wp2_with fail
  go_loopw [6, 7, 8, 9] (fun v6 v7 _ _ wr => ∃ (j p : Nat) (nx : Int), p ≤ s.size ∧ j ≤ 2 * p ∧ v6 = .int .i64 (j : Int) ∧ v7 = .int .i64 nx ∧ -1 ≤ nx ∧ nx ≤ (s.size : Int) ∧ wr.heap[w3.heap.size + 1]? = some (.stringIter s p) ∧ wr.heap[w3.heap.size]? = some (.cells #[.int .i64 fk, .int .i64 fa] 36 (0, 0)) ∧ Rd intRow 1 wr A L ∧ Keep [] w wr ∧ Hid (RangeAt s j p nx)) (fun _ _ _ _ w' => s.size - w'.iterPos (w3.heap.size + 1))
  case atStart => exact ⟨0, 0, 0, Nat.zero_le _, Nat.zero_le _, rfl, rfl, by omega, by omega, N0, R5, RD5, K5, hid (.inl ⟨[], rfl, rfl, rfl⟩)⟩
  case round =>
    clear N0 R5 K5 RD5
    obtain ⟨j, p, nx, hp, hj, rfl, rfl, hn0, hn1, N, R, RD, K, HR⟩ := hrel
    have f0 : wr.cell? ⟨w3.heap.size, 0, none⟩ = some (.int .i64 fk) := blk_cell R 0
    have f1 : wr.cell? ⟨w3.heap.size, 1, none⟩ = some (.int .i64 fa) := blk_cell R 1
    have hbl := blk_lt N
    by_cases hlt : p < s.size
    · have hnx : ∀ ty, (Instr.next (.pointer (some ⟨w3.heap.size + 1, 0, none⟩)) true ty).run Tryd.prog wr = _ := fun ty => run_next_any_at wr (w3.heap.size + 1) s p ty N hlt
      have K1 := keep_iter K (k := w3.heap.size + 1) (.inr (by omega)) s (p + (Utf8.decode s p).2)
      have N1 := iterAt_heap wr (w3.heap.size + 1) s p (p + (Utf8.decode s p).2) N
      have R1 := (iterAt_other wr (w3.heap.size + 1) w3.heap.size s (p + (Utf8.decode s p).2) (by omega)).trans R
      have hdl := decode_le s p
      have RD1 : Rd intRow 1 (wr.iterAt (w3.heap.size + 1) s (p + (Utf8.decode s p).2)) A L := RD.keep (keep_iter (Keep.refl [w3.heap.size + 1] wr) (k := w3.heap.size + 1) (.inl (by simp)) s (p + (Utf8.decode s p).2)) (fun ad e => by have := hAb ad e; simp; omega)
      have g0 : (wr.iterAt (w3.heap.size + 1) s (p + (Utf8.decode s p).2)).cell? ⟨w3.heap.size, 0, none⟩ = some (.int .i64 fk) := blk_cell R1 0
      have g1 : (wr.iterAt (w3.heap.size + 1) s (p + (Utf8.decode s p).2)).cell? ⟨w3.heap.size, 1, none⟩ = some (.int .i64 fa) := blk_cell R1 1
      have hp1 := iterPos_of N
      have hp2 := iterPos_of N1
      rcases HR.out with ⟨pre, hjp, hpre, hbad⟩ | ⟨hbad, hph⟩
      · cases ho : offAt s p with
        | none =>
          obtain ⟨hr1, hr2⟩ := runes_good hlt ho
          obtain ⟨hw1, hw2⟩ := at_wide hlt ho
          rw [decode_good ho] at hnx K1 N1 R1 hdl RD1 g0 g1 hp2
          simp only at hnx K1 N1 R1 hdl RD1 g0 g1 hp2
          rw [hr1] at hpre
          obtain ⟨fl0, fl1⟩ := flat_at pre (runesFrom s (p + wideAt s p)) (p, runeAt s p)
          rw [hpre, HL.out, ← hjp] at fl0 fl1
          obtain ⟨ad, hA, hc0⟩ := RD1 _ _ fl0
          obtain ⟨ad', hA', hc1⟩ := RD1 _ _ fl1
          rw [hA] at hA'
          obtain rfl := Option.some.inj hA'
          have d0 : (wr.iterAt (w3.heap.size + 1) s (p + wideAt s p)).cell? (ad.add j) = some (.int .i64 (p : Int)) := by have := hc0 0 _ rfl; rwa [Nat.add_zero, Nat.mul_one] at this
          have d1 : (wr.iterAt (w3.heap.size + 1) s (p + wideAt s p)).cell? ⟨ad.block, ad.off + (j + 1), none⟩ = some (.int .i64 (runeAt s p : Int)) := by have := hc1 0 _ rfl; rwa [Nat.add_zero, Nat.mul_one, show ad.add (j + 1) = ⟨ad.block, ad.off + (j + 1), none⟩ by unfold Addr.add; simp] at this
          have hj1 : j + 1 < L.length := (List.getElem?_eq_some_iff.1 fl1).1
          have hj2 : (j : Int) < (L.length : Int) := by omega
          have hj3 : (j : Int) + 1 < (L.length : Int) := by omega
          have HR2 : Hid (RangeAt s (j + 2) (p + wideAt s p) nx) := hid (.inl ⟨pre ++ [(p, runeAt s p)], by simp; omega, by rw [List.append_assoc]; exact hpre, hr2.symm.trans hbad⟩)
          clear hpre hjp hr1 hr2 hbad hc0 hc1 fl0 fl1 HR N R f0 f1 RD
          subst hA
          go_wp2
          go_roundw
          case rel => exact ⟨j + 2, p + wideAt s p, nx, hw2, by omega, by go_num, rfl, hn0, hn1, N1, R1, RD1, K1, HR2⟩
          case measure => rw [hp1, hp2]; omega
        | some k =>
          obtain ⟨hr1, hr2⟩ := runes_bad hlt ho
          have hF : faultX (badFrom s 0) = (40, ((p + k : Nat) : Int)) := by rw [← hbad, hr2]; rfl
          have hfk : fk = 40 := by rw [← HFK.out, hF]
          have hfa : fa = ((p + k : Nat) : Int) := by rw [← HFA.out, hF]
          rw [hr1, List.append_nil] at hpre
          have hjl : j = L.length := by rw [← HL.out, flatR_len, ← hpre]; exact hjp
          have hj0 : ((j : Int) == (L.length : Int)) = true := by simp; omega
          have hj2 : (L.length : Int) ≤ (j : Int) := by omega
          have hfp : (p : Int) ≤ fa := by omega
          have HR2 : Hid (RangeAt s (j + 2) (p + 1) (p : Int)) := hid (.inr ⟨by rw [← hbad, hr2]; simp, .inl ⟨by rw [HL.out]; omega, by omega⟩⟩)
          rw [decode_bad ho] at hnx K1 N1 R1 hdl RD1 g0 g1 hp2
          simp only at hnx K1 N1 R1 hdl RD1 g0 g1 hp2
          rw [hfk] at g0
          clear hpre hjp hr1 hr2 hbad HR N R f0 f1 RD hfk hfa hF hjl
          go_wp2
          go_roundw
          case rel => exact ⟨j + 2, p + 1, (p : Int), by omega, by omega, by go_num, rfl, by omega, by omega, N1, R1, RD1, K1, HR2⟩
          case measure => rw [hp1, hp2]; omega
      · have hq : 1 ≤ (Utf8.decode s p).2 ∧ p + (Utf8.decode s p).2 ≤ s.size := by
          cases ho : offAt s p with
          | none => rw [decode_good ho]; exact at_wide hlt ho
          | some k => rw [decode_bad ho]; simp only; omega
        obtain ⟨hq1, hq2⟩ := hq
        have hj2 : (L.length : Int) ≤ (j : Int) := by rw [HL.out] at hph; omega
        have hj0 : ((j : Int) == (L.length : Int)) = false := by rw [HL.out] at hph; simp; omega
        have HR2 : Hid (RangeAt s (j + 2) (p + (Utf8.decode s p).2) nx) := hid (.inr ⟨hbad, .inr (by omega)⟩)
        clear HR N R f0 f1 RD hbad
        by_cases hph2 : j = L.length + 2
        · have hj3 : ((j : Int) == (L.length : Int) + 2) = true := by simp; omega
          have hnp : ((p : Int) == nx + 1) = true := by rw [HL.out] at hph; simp; omega
          clear hph hph2
          go_wp2
          go_roundw
          case rel => exact ⟨j + 2, p + (Utf8.decode s p).2, nx, hq2, by omega, by go_num, rfl, hn0, hn1, N1, R1, RD1, K1, HR2⟩
          case measure => rw [hp1, hp2]; omega
        · have hj3 : ((j : Int) == (L.length : Int) + 2) = false := by simp; omega
          clear hph hph2
          go_wp2
          go_roundw
          case rel => exact ⟨j + 2, p + (Utf8.decode s p).2, nx, hq2, by omega, by go_num, rfl, hn0, hn1, N1, R1, RD1, K1, HR2⟩
          case measure => rw [hp1, hp2]; omega
    · obtain rfl : p = s.size := by omega
      have hnx : ∀ ty, (Instr.next (.pointer (some ⟨w3.heap.size + 1, 0, none⟩)) true ty).run Tryd.prog wr = _ := fun ty => run_next_end_at wr (w3.heap.size + 1) s s.size ty N hlt
      rcases HR.out with ⟨pre, hjp, hpre, hbad⟩ | ⟨hbad, hph⟩
      · obtain ⟨hr1, hr2⟩ := runes_end hlt
        have hfk : fk = 0 := by rw [← HFK.out, ← hbad, hr2]; rfl
        rw [hr1, List.append_nil] at hpre
        have hjl : j = L.length := by rw [← HL.out, flatR_len, ← hpre]; exact hjp
        have hj0 : ((j : Int) == (L.length : Int)) = true := by simp; omega
        rw [hfk] at f0
        clear hpre hjp hr1 hr2 hbad hfk hjl HR
        go_wp2
        go_ret
        exact ⟨rfl, K.below (Nat.le_refl _) (by simp)⟩
      · have hfk : fk = 40 := by
          rw [← HFK.out]
          cases hb : badFrom s 0 with
          | none => exact absurd hb hbad
          | some x => rfl
        have hj0 : ((j : Int) == (L.length : Int)) = false := by rw [HL.out] at hph; simp; omega
        rw [hfk] at f0
        clear hph hbad hfk HR
        go_wp2
        go_ret
        exact ⟨rfl, K.below (Nat.le_refl _) (by simp)⟩

end Go.Proofs.YtlkoekcoafddpaaDoor
