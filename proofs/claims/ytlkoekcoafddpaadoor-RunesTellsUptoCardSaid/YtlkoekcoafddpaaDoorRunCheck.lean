/- Runes: Check by a contract. -/
import Derived.Test.YtlkoekcoafddpaaDoorRunStand
import Derived.Lib.OthersKept
namespace Go.Proofs.YtlkoekcoafddpaaDoor
open Go.RowKit Go.Lib
set_option linter.unusedSimpArgs false
set_option linter.unusedVariables false

theorem keep_iter {S : List Nat} {a w : World} {k : Nat} (h : Keep S a w) (hk : k ∈ S ∨ a.heap.size ≤ k) (s : ByteArray) (p : Nat) : Keep S a (w.iterAt k s p) :=
  h.then (T := [k]) ⟨rfl, rfl, rfl, by rw [iterAt_size]; exact Nat.le_refl _, fun i hi hn => iterAt_other w k i s p (fun e => hn (by simp [e]))⟩ (fun i hi => by simp at hi; subst hi; exact hk)
theorem iterPos_of {w : World} {k p : Nat} {s : ByteArray} (h : w.heap[k]? = some (.stringIter s p)) : w.iterPos k = p := by unfold World.iterPos; rw [h]
/-- What Check tells. -/
def faultX (o : Option (Nat × Nat)) : Int × Int := match o with | none => (0, 0) | some (i, k) => (40, ((i + k : Nat) : Int))

theorem set2' {w : World} {n : Nat} {a b a' b' : Value} {t : TypeId} (h : w.heap[n]? = some (.cells #[a, b] t (0, 0))) :
    ((w.setCell ⟨n, 0, none⟩ a').setCell ⟨n, 1, none⟩ b').heap[n]? = some (.cells #[a', b'] t (0, 0)) := (blk_set (blk_set h 0 a') 1 b').trans (by simp)
theorem keep2 {S : List Nat} {u w : World} {n : Nat} {a b : Value} (k : Keep S u w) (h : n ∈ S ∨ u.heap.size ≤ n) : Keep S u ((w.setCell ⟨n, 0, none⟩ a).setCell ⟨n, 1, none⟩ b) := (k.set h _).set h _

set_option maxRecDepth 100000 in
set_option maxHeartbeats 2000000 in
theorem check_any (s : ByteArray) (hs : s.size ≤ 4611686018427387904) (w : World) (T : Tabs w) : Calls Tryd.prog 16 #[.string s] w fun e w' => e = .returned (.agg #[.int .i64 (faultX (badFrom s 0)).1, .int .i64 (faultX (badFrom s 0)).2]) ∧ Keep [] w w' := by
  have K0 : Keep [] w ((w.alloc (.cells #[.int .i64 0, .int .i64 0] 36)).iter s 0) := ((Keep.refl _ _).alloc _).alloc _
  have R0 : ((w.alloc (.cells #[.int .i64 0, .int .i64 0] 36)).iter s 0).heap[w.heap.size]? = some (.cells #[.int .i64 0, .int .i64 0] 36 (0, 0)) := blk_alloc (blk_new w (.cells #[.int .i64 0, .int .i64 0] 36)) _
  have N0 := World.iter_heap (w.alloc (.cells #[.int .i64 0, .int .i64 0] 36)) s 0
  rw [size_alloc'] at N0
  obtain ⟨F, hF⟩ : ∃ F, faultX (badFrom s 0) = F := ⟨_, rfl⟩
  have HF := hid hF
  rw [hF]
  clear hF
  go_enter Tryd.func16, Tryd.ntmps16
  go_wp2_with fail
  generalize (w.alloc (.cells #[.int .i64 0, .int .i64 0] 36)).iter s 0 = W0 at *
  go_loopw [3, 4] (fun _ _ wr => ∃ i : Nat, i ≤ s.size ∧ wr.heap[w.heap.size + 1]? = some (.stringIter s i) ∧ wr.heap[w.heap.size]? = some (.cells #[.int .i64 0, .int .i64 0] 36 (0, 0)) ∧ Keep [] w wr ∧ Hid (faultX (badFrom s i) = F)) (fun _ _ w' => s.size - w'.iterPos (w.heap.size + 1))
  case atStart => exact ⟨0, Nat.zero_le _, N0, R0, K0, HF⟩
  case round =>
    clear N0 R0 K0 HF
    obtain ⟨i, hi, N, R, K, HF⟩ := hrel
    by_cases hlt : i < s.size
    · have hnx : ∀ ty, (Instr.next (.pointer (some ⟨w.heap.size + 1, 0, none⟩)) true ty).run Tryd.prog wr = _ := fun ty => run_next_any_at wr (w.heap.size + 1) s i ty N hlt
      have K1 := keep_iter K (k := w.heap.size + 1) (.inr (by omega)) s (i + (Utf8.decode s i).2)
      have N1 := iterAt_heap wr (w.heap.size + 1) s i (i + (Utf8.decode s i).2) N
      have R1 := (iterAt_other wr (w.heap.size + 1) w.heap.size s (i + (Utf8.decode s i).2) (by omega)).trans R
      go_wp2_with fail
      have hgood : offAt s i = none → Utf8.decode s i = (runeAt s i, wideAt s i) := decode_good
      have HB := hid (broken_any s i hlt (by omega) (wr.iterAt (w.heap.size + 1) s (i + (Utf8.decode s i).2)) (T.keep K1))
      clear hnx
      cases ho : offAt s i with
      | none =>
        have HC := HB.out
        rw [ho] at HC
        refine HC.mono ?_
        clear HC HB
        rintro e w2 ⟨rfl, K2⟩
        obtain ⟨hw, hle⟩ := at_wide hlt ho
        rw [hgood ho] at K1 N1 R1 K2
        have N2 := K2.blk N1 (by simp)
        have HF2 : Hid (faultX (badFrom s (i + wideAt s i)) = F) := hid ((congrArg faultX (runes_good hlt ho).2.symm).trans HF.out)
        have R2 := K2.blk R1 (by simp)
        have K3 := K1.trans K2
        have hp1 := iterPos_of N
        have hp2 := iterPos_of N2
        clear N1 R1 K1 K2 hgood K
        go_wp2
        go_roundw
        case rel => exact ⟨i + wideAt s i, hle, N2, R2, K3, HF2⟩
        case measure => rw [hp1, hp2]; omega
      | some k =>
        have HC := HB.out
        rw [ho] at HC
        refine HC.mono ?_
        clear HC HB
        rintro e w2 ⟨rfl, K2⟩
        have R2 := K2.blk R1 (by simp)
        have K3 := K1.trans K2
        have hk4 : k ≤ 4 ∧ i + k ≤ s.size := by
          rcases at_some ho with ⟨_, rfl⟩ | ⟨h1, h2, h3, _⟩
          · omega
          · have := wide_le (B s i)
            unfold wideAt at h2
            refine ⟨by omega, ?_⟩
            by_cases e : k = 1
            · omega
            · have := (h3 (k - 1) (by omega) (by omega)).1
              omega
        have hF := (congrArg faultX (runes_bad hlt ho).2).symm.trans HF.out
        have HK := hid hF
        have hst := stands_any (s.extract i s.size) k (by simp [ByteArray.size_extract]; omega) (by simp [ByteArray.size_extract]; omega) (by rw [off_ext]; exact ho)
        clear N1 R1 K1 K2 hgood K hF HF
        obtain ⟨r0, r1, _, _, rs⟩ : w2.cell? ⟨w.heap.size, 0, none⟩ = some (.int .i64 0) ∧ w2.cell? ⟨w.heap.size, 1, none⟩ = some (.int .i64 0) ∧ w2.frozen? ⟨w.heap.size, 0, none⟩ = false ∧ w2.frozen? ⟨w.heap.size, 1, none⟩ = false ∧ w.heap.size < w2.heap.size := ⟨blk_cell R2 0, blk_cell R2 1, blk_free R2 0, blk_free R2 1, blk_lt R2⟩
        go_wp2_with fail
        refine (hst w2).mono ?_
        clear hst
        rintro e w3 ⟨rfl, rfl⟩
        go_wp2
        have S1 := set2' (a' := .int .i64 40) (b' := .int .i64 ((i : Int) + (k : Int))) R2
        have K4 := keep2 (n := w.heap.size) (a := .int .i64 40) (b := .int .i64 ((i : Int) + (k : Int))) K3 (.inr (Nat.le_refl _))
        generalize (w3.setCell ⟨w.heap.size, 0, none⟩ (.int .i64 40)).setCell ⟨w.heap.size, 1, none⟩ (.int .i64 ((i : Int) + (k : Int))) = W5 at *
        have y0 := blk_cell S1 0
        have y1 := blk_cell S1 1
        simp only [List.getElem?_toArray, List.getElem?_cons_zero, List.getElem?_cons_succ] at y0 y1
        have hE := HK.out
        exact bodyPost_ret (v := .agg #[.int .i64 40, .int .i64 ((i : Int) + (k : Int))]) (by simp [results, Tryd.results16, go_sem, y0, y1]) rfl ⟨by rw [← hE]; simp [faultX], K4⟩
    · obtain rfl : i = s.size := by omega
      have hnx : ∀ ty, (Instr.next (.pointer (some ⟨w.heap.size + 1, 0, none⟩)) true ty).run Tryd.prog wr = _ := fun ty => run_next_end_at wr (w.heap.size + 1) s s.size ty N hlt
      obtain ⟨r0, r1, _, _, rs⟩ : wr.cell? ⟨w.heap.size, 0, none⟩ = some (.int .i64 0) ∧ wr.cell? ⟨w.heap.size, 1, none⟩ = some (.int .i64 0) ∧ wr.frozen? ⟨w.heap.size, 0, none⟩ = false ∧ wr.frozen? ⟨w.heap.size, 1, none⟩ = false ∧ w.heap.size < wr.heap.size := ⟨blk_cell R 0, blk_cell R 1, blk_free R 0, blk_free R 1, blk_lt R⟩
      go_wp2
      have S1 := set2' (a' := .int .i64 0) (b' := .int .i64 0) R
      have K4 := keep2 (n := w.heap.size) (a := .int .i64 0) (b := .int .i64 0) K (.inr (Nat.le_refl _))
      generalize (wr.setCell ⟨w.heap.size, 0, none⟩ (.int .i64 0)).setCell ⟨w.heap.size, 1, none⟩ (.int .i64 0) = W5 at *
      have y0 := blk_cell S1 0
      have y1 := blk_cell S1 1
      simp only [List.getElem?_toArray, List.getElem?_cons_zero, List.getElem?_cons_succ] at y0 y1
      have hE := HF.out
      rw [(runes_end hlt).2] at hE
      exact bodyPost_ret (v := .agg #[.int .i64 0, .int .i64 0]) (by simp [results, Tryd.results16, go_sem, y0, y1]) rfl ⟨by rw [← hE]; simp [faultX], K4⟩

end Go.Proofs.YtlkoekcoafddpaaDoor
