/- Layer 8: the library's Atoi and Itoa, cut, by contracts. -/
import Derived.Test.YtldckefnelgdgaaDoorUnitLaw
namespace Go.Proofs.YtldckefnelgdgaaDoor
open Go.RowKit Go.Sort
set_option linter.unusedSimpArgs false
set_option linter.unusedVariables false

def unitCells : List Value := [.string ⟨#[112, 116]⟩, .int .i64 65536, .int .i64 1, .string ⟨#[105, 110]⟩, .int .i64 4718592, .int .i64 1, .string ⟨#[109, 109]⟩, .int .i64 23592960, .int .i64 127, .string ⟨#[115, 112]⟩, .int .i64 1, .int .i64 1, .string ⟨#[101, 109]⟩, .int .i64 0, .int .i64 1]

/-- What the package-level variables hold. -/
structure Glob (w : World) : Prop where
  err : ∃ te pe, w.cell? ⟨2, 0, none⟩ = some (.iface te pe)
  units : ∀ j v, unitCells[j]? = some v → w.cell? ⟨0, j, none⟩ = some v
  tab : Lib.TabIs Tryd.prog w "internal/strconv.uint64pow10" .u64 Lib.pow10Tab

theorem var_keep {P : Program} {w w' : World} {name : String} {cs : Array Value} (h : w.var? P name = some cs) (k : Keep [] w w') : w'.var? P name = some cs := by
  unfold World.var? at h ⊢
  rw [Option.bind_eq_some_iff] at h ⊢
  obtain ⟨g, hg, h⟩ := h
  refine ⟨g, hg, ?_⟩
  cases ho : w.heap[g]? with
  | none => rw [ho] at h; cases h
  | some o => rw [k.blk ho (by simp)]; rw [ho] at h; exact h

theorem Glob.keep {w w' : World} (G : Glob w) (k : Keep [] w w') : Glob w' := by
  obtain ⟨te, pe, he⟩ := G.err
  exact ⟨⟨te, pe, k.cell' he (by simp)⟩, fun j v h => k.cell' (G.units j v h) (by simp), var_keep G.tab k⟩

theorem atoi_any (l : List UInt8) (h : AllD l) (hl : l ≠ []) (hlen : l.length ≤ 1000) (w : World) (G : Glob w) : Calls Tryd.prog 17 #[.string (B l)] w fun e w' => ∃ (v : Int) (er : Value), e = .returned (.tuple #[.int .i64 v, er]) ∧ Keep [] w w' ∧ (valL l < 9223372036854775808 → v = (valL l : Int)) := by
  have hs := B_size l
  have ha := atoi_digits h hl
  by_cases hv : valL l < 9223372036854775808
  · rw [if_pos hv] at ha
    refine (Tryd.strconv_Atoi_ok (B l) (by rw [hs]; omega) _ ha w).mono ?_
    rintro e w' ⟨rfl, hw⟩
    refine ⟨_, _, rfl, ?_, fun _ => rfl⟩
    rcases hw with rfl | ⟨t, rfl⟩
    · exact Keep.refl _ _
    · exact Keep.of_below (Lib.bytesWorld_below _ _ _) _
  · rw [if_neg hv] at ha
    obtain ⟨te, pe, he⟩ := G.err
    refine (Tryd.strconv_Atoi_range (B l) (by rw [hs]; omega) ha _ w he (.inr ⟨te, pe, rfl⟩)).mono ?_
    rintro e w' ⟨N, rfl, _, _, hb⟩
    exact ⟨_, _, rfl, Keep.of_below hb _, fun h => absurd h hv⟩

theorem keep_grow (w : World) (os : Array Obj) : Keep [] w (grow w os) := by
  refine ⟨rfl, rfl, rfl, ?_, fun k hk _ => ?_⟩
  · simp [grow]
  · simp [grow, Array.getElem?_append, hk]

theorem itoa_any (n : Nat) (hn : n ≤ 9223372036854775807) (w : World) (G : Glob w) : Calls Tryd.prog 23 #[.int .i64 (n : Int)] w fun e w' => e = .returned (.string (B (Lib.decDigits n))) ∧ Keep [] w w' := by
  have e : Lib.itoa (n : Int) = Lib.decDigits n := by unfold Lib.itoa; rw [if_neg (by omega)]; rfl
  have h := Tryd.strconv_Itoa (n : Int) (by omega) (by omega) w G.tab
  rw [e] at h
  exact h.mono fun _ w' ⟨h1, k, os, h2⟩ => ⟨h1, by rw [h2]; exact ((Keep.refl [] w).drewN k).trans (keep_grow _ os)⟩

/-- What cut answers. -/
def CutPost (l : List UInt8) (w : World) (e : Ending) (w' : World) : Prop :=
  Keep [] w w' ∧ match cutX l with
  | none => e = .returned (.tuple #[.string ⟨#[]⟩, .string ⟨#[]⟩, .string ⟨#[]⟩, .bool false])
  | some (n, k, at_) => e = .returned (.tuple #[.string (B (l.take n)), .string (B ((l.drop (n + 1)).take k)), .string (B (l.drop at_)), .bool true])

theorem point_prefix {r : List UInt8} : Lib.hasPrefix r [46] = decide (r[0]? = some 46) := by
  unfold Lib.hasPrefix
  cases r with
  | nil => rfl
  | cons c t =>
    by_cases h : c = 46
    · subst h; simp [List.isPrefixOf]
    · have h2 : ((46 : UInt8) == c) = false := by rw [beq_eq_false_iff_ne]; exact fun e => h e.symm
      simp [List.isPrefixOf, h2, h]

set_option maxHeartbeats 3200000 in
theorem ucut_any (l : List UInt8) (w : World) (hs : l.length ≤ 1152921504606846976) : Calls Tryd.prog 16 #[.string (B l)] w fun e w' => CutPost l w e w' := by
  have hsz := B_size l
  have hn := dgL_le l
  have C1 := udigits_any (B l) w (by rw [hsz]; omega)
  rw [B_list] at C1
  by_cases h1 : dgL l < 1 ∨ 15 < dgL l
  · have HX := hid (show cutX l = none by unfold cutX; rw [if_pos h1])
    obtain ⟨n, hn'⟩ : ∃ n : Int, n = (dgL l : Int) := ⟨_, rfl⟩
    rw [← hn'] at C1
    have key : n < 1 ∨ (1 ≤ n ∧ 15 < n) := by omega
    clear h1 hn' hn
    rcases key with k1 | ⟨k1, k2⟩
    all_goals
      go_enter Tryd.func16, Tryd.ntmps16
      go_wp2_with fail
      refine C1.mono ?_
      rintro e w1 ⟨rfl, K1⟩
      go_wp2
      refine bodyPost_ret (v := .tuple #[.string ⟨#[]⟩, .string ⟨#[]⟩, .string ⟨#[]⟩, .bool false]) (by simp [results, Tryd.results16, go_sem]) rfl ⟨K1, ?_⟩
      rw [HX.out]
  · obtain ⟨N, hN⟩ : ∃ N, N = dgL l := ⟨_, rfl⟩
    obtain ⟨r, hr⟩ : ∃ r, r = l.drop N := ⟨_, rfl⟩
    have hrl : r.length = l.length - N := by rw [hr, List.length_drop]
    have hrz := B_size r
    have eW : (B l).extract 0 N = B (l.take N) := by rw [ext_to, B_list]
    have eR : (B l).extract N l.length = B r := by rw [hr, ← B_size l, ext_from, B_list]
    have hX0 : cutX l = if l[N]? = some 46 then (if dgL (l.drop (N + 1)) < 1 ∨ 4 < dgL (l.drop (N + 1)) then none else some (N, dgL (l.drop (N + 1)), N + 1 + dgL (l.drop (N + 1)))) else some (N, 0, N) := by
      unfold cutX; rw [if_neg h1, hN]
    have h0 : r[0]? = l[N]? := by rw [hr, List.getElem?_drop]; simp
    have CP := fun w => Tryd.strings_HasPrefix (B r) ⟨#[46]⟩ w
    have ep : Lib.hasPrefix (B r).data.toList (⟨#[46]⟩ : ByteArray).data.toList = decide (r[0]? = some 46) := point_prefix
    rw [ep] at CP
    rw [← hN] at C1 h1 hn
    have n1 : 1 ≤ N := by omega
    have n2 : N ≤ 15 := by omega
    by_cases hp : l[N]? = some 46
    · rw [if_pos hp] at hX0
      rw [h0, decide_eq_true hp] at CP
      have hlt := (List.getElem?_eq_some_iff.1 hp).1
      have hd1 : l.drop (N + 1) = r.drop 1 := by rw [hr, List.drop_drop]
      obtain ⟨t, ht⟩ : ∃ t, t = r.drop 1 := ⟨_, rfl⟩
      have htl : t.length = r.length - 1 := by rw [ht, List.length_drop]
      have ht2 : ∀ j, r.drop (j + 1) = t.drop j := fun j => by rw [ht, List.drop_drop, Nat.add_comm]
      rw [← ht] at hd1
      rw [hd1] at hX0
      have eT : (B r).extract 1 r.length = B t := by rw [← B_size r, ext_from, B_list, ← ht]
      have hk := dgL_le t
      rw [htl] at hk
      have C2 := fun w => udigits_any (B t) w (by rw [B_size, htl]; omega)
      rw [B_list] at C2
      obtain ⟨k, hk'⟩ : ∃ k, k = dgL t := ⟨_, rfl⟩
      rw [← hk'] at hk hX0
      simp only [← hk'] at C2
      have hr1 : 1 ≤ r.length := by omega
      by_cases h2 : k < 1 ∨ 4 < k
      · have HX := hid (hX0.trans (if_pos h2))
        have H1 := hid C1
        have H2 := hid C2
        have H3 := hid CP
        have key : k < 1 ∨ (1 ≤ k ∧ 4 < k) := by omega
        clear h1 h2 hp hX0 hN hr h0 C1 C2 CP ep hd1 hk' hlt hrl ht htl ht2
        rcases key with k1 | ⟨k1, k2⟩
        all_goals
          go_enter Tryd.func16, Tryd.ntmps16
          go_wp2_with fail
          refine H1.out.mono ?_
          rintro e w1 ⟨rfl, K1⟩
          go_upto_region 4 with (fail)
          go_quiet (fail)
          go_wp2_with fail
          refine (H3.out _).mono ?_
          rintro e w2 ⟨rfl, rfl⟩
          go_wp2_with fail
          refine (H2.out _).mono ?_
          rintro e w3 ⟨rfl, K3⟩
          go_wp2
          refine bodyPost_ret (v := .tuple #[.string ⟨#[]⟩, .string ⟨#[]⟩, .string ⟨#[]⟩, .bool false]) (by simp [results, Tryd.results16, go_sem]) rfl ⟨(K1.drewN _).trans K3, ?_⟩
          rw [HX.out]
      · have HX := hid (hX0.trans (if_neg h2))
        have H1 := hid C1
        have H2 := hid C2
        have H3 := hid CP
        have k1 : 1 ≤ k := by omega
        have k2 : k ≤ 4 := by omega
        have eP : (B r).extract 1 (k + 1) = B (t.take k) := by rw [ext_B, B_list, ← ht]; rfl
        have eU : (B r).extract (k + 1) r.length = B (t.drop k) := by rw [← B_size r, ext_from, B_list, ht2]
        have hd2 : l.drop (N + 1 + k) = t.drop k := by rw [← ht2, hr, List.drop_drop]; congr 1; omega
        have HD1 := hid hd1
        have HD2 := hid hd2
        have hkr : k + 1 ≤ r.length := by omega
        have hkr' : (k : Int) + 1 ≤ (r.length : Int) := by omega
        have hk1' : (1 : Int) ≤ (k : Int) + 1 := by omega
        have hkt : ((k : Int) + 1).toNat = k + 1 := by omega
        clear h1 h2 hp hX0 hN hr h0 C1 C2 CP ep hd1 hd2 hk' hlt hrl ht htl ht2
        go_enter Tryd.func16, Tryd.ntmps16
        go_wp2_with fail
        refine H1.out.mono ?_
        rintro e w1 ⟨rfl, K1⟩
        go_upto_region 4 with (fail)
        go_quiet (fail)
        go_wp2_with fail
        refine (H3.out _).mono ?_
        rintro e w2 ⟨rfl, rfl⟩
        go_wp2_with fail
        refine (H2.out _).mono ?_
        rintro e w3 ⟨rfl, K3⟩
        go_upto_region 9 with (fail)
        go_quiet (fail)
        go_wp2
        refine bodyPost_ret (v := .tuple #[.string (B (l.take N)), .string (B (t.take k)), .string (B (t.drop k)), .bool true]) (by simp [results, Tryd.results16, go_sem]) rfl ⟨((K1.drewN _).trans K3).drewN _, ?_⟩
        rw [HX.out]
        show _ = Ending.returned (.tuple #[_, .string (B ((l.drop (N + 1)).take k)), .string (B (l.drop (N + 1 + k))), _])
        rw [HD1.out, HD2.out]
    · have HX := hid (hX0.trans (if_neg hp))
      rw [h0, decide_eq_false hp] at CP
      have H1 := hid C1
      have H3 := hid CP
      have HR := hid hr
      clear h1 hp hX0 hN hr h0 C1 CP ep hrl
      go_enter Tryd.func16, Tryd.ntmps16
      go_wp2_with fail
      refine H1.out.mono ?_
      rintro e w1 ⟨rfl, K1⟩
      go_upto_region 4 with (fail)
      go_quiet (fail)
      go_wp2_with fail
      refine (H3.out _).mono ?_
      rintro e w2 ⟨rfl, rfl⟩
      go_wp2
      refine bodyPost_ret (v := .tuple #[.string (B (l.take N)), .string ⟨#[]⟩, .string (B r), .bool true]) (by simp [results, Tryd.results16, go_sem]) rfl ⟨K1.drewN _, ?_⟩
      rw [HX.out]
      show _ = Ending.returned (.tuple #[_, .string (B ((l.drop (N + 1)).take 0)), .string (B (l.drop N)), _])
      rw [← HR.out, List.take_zero]
      rfl

end Go.Proofs.YtldckefnelgdgaaDoor
