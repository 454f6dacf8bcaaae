/- Layer 8: Read, by a contract. -/
import Derived.Test.YtldckefnelgdgaaDoorUnitLong
namespace Go.Proofs.YtldckefnelgdgaaDoor
open Go.RowKit
set_option linter.unusedSimpArgs false
set_option linter.unusedVariables false

def us0 : Int × Int × Bool := (65536, 1, false)
def us1 (u : List UInt8) : Int × Int × Bool := if ([112, 116] == u) = true then (65536, 1, true) else us0
def us2 (u : List UInt8) : Int × Int × Bool := if ([105, 110] == u) = true then (4718592, 1, true) else us1 u
def us3 (u : List UInt8) : Int × Int × Bool := if ([109, 109] == u) = true then (23592960, 127, true) else us2 u
def us4 (u : List UInt8) : Int × Int × Bool := if ([115, 112] == u) = true then (1, 1, true) else us3 u
def us5 (u : List UInt8) : Int × Int × Bool := if ([101, 109] == u) = true then (0, 1, true) else us4 u
/-- What the units' loop has found after so many of them. -/
def ust (u : List UInt8) : Nat → Int × Int × Bool
  | 0 => us0
  | 1 => us1 u
  | 2 => us2 u
  | 3 => us3 u
  | 4 => us4 u
  | _ => us5 u

theorem beq_swap (a u : List UInt8) : ((a == u) = true) = (u = a) := by
  rw [beq_iff_eq]
  exact propext ⟨fun h => h.symm, fun h => h.symm⟩

theorem ust_unit0 {u : List UInt8} (h : u ≠ []) : match unit0 u with
    | none => (ust u 5).2.2 = false
    | some (num, den) => ust u 5 = (num, den, true) := by
  unfold unit0
  simp only [ust, us5, us4, us3, us2, us1, us0, beq_swap]
  rw [if_neg h]
  by_cases h1 : u = [112, 116]
  · subst h1; rfl
  · by_cases h2 : u = [105, 110]
    · subst h2; rfl
    · by_cases h3 : u = [109, 109]
      · subst h3; rfl
      · by_cases h4 : u = [115, 112]
        · subst h4; rfl
        · by_cases h5 : u = [101, 109]
          · subst h5; rfl
          · simp [h1, h2, h3, h4, h5]

theorem unit_index0 (w : World) : (Instr.index 38 (.agg #[.string ⟨#[112, 116]⟩, .int .i64 65536, .int .i64 1, .string ⟨#[105, 110]⟩, .int .i64 4718592, .int .i64 1, .string ⟨#[109, 109]⟩, .int .i64 23592960, .int .i64 127, .string ⟨#[115, 112]⟩, .int .i64 1, .int .i64 1, .string ⟨#[101, 109]⟩, .int .i64 0, .int .i64 1]) (.int .i64 0)).run Tryd.prog w = .ok (.agg #[.string ⟨#[112, 116]⟩, .int .i64 65536, .int .i64 1]) w := by kernel_rfl
theorem unit_index1 (w : World) : (Instr.index 38 (.agg #[.string ⟨#[112, 116]⟩, .int .i64 65536, .int .i64 1, .string ⟨#[105, 110]⟩, .int .i64 4718592, .int .i64 1, .string ⟨#[109, 109]⟩, .int .i64 23592960, .int .i64 127, .string ⟨#[115, 112]⟩, .int .i64 1, .int .i64 1, .string ⟨#[101, 109]⟩, .int .i64 0, .int .i64 1]) (.int .i64 1)).run Tryd.prog w = .ok (.agg #[.string ⟨#[105, 110]⟩, .int .i64 4718592, .int .i64 1]) w := by kernel_rfl
theorem unit_index2 (w : World) : (Instr.index 38 (.agg #[.string ⟨#[112, 116]⟩, .int .i64 65536, .int .i64 1, .string ⟨#[105, 110]⟩, .int .i64 4718592, .int .i64 1, .string ⟨#[109, 109]⟩, .int .i64 23592960, .int .i64 127, .string ⟨#[115, 112]⟩, .int .i64 1, .int .i64 1, .string ⟨#[101, 109]⟩, .int .i64 0, .int .i64 1]) (.int .i64 2)).run Tryd.prog w = .ok (.agg #[.string ⟨#[109, 109]⟩, .int .i64 23592960, .int .i64 127]) w := by kernel_rfl
theorem unit_index3 (w : World) : (Instr.index 38 (.agg #[.string ⟨#[112, 116]⟩, .int .i64 65536, .int .i64 1, .string ⟨#[105, 110]⟩, .int .i64 4718592, .int .i64 1, .string ⟨#[109, 109]⟩, .int .i64 23592960, .int .i64 127, .string ⟨#[115, 112]⟩, .int .i64 1, .int .i64 1, .string ⟨#[101, 109]⟩, .int .i64 0, .int .i64 1]) (.int .i64 3)).run Tryd.prog w = .ok (.agg #[.string ⟨#[115, 112]⟩, .int .i64 1, .int .i64 1]) w := by kernel_rfl
theorem unit_index4 (w : World) : (Instr.index 38 (.agg #[.string ⟨#[112, 116]⟩, .int .i64 65536, .int .i64 1, .string ⟨#[105, 110]⟩, .int .i64 4718592, .int .i64 1, .string ⟨#[109, 109]⟩, .int .i64 23592960, .int .i64 127, .string ⟨#[115, 112]⟩, .int .i64 1, .int .i64 1, .string ⟨#[101, 109]⟩, .int .i64 0, .int .i64 1]) (.int .i64 4)).run Tryd.prog w = .ok (.agg #[.string ⟨#[101, 109]⟩, .int .i64 0, .int .i64 1]) w := by kernel_rfl

theorem unit0_facts {u : List UInt8} {num den : Int} (h : unit0 u = some (num, den)) : (u = [101, 109] ∧ num = 0 ∧ den = 1) ∨ (u ≠ [101, 109] ∧ 1 ≤ den ∧ den ≤ 127 ∧ den ≤ num ∧ num ≤ 23592960) := by
  unfold unit0 at h
  repeat' split at h
  all_goals first | (cases h; done) | skip
  all_goals
    simp only [Option.some.injEq, Prod.mk.injEq] at h
    obtain ⟨rfl, rfl⟩ := h
    rename_i hu
    first
      | exact .inl ⟨hu, rfl, rfl⟩
      | exact .inr ⟨by rw [hu]; decide, by decide, by decide, by decide, by decide⟩
theorem unit0_em : unit0 [101, 109] = some (0, 1) := rfl

/-- The units are found. -/
def KnownPost (u : List UInt8) (vo vn vd : Value) : Prop := match unit0 u with
  | none => vo = .bool false
  | some (num, den) => vo = .bool true ∧ vn = .int .i64 num ∧ vd = .int .i64 den

set_option maxHeartbeats 6400000 in
set_option maxRecDepth 100000 in
theorem uread_any (l : List UInt8) (size : Int) (w : World) (G : Glob w) (hs : l.length ≤ 1152921504606846976) (s0 : -9223372036854775808 ≤ size) (s1 : size ≤ 9223372036854775807) :
    Calls Tryd.prog 8 #[.string (B l), .int .i64 size] w fun e w' => e = .returned (.tuple #[.int .i64 (readX l size).1, .int .i64 (readX l size).2]) ∧ Keep [] w w' := by
  have CC := ucut_any l w hs
  unfold CutPost at CC
  cases hX : cutX l with
  | none =>
    rw [hX] at CC
    have HR := hid (show readX l size = (0, 80) by unfold readX; rw [hX])
    clear hX
    go_enter Tryd.func8, Tryd.ntmps8
    go_wp2_with fail
    refine CC.mono ?_
    rintro e w1 ⟨K1, rfl⟩
    go_wp2
    go_ret2
    exact ⟨by rw [HR.out]; rfl, K1⟩
  | some x =>
    obtain ⟨n, k, at_⟩ := x
    rw [hX] at CC
    obtain ⟨f1, f2, f3, f4, f5, f6, f7, f8, f9⟩ := cutX_facts hX
    have HR : Hid (readX l size = match unitX (l.drop at_) size with
      | none => (0, 80)
      | some (num, den) => if l.drop at_ = [101, 109] ∧ (size < 0 ∨ 70368744177664 < size) then (0, 81) else (qrV (qr (valL (l.take n ++ (l.drop (n + 1)).take k)) num.toNat (den.toNat * 10 ^ k)), qrE (qr (valL (l.take n ++ (l.drop (n + 1)).take k)) num.toNat (den.toNat * 10 ^ k)))) := hid (by
      unfold readX; rw [hX]; rfl)
    clear hX
    obtain ⟨u, hu⟩ : ∃ u, u = l.drop at_ := ⟨_, rfl⟩
    rw [← hu] at HR
    simp only [← hu] at CC
    clear hu f6 f7
    generalize l.take n = a at *
    generalize (l.drop (n + 1)).take k = p at *
    rw [← f9] at HR
    have HC := hid CC
    clear CC
    obtain ⟨V, hV⟩ : ∃ V : Int × Int, V = readX l size := ⟨_, rfl⟩
    rw [← hV] at HR ⊢
    clear hV
    have hul := B_toList u
    go_enter Tryd.func8, Tryd.ntmps8
    go_wp2_with fail
    refine HC.out.mono ?_
    rintro e w1 ⟨K1, rfl⟩
    have G1 := G.keep K1
    have HG1 := hid G1
    go_upto_if 25 with (fail)
    go_cut [9, 10, 11] (fun vo vn vd wc => (∃ bo : Bool, vo = .bool bo) ∧ (∃ i1 : Int, vn = .int .i64 i1) ∧ (∃ i2 : Int, vd = .int .i64 i2) ∧ KnownPost u vo vn vd ∧ Keep [] w1 wc)
    case first =>
      cases hu0 : u.isEmpty with
      | true =>
        have hue : u = [] := List.isEmpty_iff.1 hu0
        have HK := hid (show KnownPost u (.bool true) (.int .i64 65536) (.int .i64 1) by unfold KnownPost unit0; rw [if_pos hue]; exact ⟨rfl, rfl, rfl⟩)
        clear hue
        go_wp2
        go_meet
        exact ⟨⟨_, rfl⟩, ⟨_, rfl⟩, ⟨_, rfl⟩, HK.out, Keep.refl _ _⟩
      | false =>
        have hue : u ≠ [] := fun h => by rw [h] at hu0; cases hu0
        have HU := hid (ust_unit0 hue)
        clear hue
        have g0 := G1.units 0 _ rfl
        have g1 := G1.units 1 _ rfl
        have g2 := G1.units 2 _ rfl
        have g3 := G1.units 3 _ rfl
        have g4 := G1.units 4 _ rfl
        have g5 := G1.units 5 _ rfl
        have g6 := G1.units 6 _ rfl
        have g7 := G1.units 7 _ rfl
        have g8 := G1.units 8 _ rfl
        have g9 := G1.units 9 _ rfl
        have g10 := G1.units 10 _ rfl
        have g11 := G1.units 11 _ rfl
        have g12 := G1.units 12 _ rfl
        have g13 := G1.units 13 _ rfl
        have g14 := G1.units 14 _ rfl
        clear G1
        go_wp2_with fail
        go_loopw [27, 10, 11, 12] (fun vi vn vd vk wr => ∃ i : Nat, i ≤ 5 ∧ vi = .int .i64 i ∧ vn = .int .i64 (ust u i).1 ∧ vd = .int .i64 (ust u i).2.1 ∧ vk = .bool (ust u i).2.2 ∧ Keep [] w1 wr) (fun vi _ _ _ _ => 5 - (intOf vi).toNat)
        case atStart => exact ⟨0, by omega, rfl, rfl, rfl, rfl, Keep.refl _ _⟩
        case round =>
          obtain ⟨i, hi, rfl, rfl, rfl, rfl, K⟩ := hrel
          rcases (show i = 0 ∨ i = 1 ∨ i = 2 ∨ i = 3 ∨ i = 4 ∨ i = 5 by omega) with rfl | rfl | rfl | rfl | rfl | rfl
          · have hix := unit_index0
            obtain ⟨N0, hN0⟩ : ∃ x, x = (ust u 0).1 := ⟨_, rfl⟩
            obtain ⟨D0, hD0⟩ : ∃ x, x = (ust u 0).2.1 := ⟨_, rfl⟩
            obtain ⟨Q0, hQ0⟩ : ∃ x, x = (ust u 0).2.2 := ⟨_, rfl⟩
            rw [← hN0, ← hD0, ← hQ0]
            cases hb : ([112, 116] == u) with
            | true =>
              have hs1 : ust u 1 = (65536, 1, true) := if_pos hb
              have HS := hid hs1
              clear hs1 hN0 hD0 hQ0
              go_upto_region 9 with (fail)
              go_quiet (fail)
              go_wp2
              go_roundw
              case rel => exact ⟨1, by omega, by rfl, by rw [HS.out], by rw [HS.out], by rw [HS.out], by first | exact (K.alloc _).drewN _ | exact K.drewN _⟩
              case measure => simp [intOf]
            | false =>
              have hs1 : ust u 1 = ust u 0 := if_neg (by rw [hb]; simp)
              have HS := hid hs1
              have H1 := hid hN0
              have H2 := hid hD0
              have H3 := hid hQ0
              clear hs1 hN0 hD0 hQ0
              go_wp2
              go_roundw
              case rel => exact ⟨1, by omega, by rfl, by rw [HS.out, ← H1.out], by rw [HS.out, ← H2.out], by rw [HS.out, ← H3.out], by first | exact K.alloc _ | exact K⟩
              case measure => simp [intOf]
          · have hix := unit_index1
            obtain ⟨N0, hN0⟩ : ∃ x, x = (ust u 1).1 := ⟨_, rfl⟩
            obtain ⟨D0, hD0⟩ : ∃ x, x = (ust u 1).2.1 := ⟨_, rfl⟩
            obtain ⟨Q0, hQ0⟩ : ∃ x, x = (ust u 1).2.2 := ⟨_, rfl⟩
            rw [← hN0, ← hD0, ← hQ0]
            cases hb : ([105, 110] == u) with
            | true =>
              have hs1 : ust u 2 = (4718592, 1, true) := if_pos hb
              have HS := hid hs1
              clear hs1 hN0 hD0 hQ0
              go_upto_region 9 with (fail)
              go_quiet (fail)
              go_wp2
              go_roundw
              case rel => exact ⟨2, by omega, by rfl, by rw [HS.out], by rw [HS.out], by rw [HS.out], by first | exact (K.alloc _).drewN _ | exact K.drewN _⟩
              case measure => simp [intOf]
            | false =>
              have hs1 : ust u 2 = ust u 1 := if_neg (by rw [hb]; simp)
              have HS := hid hs1
              have H1 := hid hN0
              have H2 := hid hD0
              have H3 := hid hQ0
              clear hs1 hN0 hD0 hQ0
              go_wp2
              go_roundw
              case rel => exact ⟨2, by omega, by rfl, by rw [HS.out, ← H1.out], by rw [HS.out, ← H2.out], by rw [HS.out, ← H3.out], by first | exact K.alloc _ | exact K⟩
              case measure => simp [intOf]
          · have hix := unit_index2
            obtain ⟨N0, hN0⟩ : ∃ x, x = (ust u 2).1 := ⟨_, rfl⟩
            obtain ⟨D0, hD0⟩ : ∃ x, x = (ust u 2).2.1 := ⟨_, rfl⟩
            obtain ⟨Q0, hQ0⟩ : ∃ x, x = (ust u 2).2.2 := ⟨_, rfl⟩
            rw [← hN0, ← hD0, ← hQ0]
            cases hb : ([109, 109] == u) with
            | true =>
              have hs1 : ust u 3 = (23592960, 127, true) := if_pos hb
              have HS := hid hs1
              clear hs1 hN0 hD0 hQ0
              go_upto_region 9 with (fail)
              go_quiet (fail)
              go_wp2
              go_roundw
              case rel => exact ⟨3, by omega, by rfl, by rw [HS.out], by rw [HS.out], by rw [HS.out], by first | exact (K.alloc _).drewN _ | exact K.drewN _⟩
              case measure => simp [intOf]
            | false =>
              have hs1 : ust u 3 = ust u 2 := if_neg (by rw [hb]; simp)
              have HS := hid hs1
              have H1 := hid hN0
              have H2 := hid hD0
              have H3 := hid hQ0
              clear hs1 hN0 hD0 hQ0
              go_wp2
              go_roundw
              case rel => exact ⟨3, by omega, by rfl, by rw [HS.out, ← H1.out], by rw [HS.out, ← H2.out], by rw [HS.out, ← H3.out], by first | exact K.alloc _ | exact K⟩
              case measure => simp [intOf]
          · have hix := unit_index3
            obtain ⟨N0, hN0⟩ : ∃ x, x = (ust u 3).1 := ⟨_, rfl⟩
            obtain ⟨D0, hD0⟩ : ∃ x, x = (ust u 3).2.1 := ⟨_, rfl⟩
            obtain ⟨Q0, hQ0⟩ : ∃ x, x = (ust u 3).2.2 := ⟨_, rfl⟩
            rw [← hN0, ← hD0, ← hQ0]
            cases hb : ([115, 112] == u) with
            | true =>
              have hs1 : ust u 4 = (1, 1, true) := if_pos hb
              have HS := hid hs1
              clear hs1 hN0 hD0 hQ0
              go_upto_region 9 with (fail)
              go_quiet (fail)
              go_wp2
              go_roundw
              case rel => exact ⟨4, by omega, by rfl, by rw [HS.out], by rw [HS.out], by rw [HS.out], by first | exact (K.alloc _).drewN _ | exact K.drewN _⟩
              case measure => simp [intOf]
            | false =>
              have hs1 : ust u 4 = ust u 3 := if_neg (by rw [hb]; simp)
              have HS := hid hs1
              have H1 := hid hN0
              have H2 := hid hD0
              have H3 := hid hQ0
              clear hs1 hN0 hD0 hQ0
              go_wp2
              go_roundw
              case rel => exact ⟨4, by omega, by rfl, by rw [HS.out, ← H1.out], by rw [HS.out, ← H2.out], by rw [HS.out, ← H3.out], by first | exact K.alloc _ | exact K⟩
              case measure => simp [intOf]
          · have hix := unit_index4
            obtain ⟨N0, hN0⟩ : ∃ x, x = (ust u 4).1 := ⟨_, rfl⟩
            obtain ⟨D0, hD0⟩ : ∃ x, x = (ust u 4).2.1 := ⟨_, rfl⟩
            obtain ⟨Q0, hQ0⟩ : ∃ x, x = (ust u 4).2.2 := ⟨_, rfl⟩
            rw [← hN0, ← hD0, ← hQ0]
            cases hb : ([101, 109] == u) with
            | true =>
              have hs1 : ust u 5 = (0, 1, true) := if_pos hb
              have HS := hid hs1
              clear hs1 hN0 hD0 hQ0
              go_upto_region 9 with (fail)
              go_quiet (fail)
              go_wp2
              go_roundw
              case rel => exact ⟨5, by omega, by rfl, by rw [HS.out], by rw [HS.out], by rw [HS.out], by first | exact (K.alloc _).drewN _ | exact K.drewN _⟩
              case measure => simp [intOf]
            | false =>
              have hs1 : ust u 5 = ust u 4 := if_neg (by rw [hb]; simp)
              have HS := hid hs1
              have H1 := hid hN0
              have H2 := hid hD0
              have H3 := hid hQ0
              clear hs1 hN0 hD0 hQ0
              go_wp2
              go_roundw
              case rel => exact ⟨5, by omega, by rfl, by rw [HS.out, ← H1.out], by rw [HS.out, ← H2.out], by rw [HS.out, ← H3.out], by first | exact K.alloc _ | exact K⟩
              case measure => simp [intOf]
          · obtain ⟨N0, hN0⟩ : ∃ x, x = (ust u 5).1 := ⟨_, rfl⟩
            obtain ⟨D0, hD0⟩ : ∃ x, x = (ust u 5).2.1 := ⟨_, rfl⟩
            obtain ⟨Q0, hQ0⟩ : ∃ x, x = (ust u 5).2.2 := ⟨_, rfl⟩
            rw [← hN0, ← hD0, ← hQ0]
            have HK := hid (show KnownPost u (.bool Q0) (.int .i64 N0) (.int .i64 D0) by
              have h := HU.out
              unfold KnownPost
              cases hz : unit0 u with
              | none => rw [hz] at h; simp only [hQ0]; exact congrArg _ h
              | some x => rw [hz] at h; simp only [hQ0, hN0, hD0]; rw [h]; exact ⟨rfl, rfl, rfl⟩)
            clear hN0 hD0 hQ0
            go_wp2
            go_meet
            exact ⟨⟨_, rfl⟩, ⟨_, rfl⟩, ⟨_, rfl⟩, HK.out, K⟩
    case rest =>
      clear G1
      obtain ⟨⟨bo, rfl⟩, ⟨i1, rfl⟩, ⟨i2, rfl⟩, HKn, K2⟩ := hcut
      rename World => w2
      unfold KnownPost at HKn
      have K12 := K1.trans K2
      cases hz : unit0 u with
      | none =>
        rw [hz] at HKn
        obtain rfl : bo = false := by simpa using HKn
        have HV := hid (show V = (0, 80) from HR.out.trans (by
          have h : unitX u size = none := by
            unfold unitX
            rw [if_neg (fun e => by rw [e, unit0_em] at hz; cases hz)]
            exact hz
          rw [h]))
        clear hz HKn HR
        go_wp2
        go_ret2
        exact ⟨by rw [HV.out]; rfl, K12⟩
      | some x =>
        obtain ⟨num, den⟩ := x
        rw [hz] at HKn
        simp only [Value.bool.injEq, Value.int.injEq, true_and] at HKn
        obtain ⟨rfl, rfl, rfl⟩ := HKn
        have hfacts := unit0_facts hz
        have eA := pad_app p
        have eE := pad_ext p
        have eW : B a ++ B (pad p) = B (a ++ pad p) := B_append _ _
        have hpz : (B p).size = p.length := B_size p
        have hqz : (B (p ++ [48, 48, 48, 48])).size = p.length + 4 := by rw [B_size]; simp
        have haz : (B a).size = a.length := B_size a
        have hpl : p.length ≤ 4 := by omega
        have hpd := pad_D hpl f5
        have hpdl := pad_len hpl
        have hdz : (B (pad p)).size = 4 := by rw [B_size]; exact hpdl
        have hval := val_pad (a := a) hpdl
        have hva := valL_lt f4
        have hvp := valL_lt hpd
        have hne : a ++ pad p ≠ [] := by
          intro h
          have := congrArg List.length h
          simp at this
          rw [this.1] at f8
          simp at f8
          omega
        have C1 := atoi_any (a ++ pad p) (f4.app hpd) hne (by rw [List.length_append]; omega) w2 (HG1.out.keep K2)
        have hqr := fun NN dn (h : 1 ≤ dn) => pad_qr (a := a) (num := NN) (den := dn) hpl h
        have HA := hid f4
        have HP := hid f5
        have HN1 := hid C1
        have HQ := hid hqr
        have hvb : a.length ≤ 14 → valL (a ++ pad p) < 1000000000000000000 := fun h => by
          have h1 : 10 ^ a.length ≤ 10 ^ 14 := Nat.pow_le_pow_right (by omega) h
          have e14 : (10 : Nat) ^ 14 = 100000000000000 := by decide
          have e4 : (10 : Nat) ^ 4 = 10000 := by decide
          rw [e14] at h1
          rw [hpdl, e4] at hvp
          rw [hval]
          omega
        have HB := hid hvb
        clear hvb hva hvp hval C1 hqr hne hpd hpdl
        have L1 := fun NN dn w G a1 a2 a3 a4 a5 => ulong_any a p NN dn w G HA.out a1 HP.out hpl a2 a3 a4 a5
        have HL := hid L1
        clear L1 f4 f5
        have hpl2 : (p.length : Int) ≤ 4 := by omega
        have hal2 : (a.length : Int) ≤ 15 := by omega
        generalize pad p = pd at *
        generalize p ++ [48, 48, 48, 48] = p4 at *
        generalize a ++ pd = wp at *
        have fin : ∃ (NN dn : Nat), (1 ≤ dn ∧ dn ≤ 127 ∧ NN ≤ 70368744177664 ∧ (NN = 0 ∨ dn ≤ NN) ∧ i2 = (dn : Int) ∧ ((u == [101, 109]) = true ∧ 0 ≤ size ∧ size ≤ 70368744177664 ∧ size = (NN : Int) ∨ (u == [101, 109]) = false ∧ i1 = (NN : Int)) ∧ V = (qrV (qr (valL (a ++ p)) NN (dn * 10 ^ p.length)), qrE (qr (valL (a ++ p)) NN (dn * 10 ^ p.length)))) ∨ ((u == [101, 109]) = true ∧ (size < 0 ∨ 70368744177664 < size) ∧ V = (0, 81)) := by
          have hV := HR.out
          rcases hfacts with ⟨hu, h1, h2⟩ | ⟨hu, h1, h2, h3, h4⟩
          · have hx : unitX u size = some (size, 1) := by unfold unitX; rw [if_pos hu]
            rw [hx] at hV
            by_cases hrg : size < 0 ∨ 70368744177664 < size
            · exact ⟨0, 0, .inr ⟨by rw [hu]; rfl, hrg, hV.trans (if_pos ⟨hu, hrg⟩)⟩⟩
            · refine ⟨size.toNat, 1, .inl ⟨by omega, by omega, by omega, by omega, by omega, .inl ⟨by rw [hu]; rfl, by omega, by omega, by omega⟩, ?_⟩⟩
              exact hV.trans (if_neg (show ¬ (u = [101, 109] ∧ (size < 0 ∨ 70368744177664 < size)) from fun h => hrg h.2))
          · have hx : unitX u size = some (i1, i2) := by unfold unitX; rw [if_neg hu]; exact hz
            rw [hx] at hV
            refine ⟨i1.toNat, i2.toNat, .inl ⟨by omega, by omega, by omega, by omega, by omega, .inr ⟨?_, by omega⟩, ?_⟩⟩
            · rw [beq_eq_false_iff_ne]; exact hu
            · exact hV.trans (if_neg (show ¬ (u = [101, 109] ∧ (size < 0 ∨ 70368744177664 < size)) from fun h => hu h.1))
        clear hfacts hz HR
        obtain ⟨NN, dn, fin⟩ := fin
        rcases fin with ⟨d0, d1, m0, md, rfl, hcase, hV⟩ | ⟨hb, hrg, hV⟩
        · rw [← HQ.out NN dn d0] at hV
          have HL2 := hid (fun w G a1 => HL.out NN dn w G a1 m0 d0 d1 md)
          have HT := hid (fun (h : valL wp < 1000000000000000000) w => utold_any (valL wp) NN (10000 * dn) w (by omega) m0 (by omega) (by omega))
          have HV := hid hV
          clear hV HL HQ md m0
          rcases hcase with ⟨hb, z0, z1, rfl⟩ | ⟨hb, rfl⟩
          all_goals
            have hsz : (a.length : Int) ≤ 14 ∨ (a.length : Int) = 15 := by omega
            rcases hsz with h14 | h15
            · have dk : decide ((14 : Int) < (a.length : Int)) = false := decide_eq_false (by omega)
              go_wp2_with fail
              refine HN1.out.mono ?_
              rintro e w3 ⟨v, er, rfl, K3, hv⟩
              have hvb := HB.out (by omega)
              obtain rfl := hv (by omega)
              have CT := HT.out hvb
              obtain ⟨Y, hY⟩ : ∃ Y, Y = qr (valL wp) NN (10000 * dn) := ⟨_, rfl⟩
              rw [← hY] at HV CT
              rw [show ((10000 * dn : Nat) : Int) = 10000 * (dn : Int) by omega] at CT
              have HCT := hid CT
              clear hvb hv hY CT
              generalize valL wp = vw at *
              go_wp2_with fail
              with_reducible refine (HCT.out _).mono ?_
              rintro e w4 ⟨rfl, K4⟩
              go_wp2
              go_ret2
              exact ⟨by rw [HV.out]; rfl, (K12.trans K3).trans K4⟩
            · have dk : decide ((14 : Int) < (a.length : Int)) = true := decide_eq_true (by omega)
              have H15 := hid h15
              have h15' : (14 : Int) < (a.length : Int) := by omega
              clear h15
              go_wp2_with fail
              refine HN1.out.mono ?_
              rintro e w3 ⟨v, er, rfl, K3, hv⟩
              have HG3 := hid (HG1.out.keep (K2.trans K3))
              have CT := HL2.out w3 HG3.out (by have := H15.out; omega)
              obtain ⟨Y, hY⟩ : ∃ Y, Y = qr (valL wp) NN (10000 * dn) := ⟨_, rfl⟩
              rw [← hY] at HV CT
              have HCT := hid CT
              clear hv hY CT
              go_wp2_with fail
              with_reducible refine HCT.out.mono ?_
              rintro e w4 ⟨rfl, K4⟩
              go_wp2
              go_ret2
              exact ⟨by rw [HV.out]; rfl, (K12.trans K3).trans K4⟩
        · have HV := hid hV
          have key : size < 0 ∨ (0 ≤ size ∧ 70368744177664 < size) := by omega
          clear hV hrg
          rcases key with k1 | ⟨k1, k2⟩
          all_goals
            go_wp2
            go_ret2
            exact ⟨by rw [HV.out]; rfl, K12⟩

end Go.Proofs.YtldckefnelgdgaaDoor
