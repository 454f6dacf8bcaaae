/- TableFinds' walk. -/
import Derived.Test.YthcfgechifogeaaTabShown
namespace Go.Proofs.Ythcfgechifogeaa
open Go.RowKit Go.Maps
set_option linter.unusedSimpArgs false
set_option linter.unusedVariables false

/-- A font as it comes in: its lists lie where its slices lead. -/
structure OpenF (w : World) (f : FontX) : Prop where
  gr : Rd GlyphX.row 4 w f.ga f.gs
  pr : Rd PairX.row 5 w f.pa f.ps
  gn : f.ga = none → f.gs.length = 0
  pn : f.pa = none → f.ps.length = 0
  gi : ∀ g ∈ f.gs, g.inI
  pi_ : ∀ p ∈ f.ps, p.inI
  gl : f.gs.length ≤ 9223372036854775807
  pl_ : f.ps.length ≤ 9223372036854775807
theorem OpenF.isF {w : World} {f : FontX} (h : OpenF w f) (hb : f.gs.length + f.ps.length ≤ 2147483647) : IsF w f := ⟨h.gr, h.pr, h.gn, h.pn, h.gi, h.pi_, by omega, by omega⟩
theorem beyond_at (f : FontX) (b : Bool) (w : World) (hg : f.gs.length ≤ 9223372036854775807) (hp : f.ps.length ≤ 9223372036854775807) (h : decide (2147483647 < f.gs.length + f.ps.length) = b) :
    Calls Try.prog 12 #[.agg #[.int .i64 f.em, .slice f.ga f.gs.length f.gc, .slice f.pa f.ps.length f.pc]] w fun e w' => e = .returned (.bool b) ∧ Keep [] w w' := by
  subst h
  exact beyond_any f.em f.ga f.pa f.gs.length f.ps.length f.gc f.pc w hg hp
theorem new_at (f : FontX) (w : World) (h : IsF w f) : Calls Try.prog 15 #[.agg #[.int .i64 f.em, .slice f.ga f.gs.length f.gc, .slice f.pa f.ps.length f.pc]] w fun e w' => NewPost f w e w' := new_any f w h

theorem own_none {w : World} {base : Nat} {e : TypeId} {sz n c : Nat} {A : Option Addr} {xs : List Value} (h : w.ownsRow base e sz (.slice A n c) n xs) : A = none → n = 0 := by
  intro e
  subst e
  rcases h.2 with ⟨h1, h2⟩ | ⟨g, cap, cur, hv, _⟩
  · simp at h1; exact h1.1
  · simp at hv
theorem font_rd {w : World} {base : Nat} {A B : Option Addr} {c d : Nat} {gs : List GlyphX} {ps : List PairX} (h1 : w.ownsRow base 45 4 (.slice A gs.length c) gs.length (gs.flatMap GlyphX.row)) (h2 : w.ownsRow base 52 5 (.slice B ps.length d) ps.length (ps.flatMap PairX.row)) :
    Rd GlyphX.row 4 w A gs ∧ Rd PairX.row 5 w B ps := by
  obtain ⟨A', cap, e, _, hr, _⟩ := own_rd row4 h1
  obtain ⟨B', cap', e', _, hr', _⟩ := own_rd row5 h2
  simp at e e'
  obtain ⟨rfl, _⟩ := e
  obtain ⟨rfl, _⟩ := e'
  exact ⟨hr, hr'⟩
/-- m[k] = v at the operation. -/
theorem wpList_store_F {κ : Type} [DecidableEq κ] {P : Program} {K E : TypeId} {kf : κ → Value} {ok : κ → Prop} {b n : Nat} {f : κ → Option Int} {ops : Array Oper} {rest : List Oper} {o : Oper} {a : Act} {Q : Exit → Act → World → Prop} {w : World}
    (hg : o.guard = none) (m x v : Operand) (t : TypeId) (hop : o.op = Op.mapUpdate t m x v) (L : Keyed P K) (ht : P.underlying t = some (.map K E)) (he : P.underlying E = some (.int .i64)) (hM : MapF P K E kf ok w b n f) (hn : n < maxLen)
    (hinj : ∀ k k' kl, ok k → ok k' → keyOf P K (kf k) = some kl → keyOf P K (kf k') = some kl → k = k') (k : κ) {kl : Lit} (hok : ok k) (hk : keyOf P K (kf k) = some kl) (v0 : Int) (hv0 : (Lit.int .i64 v0).wf = true)
    (hm : a.eval m = .map (some b)) (hx : a.eval x = kf k) (hv : a.eval v = .int .i64 v0)
    (hK : ∀ w', MapF P K E kf ok w' b (n + 1) (fun y => if y = k then some v0 else f y) → w.grownBy w' (some b) → wpList P ops Q rest (a.put o.dst undef) w') : wpList P ops Q (o :: rest) a w := by
  refine wpList_plain hg fun K' hK' => ?_
  obtain ⟨w', hrun, r1, r2⟩ := hM.store L ht he hn hinj hok hk hv0
  unfold Oper.wp
  simp [execOp, hop, hm, hx, hv, hrun, Result.andThen]
  exact hK' _ _ (hK w' r1 r2)

theorem gFind_self {gs : List GlyphX} (h : GoodG gs) {k : Nat} {g : GlyphX} (hg : gs[k]? = some g) : gFind gs g.ru = some g := by
  unfold gFind
  rcases idx_find (fun x : GlyphX => x.ru == g.ru) gs with ⟨h1, h2⟩ | ⟨i, x, h1, h2, h3⟩
  · exact absurd (List.find?_eq_none.1 h2 g (List.mem_of_getElem? hg)) (by simp)
  · have hx : x.ru = g.ru := by simpa using List.find?_some h2
    rcases Nat.lt_trichotomy i k with hlt | rfl | hgt
    · have := h.rising hlt h3 hg; omega
    · rw [h3] at hg; cases hg; exact h2
    · have := h.rising hgt hg h3; omega
theorem pFind_self {gs : List GlyphX} {ps : List PairX} (h : GoodP gs ps) {k : Nat} {p : PairX} (hp : ps[k]? = some p) : pFind ps (p.lf, p.rt) = some p := by
  unfold pFind
  rcases idx_find (fun x : PairX => x.lf == (p.lf, p.rt).1 && x.rt == (p.lf, p.rt).2) ps with ⟨h1, h2⟩ | ⟨i, x, h1, h2, h3⟩
  · exact absurd (List.find?_eq_none.1 h2 p (List.mem_of_getElem? hp)) (by simp)
  · have hx : x.lf = p.lf ∧ x.rt = p.rt := by simpa using List.find?_some h2
    rcases Nat.lt_trichotomy i k with hlt | rfl | hgt
    · have := h.rising hlt h3 hp; unfold behindX at this; omega
    · rw [h3] at hp; cases hp; exact h2
    · have := h.rising hgt hp h3; unfold behindX at this; omega
/-- The width of a rune's glyph. -/
def wOf (gs : List GlyphX) (r : Int) : Option Int := (gFind gs r).map GlyphX.wd
theorem gFind_none_of_rise {gs : List GlyphX} (h : GoodG gs) {k : Nat} {g : GlyphX} (hg : gs[k]? = some g) : gFind (gs.take k) g.ru = none := by
  unfold gFind
  rcases idx_find (fun x : GlyphX => x.ru == g.ru) (gs.take k) with ⟨h1, h2⟩ | ⟨i, x, h1, h2, h3⟩
  · exact h2
  · have hx : x.ru = g.ru := by simpa using List.find?_some h2
    rw [List.getElem?_take] at h3
    split at h3
    · have := h.rising (by assumption) h3 hg; omega
    · cases h3
theorem wOf_snoc {gs : List GlyphX} (h : GoodG gs) {k : Nat} {g : GlyphX} (hg : gs[k]? = some g) (r : Int) : wOf (gs.take (k + 1)) r = if r = g.ru then some g.wd else wOf (gs.take k) r := by
  unfold wOf
  rw [take_snoc hg, gFind_snoc]
  by_cases e : r = g.ru
  · subst e
    rw [gFind_none_of_rise h hg]
    simp
  · rw [if_neg e]
    cases gFind (gs.take k) r with
    | some x => rfl
    | none => simp [Ne.symm e]
theorem kern_fits {gs : List GlyphX} {p : PairX} (hg : GoodW gs) (h : fineX gs p = true) : ∃ a b, gFind gs p.lf = some a ∧ gFind gs p.rt = some b ∧ 0 ≤ a.wd ∧ a.wd ≤ 16384 ∧ 0 ≤ b.wd ∧ b.wd ≤ 16384 ∧ -16384 ≤ p.kn ∧ p.kn ≤ 16384 ∧ 0 ≤ a.wd + p.kn ∧ 0 ≤ b.wd + p.kn := by
  unfold fineX at h
  cases ha : gFind gs p.lf with
  | none => rw [ha] at h; simp [fineO] at h
  | some a =>
    cases hb : gFind gs p.rt with
    | none => rw [ha, hb] at h; simp [fineO] at h
    | some b =>
      rw [ha, hb] at h
      have h1 := hg a (gFind_mem ha)
      have h2 := hg b (gFind_mem hb)
      refine ⟨a, b, rfl, rfl, h1.1, h1.2, h2.1, h2.2, ?_⟩
      simp only [fineO] at h
      by_cases hi : p.is = true
      · rw [if_pos hi] at h
        simp at h
        omega
      · rw [if_neg hi] at h
        simp at h
        omega

set_option maxHeartbeats 2000000 in
set_option maxRecDepth 100000 in
theorem walkFinds (f : FontX) (bi : Int) (w : World) (h : OpenF w f) (hbi : InI bi) : Calls Try.prog 5 #[f.val, .int .i64 bi] w fun e w' => e = .returned (.bool true) ∧ Below w.heap.size w w' := by
  unfold FontX.val
  have K0 : Keep [] w (w.alloc (.cells #[.int .i64 f.em, .slice f.ga f.gs.length f.gc, .slice f.pa f.ps.length f.pc] 25)) := (Keep.refl _ _).alloc _
  have F0 := blk_new w (.cells #[.int .i64 f.em, .slice f.ga f.gs.length f.gc, .slice f.pa f.ps.length f.pc] 25)
  by_cases hb : 2147483647 < f.gs.length + f.ps.length
  · have HB := hid (show decide (2147483647 < f.gs.length + f.ps.length) = true by simpa using hb)
    clear hb
    go_enter Try.func5, Try.ntmps5
    go_wp2_with fail
    refine (beyond_at f true _ h.gl h.pl_ HB.out).mono ?_
    rintro e w1 ⟨rfl, K1⟩
    go_wp2
    go_ret
    exact ⟨rfl, (K0.trans K1).below (Nat.le_refl _) (by simp)⟩
  have HB := hid (show decide (2147483647 < f.gs.length + f.ps.length) = false by simp; omega)
  have HF := hid (h.isF (by omega))
  clear hb
  go_enter Try.func5, Try.ntmps5
  go_wp2_with fail
  refine (beyond_at f false _ h.gl h.pl_ HB.out).mono ?_
  rintro e w1 ⟨rfl, K1⟩
  have F1 := K1.blk F0 (by simp)
  have K1' := K0.trans K1
  clear K0 K1 F0
  go_wp2_with fail
  refine (shown_any _).mono ?_
  rintro e w2 ⟨rfl, K2⟩
  have F2 := K2.blk F1 (by simp)
  have K2' := K1'.trans K2
  clear K1' K2 F1
  obtain ⟨f0, f1, f2, _, _, _, fs⟩ := cells3 F2
  go_wp2_with fail
  refine (new_at f _ (HF.out.old K2' (by simp))).mono ?_
  clear f0 f1 f2 fs
  rintro e w3 (⟨hc, rfl, K3⟩ | ⟨hc, t, rfl, I3, tem, tgs, tps, tb, K3⟩)
  · have h1 : (checkX f.em f.gs f.ps == 0) = false := by simpa using hc
    have h2 : (checkX f.em f.gs f.ps != 0) = true := by simpa using hc
    generalize checkX f.em f.gs f.ps = c at *
    clear hc
    go_wp2
    go_ret
    exact ⟨rfl, (K2'.trans K3).below (Nat.le_refl _) (by simp)⟩
  · obtain ⟨z1, z2, hgg, hgp⟩ := check_zero hc
    have HGG := hid hgg
    have HGP := hid hgp
    have HGW := hid (goodW hgg)
    have hg1 : (f.gs.length : Int) ≤ 1024 := by omega
    have hp1 : (f.ps.length : Int) ≤ 4096 := by omega
    have D3 : decide ((1024 : Int) < (f.gs.length : Int)) = false := by simp; omega
    have D4 : decide ((4096 : Int) < (f.ps.length : Int)) = false := by simp; omega
    have HC := hid hc
    have HT := hid (And.intro tem (And.intro tgs tps))
    have F3 := K3.blk F2 (by simp)
    have KW := K2'.trans K3
    have HO := hid h
    clear hc tem tgs tps K3 K2' F2 h hgg hgp z1 z2 tb
    have hmm := @run_makeMap Try.prog
    obtain ⟨f0, f1, f2, _, _, _, fs⟩ := cells3 F3
    go_wp2_with fail
    clear hmm f0 f1 f2 fs
    have K4 : Keep [] w3 (w3.alloc (.map #[] 0)) := (Keep.refl _ _).alloc _
    have M4 : MapF Try.prog 3 3 ik InI (w3.alloc (.map #[] 0)) w3.heap.size 0 (wOf (f.gs.take 0)) := (MapF.made w3 Try.prog 3 3 ik InI).ext (fun k _ => rfl)
    have F4 := K4.blk F3 (by simp)
    generalize w3.alloc (.map #[] 0) = W4 at *
    go_loopw [8] (fun vk wr => ∃ k : Nat, k ≤ f.gs.length ∧ vk = .int .i64 k ∧ MapF Try.prog 3 3 ik InI wr w3.heap.size k (wOf (f.gs.take k)) ∧ Keep [] w3 wr) (fun vk _ => f.gs.length - (intOf vk).toNat)
    case atStart => exact ⟨0, Nat.zero_le _, rfl, M4, K4⟩
    case round =>
      clear M4 K4 F4
      obtain ⟨k, hk, rfl, Mk, Kk⟩ := hrel
      have Fk := Kk.blk F3 (by simp)
      obtain ⟨f0, f1, f2, _, _, _, fs⟩ := cells3 Fk
      by_cases hlt : k < f.gs.length
      · obtain ⟨g, hg⟩ : ∃ g, f.gs[k]? = some g := ⟨f.gs[k], List.getElem?_eq_getElem hlt⟩
        have hro := HO.out.gr.old (KW.trans Kk) (by simp)
        obtain ⟨ad, hA, hc⟩ := hro k g hg
        have d0 := hc 0 _ rfl
        have d1 := hc 1 _ rfl
        have d2 := hc 2 _ rfl
        have d3 := hc 3 _ rfl
        rw [add_at _ _ _ (by omega)] at d1 d2 d3
        rw [Nat.add_zero] at d0
        rw [hA] at f1
        have HA := hid hA
        have HG := hid hg
        have gI := HO.out.gi g (List.mem_of_getElem? hg)
        have Ik := I3.keep Kk (by simp)
        have HS := hid (show gFind (t.gs.take f.gs.length) g.ru = some g by rw [HT.out.2.1, List.take_length]; exact gFind_self HGG.out hg)
        have HI := hid (And.intro gI Ik)
        clear hc hA hg hro gI Ik
        go_wp2_with fail
        refine (glyph_any t _ _ g.ru _ _ HI.out.2 HI.out.1.1 HS.out).mono ?_
        rintro e w5 ⟨rfl, K5⟩
        simp only [Option.getD_some, Option.isSome_some]
        have K6 := K5.alloc (.cells #[.int .i64 g.ru, .int .i64 g.wd, .int .i64 g.ht, .int .i64 g.dp] 45)
        have B6 := blk_new w5 (.cells #[.int .i64 g.ru, .int .i64 g.wd, .int .i64 g.ht, .int .i64 g.dp] 45)
        have e0 := cell_alloc' (K5.cell' d0 (by simp)) (.cells #[.int .i64 g.ru, .int .i64 g.wd, .int .i64 g.ht, .int .i64 g.dp] 45)
        have e1 := cell_alloc' (K5.cell' d1 (by simp)) (.cells #[.int .i64 g.ru, .int .i64 g.wd, .int .i64 g.ht, .int .i64 g.dp] 45)
        have e2 := cell_alloc' (K5.cell' d2 (by simp)) (.cells #[.int .i64 g.ru, .int .i64 g.wd, .int .i64 g.ht, .int .i64 g.dp] 45)
        have e3 := cell_alloc' (K5.cell' d3 (by simp)) (.cells #[.int .i64 g.ru, .int .i64 g.wd, .int .i64 g.ht, .int .i64 g.dp] 45)
        have F6 := K6.blk Fk (by simp)
        rw [HA.out] at F6
        clear d0 d1 d2 d3 f0 f1 f2 fs
        go_upto_region 15 with (fail)
        obtain ⟨kl, hkl⟩ := keyOf_ik HI.out.1.1
        generalize hW6 : w5.alloc (.cells #[.int .i64 g.ru, .int .i64 g.wd, .int .i64 g.ht, .int .i64 g.dp] 45) = W6 at *
        clear hW6
        obtain ⟨f0, f1, f2, _, _, _, fs⟩ := cells3 F6
        obtain ⟨b0, b1, b2, b3, _, _, _, _, bs⟩ := cells4 B6
        go_quiet (fail)
        have M6 := (Mk.keep K6 (by simp)).keep ((Keep.refl [] W6).drewN nq) (by simp)
        have hk1 : k < maxLen := by simp only [maxLen]; omega
        go_wp2_with (at_mapUpdate; (refine wpList_store_F rfl _ _ _ 47 rfl keyInt Try.underlying47 Try.underlying3 M6 hk1 (fun a b kl _ _ ha hb => ik_inj ha hb) g.ru HI.out.1.1 hkl g.wd (wfI HI.out.1.2.1) rfl rfl rfl ?_; intro w7 M7 G7))
        go_roundw
        case rel => exact ⟨k + 1, hlt, by go_num, M7.ext (fun r _ => (wOf_snoc HGG.out HG.out r).symm), (Kk.trans (K6.drewN nq)).then (grown_keep G7) (fun b hb => .inr (by simp at hb; omega))⟩
        case measure => simp [intOf]; omega
      · obtain rfl : k = f.gs.length := by omega
        rw [List.take_length] at Mk
        clear hlt hk
        have hlk := Mk.look keyInt Try.underlying47 Try.underlying3 (zeroInt _) hbi (keyOf_int_mk Try.underlying3 (wfI hbi))
        have hlk' : (Instr.lookup 47 (.map (some w3.heap.size)) (.int .i64 bi) true).run Try.prog wr = .ok (.tuple #[.int .i64 ((wOf f.gs bi).getD 0), .bool (gFind f.gs bi).isSome]) wr := hlk.trans (by unfold wOf; simp)
        clear hlk
        have HI := hid (I3.keep Kk (by simp))
        obtain ⟨o, ho⟩ : ∃ o, gFind f.gs bi = o := ⟨_, rfl⟩
        have HS := hid (show gFind (t.gs.take f.gs.length) bi = o by rw [HT.out.2.1, List.take_length]; exact ho)
        obtain ⟨b, hb⟩ : ∃ b, o.isSome = b := ⟨_, rfl⟩
        obtain ⟨go, hgo⟩ : ∃ go, o.getD GlyphX.zero = go := ⟨_, rfl⟩
        rw [ho, hb] at hlk'
        have HBB := hid (And.intro hb hgo)
        clear ho hb hgo
        go_wp2_with fail
        refine (glyph_any t _ _ bi o _ HI.out hbi HS.out).mono ?_
        rintro e w5 ⟨rfl, K5⟩
        rw [HBB.out.1, HBB.out.2]
        have K6 := Kk.trans (K5.alloc (.cells #[.int .i64 go.ru, .int .i64 go.wd, .int .i64 go.ht, .int .i64 go.dp] 45))
        have M6 := Mk.keep (K5.alloc (.cells #[.int .i64 go.ru, .int .i64 go.wd, .int .i64 go.ht, .int .i64 go.dp] 45)) (by simp)
        clear hlk' f0 f1 f2 fs Mk Kk Fk
        have F6 := K6.blk F3 (by simp)
        have fx := (cells3 F6).2.2.1
        have fy := (cells3 F6).2.2.2.2.2.2
        go_wp2_with fail
        clear fx fy
        generalize w5.alloc (.cells #[.int .i64 go.ru, .int .i64 go.wd, .int .i64 go.ht, .int .i64 go.dp] 45) = W6 at *
        go_loopw [15] (fun vk wr => ∃ k : Nat, k ≤ f.ps.length ∧ vk = .int .i64 k ∧ Keep [] W6 wr) (fun vk _ => f.ps.length - (intOf vk).toNat)
        case atStart => exact ⟨0, Nat.zero_le _, rfl, Keep.refl _ _⟩
        case round =>
          obtain ⟨k, hk, rfl, Kk⟩ := hrel
          have Fk := Kk.blk F6 (by simp)
          obtain ⟨f0, f1, f2, _, _, _, fs⟩ := cells3 Fk
          by_cases hlt : k < f.ps.length
          · obtain ⟨p, hp⟩ : ∃ p, f.ps[k]? = some p := ⟨f.ps[k], List.getElem?_eq_getElem hlt⟩
            have K3k := K6.trans Kk
            have hro := HO.out.pr.old (KW.trans K3k) (by simp)
            obtain ⟨ad, hA, hc⟩ := hro k p hp
            have d0 := hc 0 _ rfl
            have d1 := hc 1 _ rfl
            have d2 := hc 2 _ rfl
            have d3 := hc 3 _ rfl
            have d4 := hc 4 _ rfl
            rw [add_at _ _ _ (by omega)] at d1 d2 d3 d4
            rw [Nat.add_zero] at d0
            rw [hA] at f2
            have HA := hid hA
            have HP := hid hp
            have pI := hid (HO.out.pi_ p (List.mem_of_getElem? hp))
            have HSP := hid (show pFind (t.ps.take f.ps.length) (p.lf, p.rt) = some p by rw [HT.out.2.2, List.take_length]; exact pFind_self HGP.out hp)
            have hfine : fineX f.gs p = true := ((okP_at hp).1 (HGP.out k hlt)).1
            obtain ⟨a, b2, ga, gb, a1, a2, b1, b3, n1, n2, s1, s2⟩ := kern_fits HGW.out hfine
            have HAB := hid (And.intro ga gb)
            have D5 : decide (a.wd + p.kn < 0) = false := by simp; omega
            have D6 : decide (b2.wd + p.kn < 0) = false := by simp; omega
            have HIT := hid (I3.keep K3k (by simp))
            clear hc hA hp hro hfine ga gb
            go_wp2_with fail
            refine (pair_any t _ _ p.lf p.rt _ _ (HIT.out.keep ((Keep.refl [] _).alloc _) (by simp)) pI.out.1 pI.out.2.1 HSP.out).mono ?_
            rintro e w7 ⟨rfl, K7⟩
            simp only [Option.getD_some, Option.isSome_some]
            have K8 := (((Keep.refl [] wr).alloc (.cells #[.int .i64 p.lf, .int .i64 p.rt, .bool p.is, .int .i64 p.lg, .int .i64 p.kn] 52)).trans K7).alloc (.cells #[.int .i64 p.lf, .int .i64 p.rt, .bool p.is, .int .i64 p.lg, .int .i64 p.kn] 52)
            have B7 := blk_alloc (K7.blk (blk_new wr (.cells #[.int .i64 p.lf, .int .i64 p.rt, .bool p.is, .int .i64 p.lg, .int .i64 p.kn] 52)) (by simp)) (.cells #[.int .i64 p.lf, .int .i64 p.rt, .bool p.is, .int .i64 p.lg, .int .i64 p.kn] 52)
            have C7 := blk_new w7 (.cells #[.int .i64 p.lf, .int .i64 p.rt, .bool p.is, .int .i64 p.lg, .int .i64 p.kn] 52)
            have F8 := K8.blk Fk (by simp)
            have M8 := M6.keep (Kk.trans K8) (by simp)
            clear d0 d1 d2 d3 d4 f0 f1 f2 fs K7
            go_upto_region 27 with (fail)
            generalize w7.alloc (.cells #[.int .i64 p.lf, .int .i64 p.rt, .bool p.is, .int .i64 p.lg, .int .i64 p.kn] 52) = W8 at *
            generalize w7.heap.size = n7 at *
            generalize wr.heap.size = n6 at *
            obtain ⟨b0, b1', b2', b3, b4, _, _, _, _, _, bs⟩ := cells5 B7
            obtain ⟨c0, c1, c2, c3, c4, _, _, _, _, _, cs⟩ := cells5 C7
            have hl1 : (Instr.lookup 47 (.map (some w3.heap.size)) (.int .i64 p.lf) true).run Try.prog W8 = .ok (.tuple #[.int .i64 a.wd, .bool true]) W8 := (M8.look keyInt Try.underlying47 Try.underlying3 (zeroInt _) pI.out.1 (keyOf_int_mk Try.underlying3 (wfI pI.out.1))).trans (by unfold wOf; rw [HAB.out.1]; rfl)
            have hl2 : (Instr.lookup 47 (.map (some w3.heap.size)) (.int .i64 p.rt) true).run Try.prog W8 = .ok (.tuple #[.int .i64 b2.wd, .bool true]) W8 := (M8.look keyInt Try.underlying47 Try.underlying3 (zeroInt _) pI.out.2.1 (keyOf_int_mk Try.underlying3 (wfI pI.out.2.1))).trans (by unfold wOf; rw [HAB.out.2]; rfl)
            go_wp2_with fail
            go_roundw
            case rel => exact ⟨k + 1, hlt, by go_num, Kk.trans K8⟩
            case measure => simp [intOf]; omega
          · obtain rfl : k = f.ps.length := by omega
            have K9 := K6.trans Kk
            have I9 := I3.keep K9 (by simp)
            clear hk hlt Kk
            go_wp2_with fail
            refine (tfont_any t _ _ _ I9).mono ?_
            rintro e w7 ⟨A, c, B, d, rfl, O1, O2, K7⟩
            have r1 : Rd GlyphX.row 4 w7 A f.gs ∧ (A = none → f.gs.length = 0) := by
              obtain ⟨A', cap, e, _, hr, _⟩ := own_rd row4 O1
              simp at e
              obtain ⟨rfl, _⟩ := e
              rw [HT.out.2.1] at hr O1
              exact ⟨hr, own_none O1⟩
            have r2 : Rd PairX.row 5 w7 B f.ps ∧ (B = none → f.ps.length = 0) := by
              obtain ⟨A', cap, e, _, hr, _⟩ := own_rd row5 O2
              simp at e
              obtain ⟨rfl, _⟩ := e
              rw [HT.out.2.2] at hr O2
              exact ⟨hr, own_none O2⟩
            rw [HT.out.1, HT.out.2.1, HT.out.2.2]
            have hF7 : IsF w7 ⟨f.em, A, c, B, d, f.gs, f.ps⟩ := ⟨r1.1, r2.1, r1.2, r2.2, HF.out.gi, HF.out.pi_, HF.out.gl, HF.out.pl_⟩
            clear O1 O2 f0 f1 f2 fs
            go_wp2_with fail
            refine (new_ok ⟨f.em, A, c, B, d, f.gs, f.ps⟩ _ hF7 HC.out).mono ?_
            rintro e w8 ⟨u, rfl, I8, uem, ugs, ups, _, K8⟩
            have HU := hid (And.intro uem (And.intro ugs ups))
            have I8' : IsT w8 u f.gs.length f.ps.length := I8
            clear uem ugs ups I8
            have KA := (K9.trans K7).trans K8
            have F8 := KA.blk F3 (by simp)
            obtain ⟨f0, f1, f2, _, _, _, fs⟩ := cells3 F8
            have KF : Keep [] w w8 := KW.trans KA
            have G8 := HO.out.gr.old KF (by simp)
            have P8 := HO.out.pr.old KF (by simp)
            go_upto_region 34 with (fail)
            go_region_held3 (fun w' => w'.cell? ⟨w.heap.size, 0, none⟩ = some (.int .i64 f.em) ∧ w'.cell? ⟨w.heap.size, 1, none⟩ = some (.slice f.ga f.gs.length f.gc) ∧ w'.cell? ⟨w.heap.size, 2, none⟩ = some (.slice f.pa f.ps.length f.pc) ∧ Keep [] w8 w') ((go_split_ands; refine ⟨?_, ?_, ?_, ?_⟩ <;> (repeat (with_reducible first | assumption | refine cell_drew' ?_ | exact Keep.refl _ _ | refine Keep.drew ?_ | refine Keep.cell' (S := []) (by assumption) ?_ (by simp) | refine Keep.trans (S := []) ?_ (by assumption))))) ((first | (go_at_call 22; (with_reducible refine (tfont_any u _ _ _ (I8'.keep (S := []) (by repeat (with_reducible first | assumption | exact Keep.refl _ _ | refine Keep.drew ?_ | refine Keep.trans (S := []) ?_ (by assumption))) (by simp))).mono ?_); rintro e w9 ⟨A2, c2, B2, d2, rfl, P1, P2, K9'⟩; rw [HU.out.1, HU.out.2.1, HU.out.2.2] at *; obtain ⟨q1, q2⟩ := font_rd P1 P2) | (go_at_call 23; (with_reducible refine (same_same f.em A2 B2 f.ga f.pa c2 d2 f.gc f.pc f.gs f.ps _ (q1.old (S := []) (by repeat (with_reducible first | assumption | exact Keep.refl _ _ | refine Keep.drew ?_ | refine Keep.trans (S := []) ?_ (by assumption))) (by simp)) (q2.old (S := []) (by repeat (with_reducible first | assumption | exact Keep.refl _ _ | refine Keep.drew ?_ | refine Keep.trans (S := []) ?_ (by assumption))) (by simp)) (G8.old (S := []) (by repeat (with_reducible first | assumption | exact Keep.refl _ _ | refine Keep.drew ?_ | refine Keep.trans (S := []) ?_ (by assumption))) (by simp)) (P8.old (S := []) (by repeat (with_reducible first | assumption | exact Keep.refl _ _ | refine Keep.drew ?_ | refine Keep.trans (S := []) ?_ (by assumption))) (by simp)) HF.out.gl HF.out.pl_).mono ?_); rintro e wa ⟨rfl, Ka⟩)))
            go_wp2
            go_ret
            exact ⟨rfl, ((KF.drew.trans K9').trans Ka).below (Nat.le_refl _) (by simp)⟩

end Go.Proofs.Ythcfgechifogeaa
