/- Font: the reader's bounds, by contracts. -/
import Derived.Test.YthcfgechifogeaaFnByte
namespace Go.Proofs.Ythcfgechifogeaa
open Go.RowKit Go.Maps
set_option linter.unusedSimpArgs false
set_option linter.unusedVariables false

theorem ret_b {a b : Bool} {w w' : World} (h : a = b) (k : Keep [] w w') : Ending.returned (.bool a) = .returned (.bool b) ∧ Keep [] w w' := ⟨by rw [h], k⟩

theorem to_at (lo hi : Int) (w : World) : Calls Try.prog 80 #[.int .i64 lo, .int .i64 hi] w fun e w' =>
    e = .returned (.func (.func 88) #[] #[.pointer (some ⟨w.heap.size, 0, none⟩), .pointer (some ⟨w.heap.size + 1, 0, none⟩)]) ∧ w' = (w.alloc (.cells #[.int .i64 lo] 3)).alloc (.cells #[.int .i64 hi] 3) := by
  have hmf := makeFunc_run
  go_enter Try.func80, Try.ntmps80
  go_wp2
  go_ret
  exact ⟨rfl, rfl⟩

set_option maxRecDepth 100000 in
set_option maxHeartbeats 1000000 in
theorem to1_any (n lo hi b1 b2 : Nat) (w : World) (h1 : w.cell? ⟨b1, 0, none⟩ = some (.int .i64 lo)) (h2 : w.cell? ⟨b2, 0, none⟩ = some (.int .i64 hi)) :
    Calls Try.prog 88 #[.int .i64 n, .pointer (some ⟨b1, 0, none⟩), .pointer (some ⟨b2, 0, none⟩)] w fun e w' => e = .returned (.bool (toR lo hi n)) ∧ Keep [] w w' := by
  go_enter Try.func88, Try.ntmps88
  go_wp2
  repeat (go_quiet (fail); try go_wp2)
  all_goals
    go_ret
    refine ret_b ?_ (Keep.refl _ _)
    rw [Bool.eq_iff_iff]
    simp [toR]
    omega

set_option maxRecDepth 100000 in
set_option maxHeartbeats 1000000 in
theorem rune1_any (n b : Nat) (last : Int) (w : World) (hn : n < 4294967296) (h : w.cell? ⟨b, 0, none⟩ = some (.int .i64 last)) :
    Calls Try.prog 89 #[.int .i64 n, .pointer (some ⟨b, 0, none⟩)] w fun e w' => e = .returned (.bool (runeR last n)) ∧ Keep [] w w' := by
  go_enter Try.func89, Try.ntmps89
  go_wp2
  repeat (go_quiet (fail); try go_wp2)
  all_goals
    go_ret
    refine ret_b ?_ (Keep.refl _ _)
    rw [Bool.eq_iff_iff]
    simp [runeR]
    omega

set_option maxRecDepth 100000 in
set_option maxHeartbeats 1000000 in
theorem kern1_any (n b : Nat) (least : Int) (w : World) (hn : n < 4294967296) (h : w.cell? ⟨b, 0, none⟩ = some (.int .i64 least)) :
    Calls Try.prog 93 #[.int .i64 n, .pointer (some ⟨b, 0, none⟩)] w fun e w' => e = .returned (.bool (kernR least n)) ∧ Keep [] w w' := by
  go_enter Try.func93, Try.ntmps93
  go_wp2
  repeat (go_quiet (fail); try go_wp2)
  all_goals
    go_ret
    refine ret_b ?_ (Keep.refl _ _)
    rw [Bool.eq_iff_iff]
    simp [kernR]
    omega

set_option maxRecDepth 100000 in
set_option maxHeartbeats 1000000 in
theorem sum1_any (n b want : Nat) (w : World) (hn : n < 4294967296) (hw : want < 4294967296) (h : w.cell? ⟨b, 0, none⟩ = some (.int .u32 want)) :
    Calls Try.prog 83 #[.int .i64 n, .pointer (some ⟨b, 0, none⟩)] w fun e w' => e = .returned (.bool (n == want)) ∧ Keep [] w w' := by
  go_enter Try.func83, Try.ntmps83
  go_wp2
  repeat (go_quiet (fail); try go_wp2)
  all_goals
    go_ret
    refine ret_b ?_ (Keep.refl _ _)
    rw [Bool.eq_iff_iff]
    simp
    try omega

/-- The reader with its lists and its map. -/
structure RdS (w : World) (X : RX) (base : Nat) (p : Nat) (k a em : Int) (gs : List GlyphX) (ps : List PairX) (A : Option Addr) (c : Nat) (B : Option Addr) (d : Nat) : Prop where
  rd : IsRd w X p k a em (.slice A gs.length c) (.slice B ps.length d)
  gown : w.ownsRow base 45 4 (.slice A gs.length c) gs.length (gs.flatMap GlyphX.row)
  pown : w.ownsRow base 52 5 (.slice B ps.length d) ps.length (ps.flatMap PairX.row)
  map : MapF Try.prog 3 3 ik InI w X.mb gs.length (fun r => (gFind gs r).map (·.wd))
  meter : IsM w X.g (mAt X.S X.C p)
  bR : base ≤ X.rb
  bM : base ≤ X.mb
  bG : X.g < base
  ps_ : (p : Int) ≤ X.S
  sz : p ≤ X.s.size

/-- Of what was there ahead of base, only the meter may have changed. -/
structure Fr (base g : Nat) (w w' : World) : Prop where
  os : w'.os = w.os
  tape : w'.tape = w.tape
  output : w'.output = w.output
  size : w.heap.size ≤ w'.heap.size
  block : ∀ k, k < base → k ≠ g → w'.heap[k]? = w.heap[k]?
theorem Fr.refl (base g : Nat) (w : World) : Fr base g w w := ⟨rfl, rfl, rfl, Nat.le_refl _, fun _ _ _ => rfl⟩
theorem Fr.trans {base g : Nat} {a b c : World} (h : Fr base g a b) (k : Fr base g b c) : Fr base g a c := ⟨k.os.trans h.os, k.tape.trans h.tape, k.output.trans h.output, Nat.le_trans h.size k.size, fun i hi hn => (k.block i hi hn).trans (h.block i hi hn)⟩
theorem Keep.fr {S : List Nat} {w w' : World} (K : Keep S w w') {base g : Nat} (hb : base ≤ w.heap.size) (hS : ∀ b, b ∈ S → b = g ∨ base ≤ b) : Fr base g w w' :=
  ⟨K.os, K.tape, K.output, K.size, fun k hk hn => K.block k (by omega) (fun hm => by rcases hS k hm with e | e <;> omega)⟩

theorem RdS.lt {w : World} {X : RX} {base p : Nat} {k a em : Int} {gs : List GlyphX} {ps : List PairX} {A B : Option Addr} {c d : Nat} (h : RdS w X base p k a em gs ps A c B d) : base ≤ w.heap.size ∧ X.rb < w.heap.size ∧ X.mb < w.heap.size := ⟨Nat.le_trans h.bR (Nat.le_of_lt (blk_lt h.rd)), blk_lt h.rd, h.map.lt⟩
theorem RdS.keep {w w' : World} {X : RX} {base p : Nat} {k a em : Int} {gs : List GlyphX} {ps : List PairX} {A B : Option Addr} {c d : Nat} (h : RdS w X base p k a em gs ps A c B d) {S : List Nat} (K : Keep S w w') (hr : X.rb ∉ S) (hg : X.g ∉ S) (hm : X.mb ∉ S) (hG : ∀ b, b ∈ S → some b ≠ (Value.slice A gs.length c).ownBlock) (hP : ∀ b, b ∈ S → some b ≠ (Value.slice B ps.length d).ownBlock) : RdS w' X base p k a em gs ps A c B d :=
  ⟨h.rd.keep K hr, own_keep h.gown K hG, own_keep h.pown K hP, h.map.keep K hm, h.meter.keep K hg, h.bR, h.bM, h.bG, h.ps_, h.sz⟩
/-- The reader reads on: its lists and its map stay. -/
theorem RdS.read {w w' : World} {X : RX} {base p q : Nat} {k a em : Int} {gs : List GlyphX} {ps : List PairX} {A B : Option Addr} {c d : Nat} (h : RdS w X base p k a em gs ps A c B d) (K : Keep [X.g, X.rb] w w') (r : IsRd w' X q k a em (.slice A gs.length c) (.slice B ps.length d)) (m : IsM w' X.g (mAt X.S X.C q)) (hp : (q : Int) ≤ X.S) (hs : q ≤ X.s.size) : RdS w' X base q k a em gs ps A c B d :=
  ⟨r, own_keep h.gown K (fun b hb => by simp at hb; rcases hb with rfl | rfl; exact own_ne h.gown h.meter (by decide); exact own_ne h.gown h.rd (by decide)),
    own_keep h.pown K (fun b hb => by simp at hb; rcases hb with rfl | rfl; exact own_ne h.pown h.meter (by decide); exact own_ne h.pown h.rd (by decide)),
    h.map.keep K (by simp; exact ⟨fun e => by have := h.bG; have := h.bM; omega, fun e => by
      obtain ⟨D, ⟨es, clock, hh, _⟩, _⟩ := h.map
      have hr : w.heap[X.rb]? = _ := h.rd
      rw [← e, hh] at hr
      cases hr⟩), m, h.bR, h.bM, h.bG, hp, hs⟩
end Go.Proofs.Ythcfgechifogeaa
