/- Font: what a font's bytes say: the reading, as plain functions. -/
import Derived.Test.YthcfgechifogeaaFnLaid
import Derived.Test.YthcfgechifogeaaMeter
namespace Go.Proofs.Ythcfgechifogeaa
set_option linter.unusedSimpArgs false
set_option linter.unusedVariables false

/-- A reading: a fault (its kind, its place, how many bytes were read), or a value and how many bytes were read. -/
abbrev PR (α : Type) := Except (Int × Int × Nat) (α × Nat)
def PR.bind {α β : Type} (x : PR α) (f : α → Nat → PR β) : PR β :=
  match x with
  | .error e => .error e
  | .ok (v, p) => f v p

def byteX (bs : List Nat) (S : Int) (p : Nat) : PR Nat :=
  match bs[p]? with
  | none => .error (60, p, p)
  | some c => if S ≤ p then .error (20, 0, p) else .ok (c, p + 1)
def rawX (bs : List Nat) (S : Int) : Nat → Nat → Nat → PR Nat
  | 0, n, p => .ok (n, p)
  | W + 1, n, p => (byteX bs S p).bind fun c q => rawX bs S W (n * 256 + c) q
def rightX (r : Bool) (k : Int) (n p : Nat) : PR Nat := if r = true then .ok (n, p) else .error (k, (p : Int) - 1, p)
def numX (bs : List Nat) (S : Int) (W : Nat) (right : Nat → Bool) (p : Nat) : PR Nat := (rawX bs S W 0 p).bind fun n q => rightX (right n) 60 n q

def runeR (last : Int) (n : Nat) : Bool := decide (last < (n : Int)) && decide (n ≤ 1114111) && (decide (n < 55296) || decide (57343 < n))
def toR (lo hi : Nat) (n : Nat) : Bool := decide (lo ≤ n) && decide (n ≤ hi)
def lastG (gs : List GlyphX) : Int := match gs.getLast? with | some g => g.ru | none => -1
def lastP (ps : List PairX) : Int × Int := match ps.getLast? with | some p => (p.lf, p.rt) | none => (-1, -1)
def knownR (gs : List GlyphX) (n : Nat) : Bool := (gFind gs n).isSome
def wdOf (gs : List GlyphX) (r : Int) : Int := ((gFind gs r).map (·.wd)).getD 0
def leftR (gs : List GlyphX) (a : Int × Int) (n : Nat) : Bool := knownR gs n && decide (a.1 ≤ (n : Int))
def rightR (gs : List GlyphX) (a : Int × Int) (lf : Int) (n : Nat) : Bool := knownR gs n && (decide (a.1 < lf) || decide (a.2 < (n : Int)))
def kernR (least : Int) (n : Nat) : Bool := decide (n ≠ 32768) && decide ((n : Int) - 32768 ≤ 16384) && decide (least ≤ (n : Int) - 32768)

def glyphX (bs : List Nat) (S : Int) (last : Int) (p : Nat) : PR GlyphX :=
  (numX bs S 3 (runeR last) p).bind fun ru p => (numX bs S 2 (toR 0 16384) p).bind fun wd p => (numX bs S 2 (toR 0 16384) p).bind fun ht p => (numX bs S 2 (toR 0 16384) p).bind fun dp p => .ok (⟨ru, wd, ht, dp⟩, p)
def pairTailX (bs : List Nat) (S : Int) (gs : List GlyphX) (lf rt : Nat) (kind p : Nat) : PR PairX :=
  if kind = 1 then (numX bs S 3 (knownR gs) p).bind fun lg p => .ok (⟨lf, rt, true, lg, 0⟩, p)
  else (numX bs S 2 (kernR (-(min (wdOf gs lf) (wdOf gs rt)))) p).bind fun k p => .ok (⟨lf, rt, false, 0, (k : Int) - 32768⟩, p)
def pairX (bs : List Nat) (S : Int) (gs : List GlyphX) (a : Int × Int) (p : Nat) : PR PairX :=
  (numX bs S 3 (leftR gs a) p).bind fun lf p => (numX bs S 3 (rightR gs a lf) p).bind fun rt p => (numX bs S 1 (toR 1 2) p).bind fun kind p => pairTailX bs S gs lf rt kind p
def glyphsX (bs : List Nat) (S : Int) : Nat → List GlyphX → Nat → PR (List GlyphX)
  | 0, gs, p => .ok (gs, p)
  | k + 1, gs, p => (glyphX bs S (lastG gs) p).bind fun g p => glyphsX bs S k (gs ++ [g]) p
def pairsX (bs : List Nat) (S : Int) (gs : List GlyphX) : Nat → List PairX → Nat → PR (List PairX)
  | 0, ps, p => .ok (ps, p)
  | k + 1, ps, p => (pairX bs S gs (lastP ps) p).bind fun x p => pairsX bs S gs k (ps ++ [x]) p
def letterX (bs : List Nat) (S : Int) (c : Nat) (p : Nat) : PR Unit := (byteX bs S p).bind fun x q => if x = c then .ok ((), q) else .error (60, (q : Int) - 1, q)
def endX (bs : List Nat) (S : Int) (p : Nat) : PR Unit := if p < bs.length then (byteX bs S p).bind fun _ q => .error (60, (q : Int) - 1, q) else .ok ((), p)
def sumNumX (bs : List Nat) (S : Int) (want : Nat) (p : Nat) : PR Nat := (rawX bs S 4 0 p).bind fun n q => rightX (n == want) 61 n q
def tailX (bs : List Nat) (S : Int) (p : Nat) : PR Unit := (sumNumX bs S (sumX (bs.take p)) p).bind fun _ p => endX bs S p
def bodyX (bs : List Nat) (S : Int) (p : Nat) : PR (Int × List GlyphX × List PairX) :=
  (numX bs S 2 (toR 1 16384) p).bind fun em p => (numX bs S 2 (toR 0 1024) p).bind fun n p => (glyphsX bs S n [] p).bind fun gs p => (numX bs S 2 (toR 0 4096) p).bind fun m p => (pairsX bs S gs m [] p).bind fun ps p =>
    (tailX bs S p).bind fun _ p => .ok (((em : Int), gs, ps), p)
def readX (bs : List Nat) (S : Int) : PR (Int × List GlyphX × List PairX) :=
  (letterX bs S 80 0).bind fun _ p => (letterX bs S 70 p).bind fun _ p => (letterX bs S 49 p).bind fun _ p => bodyX bs S p

/-- The meter where so many bytes were read. -/
def mAt (S C : Int) (p : Nat) : MS := ⟨p, p, S, 0, 0, C, 0⟩
def mBad (S C : Int) (k : Int) (p : Nat) : MS := { mAt S C p with rf := if k = 20 then 20 else 0 }
def mHeld (S C : Int) (p : Nat) (n : Int) : MS := { mAt S C p with cn := n, cp := n }
def getX (bs : List Nat) (S C : Int) : Option (Int × List GlyphX × List PairX) × Int × Int × MS :=
  match readX bs S with
  | .error (k, a, p) => (none, k, a, mBad S C k p)
  | .ok (x, p) => if ((x.2.1.length + x.2.2.length : Nat) : Int) ≤ C then (some x, 0, 0, mHeld S C p (x.2.1.length + x.2.2.length : Nat)) else (none, 21, 0, { mHeld S C p C with rf := 21 })

theorem mAt_step {S C : Int} {p : Nat} (h : (p : Int) < S) : (mAt S C p).step 1 = (true, mAt S C (p + 1)) := by
  unfold MS.step mAt
  simp only []
  rw [if_neg (by simp), if_neg (by omega)]
  unfold MS.addS
  simp only [Int.natCast_add]
  rw [if_pos (by omega)]
  rfl
theorem mAt_over {S C : Int} {p : Nat} (h : S ≤ (p : Int)) (h' : (p : Int) ≤ S) : (mAt S C p).step 1 = (false, mBad S C 20 p) := by
  unfold MS.step mBad mAt
  simp only []
  rw [if_neg (by simp), if_pos (by omega)]
  unfold MS.addS
  have e : S - (p : Int) = 0 := by omega
  simp only [e, Int.add_zero]
  rw [if_neg (by omega), if_pos trivial]
theorem mAt_ok {S C : Int} {p : Nat} (h : (p : Int) ≤ S) (hS : S ≤ 9223372036854775807) (h0 : 0 ≤ C) (hC : C ≤ 9223372036854775807) : (mAt S C p).ok := by unfold MS.ok mAt; simp only []; omega
theorem mHeld_hold {S C : Int} {p : Nat} {n : Int} (h0 : 0 ≤ n) (h : n < C) : (mHeld S C p n).hold 1 = (true, mHeld S C p (n + 1)) := by
  unfold MS.hold mHeld mAt
  simp only []
  rw [if_neg (by simp), if_neg (by omega)]
  unfold MS.addC
  simp only []
  rw [if_pos (by omega)]
theorem mHeld_over {S C : Int} {p : Nat} {n : Int} (h0 : 0 ≤ n) (h : n = C) : (mHeld S C p n).hold 1 = (false, { mHeld S C p C with rf := 21 }) := by
  subst h
  unfold MS.hold mHeld mAt
  simp only []
  rw [if_neg (by simp), if_pos (by omega)]
  unfold MS.addC
  simp only [Int.sub_self, Int.add_zero]
  rw [if_neg (by omega)]
theorem mHeld_ok {S C : Int} {p : Nat} {n : Int} (h : (p : Int) ≤ S) (hS : S ≤ 9223372036854775807) (h0 : 0 ≤ n) (h1 : n ≤ C) (hC : C ≤ 9223372036854775807) : (mHeld S C p n).ok := by unfold MS.ok mHeld mAt; simp only []; omega

/-- The bytes of a string. -/
def LB (s : ByteArray) : List Nat := s.data.toList.map UInt8.toNat
theorem LB_len (s : ByteArray) : (LB s).length = s.size := by unfold LB; rw [List.length_map, Array.length_toList]; rfl
theorem LB_all (s : ByteArray) : AllB (LB s) := fun x hx => by
  obtain ⟨b, _, rfl⟩ := List.mem_map.1 hx
  exact b.toNat_lt
theorem SB_LB (s : ByteArray) : SB (LB s) = s := by
  unfold SB LB
  rw [List.map_map]
  have : (UInt8.ofNat ∘ UInt8.toNat) = id := by funext x; simp
  rw [this, List.map_id, Array.toArray_toList]
theorem LB_SB {l : List Nat} (h : AllB l) : LB (SB l) = l := by
  unfold LB SB
  show (List.map UInt8.ofNat l).toArray.toList.map UInt8.toNat = l
  rw [List.map_map]
  conv => rhs; rw [← List.map_id l]
  apply List.map_congr_left
  intro x hx
  simp [Nat.mod_eq_of_lt (h x hx)]
theorem LB_at {s : ByteArray} {i : Nat} (h : i < s.size) : ((s[i]'h).toNat : Nat) = (LB s)[i]'(by rw [LB_len]; exact h) := by
  simp [LB]
  rfl

end Go.Proofs.Ythcfgechifogeaa
