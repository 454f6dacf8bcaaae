/- A cheaper check that a drawn region's order is harmless: what the region tactics ask of the kernel, over the list itself. -/
import Derived.Test.YtgelccenbceeoaaProg
import Derived.Still
import Derived.Deep.Quiet
import Derived.Deep.QuietTactic
import Derived.BigQuiet
namespace Go.Proofs.Ytgelccenbceeoaa
set_option linter.unusedVariables false
set_option linter.unusedSimpArgs false

def cheapFrom (ops : List Oper) : Nat → List Oper → Bool
  | _, [] => true
  | k, o :: rest => (o.after.toList.all fun e => !Region.binds .any e || decide (e.on < k)) && (rest.all fun oj => (oj.after.toList.any fun e => Region.binds .any e && e.on == k) || o.apart ops.toArray oj) && cheapFrom ops (k + 1) rest

def cheapB (ops : List Oper) : Bool := Region.noSelect ops.toArray && cheapFrom ops 0 ops

theorem lexFrom_of (ops : List Oper) : ∀ (rest : List Oper) (k : Nat) (listed : Array Bool), k + rest.length = ops.length → (∀ j, rest[j]? = ops[k + j]?) → listed.size = ops.length → (∀ j, j < ops.length → listed[j]? = some (decide (j < k))) →
    cheapFrom ops k rest = true → Region.lexFrom .any ops.toArray rest.length k listed = true
  | [], k, listed, hk, _, hz, hi, _ => by
    simp only [List.length_nil, Region.lexFrom, Region.ready, List.isEmpty_iff, List.filter_eq_nil_iff, List.mem_range]
    intro i hn
    have hn' : i < ops.length := by simpa using hn
    have h := hi i hn'
    have hik : i < k := by simp at hk; omega
    simp [Array.getD_eq_getD_getElem?, h, hik]
  | o :: rest, k, listed, hk, hl, hz, hi, hc => by
    simp only [cheapFrom, Bool.and_eq_true] at hc
    obtain ⟨⟨h1, h2⟩, h3⟩ := hc
    simp only [List.length_cons] at hk
    have h0 : ops[k]? = some o := by simpa using (hl 0).symm
    have hkn : k < ops.length := by omega
    simp only [List.length_cons, Region.lexFrom, Bool.and_eq_true]
    refine ⟨⟨?_, ?_⟩, ?_⟩
    · rw [List.contains_iff_mem]
      unfold Region.ready
      rw [List.mem_filter]
      refine ⟨by simpa using hkn, ?_⟩
      have hk' := hi k hkn
      simp only [Array.getD_eq_getD_getElem?, hk', List.getElem?_toArray, h0, Option.map_some, Option.getD_some, Nat.lt_irrefl, decide_false, Bool.not_false, Bool.true_and]
      rw [Array.all_eq_true']
      intro e he
      have he' := List.all_eq_true.1 h1 e (by simpa using he)
      simp only [Bool.or_eq_true, decide_eq_true_eq] at he'
      rcases he' with he' | he'
      · simp only [Bool.or_eq_true]; exact .inl he'
      · rw [hi e.on (by omega)]
        simp [he']
    · unfold Region.free
      simp only [List.getElem?_toArray, h0, List.all_eq_true, List.mem_range]
      intro j hj
      have hj' : j < ops.length := by simpa using hj
      by_cases hjk : j = k
      · simp [hjk]
      · by_cases hlt : j < k
        · simp [Array.getD_eq_getD_getElem?, hi j hj', hlt]
        · obtain ⟨i, rfl⟩ : ∃ i, j = k + (i + 1) := ⟨j - k - 1, by omega⟩
          have hr := hl (i + 1)
          rw [List.getElem?_cons_succ] at hr
          obtain ⟨oj, hoj⟩ : ∃ oj, ops[k + (i + 1)]? = some oj := ⟨_, List.getElem?_eq_getElem hj'⟩
          rw [hoj] at hr
          have h4 := List.all_eq_true.1 h2 oj (List.mem_of_getElem? hr)
          simp only [Bool.or_eq_true, hoj]
          refine .inr ?_
          simp only [Bool.or_eq_true] at h4
          rcases h4 with h4 | h4
          · refine .inl ?_
            rw [List.any_eq_true] at h4
            obtain ⟨e, he, hb⟩ := h4
            rw [Array.any_eq_true']
            exact ⟨e, by simpa using he, hb⟩
          · exact .inr h4
    · refine lexFrom_of ops rest (k + 1) _ (by omega) (fun j => ?_) (by simpa using hz) (fun j hj => ?_) h3
      · have := hl (j + 1)
        rw [List.getElem?_cons_succ] at this
        rw [this]
        congr 1
        omega
      · rw [Array.getElem?_setIfInBounds]
        split
        · rename_i e
          subst e
          have : k < listed.size := by omega
          simp [this]
        · rename_i e
          rw [hi j hj]
          congr 1
          have : (j < k + 1) = (j < k) := by
            apply propext
            omega
          simp only [this]

theorem lexB_of (ops : List Oper) (h : cheapB ops = true) : Region.lexB .any ops.toArray = true := by
  simp only [cheapB, Bool.and_eq_true] at h
  simp only [Region.lexB, Bool.and_eq_true]
  refine ⟨h.1, ?_⟩
  exact lexFrom_of ops ops 0 (Array.replicate ops.toArray.size false) (by simp) (by simp) (by simp) (fun j hj => by simp [hj]) h.2

/-- A drawn region whose operations only read, walked in the text's order. -/
theorem wp_region_still_cheap {P : Program} {id : Nat} {Q : Exit → Act → World → Prop} {a : Act} {w : World} {l : List Oper} (hm : P.follows .mixedOrders = true) (hB : cheapB l = true)
    (h : wpStill P l.toArray w.drew (fun a' => Q .normal a' w.drew) l a) : (Code.region id l.toArray true).wp P Q a w :=
  wp_region_still_lit hm (lexB_of l hB) h

theorem wp_region_quiet_cheap {P : Program} {id : Nat} {Q : Exit → Act → World → Prop} {a : Act} {w : World} {l : List Oper} (hm : P.follows .mixedOrders = true) (hB : cheapB l = true)
    (h : wpQuiet P l.toArray (fun w' => ∃ n, w' = w.drewN n) (fun a' => ∀ w', (∃ n, w' = w.drewN n) → Q .normal a' w') l a) : (Code.region id l.toArray true).wp P Q a w :=
  wp_region_quiet_lit hm (lexB_of l hB) h

/-- An operation that is wanted, the guard reckoned by the kernel alone. -/
theorem wpStill_yes {P : Program} {ops : Array Oper} {w : World} {Q : Act → Prop} {a : Act} {o : Oper} {rest : List Oper} (hw : Region.wanted o (yielded ops a.tmps) = true)
    (h : ∀ K : Act → Prop, (∀ a, wpStill P ops w Q rest a → K a) → o.still P a w K) : wpStill P ops w Q (o :: rest) a :=
  wpStill_step (fun K hK => by rw [if_pos hw]; exact h K hK)
/-- One that is not. -/
theorem wpStill_no {P : Program} {ops : Array Oper} {w : World} {Q : Act → Prop} {a : Act} {o : Oper} {rest : List Oper} (hw : Region.wanted o (yielded ops a.tmps) = false)
    (h : wpStill P ops w Q rest (a.put o.dst undef)) : wpStill P ops w Q (o :: rest) a :=
  wpStill_step (fun K hK => by rw [hw]; exact hK _ h)

end Go.Proofs.Ytgelccenbceeoaa
