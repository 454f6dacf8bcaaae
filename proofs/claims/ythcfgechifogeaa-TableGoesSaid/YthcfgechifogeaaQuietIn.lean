/- A region that draws its order and only reads, in a round of a range over func: one walk of the lexical order serves every order. -/
import Derived.OrdersIn
import Derived.CallsIn
import Derived.BigQuiet
import Derived.RangeFuncCalls
namespace Go.Proofs.Ythcfgechifogeaa
open Go

section
variable {P : Program} {ops : Array Oper} {C : World → Prop} {md : Region.Mode} {F : Fence} {n : Nat}

/-- No statement of this region is a defer. -/
def noDefer (ops : Array Oper) : Bool := ops.toList.all fun o => match o.op with | .defer _ => false | _ => true
theorem noDefer_spec (h : noDefer ops = true) {i : Nat} {o : Oper} (ho : ops[i]? = some o) : ∀ c, o.op ≠ .defer c := by
  intro c e
  unfold noDefer at h
  rw [List.all_eq_true] at h
  have := h o (by rw [Array.getElem?_eq_some_iff] at ho; obtain ⟨h1, rfl⟩ := ho; simp)
  rw [e] at this
  cases this

theorem wpIn_of_quiet (hF : ∀ f, F.fn f) (hd : F.depth.isSome = false) (hc : ∀ f args w R, Calls P f args w R → CallsIn F (n - 1) P f args w R) {o : Oper} {a : Act} {K : Act → Prop} {K' : Act → World → Prop} {Q' : Exit → Act → World → Prop} {w : World}
    (hnd : ∀ c, o.op ≠ .defer c) (hw : C w) (h : ∀ a w', C w' → K a → K' a w') (hh : o.quiet P a C K) : o.wpIn F n P a w K' Q' := by
  obtain ⟨v, h1, h2⟩ := hh
  have h3 := h1 w hw
  unfold Oper.quietAt at h3
  unfold Oper.wpIn
  refine ⟨fun f _ => hF f, ?_⟩
  rw [Oper.semAt_eq F.round a.eval o hnd]
  generalize (execOp a.eval o).run P w = r at *
  cases r with
  | ok m w' =>
    cases m <;> simp only [Oper.quietUpon] at h3 <;> simp only [Oper.uponIn]
    case value u =>
      obtain ⟨e1, e2⟩ := h3
      rw [e1, e2]
      exact h _ _ hw h2
    case skip =>
      obtain ⟨e1, e2⟩ := h3
      rw [e1, ← e2]
      exact h _ _ hw h2
    case enter f args =>
      obtain ⟨e1, hcc⟩ := h3
      rw [e1]
      refine ⟨fun e => (by rw [hd] at e; exact absurd e (by decide)), ?_⟩
      refine (hc _ _ _ _ hcc).mono ?_
      rintro e w'' ⟨rfl, hw''⟩
      exact h _ _ hw'' h2
  | halt x w' => simp only [Oper.quietUpon] at h3

theorem wpOpIn_of_qOp (hF : ∀ f, F.fn f) (hd : F.depth.isSome = false) (hc : ∀ f args w R, Calls P f args w R → CallsIn F (n - 1) P f args w R) (hnd : noDefer ops = true) {i : Nat} {a : Act} {K : Act → Prop} {K' : Act → World → Prop} {Q' : Exit → Act → World → Prop} {w : World}
    (hC : C w) (h : ∀ a w', C w' → K a → K' a w') (hh : qOp P ops C i K a) : wpOpIn F n P ops Q' i K' a w := by
  unfold qOp at hh
  unfold wpOpIn
  split
  · rename_i ho; simp only [ho] at hh; exact h _ _ hC hh
  · rename_i o ho
    simp only [ho] at hh
    split
    · rename_i hw; simp only [hw, if_true] at hh; exact wpIn_of_quiet hF hd hc (noDefer_spec hnd ho) hC h hh
    · rename_i hw; simp only [hw] at hh; exact ⟨fun f _ => hF f, h _ _ hC hh⟩

theorem wpAnyIn_of_quiet (hF : ∀ f, F.fn f) (hd : F.depth.isSome = false) (hc : ∀ f args w R, Calls P f args w R → CallsIn F (n - 1) P f args w R) (hnd : noDefer ops = true) {Q : Act → Prop} {Q' : Exit → Act → World → Prop} (hQ : ∀ a w, C w → Q a → Q' .normal a w) :
    ∀ (fuel : Nat) (listed : Array Bool) (a : Act) (w : World), C w → wpAnyQ P md ops C Q fuel listed a → wpAnyIn F n P md ops Q' fuel listed a w
  | 0, _, _, _, hw, h => ⟨h.1, hQ _ _ hw h.2⟩
  | fuel + 1, _, _, _, hw, h => ⟨fun h0 => hQ _ _ hw (h.1 h0), fun i hi => wpOpIn_of_qOp hF hd hc hnd hw (fun a' w' hw' => wpAnyIn_of_quiet hF hd hc hnd hQ fuel _ a' w' hw') (h.2 i hi)⟩

theorem wpIn_region_quiet (hF : ∀ f, F.fn f) (hd : F.depth.isSome = false) (hc : ∀ f args w R, Calls P f args w R → CallsIn F (n - 1) P f args w R) {id : Nat} {Q : Exit → Act → World → Prop} {a : Act} {w : World} {l : List Oper}
    (hnd : noDefer l.toArray = true) (hm : P.follows .mixedOrders = true) (hB : Region.lexB .any l.toArray = true)
    (h : wpQuiet P l.toArray (fun w' => ∃ k, w' = w.drewN k) (fun a' => ∀ w', (∃ k, w' = w.drewN k) → Q .normal a' w') l a) : (Code.region id l.toArray true).wpIn F n P Q a w := by
  simp only [Region.lexB, Bool.and_eq_true] at hB
  refine wpIn_region_any hm (wpAnyIn_of_quiet hF hd hc hnd (C := fun w' => ∃ k, w' = w.drewN k) (Q := fun a' => ∀ w', (∃ k, w' = w.drewN k) → Q .normal a' w') (fun _ w' hw' h => h w' hw') _ _ _ _ ⟨1, rfl⟩ ?_)
  have := wpAnyQ_lex (C := fun w' => ∃ k, w' = w.drewN k) (md := .any) hB.1 l 0 (Array.replicate l.length false) a (by simp) (by simpa using hB.2) h
  simpa using this
end

theorem calls_round {l n : Nat} {P : Program} {f : FuncId} {args : Array Value} {w : World} {R : Ending → World → Prop} (h : Calls P f args w R) : CallsIn (Fence.wide.inRound l) n P f args w R := CallsIn.inRound l (callsIn_wide.2 h)
theorem calls_round2 {l m n : Nat} {P : Program} {f : FuncId} {args : Array Value} {w : World} {R : Ending → World → Prop} (h : Calls P f args w R) : CallsIn ((Fence.wide.inRound l).inRound m) n P f args w R := CallsIn.inRound m (calls_round h)

open BigFrame in
macro "gi_quiet" : tactic => `(tactic|
  (refine wpIn_region_quiet (by intro _; trivial) (by rfl) (by intro _ _ _ _ h; first | exact calls_round h | exact calls_round2 h) (by kernel_rfl) (by kernel_rfl) (by kernel_rfl) ?_
   repeat (go_big_quiet_step (fail))
   refine wpQuiet_nil ?_
   intro _ hw'
   obtain ⟨$(Lean.mkIdent `nq):ident, hw''⟩ := hw'
   subst hw''))

end Go.Proofs.Ythcfgechifogeaa
