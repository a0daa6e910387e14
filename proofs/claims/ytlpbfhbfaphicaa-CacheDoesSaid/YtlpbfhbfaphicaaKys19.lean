/- Layer 19 (cache): what a round of a range over a function does, by the plain walk's words. -/
import Derived.Test.YtlpbfhbfaphicaaVal19
import Derived.OrdersIn
namespace Go.Proofs.Ytlpbfhbfaphicaa.C19
open Go Go.RowKit Go.Shelf Go.Proofs.YtlpbfhbfaphicaaW.PrintWords Go.Proofs.Ytlpbfhbfaphicaa.XA

set_option linter.unusedVariables false
section
variable {P : Program} {ops : Array Oper} {Q : Exit → Act → World → Prop} {l n : Nat}
theorem rowsIn_of {row : String} {args : Array Value} {w : World} {R : Value → World → Prop} (h : Rows P row args w R) : RowsIn Fence.wide n P row args w R := by
  intro c cs hr
  obtain ⟨v, w', hq, hs⟩ := h c cs
  exact ⟨v, w', hq, stepsIn_wide.2 hs⟩
theorem operIn_of {o : Oper} {a : Act} {w : World} {K : Act → World → Prop} (hd : ∀ c, o.op ≠ .defer c) (h : o.wp P a w K Q) : o.wpIn (Fence.wide.inRound l) n P a w K Q := by
  unfold Oper.wpIn
  refine ⟨fun _ _ => trivial, ?_⟩
  rw [show (Fence.wide.inRound l).round = some l from rfl, Oper.semAt_some l _ _ hd]
  unfold Oper.wp at h
  generalize (execOp a.eval o).run P w = r at h ⊢
  cases r with
  | ok x w' =>
    cases x <;> first
      | exact h
      | exact h.elim
      | exact ⟨fun e => (by cases e), CallsIn.inRound l (callsIn_wide.2 h)⟩
      | exact ⟨fun e => (by cases e), rowsIn_of h⟩
  | halt x w' => cases x <;> first | exact h | exact h.elim
/-- One operation, by the plain walk's words. -/
def opX (P : Program) (ops : Array Oper) (Q : Exit → Act → World → Prop) (i : Nat) (K : Act → World → Prop) (a : Act) (w : World) : Prop :=
  match ops[i]? with
  | none => K a w
  | some o => if Region.wanted o (yielded ops a.tmps) = true then o.wp P a w K Q else K (a.put o.dst undef) w
theorem opX_step {i : Nat} {o : Oper} {K : Act → World → Prop} {a : Act} {w : World} (ho : ops[i]? = some o)
    (h : ∀ K' : Act → World → Prop, (∀ a w, K a w → K' a w) → if Region.wanted o (yielded ops a.tmps) = true then o.wp P a w K' Q else K' (a.put o.dst undef) w) : opX P ops Q i K a w := by
  unfold opX
  rw [ho]
  exact h K (fun _ _ h => h)
theorem opX_mono {i : Nat} {o : Oper} {K K' : Act → World → Prop} {a : Act} {w : World} (ho : ops[i]? = some o) (hK : ∀ a w, K a w → K' a w) (h : opX P ops Q i K a w) : if Region.wanted o (yielded ops a.tmps) = true then o.wp P a w K' Q else K' (a.put o.dst undef) w := by
  unfold opX at h
  rw [ho] at h
  by_cases hw : Region.wanted o (yielded ops a.tmps) = true
  · have h2 : o.wp P a w K Q := by
      have h3 : (if Region.wanted o (yielded ops a.tmps) = true then o.wp P a w K Q else K (a.put o.dst undef) w) := h
      rwa [if_pos hw] at h3
    rw [if_pos hw]
    exact Oper.wp_mono hK h2
  · have h2 : K (a.put o.dst undef) w := by
      have h3 : (if Region.wanted o (yielded ops a.tmps) = true then o.wp P a w K Q else K (a.put o.dst undef) w) := h
      rwa [if_neg hw] at h3
    rw [if_neg hw]
    exact hK _ _ h2
/-- What is kept by each operation that may come up leads, in a round, to what follows. -/
theorem wpAnyIn_inv (hd : ∀ (i : Nat) (o : Oper), ops[i]? = some o → ∀ c, o.op ≠ .defer c) (Inv : Array Bool → Act → World → Prop)
    (step : ∀ lb a w i, Inv lb a w → i ∈ Region.ready .any ops lb → opX P ops Q i (Inv (lb.setIfInBounds i true)) a w)
    (done : ∀ lb a w, Inv lb a w → Region.ready .any ops lb = [] → Q .normal a w) : ∀ (fuel : Nat) (lb : Array Bool) (a : Act) (w : World), left lb ≤ fuel → Inv lb a w → wpAnyIn (Fence.wide.inRound l) n P .any ops Q fuel lb a w
  | 0, lb, a, w, hf, h => by
    have hr : Region.ready .any ops lb = [] := List.eq_nil_iff_forall_not_mem.2 fun i hi => by
      obtain ⟨h1, h2⟩ := ready_free hi
      have := left_set h1 h2
      omega
    exact ⟨hr, done lb a w h hr⟩
  | fuel + 1, lb, a, w, hf, h => by
    refine ⟨fun hr => done lb a w h hr, fun i hi => ?_⟩
    obtain ⟨h1, h2⟩ := ready_free hi
    have hlt := left_set h1 h2
    have hio : i < ops.size := by
      unfold Region.ready at hi
      exact List.mem_range.1 (List.mem_filter.1 hi).1
    have hop : ops[i]? = some ops[i] := Array.getElem?_eq_getElem hio
    have hs := opX_mono (K' := wpAnyIn (Fence.wide.inRound l) n P .any ops Q fuel (lb.setIfInBounds i true)) hop (fun a' w' h' => wpAnyIn_inv hd Inv step done fuel _ a' w' (by omega) h') (step lb a w i h hi)
    refine wpOpIn_step hop fun K' hK' => ?_
    by_cases hw : Region.wanted ops[i] (yielded ops a.tmps) = true
    · rw [if_pos hw] at hs ⊢
      exact Oper.wpIn_mono hK' (operIn_of (hd i _ hop) hs)
    · rw [if_neg hw] at hs ⊢
      exact ⟨fun _ _ => trivial, hK' _ _ hs⟩
theorem wpIn_region_inv {id : Nat} {a : Act} {w : World} (hd : (ops.toList.all fun o => match o.op with | .defer _ => false | _ => true) = true) (Inv : Array Bool → Act → World → Prop) (hm : P.follows .mixedOrders = true)
    (start : Inv (Array.replicate ops.size false) a { w with drawn := w.drawn + 1 })
    (step : ∀ lb a w i, Inv lb a w → i ∈ Region.ready .any ops lb → opX P ops Q i (Inv (lb.setIfInBounds i true)) a w)
    (done : ∀ lb a w, Inv lb a w → Region.ready .any ops lb = [] → Q .normal a w) : (Code.region id ops true).wpIn (Fence.wide.inRound l) n P Q a w :=
  wpIn_region_any hm (wpAnyIn_inv (fun i o ho c e => by
    have h1 := List.all_eq_true.1 hd o (by
      have := Array.mem_of_getElem? ho
      simpa using this)
    rw [e] at h1
    cases h1) Inv step done _ _ _ _ (left_all _) start)
end
end Go.Proofs.Ytlpbfhbfaphicaa.C19
