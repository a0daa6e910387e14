/- A region that draws its order, by what is kept: each operation is looked at once, whatever came before it. -/
import Derived.Test.YtlpbfhbfaphicaaDel19
import Derived.Orders
import Derived.RegionTactic
namespace Go.Proofs.Ytlpbfhbfaphicaa.C19
open Go

section
variable {P : Program} {ops : Array Oper} {Q : Exit → Act → World → Prop} {md : Region.Mode}
/-- How many operations have not come up yet. -/
def left (l : Array Bool) : Nat := (List.range l.size).countP fun i => !l.getD i true
theorem ready_free {l : Array Bool} {i : Nat} (h : i ∈ Region.ready md ops l) : i < l.size ∧ l.getD i true = false := by
  unfold Region.ready at h
  have h2 := (List.mem_filter.1 h).2
  simp only [Bool.and_eq_true, Bool.not_eq_true'] at h2
  refine ⟨?_, h2.1⟩
  refine Nat.lt_of_not_le fun hge => ?_
  have := h2.1
  rw [Array.getD_eq_getD_getElem?, Array.getElem?_eq_none hge] at this
  cases this
theorem countP_lt {α : Type} {p q : α → Bool} : ∀ (L : List α), (∀ x, q x = true → p x = true) → (∃ x ∈ L, p x = true ∧ q x = false) → L.countP q < L.countP p
  | [], _, h => by
    obtain ⟨x, hx, _⟩ := h
    cases hx
  | y :: L, hm, h => by
    have hle : L.countP q ≤ L.countP p := List.countP_mono_left fun x _ => hm x
    obtain ⟨x, hx, hp, hq⟩ := h
    rcases List.mem_cons.1 hx with rfl | hx
    · simp [hp, hq]
      omega
    · have ih := countP_lt L hm ⟨x, hx, hp, hq⟩
      rw [List.countP_cons, List.countP_cons]
      have := hm y
      cases hqy : q y
      · simp; omega
      · rw [hm y hqy]; simp; omega
theorem left_set {l : Array Bool} {i : Nat} (h1 : i < l.size) (h2 : l.getD i true = false) : left (l.setIfInBounds i true) < left l := by
  unfold left
  rw [Array.size_setIfInBounds]
  refine countP_lt _ (fun j hj => ?_) ⟨i, List.mem_range.2 h1, by rw [h2]; rfl, by simp [Array.getD_eq_getD_getElem?, h1]⟩
  rw [Array.getD_eq_getD_getElem?, Array.getElem?_setIfInBounds] at hj
  by_cases e : i = j
  · subst e
    rw [if_pos rfl, if_pos h1] at hj
    simp at hj
  · rw [if_neg e] at hj
    rw [Array.getD_eq_getD_getElem?]
    exact hj
theorem wpOp_mono' {i : Nat} {K K' : Act → World → Prop} {a : Act} {w : World} (h : ∀ a w, K a w → K' a w) (hh : wpOp P ops Q i K a w) : wpOp P ops Q i K' a w := by
  unfold wpOp at *
  split at hh
  · exact h _ _ hh
  · split at hh
    · rename_i hw
      rw [if_pos hw]
      exact hh.imp (Oper.wp_mono h) id
    · rename_i hw
      rw [if_neg hw]
      exact h _ _ hh
/-- What is kept by each operation that may come up leads, when all have come up, to what follows. -/
theorem wpAny_inv (Inv : Array Bool → Act → World → Prop) (step : ∀ l a w i, Inv l a w → i ∈ Region.ready md ops l → wpOp P ops Q i (Inv (l.setIfInBounds i true)) a w)
    (done : ∀ l a w, Inv l a w → Region.ready md ops l = [] → Q .normal a w) : ∀ (fuel : Nat) (l : Array Bool) (a : Act) (w : World), left l ≤ fuel → Inv l a w → wpAny P md ops Q fuel l a w
  | 0, l, a, w, hf, h => by
    have hr : Region.ready md ops l = [] := List.eq_nil_iff_forall_not_mem.2 fun i hi => by
      obtain ⟨h1, h2⟩ := ready_free hi
      have := left_set h1 h2
      omega
    exact ⟨hr, done l a w h hr⟩
  | fuel + 1, l, a, w, hf, h => by
    refine ⟨fun hr => done l a w h hr, fun i hi => ?_⟩
    refine wpOp_mono' (fun a' w' h' => ?_) (step l a w i h hi)
    obtain ⟨h1, h2⟩ := ready_free hi
    have := left_set h1 h2
    exact wpAny_inv Inv step done fuel _ a' w' (by omega) h'
theorem left_all (n : Nat) : left (Array.replicate n false) ≤ n := by
  unfold left
  refine Nat.le_trans List.countP_le_length ?_
  simp
/-- The same, of a region. -/
theorem wp_region_inv {id : Nat} {a : Act} {w : World} (Inv : Array Bool → Act → World → Prop) (hm : P.follows .mixedOrders = true)
    (start : Inv (Array.replicate ops.size false) a { w with drawn := w.drawn + 1 })
    (step : ∀ l a w i, Inv l a w → i ∈ Region.ready .any ops l → wpOp P ops Q i (Inv (l.setIfInBounds i true)) a w)
    (done : ∀ l a w, Inv l a w → Region.ready .any ops l = [] → Q .normal a w) : (Code.region id ops true).wp P Q a w :=
  wp_region_any hm (wpAny_inv Inv step done _ _ _ _ (left_all _) start)
theorem ready_after {l : Array Bool} {i : Nat} {o : Oper} (h : i ∈ Region.ready .any ops l) (ho : ops[i]? = some o) : (o.after.all fun e => !Region.binds .any e || l.getD e.on false) = true := by
  unfold Region.ready at h
  have h2 := (List.mem_filter.1 h).2
  simp only [Bool.and_eq_true] at h2
  have h3 := h2.2
  rw [ho] at h3
  simpa using h3
theorem ready_dep {l : Array Bool} {i : Nat} {o : Oper} (h : i ∈ Region.ready .any ops l) (ho : ops[i]? = some o) (j : Nat) (hj : (o.after.toList.any fun e => Region.binds .any e && e.on == j) = true) : l.getD j false = true := by
  have h1 := ready_after h ho
  obtain ⟨e, he, hc⟩ := List.any_eq_true.1 hj
  rw [Bool.and_eq_true, beq_iff_eq] at hc
  rw [← Array.all_toList] at h1
  have h2 := List.all_eq_true.1 h1 e he
  rw [hc.1, hc.2] at h2
  simpa using h2
/-- Where nothing may come up any more, all has come up. -/
theorem all_done {l : Array Bool} (hl : l.size = ops.size) (hops : ((List.range ops.size).all fun i => ((ops[i]?).map fun o => o.after.all fun e => decide (e.on < i)).getD true) = true) (h : Region.ready .any ops l = []) : ∀ i, i < ops.size → l.getD i true = true := by
  intro i
  induction i using Nat.strongRecOn with
  | _ i ih =>
    intro hi
    cases hc : l.getD i true with
    | true => rfl
    | false =>
      exfalso
      have h1 := List.all_eq_true.1 hops i (List.mem_range.2 hi)
      rw [Array.getElem?_eq_getElem hi] at h1
      have h1' : ((ops[i]).after.all fun e => decide (e.on < i)) = true := h1
      have hm : i ∈ Region.ready .any ops l := by
        unfold Region.ready
        refine List.mem_filter.2 ⟨List.mem_range.2 hi, ?_⟩
        simp only [Bool.and_eq_true]
        refine ⟨by rw [hc]; rfl, ?_⟩
        rw [Array.getElem?_eq_getElem hi]
        show ((ops[i]).after.all fun e => !Region.binds .any e || l.getD e.on false) = true
        rw [Array.all_eq_true] at h1' ⊢
        intro j hj
        have h2 := of_decide_eq_true (h1' j hj)
        have h3 := ih _ h2 (Nat.lt_trans h2 hi)
        rw [Array.getD_eq_getD_getElem?, Array.getElem?_eq_getElem (by omega)] at h3 ⊢
        simp only [Option.getD_some] at h3 ⊢
        rw [h3, Bool.or_true]
      rw [h] at hm
      cases hm
end
end Go.Proofs.Ytlpbfhbfaphicaa.C19
