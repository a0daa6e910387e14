/- Parts of this claim's texts, packed by wip/tools/prune.py: what the proof does not reach is left out. -/
import Derived.Test.YtlpbfhbfaphicaaDoorPMv9
import Derived.Orders
import Derived.RegionTactic
section
namespace Go.Proofs.YtlpbfhbfaphicaaDoor.L01
open Go
section
variable {P : Program} {ops : Array Oper} {Q : Exit → Act → World → Prop} {md : Region.Mode}
def left (l : Array Bool) : Nat := (List.range l.size).countP fun i => !l.getD i true
theorem ready_free {l : Array Bool} {i : Nat} (h : i ∈ Region.ready md ops l) : i < l.size ∧ l.getD i true = false := by
  unfold Region.ready at h
  have h2 := (List.mem_filter.1 h).2
  simp only [Bool.and_eq_true, Bool.not_eq_true'] at h2
  refine ⟨?_, h2.1⟩
  refine Nat.lt_of_not_le fun hge => ?_
  have := h2.1
  rw [Array.getD_eq_getD_getElem?, Array.getElem?_eq_none hge] at this
  cases this
theorem countP_lt {α : Type} {p q : α → Bool} : ∀ (L : List α), (∀ x, q x = true → p x = true) → (∃ x ∈ L, p x = true ∧ q x = false) → L.countP q < L.countP p
  | [], _, h => by
    obtain ⟨x, hx, _⟩ := h
    cases hx
  | y :: L, hm, h => by
    have hle : L.countP q ≤ L.countP p := List.countP_mono_left fun x _ => hm x
    obtain ⟨x, hx, hp, hq⟩ := h
    rcases List.mem_cons.1 hx with rfl | hx
    · simp [hp, hq]
      omega
    · have ih := countP_lt L hm ⟨x, hx, hp, hq⟩
      rw [List.countP_cons, List.countP_cons]
      have := hm y
      cases hqy : q y
      · simp; omega
      · rw [hm y hqy]; simp; omega
theorem left_set {l : Array Bool} {i : Nat} (h1 : i < l.size) (h2 : l.getD i true = false) : left (l.setIfInBounds i true) < left l := by
  unfold left
  rw [Array.size_setIfInBounds]
  refine countP_lt _ (fun j hj => ?_) ⟨i, List.mem_range.2 h1, by rw [h2]; rfl, by simp [Array.getD_eq_getD_getElem?, h1]⟩
  rw [Array.getD_eq_getD_getElem?, Array.getElem?_setIfInBounds] at hj
  by_cases e : i = j
  · subst e
    rw [if_pos rfl, if_pos h1] at hj
    simp at hj
  · rw [if_neg e] at hj
    rw [Array.getD_eq_getD_getElem?]
    exact hj
theorem wpOp_mono' {i : Nat} {K K' : Act → World → Prop} {a : Act} {w : World} (h : ∀ a w, K a w → K' a w) (hh : wpOp P ops Q i K a w) : wpOp P ops Q i K' a w := by
  unfold wpOp at *
  split at hh
  · exact h _ _ hh
  · split at hh
    · rename_i hw
      rw [if_pos hw]
      exact hh.imp (Oper.wp_mono h) id
    · rename_i hw
      rw [if_neg hw]
      exact h _ _ hh
theorem wpAny_inv (Inv : Array Bool → Act → World → Prop) (step : ∀ l a w i, Inv l a w → i ∈ Region.ready md ops l → wpOp P ops Q i (Inv (l.setIfInBounds i true)) a w)
    (done : ∀ l a w, Inv l a w → Region.ready md ops l = [] → Q .normal a w) : ∀ (fuel : Nat) (l : Array Bool) (a : Act) (w : World), left l ≤ fuel → Inv l a w → wpAny P md ops Q fuel l a w
  | 0, l, a, w, hf, h => by
    have hr : Region.ready md ops l = [] := List.eq_nil_iff_forall_not_mem.2 fun i hi => by
      obtain ⟨h1, h2⟩ := ready_free hi
      have := left_set h1 h2
      omega
    exact ⟨hr, done l a w h hr⟩
  | fuel + 1, l, a, w, hf, h => by
    refine ⟨fun hr => done l a w h hr, fun i hi => ?_⟩
    refine wpOp_mono' (fun a' w' h' => ?_) (step l a w i h hi)
    obtain ⟨h1, h2⟩ := ready_free hi
    have := left_set h1 h2
    exact wpAny_inv Inv step done fuel _ a' w' (by omega) h'
theorem left_all (n : Nat) : left (Array.replicate n false) ≤ n := by
  unfold left
  refine Nat.le_trans List.countP_le_length ?_
  simp
theorem wp_region_inv {id : Nat} {a : Act} {w : World} (Inv : Array Bool → Act → World → Prop) (hm : P.follows .mixedOrders = true)
    (start : Inv (Array.replicate ops.size false) a { w with drawn := w.drawn + 1 })
    (step : ∀ l a w i, Inv l a w → i ∈ Region.ready .any ops l → wpOp P ops Q i (Inv (l.setIfInBounds i true)) a w)
    (done : ∀ l a w, Inv l a w → Region.ready .any ops l = [] → Q .normal a w) : (Code.region id ops true).wp P Q a w :=
  wp_region_any hm (wpAny_inv Inv step done _ _ _ _ (left_all _) start)
end
end Go.Proofs.YtlpbfhbfaphicaaDoor.L01
end
