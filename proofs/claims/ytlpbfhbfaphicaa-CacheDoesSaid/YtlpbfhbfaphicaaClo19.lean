/- A region that draws its order: what has come up has all that it needs behind it. Pairs by their place; rows of one's own. -/
import Derived.Test.YtlpbfhbfaphicaaRat19
namespace Go.Proofs.Ytlpbfhbfaphicaa.C19
open Go Go.RowKit Go.Maps Go.Lib Go.Sort Go.Proofs.YtlpbfhbfaphicaaW.PrintWords Go.Proofs.YtlpbfhbfaphicaaW.PrintLast Go.Proofs.YtlpbfhbfaphicaaW.PrintMore Go.Proofs.Ytlpbfhbfaphicaa.XA

set_option linter.unusedVariables false
section
variable {P : Program} {ops : Array Oper} {Q : Exit → Act → World → Prop}
def Closed (ops : Array Oper) (l : Array Bool) : Prop := ∀ i o, ops[i]? = some o → l.getD i false = true → ∀ j, (o.after.toList.any fun e => Region.binds .any e && e.on == j) = true → l.getD j false = true
theorem closed_dep {l : Array Bool} (h : Closed ops l) {i : Nat} {o : Oper} (ho : ops[i]? = some o) (j : Nat) (hj : (o.after.toList.any fun e => Region.binds .any e && e.on == j) = true) (hl : l.getD i false = true) : l.getD j false = true := h i o ho hl j hj
theorem getD_set {l : Array Bool} {i j : Nat} (h : l.getD j false = true) : (l.setIfInBounds i true).getD j false = true := by
  rw [Array.getD_eq_getD_getElem?, Array.getElem?_setIfInBounds]
  rw [Array.getD_eq_getD_getElem?] at h
  split
  · split
    · rfl
    · rename_i e h2
      subst e
      rw [Array.getElem?_eq_none (by omega)] at h
      cases h
  · exact h
theorem closed_set {l : Array Bool} {i : Nat} (h : Closed ops l) (hi : i ∈ Region.ready .any ops l) : Closed ops (l.setIfInBounds i true) := by
  intro i' o ho hl j hj
  refine getD_set ?_
  by_cases e : i = i'
  · subst e
    exact ready_dep hi ho j hj
  · refine h i' o ho ?_ j hj
    rw [Array.getD_eq_getD_getElem?, Array.getElem?_setIfInBounds, if_neg e] at hl
    rw [Array.getD_eq_getD_getElem?]
    exact hl
/-- The same as wp_region_inv; what has come up has all that it needs behind it. -/
theorem wp_region_inv2 {id : Nat} {a : Act} {w : World} (Inv : Array Bool → Act → World → Prop) (hm : P.follows .mixedOrders = true)
    (start : Inv (Array.replicate ops.size false) a { w with drawn := w.drawn + 1 })
    (step : ∀ l a w i, Inv l a w → Closed ops l → i ∈ Region.ready .any ops l → wpOp P ops Q i (Inv (l.setIfInBounds i true)) a w)
    (done : ∀ l a w, Inv l a w → Region.ready .any ops l = [] → Q .normal a w) : (Code.region id ops true).wp P Q a w := by
  refine wp_region_inv (fun l a w => Inv l a w ∧ Closed ops l) hm ⟨start, ?_⟩ ?_ ?_
  · intro i o ho hl j hj
    rw [Array.getD_eq_getD_getElem?, Array.getElem?_replicate] at hl
    split at hl <;> cases hl
  · intro l a w i h hi
    exact wpOp_mono' (fun a' w' h' => ⟨h', closed_set h.2 hi⟩) (step l a w i h.1 h.2 hi)
  · intro l a w h hr
    exact done l a w h.1 hr
end
theorem look_idx {l : List Pr} {k : K3} {x : Int} (h : lookP l k = some x) : ∃ i, i < l.length ∧ pat l i = (k, x) ∧ ∀ j, j < i → (pat l j).1 ≠ k := by
  induction l with
  | nil => cases h
  | cons e t ih =>
    by_cases c : e.1 = k
    · have : e.2 = x := by simpa [lookP, c] using h
      exact ⟨0, Nat.zero_lt_succ _, by show e = (k, x); rw [← c, ← this], fun j hj => absurd hj (Nat.not_lt_zero _)⟩
    · have h2 : lookP t k = some x := by simpa [lookP, c] using h
      obtain ⟨i, h3, h4, h5⟩ := ih h2
      refine ⟨i + 1, Nat.succ_lt_succ h3, h4, fun j hj => ?_⟩
      cases j with
      | zero => exact c
      | succ j => exact h5 j (Nat.lt_of_succ_lt_succ hj)
theorem look_no {l : List Pr} {k : K3} (h : lookP l k = none) : ∀ j, j < l.length → (pat l j).1 ≠ k := by
  intro j hj e
  apply look_none.1 h
  rw [← e]
  refine List.mem_map_of_mem ?_
  unfold pat
  rw [List.getElem?_eq_getElem hj]
  exact List.getElem_mem hj
theorem del_take {k : K3} : ∀ (l : List Pr) (i : Nat), (l.map Prod.fst).Nodup → i < l.length → (pat l i).1 = k → l.take i ++ l.drop (i + 1) = delP l k
  | [], i, _, h, _ => absurd h (Nat.not_lt_zero _)
  | e :: t, 0, hn, _, h => by
    have he : e.1 = k := h
    rw [List.map_cons, List.nodup_cons] at hn
    have h1 : delP (e :: t) k = delP t k := by simp [delP, he]
    rw [h1]
    show t = _
    refine (List.filter_eq_self.2 fun y hy => ?_).symm
    simp
    intro c
    exact hn.1 (by rw [he, ← c]; exact List.mem_map_of_mem hy)
  | e :: t, i + 1, hn, hi, h => by
    rw [List.map_cons, List.nodup_cons] at hn
    have h2 : (pat t i).1 = k := h
    have hi2 : i < t.length := Nat.lt_of_succ_lt_succ hi
    have hne : e.1 ≠ k := by
      intro c
      apply hn.1
      rw [c, ← h2]
      refine List.mem_map_of_mem ?_
      unfold pat
      rw [List.getElem?_eq_getElem hi2]
      exact List.getElem_mem hi2
    have h3 := del_take t i hn.2 hi2 h2
    show e :: (t.take i ++ t.drop (i + 1)) = delP (e :: t) k
    rw [h3]
    simp [delP, hne]
theorem at_pat {l : List Pr} {i : Nat} (h : i < l.length) : l[i]? = some (pat l i) := by
  unfold pat
  rw [List.getElem?_eq_getElem h]
  rfl
/-- A new row of one's own. -/
theorem RowP.none_ (W : World) (n1 : Nat) (fr : Nat → Prop) (h1 : n1 ≤ W.heap.size) (h2 : fr W.heap.size) : RowP (W.alloc (.cells #[] 70 (0, 0))) n1 fr (.slice (some ⟨W.heap.size, 0, none⟩) 0 0) [] := by
  refine ⟨⟨rfl, .inr ⟨W.heap.size, 0, #[], rfl, h1, blk_new _ _, Nat.le_refl _, Nat.zero_le _, rfl, rfl⟩⟩, fun k hk => ?_⟩
  cases hk
  exact h2
/-- Appends of pairs, their number told. -/
theorem appendM {W : World} {base : Nat} {ok : Nat → Prop} {v : Value} {l ys : List Pr} {A : Addr} {c : Nat} (m : Nat) (hm : ys.length = m) (HR : RowP W base ok v l) (hread : ∀ j u, (encP ys)[j]? = some u → W.cell? (A.add j) = some u) (hfresh : ∀ k, W.heap.size ≤ k → ok k) (hbase : base ≤ W.heap.size) (hn : l.length + ys.length ≤ 100000) :
    ∃ v1 w1, (∀ ty, (Builtin.append_ #[51, 51] ty #[v, .slice (some A) m c]).run Try.prog W = .ok v1 w1) ∧ RowP w1 base ok v1 (l ++ ys) ∧ W.grownBy w1 v.ownBlock := by
  subst hm
  obtain ⟨v1, w1, h1, h2, h3, _⟩ := appendP (c := c) HR hread hfresh hbase hn
  exact ⟨v1, w1, h1, h2, h3⟩
/-- Appends of one pair out of a literal. -/
theorem append1P {W : World} {base : Nat} {ok : Nat → Prop} {v : Value} {l : List Pr} {p : Pr} {gq : Nat} (HR : RowP W base ok v l) (hq : BoxP W gq p) (hfresh : ∀ k, W.heap.size ≤ k → ok k) (hbase : base ≤ W.heap.size) (hn : l.length ≤ 10000) :
    ∃ v1 w1, (∀ ty, (Builtin.append_ #[51, 51] ty #[v, .slice (some ⟨gq, 0, none⟩) 1 1]).run Try.prog W = .ok v1 w1) ∧ RowP w1 base ok v1 (l ++ [p]) ∧ W.grownBy w1 v.ownBlock := by
  refine appendM 1 rfl HR (fun j u hu => ?_) hfresh hbase (by show l.length + 1 ≤ 100000; omega)
  have hh := blk_cell hq j
  have he : encP [p] = pc p := List.append_nil _
  rw [he] at hu
  rw [List.getElem?_toArray] at hh
  rw [← hu, ← hh]
  simp only [Addr.add]
  split
  · rename_i e
    have e' : j = 0 := by simpa using e
    rw [e']
  · simp
def dropA (gr i c0 : Nat) : Addr := if c0 = i + 1 then ⟨gr, 0, none⟩ else ⟨gr, (i + 1) * 4, none⟩
theorem dropA_if (gr i c0 : Nat) : (if c0 = i + 1 then some (⟨gr, 0, none⟩ : Addr) else some ⟨gr, (i + 1) * 4, none⟩) = some (dropA gr i c0) := by
  unfold dropA
  split <;> rfl
theorem read_dropA {W : World} {base g c : Nat} {ok : Nat → Prop} {l : List Pr} (HR : RowP W base ok (.slice (some ⟨g, 0, none⟩) l.length c) l) (hc : l.length ≤ c) (i : Nat) : ∀ j u, (encP (l.drop (i + 1)))[j]? = some u → W.cell? ((dropA g i c).add j) = some u := by
  unfold dropA
  by_cases h : c = i + 1
  · intro j u hu
    rw [List.drop_of_length_le (by omega)] at hu
    simp [encP] at hu
  · rw [if_neg h]
    exact read_drop HR (i + 1)
theorem below_grown {B : Nat} {w w1 w2 : World} {row : Option Nat} (h : Below B w w1) (hg : w1.grownBy w2 row) (hr : ∀ k, row = some k → B ≤ k) (hs : B ≤ w.heap.size) : Below B w w2 :=
  h.trans ⟨hg.os, hg.tape, hg.output, hg.size, fun k hk => hg.block k (Nat.lt_of_lt_of_le hk (Nat.le_trans hs h.size)) (fun e => absurd (hr k e.symm) (by omega))⟩
end Go.Proofs.Ytlpbfhbfaphicaa.C19
