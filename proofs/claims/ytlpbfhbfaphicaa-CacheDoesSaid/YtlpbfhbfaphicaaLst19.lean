/- Layer 19 (cache): CacheLast: what the pairs are, in numbers. -/
import Derived.Test.YtlpbfhbfaphicaaLiv19
namespace Go.Proofs.Ytlpbfhbfaphicaa.C19
open Go Go.RowKit Go.Maps Go.Lib Go.Sort Go.Proofs.YtlpbfhbfaphicaaW.PrintWords Go.Proofs.YtlpbfhbfaphicaaW.PrintLast Go.Proofs.YtlpbfhbfaphicaaW.PrintMore Go.Proofs.Ytlpbfhbfaphicaa.XA

set_option linter.unusedVariables false
abbrev kn (i : Nat) : K3 := ⟨0, (i : Int), 0⟩
theorem kn_inj {i j : Nat} : kn i = kn j ↔ i = j := by
  constructor
  · intro h
    have := congrArg S35.f1 h
    have h2 : (i : Int) = (j : Int) := this
    omega
  · intro h
    rw [h]
theorem kn_wf {i : Nat} (h : i ≤ 100000) : Wk (kn i) := by
  unfold Wk W64 kn
  refine ⟨⟨?_, ?_⟩, ⟨?_, ?_⟩, ?_, ?_⟩ <;> (dsimp only; omega)
/-- The pairs of some numbers. -/
def pl (l : List Nat) : List Pr := l.map fun i => (kn i, (i : Int))
theorem look_pl (l : List Nat) (j : Nat) : lookP (pl l) (kn j) = if j ∈ l then some (j : Int) else none := by
  induction l with
  | nil => rfl
  | cons a t ih =>
    show (if kn a = kn j then some (a : Int) else lookP (pl t) (kn j)) = _
    by_cases c : a = j
    · subst c
      rw [if_pos rfl, if_pos List.mem_cons_self]
    · rw [if_neg (fun e => c (kn_inj.1 e)), ih]
      by_cases c2 : j ∈ t
      · rw [if_pos c2, if_pos (List.mem_cons_of_mem _ c2)]
      · rw [if_neg c2, if_neg (fun h => by rcases List.mem_cons.1 h with e | e; exact c e.symm; exact c2 e)]
theorem pl_len (l : List Nat) : (pl l).length = l.length := List.length_map _
theorem pl_app (l : List Nat) (j : Nat) : pl l ++ [(kn j, (j : Int))] = pl (l ++ [j]) := by
  unfold pl
  rw [List.map_append]
  rfl
theorem put_more {room : Nat} {l : List Nat} {j : Nat} (h0 : room ≠ 0) (hj : j ∉ l) (hl : l.length ≠ room) : putP (room : Int) (pl l) (kn j) (j : Int) = pl (l ++ [j]) := by
  unfold putP
  rw [if_neg (by omega), look_pl, if_neg hj, if_neg (by simp), pl_len, if_neg (by omega), pl_app]
theorem put_full {room : Nat} {l : List Nat} {j : Nat} (h0 : room ≠ 0) (hj : j ∉ l) (hl : l.length = room) : putP (room : Int) (pl l) (kn j) (j : Int) = pl (l.tail ++ [j]) := by
  unfold putP
  rw [if_neg (by omega), look_pl, if_neg hj, if_neg (by simp), pl_len, if_pos (by omega), ← pl_app]
  congr 1
  unfold pl
  rw [List.map_tail]
theorem get_pl {l : List Nat} {j : Nat} (hj : j ∈ l) : getP (pl l) (kn j) = pl (l.filter (fun i => decide (i ≠ j)) ++ [j]) := by
  unfold getP
  rw [look_pl, if_pos hj]
  show delP (pl l) (kn j) ++ [(kn j, (j : Int))] = _
  rw [← pl_app]
  congr 1
  unfold delP pl
  rw [List.filter_map]
  congr 1
  apply List.filter_congr
  intro i _
  show decide (kn i ≠ kn j) = decide (i ≠ j)
  by_cases c : i = j
  · subst c
    simp
  · have hne : kn i ≠ kn j := fun e => c (kn_inj.1 e)
    rw [decide_eq_true hne, decide_eq_true (show i ≠ j from c)]
theorem len_getP {P : List Pr} (hn : (P.map Prod.fst).Nodup) (k : K3) : (getP P k).length = P.length := by
  unfold getP
  cases h : lookP P k with
  | none => rfl
  | some v =>
    show (delP P k ++ [(k, v)]).length = _
    rw [List.length_append]
    exact del_len hn h
def lastL (k : Nat) (ag : Bool) : List Nat := if ag then (List.range k).filter (fun i => decide (i ≠ 0)) ++ [0] else List.range k
def lastQ (k : Nat) (ag : Bool) : List Nat := (lastL k ag).tail ++ [k]
theorem last_all : ∀ k, k < 65 → k ≠ 0 → ∀ ag : Bool, (lastL k ag).length = k ∧ k ∉ lastL k ag ∧ (lastQ k ag).length = k ∧ k ∈ lastQ k ag ∧ decide (0 ∈ lastQ k ag) = (ag && decide (k ≠ 1)) ∧ decide (1 ∈ lastQ k ag) = (decide (k = 1) || !ag) := by
  decide +kernel
end Go.Proofs.Ytlpbfhbfaphicaa.C19
