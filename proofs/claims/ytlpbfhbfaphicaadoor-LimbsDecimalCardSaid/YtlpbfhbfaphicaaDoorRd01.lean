/- Lists of numbers, read and written by place: plain facts (for seats without the field). -/
import Derived.Test.YtlpbfhbfaphicaaDoorArith
namespace Go.Proofs.YtlpbfhbfaphicaaDoor.M
open Go Go.RowKit Go.Proofs.YtlpbfhbfaphicaaDoorW.PrintWords Go.Proofs.YtlpbfhbfaphicaaDoorW.PrintMore

theorem rd_nat (l : List Int) (i : Nat) : rd l (i : Int) = l.getD i 0 := by
  unfold rd
  rw [Int.toNat_natCast]
theorem rd_at {l : List Int} {i : Nat} (h : i < l.length) : rd l (i : Int) = l[i] := by
  rw [rd_nat, List.getD_eq_getElem?_getD, List.getElem?_eq_getElem h]
  rfl
theorem rd_set {y : List Int} {i : Nat} (v : Int) (h : i < y.length) : rd (y.set i v) (i : Int) = v := by
  rw [rd_at (by rw [List.length_set]; exact h), List.getElem_set_self]
theorem rd_set_ne {y : List Int} {i j : Nat} (v : Int) (h : i ≠ j) : rd (y.set i v) (j : Int) = rd y (j : Int) := by
  rw [rd_nat, rd_nat, List.getD_eq_getElem?_getD, List.getD_eq_getElem?_getD, List.getElem?_set_ne h]
theorem rd_rep (n : Nat) (j : Nat) : rd (List.replicate n 0) (j : Int) = 0 := by
  rw [rd_nat, List.getD_eq_getElem?_getD, List.getElem?_replicate]
  split <;> rfl
theorem rd_map_range {f : Nat → Int} {n i : Nat} (h : i < n) : rd ((List.range n).map f) (i : Int) = f i := by
  rw [rd_at (by rw [List.length_map, List.length_range]; exact h), List.getElem_map, List.getElem_range]
theorem list_ext {a b : List Int} (hl : a.length = b.length) (h : ∀ i, i < b.length → rd a (i : Int) = rd b (i : Int)) : a = b := by
  refine List.ext_getElem hl fun i h1 h2 => ?_
  have := h i h2
  rwa [rd_at h1, rd_at h2] at this
theorem rd_mem {l : List Int} {i : Nat} (h : i < l.length) : rd l (i : Int) ∈ l := by
  rw [rd_at h]
  exact List.getElem_mem h
theorem wrap_succ {i : Nat} (h : i ≤ 1000000000) : wrap64 ((i : Int) + 1) = ((i + 1 : Nat) : Int) := by rw [w64_id _ (by omega) (by omega)]; omega
theorem evS {α : Type} {o : Option α} {a : α} (h : o = some a) : Ev (fun _ => o) a := Ev.congr (fun _ => h) (Ev.now a)
theorem evB {α β : Type} {o : Option α} {f : Nat → α → Option β} {a : α} {r : β} (h : o = some a) (k : Ev (fun n => f n a) r) : Ev (fun n => o.bind (f n)) r := Ev.bind (evS h) k

end Go.Proofs.YtlpbfhbfaphicaaDoor.M
