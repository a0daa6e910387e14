/- Layer 1: the document's bits: arrays of 256 truth values; Word, walked. -/
import Derived.Test.YtlpbfhbfaphicaaDoorThr01d
import Derived.Deep.WholeRow
import Derived.Deep.QuietTactic
import Derived.BigQuiet
namespace Go.Proofs.YtlpbfhbfaphicaaDoor.L01
open Go Go.RowKit Go.Proofs.YtlpbfhbfaphicaaDoorW.PrintWords Go.Proofs.YtlpbfhbfaphicaaDoorW.PrintLast Go.Proofs.YtlpbfhbfaphicaaDoorW.PrintMore Go.Proofs.YtlpbfhbfaphicaaDoor.Given Go.Proofs.YtlpbfhbfaphicaaDoor.M Go.Proofs.YtlpbfhbfaphicaaDoor.XB

set_option linter.unusedVariables false
/-- An array of 256 truth values, by a function of the place. -/
def bL (f : Nat → Bool) : List Value := (List.range 256).map fun j => Value.bool (f j)
abbrev bA (f : Nat → Bool) : Array Value := (bL f).toArray
abbrev TB (f : Nat → Bool) : Value := .agg (bA f)
theorem bL_len (f : Nat → Bool) : (bL f).length = 256 := by simp [bL]
theorem bA_size (f : Nat → Bool) : (bA f).size = 256 := by simp [bA, bL]
theorem bA_at {f : Nat → Bool} {i : Nat} (h : i < 256) : (bA f)[i]? = some (.bool (f i)) := by simp [bA, bL, h]
theorem bA_ext {f g : Nat → Bool} (h : ∀ i, i < 256 → f i = g i) : bA f = bA g := by
  unfold bA bL
  congr 1
  refine List.map_congr_left fun a ha => ?_
  rw [h a (List.mem_range.1 ha)]
theorem bA_one (f : Nat → Bool) : (bA f).all (·.oneCell') = true := by
  rw [Array.all_eq_true]
  intro i h
  rw [bA_size] at h
  have := bA_at (f := f) h
  rw [Array.getElem?_eq_getElem (by rw [bA_size]; exact h)] at this
  rw [Option.some.inj this]
  rfl
/-- One place turned. -/
def put (f : Nat → Bool) (i : Nat) (x : Bool) : Nat → Bool := fun j => if j = i then x else f j
theorem bA_put {f : Nat → Bool} {i : Nat} {x : Bool} (h : i < 256) : (bA f).setIfInBounds i (.bool x) = bA (put f i x) := by
  apply Array.ext_getElem?
  intro j
  rw [Array.getElem?_setIfInBounds]
  by_cases hj : i = j
  · subst hj
    rw [if_pos rfl, if_pos (by rw [bA_size]; exact h), bA_at h]
    simp [put]
  · rw [if_neg hj]
    by_cases hl : j < 256
    · rw [bA_at hl, bA_at hl, put, if_neg (fun e => hj e.symm)]
    · rw [Array.getElem?_eq_none (by rw [bA_size]; omega), Array.getElem?_eq_none (by rw [bA_size]; omega)]
def BoxB (w : World) (g : Nat) (f : Nat → Bool) : Prop := w.heap[g]? = some (.cells (bA f) 29 (0, 0))
theorem BoxB.cell {w : World} {g p : Nat} {f : Nat → Bool} (h : BoxB w g f) (hp : p < 256) : w.cell? ⟨g, p, none⟩ = some (.bool (f p)) ∧ w.frozen? ⟨g, p, none⟩ = false :=
  ⟨(blk_cell h p).trans (bA_at hp), blk_frozen h p⟩
theorem BoxB.set {w : World} {g p : Nat} {f : Nat → Bool} {x : Bool} (h : BoxB w g f) (hp : p < 256) : BoxB (w.setCell ⟨g, p, none⟩ (.bool x)) g (put f p x) := by
  refine (blk_set h p (.bool x)).trans ?_
  rw [bA_put hp]
theorem BoxB.far {w : World} {g g' p : Nat} {f : Nat → Bool} {u : Value} (h : BoxB w g f) (hne : g ≠ g') : BoxB (w.setCell ⟨g', p, none⟩ u) g f := blk_far h hne u
theorem BoxB.kept {W w' : World} {g : Nat} {f : Nat → Bool} (h : BoxB W g f) (hb : Below W.heap.size W w') : BoxB w' g f := blk_below h hb
theorem BoxB.new (W : World) (f : Nat → Bool) : BoxB (W.alloc (.cells (bA f) 29 (0, 0))) W.heap.size f := blk_new _ _
theorem BoxB.new' {W : World} {g : Nat} {f : Nat → Bool} (hg : g = W.heap.size) : BoxB (W.alloc (.cells (bA f) 29 (0, 0))) g f := hg ▸ blk_new _ _
theorem BoxB.alloc {W : World} {g : Nat} {f : Nat → Bool} (h : BoxB W g f) (o : Obj) : BoxB (W.alloc o) g f := blk_alloc h o
theorem BoxB.drew {W : World} {g : Nat} {f : Nat → Bool} (h : BoxB W g f) : BoxB W.drew g f := h
theorem BoxB.drewN {W : World} {g : Nat} {f : Nat → Bool} (h : BoxB W g f) (n : Nat) : BoxB (W.drewN n) g f := h
theorem BoxB.lt {W : World} {g : Nat} {f : Nat → Bool} (h : BoxB W g f) : g < W.heap.size := blk_lt h
abbrev none' : Nat → Bool := fun _ => false
theorem zero_bits' : (∀ w, (zeroValue 29).run Tryd.prog w = .ok (.agg (Array.replicate 256 (.bool false))) w) ∧ (Tryd.prog.info? 29).map (·.size) = some 256 := zero_of_info (by kernel_rfl)
theorem bA_none : Array.replicate 256 (Value.bool false) = bA none' := by
  apply Array.ext_getElem?
  intro j
  by_cases hl : j < 256
  · rw [bA_at hl]; simp [hl]
  · rw [Array.getElem?_eq_none (by rw [Array.size_replicate]; omega), Array.getElem?_eq_none (by rw [bA_size]; omega)]
theorem zero_bits (w : World) : (zeroValue 29).run Tryd.prog w = .ok (TB none') w := by rw [zero_bits'.1, bA_none]
theorem under_bits : Tryd.prog.underlying 29 = some (.array 256 4) := by kernel_rfl
/-- A whole array out of memory; into it. -/
theorem load_bits {w : World} {g : Nat} {f : Nat → Bool} (h : BoxB w g f) : (Instr.loadAt 29 (.pointer (some ⟨g, 0, none⟩))).run Tryd.prog w = .ok (TB f) w := by
  simp only [Instr.loadAt, Instr.sureAddr, Sem.run_bind, Sem.run_pure, Result.andThen]
  exact run_loadVar_row _ _ _ _ (bA f) (0, 0) _ h under_bits rfl (by rw [bA_size]; exact zero_bits'.2)
theorem store_bits {w : World} {g : Nat} {f f' : Nat → Bool} (h : BoxB w g f) : (Instr.storeAt 29 (.pointer (some ⟨g, 0, none⟩)) (TB f')).run Tryd.prog w = .ok () (w.setRow g (bA f')) := by
  simp only [Instr.storeAt, Instr.sureAddr, Sem.run_bind, Sem.run_pure, Result.andThen]
  exact run_storeVar_row _ _ _ _ (bA f) (bA f') h (by rw [bA_size]; exact zero_bits'.2) (by rw [bA_size, bA_size]) (bA_one f')
/-- Loads and stores of one variable, by type (where the great ones are not to be opened). -/
theorem lv_u (a : Addr) (w : World) : (loadVar 22 a).run Tryd.prog w = (load a).run Tryd.prog w := by simp [loadVar, Result.andThen]
theorem lv_i (a : Addr) (w : World) : (loadVar 3 a).run Tryd.prog w = (load a).run Tryd.prog w := by simp [loadVar, Result.andThen]
theorem lv_b (a : Addr) (w : World) : (loadVar 4 a).run Tryd.prog w = (load a).run Tryd.prog w := by simp [loadVar, Result.andThen]
theorem lv_3 (a : Addr) (w : World) : (loadVar 23 a).run Tryd.prog w = ((loadCells a 3).run Tryd.prog w).andThen (fun c w => .ok (.agg c) w) := by simp [loadVar, Result.andThen]
theorem lv_T (a : Addr) (w : World) : (loadVar 24 a).run Tryd.prog w = ((loadCells a 3).run Tryd.prog w).andThen (fun c w => .ok (.agg c) w) := by simp [loadVar, Result.andThen]
theorem sv_u (a : Addr) (k : IntKind) (n : Int) (w : World) : (storeVar 22 a (.int k n)).run Tryd.prog w = (storeCells a [.int k n] 0).run Tryd.prog w := by simp [storeVar, Value.cells, Result.andThen]
theorem sv_i (a : Addr) (k : IntKind) (n : Int) (w : World) : (storeVar 3 a (.int k n)).run Tryd.prog w = (storeCells a [.int k n] 0).run Tryd.prog w := by simp [storeVar, Value.cells, Result.andThen]
theorem sv_b (a : Addr) (b : Bool) (w : World) : (storeVar 4 a (.bool b)).run Tryd.prog w = (storeCells a [.bool b] 0).run Tryd.prog w := by simp [storeVar, Value.cells, Result.andThen]
theorem sv_3 (a : Addr) (x y z : Value) (w : World) : (storeVar 23 a (.agg #[x, y, z])).run Tryd.prog w = (storeCells a [x, y, z] 0).run Tryd.prog w := by simp [storeVar, Value.cells, Result.andThen]
theorem sv_T (a : Addr) (x y z : Value) (w : World) : (storeVar 24 a (.agg #[x, y, z])).run Tryd.prog w = (storeCells a [x, y, z] 0).run Tryd.prog w := by simp [storeVar, Value.cells, Result.andThen]
theorem lv_bits {w : World} {g : Nat} {f : Nat → Bool} (h : BoxB w g f) : (loadVar 29 ⟨g, 0, none⟩).run Tryd.prog w = .ok (TB f) w :=
  run_loadVar_row _ _ _ _ (bA f) (0, 0) _ h under_bits rfl (by rw [bA_size]; exact zero_bits'.2)
theorem sv_bits {w : World} {g : Nat} {f f' : Nat → Bool} (h : BoxB w g f) : (storeVar 29 ⟨g, 0, none⟩ (TB f')).run Tryd.prog w = .ok () (w.setRow g (bA f')) :=
  run_storeVar_row _ _ _ _ (bA f) (bA f') h (by rw [bA_size]; exact zero_bits'.2) (by rw [bA_size, bA_size]) (bA_one f')
theorem BoxB.row {w : World} {g : Nat} {f f' : Nat → Bool} (h : BoxB w g f) : BoxB (w.setRow g (bA f')) g f' := by
  unfold BoxB at *
  simp only [World.setRow]
  rw [Array.getElem?_modify, if_pos rfl, h]
  rfl
theorem below_row {w W : World} {g : Nat} {c : Array Value} (h : Below w.heap.size w W) (hg : w.heap.size ≤ g) : Below w.heap.size w (W.setRow g c) := by
  obtain ⟨h1, h2, h3, h4, h5⟩ := h
  refine ⟨h1, h2, h3, ?_, ?_⟩
  · show _ ≤ (W.heap.modify _ _).size
    rw [Array.size_modify]
    exact h4
  · intro j hj
    rw [← h5 j hj]
    simp only [World.setRow]
    rw [Array.getElem?_modify, if_neg (by omega)]
/-- The number that n bits are, from p on (the highest ones first). -/
def num (f : Nat → Bool) (p : Nat) : Nat → Nat
  | 0 => 0
  | n + 1 => (if f p then 1 else 0) + 2 * num f (p + 1) n
end Go.Proofs.YtlpbfhbfaphicaaDoor.L01
