/- Layer 1: what the rows need: a world in which the three tables are laid; an argument of three numbers, opened and shut. -/
import Derived.Test.YtlpbfhbfaphicaaDoorRows
import Derived.Test.YtlpbfhbfaphicaaDoorAliv01
import Derived.WalkKit
import Derived.ProofKit
import Derived.OpenShut
import Derived.ShutString
import Derived.ChangeOld
import Derived.Below
import Derived.SizedLaws
import Derived.LaidLaws
import Derived.Lib.LaidU8
import Derived.WideKeyArr2
import Derived.Laws.IdiomArrays
namespace Go.Proofs.YtlpbfhbfaphicaaDoor.L01
open Go Go.ChangeShapes Go.WideShapes Go.ChangeAt Go.RowKit

def c_laid_math_bits_deBruijn32tab : Array Value := #[.int .u8 0, .int .u8 1, .int .u8 28, .int .u8 2, .int .u8 29, .int .u8 14, .int .u8 24, .int .u8 3, .int .u8 30, .int .u8 22, .int .u8 20, .int .u8 15, .int .u8 25, .int .u8 17, .int .u8 4, .int .u8 8, .int .u8 31, .int .u8 27, .int .u8 13, .int .u8 23, .int .u8 21, .int .u8 19, .int .u8 16, .int .u8 7, .int .u8 26, .int .u8 12, .int .u8 18, .int .u8 6, .int .u8 11, .int .u8 5, .int .u8 10, .int .u8 9]
def c_laid_math_bits_deBruijn64tab : Array Value := #[.int .u8 0, .int .u8 1, .int .u8 56, .int .u8 2, .int .u8 57, .int .u8 49, .int .u8 28, .int .u8 3, .int .u8 61, .int .u8 58, .int .u8 42, .int .u8 50, .int .u8 38, .int .u8 29, .int .u8 17, .int .u8 4, .int .u8 62, .int .u8 47, .int .u8 59, .int .u8 36, .int .u8 45, .int .u8 43, .int .u8 51, .int .u8 22, .int .u8 53, .int .u8 39, .int .u8 33, .int .u8 30, .int .u8 24, .int .u8 18, .int .u8 12, .int .u8 5, .int .u8 63, .int .u8 55, .int .u8 48, .int .u8 27, .int .u8 60, .int .u8 41, .int .u8 37, .int .u8 16, .int .u8 46, .int .u8 35, .int .u8 44, .int .u8 21, .int .u8 52, .int .u8 32, .int .u8 23, .int .u8 11, .int .u8 54, .int .u8 26, .int .u8 40, .int .u8 15, .int .u8 34, .int .u8 20, .int .u8 31, .int .u8 10, .int .u8 25, .int .u8 14, .int .u8 19, .int .u8 9, .int .u8 13, .int .u8 8, .int .u8 7, .int .u8 6]
def c_laid_internal_strconv_uint64pow10 : Array Value := #[.int .u64 1, .int .u64 10, .int .u64 100, .int .u64 1000, .int .u64 10000, .int .u64 100000, .int .u64 1000000, .int .u64 10000000, .int .u64 100000000, .int .u64 1000000000, .int .u64 10000000000, .int .u64 100000000000, .int .u64 1000000000000, .int .u64 10000000000000, .int .u64 100000000000000, .int .u64 1000000000000000, .int .u64 10000000000000000, .int .u64 100000000000000000, .int .u64 1000000000000000000, .int .u64 10000000000000000000]
noncomputable def laidWorld (os : Os) : World := { World.holding Tryd.prog os ⟨#[], #[], []⟩ with heap := ((((World.holding Tryd.prog os ⟨#[], #[], []⟩).heap.modify 2 fun | .cells _ t frozen => .cells c_laid_internal_strconv_uint64pow10 t frozen | o => o).modify 4 fun | .cells _ t frozen => .cells c_laid_math_bits_deBruijn32tab t frozen | o => o).modify 5 fun | .cells _ t frozen => .cells c_laid_math_bits_deBruijn64tab t frozen | o => o) }
abbrev LAID : List (String × DataW Unit) := [("math/bits.deBruijn32tab", Rows.laid_math_bits_deBruijn32tab), ("math/bits.deBruijn64tab", Rows.laid_math_bits_deBruijn64tab), ("internal/strconv.uint64pow10", Rows.laid_internal_strconv_uint64pow10)]
theorem laid_met (os : Os) (args : Array Value) : laidMet Tryd.prog LAID ((laidWorld os).forCall (fun _ _ => 0) ⟨#[], args, []⟩).memory := laidMet_of_run' 8 (by kernel_rfl) (by kernel_rfl)
theorem tab_of_laid {W : World} (h : laidMet Tryd.prog LAID W) : Tab W := by
  have hr := Lib.laidMet.reads h (n := "internal/strconv.uint64pow10") (d := Rows.laid_internal_strconv_uint64pow10) (.tail _ (.tail _ (.head _)))
  obtain ⟨g, t, cs, fuel, p, hg, ht, hvar, hd⟩ := hr
  obtain rfl : 2 = g := Option.some.inj ((show Tryd.prog.globalNamed "internal/strconv.uint64pow10" = some 2 by kernel_rfl).symm.trans hg)
  obtain rfl : 93 = t := Option.some.inj ((show (Tryd.prog.globals[2]?).map (·.type) = some 93 by kernel_rfl).symm.trans ht)
  have e : Rows.laid_internal_strconv_uint64pow10 (H := Unit) = Lib.tabData .u64 Lib.pow10Tab := by kernel_rfl
  rw [e] at hd
  have hc := Lib.cells_of_tab Tryd.underlying93 Tryd.underlying22 (by kernel_rfl) (by kernel_rfl) hd
  unfold Tab Lib.TabIs
  rw [hvar, ← hc]
theorem threeArr : WideMaps.ArrKey Tryd.prog 24 22 3 := ⟨Tryd.underlying24, by kernel_rfl, by kernel_rfl, by kernel_rfl⟩
section
variable {H : Type} {enc : TypeId × Value → H} {w : World} {base : Nat} {spare : Nat → Bool} {held : Bool}
/-- An argument of three numbers. -/
theorem open_three {b0 : Nat} {v : Value} {d : DataW H} {p : List MemPlace} (hv : Value.okWide Tryd.prog w .any b0 24 v) (h : DataW.Trod enc Tryd.prog w base spare held 24 v d p) :
    ∃ a : N3, v = T3 a ∧ d = .agg [.lit (.int .u64 a.x), .lit (.int .u64 a.y), .lit (.int .u64 a.z)] ∧ p = [] ∧ a.ok ∧ (Lit.int .u64 a.x).wf = true ∧ (Lit.int .u64 a.y).wf = true ∧ (Lit.int .u64 a.z).wf = true := by
  obtain ⟨xs, rfl, hsz⟩ := WideMaps.okWide_arr threeArr hv
  obtain ⟨l⟩ := xs
  match l, hsz with
  | [c0, c1, c2], _ =>
  obtain ⟨fuel, h⟩ := h
  have hcells : (Value.agg #[c0, c1, c2]).cells.toList = [c0, c1, c2] := rfl
  rw [hcells] at h
  obtain ⟨y0, y1, y2, n, e, h0, h1, h2⟩ := trod_array3 Tryd.underlying24 (by kernel_rfl) h
  obtain ⟨k0, e0, rfl, w0⟩ := DataW.trod_int Tryd.underlying22 h0
  obtain ⟨k1, e1, rfl, w1⟩ := DataW.trod_int Tryd.underlying22 h1
  obtain ⟨k2, e2, rfl, w2⟩ := DataW.trod_int Tryd.underlying22 h2
  simp only [List.cons.injEq, and_true] at e0 e1 e2
  subst e0 e1 e2
  simp only [List.append_nil, Prod.mk.injEq] at e
  obtain ⟨rfl, rfl⟩ := e
  exact ⟨⟨k0, k1, k2⟩, rfl, rfl, rfl, ⟨M.wf_U w0, M.wf_U w1, M.wf_U w2⟩, w0, w1, w2⟩
theorem shut_three {a : N3} (w0 : (Lit.int .u64 a.x).wf = true) (w1 : (Lit.int .u64 a.y).wf = true) (w2 : (Lit.int .u64 a.z).wf = true) : DataW.Trod enc Tryd.prog w base spare held 24 (T3 a) (.agg [.lit (.int .u64 a.x), .lit (.int .u64 a.y), .lit (.int .u64 a.z)]) [] := by
  have c1 : Tryd.prog.cellsOf 24 = 3 := by kernel_rfl
  have c2 : Tryd.prog.cellsOf 22 = 1 := by kernel_rfl
  refine ⟨2, ?_⟩
  show DataW.trod enc Tryd.prog w base spare held 2 24 [.int .u64 a.x, .int .u64 a.y, .int .u64 a.z] = _
  simp [DataW.trod, Tryd.underlying24, Tryd.underlying22, c1, c2, w0, w1, w2, show List.range 3 = [0, 1, 2] from rfl]
end

end Go.Proofs.YtlpbfhbfaphicaaDoor.L01
