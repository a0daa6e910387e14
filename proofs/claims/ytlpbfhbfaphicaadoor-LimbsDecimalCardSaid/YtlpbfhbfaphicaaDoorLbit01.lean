/- Layer 1: bit, walked. -/
import Derived.Test.YtlpbfhbfaphicaaDoorTurn01
namespace Go.Proofs.YtlpbfhbfaphicaaDoor.L01
open Go Go.RowKit Go.Proofs.YtlpbfhbfaphicaaDoorW.PrintWords Go.Proofs.YtlpbfhbfaphicaaDoorW.PrintLast Go.Proofs.YtlpbfhbfaphicaaDoorW.PrintMore Go.Proofs.YtlpbfhbfaphicaaDoor.Given Go.Proofs.YtlpbfhbfaphicaaDoor.M Go.Proofs.YtlpbfhbfaphicaaDoor.XB

set_option linter.unusedVariables false
attribute [-go_sem] loadVar storeVar
attribute [local go_sem] lv_u lv_i lv_b lv_3 lv_T sv_u sv_i sv_b sv_3 sv_T
set_option maxHeartbeats 1000000 in
set_option maxRecDepth 100000 in
theorem lbit_calls {a : N3} (ha : a.ok) (w : World) : Calls Tryd.prog 13 #[T3 a] w fun e w' => e = .returned (TB (bt a.n)) ∧ Below w.heap.size w w' := by
  have CB := Aside0.mk (bit_calls ha)
  clear ha
  have hz := zero_bits
  go_enter Tryd.func13, Tryd.ntmps13
  go_upto_region 1 with (fail)
  have HG : Aside0 (Below w.heap.size w ((w.alloc (Obj.cells (cs3 a) 24)).alloc (Obj.cells (bA none') 29))) := ⟨by repeat (first | exact Below.refl _ _ | apply below_alloc)⟩
  have HR : Aside0 (BoxB ((w.alloc (Obj.cells (cs3 a) 24)).alloc (Obj.cells (bA none') 29)) (w.heap.size + 1) none') := ⟨BoxB.new' (by simp only [World.size_alloc])⟩
  have Ba : Aside0 (Box3 ((w.alloc (Obj.cells (cs3 a) 24)).alloc (Obj.cells (bA none') 29)) w.heap.size a) := ⟨(Box3.new w a).alloc _⟩
  generalize ((w.alloc (Obj.cells #[.int .u64 a.x, .int .u64 a.y, .int .u64 a.z] 24)).alloc (Obj.cells (bA none') 29)) = W0 at HG HR Ba ⊢
  obtain ⟨⟨l0, l1, l2⟩, ⟨f0, f1, f2⟩, nl⟩ := Ba.out.facts
  clear hz
  go_wp2_with (go_at_call 36; (with_reducible refine (CB.out _).mono ?_); rintro e w2 ⟨rfl, hb⟩; have HE := Aside0.mk (below_row (c := bA (bt a.n)) (below_step HG.out hb) (Nat.le_succ w.heap.size)); have hs := sv_bits (f' := bt a.n) (HR.out.kept hb); have hl2 := lv_bits (BoxB.row (f' := bt a.n) (HR.out.kept hb)))
  exact bodyPost_ret (v := TB (bt a.n)) (by simp [results, Tryd.results13, go_sem, hl2]) rfl ⟨rfl, HE.out⟩
end Go.Proofs.YtlpbfhbfaphicaaDoor.L01
