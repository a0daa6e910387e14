/- Layer 1: Whole, walked: the lowest 192 bits. -/
import Derived.Test.YtlpbfhbfaphicaaDoorWord01
import Derived.Test.YtlpbfhbfaphicaaDoorBit01
import Derived.Deep.RegionWith
namespace Go.Proofs.YtlpbfhbfaphicaaDoor.L01
open Go Go.RowKit Go.Proofs.YtlpbfhbfaphicaaDoorW.PrintWords Go.Proofs.YtlpbfhbfaphicaaDoorW.PrintLast Go.Proofs.YtlpbfhbfaphicaaDoorW.PrintMore Go.Proofs.YtlpbfhbfaphicaaDoor.Given Go.Proofs.YtlpbfhbfaphicaaDoor.M Go.Proofs.YtlpbfhbfaphicaaDoor.XB

set_option linter.unusedVariables false
attribute [-go_sem] loadVar storeVar
attribute [local go_sem] lv_u lv_i lv_b lv_3 lv_T sv_u sv_i sv_b sv_3 sv_T
theorem word0 (f : Nat → Bool) (w : World) : Calls Tryd.prog 30 #[TB f, .int .i64 0] w fun e w' => e = .returned (.int .u64 ((num f 0 64 : Nat) : Int)) ∧ Below w.heap.size w w' := word_calls f (p := 0) (by decide) w
theorem word64 (f : Nat → Bool) (w : World) : Calls Tryd.prog 30 #[TB f, .int .i64 64] w fun e w' => e = .returned (.int .u64 ((num f 64 64 : Nat) : Int)) ∧ Below w.heap.size w w' := word_calls f (p := 64) (by decide) w
theorem word128 (f : Nat → Bool) (w : World) : Calls Tryd.prog 30 #[TB f, .int .i64 128] w fun e w' => e = .returned (.int .u64 ((num f 128 64 : Nat) : Int)) ∧ Below w.heap.size w w' := word_calls f (p := 128) (by decide) w
/-- The three parts of the lowest 192 bits. -/
def wholeN (f : Nat → Bool) : N3 := ⟨((num f 0 64 : Nat) : Int), ((num f 64 64 : Nat) : Int), ((num f 128 64 : Nat) : Int)⟩
set_option maxHeartbeats 4000000 in
set_option maxRecDepth 100000 in
theorem whole_calls (f : Nat → Bool) (w : World) : Calls Tryd.prog 21 #[TB f] w fun e w' => e = .returned (T3 (wholeN f)) ∧ Below w.heap.size w w' := by
  obtain ⟨x, hx⟩ : ∃ x : Int, ((num f 0 64 : Nat) : Int) = x := ⟨_, rfl⟩
  obtain ⟨y, hy⟩ : ∃ x : Int, ((num f 64 64 : Nat) : Int) = x := ⟨_, rfl⟩
  obtain ⟨z, hz⟩ : ∃ x : Int, ((num f 128 64 : Nat) : Int) = x := ⟨_, rfl⟩
  have e0 : wholeN f = ⟨x, y, z⟩ := by unfold wholeN; rw [hx, hy, hz]
  have C0 := Aside0.mk (word0 f)
  have C1 := Aside0.mk (word64 f)
  have C2 := Aside0.mk (word128 f)
  rw [hx] at C0
  rw [hy] at C1
  rw [hz] at C2
  rw [e0]
  clear hx hy hz e0
  go_enter Tryd.func21, Tryd.ntmps21
  go_upto_region 1 with (fail)
  have HB : Aside0 (Below w.heap.size w ((w.alloc (Obj.cells (bA f) 29)).alloc (Obj.cells (cs3 ⟨0, 0, 0⟩) 23))) := ⟨below_alloc (below_alloc (Below.refl _ _) _) _⟩
  have Bf : Aside0 (BoxB ((w.alloc (Obj.cells (bA f) 29)).alloc (Obj.cells (cs3 ⟨0, 0, 0⟩) 23)) w.heap.size f) := ⟨(BoxB.new w f).alloc _⟩
  have Bz : Aside0 (Box23 ((w.alloc (Obj.cells (bA f) 29)).alloc (Obj.cells (cs3 ⟨0, 0, 0⟩) 23)) (w.heap.size + 1) ⟨0, 0, 0⟩) := ⟨Box23.new' (by simp only [World.size_alloc])⟩
  generalize ((w.alloc (Obj.cells (bA f) 29)).alloc (Obj.cells #[.int .u64 0, .int .u64 0, .int .u64 0] 23)) = W0 at HB Bf Bz ⊢
  have hl := lv_bits Bf.out
  have hl2 := lv_bits Bf.out.drew
  obtain ⟨⟨z0, z1, z2⟩, ⟨y0, y1, y2⟩, zl⟩ := Bz.out.facts
  go_region_with (first
    | (go_at_call 30; (with_reducible refine (C0.out _).mono ?_); rintro e w2 ⟨rfl, hb⟩; have HN := Aside0.mk (below_step (w := w) (by repeat (with_reducible first | exact HB.out | apply below_drew1)) hb); have Kf := Aside0.mk (BoxB.kept (by repeat (with_reducible first | exact Bf.out | apply BoxB.drew)) hb); have Kz := Aside0.mk (Box23.kept (by repeat (with_reducible first | exact Bz.out | apply Box23.drew)) hb); clear hl z0 z1 z2 y0 y1 y2 zl; (try clear hl2); have hl := lv_bits Kf.out; obtain ⟨⟨z0, z1, z2⟩, ⟨y0, y1, y2⟩, zl⟩ := Kz.out.facts; clear hb HB Bf Bz; have HB := HN; have Bf := Kf; have Bz := Kz; clear HN Kf Kz) 
    | (go_at_call 30; (with_reducible refine (C1.out _).mono ?_); rintro e w2 ⟨rfl, hb⟩; have HN := Aside0.mk (below_step (w := w) (by repeat (with_reducible first | exact HB.out | apply below_drew1)) hb); have Kf := Aside0.mk (BoxB.kept (by repeat (with_reducible first | exact Bf.out | apply BoxB.drew)) hb); have Kz := Aside0.mk (Box23.kept (by repeat (with_reducible first | exact Bz.out | apply Box23.drew)) hb); clear hl z0 z1 z2 y0 y1 y2 zl; (try clear hl2); have hl := lv_bits Kf.out; obtain ⟨⟨z0, z1, z2⟩, ⟨y0, y1, y2⟩, zl⟩ := Kz.out.facts; clear hb HB Bf Bz; have HB := HN; have Bf := Kf; have Bz := Kz; clear HN Kf Kz) 
    | (go_at_call 30; (with_reducible refine (C2.out _).mono ?_); rintro e w2 ⟨rfl, hb⟩; have HN := Aside0.mk (below_step (w := w) (by repeat (with_reducible first | exact HB.out | apply below_drew1)) hb); have Kf := Aside0.mk (BoxB.kept (by repeat (with_reducible first | exact Bf.out | apply BoxB.drew)) hb); have Kz := Aside0.mk (Box23.kept (by repeat (with_reducible first | exact Bz.out | apply Box23.drew)) hb); clear hl z0 z1 z2 y0 y1 y2 zl; (try clear hl2); have hl := lv_bits Kf.out; obtain ⟨⟨z0, z1, z2⟩, ⟨y0, y1, y2⟩, zl⟩ := Kz.out.facts; clear hb HB Bf Bz; have HB := HN; have Bf := Kf; have Bz := Kz; clear HN Kf Kz))
  all_goals go_wp2
  all_goals exact bodyPost_ret (v := T3 ⟨x, y, z⟩) (by simp [results, Tryd.results21, go_sem, z0, z1, z2, Result.andThen]) rfl ⟨rfl, by repeat (first | exact HB.out | (refine below_set ?_ (by omega)))⟩
end Go.Proofs.YtlpbfhbfaphicaaDoor.L01
