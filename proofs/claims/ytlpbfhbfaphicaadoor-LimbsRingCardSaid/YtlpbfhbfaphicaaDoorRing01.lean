/- Layer 1: LimbsRing: sums taken away again, in any order, opposites: walked. -/
import Derived.Test.YtlpbfhbfaphicaaDoorSpr01
import Derived.Deep.RegionWith
namespace Go.Proofs.YtlpbfhbfaphicaaDoor.L01
open Go Go.RowKit Go.Lib Go.Proofs.YtlpbfhbfaphicaaDoorW.PrintWords Go.Proofs.YtlpbfhbfaphicaaDoorW.PrintLast Go.Proofs.YtlpbfhbfaphicaaDoorW.PrintMore Go.Proofs.YtlpbfhbfaphicaaDoor.Given Go.Proofs.YtlpbfhbfaphicaaDoor.M

set_option linter.unusedVariables false
section
variable {a b c d e f g h s t : Int} {k3 k4 k5 k6 k7 k8 k9 : Int}
theorem ring_xy {A B C s3 s4 s5 s6 : N3} (h3 : s3.V + 6277101735386680763835789423207666416102355444464034512896 * k3 = A.V + B.V) (h4 : s4.V + 6277101735386680763835789423207666416102355444464034512896 * k4 = B.V + C.V) (h5 : s5.V + 6277101735386680763835789423207666416102355444464034512896 * k5 = s3.V + C.V) (h6 : s6.V + 6277101735386680763835789423207666416102355444464034512896 * k6 = A.V + s4.V) : s5.V - s6.V = 6277101735386680763835789423207666416102355444464034512896 * (k4 + k6 - k3 - k5) := by
  have key : ∀ A B C s3 s4 s5 s6 : Int, s3 + 6277101735386680763835789423207666416102355444464034512896 * k3 = A + B → s4 + 6277101735386680763835789423207666416102355444464034512896 * k4 = B + C → s5 + 6277101735386680763835789423207666416102355444464034512896 * k5 = s3 + C → s6 + 6277101735386680763835789423207666416102355444464034512896 * k6 = A + s4 → s5 - s6 = 6277101735386680763835789423207666416102355444464034512896 * (k4 + k6 - k3 - k5) := by omega
  exact key _ _ _ _ _ _ _ h3 h4 h5 h6
theorem ring_ba {A B s3 s7 : N3} (h3 : s3.V + 6277101735386680763835789423207666416102355444464034512896 * k3 = A.V + B.V) (h7 : s7.V - 6277101735386680763835789423207666416102355444464034512896 * k7 = s3.V - B.V) : s7.V - A.V = 6277101735386680763835789423207666416102355444464034512896 * (k7 - k3) := by
  have key : ∀ A B s3 s7 : Int, s3 + 6277101735386680763835789423207666416102355444464034512896 * k3 = A + B → s7 - 6277101735386680763835789423207666416102355444464034512896 * k7 = s3 - B → s7 - A = 6277101735386680763835789423207666416102355444464034512896 * (k7 - k3) := by omega
  exact key _ _ _ _ h3 h7
theorem ring_z {A s8 s9 : N3} (h8 : s8.V - 6277101735386680763835789423207666416102355444464034512896 * k8 = -A.V) (h9 : s9.V + 6277101735386680763835789423207666416102355444464034512896 * k9 = A.V + s8.V) : s9.V - (⟨0, 0, 0⟩ : N3).V = 6277101735386680763835789423207666416102355444464034512896 * (k8 - k9) := by
  have key : ∀ A s8 s9 : Int, s8 - 6277101735386680763835789423207666416102355444464034512896 * k8 = -A → s9 + 6277101735386680763835789423207666416102355444464034512896 * k9 = A + s8 → s9 - 0 = 6277101735386680763835789423207666416102355444464034512896 * (k8 - k9) := by omega
  exact key _ _ _ h8 h9
end
set_option maxHeartbeats 2000000 in
set_option maxRecDepth 100000 in
theorem ring_walk {a b c : N3} (ha : a.ok) (hb : b.ok) (hc : c.ok) (w : World) (htab : Tab w) : Calls Tryd.prog 4 #[T3 a, T3 b, T3 c] w fun e w' => e = .returned (.bool true) ∧ Below w.heap.size w w' := by
  have HT := Aside0.mk htab
  have HA := Aside0.mk ha
  have HB' := Aside0.mk hb
  have HC := Aside0.mk hc
  clear htab ha hb hc
  go_enter Tryd.func4, Tryd.ntmps4
  go_upto_region 1 with (fail)
  have HB : Aside0 (Below w.heap.size w (((w.alloc (Obj.cells (cs3 a) 24)).alloc (Obj.cells (cs3 b) 24)).alloc (Obj.cells (cs3 c) 24))) := ⟨below_alloc (below_alloc (below_alloc (Below.refl _ _) _) _) _⟩
  have Ba : Aside0 (Box3 (((w.alloc (Obj.cells (cs3 a) 24)).alloc (Obj.cells (cs3 b) 24)).alloc (Obj.cells (cs3 c) 24)) w.heap.size a) := ⟨((Box3.new w a).alloc _).alloc _⟩
  have Bb : Aside0 (Box3 (((w.alloc (Obj.cells (cs3 a) 24)).alloc (Obj.cells (cs3 b) 24)).alloc (Obj.cells (cs3 c) 24)) (w.heap.size + 1) b) := ⟨(Box3.new' (by simp only [World.size_alloc])).alloc _⟩
  have Bc : Aside0 (Box3 (((w.alloc (Obj.cells (cs3 a) 24)).alloc (Obj.cells (cs3 b) 24)).alloc (Obj.cells (cs3 c) 24)) (w.heap.size + 1 + 1) c) := ⟨Box3.new' (by simp only [World.size_alloc])⟩
  generalize (((w.alloc (Obj.cells #[.int .u64 a.x, .int .u64 a.y, .int .u64 a.z] 24)).alloc (Obj.cells #[.int .u64 b.x, .int .u64 b.y, .int .u64 b.z] 24)).alloc (Obj.cells #[.int .u64 c.x, .int .u64 c.y, .int .u64 c.z] 24)) = W0 at HB Ba Bb Bc ⊢
  have CA := Aside0.mk (fun (W : World) (h : Below w.heap.size w W) => alive_calls W (tab_below HT.out h))
  go_upto_region 3 with (go_at_call 10; (with_reducible refine (CA.out _ HB.out).mono ?_); rintro e w2 ⟨rfl, hb⟩; have HN := Aside0.mk (below_step HB.out hb); have Ka := Aside0.mk (Ba.out.kept hb); have Kb := Aside0.mk (Bb.out.kept hb); have Kc := Aside0.mk (Bc.out.kept hb); clear hb HB Ba Bb Bc)
  have HB := HN
  have Ba := Ka
  have Bb := Kb
  have Bc := Kc
  clear HN Ka Kb Kc
  obtain ⟨⟨la0, la1, la2⟩, ⟨fa0, fa1, fa2⟩, na⟩ := Ba.out.facts
  obtain ⟨⟨lb0, lb1, lb2⟩, ⟨fb0, fb1, fb2⟩, nb⟩ := Bb.out.facts
  go_upto_region 4 with (go_at_call 14; (with_reducible refine (add_calls (a := a) (b := b) HA.out HB'.out _).mono ?_); rintro e w3 ⟨s3, c3, rfl, hb, hs⟩; have H3 := Aside0.mk hs; have HN := Aside0.mk (below_step HB.out hb); have Ka := Aside0.mk (Ba.out.kept hb); have Kb := Aside0.mk (Bb.out.kept hb); have Kc := Aside0.mk (Bc.out.kept hb); clear hs hb HB la0 la1 la2 fa0 fa1 fa2 na Ba lb0 lb1 lb2 fb0 fb1 fb2 nb Bb Bc)
  have HB : Aside0 (Below w.heap.size w (w3.alloc (Obj.cells (cs3 s3) 24))) := ⟨below_alloc HN.out _⟩
  have Ba := Aside0.mk (Ka.out.alloc (Obj.cells (cs3 s3) 24))
  have Bb := Aside0.mk (Kb.out.alloc (Obj.cells (cs3 s3) 24))
  have Bc := Aside0.mk (Kc.out.alloc (Obj.cells (cs3 s3) 24))
  have Bd := Aside0.mk (Box3.new w3 s3)
  clear HN Ka Kb Kc
  generalize w3.heap.size = gd at Bd ⊢
  generalize (w3.alloc (Obj.cells #[.int .u64 s3.x, .int .u64 s3.y, .int .u64 s3.z] 24)) = W3 at HB Ba Bb Bc Bd ⊢
  obtain ⟨⟨lb0, lb1, lb2⟩, ⟨fb0, fb1, fb2⟩, nb⟩ := Bb.out.facts
  obtain ⟨⟨lc0, lc1, lc2⟩, ⟨fc0, fc1, fc2⟩, nc⟩ := Bc.out.facts
  go_upto_region 5 with (go_at_call 14; (with_reducible refine (add_calls (a := b) (b := c) HB'.out HC.out _).mono ?_); rintro e w4 ⟨s4, c4, rfl, hb, hs⟩; have H4 := Aside0.mk hs; have HN := Aside0.mk (below_step HB.out hb); have Ka := Aside0.mk (Ba.out.kept hb); have Kb := Aside0.mk (Bb.out.kept hb); have Kc := Aside0.mk (Bc.out.kept hb); have Kd := Aside0.mk (Bd.out.kept hb); clear hs hb HB Ba lb0 lb1 lb2 fb0 fb1 fb2 nb Bb lc0 lc1 lc2 fc0 fc1 fc2 nc Bc Bd)
  have HB : Aside0 (Below w.heap.size w (w4.alloc (Obj.cells (cs3 s4) 24))) := ⟨below_alloc HN.out _⟩
  have Ba := Aside0.mk (Ka.out.alloc (Obj.cells (cs3 s4) 24))
  have Bb := Aside0.mk (Kb.out.alloc (Obj.cells (cs3 s4) 24))
  have Bc := Aside0.mk (Kc.out.alloc (Obj.cells (cs3 s4) 24))
  have Bd := Aside0.mk (Kd.out.alloc (Obj.cells (cs3 s4) 24))
  have Be := Aside0.mk (Box3.new w4 s4)
  clear HN Ka Kb Kc Kd
  generalize w4.heap.size = ge at Be ⊢
  generalize (w4.alloc (Obj.cells #[.int .u64 s4.x, .int .u64 s4.y, .int .u64 s4.z] 24)) = W4 at HB Ba Bb Bc Bd Be ⊢
  obtain ⟨⟨ld0, ld1, ld2⟩, ⟨fd0, fd1, fd2⟩, nd⟩ := Bd.out.facts
  obtain ⟨⟨lc0, lc1, lc2⟩, ⟨fc0, fc1, fc2⟩, nc⟩ := Bc.out.facts
  go_upto_region 6 with (go_at_call 14; (with_reducible refine (add_calls (a := s3) (b := c) H3.out.1 HC.out _).mono ?_); rintro e w5 ⟨s5, c5, rfl, hb, hs⟩; have H5 := Aside0.mk hs; have HN := Aside0.mk (below_step HB.out hb); have Ka := Aside0.mk (Ba.out.kept hb); have Kb := Aside0.mk (Bb.out.kept hb); have Kc := Aside0.mk (Bc.out.kept hb); have Kd := Aside0.mk (Bd.out.kept hb); have Ke := Aside0.mk (Be.out.kept hb); clear hs hb HB Ba Bb lc0 lc1 lc2 fc0 fc1 fc2 nc Bc ld0 ld1 ld2 fd0 fd1 fd2 nd Bd Be)
  have HB : Aside0 (Below w.heap.size w (w5.alloc (Obj.cells (cs3 s5) 24))) := ⟨below_alloc HN.out _⟩
  have Ba := Aside0.mk (Ka.out.alloc (Obj.cells (cs3 s5) 24))
  have Bb := Aside0.mk (Kb.out.alloc (Obj.cells (cs3 s5) 24))
  have Bc := Aside0.mk (Kc.out.alloc (Obj.cells (cs3 s5) 24))
  have Bd := Aside0.mk (Kd.out.alloc (Obj.cells (cs3 s5) 24))
  have Be := Aside0.mk (Ke.out.alloc (Obj.cells (cs3 s5) 24))
  have Bf := Aside0.mk (Box3.new w5 s5)
  clear HN Ka Kb Kc Kd Ke
  generalize w5.heap.size = gf at Bf ⊢
  generalize (w5.alloc (Obj.cells #[.int .u64 s5.x, .int .u64 s5.y, .int .u64 s5.z] 24)) = W5 at HB Ba Bb Bc Bd Be Bf ⊢
  obtain ⟨⟨la0, la1, la2⟩, ⟨fa0, fa1, fa2⟩, na⟩ := Ba.out.facts
  obtain ⟨⟨le0, le1, le2⟩, ⟨fe0, fe1, fe2⟩, ne⟩ := Be.out.facts
  go_upto_region 7 with (go_at_call 14; (with_reducible refine (add_calls (a := a) (b := s4) HA.out H4.out.1 _).mono ?_); rintro e w6 ⟨s6, c6, rfl, hb, hs⟩; have H6 := Aside0.mk hs; have HN := Aside0.mk (below_step HB.out hb); have Ka := Aside0.mk (Ba.out.kept hb); have Kb := Aside0.mk (Bb.out.kept hb); have Kd := Aside0.mk (Bd.out.kept hb); have Ke := Aside0.mk (Be.out.kept hb); have Kf := Aside0.mk (Bf.out.kept hb); clear hs hb HB la0 la1 la2 fa0 fa1 fa2 na Ba Bb Bd le0 le1 le2 fe0 fe1 fe2 ne Be Bf)
  have HB : Aside0 (Below w.heap.size w (w6.alloc (Obj.cells (cs3 s6) 24))) := ⟨below_alloc HN.out _⟩
  have Ba := Aside0.mk (Ka.out.alloc (Obj.cells (cs3 s6) 24))
  have Bb := Aside0.mk (Kb.out.alloc (Obj.cells (cs3 s6) 24))
  have Bd := Aside0.mk (Kd.out.alloc (Obj.cells (cs3 s6) 24))
  have Be := Aside0.mk (Ke.out.alloc (Obj.cells (cs3 s6) 24))
  have Bf := Aside0.mk (Kf.out.alloc (Obj.cells (cs3 s6) 24))
  have Bh := Aside0.mk (Box3.new w6 s6)
  clear HN Ka Kb Kd Ke Kf
  generalize w6.heap.size = gh at Bh ⊢
  generalize (w6.alloc (Obj.cells #[.int .u64 s6.x, .int .u64 s6.y, .int .u64 s6.z] 24)) = W6 at HB Ba Bb Bd Be Bf Bh ⊢
  obtain ⟨⟨ld0, ld1, ld2⟩, ⟨fd0, fd1, fd2⟩, nd⟩ := Bd.out.facts
  obtain ⟨⟨lb0, lb1, lb2⟩, ⟨fb0, fb1, fb2⟩, nb⟩ := Bb.out.facts
  go_upto_region 8 with (go_at_call 15; (with_reducible refine (sub_calls (a := s3) (b := b) H3.out.1 HB'.out _).mono ?_); rintro e w7 ⟨s7, c7, rfl, hb, hs⟩; have H7 := Aside0.mk hs; have HN := Aside0.mk (below_step HB.out hb); have Ka := Aside0.mk (Ba.out.kept hb); have Kb := Aside0.mk (Bb.out.kept hb); have Kd := Aside0.mk (Bd.out.kept hb); have Kf := Aside0.mk (Bf.out.kept hb); have Kh := Aside0.mk (Bh.out.kept hb); clear hs hb HB Ba lb0 lb1 lb2 fb0 fb1 fb2 nb Bb ld0 ld1 ld2 fd0 fd1 fd2 nd Bd Bf Bh)
  have HB : Aside0 (Below w.heap.size w (w7.alloc (Obj.cells (cs3 s7) 24))) := ⟨below_alloc HN.out _⟩
  have Ba := Aside0.mk (Ka.out.alloc (Obj.cells (cs3 s7) 24))
  have Bb := Aside0.mk (Kb.out.alloc (Obj.cells (cs3 s7) 24))
  have Bd := Aside0.mk (Kd.out.alloc (Obj.cells (cs3 s7) 24))
  have Bf := Aside0.mk (Kf.out.alloc (Obj.cells (cs3 s7) 24))
  have Bh := Aside0.mk (Kh.out.alloc (Obj.cells (cs3 s7) 24))
  have Bi := Aside0.mk (Box3.new w7 s7)
  clear HN Ka Kb Kd Kf Kh
  generalize w7.heap.size = gi at Bi ⊢
  generalize (w7.alloc (Obj.cells #[.int .u64 s7.x, .int .u64 s7.y, .int .u64 s7.z] 24)) = W7 at HB Ba Bb Bd Bf Bh Bi ⊢
  obtain ⟨⟨la0, la1, la2⟩, ⟨fa0, fa1, fa2⟩, na⟩ := (Ba.out.drew).facts
  obtain ⟨⟨pa0, pa1, pa2⟩, _, _⟩ := (Ba.out.drew.alloc (Obj.cells #[Value.int IntKind.u64 0, Value.int IntKind.u64 0, Value.int IntKind.u64 0] 24)).facts
  obtain ⟨⟨xa0, xa1, xa2⟩, ⟨ya0, ya1, ya2⟩, na'⟩ := Ba.out.facts
  have nf' := Bf.out.facts.2.2
  have nh' := Bh.out.facts.2.2
  have ni' := Bi.out.facts.2.2
  go_region_with (first
    | (go_at_call 16; (with_reducible refine (neg_calls (a := a) HA.out _).mono ?_); rintro e w8 ⟨s8, c8, rfl, hb, hs⟩; have H8 := Aside0.mk hs; have HN := Aside0.mk (below_step (w := w) (by repeat (with_reducible first | exact HB.out | apply below_alloc | apply below_drew1 | (refine below_set ?_ (by omega)))) hb); have Ka := Aside0.mk (Box3.kept (by repeat (with_reducible first | exact Ba.out | apply Box3.alloc | apply Box3.drew)) hb); have Kf := Aside0.mk (Box3.kept (by repeat (with_reducible first | exact Bf.out | apply Box3.alloc | apply Box3.drew)) hb); have Kh := Aside0.mk (Box3.kept (by repeat (with_reducible first | exact Bh.out | apply Box3.alloc | apply Box3.drew)) hb); have Ki := Aside0.mk (Box3.kept (by repeat (with_reducible first | exact Bi.out | apply Box3.alloc | apply Box3.drew)) hb); (first | (have Kz := Aside0.mk (Box3.kept (Box3.new' (W := W7.drew) (g := W7.heap.size) (a := ⟨0, 0, 0⟩) rfl) hb)) | (have Kz := Aside0.mk (Box3.kept (Box3.new' (g := w8.heap.size) (a := ⟨0, 0, 0⟩) rfl) hb)) | (have Kz := Aside0.mk (Box3.kept Bz.out hb)) | skip); clear la0 la1 la2 fa0 fa1 fa2; clear pa0 pa1 pa2; obtain ⟨⟨la0, la1, la2⟩, ⟨fa0, fa1, fa2⟩, na⟩ := Ka.out.facts; obtain ⟨⟨pa0, pa1, pa2⟩, _, _⟩ := (Ka.out.alloc (Obj.cells #[Value.int IntKind.u64 0, Value.int IntKind.u64 0, Value.int IntKind.u64 0] 24)).facts; have nf := Kf.out.facts.2.2; have nh := Kh.out.facts.2.2; have ni := Ki.out.facts.2.2; (try obtain ⟨⟨lz0, lz1, lz2⟩, ⟨fz0, fz1, fz2⟩, nz⟩ := Kz.out.facts); clear hs hb HB Ba Bf Bh Bi; (try clear Bz); have HB := HN; have Ba := Ka; have Bf := Kf; have Bh := Kh; have Bi := Ki; (try have Bz := Kz); clear HN Ka Kf Kh Ki; (try clear Kz))
    | (go_at_call 14; (with_reducible refine (add_calls (a := a) (b := s8) HA.out H8.out.1 _).mono ?_); rintro e w9 ⟨s9, c9, rfl, hb, hs⟩; have H9 := Aside0.mk hs; have HN := Aside0.mk (below_step (w := w) (by repeat (with_reducible first | exact HB.out | apply below_alloc | apply below_drew1 | (refine below_set ?_ (by omega)))) hb); have Ka := Aside0.mk (Box3.kept (by repeat (with_reducible first | exact Ba.out | apply Box3.alloc | apply Box3.drew)) hb); have Kf := Aside0.mk (Box3.kept (by repeat (with_reducible first | exact Bf.out | apply Box3.alloc | apply Box3.drew)) hb); have Kh := Aside0.mk (Box3.kept (by repeat (with_reducible first | exact Bh.out | apply Box3.alloc | apply Box3.drew)) hb); have Ki := Aside0.mk (Box3.kept (by repeat (with_reducible first | exact Bi.out | apply Box3.alloc | apply Box3.drew)) hb); (first | (have Kz := Aside0.mk (Box3.kept (Box3.new' (W := W7.drew) (g := W7.heap.size) (a := ⟨0, 0, 0⟩) rfl) hb)) | (have Kz := Aside0.mk (Box3.kept (Box3.new' (g := w8.heap.size) (a := ⟨0, 0, 0⟩) rfl) hb)) | (have Kz := Aside0.mk (Box3.kept Bz.out hb)) | skip); clear la0 la1 la2 fa0 fa1 fa2; clear pa0 pa1 pa2; obtain ⟨⟨la0, la1, la2⟩, ⟨fa0, fa1, fa2⟩, na⟩ := Ka.out.facts; obtain ⟨⟨pa0, pa1, pa2⟩, _, _⟩ := (Ka.out.alloc (Obj.cells #[Value.int IntKind.u64 0, Value.int IntKind.u64 0, Value.int IntKind.u64 0] 24)).facts; have nf := Kf.out.facts.2.2; have nh := Kh.out.facts.2.2; have ni := Ki.out.facts.2.2; (try obtain ⟨⟨lz0, lz1, lz2⟩, ⟨fz0, fz1, fz2⟩, nz⟩ := Kz.out.facts); clear hs hb HB Ba Bf Bh Bi; (try clear Bz); have HB := HN; have Ba := Ka; have Bf := Kf; have Bh := Kh; have Bi := Ki; (try have Bz := Kz); clear HN Ka Kf Kh Ki; (try clear Kz)))
  all_goals (go_upto_region 9 with (fail))
  all_goals (
    have hxy : s5 = s6 := N3.eq_of H5.out.1 H6.out.1 (c4 + c6 - c3 - c5) (by
      have h3 := H3.out.2.2.2
      have h4 := H4.out.2.2.2
      have h5 := H5.out.2.2.2
      have h6 := H6.out.2.2.2
      exact ring_xy h3 h4 h5 h6)
    have hba : s7 = a := N3.eq_of H7.out.1 HA.out (c7 - c3) (ring_ba H3.out.2.2.2 H7.out.2.2.2)
    have hz0 : s9 = ⟨0, 0, 0⟩ := N3.eq_of H9.out.1 z_ok (c8 - c9) (ring_z H8.out.2.2.2 H9.out.2.2.2)
    have E3a := eq3_t 24 Tryd.underlying24 s5.x s5.y s5.z s6.x s6.y s6.z
    rw [decide_eq_true ⟨congrArg N3.x hxy, congrArg N3.y hxy, congrArg N3.z hxy⟩] at E3a
    have E3b := eq3_t 24 Tryd.underlying24 s7.x s7.y s7.z a.x a.y a.z
    rw [decide_eq_true ⟨congrArg N3.x hba, congrArg N3.y hba, congrArg N3.z hba⟩] at E3b
    have E3c := eq3_t 24 Tryd.underlying24 s9.x s9.y s9.z 0 0 0
    rw [decide_eq_true ⟨congrArg N3.x hz0, congrArg N3.y hz0, congrArg N3.z hz0⟩] at E3c
    refine with5 (w := w) (g1 := w.heap.size) (g2 := gf) (g3 := gh) (g4 := gi) (a1 := a) (a2 := s5) (a3 := s6) (a4 := s7) (a5 := s9) (by repeat (with_reducible first | exact HB.out | apply below_alloc | (refine below_set ?_ (by omega)))) (by repeat (with_reducible first | exact Ba.out | apply Box3.alloc | (refine Box3.far ?_ (by omega)))) (by repeat (with_reducible first | exact Bf.out | apply Box3.alloc | (refine Box3.far ?_ (by omega)))) (by repeat (with_reducible first | exact Bh.out | apply Box3.alloc | (refine Box3.far ?_ (by omega)))) (by repeat (with_reducible first | exact Bi.out | apply Box3.alloc | (refine Box3.far ?_ (by omega)))) (by first | exact Box3.put Bz.out | exact Box3.new w9 s9) ?_
    clear la0 la1 la2 fa0 fa1 fa2 na nf nh ni pa0 pa1 pa2 xa0 xa1 xa2 ya0 ya1 ya2 na' nf' nh' ni' HB Ba Bf Bh Bi hxy hba hz0
    (try clear lz0 lz1 lz2 fz0 fz1 fz2 nz)
    (try clear Bz)
    intro W' hB ha' hf' hh' hi' hz'
    have HB := Aside0.mk hB
    obtain ⟨⟨la0, la1, la2⟩, ⟨fa0, fa1, fa2⟩, na⟩ := ha'.facts
    obtain ⟨⟨lf0, lf1, lf2⟩, ⟨ff0, ff1, ff2⟩, nf⟩ := hf'.facts
    obtain ⟨⟨lh0, lh1, lh2⟩, ⟨fh0, fh1, fh2⟩, nh⟩ := hh'.facts
    obtain ⟨⟨li0, li1, li2⟩, ⟨fi0, fi1, fi2⟩, ni⟩ := hi'.facts
    obtain ⟨⟨lz0, lz1, lz2⟩, ⟨fz0, fz1, fz2⟩, nz⟩ := hz'.facts
    clear hB ha' hf' hh' hi' hz'
    go_wp2
    go_ret
    exact ⟨rfl, HB.out⟩)

end Go.Proofs.YtlpbfhbfaphicaaDoor.L01
