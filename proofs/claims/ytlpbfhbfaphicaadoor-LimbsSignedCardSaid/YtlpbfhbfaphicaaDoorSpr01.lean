/- Layer 1: LimbsSpreads: a product of a sum is the sum of the products, going round: walked. -/
import Derived.Test.YtlpbfhbfaphicaaDoorAliv01
namespace Go.Proofs.YtlpbfhbfaphicaaDoor.L01
open Go Go.RowKit Go.Lib Go.Proofs.YtlpbfhbfaphicaaDoorW.PrintWords Go.Proofs.YtlpbfhbfaphicaaDoorW.PrintLast Go.Proofs.YtlpbfhbfaphicaaDoorW.PrintMore Go.Proofs.YtlpbfhbfaphicaaDoor.Given Go.Proofs.YtlpbfhbfaphicaaDoor.M

set_option linter.unusedVariables false
/-- Two numbers of 192 bits that differ by whole rounds are one. -/
theorem N3.eq_of {s t : N3} (hs : s.ok) (ht : t.ok) (m : Int) (h : s.V - t.V = 6277101735386680763835789423207666416102355444464034512896 * m) : s = t := by
  obtain ⟨s0, s1, s2⟩ := s
  obtain ⟨t0, t1, t2⟩ := t
  obtain ⟨⟨u0, u1, u2⟩, ⟨v0, v1, v2⟩⟩ := And.intro hs ht
  unfold M.U at *
  unfold N3.V at h
  dsimp only at *
  have : s0 = t0 ∧ s1 = t1 ∧ s2 = t2 := by omega
  obtain ⟨rfl, rfl, rfl⟩ := this
  rfl
theorem V_scale (a : N3) (k : Int) : a.x * k + 18446744073709551616 * (a.y * k) + 340282366920938463463374607431768211456 * (a.z * k) = a.V * k := by
  unfold N3.V
  rw [Int.add_mul, Int.add_mul, Int.mul_assoc, Int.mul_assoc]
theorem spreads_eq {a b d e f h i : N3} {k c3 c4 c5 c6 c7 : Int} (hd : d.ok) (he : e.ok) (hi : i.ok)
    (h3 : d.V + 6277101735386680763835789423207666416102355444464034512896 * c3 = a.V + b.V) (h4 : e.V + 6277101735386680763835789423207666416102355444464034512896 * c4 = d.V * k) (h5 : f.V + 6277101735386680763835789423207666416102355444464034512896 * c5 = a.V * k) (h6 : h.V + 6277101735386680763835789423207666416102355444464034512896 * c6 = b.V * k) (h7 : i.V + 6277101735386680763835789423207666416102355444464034512896 * c7 = f.V + h.V) : e = i := by
  refine N3.eq_of he hi (c5 + c6 + c7 - c4 - c3 * k) ?_
  have key : ∀ D A B E F H I : Int, D + 6277101735386680763835789423207666416102355444464034512896 * c3 = A + B → E + 6277101735386680763835789423207666416102355444464034512896 * c4 = D * k → F + 6277101735386680763835789423207666416102355444464034512896 * c5 = A * k → H + 6277101735386680763835789423207666416102355444464034512896 * c6 = B * k → I + 6277101735386680763835789423207666416102355444464034512896 * c7 = F + H → E - I = 6277101735386680763835789423207666416102355444464034512896 * (c5 + c6 + c7 - c4 - c3 * k) := by
    intro D A B E F H I h3 h4 h5 h6 h7
    have e1 : D * k + 6277101735386680763835789423207666416102355444464034512896 * (c3 * k) = A * k + B * k := by rw [← Int.add_mul, ← h3, Int.add_mul, Int.mul_assoc]
    generalize c3 * k = p at *
    generalize D * k = q at *
    generalize A * k = r at *
    generalize B * k = s at *
    omega
  exact key _ _ _ _ _ _ _ h3 h4 h5 h6 h7
set_option maxHeartbeats 2000000 in
set_option maxRecDepth 100000 in
theorem spreads_walk {a b : N3} {k : Int} (ha : a.ok) (hb : b.ok) (hk : M.U k) (w : World) (htab : Tab w) : Calls Tryd.prog 7 #[T3 a, T3 b, .int .u64 k] w fun e w' => e = .returned (.bool true) ∧ Below w.heap.size w w' := by
  have HT := Aside0.mk htab
  have HA := Aside0.mk ha
  have HB' := Aside0.mk hb
  have HK := Aside0.mk hk
  clear htab ha hb hk
  go_enter Tryd.func7, Tryd.ntmps7
  go_upto_region 1 with (fail)
  have HB : Aside0 (Below w.heap.size w ((w.alloc (Obj.cells (cs3 a) 24)).alloc (Obj.cells (cs3 b) 24))) := ⟨below_alloc (below_alloc (Below.refl _ _) _) _⟩
  have Ba : Aside0 (Box3 ((w.alloc (Obj.cells (cs3 a) 24)).alloc (Obj.cells (cs3 b) 24)) w.heap.size a) := ⟨(Box3.new w a).alloc _⟩
  have Bb : Aside0 (Box3 ((w.alloc (Obj.cells (cs3 a) 24)).alloc (Obj.cells (cs3 b) 24)) (w.heap.size + 1) b) := ⟨Box3.new' (by simp only [World.size_alloc])⟩
  generalize ((w.alloc (Obj.cells #[.int .u64 a.x, .int .u64 a.y, .int .u64 a.z] 24)).alloc (Obj.cells #[.int .u64 b.x, .int .u64 b.y, .int .u64 b.z] 24)) = W0 at HB Ba Bb ⊢
  have CA := Aside0.mk (fun (W : World) (h : Below w.heap.size w W) => alive_calls W (tab_below HT.out h))
  go_upto_region 3 with (go_at_call 10; (with_reducible refine (CA.out _ HB.out).mono ?_); rintro e w2 ⟨rfl, hb⟩; have HN := Aside0.mk (below_step HB.out hb); have Ka := Aside0.mk (Ba.out.kept hb); have Kb := Aside0.mk (Bb.out.kept hb); clear hb HB Ba Bb)
  have HB := HN
  have Ba := Ka
  have Bb := Kb
  clear HN Ka Kb
  obtain ⟨⟨la0, la1, la2⟩, ⟨fa0, fa1, fa2⟩, na⟩ := Ba.out.facts
  obtain ⟨⟨lb0, lb1, lb2⟩, ⟨fb0, fb1, fb2⟩, nb⟩ := Bb.out.facts
  go_upto_region 4 with (go_at_call 14; (with_reducible refine (add_calls (a := a) (b := b) HA.out HB'.out _).mono ?_); rintro e w3 ⟨s3, c3, rfl, hb, hs⟩; have H3 := Aside0.mk hs; have HN := Aside0.mk (below_step HB.out hb); have Ka := Aside0.mk (Ba.out.kept hb); have Kb := Aside0.mk (Bb.out.kept hb); clear hs hb HB la0 la1 la2 fa0 fa1 fa2 na Ba lb0 lb1 lb2 fb0 fb1 fb2 nb Bb)
  have HB : Aside0 (Below w.heap.size w (w3.alloc (Obj.cells (cs3 s3) 24))) := ⟨below_alloc HN.out _⟩
  have Ba := Aside0.mk (Ka.out.alloc (Obj.cells (cs3 s3) 24))
  have Bb := Aside0.mk (Kb.out.alloc (Obj.cells (cs3 s3) 24))
  have Bd := Aside0.mk (Box3.new w3 s3)
  clear HN Ka Kb
  generalize w3.heap.size = gd at Bd ⊢
  generalize (w3.alloc (Obj.cells #[.int .u64 s3.x, .int .u64 s3.y, .int .u64 s3.z] 24)) = W3 at HB Ba Bb Bd ⊢
  obtain ⟨⟨ld0, ld1, ld2⟩, ⟨fd0, fd1, fd2⟩, nd⟩ := Bd.out.facts
  go_upto_region 5 with (go_at_call 23; (with_reducible refine (scale_calls (a := s3) H3.out.1 HK.out _).mono ?_); rintro e w4 ⟨s4, c4, rfl, hb, hs⟩; have H4 := Aside0.mk hs; have HN := Aside0.mk (below_step HB.out hb); have Ka := Aside0.mk (Ba.out.kept hb); have Kb := Aside0.mk (Bb.out.kept hb); have Kd := Aside0.mk (Bd.out.kept hb); clear hs hb HB Ba Bb ld0 ld1 ld2 fd0 fd1 fd2 nd Bd)
  have HB : Aside0 (Below w.heap.size w (w4.alloc (Obj.cells (cs3 s4) 24))) := ⟨below_alloc HN.out _⟩
  have Ba := Aside0.mk (Ka.out.alloc (Obj.cells (cs3 s4) 24))
  have Bb := Aside0.mk (Kb.out.alloc (Obj.cells (cs3 s4) 24))
  have Bd := Aside0.mk (Kd.out.alloc (Obj.cells (cs3 s4) 24))
  have Be := Aside0.mk (Box3.new w4 s4)
  clear HN Ka Kb Kd
  generalize w4.heap.size = ge at Be ⊢
  generalize (w4.alloc (Obj.cells #[.int .u64 s4.x, .int .u64 s4.y, .int .u64 s4.z] 24)) = W4 at HB Ba Bb Bd Be ⊢
  obtain ⟨⟨la0, la1, la2⟩, ⟨fa0, fa1, fa2⟩, na⟩ := Ba.out.facts
  go_upto_region 6 with (go_at_call 23; (with_reducible refine (scale_calls (a := a) HA.out HK.out _).mono ?_); rintro e w5 ⟨s5, c5, rfl, hb, hs⟩; have H5 := Aside0.mk hs; have HN := Aside0.mk (below_step HB.out hb); have Ka := Aside0.mk (Ba.out.kept hb); have Kb := Aside0.mk (Bb.out.kept hb); have Ke := Aside0.mk (Be.out.kept hb); clear hs hb HB la0 la1 la2 fa0 fa1 fa2 na Ba Bb Be)
  have HB : Aside0 (Below w.heap.size w (w5.alloc (Obj.cells (cs3 s5) 24))) := ⟨below_alloc HN.out _⟩
  have Ba := Aside0.mk (Ka.out.alloc (Obj.cells (cs3 s5) 24))
  have Bb := Aside0.mk (Kb.out.alloc (Obj.cells (cs3 s5) 24))
  have Be := Aside0.mk (Ke.out.alloc (Obj.cells (cs3 s5) 24))
  have Bf := Aside0.mk (Box3.new w5 s5)
  clear HN Ka Kb Ke
  generalize w5.heap.size = gf at Bf ⊢
  generalize (w5.alloc (Obj.cells #[.int .u64 s5.x, .int .u64 s5.y, .int .u64 s5.z] 24)) = W5 at HB Ba Bb Be Bf ⊢
  obtain ⟨⟨lb0, lb1, lb2⟩, ⟨fb0, fb1, fb2⟩, nb⟩ := Bb.out.facts
  go_upto_region 7 with (go_at_call 23; (with_reducible refine (scale_calls (a := b) HB'.out HK.out _).mono ?_); rintro e w6 ⟨s6, c6, rfl, hb, hs⟩; have H6 := Aside0.mk hs; have HN := Aside0.mk (below_step HB.out hb); have Kb := Aside0.mk (Bb.out.kept hb); have Ke := Aside0.mk (Be.out.kept hb); have Kf := Aside0.mk (Bf.out.kept hb); clear hs hb HB lb0 lb1 lb2 fb0 fb1 fb2 nb Bb Be Bf)
  have HB : Aside0 (Below w.heap.size w (w6.alloc (Obj.cells (cs3 s6) 24))) := ⟨below_alloc HN.out _⟩
  have Bb := Aside0.mk (Kb.out.alloc (Obj.cells (cs3 s6) 24))
  have Be := Aside0.mk (Ke.out.alloc (Obj.cells (cs3 s6) 24))
  have Bf := Aside0.mk (Kf.out.alloc (Obj.cells (cs3 s6) 24))
  have Bh := Aside0.mk (Box3.new w6 s6)
  clear HN Kb Ke Kf
  generalize w6.heap.size = gh at Bh ⊢
  generalize (w6.alloc (Obj.cells #[.int .u64 s6.x, .int .u64 s6.y, .int .u64 s6.z] 24)) = W6 at HB Bb Be Bf Bh ⊢
  obtain ⟨⟨lf0, lf1, lf2⟩, ⟨ff0, ff1, ff2⟩, nf⟩ := Bf.out.facts
  obtain ⟨⟨lh0, lh1, lh2⟩, ⟨fh0, fh1, fh2⟩, nh⟩ := Bh.out.facts
  go_upto_region 8 with (go_at_call 14; (with_reducible refine (add_calls (a := s5) (b := s6) H5.out.1 H6.out.1 _).mono ?_); rintro e w7 ⟨s7, c7, rfl, hb, hs⟩; have H7 := Aside0.mk hs; have HN := Aside0.mk (below_step HB.out hb); have Ke := Aside0.mk (Be.out.kept hb); have Kf := Aside0.mk (Bf.out.kept hb); have Kh := Aside0.mk (Bh.out.kept hb); clear hs hb HB Be lf0 lf1 lf2 ff0 ff1 ff2 nf Bf lh0 lh1 lh2 fh0 fh1 fh2 nh Bh)
  have HB : Aside0 (Below w.heap.size w (w7.alloc (Obj.cells (cs3 s7) 24))) := ⟨below_alloc HN.out _⟩
  have Be := Aside0.mk (Ke.out.alloc (Obj.cells (cs3 s7) 24))
  have Bf := Aside0.mk (Kf.out.alloc (Obj.cells (cs3 s7) 24))
  have Bh := Aside0.mk (Kh.out.alloc (Obj.cells (cs3 s7) 24))
  have Bi := Aside0.mk (Box3.new w7 s7)
  clear HN Ke Kf Kh
  generalize w7.heap.size = gi at Bi ⊢
  generalize (w7.alloc (Obj.cells #[.int .u64 s7.x, .int .u64 s7.y, .int .u64 s7.z] 24)) = W7 at HB Be Bf Bh Bi ⊢
  obtain ⟨⟨le0, le1, le2⟩, ⟨fe0, fe1, fe2⟩, ne⟩ := Be.out.facts
  obtain ⟨⟨li0, li1, li2⟩, ⟨fi0, fi1, fi2⟩, ni⟩ := Bi.out.facts
  have hei : s4 = s7 := spreads_eq H3.out.1 H4.out.1 H7.out.1 H3.out.2.2.2 ((H4.out.2.2).trans (V_scale _ _)) ((H5.out.2.2).trans (V_scale _ _)) ((H6.out.2.2).trans (V_scale _ _)) H7.out.2.2.2
  subst hei
  have E3 := eq3_t 24 Tryd.underlying24 s4.x s4.y s4.z s4.x s4.y s4.z
  rw [decide_eq_true ⟨rfl, rfl, rfl⟩] at E3
  go_wp2
  go_ret
  exact ⟨rfl, HB.out⟩

end Go.Proofs.YtlpbfhbfaphicaaDoor.L01
