/- Layer 1: LimbsSigned, walked. -/
import Derived.Test.YtlpbfhbfaphicaaDoorSgn01
import Derived.Lib.QuietBelow
import Derived.BigQuiet
namespace Go.Proofs.YtlpbfhbfaphicaaDoor.L01
open Go Go.RowKit Go.Lib Go.Sort Go.Proofs.YtlpbfhbfaphicaaDoorW.PrintWords Go.Proofs.YtlpbfhbfaphicaaDoorW.PrintLast Go.Proofs.YtlpbfhbfaphicaaDoorW.PrintMore Go.Proofs.YtlpbfhbfaphicaaDoor.Given Go.Proofs.YtlpbfhbfaphicaaDoor.M

set_option linter.unusedVariables false
set_option maxHeartbeats 2000000 in
set_option maxRecDepth 100000 in
theorem signed_walk {n m : Int} {a : N3} (hn : -9223372036854775808 ≤ n ∧ n ≤ 9223372036854775807) (hm : -9223372036854775808 ≤ m ∧ m ≤ 9223372036854775807) (ha : a.ok) (w : World) (htab : Tab w) : Calls Tryd.prog 5 #[.int .i64 n, .int .i64 m, T3 a] w fun e w' => e = .returned (.bool true) ∧ Below w.heap.size w w' := by
  have HT := Aside0.mk htab
  have HA := Aside0.mk ha
  have HNI : Aside0 (I64 n) := ⟨hn⟩
  have HMI : Aside0 (I64 m) := ⟨hm⟩
  obtain ⟨S, hS⟩ : ∃ S, wrap64 (n + m) = S := ⟨_, rfl⟩
  obtain ⟨un, hun⟩ : ∃ z, IntKind.u64.wrap n = z := ⟨_, rfl⟩
  obtain ⟨um, hum⟩ : ∃ z, IntKind.u64.wrap m = z := ⟨_, rfl⟩
  obtain ⟨us, hus⟩ : ∃ z, IntKind.u64.wrap (un + um) = z := ⟨_, rfl⟩
  have hSw : IntKind.i64.wrap us = S := by
    rw [i64_w, ← hus, ← hun, ← hum, ← hS, wu64, wu64, wu64]
    unfold wrap64
    omega
  have HS := Aside0.mk hS
  obtain ⟨o, ho⟩ : ∃ o, ofN n = o := ⟨_, rfl⟩
  obtain ⟨q, hq⟩ : ∃ o, ofN m = o := ⟨_, rfl⟩
  have CN : Aside0 (∀ W, Calls Tryd.prog 18 #[.int .i64 n] W fun e w' => e = .returned (T3 o) ∧ Below W.heap.size W w') := ⟨fun W => by rw [← ho]; exact of_calls hn W⟩
  have CM : Aside0 (∀ W, Calls Tryd.prog 18 #[.int .i64 m] W fun e w' => e = .returned (T3 q) ∧ Below W.heap.size W w') := ⟨fun W => by rw [← hq]; exact of_calls hm W⟩
  have CI : Aside0 (∀ W, Calls Tryd.prog 17 #[T3 o] W fun e w' => e = .returned (.tuple #[.int .i64 n, .bool true]) ∧ Below W.heap.size W w') := ⟨fun W => by rw [← ho]; exact int_yes (ofN_ok hn) (ofN_x hn) rfl W⟩
  have HO : Aside0 (o.ok ∧ q.ok ∧ o = ofN n ∧ q = ofN m) := ⟨by rw [← ho, ← hq]; exact ⟨ofN_ok hn, ofN_ok hm, rfl, rfl⟩⟩
  have dnn : (n != n) = false := bne_self_eq_false _
  clear htab ha hn hm hS ho hq
  go_enter Tryd.func5, Tryd.ntmps5
  go_upto_region 1 with (fail)
  have HB : Aside0 (Below w.heap.size w (w.alloc (Obj.cells (cs3 a) 24))) := ⟨below_alloc (Below.refl _ _) _⟩
  have Ba : Aside0 (Box3 (w.alloc (Obj.cells (cs3 a) 24)) w.heap.size a) := ⟨Box3.new w a⟩
  generalize (w.alloc (Obj.cells #[.int .u64 a.x, .int .u64 a.y, .int .u64 a.z] 24)) = W0 at HB Ba ⊢
  have CA := Aside0.mk (fun (W : World) (h : Below w.heap.size w W) => alive_calls W (tab_below HT.out h))
  go_upto_region 6 with (first
    | (go_at_call 10; (with_reducible refine (CA.out _ HB.out).mono ?_); rintro e w2 ⟨rfl, hb⟩; have HN := Aside0.mk (below_step HB.out hb); have Ka := Aside0.mk (Ba.out.kept hb); clear hb HB Ba; have HB := HN; have Ba := Ka; clear HN Ka)
    | (go_at_call 18; (with_reducible refine (CN.out _).mono ?_); rintro e w3 ⟨rfl, hb⟩; have HN := Aside0.mk (below_step (w := w) (by repeat (with_reducible first | exact HB.out | apply below_alloc | apply below_drew1)) hb); have Ka := Aside0.mk (Box3.kept (by repeat (with_reducible first | exact Ba.out | apply Box3.alloc | apply Box3.drew)) hb); clear hb HB Ba; have HB := HN; have Ba := Ka; clear HN Ka)
    | (go_at_call 17; (with_reducible refine (CI.out _).mono ?_); rintro e w4 ⟨rfl, hb⟩; have HN := Aside0.mk (below_step (w := w) (by repeat (with_reducible first | exact HB.out | apply below_alloc | apply below_drew1)) hb); have Ka := Aside0.mk (Box3.kept (by repeat (with_reducible first | exact Ba.out | apply Box3.alloc | apply Box3.drew)) hb); clear hb HB Ba; have HB := HN; have Ba := Ka; clear HN Ka))
  go_upto_region 7 with (first
    | (go_at_call 18; (with_reducible refine (CN.out _).mono ?_); rintro e w5 ⟨rfl, hb⟩; have HN := Aside0.mk (below_step (w := w) (by repeat (with_reducible first | exact HB.out | apply below_alloc | apply below_drew1)) hb); have Ka := Aside0.mk (Box3.kept (by repeat (with_reducible first | exact Ba.out | apply Box3.alloc | apply Box3.drew)) hb); clear hb HB Ba; have HB := HN; have Ba := Ka; clear HN Ka)
    | (go_at_call 18; (with_reducible refine (CM.out _).mono ?_); rintro e w6 ⟨rfl, hb⟩; have HN := Aside0.mk (below_step (w := w) (by repeat (with_reducible first | exact HB.out | apply below_alloc | apply below_drew1)) hb); have Ka := Aside0.mk (Box3.kept (by repeat (with_reducible first | exact Ba.out | apply Box3.alloc | apply Box3.drew)) hb); clear hb HB Ba; have HB := HN; have Ba := Ka; clear HN Ka)
    | (go_at_call 14; (with_reducible refine (add_calls (a := o) (b := q) HO.out.1 HO.out.2.1 _).mono ?_); rintro e w7 ⟨s, c, rfl, hb, hs⟩; have HN := Aside0.mk (below_step (w := w) (by repeat (with_reducible first | exact HB.out | apply below_alloc | apply below_drew1)) hb); have Ka := Aside0.mk (Box3.kept (by repeat (with_reducible first | exact Ba.out | apply Box3.alloc | apply Box3.drew)) hb); have HA7 := Aside0.mk hs; clear hs; clear hb HB Ba; have HB := HN; have Ba := Ka; clear HN Ka))
  have HN : Aside0 (Below w.heap.size w (w7.alloc (Obj.cells (cs3 s) 24))) := ⟨below_alloc HB.out _⟩
  have Ka : Aside0 (Box3 (w7.alloc (Obj.cells (cs3 s) 24)) w.heap.size a) := ⟨Ba.out.alloc _⟩
  have Bs : Aside0 (Box3 (w7.alloc (Obj.cells (cs3 s) 24)) w7.heap.size s) := ⟨Box3.new w7 s⟩
  clear HB Ba
  have HB := HN
  have Ba := Ka
  clear HN Ka
  generalize w7.heap.size = gs at Bs ⊢
  generalize (w7.alloc (Obj.cells #[.int .u64 s.x, .int .u64 s.y, .int .u64 s.z] 24)) = W7 at HB Ba Bs ⊢
  obtain ⟨F, hF⟩ : ∃ F, fitsB n m S = F := ⟨_, rfl⟩
  have hsf : s = ofN S ↔ F = true := by
    have hsum := HA7.out.2.2.2
    rw [HO.out.2.2.1, HO.out.2.2.2] at hsum
    have := sum_fits HNI.out HMI.out HA7.out.1 hsum
    rw [HS.out, hF] at this
    exact this
  have hsx : wrap64 s.x = S := by
    have hsum := HA7.out.2.2.2
    rw [HO.out.2.2.1, HO.out.2.2.2] at hsum
    rw [sum_x HNI.out HMI.out HA7.out.1 hsum, HS.out]
  obtain ⟨g, hg, CIS⟩ : ∃ g : Int, (F = true → g = S) ∧ ∀ W, Calls Tryd.prog 17 #[T3 s] W fun e w' => e = .returned (.tuple #[.int .i64 g, .bool F]) ∧ Below W.heap.size W w' := by
    cases F with
    | true => exact ⟨S, fun _ => rfl, fun W => int_yes HA7.out.1 hsx (hsf.2 rfl) W⟩
    | false => exact ⟨0, (fun h => by cases h), fun W => int_no HA7.out.1 (fun e => by rw [hsx] at e; exact absurd (hsf.1 e) Bool.false_ne_true) W⟩
  have CS := Aside0.mk CIS
  have HF := Aside0.mk hF
  have HG := Aside0.mk hg
  clear hsf hsx CIS hF hg
  obtain ⟨⟨ls0, ls1, ls2⟩, ⟨fs0, fs1, fs2⟩, ns⟩ := Bs.out.facts
  go_upto_region 9 with (go_at_call 17; (with_reducible refine (CS.out _).mono ?_); rintro e w8 ⟨rfl, hb⟩; have HN := Aside0.mk (below_step (w := w) (by repeat (with_reducible first | exact HB.out | apply below_alloc | apply below_drew1)) hb); have Ka := Aside0.mk (Box3.kept (by repeat (with_reducible first | exact Ba.out | apply Box3.alloc | apply Box3.drew)) hb); clear hb HB Ba; have HB := HN; have Ba := Ka; clear HN Ka)
  clear ls0 ls1 ls2 fs0 fs1 fs2 ns Bs
  go_cut [14] (fun v14 wc => v14 = .bool F ∧ Aside0 (Below w.heap.size w wc) ∧ Aside0 (Box3 wc w.heap.size a))
  case first =>
    have fin : ∀ b : Bool, F = b → Value.bool b = Value.bool F := fun b h => by rw [h]
    by_cases h1 : n < 0
    · have d1 : decide (n < 0) = true := decide_eq_true h1
      have d1b : decide (0 ≤ n) = false := decide_eq_false (by omega)
      by_cases h2 : m < 0
      · have d2 : decide (m < 0) = true := decide_eq_true h2
        have d2b : decide (0 ≤ m) = false := decide_eq_false (by omega)
        by_cases h3 : S < 0
        · have d3 : decide (S < 0) = true := decide_eq_true h3
          have d3b : decide (0 ≤ S) = false := decide_eq_false (by omega)
          have hv : Aside0 (F = true) := Aside0.mk <| by rw [← HF.out]; unfold fitsB; rw [decide_eq_true_iff]; omega
          clear h1 h2 h3
          go_wp2
          go_meet
          case rel => exact ⟨fin _ hv.out, HB, Ba⟩
        · have d3 : decide (S < 0) = false := decide_eq_false h3
          have d3b : decide (0 ≤ S) = true := decide_eq_true (by omega)
          have hv : Aside0 (F = false) := Aside0.mk <| by rw [← HF.out]; unfold fitsB; rw [decide_eq_false_iff_not]; omega
          clear h1 h2 h3
          go_wp2
          go_meet
          case rel => exact ⟨fin _ hv.out, HB, Ba⟩
      · have d2 : decide (m < 0) = false := decide_eq_false h2
        have d2b : decide (0 ≤ m) = true := decide_eq_true (by omega)
        have hv : Aside0 (F = true) := Aside0.mk <| by rw [← HF.out]; unfold fitsB; rw [decide_eq_true_iff]; omega
        clear h1 h2
        go_wp2
        go_meet
        case rel => exact ⟨fin _ hv.out, HB, Ba⟩
    · have d1 : decide (n < 0) = false := decide_eq_false h1
      have d1b : decide (0 ≤ n) = true := decide_eq_true (by omega)
      by_cases h2 : m < 0
      · have d2 : decide (m < 0) = true := decide_eq_true h2
        have d2b : decide (0 ≤ m) = false := decide_eq_false (by omega)
        have hv : Aside0 (F = true) := Aside0.mk <| by rw [← HF.out]; unfold fitsB; rw [decide_eq_true_iff]; omega
        clear h1 h2
        go_wp2
        go_meet
        case rel => exact ⟨fin _ hv.out, HB, Ba⟩
      · have d2 : decide (m < 0) = false := decide_eq_false h2
        have d2b : decide (0 ≤ m) = true := decide_eq_true (by omega)
        by_cases h3 : S < 0
        · have d3 : decide (S < 0) = true := decide_eq_true h3
          have d3b : decide (0 ≤ S) = false := decide_eq_false (by omega)
          have hv : Aside0 (F = false) := Aside0.mk <| by rw [← HF.out]; unfold fitsB; rw [decide_eq_false_iff_not]; omega
          clear h1 h2 h3
          go_wp2
          go_meet
          case rel => exact ⟨fin _ hv.out, HB, Ba⟩
        · have d3 : decide (S < 0) = false := decide_eq_false h3
          have d3b : decide (0 ≤ S) = true := decide_eq_true (by omega)
          have hv : Aside0 (F = true) := Aside0.mk <| by rw [← HF.out]; unfold fitsB; rw [decide_eq_true_iff]; omega
          clear h1 h2 h3
          go_wp2
          go_meet
          case rel => exact ⟨fin _ hv.out, HB, Ba⟩
  case rest =>
    clear HB Ba
    obtain ⟨rfl, HB, Ba⟩ := hcut
    go_upto_region 10 with (fail)
    go_cut [91] (fun v91 wc => v91 = .bool false ∧ Aside0 (Below w.heap.size w wc) ∧ Aside0 (Box3 wc w.heap.size a))
    case first =>
      cases F with
      | true =>
        have hgS : g = S := HG.out rfl
        subst hgS
        have d1 : (g != g) = false := bne_self_eq_false _
        clear HG HF CS
        go_wp2
        go_meet
        case rel => exact ⟨rfl, HB, Ba⟩
      | false =>
        clear HG HF CS
        go_wp2
        go_meet
        case rel => exact ⟨rfl, HB, Ba⟩
    case rest =>
      clear HB Ba HG HF CS
      obtain ⟨rfl, HB, Ba⟩ := hcut
      obtain ⟨X, hX⟩ : ∃ X, wrap64 a.x = X := ⟨_, rfl⟩
      have XI : I64 X := by rw [← hX]; unfold I64 wrap64; omega
      obtain ⟨⟨l0, l1, l2⟩, ⟨f0, f1, f2⟩, nl⟩ := Ba.out.facts
      by_cases hi : a = ofN X
      · have CIa : Aside0 (∀ W, Calls Tryd.prog 17 #[T3 a] W fun e w' => e = .returned (.tuple #[.int .i64 X, .bool true]) ∧ Below W.heap.size W w') := ⟨fun W => int_yes HA.out hX hi W⟩
        have COa : Aside0 (∀ W, Calls Tryd.prog 18 #[.int .i64 X] W fun e w' => e = .returned (T3 a) ∧ Below W.heap.size W w') := ⟨fun W => by rw [hi]; exact of_calls XI W⟩
        have E3 := eq3_t 24 Tryd.underlying24 a.x a.y a.z a.x a.y a.z
        rw [decide_eq_true ⟨rfl, rfl, rfl⟩] at E3
        have hi1 : a.x = (ofN X).x := congrArg N3.x hi
        have hi2 : a.y = (ofN X).y := congrArg N3.y hi
        have hi3 : a.z = (ofN X).z := congrArg N3.z hi
        have hyz : (a.y == a.z) = true := by
          rw [hi2, hi3, beq_iff_eq]
          unfold ofN
          split <;> rfl
        by_cases hp : 0 ≤ X
        · have hy0 : (a.y == 0) = true := by rw [hi2, beq_iff_eq]; unfold ofN; rw [if_pos hp]
          have hx0 : decide (a.x < 9223372036854775808) = true := by
            rw [hi1, decide_eq_true_iff]
            unfold ofN
            rw [if_pos hp]
            have := XI.2
            dsimp only
            omega
          clear hi hi1 hi2 hi3 hp hX XI
          go_upto_region 13 with (go_at_call 17; (with_reducible refine (CIa.out _).mono ?_); rintro e w9 ⟨rfl, hb⟩; have HN := Aside0.mk (below_step (w := w) (by repeat (with_reducible first | exact HB.out | apply below_alloc | apply below_drew1)) hb); have Ka := Aside0.mk (Box3.kept (by repeat (with_reducible first | exact Ba.out | apply Box3.alloc | apply Box3.drew)) hb); clear hb HB Ba; have HB := HN; have Ba := Ka; clear HN Ka l0 l1 l2 f0 f1 f2 nl)
          obtain ⟨⟨l0, l1, l2⟩, _, _⟩ := Ba.out.facts
          have k0 := cell_regrown l0
          have k1 := cell_regrown l1
          have k2 := cell_regrown l2
          have cO : ∀ d os, Calls Tryd.prog 18 #[.int .i64 X] (grow (redrawn w9 d) os) fun e w'' => e = .returned (T3 a) ∧ ∃ p : Regrown, w'' = grow (redrawn w9 p.d) p.os := fun d os => Calls.regrown_of (COa.out _)
          refine wp_region_quiet_below (by kernel_rfl) (by kernel_rfl) ?_
          repeat (go_big_quiet_step (first | exact cO _ _))
          refine wpQuiet_nil ?_
          intro _ hw'
          obtain ⟨⟨dq, osq⟩, hw''⟩ := hw'
          subst hw''
          go_wp2
          go_ret
          exact ⟨rfl, below_step HB.out (below_regrown _ dq osq)⟩
        · have hy0 : (a.y == 0) = false := by rw [hi2]; unfold ofN; rw [if_neg hp]; rfl
          have hy1 : (a.y == 18446744073709551615) = true := by rw [hi2, beq_iff_eq]; unfold ofN; rw [if_neg hp]
          have hx0 : decide (9223372036854775808 ≤ a.x) = true := by
            rw [hi1, decide_eq_true_iff]
            unfold ofN
            rw [if_neg hp]
            have := XI.1
            dsimp only
            omega
          clear hi hi1 hi2 hi3 hp hX XI
          go_upto_region 13 with (go_at_call 17; (with_reducible refine (CIa.out _).mono ?_); rintro e w9 ⟨rfl, hb⟩; have HN := Aside0.mk (below_step (w := w) (by repeat (with_reducible first | exact HB.out | apply below_alloc | apply below_drew1)) hb); have Ka := Aside0.mk (Box3.kept (by repeat (with_reducible first | exact Ba.out | apply Box3.alloc | apply Box3.drew)) hb); clear hb HB Ba; have HB := HN; have Ba := Ka; clear HN Ka l0 l1 l2 f0 f1 f2 nl)
          obtain ⟨⟨l0, l1, l2⟩, _, _⟩ := Ba.out.facts
          have k0 := cell_regrown l0
          have k1 := cell_regrown l1
          have k2 := cell_regrown l2
          have cO : ∀ d os, Calls Tryd.prog 18 #[.int .i64 X] (grow (redrawn w9 d) os) fun e w'' => e = .returned (T3 a) ∧ ∃ p : Regrown, w'' = grow (redrawn w9 p.d) p.os := fun d os => Calls.regrown_of (COa.out _)
          refine wp_region_quiet_below (by kernel_rfl) (by kernel_rfl) ?_
          repeat (go_big_quiet_step (first | exact cO _ _))
          refine wpQuiet_nil ?_
          intro _ hw'
          obtain ⟨⟨dq, osq⟩, hw''⟩ := hw'
          subst hw''
          go_wp2
          go_ret
          exact ⟨rfl, below_step HB.out (below_regrown _ dq osq)⟩
      · have CIa : Aside0 (∀ W, Calls Tryd.prog 17 #[T3 a] W fun e w' => e = .returned (.tuple #[.int .i64 0, .bool false]) ∧ Below W.heap.size W w') := ⟨fun W => int_no HA.out (by rw [hX]; exact hi) W⟩
        have hal := HA.out
        have hXd := hX
        have dd : (0 : Int) = 0 := rfl
        by_cases hyz : a.y = a.z
        · have hyzb : (a.y == a.z) = true := beq_iff_eq.2 hyz
          by_cases hy0 : a.y = 0
          · have hy0b : (a.y == 0) = true := beq_iff_eq.2 hy0
            have hx : ¬ a.x < 9223372036854775808 := fun hx => hi (by
              have e1 : X = a.x := by
                rw [← hX]
                have := hal.1.1
                unfold wrap64
                omega
              have e2 : ofN X = ⟨a.x, 0, 0⟩ := by
                unfold ofN
                rw [if_pos (by have := hal.1.1; omega), e1]
              rw [e2, ← hy0]
              obtain ⟨x, y, z⟩ := a
              dsimp only at *
              rw [hyz])
            have hx0 : decide (a.x < 9223372036854775808) = false := decide_eq_false hx
            have hm1 : (a.y == 18446744073709551615) = false := by rw [hy0]; rfl
            clear hx hy0 hyz hi hX hXd hal XI
            go_upto_region 13 with (go_at_call 17; (with_reducible refine (CIa.out _).mono ?_); rintro e w9 ⟨rfl, hb⟩; have HN := Aside0.mk (below_step (w := w) (by repeat (with_reducible first | exact HB.out | apply below_alloc | apply below_drew1)) hb); have Ka := Aside0.mk (Box3.kept (by repeat (with_reducible first | exact Ba.out | apply Box3.alloc | apply Box3.drew)) hb); clear hb HB Ba; have HB := HN; have Ba := Ka; clear HN Ka l0 l1 l2 f0 f1 f2 nl)
            obtain ⟨⟨l0, l1, l2⟩, _, _⟩ := Ba.out.facts
            have k0 := cell_regrown l0
            have k1 := cell_regrown l1
            have k2 := cell_regrown l2
            refine wp_region_quiet_below (by kernel_rfl) (by kernel_rfl) ?_
            repeat (go_big_quiet_step (fail))
            refine wpQuiet_nil ?_
            intro _ hw'
            obtain ⟨⟨dq, osq⟩, hw''⟩ := hw'
            subst hw''
            go_wp2
            go_ret
            exact ⟨rfl, below_step HB.out (below_regrown _ dq osq)⟩
          · have hy0b : (a.y == 0) = false := beq_eq_false_iff_ne.2 hy0
            by_cases hym : a.y = 18446744073709551615
            · have hymb : (a.y == 18446744073709551615) = true := beq_iff_eq.2 hym
              have hx : ¬ 9223372036854775808 ≤ a.x := fun hx => hi (by
                have e1 : X = a.x - 18446744073709551616 := by
                  rw [← hX]
                  have := hal.1.2
                  unfold wrap64
                  omega
                have e2 : ofN X = ⟨a.x, 18446744073709551615, 18446744073709551615⟩ := by
                  unfold ofN
                  rw [if_neg (by have := hal.1.2; omega), e1]
                  congr 1
                  omega
                rw [e2, ← hym]
                obtain ⟨x, y, z⟩ := a
                dsimp only at *
                rw [hyz])
              have hx0 : decide (9223372036854775808 ≤ a.x) = false := decide_eq_false hx
              clear hx hym hy0 hyz hi hX hXd hal XI
              go_upto_region 13 with (go_at_call 17; (with_reducible refine (CIa.out _).mono ?_); rintro e w9 ⟨rfl, hb⟩; have HN := Aside0.mk (below_step (w := w) (by repeat (with_reducible first | exact HB.out | apply below_alloc | apply below_drew1)) hb); have Ka := Aside0.mk (Box3.kept (by repeat (with_reducible first | exact Ba.out | apply Box3.alloc | apply Box3.drew)) hb); clear hb HB Ba; have HB := HN; have Ba := Ka; clear HN Ka l0 l1 l2 f0 f1 f2 nl)
              obtain ⟨⟨l0, l1, l2⟩, _, _⟩ := Ba.out.facts
              have k0 := cell_regrown l0
              have k1 := cell_regrown l1
              have k2 := cell_regrown l2
              refine wp_region_quiet_below (by kernel_rfl) (by kernel_rfl) ?_
              repeat (go_big_quiet_step (fail))
              refine wpQuiet_nil ?_
              intro _ hw'
              obtain ⟨⟨dq, osq⟩, hw''⟩ := hw'
              subst hw''
              go_wp2
              go_ret
              exact ⟨rfl, below_step HB.out (below_regrown _ dq osq)⟩
            · have hymb : (a.y == 18446744073709551615) = false := beq_eq_false_iff_ne.2 hym
              clear hym hy0 hyz hi hX hXd hal XI
              go_upto_region 13 with (go_at_call 17; (with_reducible refine (CIa.out _).mono ?_); rintro e w9 ⟨rfl, hb⟩; have HN := Aside0.mk (below_step (w := w) (by repeat (with_reducible first | exact HB.out | apply below_alloc | apply below_drew1)) hb); have Ka := Aside0.mk (Box3.kept (by repeat (with_reducible first | exact Ba.out | apply Box3.alloc | apply Box3.drew)) hb); clear hb HB Ba; have HB := HN; have Ba := Ka; clear HN Ka l0 l1 l2 f0 f1 f2 nl)
              obtain ⟨⟨l0, l1, l2⟩, _, _⟩ := Ba.out.facts
              have k0 := cell_regrown l0
              have k1 := cell_regrown l1
              have k2 := cell_regrown l2
              refine wp_region_quiet_below (by kernel_rfl) (by kernel_rfl) ?_
              repeat (go_big_quiet_step (fail))
              refine wpQuiet_nil ?_
              intro _ hw'
              obtain ⟨⟨dq, osq⟩, hw''⟩ := hw'
              subst hw''
              go_wp2
              go_ret
              exact ⟨rfl, below_step HB.out (below_regrown _ dq osq)⟩
        · have hyzb : (a.y == a.z) = false := beq_eq_false_iff_ne.2 hyz
          clear hyz hi hX hXd hal XI
          go_upto_region 13 with (go_at_call 17; (with_reducible refine (CIa.out _).mono ?_); rintro e w9 ⟨rfl, hb⟩; have HN := Aside0.mk (below_step (w := w) (by repeat (with_reducible first | exact HB.out | apply below_alloc | apply below_drew1)) hb); have Ka := Aside0.mk (Box3.kept (by repeat (with_reducible first | exact Ba.out | apply Box3.alloc | apply Box3.drew)) hb); clear hb HB Ba; have HB := HN; have Ba := Ka; clear HN Ka l0 l1 l2 f0 f1 f2 nl)
          obtain ⟨⟨l0, l1, l2⟩, _, _⟩ := Ba.out.facts
          have k0 := cell_regrown l0
          have k1 := cell_regrown l1
          have k2 := cell_regrown l2
          refine wp_region_quiet_below (by kernel_rfl) (by kernel_rfl) ?_
          repeat (go_big_quiet_step (fail))
          refine wpQuiet_nil ?_
          intro _ hw'
          obtain ⟨⟨dq, osq⟩, hw''⟩ := hw'
          subst hw''
          go_wp2
          go_ret
          exact ⟨rfl, below_step HB.out (below_regrown _ dq osq)⟩

end Go.Proofs.YtlpbfhbfaphicaaDoor.L01
