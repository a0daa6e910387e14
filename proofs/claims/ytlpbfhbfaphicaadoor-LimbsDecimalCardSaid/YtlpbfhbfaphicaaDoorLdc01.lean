/- Layer 1: LimbsDecimal, walked. -/
import Derived.Test.YtlpbfhbfaphicaaDoorRdc01
import Derived.Test.YtlpbfhbfaphicaaDoorAliv01
import Derived.Test.YtlpbfhbfaphicaaDoorLbit01
import Derived.Lib.QuietBelow
namespace Go.Proofs.YtlpbfhbfaphicaaDoor.L01
open Go Go.RowKit Go.Lib Go.Sort Go.Proofs.YtlpbfhbfaphicaaDoorW.PrintWords Go.Proofs.YtlpbfhbfaphicaaDoorW.PrintLast Go.Proofs.YtlpbfhbfaphicaaDoorW.PrintMore Go.Proofs.YtlpbfhbfaphicaaDoor.Given Go.Proofs.YtlpbfhbfaphicaaDoor.M Go.Proofs.YtlpbfhbfaphicaaDoor.XB

set_option linter.unusedVariables false
attribute [-go_sem] loadVar storeVar
attribute [local go_sem] lv_u lv_i lv_b lv_3 lv_T sv_u sv_i sv_b sv_3 sv_T
set_option maxHeartbeats 2000000 in
set_option maxRecDepth 100000 in
theorem dec_walk {a : N3} (ha : a.ok) (w : World) (htab : Tab w) : Calls Tryd.prog 3 #[T3 a] w fun e w' => e = .returned (.bool true) ∧ Below w.heap.size w w' := by
  have HT := Aside0.mk htab
  have HA := Aside0.mk ha
  clear htab ha
  go_enter Tryd.func3, Tryd.ntmps3
  go_upto_region 1 with (fail)
  have HB : Aside0 (Below w.heap.size w (w.alloc (Obj.cells (cs3 a) 24))) := ⟨below_alloc (Below.refl _ _) _⟩
  have Ba : Aside0 (Box3 (w.alloc (Obj.cells (cs3 a) 24)) w.heap.size a) := ⟨Box3.new w a⟩
  generalize (w.alloc (Obj.cells #[.int .u64 a.x, .int .u64 a.y, .int .u64 a.z] 24)) = W0 at HB Ba ⊢
  have CA := Aside0.mk (fun (W : World) (h : Below w.heap.size w W) => alive_calls W (tab_below HT.out h))
  go_upto_region 3 with (go_at_call 10; (with_reducible refine (CA.out _ HB.out).mono ?_); rintro e w2 ⟨rfl, hb⟩; have HN := Aside0.mk (below_step HB.out hb); have Ka := Aside0.mk (Ba.out.kept hb); clear hb HB Ba)
  clear CA
  obtain ⟨s9, hs9⟩ : ∃ s9, txt (decS a) = s9 := ⟨_, rfl⟩
  obtain ⟨⟨xa0, xa1, xa2⟩, _, _⟩ := Ka.out.facts
  have ka0 := cell_regrown xa0
  have ka1 := cell_regrown xa1
  have ka2 := cell_regrown xa2
  clear xa0 xa1 xa2
  have cP : ∀ d os, Calls Tryd.prog 11 #[T3 a] (grow (redrawn w2 d) os) fun e w'' => e = .returned (.string s9) ∧ ∃ p : Regrown, w'' = grow (redrawn w2 p.d) p.os := fun d os => Calls.regrown_of (by rw [← hs9]; exact decimal_calls HA.out _ (tab_below HT.out (below_step HN.out (below_regrown w2 d os))))
  have cB : ∀ d os, Calls Tryd.prog 13 #[T3 a] (grow (redrawn w2 d) os) fun e w'' => e = .returned (TB (bt a.n)) ∧ ∃ p : Regrown, w'' = grow (redrawn w2 p.d) p.os := fun d os => Calls.regrown_of (lbit_calls HA.out _)
  have cR : ∀ d os, Calls Tryd.prog 12 #[TB (bt a.n)] (grow (redrawn w2 d) os) fun e w'' => e = .returned (.string s9) ∧ ∃ p : Regrown, w'' = grow (redrawn w2 p.d) p.os := fun d os => Calls.regrown_of (by
    rw [← hs9]
    exact refdec_calls (Nat.lt_trans (n_lt HA.out) (by decide)) _)
  clear hs9
  refine wp_region_quiet_below (by kernel_rfl) (by kernel_rfl) ?_
  repeat (go_big_quiet_step (first | (with_reducible exact cP _ _) | (with_reducible exact cB _ _) | (with_reducible exact cR _ _)))
  refine wpQuiet_nil ?_
  intro _ hw'
  obtain ⟨⟨d7, o7⟩, hw''⟩ := hw'
  subst hw''
  go_wp2
  go_ret
  exact ⟨rfl, below_step HN.out (below_regrown _ d7 o7)⟩
end Go.Proofs.YtlpbfhbfaphicaaDoor.L01
