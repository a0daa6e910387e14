/- Layer 1: LimbsScales, walked. -/
import Derived.Test.YtlpbfhbfaphicaaDoorDet01
import Derived.Test.YtlpbfhbfaphicaaDoorProd01
import Derived.Test.YtlpbfhbfaphicaaDoorRest01
import Derived.Test.YtlpbfhbfaphicaaDoorAliv01
import Derived.Test.YtlpbfhbfaphicaaDoorEq01
import Derived.Lib.QuietBelow
namespace Go.Proofs.YtlpbfhbfaphicaaDoor.L01
open Go Go.RowKit Go.Lib Go.Sort Go.Proofs.YtlpbfhbfaphicaaDoorW.PrintWords Go.Proofs.YtlpbfhbfaphicaaDoorW.PrintLast Go.Proofs.YtlpbfhbfaphicaaDoorW.PrintMore Go.Proofs.YtlpbfhbfaphicaaDoor.Given Go.Proofs.YtlpbfhbfaphicaaDoor.M Go.Proofs.YtlpbfhbfaphicaaDoor.XB

set_option linter.unusedVariables false
theorem scale_n {a : N3} {k : Nat} (ha : a.ok) (hk : k < 2 ^ 64) (w : World) : Calls Tryd.prog 23 #[T3 a, .int .u64 (k : Int)] w fun e w' => e = .returned (.tuple #[T3 (n3 (a.n * k)), .int .u64 ((a.n * k / 2 ^ 192 % 2 ^ 64 : Nat) : Int)]) ∧ Below w.heap.size w w' := by
  have hU : M.U (k : Int) := by unfold M.U; omega
  refine (scale_calls ha hU w).mono ?_
  rintro e w' ⟨s, c, rfl, hb', hs, hc, hV⟩
  refine ⟨?_, hb'⟩
  have en := n_V ha
  have e3 := n_V hs
  have l3 := n_lt hs
  have hV2 : s.V + 6277101735386680763835789423207666416102355444464034512896 * c = a.V * (k : Int) := by
    rw [hV]
    unfold N3.V
    rw [Int.add_mul, Int.add_mul, Int.mul_assoc, Int.mul_assoc]
  obtain ⟨C, rfl⟩ := Int.eq_ofNat_of_zero_le hc.1
  have hC := hc.2
  rw [← en, ← Int.natCast_mul] at hV2
  generalize a.n * k = X at hV2 ⊢
  have e1 : s = n3 X := eq_n3 hs ⟨C, by omega⟩
  have e2 : C = X / 2 ^ 192 % 2 ^ 64 := by omega
  rw [← e1, ← e2]
theorem times_n {x k : Nat} (hx : x < 2 ^ 64) (hk : k < 2 ^ 64) (w : World) : Calls Tryd.prog 29 #[.int .u64 (x : Int), .int .u64 (k : Int)] w fun e w' => e = .returned (.tuple #[.int .u64 ((x * k / 2 ^ 64 % 2 ^ 64 : Nat) : Int), .int .u64 ((x * k % 2 ^ 64 : Nat) : Int)]) ∧ Below w.heap.size w w' := by
  have hU : M.U (x : Int) := by unfold M.U; omega
  have hU2 : M.U (k : Int) := by unfold M.U; omega
  have hp : x * k < 2 ^ 64 * 2 ^ 64 := by
    refine Nat.lt_of_le_of_lt (Nat.mul_le_mul_left _ (Nat.le_of_lt hk)) ?_
    exact Nat.mul_lt_mul_of_pos_right hx (by decide)
  refine (times_calls hU hU2 (hi := ((x * k / 2 ^ 64 % 2 ^ 64 : Nat) : Int)) (lo := ((x * k % 2 ^ 64 : Nat) : Int)) ?_ ?_ w).mono ?_
  · rw [← Int.natCast_mul]
    generalize x * k = X at hp ⊢
    omega
  · rw [← Int.natCast_mul]
    generalize x * k = X at hp ⊢
    omega
  · rintro e w' ⟨rfl, rfl⟩
    exact ⟨rfl, Below.refl _ _⟩
theorem rest_n {a : N3} {m : Nat} (ha : a.ok) (hm : m < 2 ^ 64) (w : World) : Calls Tryd.prog 31 #[T3 a, .int .u64 (m : Int)] w fun e w' => e = .returned (.int .u64 ((if m = 0 then 0 else a.n % m : Nat) : Int)) ∧ Below w.heap.size w w' := by
  have hU : M.U (m : Int) := by unfold M.U; omega
  refine (rest_calls ha hU w).mono ?_
  rintro e w' ⟨rfl, hb'⟩
  refine ⟨?_, hb'⟩
  have en := n_V ha
  by_cases h : m = 0
  · rw [if_pos h, if_pos (by omega)]
    rfl
  · rw [if_neg h, if_neg (by omega), ← en]
    rfl
theorem word_n (n : Nat) {p : Nat} (hp : p + 64 ≤ 256) (w : World) : Calls Tryd.prog 30 #[TB (bt n), .int .i64 (p : Int)] w fun e w' => e = .returned (.int .u64 ((n / 2 ^ p % 2 ^ 64 : Nat) : Int)) ∧ Below w.heap.size w w' := by
  rw [← num_bt]
  exact word_calls _ hp w
theorem Box3.farRow' {w : World} {g g' : Nat} {f : N3} {c : Array Value} (h : Box3 w g f) (hne : g ≠ g') : Box3 (w.setRow g' c) g f := by
  unfold Box3 at *
  simp only [World.setRow]
  rw [Array.getElem?_modify, if_neg (fun e => hne e.symm), h]
theorem one_n {x : Int} (h : M.U x) : (⟨x, 0, 0⟩ : N3).ok := ⟨h, show M.U 0 by unfold M.U; decide, show M.U 0 by unfold M.U; decide⟩
attribute [-go_sem] loadVar storeVar
attribute [local go_sem] lv_u lv_i lv_b lv_3 lv_T sv_u sv_i sv_b sv_3 sv_T
set_option maxHeartbeats 2000000 in
set_option maxRecDepth 100000 in
theorem scales_walk {a : N3} {k m : Int} (ha : a.ok) (hk : M.U k) (hm : M.U m) (w : World) (htab : Tab w) : Calls Tryd.prog 9 #[T3 a, .int .u64 k, .int .u64 m] w fun e w' => e = .returned (.bool true) ∧ Below w.heap.size w w' := by
  have HT := Aside0.mk htab
  obtain ⟨k0, hk0⟩ := Int.eq_ofNat_of_zero_le hk.1
  obtain ⟨m0, hm0⟩ := Int.eq_ofNat_of_zero_le hm.1
  obtain ⟨x0, hx0⟩ := Int.eq_ofNat_of_zero_le ha.1.1
  have hkb : k0 < 2 ^ 64 := by have := hk.2; omega
  have hmb : m0 < 2 ^ 64 := by have := hm.2; omega
  have hxb : x0 < 2 ^ 64 := by have := ha.1.2; omega
  have hxn : (⟨a.x, 0, 0⟩ : N3).n = x0 := by
    unfold N3.n N3.V
    dsimp only
    omega
  have CB := Aside0.mk (lbit_calls ha)
  have CB1 := Aside0.mk (lbit_calls (one_n ha.1))
  have CP := Aside0.mk (product_calls a.n hkb)
  have CP1 := Aside0.mk (product_calls x0 hkb)
  have CSc := Aside0.mk (scale_n ha hkb)
  have CTi := Aside0.mk (times_n hxb hkb)
  have CRe := Aside0.mk (rest_n ha hmb)
  have CRr := Aside0.mk (rrest_calls (bt_lt (n_lt ha)) hmb)
  have CW := Aside0.mk (whole_n (a.n * k0))
  have CWa := Aside0.mk (word_n (a.n * k0) (p := 192) (by decide))
  have CWl := Aside0.mk (word_n (x0 * k0) (p := 0) (by decide))
  have CWh := Aside0.mk (word_n (x0 * k0) (p := 64) (by decide))
  rw [← hk0] at CP CP1 CSc CTi
  rw [← hm0] at CRe CRr
  rw [← hx0] at CTi
  rw [hxn] at CB1
  rw [Nat.pow_zero, Nat.div_one] at CWl
  obtain ⟨F, hF⟩ : ∃ F, a.n * k0 = F := ⟨_, rfl⟩
  obtain ⟨G, hG⟩ : ∃ F, x0 * k0 = F := ⟨_, rfl⟩
  rw [hF] at CP CSc CW CWa
  rw [hG] at CP1 CTi CWl CWh
  obtain ⟨s, hs⟩ : ∃ s, n3 F = s := ⟨_, rfl⟩
  obtain ⟨c, hc⟩ : ∃ s : Int, ((F / 2 ^ 192 % 2 ^ 64 : Nat) : Int) = s := ⟨_, rfl⟩
  obtain ⟨hi, hhi⟩ : ∃ s : Int, ((G / 2 ^ 64 % 2 ^ 64 : Nat) : Int) = s := ⟨_, rfl⟩
  obtain ⟨lo, hlo⟩ : ∃ s : Int, ((G % 2 ^ 64 : Nat) : Int) = s := ⟨_, rfl⟩
  obtain ⟨v, hv⟩ : ∃ s : Int, ((if m0 = 0 then 0 else a.n % m0 : Nat) : Int) = s := ⟨_, rfl⟩
  rw [hs] at CSc CW
  rw [hc] at CSc CWa
  rw [hhi] at CTi CWh
  rw [hlo] at CTi CWl
  rw [hv] at CRe CRr
  clear htab hk0 hm0 hx0 hkb hmb hxb hxn hk hm ha hF hG hs hc hhi hlo hv
  go_enter Tryd.func9, Tryd.ntmps9
  go_upto_region 1 with (fail)
  have HB : Aside0 (Below w.heap.size w (w.alloc (Obj.cells (cs3 a) 24))) := ⟨below_alloc (Below.refl _ _) _⟩
  have Ba : Aside0 (Box3 (w.alloc (Obj.cells (cs3 a) 24)) w.heap.size a) := ⟨Box3.new w a⟩
  generalize (w.alloc (Obj.cells #[.int .u64 a.x, .int .u64 a.y, .int .u64 a.z] 24)) = W0 at HB Ba ⊢
  have CA := Aside0.mk (fun (W : World) (h : Below w.heap.size w W) => alive_calls W (tab_below HT.out h))
  go_upto_region 3 with (go_at_call 10; (with_reducible refine (CA.out _ HB.out).mono ?_); rintro e w2 ⟨rfl, hb⟩; have HN := Aside0.mk (below_step (w := w) HB.out hb); have Ka := Aside0.mk (Ba.out.kept hb); clear hb HB Ba)
  have HB := HN
  have Ba := Ka
  clear HN Ka CA HT
  have hz := zero_bits
  obtain ⟨⟨la0, la1, la2⟩, ⟨fa0, fa1, fa2⟩, na⟩ := Ba.out.facts
  go_upto_region 4 with (first
    | (go_at_call 13; (with_reducible refine (CB.out _).mono ?_); rintro e w3 ⟨rfl, hb⟩; have HN := Aside0.mk (below_step (w := w) HB.out hb); have Ka := Aside0.mk (Ba.out.kept hb); clear hb HB Ba la0 la1 la2 fa0 fa1 fa2 na; have HB := HN; have Ba := Ka; clear HN Ka)
    | (go_at_call 28; (with_reducible refine (CP.out _).mono ?_); rintro e w4 ⟨rfl, hb⟩; have HN := Aside0.mk (below_step (w := w) HB.out hb); have Ka := Aside0.mk (Ba.out.kept hb); clear hb HB Ba; have hs4 := sv_bits (f' := bt F) (BoxB.new w4 none')))
  have HB : Aside0 (Below w.heap.size w ((w4.alloc (Obj.cells (bA none') 29)).setRow w4.heap.size (bA (bt F)))) := ⟨below_row (below_alloc HN.out _) HN.out.size⟩
  have Ba := Aside0.mk (Box3.farRow' (c := bA (bt F)) (Ka.out.alloc (Obj.cells (bA none') 29)) (Nat.ne_of_lt Ka.out.facts.2.2))
  have B7 := Aside0.mk (BoxB.row (f' := bt F) (BoxB.new w4 none'))
  clear HN Ka hs4
  generalize ((w4.alloc (Obj.cells (bA none') 29)).setRow w4.heap.size (bA (bt F))) = W4 at HB Ba B7 ⊢
  generalize w4.heap.size = g7 at B7 ⊢
  obtain ⟨⟨la0, la1, la2⟩, ⟨fa0, fa1, fa2⟩, na⟩ := Ba.out.facts
  go_upto_region 5 with (go_at_call 23; (with_reducible refine (CSc.out _).mono ?_); rintro e w5 ⟨rfl, hb⟩; have HN := Aside0.mk (below_step (w := w) HB.out hb); have Ka := Aside0.mk (Ba.out.kept hb); have K7 := Aside0.mk (B7.out.kept hb); clear hb HB Ba B7 la0 la1 la2 fa0 fa1 fa2 na)
  have HB : Aside0 (Below w.heap.size w (w5.alloc (Obj.cells (cs3 s) 24))) := ⟨below_alloc HN.out _⟩
  have Ba := Aside0.mk (Ka.out.alloc (Obj.cells (cs3 s) 24))
  have B7 := Aside0.mk (K7.out.alloc (Obj.cells (cs3 s) 24))
  have B8 := Aside0.mk (Box3.new w5 s)
  clear HN Ka K7
  generalize w5.heap.size = g8 at B8 ⊢
  generalize (w5.alloc (Obj.cells #[.int .u64 s.x, .int .u64 s.y, .int .u64 s.z] 24)) = W5 at HB Ba B7 B8 ⊢
  obtain ⟨⟨la0, la1, la2⟩, ⟨fa0, fa1, fa2⟩, na⟩ := Ba.out.facts
  go_upto_region 6 with (go_at_call 29; (with_reducible refine (CTi.out _).mono ?_); rintro e w6 ⟨rfl, hb⟩; have HN := Aside0.mk (below_step (w := w) HB.out hb); have Ka := Aside0.mk (Ba.out.kept hb); have K7 := Aside0.mk (B7.out.kept hb); have K8 := Aside0.mk (B8.out.kept hb); clear hb HB Ba B7 B8 la0 la1 la2 fa0 fa1 fa2 na; have HB := HN; have Ba := Ka; have B7 := K7; have B8 := K8; clear HN Ka K7 K8)
  obtain ⟨⟨la0, la1, la2⟩, ⟨fa0, fa1, fa2⟩, na⟩ := Ba.out.facts
  go_upto_region 7 with (first
    | (go_at_call 13; (with_reducible refine (CB1.out _).mono ?_); rintro e w7 ⟨rfl, hb⟩; have HN := Aside0.mk (below_step (w := w) HB.out hb); have Ka := Aside0.mk (Ba.out.kept hb); have K7 := Aside0.mk (B7.out.kept hb); have K8 := Aside0.mk (B8.out.kept hb); clear hb HB Ba B7 B8 la0 la1 la2 fa0 fa1 fa2 na; have HB := HN; have Ba := Ka; have B7 := K7; have B8 := K8; clear HN Ka K7 K8)
    | (go_at_call 28; (with_reducible refine (CP1.out _).mono ?_); rintro e w8 ⟨rfl, hb⟩; have HN := Aside0.mk (below_step (w := w) HB.out hb); have Ka := Aside0.mk (Ba.out.kept hb); have K7 := Aside0.mk (B7.out.kept hb); have K8 := Aside0.mk (B8.out.kept hb); clear hb HB Ba B7 B8; have hs8 := sv_bits (f' := bt G) (BoxB.new w8 none')))
  have HB : Aside0 (Below w.heap.size w ((w8.alloc (Obj.cells (bA none') 29)).setRow w8.heap.size (bA (bt G)))) := ⟨below_row (below_alloc HN.out _) HN.out.size⟩
  have Ba := Aside0.mk (Box3.farRow' (c := bA (bt G)) (Ka.out.alloc (Obj.cells (bA none') 29)) (Nat.ne_of_lt Ka.out.facts.2.2))
  have B8 := Aside0.mk (Box3.farRow' (c := bA (bt G)) (K8.out.alloc (Obj.cells (bA none') 29)) (Nat.ne_of_lt K8.out.facts.2.2))
  have B7 := Aside0.mk (BoxB.farRow (c := bA (bt G)) (K7.out.alloc (Obj.cells (bA none') 29)) (Nat.ne_of_lt K7.out.lt))
  have B12 := Aside0.mk (BoxB.row (f' := bt G) (BoxB.new w8 none'))
  clear HN Ka K7 K8 hs8 hz
  generalize ((w8.alloc (Obj.cells (bA none') 29)).setRow w8.heap.size (bA (bt G))) = W7 at HB Ba B7 B8 B12 ⊢
  generalize w8.heap.size = g12 at B12 ⊢
  have l7 : ∀ d os, (loadVar 29 ⟨g7, 0, none⟩).run Tryd.prog (grow (redrawn W7 d) os) = .ok (TB (bt F)) (grow (redrawn W7 d) os) := fun d os => lv_bits (B7.out.kept (below_regrown W7 d os))
  have l12 : ∀ d os, (loadVar 29 ⟨g12, 0, none⟩).run Tryd.prog (grow (redrawn W7 d) os) = .ok (TB (bt G)) (grow (redrawn W7 d) os) := fun d os => lv_bits (B12.out.kept (below_regrown W7 d os))
  obtain ⟨⟨xa0, xa1, xa2⟩, _, _⟩ := Ba.out.facts
  obtain ⟨⟨x80, x81, x82⟩, _, _⟩ := B8.out.facts
  have ka0 := cell_regrown xa0
  have ka1 := cell_regrown xa1
  have ka2 := cell_regrown xa2
  have k80 := cell_regrown x80
  have k81 := cell_regrown x81
  have k82 := cell_regrown x82
  clear xa0 xa1 xa2 x80 x81 x82 Ba B7 B8 B12
  have cW : ∀ d os, Calls Tryd.prog 21 #[TB (bt F)] (grow (redrawn W7 d) os) fun e w'' => e = .returned (T3 s) ∧ ∃ p : Regrown, w'' = grow (redrawn W7 p.d) p.os := fun d os => Calls.regrown_of (CW.out _)
  have cA : ∀ d os, Calls Tryd.prog 30 #[TB (bt F), .int .i64 192] (grow (redrawn W7 d) os) fun e w'' => e = .returned (.int .u64 c) ∧ ∃ p : Regrown, w'' = grow (redrawn W7 p.d) p.os := fun d os => Calls.regrown_of (CWa.out _)
  have cL : ∀ d os, Calls Tryd.prog 30 #[TB (bt G), .int .i64 0] (grow (redrawn W7 d) os) fun e w'' => e = .returned (.int .u64 lo) ∧ ∃ p : Regrown, w'' = grow (redrawn W7 p.d) p.os := fun d os => Calls.regrown_of (CWl.out _)
  have cH : ∀ d os, Calls Tryd.prog 30 #[TB (bt G), .int .i64 64] (grow (redrawn W7 d) os) fun e w'' => e = .returned (.int .u64 hi) ∧ ∃ p : Regrown, w'' = grow (redrawn W7 p.d) p.os := fun d os => Calls.regrown_of (CWh.out _)
  have cR : ∀ d os, Calls Tryd.prog 31 #[T3 a, .int .u64 m] (grow (redrawn W7 d) os) fun e w'' => e = .returned (.int .u64 v) ∧ ∃ p : Regrown, w'' = grow (redrawn W7 p.d) p.os := fun d os => Calls.regrown_of (CRe.out _)
  have cB : ∀ d os, Calls Tryd.prog 13 #[T3 a] (grow (redrawn W7 d) os) fun e w'' => e = .returned (TB (bt a.n)) ∧ ∃ p : Regrown, w'' = grow (redrawn W7 p.d) p.os := fun d os => Calls.regrown_of (CB.out _)
  have cQ : ∀ d os, Calls Tryd.prog 32 #[TB (bt a.n), .int .u64 m] (grow (redrawn W7 d) os) fun e w'' => e = .returned (.int .u64 v) ∧ ∃ p : Regrown, w'' = grow (redrawn W7 p.d) p.os := fun d os => Calls.regrown_of (CRr.out _)
  have E1 := eq3_t 23 Tryd.underlying23 s.x s.y s.z s.x s.y s.z
  rw [decide_eq_true ⟨rfl, rfl, rfl⟩] at E1
  clear CB CB1 CP CP1 CSc CTi CRe CRr CW CWa CWl CWh
  refine wp_region_quiet_below (by kernel_rfl) (by kernel_rfl) ?_
  repeat (go_big_quiet_step (first | (with_reducible exact cW _ _) | (with_reducible exact cA _ _) | (with_reducible exact cL _ _) | (with_reducible exact cH _ _) | (with_reducible exact cR _ _) | (with_reducible exact cB _ _) | (with_reducible exact cQ _ _)))
  refine wpQuiet_nil ?_
  intro _ hw'
  obtain ⟨⟨dq, osq⟩, hw''⟩ := hw'
  subst hw''
  go_wp2
  go_ret
  exact ⟨rfl, below_step HB.out (below_regrown _ dq osq)⟩
end Go.Proofs.YtlpbfhbfaphicaaDoor.L01
