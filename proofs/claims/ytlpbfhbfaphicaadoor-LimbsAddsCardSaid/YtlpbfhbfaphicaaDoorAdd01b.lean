/- Layer 1: LimbsAdds, walked. -/
import Derived.Test.YtlpbfhbfaphicaaDoorDet01
import Derived.Test.YtlpbfhbfaphicaaDoorAliv01
import Derived.Test.YtlpbfhbfaphicaaDoorInv01
import Derived.Test.YtlpbfhbfaphicaaDoorEq01
import Derived.Lib.QuietBelow
namespace Go.Proofs.YtlpbfhbfaphicaaDoor.L01
open Go Go.RowKit Go.Lib Go.Sort Go.Proofs.YtlpbfhbfaphicaaDoorW.PrintWords Go.Proofs.YtlpbfhbfaphicaaDoorW.PrintLast Go.Proofs.YtlpbfhbfaphicaaDoorW.PrintMore Go.Proofs.YtlpbfhbfaphicaaDoor.Given Go.Proofs.YtlpbfhbfaphicaaDoor.M Go.Proofs.YtlpbfhbfaphicaaDoor.XB

set_option linter.unusedVariables false
def allB : Nat → List (List Bool)
  | 0 => [[]]
  | n + 1 => (allB n).map (false :: ·) ++ (allB n).map (true :: ·)
theorem mem_allB : ∀ (l : List Bool), l ∈ allB l.length
  | [] => by simp [allB]
  | false :: l => by simp [allB, mem_allB l]
  | true :: l => by simp [allB, mem_allB l]
/-- What must have come up before each operation. -/
def needs : Nat → List Nat
  | 1 => [0]
  | 3 => [1, 2]
  | 6 => [0, 1, 3, 4, 5]
  | 7 => [0, 1, 2, 3, 4, 5, 6]
  | _ => []
def okAt (l : Array Bool) (i : Nat) : Bool := decide (i < 8) && !l.getD i true && (needs i).all fun j => l.getD j false
theorem ready_ok {ops : Array Oper} (h : ((allB 8).all fun l => (Region.ready .any ops l.toArray).all fun i => okAt l.toArray i) = true) {l : List Bool} (hl : l.length = 8) {i : Nat} (hi : i ∈ Region.ready .any ops l.toArray) : okAt l.toArray i = true := by
  have h1 := List.all_eq_true.1 h l (hl ▸ mem_allB l)
  exact List.all_eq_true.1 h1 i hi
theorem done_ok {ops : Array Oper} (h : ((allB 8).all fun l => !(Region.ready .any ops l.toArray).isEmpty || l.all id) = true) {l : List Bool} (hl : l.length = 8) (hi : Region.ready .any ops l.toArray = []) : l.all id = true := by
  have h1 := List.all_eq_true.1 h l (hl ▸ mem_allB l)
  rw [hi] at h1
  simpa using h1
theorem Box3.farRow {w : World} {g g' : Nat} {f : N3} {c : Array Value} (h : Box3 w g f) (hne : g ≠ g') : Box3 (w.setRow g' c) g f := by
  unfold Box3 at *
  simp only [World.setRow]
  rw [Array.getElem?_modify, if_neg (fun e => hne e.symm), h]
/-- What is kept while the third region goes on. -/
structure R3 (a b : N3) (w w' : World) (b0 b1 b2 b3 b4 b5 b6 b7 : Bool) (u5 u6 u17 u18 u19 u20 : Value) (g5 g6 : Nat) : Prop where
  below : Below w.heap.size w w'
  ba : Box3 w' w.heap.size a
  bb : Box3 w' (w.heap.size + 1) b
  h0 : b0 = true → u17 = T3 a
  h1 : b1 = true → u18 = TB (bt a.n)
  h2 : b2 = true → u19 = T3 b
  h3 : b3 = true → u20 = TB (bt b.n)
  h4 : b4 = true → u5 = .pointer (some ⟨g5, 0, none⟩) ∧ w.heap.size + 1 < g5 ∧ BoxB w' g5 (if b6 then bt a.n else none')
  h5 : b5 = true → u6 = .pointer (some ⟨g6, 0, none⟩) ∧ w.heap.size + 1 < g6 ∧ BoxB w' g6 (if b7 then bt b.n else none')
  h45 : b4 = true → b5 = true → g5 ≠ g6
  h6 : b6 = true → b4 = true
  h7 : b7 = true → b5 = true
def I3 (a b : N3) (w : World) (l : Array Bool) (x : Act) (w' : World) : Prop :=
  ∃ b0 b1 b2 b3 b4 b5 b6 b7 : Bool, ∃ u5 u6 u17 u18 u19 u20 : Value, ∃ g5 g6 : Nat, l = [b0, b1, b2, b3, b4, b5, b6, b7].toArray ∧ x = { tmps := #[T3 a, T3 b, .pointer (some ⟨w.heap.size, 0, none⟩), .pointer (some ⟨w.heap.size + 1, 0, none⟩), .bool false, u5, u6, undef, undef, undef, undef, undef, undef, undef, undef, .bool true, .bool false, u17, u18, u19, u20, undef, undef, undef, undef, undef, undef, undef, undef, undef, undef, undef, undef, undef, undef, undef, undef, undef, undef, undef, undef, undef, undef, undef, undef, undef, undef, undef, undef, undef, undef, undef, undef, undef, undef, undef, undef, undef, undef, undef, undef, undef, undef, undef, undef, undef, undef, undef, undef, undef, undef, undef, undef, undef, undef, undef, undef, undef, undef, undef, undef, undef, undef], defers := [] } ∧ R3 a b w w' b0 b1 b2 b3 b4 b5 b6 b7 u5 u6 u17 u18 u19 u20 g5 g6
attribute [-go_sem] loadVar storeVar
attribute [local go_sem] lv_u lv_i lv_b lv_3 lv_T sv_u sv_i sv_b sv_3 sv_T
set_option maxHeartbeats 2000000 in
set_option maxRecDepth 100000 in
theorem adds_walk {a b : N3} (ha : a.ok) (hb : b.ok) (w : World) (htab : Tab w) : Calls Tryd.prog 8 #[T3 a, T3 b] w fun e w' => e = .returned (.bool true) ∧ Below w.heap.size w w' := by
  have HT := Aside0.mk htab
  have HA := Aside0.mk ha
  have HB' := Aside0.mk hb
  clear htab ha hb
  go_enter Tryd.func8, Tryd.ntmps8
  go_upto_region 1 with (fail)
  have HB : Aside0 (Below w.heap.size w ((w.alloc (Obj.cells (cs3 a) 24)).alloc (Obj.cells (cs3 b) 24))) := ⟨below_alloc (below_alloc (Below.refl _ _) _) _⟩
  have Ba : Aside0 (Box3 ((w.alloc (Obj.cells (cs3 a) 24)).alloc (Obj.cells (cs3 b) 24)) w.heap.size a) := ⟨(Box3.new w a).alloc _⟩
  have Bb : Aside0 (Box3 ((w.alloc (Obj.cells (cs3 a) 24)).alloc (Obj.cells (cs3 b) 24)) (w.heap.size + 1) b) := ⟨Box3.new' (by simp only [World.size_alloc])⟩
  generalize ((w.alloc (Obj.cells #[.int .u64 a.x, .int .u64 a.y, .int .u64 a.z] 24)).alloc (Obj.cells #[.int .u64 b.x, .int .u64 b.y, .int .u64 b.z] 24)) = W0 at HB Ba Bb ⊢
  have CA := Aside0.mk (fun (W : World) (h : Below w.heap.size w W) => alive_calls W (tab_below HT.out h))
  go_upto_region 3 with (go_at_call 10; (with_reducible refine (CA.out _ HB.out).mono ?_); rintro e w2 ⟨rfl, hb⟩; have HN := Aside0.mk (below_step HB.out hb); have Ka := Aside0.mk (Ba.out.kept hb); have Kb := Aside0.mk (Bb.out.kept hb); clear hb HB Ba Bb)
  have HB := HN
  have Ba := Ka
  have Bb := Kb
  clear HN Ka Kb CA HT
  go_cut [5, 6] (fun v5 v6 wc => ∃ g5 g6 : Nat, v5 = .pointer (some ⟨g5, 0, none⟩) ∧ v6 = .pointer (some ⟨g6, 0, none⟩) ∧ Aside0 (Below w.heap.size w wc ∧ w.heap.size + 1 < g5 ∧ w.heap.size + 1 < g6 ∧ g5 ≠ g6) ∧ Aside0 (Box3 wc w.heap.size a) ∧ Aside0 (Box3 wc (w.heap.size + 1) b) ∧ Aside0 (BoxB wc g5 (bt a.n)) ∧ Aside0 (BoxB wc g6 (bt b.n)))
  case first =>
    have hz := zero_bits
    have CX := Aside0.mk (lbit_calls HA.out)
    have CY := Aside0.mk (lbit_calls HB'.out)
    refine wp_region_inv (I3 a b w) (by kernel_rfl) ?start ?step ?done
    case start =>
      exact ⟨false, false, false, false, false, false, false, false, undef, undef, undef, undef, undef, undef, 0, 0, rfl, rfl, ⟨below_drew1 HB.out, Ba.out.drew, Bb.out.drew, (fun h => by cases h), (fun h => by cases h), (fun h => by cases h), (fun h => by cases h), (fun h => by cases h), (fun h => by cases h), (fun h => by cases h), (fun h => by cases h), (fun h => by cases h)⟩⟩
    case step =>
      rintro l x w' i ⟨b0, b1, b2, b3, b4, b5, b6, b7, u5, u6, u17, u18, u19, u20, g5, g6, rfl, rfl, hR⟩ hi
      have hok := ready_ok (by kernel_rfl) rfl hi
      clear hi
      have hi8 : i < 8 := by
        simp only [okAt, Bool.and_eq_true, decide_eq_true_eq] at hok
        exact hok.1.1
      have HRR := Aside0.mk hR
      obtain ⟨⟨la0, la1, la2⟩, ⟨fa0, fa1, fa2⟩, na⟩ := hR.ba.facts
      obtain ⟨⟨lb0, lb1, lb2⟩, ⟨fb0, fb1, fb2⟩, nb⟩ := hR.bb.facts
      have hcase : i = 0 ∨ i = 1 ∨ i = 2 ∨ i = 3 ∨ i = 4 ∨ i = 5 ∨ i = 6 ∨ i = 7 := by omega
      clear hi8 hR
      rcases hcase with rfl | rfl | rfl | rfl | rfl | rfl | rfl | rfl <;> simp [okAt, needs] at hok
      · obtain ⟨hok1⟩ := hok
        refine wpOp_step rfl (fun K hK => ?_)
        go_simp
        have R := HRR.out
        exact hK _ _ ⟨true, b1, b2, b3, b4, b5, b6, b7, u5, u6, _, u18, u19, u20, g5, g6, rfl, rfl, ⟨R.below, R.ba, R.bb, (fun _ => rfl), R.h1, R.h2, R.h3, R.h4, R.h5, R.h45, R.h6, R.h7⟩⟩
      · obtain ⟨hok1, hok2⟩ := hok
        obtain rfl := HRR.out.h0 hok2
        refine wpOp_step rfl (fun K hK => ?_)
        go_wp2_with (go_at_call 13; (with_reducible refine (CX.out _).mono ?_); rintro e w8 ⟨rfl, hb⟩; have HX := Aside0.mk hb; clear hb)
        have R := HRR.out
        exact ⟨b0, true, b2, b3, b4, b5, b6, b7, u5, u6, T3 a, _, u19, u20, g5, g6, rfl, rfl, ⟨below_step R.below HX.out, R.ba.kept HX.out, R.bb.kept HX.out, R.h0, (fun _ => rfl), R.h2, R.h3, (fun h => let ⟨e, l, x⟩ := R.h4 h; ⟨e, l, x.kept HX.out⟩), (fun h => let ⟨e, l, x⟩ := R.h5 h; ⟨e, l, x.kept HX.out⟩), R.h45, R.h6, R.h7⟩⟩
      · refine wpOp_step rfl (fun K hK => ?_)
        go_simp
        have R := HRR.out
        exact hK _ _ ⟨b0, b1, true, b3, b4, b5, b6, b7, u5, u6, u17, u18, _, u20, g5, g6, rfl, rfl, ⟨R.below, R.ba, R.bb, R.h0, R.h1, (fun _ => rfl), R.h3, R.h4, R.h5, R.h45, R.h6, R.h7⟩⟩
      · obtain ⟨hok1, hok2, hok3⟩ := hok
        obtain rfl := HRR.out.h2 hok3
        refine wpOp_step rfl (fun K hK => ?_)
        go_wp2_with (go_at_call 13; (with_reducible refine (CY.out _).mono ?_); rintro e w8 ⟨rfl, hb⟩; have HX := Aside0.mk hb; clear hb)
        have R := HRR.out
        exact ⟨b0, b1, b2, true, b4, b5, b6, b7, u5, u6, u17, u18, T3 b, _, g5, g6, rfl, rfl, ⟨below_step R.below HX.out, R.ba.kept HX.out, R.bb.kept HX.out, R.h0, R.h1, R.h2, (fun _ => rfl), (fun h => let ⟨e, l, x⟩ := R.h4 h; ⟨e, l, x.kept HX.out⟩), (fun h => let ⟨e, l, x⟩ := R.h5 h; ⟨e, l, x.kept HX.out⟩), R.h45, R.h6, R.h7⟩⟩
      · refine wpOp_step rfl (fun K hK => ?_)
        go_simp
        have R := HRR.out
        have h6 : b6 = false := by
          cases h : b6
          · rfl
          · exact absurd (R.h6 h) (by rw [hok]; exact Bool.false_ne_true)
        exact hK _ _ ⟨b0, b1, b2, b3, true, b5, b6, b7, _, u6, u17, u18, u19, u20, w'.heap.size, g6, rfl, rfl, ⟨below_alloc R.below _, R.ba.alloc _, R.bb.alloc _, R.h0, R.h1, R.h2, R.h3, (fun _ => ⟨rfl, R.bb.facts.2.2, by rw [h6]; exact BoxB.new w' _⟩), (fun h => let ⟨e, l, x⟩ := R.h5 h; ⟨e, l, x.alloc _⟩), (fun _ h => let ⟨_, _, x⟩ := R.h5 h; fun e => absurd x.lt (by rw [e]; exact Nat.lt_irrefl _)), (fun _ => rfl), R.h7⟩⟩
      · refine wpOp_step rfl (fun K hK => ?_)
        go_simp
        have R := HRR.out
        have h7 : b7 = false := by
          cases h : b7
          · rfl
          · exact absurd (R.h7 h) (by rw [hok]; exact Bool.false_ne_true)
        exact hK _ _ ⟨b0, b1, b2, b3, b4, true, b6, b7, u5, _, u17, u18, u19, u20, g5, w'.heap.size, rfl, rfl, ⟨below_alloc R.below _, R.ba.alloc _, R.bb.alloc _, R.h0, R.h1, R.h2, R.h3, (fun h => let ⟨e, l, x⟩ := R.h4 h; ⟨e, l, x.alloc _⟩), (fun _ => ⟨rfl, R.bb.facts.2.2, by rw [h7]; exact BoxB.new w' _⟩), (fun h _ => let ⟨_, _, x⟩ := R.h4 h; fun e => absurd x.lt (by rw [e]; exact Nat.lt_irrefl _)), R.h6, (fun _ => rfl)⟩⟩
      · obtain ⟨k6, k0, k1, k3, k4, k5⟩ := hok
        obtain ⟨rfl, hl, hx⟩ := HRR.out.h4 k4
        obtain rfl := HRR.out.h1 k1
        rw [k6] at hx
        have hx2 : BoxB w' g5 none' := hx
        have HXX := Aside0.mk hx2
        have hs := sv_bits (f' := bt a.n) hx2
        have HL := Aside0.mk hl
        clear hx hx2 hl
        refine wpOp_step rfl (fun K hK => ?_)
        go_simp
        have R := HRR.out
        have hl := HL.out
        exact hK _ _ ⟨b0, b1, b2, b3, b4, b5, true, b7, _, u6, u17, _, u19, u20, g5, g6, rfl, rfl, ⟨below_row R.below (by omega), R.ba.farRow (by omega), R.bb.farRow (by omega), R.h0, R.h1, R.h2, R.h3, (fun _ => ⟨rfl, hl, HXX.out.row⟩), (fun h => let ⟨e, l, x⟩ := R.h5 h; ⟨e, l, x.farRow (fun e => R.h45 k4 h e.symm)⟩), R.h45, (fun _ => k4), R.h7⟩⟩
      · obtain ⟨k7, k0, k1, k2, k3, k4, k5, k6⟩ := hok
        obtain ⟨rfl, hl, hx⟩ := HRR.out.h5 k5
        obtain rfl := HRR.out.h3 k3
        rw [k7] at hx
        have hx2 : BoxB w' g6 none' := hx
        have HXX := Aside0.mk hx2
        have hs := sv_bits (f' := bt b.n) hx2
        have HL := Aside0.mk hl
        clear hx hx2 hl
        refine wpOp_step rfl (fun K hK => ?_)
        go_simp
        have R := HRR.out
        have hl := HL.out
        exact hK _ _ ⟨b0, b1, b2, b3, b4, b5, b6, true, u5, _, u17, u18, u19, _, g5, g6, rfl, rfl, ⟨below_row R.below (by omega), R.ba.farRow (by omega), R.bb.farRow (by omega), R.h0, R.h1, R.h2, R.h3, (fun h => let ⟨e, l, x⟩ := R.h4 h; ⟨e, l, x.farRow (R.h45 h k5)⟩), (fun _ => ⟨rfl, hl, HXX.out.row⟩), R.h45, R.h6, (fun _ => k5)⟩⟩
    case done =>
      rintro l x w' ⟨b0, b1, b2, b3, b4, b5, b6, b7, u5, u6, u17, u18, u19, u20, g5, g6, rfl, rfl, hR⟩ hi
      have hok := done_ok (by kernel_rfl) rfl hi
      clear hi
      simp at hok
      obtain ⟨rfl, rfl, rfl, rfl, rfl, rfl, rfl, rfl⟩ := hok
      obtain ⟨rfl, hl5, hx5⟩ := hR.h4 rfl
      obtain ⟨rfl, hl6, hx6⟩ := hR.h5 rfl
      have HE : Aside0 (Below w.heap.size w w' ∧ w.heap.size + 1 < g5 ∧ w.heap.size + 1 < g6 ∧ g5 ≠ g6) := ⟨hR.below, hl5, hl6, hR.h45 rfl rfl⟩
      have H1 := Aside0.mk hR.ba
      have H2 := Aside0.mk hR.bb
      have H3 : Aside0 (BoxB w' g5 (bt a.n)) := ⟨hx5⟩
      have H4 : Aside0 (BoxB w' g6 (bt b.n)) := ⟨hx6⟩
      clear hR hl5 hx5 hl6 hx6
      go_wp2
      go_meet
      case rel => exact ⟨g5, g6, rfl, rfl, HE, H1, H2, H3, H4⟩
  case rest =>
    clear HB Ba Bb
    obtain ⟨g5, g6, rfl, rfl, HE, Ba, Bb, BX, BY⟩ := hcut
    have HB : Aside0 (Below w.heap.size w wc) := ⟨HE.out.1⟩
    clear HE
    obtain ⟨S, hS⟩ : ∃ S, a.n + b.n = S := ⟨_, rfl⟩
    obtain ⟨N, hN⟩ : ∃ N, (2 ^ 192 - b.n) % 2 ^ 192 = N := ⟨_, rfl⟩
    obtain ⟨D, hD⟩ : ∃ D, a.n + N = D := ⟨_, rfl⟩
    obtain ⟨r, hr⟩ : ∃ r, bt S 192 = r := ⟨_, rfl⟩
    obtain ⟨s1, hs1⟩ : ∃ s, n3 S = s := ⟨_, rfl⟩
    obtain ⟨s2, hs2⟩ : ∃ s, n3 D = s := ⟨_, rfl⟩
    obtain ⟨s3, hs3⟩ : ∃ s, n3 N = s := ⟨_, rfl⟩
    obtain ⟨P, hP⟩ : ∃ P, decide (a.n < b.n) = P := ⟨_, rfl⟩
    obtain ⟨R, hR⟩ : ∃ P, decide (b.n < a.n) = P := ⟨_, rfl⟩
    obtain ⟨C, hC⟩ : ∃ C, cmpN a.n b.n = C := ⟨_, rfl⟩
    have CSum := Aside0.mk (sum_n a.n b.n)
    have CAdd := Aside0.mk (add_n HA.out HB'.out)
    have CSub := Aside0.mk (sub_n HA.out HB'.out)
    have CLe := Aside0.mk (less_calls (bt_lt (n_lt HA.out)) (bt_lt (n_lt HB'.out)))
    have CMo := Aside0.mk (less_calls (bt_lt (n_lt HB'.out)) (bt_lt (n_lt HA.out)))
    have CTu := Aside0.mk (turned_calls (n_lt HB'.out))
    have CS2 := Aside0.mk (sum_n a.n N)
    have CNe := Aside0.mk (neg_n HB'.out)
    have CCo := Aside0.mk (compare_n HA.out HB'.out)
    have CW1 := Aside0.mk (whole_n S)
    have CW2 := Aside0.mk (whole_n D)
    have CW3 := Aside0.mk (whole_n N)
    rw [hS] at CSum CAdd
    rw [hN] at CSub CTu CNe
    rw [hD] at CS2 CSub
    rw [hr] at CAdd
    rw [hs1] at CAdd CW1
    rw [hs2] at CSub CW2
    rw [hs3] at CNe CW3
    rw [hP] at CSub CLe
    rw [hR] at CMo
    rw [hC] at CCo
    have HPRC : Aside0 ((P = true ∧ R = false ∧ C = -1) ∨ (P = false ∧ R = true ∧ C = 1) ∨ (P = false ∧ R = false ∧ C = 0)) := ⟨by
      rw [← hP, ← hR, ← hC]
      unfold cmpN
      by_cases h1 : a.n < b.n
      · exact Or.inl ⟨decide_eq_true h1, decide_eq_false (by omega), if_pos h1⟩
      · by_cases h2 : b.n < a.n
        · exact Or.inr (Or.inl ⟨decide_eq_false h1, decide_eq_true h2, by rw [if_neg h1, if_pos h2]⟩)
        · exact Or.inr (Or.inr ⟨decide_eq_false h1, decide_eq_false h2, by rw [if_neg h1, if_neg h2]⟩)⟩
    have HR := Aside0.mk hr
    clear hS hN hD hr hs1 hs2 hs3 hP hR hC
    have hz := zero_bits
    have hl5 := lv_bits BX.out
    have hl6 := lv_bits BY.out
    go_upto_region 5 with (go_at_call 24; (with_reducible refine (CSum.out _).mono ?_); rintro e w4 ⟨rfl, hb⟩; have HN := Aside0.mk (below_step HB.out hb); have Ka := Aside0.mk (Ba.out.kept hb); have Kb := Aside0.mk (Bb.out.kept hb); have Kx := Aside0.mk (BX.out.kept hb); have Ky := Aside0.mk (BY.out.kept hb); clear hb HB Ba Bb BX BY hl5 hl6; have hs4 := sv_bits (f' := bt S) (BoxB.new w4 none'))
    have HB : Aside0 (Below w.heap.size w ((w4.alloc (Obj.cells (bA none') 29)).setRow w4.heap.size (bA (bt S)))) := ⟨below_row (below_alloc HN.out _) HN.out.size⟩
    have nea := Nat.ne_of_lt Ka.out.facts.2.2
    have neb := Nat.ne_of_lt Kb.out.facts.2.2
    have nex := Nat.ne_of_lt Kx.out.lt
    have ney := Nat.ne_of_lt Ky.out.lt
    have Ba := Aside0.mk (Box3.farRow (c := bA (bt S)) (Ka.out.alloc (Obj.cells (bA none') 29)) nea)
    have Bb := Aside0.mk (Box3.farRow (c := bA (bt S)) (Kb.out.alloc (Obj.cells (bA none') 29)) neb)
    have BX := Aside0.mk (BoxB.farRow (c := bA (bt S)) (Kx.out.alloc (Obj.cells (bA none') 29)) nex)
    have BY := Aside0.mk (BoxB.farRow (c := bA (bt S)) (Ky.out.alloc (Obj.cells (bA none') 29)) ney)
    have BS := Aside0.mk (BoxB.row (f' := bt S) (BoxB.new w4 none'))
    clear HN Ka Kb Kx Ky hs4 nea neb nex ney hz
    generalize ((w4.alloc (Obj.cells (bA none') 29)).setRow w4.heap.size (bA (bt S))) = W4 at HB Ba Bb BX BY BS ⊢
    generalize w4.heap.size = g7 at BS ⊢
    obtain ⟨⟨la0, la1, la2⟩, ⟨fa0, fa1, fa2⟩, na⟩ := Ba.out.facts
    obtain ⟨⟨lb0, lb1, lb2⟩, ⟨fb0, fb1, fb2⟩, nb⟩ := Bb.out.facts
    go_upto_region 6 with (go_at_call 14; (with_reducible refine (CAdd.out _).mono ?_); rintro e w5 ⟨rfl, hb⟩; have HN := Aside0.mk (below_step HB.out hb); have Ka := Aside0.mk (Ba.out.kept hb); have Kb := Aside0.mk (Bb.out.kept hb); have Kx := Aside0.mk (BX.out.kept hb); have Ky := Aside0.mk (BY.out.kept hb); have Ks := Aside0.mk (BS.out.kept hb); clear hb HB Ba Bb BX BY BS la0 la1 la2 fa0 fa1 fa2 na lb0 lb1 lb2 fb0 fb1 fb2 nb)
    have HB : Aside0 (Below w.heap.size w (w5.alloc (Obj.cells (cs3 s1) 24))) := ⟨below_alloc HN.out _⟩
    have Ba := Aside0.mk (Ka.out.alloc (Obj.cells (cs3 s1) 24))
    have Bb := Aside0.mk (Kb.out.alloc (Obj.cells (cs3 s1) 24))
    have BX := Aside0.mk (Kx.out.alloc (Obj.cells (cs3 s1) 24))
    have BY := Aside0.mk (Ky.out.alloc (Obj.cells (cs3 s1) 24))
    have BS := Aside0.mk (Ks.out.alloc (Obj.cells (cs3 s1) 24))
    have B8 := Aside0.mk (Box3.new w5 s1)
    clear HN Ka Kb Kx Ky Ks
    generalize w5.heap.size = g8 at B8 ⊢
    generalize (w5.alloc (Obj.cells #[.int .u64 s1.x, .int .u64 s1.y, .int .u64 s1.z] 24)) = W5 at HB Ba Bb BX BY BS B8 ⊢
    obtain ⟨⟨la0, la1, la2⟩, ⟨fa0, fa1, fa2⟩, na⟩ := Ba.out.facts
    obtain ⟨⟨lb0, lb1, lb2⟩, ⟨fb0, fb1, fb2⟩, nb⟩ := Bb.out.facts
    go_upto_region 7 with (go_at_call 15; (with_reducible refine (CSub.out _).mono ?_); rintro e w6 ⟨rfl, hb⟩; have HN := Aside0.mk (below_step HB.out hb); have Ka := Aside0.mk (Ba.out.kept hb); have Kb := Aside0.mk (Bb.out.kept hb); have Kx := Aside0.mk (BX.out.kept hb); have Ky := Aside0.mk (BY.out.kept hb); have Ks := Aside0.mk (BS.out.kept hb); have K8 := Aside0.mk (B8.out.kept hb); clear hb HB Ba Bb BX BY BS B8 la0 la1 la2 fa0 fa1 fa2 na lb0 lb1 lb2 fb0 fb1 fb2 nb)
    have HB : Aside0 (Below w.heap.size w (w6.alloc (Obj.cells (cs3 s2) 24))) := ⟨below_alloc HN.out _⟩
    have Ba := Aside0.mk (Ka.out.alloc (Obj.cells (cs3 s2) 24))
    have Bb := Aside0.mk (Kb.out.alloc (Obj.cells (cs3 s2) 24))
    have BX := Aside0.mk (Kx.out.alloc (Obj.cells (cs3 s2) 24))
    have BY := Aside0.mk (Ky.out.alloc (Obj.cells (cs3 s2) 24))
    have BS := Aside0.mk (Ks.out.alloc (Obj.cells (cs3 s2) 24))
    have B8 := Aside0.mk (K8.out.alloc (Obj.cells (cs3 s2) 24))
    have B10 := Aside0.mk (Box3.new w6 s2)
    clear HN Ka Kb Kx Ky Ks K8
    generalize w6.heap.size = g10 at B10 ⊢
    generalize (w6.alloc (Obj.cells #[.int .u64 s2.x, .int .u64 s2.y, .int .u64 s2.z] 24)) = W6 at HB Ba Bb BX BY BS B8 B10 ⊢
    have lx : ∀ d os, (loadVar 29 ⟨g5, 0, none⟩).run Tryd.prog (grow (redrawn W6 d) os) = .ok (TB (bt a.n)) (grow (redrawn W6 d) os) := fun d os => lv_bits (BX.out.kept (below_regrown W6 d os))
    have ly : ∀ d os, (loadVar 29 ⟨g6, 0, none⟩).run Tryd.prog (grow (redrawn W6 d) os) = .ok (TB (bt b.n)) (grow (redrawn W6 d) os) := fun d os => lv_bits (BY.out.kept (below_regrown W6 d os))
    have cL : ∀ d os, Calls Tryd.prog 25 #[TB (bt a.n), TB (bt b.n)] (grow (redrawn W6 d) os) fun e w'' => e = .returned (.bool P) ∧ ∃ p : Regrown, w'' = grow (redrawn W6 p.d) p.os := fun d os => Calls.regrown_of (CLe.out _)
    have cM : ∀ d os, Calls Tryd.prog 25 #[TB (bt b.n), TB (bt a.n)] (grow (redrawn W6 d) os) fun e w'' => e = .returned (.bool R) ∧ ∃ p : Regrown, w'' = grow (redrawn W6 p.d) p.os := fun d os => Calls.regrown_of (CMo.out _)
    refine wp_region_quiet_below (by kernel_rfl) (by kernel_rfl) ?_
    repeat (go_big_quiet_step (first | (with_reducible exact cL _ _) | (with_reducible exact cM _ _)))
    refine wpQuiet_nil ?_
    intro _ hw'
    obtain ⟨⟨d7, o7⟩, hw''⟩ := hw'
    subst hw''
    clear lx ly cL cM
    have HN := Aside0.mk (below_step HB.out (below_regrown W6 d7 o7))
    have Ka := Aside0.mk (Ba.out.kept (below_regrown W6 d7 o7))
    have Kb := Aside0.mk (Bb.out.kept (below_regrown W6 d7 o7))
    have Kx := Aside0.mk (BX.out.kept (below_regrown W6 d7 o7))
    have Ky := Aside0.mk (BY.out.kept (below_regrown W6 d7 o7))
    have Ks := Aside0.mk (BS.out.kept (below_regrown W6 d7 o7))
    have K8 := Aside0.mk (B8.out.kept (below_regrown W6 d7 o7))
    have K10 := Aside0.mk (B10.out.kept (below_regrown W6 d7 o7))
    clear HB Ba Bb BX BY BS B8 B10
    dsimp only at *
    generalize (grow (redrawn W6 d7) o7) = W7 at HN Ka Kb Kx Ky Ks K8 K10 ⊢
    have lx : ∀ d os, (loadVar 29 ⟨g5, 0, none⟩).run Tryd.prog (grow (redrawn W7 d) os) = .ok (TB (bt a.n)) (grow (redrawn W7 d) os) := fun d os => lv_bits (Kx.out.kept (below_regrown W7 d os))
    have ly : ∀ d os, (loadVar 29 ⟨g6, 0, none⟩).run Tryd.prog (grow (redrawn W7 d) os) = .ok (TB (bt b.n)) (grow (redrawn W7 d) os) := fun d os => lv_bits (Ky.out.kept (below_regrown W7 d os))
    have ls : ∀ d os, (loadVar 29 ⟨g7, 0, none⟩).run Tryd.prog (grow (redrawn W7 d) os) = .ok (TB (bt S)) (grow (redrawn W7 d) os) := fun d os => lv_bits (Ks.out.kept (below_regrown W7 d os))
    have l192 : ∀ d os, (grow (redrawn W7 d) os).cell? ⟨g7, 192, none⟩ = some (.bool r) := fun d os => by
      rw [← HR.out]
      exact ((Ks.out.kept (below_regrown W7 d os)).cell (show 192 < 256 by decide)).1
    obtain ⟨⟨xa0, xa1, xa2⟩, _, _⟩ := Ka.out.facts
    obtain ⟨⟨xb0, xb1, xb2⟩, _, _⟩ := Kb.out.facts
    obtain ⟨⟨x80, x81, x82⟩, _, _⟩ := K8.out.facts
    obtain ⟨⟨xc0, xc1, xc2⟩, _, _⟩ := K10.out.facts
    have ka0 := cell_regrown xa0
    have ka1 := cell_regrown xa1
    have ka2 := cell_regrown xa2
    have kb0 := cell_regrown xb0
    have kb1 := cell_regrown xb1
    have kb2 := cell_regrown xb2
    have k80 := cell_regrown x80
    have k81 := cell_regrown x81
    have k82 := cell_regrown x82
    have kc0 := cell_regrown xc0
    have kc1 := cell_regrown xc1
    have kc2 := cell_regrown xc2
    clear xa0 xa1 xa2 xb0 xb1 xb2 x80 x81 x82 xc0 xc1 xc2 Ka Kb Kx Ky Ks K8 K10
    have cW1 : ∀ d os, Calls Tryd.prog 21 #[TB (bt S)] (grow (redrawn W7 d) os) fun e w'' => e = .returned (T3 s1) ∧ ∃ p : Regrown, w'' = grow (redrawn W7 p.d) p.os := fun d os => Calls.regrown_of (CW1.out _)
    have cW2 : ∀ d os, Calls Tryd.prog 21 #[TB (bt D)] (grow (redrawn W7 d) os) fun e w'' => e = .returned (T3 s2) ∧ ∃ p : Regrown, w'' = grow (redrawn W7 p.d) p.os := fun d os => Calls.regrown_of (CW2.out _)
    have cW3 : ∀ d os, Calls Tryd.prog 21 #[TB (bt N)] (grow (redrawn W7 d) os) fun e w'' => e = .returned (T3 s3) ∧ ∃ p : Regrown, w'' = grow (redrawn W7 p.d) p.os := fun d os => Calls.regrown_of (CW3.out _)
    have cT : ∀ d os, Calls Tryd.prog 26 #[TB (bt b.n)] (grow (redrawn W7 d) os) fun e w'' => e = .returned (TB (bt N)) ∧ ∃ p : Regrown, w'' = grow (redrawn W7 p.d) p.os := fun d os => Calls.regrown_of (CTu.out _)
    have cS : ∀ d os, Calls Tryd.prog 24 #[TB (bt a.n), TB (bt N)] (grow (redrawn W7 d) os) fun e w'' => e = .returned (TB (bt D)) ∧ ∃ p : Regrown, w'' = grow (redrawn W7 p.d) p.os := fun d os => Calls.regrown_of (CS2.out _)
    have cN : ∀ d os, Calls Tryd.prog 16 #[T3 b] (grow (redrawn W7 d) os) fun e w'' => e = .returned (T3 s3) ∧ ∃ p : Regrown, w'' = grow (redrawn W7 p.d) p.os := fun d os => Calls.regrown_of (CNe.out _)
    have cC : ∀ d os, Calls Tryd.prog 27 #[T3 a, T3 b] (grow (redrawn W7 d) os) fun e w'' => e = .returned (.int .i64 C) ∧ ∃ p : Regrown, w'' = grow (redrawn W7 p.d) p.os := fun d os => Calls.regrown_of (CCo.out _)
    have E1 := eq3_t 23 Tryd.underlying23 s1.x s1.y s1.z s1.x s1.y s1.z
    have E2 := eq3_t 23 Tryd.underlying23 s2.x s2.y s2.z s2.x s2.y s2.z
    have E3 := eq3_t 23 Tryd.underlying23 s3.x s3.y s3.z s3.x s3.y s3.z
    rw [decide_eq_true ⟨rfl, rfl, rfl⟩] at E1 E2 E3
    have dr : (r == r) = true := beq_self_eq_true r
    rcases HPRC.out with ⟨rfl, rfl, rfl⟩ | ⟨rfl, rfl, rfl⟩ | ⟨rfl, rfl, rfl⟩
    all_goals (
      clear HPRC CSum CAdd CSub CLe CMo CTu CS2 CNe CCo CW1 CW2 CW3 HR HA HB'
      go_upto_region 13 with (fail)
      refine wp_region_quiet_below (by kernel_rfl) (by kernel_rfl) ?_
      repeat (go_big_quiet_step (first | (with_reducible exact cW1 _ _) | (with_reducible exact cW2 _ _) | (with_reducible exact cW3 _ _) | (with_reducible exact cT _ _) | (with_reducible exact cS _ _) | (with_reducible exact cN _ _) | (with_reducible exact cC _ _)))
      refine wpQuiet_nil ?_
      intro _ hw'
      obtain ⟨⟨dq, osq⟩, hw''⟩ := hw'
      subst hw''
      go_wp2
      go_ret
      exact ⟨rfl, below_step HN.out (below_regrown _ dq osq)⟩)
end Go.Proofs.YtlpbfhbfaphicaaDoor.L01
