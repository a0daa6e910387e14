/- Parts of this claim's texts, packed by wip/tools/prune.py: what the proof does not reach is left out. -/
import Derived.Test.YtlpbfhbfaphicaaDoorPMv11
import Derived.Lib.QuietBelow
section
namespace Go.Proofs.YtlpbfhbfaphicaaDoor.L01
open Go Go.RowKit Go.Lib Go.Sort Go.Proofs.YtlpbfhbfaphicaaDoorW.PrintWords Go.Proofs.YtlpbfhbfaphicaaDoorW.PrintLast Go.Proofs.YtlpbfhbfaphicaaDoorW.PrintMore Go.Proofs.YtlpbfhbfaphicaaDoor.Given Go.Proofs.YtlpbfhbfaphicaaDoor.M Go.Proofs.YtlpbfhbfaphicaaDoor.XB
set_option linter.unusedVariables false
def allBm : Nat → List (List Bool)
  | 0 => [[]]
  | n + 1 => (allBm n).map (false :: ·) ++ (allBm n).map (true :: ·)
theorem mem_allBm : ∀ (l : List Bool), l ∈ allBm l.length
  | [] => by simp [allBm]
  | false :: l => by simp [allBm, mem_allBm l]
  | true :: l => by simp [allBm, mem_allBm l]
def needsM : Nat → List Nat
  | 2 => [0, 1]
  | 5 => [3, 4]
  | 8 => [2, 6]
  | 9 => [5, 7]
  | _ => []
def okAtM (l : Array Bool) (i : Nat) : Bool := decide (i < 10) && !l.getD i true && (needsM i).all fun j => l.getD j false
theorem ready_okM {ops : Array Oper} (h : ((allBm 10).all fun l => (Region.ready .any ops l.toArray).all fun i => okAtM l.toArray i) = true) {l : List Bool} (hl : l.length = 10) {i : Nat} (hi : i ∈ Region.ready .any ops l.toArray) : okAtM l.toArray i = true := by
  have h1 := List.all_eq_true.1 h l (hl ▸ mem_allBm l)
  exact List.all_eq_true.1 h1 i hi
theorem done_okM {ops : Array Oper} (h : ((allBm 10).all fun l => !(Region.ready .any ops l.toArray).isEmpty || l.all id) = true) {l : List Bool} (hl : l.length = 10) (hi : Region.ready .any ops l.toArray = []) : l.all id = true := by
  have h1 := List.all_eq_true.1 h l (hl ▸ mem_allBm l)
  rw [hi] at h1
  simpa using h1
structure R4 (a s r : N3) (n : Int) (w w' : World) (b0 b1 b2 b3 b4 b5 b6 b7 b8 b9 : Bool) (u6 u7 u16 u17 u18 u19 u20 u21 : Value) (g6 g7 : Nat) : Prop where
  below : Below w.heap.size w w'
  ba : Box3 w' w.heap.size a
  h0 : b0 = true → u16 = T3 a
  h1 : b1 = true → u17 = .int .i64 n
  h2 : b2 = true → u18 = T3 s
  h3 : b3 = true → u19 = T3 a
  h4 : b4 = true → u20 = .int .i64 n
  h5 : b5 = true → u21 = T3 r
  h6 : b6 = true → u6 = .pointer (some ⟨g6, 0, none⟩) ∧ w.heap.size < g6 ∧ Box3 w' g6 (if b8 then s else ⟨0, 0, 0⟩)
  h7 : b7 = true → u7 = .pointer (some ⟨g7, 0, none⟩) ∧ w.heap.size < g7 ∧ Box3 w' g7 (if b9 then r else ⟨0, 0, 0⟩)
  h67 : b6 = true → b7 = true → g6 ≠ g7
  h8 : b8 = true → b6 = true
  h9 : b9 = true → b7 = true
def I4 (a s r : N3) (n K : Int) (w : World) (l : Array Bool) (x : Act) (w' : World) : Prop :=
  ∃ b0 b1 b2 b3 b4 b5 b6 b7 b8 b9 : Bool, ∃ u6 u7 u16 u17 u18 u19 u20 u21 : Value, ∃ g6 g7 : Nat, l = [b0, b1, b2, b3, b4, b5, b6, b7, b8, b9].toArray ∧ x = { tmps := #[T3 a, .int .i64 n, .pointer (some ⟨w.heap.size, 0, none⟩), undef, .bool false, .int .i64 K, u6, u7, undef, undef, undef, .bool true, .bool false, .int .i64 n, .int .i64 (max n 0), .int .i64 K, u16, u17, u18, u19, u20, u21, undef, undef, undef, undef, undef, undef, undef, undef, undef, undef, undef, undef, undef, undef, undef, undef, undef, undef, undef, undef, undef, undef, undef, undef, undef, undef, undef, undef, undef, undef, undef, undef, undef, undef, undef, undef, undef, undef, undef], defers := [] } ∧ R4 a s r n w w' b0 b1 b2 b3 b4 b5 b6 b7 b8 b9 u6 u7 u16 u17 u18 u19 u20 u21 g6 g7
theorem nn_n3 {n : Nat} (h : n < 2 ^ 192) : (n3 n).n = n := by
  unfold N3.n
  rw [n3_V, Nat.mod_eq_of_lt h]
  rfl
theorem index_bits (f : Nat → Bool) {i : Nat} (hi : i < 256) (w : World) : (Instr.index 29 (TB f) (.int .i64 (i : Int))).run Tryd.prog w = .ok (.bool (f i)) w := by
  have hs : (sizeOf 4).run Tryd.prog w = .ok 1 w := Tryd.sizeOf4 w
  have h1 : (0 : Int) ≤ (i : Int) ∧ (i : Int) < ((256 : Nat) : Int) := by omega
  have hp : (part 4 (bA f) (i * 1)).run Tryd.prog w = .ok (.bool (f i)) w := by
    rw [Nat.mul_one]
    have := bA_at (f := f) hi
    go_simp
  simp only [Instr.index, asIntOf, Sem.run_bind, Sem.run_pure, Result.andThen_ok, run_underlying under_bits, if_pos h1, hs, Int.toNat_natCast, hp]
attribute [-go_sem] loadVar storeVar
attribute [local go_sem] lv_u lv_i lv_b lv_3 lv_T sv_u sv_i sv_b sv_3 sv_T
set_option maxHeartbeats 2000000 in
set_option maxRecDepth 100000 in
theorem moves_walk {a : N3} {n : Int} (ha : a.ok) (hn : -9223372036854775808 ≤ n ∧ n ≤ 9223372036854775807) (w : World) (htab : Tab w) : Calls Tryd.prog 6 #[T3 a, .int .i64 n] w fun e w' => e = .returned (.bool true) ∧ Below w.heap.size w w' := by
  have HT := Aside0.mk htab
  have HA := Aside0.mk ha
  obtain ⟨k, hk⟩ := Int.eq_ofNat_of_zero_le (show 0 ≤ min (max n 0) 192 by omega)
  have hk' : min (max n 0) 192 = (k : Int) := hk
  obtain ⟨K, hK⟩ : ∃ K : Int, (k : Int) = K := ⟨_, rfl⟩
  have HK : Aside0 (min (max n 0) 192 = (k : Int) ∧ k ≤ 192 ∧ (k : Int) = K) := ⟨hk', by omega, hK⟩
  rw [hK] at hk'
  clear htab ha hn hk hK
  go_enter Tryd.func6, Tryd.ntmps6
  go_upto_region 1 with (fail)
  have HB : Aside0 (Below w.heap.size w (w.alloc (Obj.cells (cs3 a) 24))) := ⟨below_alloc (Below.refl _ _) _⟩
  have Ba : Aside0 (Box3 (w.alloc (Obj.cells (cs3 a) 24)) w.heap.size a) := ⟨Box3.new w a⟩
  generalize (w.alloc (Obj.cells #[.int .u64 a.x, .int .u64 a.y, .int .u64 a.z] 24)) = W0 at HB Ba ⊢
  have CA := Aside0.mk (fun (W : World) (h : Below w.heap.size w W) => alive_calls W (tab_below HT.out h))
  go_upto_region 4 with (go_at_call 10; (with_reducible refine (CA.out _ HB.out).mono ?_); rintro e w2 ⟨rfl, hb⟩; have HN := Aside0.mk (below_step HB.out hb); have Ka := Aside0.mk (Ba.out.kept hb); clear hb HB Ba)
  have HB := HN
  have Ba := Ka
  clear HN Ka CA HT hk'
  obtain ⟨s, hs⟩ : ∃ s, n3 (a.n * 2 ^ k) = s := ⟨_, rfl⟩
  obtain ⟨r, hr⟩ : ∃ r, n3 (a.n / 2 ^ k) = r := ⟨_, rfl⟩
  have CL := Aside0.mk (left_n HA.out HK.out.1)
  have CR := Aside0.mk (right_n HA.out HK.out.1)
  rw [hs] at CL
  rw [hr] at CR
  have HS := Aside0.mk hs
  have HR := Aside0.mk hr
  clear hs hr
  go_cut [6, 7] (fun v6 v7 wc => ∃ g6 g7 : Nat, v6 = .pointer (some ⟨g6, 0, none⟩) ∧ v7 = .pointer (some ⟨g7, 0, none⟩) ∧ Aside0 (Below w.heap.size w wc ∧ w.heap.size < g6 ∧ w.heap.size < g7 ∧ g6 ≠ g7) ∧ Aside0 (Box3 wc w.heap.size a) ∧ Aside0 (Box3 wc g6 s) ∧ Aside0 (Box3 wc g7 r))
  case first =>
    refine wp_region_inv (I4 a s r n K w) (by kernel_rfl) ?start ?step ?done
    case start =>
      exact ⟨false, false, false, false, false, false, false, false, false, false, undef, undef, undef, undef, undef, undef, undef, undef, 0, 0, rfl, rfl, ⟨below_drew1 HB.out, Ba.out.drew, (fun h => by cases h), (fun h => by cases h), (fun h => by cases h), (fun h => by cases h), (fun h => by cases h), (fun h => by cases h), (fun h => by cases h), (fun h => by cases h), (fun h => by cases h), (fun h => by cases h), (fun h => by cases h)⟩⟩
    case step =>
      rintro l x w' i ⟨b0, b1, b2, b3, b4, b5, b6, b7, b8, b9, u6, u7, u16, u17, u18, u19, u20, u21, g6, g7, rfl, rfl, hR⟩ hi
      have hok := ready_okM (by kernel_rfl) rfl hi
      clear hi
      have hi8 : i < 10 := by
        simp only [okAtM, Bool.and_eq_true, decide_eq_true_eq] at hok
        exact hok.1.1
      have HRR := Aside0.mk hR
      obtain ⟨⟨la0, la1, la2⟩, ⟨fa0, fa1, fa2⟩, na⟩ := hR.ba.facts
      have hcase : i = 0 ∨ i = 1 ∨ i = 2 ∨ i = 3 ∨ i = 4 ∨ i = 5 ∨ i = 6 ∨ i = 7 ∨ i = 8 ∨ i = 9 := by omega
      clear hi8 hR
      rcases hcase with rfl | rfl | rfl | rfl | rfl | rfl | rfl | rfl | rfl | rfl <;> simp [okAtM, needsM] at hok
      · refine wpOp_step rfl (fun K' hK => ?_)
        go_simp
        have R := HRR.out
        exact hK _ _ ⟨true, b1, b2, b3, b4, b5, b6, b7, b8, b9, u6, u7, _, u17, u18, u19, u20, u21, g6, g7, rfl, rfl, ⟨R.below, R.ba, (fun _ => rfl), R.h1, R.h2, R.h3, R.h4, R.h5, R.h6, R.h7, R.h67, R.h8, R.h9⟩⟩
      · refine wpOp_step rfl (fun K' hK => ?_)
        go_simp
        have R := HRR.out
        exact hK _ _ ⟨b0, true, b2, b3, b4, b5, b6, b7, b8, b9, u6, u7, u16, _, u18, u19, u20, u21, g6, g7, rfl, rfl, ⟨R.below, R.ba, R.h0, (fun _ => rfl), R.h2, R.h3, R.h4, R.h5, R.h6, R.h7, R.h67, R.h8, R.h9⟩⟩
      · obtain ⟨k0, k1, k2⟩ := hok
        obtain rfl := HRR.out.h0 k1
        obtain rfl := HRR.out.h1 k2
        refine wpOp_step rfl (fun K' hK => ?_)
        go_wp2_with (go_at_call 19; (with_reducible refine (CL.out _).mono ?_); rintro e w8 ⟨rfl, hb⟩; have HX := Aside0.mk hb; clear hb)
        have R := HRR.out
        exact ⟨b0, b1, true, b3, b4, b5, b6, b7, b8, b9, u6, u7, T3 a, .int .i64 n, _, u19, u20, u21, g6, g7, rfl, rfl, ⟨below_step R.below HX.out, R.ba.kept HX.out, R.h0, R.h1, (fun _ => rfl), R.h3, R.h4, R.h5, (fun h => let ⟨e, l, x⟩ := R.h6 h; ⟨e, l, x.kept HX.out⟩), (fun h => let ⟨e, l, x⟩ := R.h7 h; ⟨e, l, x.kept HX.out⟩), R.h67, R.h8, R.h9⟩⟩
      · refine wpOp_step rfl (fun K' hK => ?_)
        go_simp
        have R := HRR.out
        exact hK _ _ ⟨b0, b1, b2, true, b4, b5, b6, b7, b8, b9, u6, u7, u16, u17, u18, _, u20, u21, g6, g7, rfl, rfl, ⟨R.below, R.ba, R.h0, R.h1, R.h2, (fun _ => rfl), R.h4, R.h5, R.h6, R.h7, R.h67, R.h8, R.h9⟩⟩
      · refine wpOp_step rfl (fun K' hK => ?_)
        go_simp
        have R := HRR.out
        exact hK _ _ ⟨b0, b1, b2, b3, true, b5, b6, b7, b8, b9, u6, u7, u16, u17, u18, u19, _, u21, g6, g7, rfl, rfl, ⟨R.below, R.ba, R.h0, R.h1, R.h2, R.h3, (fun _ => rfl), R.h5, R.h6, R.h7, R.h67, R.h8, R.h9⟩⟩
      · obtain ⟨k0, k1, k2⟩ := hok
        obtain rfl := HRR.out.h3 k1
        obtain rfl := HRR.out.h4 k2
        refine wpOp_step rfl (fun K' hK => ?_)
        go_wp2_with (go_at_call 20; (with_reducible refine (CR.out _).mono ?_); rintro e w8 ⟨rfl, hb⟩; have HX := Aside0.mk hb; clear hb)
        have R := HRR.out
        exact ⟨b0, b1, b2, b3, b4, true, b6, b7, b8, b9, u6, u7, u16, u17, u18, T3 a, .int .i64 n, _, g6, g7, rfl, rfl, ⟨below_step R.below HX.out, R.ba.kept HX.out, R.h0, R.h1, R.h2, R.h3, R.h4, (fun _ => rfl), (fun h => let ⟨e, l, x⟩ := R.h6 h; ⟨e, l, x.kept HX.out⟩), (fun h => let ⟨e, l, x⟩ := R.h7 h; ⟨e, l, x.kept HX.out⟩), R.h67, R.h8, R.h9⟩⟩
      · refine wpOp_step rfl (fun K' hK => ?_)
        go_simp
        have R := HRR.out
        have hst : b8 = false := by
          cases h : b8
          · rfl
          · exact absurd (R.h8 h) (by rw [hok]; exact Bool.false_ne_true)
        exact hK _ _ ⟨b0, b1, b2, b3, b4, b5, true, b7, b8, b9, _, u7, u16, u17, u18, u19, u20, u21, w'.heap.size, g7, rfl, rfl, ⟨below_alloc R.below _, R.ba.alloc _, R.h0, R.h1, R.h2, R.h3, R.h4, R.h5, (fun _ => ⟨rfl, R.ba.facts.2.2, by rw [hst]; exact Box3.new w' ⟨0, 0, 0⟩⟩), (fun h => let ⟨e, l, x⟩ := R.h7 h; ⟨e, l, x.alloc _⟩), (fun _ h => let ⟨_, _, x⟩ := R.h7 h; fun e => absurd x.facts.2.2 (by rw [e]; exact Nat.lt_irrefl _)), (fun _ => rfl), R.h9⟩⟩
      · refine wpOp_step rfl (fun K' hK => ?_)
        go_simp
        have R := HRR.out
        have hst : b9 = false := by
          cases h : b9
          · rfl
          · exact absurd (R.h9 h) (by rw [hok]; exact Bool.false_ne_true)
        exact hK _ _ ⟨b0, b1, b2, b3, b4, b5, b6, true, b8, b9, u6, _, u16, u17, u18, u19, u20, u21, g6, w'.heap.size, rfl, rfl, ⟨below_alloc R.below _, R.ba.alloc _, R.h0, R.h1, R.h2, R.h3, R.h4, R.h5, (fun h => let ⟨e, l, x⟩ := R.h6 h; ⟨e, l, x.alloc _⟩), (fun _ => ⟨rfl, R.ba.facts.2.2, by rw [hst]; exact Box3.new w' ⟨0, 0, 0⟩⟩), (fun h _ => let ⟨_, _, x⟩ := R.h6 h; fun e => absurd x.facts.2.2 (by rw [e]; exact Nat.lt_irrefl _)), R.h8, (fun _ => rfl)⟩⟩
      · obtain ⟨k8, k2, k6⟩ := hok
        obtain ⟨rfl, hl, hx⟩ := HRR.out.h6 k6
        obtain rfl := HRR.out.h2 k2
        rw [k8] at hx
        have hx2 : Box3 w' g6 ⟨0, 0, 0⟩ := hx
        have HXX := Aside0.mk hx2
        obtain ⟨⟨c0, c1, c2⟩, ⟨d0, d1, d2⟩, ng⟩ := hx2.facts
        have HL := Aside0.mk hl
        clear hx hx2 hl
        refine wpOp_step rfl (fun K' hK => ?_)
        go_simp
        have R := HRR.out
        have hl := HL.out
        exact hK _ _ ⟨b0, b1, b2, b3, b4, b5, b6, b7, true, b9, _, u7, u16, u17, _, u19, u20, u21, g6, g7, rfl, rfl, ⟨below_set (below_set (below_set R.below (Nat.le_of_lt hl)) (Nat.le_of_lt hl)) (Nat.le_of_lt hl), R.ba.far (Nat.ne_of_lt hl), R.h0, R.h1, R.h2, R.h3, R.h4, R.h5, (fun _ => ⟨rfl, hl, HXX.out.put⟩), (fun h => let ⟨e, l, x⟩ := R.h7 h; ⟨e, l, x.far (fun e => R.h67 k6 h e.symm)⟩), R.h67, (fun _ => k6), R.h9⟩⟩
      · obtain ⟨k8, k2, k6⟩ := hok
        obtain ⟨rfl, hl, hx⟩ := HRR.out.h7 k6
        obtain rfl := HRR.out.h5 k2
        rw [k8] at hx
        have hx2 : Box3 w' g7 ⟨0, 0, 0⟩ := hx
        have HXX := Aside0.mk hx2
        obtain ⟨⟨c0, c1, c2⟩, ⟨d0, d1, d2⟩, ng⟩ := hx2.facts
        have HL := Aside0.mk hl
        clear hx hx2 hl
        refine wpOp_step rfl (fun K' hK => ?_)
        go_simp
        have R := HRR.out
        have hl := HL.out
        exact hK _ _ ⟨b0, b1, b2, b3, b4, b5, b6, b7, b8, true, u6, _, u16, u17, u18, u19, u20, _, g6, g7, rfl, rfl, ⟨below_set (below_set (below_set R.below (Nat.le_of_lt hl)) (Nat.le_of_lt hl)) (Nat.le_of_lt hl), R.ba.far (Nat.ne_of_lt hl), R.h0, R.h1, R.h2, R.h3, R.h4, R.h5, (fun h => let ⟨e, l, x⟩ := R.h6 h; ⟨e, l, x.far (R.h67 h k6)⟩), (fun _ => ⟨rfl, hl, HXX.out.put⟩), R.h67, R.h8, (fun _ => k6)⟩⟩
    case done =>
      rintro l x w' ⟨b0, b1, b2, b3, b4, b5, b6, b7, b8, b9, u6, u7, u16, u17, u18, u19, u20, u21, g6, g7, rfl, rfl, hR⟩ hi
      have hok := done_okM (by kernel_rfl) rfl hi
      clear hi
      simp at hok
      obtain ⟨rfl, rfl, rfl, rfl, rfl, rfl, rfl, rfl, rfl, rfl⟩ := hok
      obtain ⟨rfl, hl6, hx6⟩ := hR.h6 rfl
      obtain ⟨rfl, hl7, hx7⟩ := hR.h7 rfl
      have HE : Aside0 (Below w.heap.size w w' ∧ w.heap.size < g6 ∧ w.heap.size < g7 ∧ g6 ≠ g7) := ⟨hR.below, hl6, hl7, hR.h67 rfl rfl⟩
      have H1 := Aside0.mk hR.ba
      have H3 : Aside0 (Box3 w' g6 s) := ⟨hx6⟩
      have H4 : Aside0 (Box3 w' g7 r) := ⟨hx7⟩
      clear hR hl6 hx6 hl7 hx7
      go_wp2
      go_meet
      case rel => exact ⟨g6, g7, rfl, rfl, HE, H1, H3, H4⟩
  case rest =>
    clear HB Ba CL CR
    obtain ⟨g6, g7, rfl, rfl, HE, Ba, B6, B7⟩ := hcut
    have HB : Aside0 (Below w.heap.size w wc) := ⟨HE.out.1⟩
    clear HE
    obtain ⟨P, hP⟩ : ∃ P, a.n * 2 ^ k % 2 ^ 192 = P := ⟨_, rfl⟩
    obtain ⟨D, hD⟩ : ∃ D, a.n / 2 ^ k = D := ⟨_, rfl⟩
    obtain ⟨M, hM⟩ : ∃ M, P / 2 ^ k = M := ⟨_, rfl⟩
    obtain ⟨s9, hs9⟩ : ∃ z, n3 M = z := ⟨_, rfl⟩
    have CBit := Aside0.mk (lbit_calls HA.out)
    have CUp := Aside0.mk (mvup_n a.n HK.out.2.1)
    have CDn := Aside0.mk (mvdn_n (n_lt HA.out) HK.out.2.1)
    have CW1 := Aside0.mk (whole_n P)
    have CW2 := Aside0.mk (whole_n D)
    have e1 : n3 P = s := by rw [← hP, n3_mod]; exact HS.out
    have e2 : n3 D = r := by rw [← hD]; exact HR.out
    have hPl : P < 2 ^ 192 := by rw [← hP]; exact Nat.mod_lt _ (by decide)
    have hMl : M < 2 ^ 192 := by rw [← hM]; exact Nat.lt_of_le_of_lt (Nat.div_le_self _ _) hPl
    have e3 : s.n = P := by rw [← e1]; exact nn_n3 hPl
    have e4 : s9.n = M := by rw [← hs9]; exact nn_n3 hMl
    have CR2 := Aside0.mk (right_n (a := s) (by rw [← e1]; exact n3_ok _) HK.out.1)
    have CB9 := Aside0.mk (lbit_calls (a := s9) (by rw [← hs9]; exact n3_ok _))
    have HBT : Aside0 (∀ i, bt M i = (decide (i + k < 192) && bt a.n i)) := ⟨fun i => by rw [← hM, ← hP]; exact back_bt _ _ _⟩
    rw [hP, HK.out.2.2] at CUp
    rw [hD, HK.out.2.2] at CDn
    rw [e1] at CW1
    rw [e2] at CW2
    rw [e3, hM, hs9] at CR2
    rw [e4] at CB9
    have hKr : 0 ≤ K ∧ K ≤ 192 := by
      have h1 := HK.out.2.1
      have h2 := HK.out.2.2
      omega
    have HKR := Aside0.mk hKr
    have hng : IntKind.i64.wrap (-K) = -K := by
      simp only [i64_w]
      unfold wrap64
      omega
    clear hP hD hM hs9 e1 e2 e3 e4 hPl hMl HS HR hKr
    obtain ⟨⟨xa0, xa1, xa2⟩, _, _⟩ := Ba.out.facts
    obtain ⟨⟨x60, x61, x62⟩, _, _⟩ := B6.out.facts
    obtain ⟨⟨x70, x71, x72⟩, _, _⟩ := B7.out.facts
    have ka0 := cell_regrown xa0
    have ka1 := cell_regrown xa1
    have ka2 := cell_regrown xa2
    have k60 := cell_regrown x60
    have k61 := cell_regrown x61
    have k62 := cell_regrown x62
    have k70 := cell_regrown x70
    have k71 := cell_regrown x71
    have k72 := cell_regrown x72
    clear xa0 xa1 xa2 x60 x61 x62 x70 x71 x72
    have cB : ∀ d os, Calls Tryd.prog 13 #[T3 a] (grow (redrawn wc d) os) fun e w'' => e = .returned (TB (bt a.n)) ∧ ∃ p : Regrown, w'' = grow (redrawn wc p.d) p.os := fun d os => Calls.regrown_of (CBit.out _)
    have cU : ∀ d os, Calls Tryd.prog 22 #[TB (bt a.n), .int .i64 K, .int .i64 192] (grow (redrawn wc d) os) fun e w'' => e = .returned (TB (bt P)) ∧ ∃ p : Regrown, w'' = grow (redrawn wc p.d) p.os := fun d os => Calls.regrown_of (CUp.out _)
    have cD : ∀ d os, Calls Tryd.prog 22 #[TB (bt a.n), .int .i64 (-K), .int .i64 192] (grow (redrawn wc d) os) fun e w'' => e = .returned (TB (bt D)) ∧ ∃ p : Regrown, w'' = grow (redrawn wc p.d) p.os := fun d os => Calls.regrown_of (CDn.out _)
    have cW1 : ∀ d os, Calls Tryd.prog 21 #[TB (bt P)] (grow (redrawn wc d) os) fun e w'' => e = .returned (T3 s) ∧ ∃ p : Regrown, w'' = grow (redrawn wc p.d) p.os := fun d os => Calls.regrown_of (CW1.out _)
    have cW2 : ∀ d os, Calls Tryd.prog 21 #[TB (bt D)] (grow (redrawn wc d) os) fun e w'' => e = .returned (T3 r) ∧ ∃ p : Regrown, w'' = grow (redrawn wc p.d) p.os := fun d os => Calls.regrown_of (CW2.out _)
    have E1 := eq3_t 23 Tryd.underlying23 s.x s.y s.z s.x s.y s.z
    have E2 := eq3_t 23 Tryd.underlying23 r.x r.y r.z r.x r.y r.z
    rw [decide_eq_true ⟨rfl, rfl, rfl⟩] at E1 E2
    go_upto_region 5 with (fail)
    refine wp_region_quiet_below (by kernel_rfl) (by kernel_rfl) ?_
    repeat (go_big_quiet_step (first | (with_reducible exact cB _ _) | (with_reducible exact cU _ _) | (with_reducible exact cD _ _) | (with_reducible exact cW1 _ _) | (with_reducible exact cW2 _ _)))
    refine wpQuiet_nil ?_
    intro _ hw'
    obtain ⟨⟨d7, o7⟩, hw''⟩ := hw'
    subst hw''
    clear cB cU cD cW1 cW2 E1 E2 ka0 ka1 ka2 k60 k61 k62 k70 k71 k72 hng
    have HN := Aside0.mk (below_step HB.out (below_regrown wc d7 o7))
    have Ka := Aside0.mk (Ba.out.kept (below_regrown wc d7 o7))
    have K6 := Aside0.mk (B6.out.kept (below_regrown wc d7 o7))
    clear HB Ba B6 B7
    dsimp only at *
    generalize (grow (redrawn wc d7) o7) = W7 at HN Ka K6 ⊢
    obtain ⟨⟨x60, x61, x62⟩, ⟨f60, f61, f62⟩, n6⟩ := K6.out.facts
    have HB := HN
    have Ba := Ka
    clear HN Ka
    go_upto_region 8 with (go_at_call 20; (with_reducible refine (CR2.out _).mono ?_); rintro e w5 ⟨rfl, hb⟩; have HN := Aside0.mk (below_step HB.out hb); have Ka := Aside0.mk (Ba.out.kept hb); clear hb HB Ba x60 x61 x62 f60 f61 f62 n6 K6)
    have HB : Aside0 (Below w.heap.size w (w5.alloc (Obj.cells (cs3 s9) 24))) := ⟨below_alloc HN.out _⟩
    have Ba := Aside0.mk (Ka.out.alloc (Obj.cells (cs3 s9) 24))
    have B8 := Aside0.mk (Box3.new w5 s9)
    clear HN Ka
    generalize w5.heap.size = g8 at B8 ⊢
    generalize (w5.alloc (Obj.cells #[.int .u64 s9.x, .int .u64 s9.y, .int .u64 s9.z] 24)) = W5 at HB Ba B8 ⊢
    obtain ⟨⟨x80, x81, x82⟩, ⟨f80, f81, f82⟩, n8⟩ := B8.out.facts
    go_upto_region 9 with (go_at_call 13; (with_reducible refine (CB9.out _).mono ?_); rintro e w6 ⟨rfl, hb⟩; have HN := Aside0.mk (below_step HB.out hb); have Ka := Aside0.mk (Ba.out.kept hb); clear hb HB Ba B8 x80 x81 x82 f80 f81 f82 n8)
    go_loopg [44] 257 (fun kq v44 w' => ∃ i : Nat, v44 = .int .i64 (i : Int) ∧ Aside0 (i + kq = 257) ∧ Aside0 (Below w.heap.size w w') ∧ Aside0 (Box3 w' w.heap.size a))
    case atStart => exact ⟨0, rfl, ⟨rfl⟩, HN, Ka⟩
    case round =>
      clear HN Ka
      obtain ⟨i, rfl, HI, HB, Ba⟩ := hrel
      have hik := HI.out
      by_cases hi : i < 256
      · have cb : decide ((i : Int) < 256) = true := decide_eq_true (by omega)
        have x1 := index_bits (bt M) hi
        have x2 := index_bits (bt a.n) hi
        have hbt := HBT.out i
        have h1 := HKR.out
        have h2 := HK.out.2.2
        have wa : IntKind.i64.wrap ((i : Int) + K) = (i : Int) + K := by rw [i64_w]; unfold wrap64; omega
        have wi : IntKind.i64.wrap ((i : Int) + 1) = ((i + 1 : Nat) : Int) := by rw [i64_w]; unfold wrap64; omega
        obtain ⟨⟨la0, la1, la2⟩, ⟨fa0, fa1, fa2⟩, na⟩ := Ba.out.facts
        obtain ⟨k1, rfl⟩ : ∃ k1, gk = k1 + 1 := ⟨gk - 1, by omega⟩
        have HI1 : Aside0 (i + 1 + k1 = 257) := ⟨by omega⟩
        obtain ⟨b, hb1⟩ : ∃ b, bt a.n i = b := ⟨_, rfl⟩
        rw [hb1] at x2 hbt
        by_cases hc : i + k < 192
        · have cc : decide ((i : Int) + K < 192) = true := decide_eq_true (by omega)
          rw [decide_eq_true hc, Bool.true_and] at hbt
          rw [hbt] at x1
          have nb : (b != b) = false := by simp
          clear HI hik hi hc hbt hb1 h1 h2
          go_wp2_with (go_at_call 13; (with_reducible refine (CBit.out _).mono ?_); rintro e w8 ⟨rfl, hb⟩; have HN := Aside0.mk (below_step HB.out hb); have Ka := Aside0.mk (Ba.out.kept hb); clear hb HB Ba la0 la1 la2 fa0 fa1 fa2 na)
          go_roundg k1
          case measure => exact Nat.lt_succ_self _
          case rel => exact ⟨i + 1, rfl, HI1, HN, Ka⟩
        · have cc : decide ((i : Int) + K < 192) = false := decide_eq_false (by omega)
          rw [decide_eq_false hc, Bool.false_and] at hbt
          rw [hbt] at x1
          clear HI hik hi hc hbt hb1 h1 h2
          go_wp2
          go_roundg k1
          case measure => exact Nat.lt_succ_self _
          case rel => exact ⟨i + 1, rfl, HI1, HB, Ba⟩
      · have cb : decide ((i : Int) < 256) = false := decide_eq_false (by omega)
        clear hik hi HI
        go_wp2
        go_ret
        exact ⟨rfl, HB.out⟩
end Go.Proofs.YtlpbfhbfaphicaaDoor.L01
end
