/- Layer 15: CoprimeMaps, walked by hand (two arrays of 1024 marks). -/
import Derived.Test.YtlpbfhbfaphicaaMaps15a
import Derived.Handy
import Derived.Deep.WholeRow
import Derived.Deep.QuietTactic
import Derived.BigQuiet
namespace Go.Proofs.Ytlpbfhbfaphicaa.D15
open Go Go.RowKit Go.Proofs.YtlpbfhbfaphicaaW.PrintWords Go.Proofs.YtlpbfhbfaphicaaW.PrintLast Go.Proofs.YtlpbfhbfaphicaaW.PrintMore Go.Proofs.Ytlpbfhbfaphicaa.M Go.Proofs.Ytlpbfhbfaphicaa.XC Go.Proofs.Ytlpbfhbfaphicaa.XE

set_option linter.unusedVariables false
def BoxB (w : World) (g : Nat) (L : List Bool) : Prop := w.heap[g]? = some (.cells (L.map Value.bool).toArray 26 (0, 0))
theorem BoxB.cell {w : World} {g p : Nat} {L : List Bool} {x : Bool} (h : BoxB w g L) (hp : L[p]? = some x) : w.cell? ⟨g, p, none⟩ = some (.bool x) ∧ w.frozen? ⟨g, p, none⟩ = false := by
  refine ⟨(blk_cell h p).trans ?_, blk_frozen h p⟩
  rw [List.getElem?_toArray, List.getElem?_map, hp]
  rfl
theorem BoxB.set {w : World} {g p : Nat} {L : List Bool} {x : Bool} (h : BoxB w g L) : BoxB (w.setCell ⟨g, p, none⟩ (.bool x)) g (L.set p x) := by
  refine (blk_set h p (.bool x)).trans ?_
  rw [List.setIfInBounds_toArray, List.map_set]
theorem BoxB.far {w : World} {g g' p : Nat} {L : List Bool} {u : Value} (h : BoxB w g L) (hne : g ≠ g') : BoxB (w.setCell ⟨g', p, none⟩ u) g L := blk_far h hne u
theorem zero_marks : (∀ w, (zeroValue 26).run Try.prog w = .ok (.agg (Array.replicate 1024 (.bool false))) w) ∧ (Try.prog.info? 26).map (·.size) = some 1024 := zero_of_info (by kernel_rfl)
section
variable {n a b : Int} {W : World}
set_option maxHeartbeats 1000000 in
set_option maxRecDepth 100000 in
theorem maps_walk (hn : (Lit.int .i64 n).wf = true) (w : World) : Calls Try.prog 3 #[.int .i64 n, .int .i64 a, .int .i64 b] w fun e w' => e = .returned (.bool true) ∧ Below w.heap.size w w' := by
  obtain ⟨k0, hk0⟩ := Ev.rounds alive_ev
  have CA := Aside0.mk (fun w => epicyclelaw15_alive.calls k0 true w hk0)
  clear hk0
  by_cases c1 : n > 1048576
  · have c1b : decide (1048576 < n) = true := decide_eq_true c1
    clear c1
    go_enter Try.func3, Try.ntmps3
    go_wp2_with (go_at_call 8; (with_reducible refine (CA.out _).mono ?_); rintro e w1 ⟨rfl, hb1⟩)
    go_ret
    exact ⟨rfl, hb1⟩
  have c1b : decide (1048576 < n) = false := decide_eq_false c1
  by_cases c2 : a > 1048576
  · have c2b : decide (1048576 < a) = true := decide_eq_true c2
    clear c1 c2
    go_enter Try.func3, Try.ntmps3
    go_wp2_with (go_at_call 8; (with_reducible refine (CA.out _).mono ?_); rintro e w1 ⟨rfl, hb1⟩)
    go_ret
    exact ⟨rfl, hb1⟩
  have c2b : decide (1048576 < a) = false := decide_eq_false c2
  obtain ⟨kF, hkF⟩ := Ev.rounds (fits_ev (n := n) (a := a) (by omega))
  obtain ⟨kR, hkR⟩ := Ev.rounds (rfits_ev (n := n) (a := a) (by omega))
  obtain ⟨f, hf⟩ : ∃ f : Bool, fitB n a = f := ⟨_, rfl⟩
  rw [hf] at hkF hkR
  have CF := Aside0.mk (fun w => coprime_Fits.calls kF n a f w hkF)
  have CR := Aside0.mk (fun w => epicycleref15_Fits.calls kR n a f w hkR)
  have hff : (f != f) = false := by cases f <;> rfl
  have hff2 : decide (f = f) = true := decide_eq_true rfl
  clear hkF hkR hf c1
  by_cases ht : tableB a b = true
  · obtain ⟨x, y, rfl, rfl, hx, hy, hc, hxy⟩ := table_nat ht
    obtain ⟨kT, hkT⟩ := Ev.rounds (table_ev (x : Int) (y : Int))
    rw [ht] at hkT
    have CT := Aside0.mk (fun w => epicycleref15_Table.calls kT (x : Int) (y : Int) true w hkT)
    obtain ⟨kI, hkI⟩ := Ev.rounds (in_ev hx hy hc hxy)
    obtain ⟨kO, hkO⟩ := Ev.rounds (out_ev hx hy hc hxy)
    obtain ⟨LX, hLX⟩ : ∃ L, inL x y (x * y) = L := ⟨_, rfl⟩
    obtain ⟨LY, hLY⟩ : ∃ L, outL x y (x * y) = L := ⟨_, rfl⟩
    rw [hLX] at hkI
    rw [hLY] at hkO
    have CI := Aside0.mk (fun w => coprime_In.calls kI (x : Int) (y : Int) _ w hkI)
    have CO := Aside0.mk (fun w => coprime_Out.calls kO (x : Int) (y : Int) _ w hkO)
    clear hkT hkI hkO c2 ht
    have wxy : IntKind.i64.wrap ((x : Int) * (y : Int)) = ((x * y : Nat) : Int) := by rw [← Int.natCast_mul, i64_w]; exact w64n (by omega)
    obtain ⟨m, hm⟩ : ∃ m : Nat, x * y = m := ⟨_, rfl⟩
    have lX : LX.length = m := by rw [← hLX, inL_len, hm]
    have lY : LY.length = m := by rw [← hLY, outL_len, hm]
    have NX := Aside0.mk hLX
    have NY := Aside0.mk hLY
    have NM := Aside0.mk hm
    clear hLX hLY
    have wxy2 : wrap64 ((x : Int) * (y : Int)) = ((m : Nat) : Int) := by rw [← hm]; rw [i64_w] at wxy; exact wxy
    rw [hm] at wxy
    clear hm
    have HH := Aside0.mk (And.intro hx (And.intro hy (And.intro hc hxy)))
    clear hx hy hc hxy
    go_enter Try.func3, Try.ntmps3
    go_upto_region 10 with (first
      | (go_at_call 8; (with_reducible refine (CA.out _).mono ?_); rintro e w1 ⟨rfl, hb1⟩; have HB1 := Aside0.mk hb1; clear hb1)
      | (go_at_call 9; (with_reducible refine (CF.out _).mono ?_); rintro e w' ⟨rfl, n1, rfl⟩)
      | (go_at_call 10; (with_reducible refine (CR.out _).mono ?_); rintro e w' ⟨rfl, n2, rfl⟩)
      | (go_at_call 11; (with_reducible refine (CI.out _).mono ?_); rintro e w3 ⟨v3, rfl, ho, hb3⟩; have HB3 := Aside0.mk (below_step (w := w) (by repeat (with_reducible first | exact HB1.out | apply pw_below_drewN)) hb3); obtain ⟨A3, cc3, rfl, hl3, hr3⟩ := Kd.R_reads ho; rw [lX] at hr3 ⊢; have HC3 := Aside0.mk hr3; clear hb3 ho hr3 hl3)
      | (go_at_call 12; (with_reducible refine (CO.out _).mono ?_); rintro e w4 ⟨v4, rfl, ho, hb4⟩; have HB4 := Aside0.mk (below_step HB3.out hb4); obtain ⟨A4, cc4, rfl, hl4, hr4⟩ := Kd.R_reads ho; rw [lY] at hr4 ⊢; have HC4 := Aside0.mk hr4; have HX4 := Aside0.mk (Kd.C_below HC3.out hb4); clear hb4 ho hr4 hl4)
      | (go_at_call 13; (with_reducible refine (CT.out _).mono ?_); rintro e w' ⟨rfl, n5, rfl⟩))
    have HX := Aside0.mk (Kd.C_drewN HX4.out n5)
    have HY := Aside0.mk (Kd.C_drewN HC4.out n5)
    have HW : Aside0 (Below w.heap.size w (w4.drewN n5)) := ⟨by first | exact pw_below_drewN HB4.out | exact pw_below_drewN HB4.out n5 | exact pw_below_drewN n5 HB4.out⟩
    clear HX4 HC4 HC3 HB1 HB3 HB4 CA CF CR CT CI CO hff hff2
    generalize World.drewN w4 n5 = W2 at HX HY HW ⊢
    have hz := zero_marks.1
    go_wp2
    have HG0 : Aside0 (Below W2.heap.size W2 ((W2.alloc (Obj.cells (Array.replicate 1024 (Value.bool false)) 26)).alloc (Obj.cells (Array.replicate 1024 (Value.bool false)) 26))) := ⟨below_alloc (below_alloc (Below.refl _ _) _) _⟩
    have HS0 : Aside0 (BoxB ((W2.alloc (Obj.cells (Array.replicate 1024 (Value.bool false)) 26)).alloc (Obj.cells (Array.replicate 1024 (Value.bool false)) 26)) W2.heap.size (marks (inN x y) 0)) := ⟨by
      rw [marks_zero]
      refine blk_alloc ?_ _
      refine (blk_new _ _).trans ?_
      rw [List.map_replicate, List.toArray_replicate]⟩
    have HM0 : Aside0 (BoxB ((W2.alloc (Obj.cells (Array.replicate 1024 (Value.bool false)) 26)).alloc (Obj.cells (Array.replicate 1024 (Value.bool false)) 26)) (W2.heap.size + 1) (marks (outN x y) 0)) := ⟨by
      rw [marks_zero]
      have := blk_new (W2.alloc (Obj.cells (Array.replicate 1024 (Value.bool false)) 26)) (Obj.cells (Array.replicate 1024 (Value.bool false)) 26)
      rw [World.size_alloc] at this
      refine this.trans ?_
      rw [List.map_replicate, List.toArray_replicate]⟩
    generalize ((W2.alloc (Obj.cells (Array.replicate 1024 (Value.bool false)) 26)).alloc (Obj.cells (Array.replicate 1024 (Value.bool false)) 26)) = W3 at HG0 HS0 HM0 ⊢
    clear hz
    go_loopg [11] (x + 1) (fun kq v11 w' => ∃ i : Nat, v11 = .int .i64 (i : Int) ∧ Aside0 (i ≤ x ∧ i + kq = x + 1) ∧ Aside0 (Below W2.heap.size W2 w') ∧ Aside0 (BoxB w' W2.heap.size (marks (inN x y) (i * y))) ∧ Aside0 (BoxB w' (W2.heap.size + 1) (marks (outN x y) 0)))
    case atStart => exact ⟨0, rfl, ⟨Nat.zero_le _, Nat.zero_add _⟩, HG0, by rw [Nat.zero_mul]; exact HS0, HM0⟩
    case round =>
      clear HG0 HS0 HM0
      obtain ⟨i, rfl, HI, HG, HS, HM⟩ := hrel
      cases gk with
      | zero => exact absurd HI.out (by omega)
      | succ k1 =>
        by_cases c3 : i < x
        · have c3b : decide ((i : Int) < (x : Int)) = true := decide_eq_true (by omega)
          have c3n : decide (i < x) = true := decide_eq_true c3
          go_wp2
          go_loopg [12] (y + 1) (fun kq v12 w' => ∃ j : Nat, v12 = .int .i64 (j : Int) ∧ Aside0 (j ≤ y ∧ j + kq = y + 1) ∧ Aside0 (Below W2.heap.size W2 w') ∧ Aside0 (BoxB w' W2.heap.size (marks (inN x y) (i * y + j))) ∧ Aside0 (BoxB w' (W2.heap.size + 1) (marks (outN x y) 0)))
          case atStart => exact ⟨0, rfl, ⟨Nat.zero_le _, Nat.zero_add _⟩, HG, HS, HM⟩
          case round =>
            clear HG HS HM c3b c3n
            obtain ⟨j, rfl, HJ, HG, HS, HM⟩ := hrel
            cases gk with
            | zero => exact absurd HJ.out (by omega)
            | succ k2 =>
              by_cases c4 : j < y
              · have c4b : decide ((j : Int) < (y : Int)) = true := decide_eq_true (by omega)
                have c4n : decide (j < y) = true := decide_eq_true c4
                obtain ⟨hx, hy, hc, hxy⟩ := HH.out
                have hti : i * y + y ≤ x * y := by rw [← Nat.succ_mul]; exact Nat.mul_le_mul_right _ c3
                have ht : i * y + j < x * y := by omega
                have htm : i * y + j < m := by rw [← NM.out]; exact ht
                have hxj : x * j ≤ x * y := Nat.mul_le_mul_left _ (by omega)
                have hyi : y * i ≤ x * y := by rw [Nat.mul_comm]; omega
                obtain ⟨κ, hκ⟩ : ∃ z, inN x y (i * y + j) = z := ⟨_, rfl⟩
                have hκl : κ < x * y := by rw [← hκ]; exact Nat.mod_lt _ (by omega)
                obtain ⟨t, hte⟩ : ∃ z, i * y + j = z := ⟨_, rfl⟩
                have b1 : i * y ≤ 1000000000000 := by omega
                have b2 : i * y + j ≤ 1000000000000 := by omega
                have b3 : y * i ≤ 1000000000000 := by omega
                have b4 : x * j ≤ 1000000000000 := by omega
                have b5 : y * i + x * j ≤ 1000000000000 := by omega
                have p2n : t < m := by omega
                have hm0n : (m : Int) ≠ 0 := by omega
                have p2 : (t : Int) < (m : Int) := by omega
                have p4n : κ < 1024 := by omega
                have p4 : (κ : Int) < 1024 := by omega
                have jb : j ≤ 1000000000 := by omega
                have HJ2 : Aside0 (j + 1 ≤ y ∧ j + 1 + k2 = y + 1) := ⟨by have := HJ.out; omega⟩
                have htxy : t < x * y := by omega
                have hin : (y * i + x * j) % m = κ := by rw [← hκ, inN_at c4, NM.out]
                have hm0 : ((m : Int) == 0) = false := beq_eq_false_iff_ne.2 hm0n
                have f5 : ((κ : Int) != (κ : Int)) = false := bne_self_eq_false _
                have C := Kd.C_below HX.out HG.out
                obtain ⟨ad, eA, hcell⟩ := Kd.at_int C (t : Int) (Int.natCast_nonneg _) p2
                have hrd : rd LX (t : Int) = (κ : Int) := by rw [← NX.out, ← hte, rd_inL ht, hκ]
                rw [hrd, Int.toNat_natCast] at hcell
                have hκt : inN x y t = κ := by rw [← hte]; exact hκ
                have hnew := marks_new (f := inN x y) (t := t) (n := x * y) htxy (fun s t hs ht h => inN_inj hc hs ht h) (by rw [hκt]; exact p4n)
                rw [hκt] at hnew
                rw [hte] at HS
                obtain ⟨hc9, hf9⟩ := HS.out.cell hnew
                have HS2 := Aside0.mk (HS.out.set (p := κ) (x := true))
                have hset := marks_set (f := inN x y) (t := t) (by rw [hκt]; exact p4n)
                rw [hκt] at hset
                rw [hset] at HS2
                have HM2 := Aside0.mk (HM.out.far (p := κ) (u := .bool true) (show W2.heap.size + 1 ≠ W2.heap.size from Nat.succ_ne_self _))
                have HG2 := Aside0.mk (below_set (j := κ) (v := .bool true) HG.out (Nat.le_refl W2.heap.size))
                have p1 : (0 : Int) ≤ (t : Int) := Int.natCast_nonneg _
                have p3 : (0 : Int) ≤ (κ : Int) := Int.natCast_nonneg _
                have HTE := Aside0.mk hte
                obtain ⟨q1, hq1⟩ : ∃ q : Int, ((i * y : Nat) : Int) = q := ⟨_, rfl⟩
                obtain ⟨q2, hq2⟩ : ∃ q : Int, ((y * i : Nat) : Int) = q := ⟨_, rfl⟩
                obtain ⟨q3, hq3⟩ : ∃ q : Int, ((x * j : Nat) : Int) = q := ⟨_, rfl⟩
                obtain ⟨q4, hq4⟩ : ∃ q : Int, ((y * i + x * j : Nat) : Int) = q := ⟨_, rfl⟩
                have e1 : IntKind.i64.wrap ((i : Int) * (y : Int)) = q1 := by rw [i64_w, ← Int.natCast_mul, w64n b1, hq1]
                have e2 : IntKind.i64.wrap (q1 + (j : Int)) = (t : Int) := by rw [i64_w, ← hq1, ← Int.natCast_add, w64n b2, hte]
                have f1 : IntKind.i64.wrap ((y : Int) * (i : Int)) = q2 := by rw [i64_w, ← Int.natCast_mul, w64n b3, hq2]
                have f2 : IntKind.i64.wrap ((x : Int) * (j : Int)) = q3 := by rw [i64_w, ← Int.natCast_mul, w64n b4, hq3]
                have f3 : IntKind.i64.wrap (q2 + q3) = q4 := by rw [i64_w, ← hq2, ← hq3, ← Int.natCast_add, w64n b5, hq4]
                have f4 : Int.tmod q4 (m : Int) = (κ : Int) := by rw [← hq4, tmod_pos (Int.natCast_nonneg _), ← Int.natCast_emod, hin]
                have ws : IntKind.i64.wrap ((j : Int) + 1) = ((j + 1 : Nat) : Int) := by rw [i64_w]; exact wrap_succ jb
                clear hq1 hq2 hq3 hq4
                clear b1 b2 b3 b4 b5 p2n hm0n p4n jb htxy
                clear c4 hx hy hc hxy hti ht htm hxj hyi hκ hκl hin C hrd hκt hnew hset hte HJ
                cases eA
                go_wp2
                go_roundg k2
                case measure => exact Nat.lt_succ_self _
                case rel => exact ⟨j + 1, rfl, HJ2, HG2, by rw [← Nat.add_assoc, HTE.out]; exact HS2, HM2⟩
              · have c4b : decide ((j : Int) < (y : Int)) = false := decide_eq_false (by omega)
                have c4n : decide (j < y) = false := decide_eq_false c4
                have hj : j = y := by have := HJ.out; omega
                have hib : i ≤ 1000000000 := by
                  obtain ⟨hx, hy, hc, hxy⟩ := HH.out
                  have : x * 1 ≤ x * y := Nat.mul_le_mul_left _ (by omega)
                  omega
                have HI2 : Aside0 (i + 1 ≤ x ∧ i + 1 + k1 = x + 1) := ⟨by have := HI.out; omega⟩
                rw [hj, ← Nat.succ_mul] at HS
                have ws : IntKind.i64.wrap ((i : Int) + 1) = ((i + 1 : Nat) : Int) := by rw [i64_w]; exact wrap_succ hib
                clear c4 hj hib HJ
                go_wp2
                go_roundg k1
                case measure => exact Nat.lt_succ_self _
                case rel => exact ⟨i + 1, rfl, HI2, HG, HS, HM⟩
        · have c3b : decide ((i : Int) < (x : Int)) = false := decide_eq_false (by omega)
          have c3n : decide (i < x) = false := decide_eq_false c3
          have hi : i = x := by have := HI.out; omega
          clear c3 HI HS hi
          go_wp2
          go_loopg [101] (m + 1) (fun kq v101 w' => ∃ t : Nat, v101 = .int .i64 (t : Int) ∧ Aside0 (t ≤ m ∧ t + kq = m + 1) ∧ Aside0 (Below W2.heap.size W2 w') ∧ Aside0 (BoxB w' (W2.heap.size + 1) (marks (outN x y) t)))
          case atStart => exact ⟨0, rfl, ⟨Nat.zero_le _, Nat.zero_add _⟩, HG, HM⟩
          case round =>
            clear HG HM c3b c3n
            obtain ⟨t, rfl, HJ, HG, HM⟩ := hrel
            cases gk with
            | zero => exact absurd HJ.out (by omega)
            | succ k2 =>
              by_cases c5 : t < m
              · have c5b : decide ((t : Int) < (m : Int)) = true := decide_eq_true (by omega)
                have c5n : decide (t < m) = true := decide_eq_true c5
                obtain ⟨hx, hy, hc, hxy⟩ := HH.out
                have ht : t < x * y := by rw [NM.out]; exact c5
                obtain ⟨κ, hκ⟩ : ∃ z, outN x y t = z := ⟨_, rfl⟩
                have hκl : κ < x * y := by rw [← hκ]; exact outN_lt (by omega) (by omega)
                have lt1 : t % x < x := Nat.mod_lt _ (by omega)
                have hty : t % x * y ≤ x * y := Nat.mul_le_mul_right _ (Nat.le_of_lt lt1)
                have lt2 : t % y < y := Nat.mod_lt _ (by omega)
                have hκe : t % x * y + t % y = κ := hκ
                have b1 : t % x * y ≤ 1000000000000 := by omega
                have b2 : t % x * y + t % y ≤ 1000000000000 := by omega
                have p2 : (t : Int) < (m : Int) := by omega
                have p4n : κ < 1024 := by omega
                have p4 : (κ : Int) < 1024 := by omega
                have tb : t ≤ 1000000000 := by omega
                have hx0 : (x : Int) ≠ 0 := by omega
                have hy0 : (y : Int) ≠ 0 := by omega
                have hx0n : ¬ x = 0 := by omega
                have hy0n : ¬ y = 0 := by omega
                have hx0b : ((x : Int) == 0) = false := beq_eq_false_iff_ne.2 hx0
                have hy0b : ((y : Int) == 0) = false := beq_eq_false_iff_ne.2 hy0
                have HJ2 : Aside0 (t + 1 ≤ m ∧ t + 1 + k2 = m + 1) := ⟨by have := HJ.out; omega⟩
                have f5 : ((κ : Int) != (κ : Int)) = false := bne_self_eq_false _
                have C := Kd.C_below HY.out HG.out
                obtain ⟨ad, eA, hcell⟩ := Kd.at_int C (t : Int) (Int.natCast_nonneg _) p2
                have hrd : rd LY (t : Int) = (κ : Int) := by rw [← NY.out, rd_outL ht, hκ]
                rw [hrd, Int.toNat_natCast] at hcell
                have hnew := marks_new (f := outN x y) (t := t) (n := x * y) ht (fun s t hs ht h => outN_inj hc hs ht h) (by rw [hκ]; exact p4n)
                rw [hκ] at hnew
                obtain ⟨hc9, hf9⟩ := HM.out.cell hnew
                have hc9d : wr.drew.cell? ⟨W2.heap.size + 1, κ, none⟩ = some (.bool false) := hc9
                have hset := marks_set (f := outN x y) (t := t) (by rw [hκ]; exact p4n)
                rw [hκ] at hset
                have HM2 : Aside0 (∀ n, BoxB ((wr.drewN n).setCell ⟨W2.heap.size + 1, κ, none⟩ (.bool true)) (W2.heap.size + 1) (marks (outN x y) (t + 1))) := ⟨fun n => by
                  have := BoxB.set (w := wr.drewN n) (p := κ) (x := true) HM.out
                  rw [hset] at this
                  exact this⟩
                have HG2 : Aside0 (∀ n, Below W2.heap.size W2 ((wr.drewN n).setCell ⟨W2.heap.size + 1, κ, none⟩ (.bool true))) := ⟨fun n => below_set (pw_below_drewN HG.out n) (Nat.le_succ W2.heap.size)⟩
                have p1 : (0 : Int) ≤ (t : Int) := Int.natCast_nonneg _
                have p3 : (0 : Int) ≤ (κ : Int) := Int.natCast_nonneg _
                obtain ⟨q1, hq1⟩ : ∃ q : Int, ((t % x : Nat) : Int) = q := ⟨_, rfl⟩
                obtain ⟨q2, hq2⟩ : ∃ q : Int, ((t % x * y : Nat) : Int) = q := ⟨_, rfl⟩
                obtain ⟨q3, hq3⟩ : ∃ q : Int, ((t % y : Nat) : Int) = q := ⟨_, rfl⟩
                have e1 : Int.tmod (t : Int) (x : Int) = q1 := by rw [tmod_pos (Int.natCast_nonneg _), ← Int.natCast_emod, hq1]
                have e2 : IntKind.i64.wrap (q1 * (y : Int)) = q2 := by rw [i64_w, ← hq1, ← Int.natCast_mul, w64n b1, hq2]
                have e3 : Int.tmod (t : Int) (y : Int) = q3 := by rw [tmod_pos (Int.natCast_nonneg _), ← Int.natCast_emod, hq3]
                have e4 : IntKind.i64.wrap (q2 + q3) = (κ : Int) := by rw [i64_w, ← hq2, ← hq3, ← Int.natCast_add, w64n b2, hκe]
                have ws : IntKind.i64.wrap ((t : Int) + 1) = ((t + 1 : Nat) : Int) := by rw [i64_w]; exact wrap_succ tb
                clear hq1 hq2 hq3 b1 b2 p4n tb hx0 hy0 hx hy hc hxy ht hκ hκl lt1 lt2 hty hκe C hrd hnew hset HJ c5
                cases eA
                go_wp2
                go_quiet (fail)
                go_wp2
                go_roundg k2
                case measure => exact Nat.lt_succ_self _
                case rel => exact ⟨t + 1, rfl, HJ2, ⟨HG2.out _⟩, ⟨HM2.out _⟩⟩
              · have c5b : decide ((t : Int) < (m : Int)) = false := decide_eq_false (by omega)
                have c5n : decide (t < m) = false := decide_eq_false c5
                clear c5 HJ
                go_wp2
                go_ret
                exact ⟨rfl, below_step HW.out HG.out⟩
  · obtain ⟨i1, i2⟩ := no_table (b := b) (by omega) (Bool.eq_false_iff.2 ht)
    obtain ⟨kI, hkI⟩ := Ev.rounds i1
    obtain ⟨kO, hkO⟩ := Ev.rounds i2
    obtain ⟨kT, hkT⟩ := Ev.rounds (table_ev a b)
    rw [Bool.eq_false_iff.2 ht] at hkT
    have CT := Aside0.mk (fun w => epicycleref15_Table.calls kT a b false w hkT)
    have CI := Aside0.mk (fun w => coprime_In.calls kI a b _ w hkI)
    have CO := Aside0.mk (fun w => coprime_Out.calls kO a b _ w hkO)
    clear hkT hkI hkO c2 ht i1 i2
    go_enter Try.func3, Try.ntmps3
    go_wp2_with (first
      | (go_at_call 8; (with_reducible refine (CA.out _).mono ?_); rintro e w1 ⟨rfl, hb1⟩; have HB1 := Aside0.mk hb1; clear hb1)
      | (go_at_call 9; (with_reducible refine (CF.out _).mono ?_); rintro e w' ⟨rfl, n1, rfl⟩)
      | (go_at_call 10; (with_reducible refine (CR.out _).mono ?_); rintro e w' ⟨rfl, n2, rfl⟩)
      | (go_at_call 11; (with_reducible refine (CI.out _).mono ?_); rintro e w3 ⟨v3, rfl, ho, hb3⟩; have HB3 := Aside0.mk (below_step (w := w) (by repeat (with_reducible first | exact HB1.out | apply pw_below_drewN)) hb3); obtain ⟨A3, cc3, rfl, hl3, hr3⟩ := Kd.R_reads ho; clear hb3 ho hr3 hl3)
      | (go_at_call 12; (with_reducible refine (CO.out _).mono ?_); rintro e w4 ⟨v4, rfl, ho, hb4⟩; have HB4 := Aside0.mk (below_step HB3.out hb4); obtain ⟨A4, cc4, rfl, hl4, hr4⟩ := Kd.R_reads ho; clear hb4 ho hr4 hl4)
      | (go_at_call 13; (with_reducible refine (CT.out _).mono ?_); rintro e w' ⟨rfl, n5, rfl⟩))
    go_ret
    exact ⟨rfl, pw_below_drewN HB4.out _⟩
end

end Go.Proofs.Ytlpbfhbfaphicaa.D15
