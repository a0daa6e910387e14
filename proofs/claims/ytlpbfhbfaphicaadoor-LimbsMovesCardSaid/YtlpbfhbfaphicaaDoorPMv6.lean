/- Parts of this claim's texts, packed by wip/tools/prune.py: what the proof does not reach is left out. -/
import Derived.Test.YtlpbfhbfaphicaaDoorPMv5
import Derived.Laws.Externs
section
namespace Go.Proofs.YtlpbfhbfaphicaaDoor.Given
open Go Go.RowKit Go.Proofs.YtlpbfhbfaphicaaDoorW.PrintWords Go.Proofs.YtlpbfhbfaphicaaDoorW.PrintLast Go.Proofs.YtlpbfhbfaphicaaDoorW.PrintMore
def bits_LeadingZeros64.f (a : Int) : Option Int :=
  if 0 ≤ a ∧ a ≤ 18446744073709551615 then some (64 - (Lib.bitLen a.toNat : Int)) else none
theorem bits_LeadingZeros64.calls (a0 r : Int) (w : World) (h : bits_LeadingZeros64.f a0 = some r) :
    Calls Tryd.prog 50 #[.int .u64 a0] w fun e w' => e = .returned (.int .i64 r) ∧ Drawn0 w w' := by
  unfold bits_LeadingZeros64.f at h
  by_cases h0 : 0 ≤ a0 ∧ a0 ≤ 18446744073709551615
  · rw [if_pos h0] at h
    obtain rfl := Option.some.inj h
    refine (Tryd.bits_LeadingZeros64 a0 w h0.1 h0.2).mono ?_
    rintro e w' ⟨rfl, rfl⟩
    exact ⟨rfl, Drawn0.refl _⟩
  · rw [if_neg h0] at h; cases h
end Go.Proofs.YtlpbfhbfaphicaaDoor.Given
end
section
namespace Go.Proofs.YtlpbfhbfaphicaaDoor.XB
open Go.RowKit Go.Proofs.YtlpbfhbfaphicaaDoor.Given Go.Proofs.YtlpbfhbfaphicaaDoorW.PrintWords Go.Proofs.YtlpbfhbfaphicaaDoorW.PrintLast Go.Proofs.YtlpbfhbfaphicaaDoorW.PrintMore
attribute [local go_sem] max2_int min2_int max_two min_two max_three min_three max_four min_four   -- for this text's walks alone
set_option linter.unusedVariables false
set_option linter.unusedSimpArgs false
mutual
def bits_Div64.j2 : Nat → Int → Int → Int → Int → Int → Int → Int → Int → Option (Int × Int)
 | 0, _, _, _, _, _, _, _, _ => none
 | k + 1, x2, x8, x9, x10, x11, x13, x14, x15 => if x9 = 0 then (none) else (bits_Div64.l1 k x2 x8 x9 x10 x14 x15 (IntKind.u64.wrap ((IntKind.u64.wrap ((IntKind.u64.wrap ((IntKind.u64.wrap (x11 * 4294967296)) + x13)) - (IntKind.u64.wrap (x15 * x2)))) - (IntKind.u64.wrap ((IntKind.u64.wrap (Int.tdiv (IntKind.u64.wrap ((IntKind.u64.wrap ((IntKind.u64.wrap (x11 * 4294967296)) + x13)) - (IntKind.u64.wrap (x15 * x2)))) x9)) * x9)))) (IntKind.u64.wrap ((IntKind.u64.wrap ((IntKind.u64.wrap (x11 * 4294967296)) + x13)) - (IntKind.u64.wrap (x15 * x2)))) (IntKind.u64.wrap (Int.tdiv (IntKind.u64.wrap ((IntKind.u64.wrap ((IntKind.u64.wrap (x11 * 4294967296)) + x13)) - (IntKind.u64.wrap (x15 * x2)))) x9)))
def bits_Div64.l1 : Nat → Int → Int → Int → Int → Int → Int → Int → Int → Int → Option (Int × Int)
 | 0, _, _, _, _, _, _, _, _, _ => none
 | k + 1, x2, x8, x9, x10, x14, x15, x16, x17, x18 => if x18 ≥ 4294967296 then (bits_Div64.j4 k x2 x8 x9 x10 x14 x15 x16 x17 x18 true) else (bits_Div64.j4 k x2 x8 x9 x10 x14 x15 x16 x17 x18 (decide ((IntKind.u64.wrap (x18 * x10)) > (IntKind.u64.wrap ((IntKind.u64.wrap (4294967296 * x16)) + x14)))))
def bits_Div64.j4 : Nat → Int → Int → Int → Int → Int → Int → Int → Int → Int → Bool → Option (Int × Int)
 | 0, _, _, _, _, _, _, _, _, _, _ => none
 | k + 1, x2, x8, x9, x10, x14, x15, x16, x17, x18, x113 => if x113 = true then (if (IntKind.u64.wrap (x16 + x9)) ≥ 4294967296 then (if 0 ≤ x8 then (some (IntKind.u64.wrap ((IntKind.u64.wrap (x15 * 4294967296)) + (IntKind.u64.wrap (x18 - 1))), shr .u64 (IntKind.u64.wrap ((IntKind.u64.wrap ((IntKind.u64.wrap (x17 * 4294967296)) + x14)) - (IntKind.u64.wrap ((IntKind.u64.wrap (x18 - 1)) * x2)))) x8)) else (none)) else (bits_Div64.l1 k x2 x8 x9 x10 x14 x15 (IntKind.u64.wrap (x16 + x9)) x17 (IntKind.u64.wrap (x18 - 1)))) else (if 0 ≤ x8 then (some (IntKind.u64.wrap ((IntKind.u64.wrap (x15 * 4294967296)) + x18), shr .u64 (IntKind.u64.wrap ((IntKind.u64.wrap ((IntKind.u64.wrap (x17 * 4294967296)) + x14)) - (IntKind.u64.wrap (x18 * x2)))) x8)) else (none))
def bits_Div64.l0 : Nat → Int → Int → Int → Int → Int → Int → Int → Int → Int → Option (Int × Int)
 | 0, _, _, _, _, _, _, _, _, _ => none
 | k + 1, x2, x8, x9, x10, x11, x13, x14, x15, x16 => if x15 ≥ 4294967296 then (bits_Div64.j1 k x2 x8 x9 x10 x11 x13 x14 x15 x16 true) else (bits_Div64.j1 k x2 x8 x9 x10 x11 x13 x14 x15 x16 (decide ((IntKind.u64.wrap (x15 * x10)) > (IntKind.u64.wrap ((IntKind.u64.wrap (4294967296 * x16)) + x13)))))
def bits_Div64.j1 : Nat → Int → Int → Int → Int → Int → Int → Int → Int → Int → Bool → Option (Int × Int)
 | 0, _, _, _, _, _, _, _, _, _, _ => none
 | k + 1, x2, x8, x9, x10, x11, x13, x14, x15, x16, x78 => if x78 = true then (if (IntKind.u64.wrap (x16 + x9)) ≥ 4294967296 then (bits_Div64.j2 k x2 x8 x9 x10 x11 x13 x14 (IntKind.u64.wrap (x15 - 1))) else (bits_Div64.l0 k x2 x8 x9 x10 x11 x13 x14 (IntKind.u64.wrap (x15 - 1)) (IntKind.u64.wrap (x16 + x9)))) else (bits_Div64.j2 k x2 x8 x9 x10 x11 x13 x14 x15)
end
def bits_Div64.f (k : Nat) (a0 : Int) (a1 : Int) (a2 : Int) : Option (Int × Int) := if a2 = 0 then (none) else (if a2 ≤ a0 then (none) else (if a0 = 0 then (some (IntKind.u64.wrap (Int.tdiv a1 a2), Int.tmod a1 a2)) else ((bits_LeadingZeros64.f a2).bind fun t101 => (if 0 ≤ (IntKind.u64.wrap (t101)) then (if 0 ≤ (IntKind.u64.wrap (64 - (IntKind.u64.wrap (t101)))) then (if ((shl .u64 a2 (IntKind.u64.wrap (t101))) / 4294967296) = 0 then (none) else (bits_Div64.l0 k (shl .u64 a2 (IntKind.u64.wrap (t101))) (IntKind.u64.wrap (t101)) ((shl .u64 a2 (IntKind.u64.wrap (t101))) / 4294967296) (Go.bits .and .u64 (shl .u64 a2 (IntKind.u64.wrap (t101))) 4294967295) (Go.bits .or .u64 (shl .u64 a0 (IntKind.u64.wrap (t101))) (shr .u64 a1 (IntKind.u64.wrap (64 - (IntKind.u64.wrap (t101)))))) ((shl .u64 a1 (IntKind.u64.wrap (t101))) / 4294967296) (Go.bits .and .u64 (shl .u64 a1 (IntKind.u64.wrap (t101))) 4294967295) (IntKind.u64.wrap (Int.tdiv (Go.bits .or .u64 (shl .u64 a0 (IntKind.u64.wrap (t101))) (shr .u64 a1 (IntKind.u64.wrap (64 - (IntKind.u64.wrap (t101)))))) ((shl .u64 a2 (IntKind.u64.wrap (t101))) / 4294967296))) (IntKind.u64.wrap ((Go.bits .or .u64 (shl .u64 a0 (IntKind.u64.wrap (t101))) (shr .u64 a1 (IntKind.u64.wrap (64 - (IntKind.u64.wrap (t101)))))) - (IntKind.u64.wrap ((IntKind.u64.wrap (Int.tdiv (Go.bits .or .u64 (shl .u64 a0 (IntKind.u64.wrap (t101))) (shr .u64 a1 (IntKind.u64.wrap (64 - (IntKind.u64.wrap (t101)))))) ((shl .u64 a2 (IntKind.u64.wrap (t101))) / 4294967296))) * ((shl .u64 a2 (IntKind.u64.wrap (t101))) / 4294967296))))))) else (none)) else (none)))))
set_option maxHeartbeats 8000000 in
set_option maxRecDepth 100000 in
theorem bits_Div64.calls (k : Nat) (a0 : Int) (a1 : Int) (a2 : Int) (r1 : Int) (r2 : Int) (w : World) (h : bits_Div64.f k a0 a1 a2 = some (r1, r2)) :
  Calls Tryd.prog 42 #[.int .u64 a0, .int .u64 a1, .int .u64 a2] w fun e w' => e = .returned (.tuple #[.int .u64 r1, .int .u64 r2]) ∧ Drawn0 w w' := by
 have H : (if a2 = 0 then (none) else (if a2 ≤ a0 then (none) else (if a0 = 0 then (some (IntKind.u64.wrap (Int.tdiv a1 a2), Int.tmod a1 a2)) else ((bits_LeadingZeros64.f a2).bind fun t101 => (if 0 ≤ (IntKind.u64.wrap (t101)) then (if 0 ≤ (IntKind.u64.wrap (64 - (IntKind.u64.wrap (t101)))) then (if ((shl .u64 a2 (IntKind.u64.wrap (t101))) / 4294967296) = 0 then (none) else (bits_Div64.l0 k (shl .u64 a2 (IntKind.u64.wrap (t101))) (IntKind.u64.wrap (t101)) ((shl .u64 a2 (IntKind.u64.wrap (t101))) / 4294967296) (Go.bits .and .u64 (shl .u64 a2 (IntKind.u64.wrap (t101))) 4294967295) (Go.bits .or .u64 (shl .u64 a0 (IntKind.u64.wrap (t101))) (shr .u64 a1 (IntKind.u64.wrap (64 - (IntKind.u64.wrap (t101)))))) ((shl .u64 a1 (IntKind.u64.wrap (t101))) / 4294967296) (Go.bits .and .u64 (shl .u64 a1 (IntKind.u64.wrap (t101))) 4294967295) (IntKind.u64.wrap (Int.tdiv (Go.bits .or .u64 (shl .u64 a0 (IntKind.u64.wrap (t101))) (shr .u64 a1 (IntKind.u64.wrap (64 - (IntKind.u64.wrap (t101)))))) ((shl .u64 a2 (IntKind.u64.wrap (t101))) / 4294967296))) (IntKind.u64.wrap ((Go.bits .or .u64 (shl .u64 a0 (IntKind.u64.wrap (t101))) (shr .u64 a1 (IntKind.u64.wrap (64 - (IntKind.u64.wrap (t101)))))) - (IntKind.u64.wrap ((IntKind.u64.wrap (Int.tdiv (Go.bits .or .u64 (shl .u64 a0 (IntKind.u64.wrap (t101))) (shr .u64 a1 (IntKind.u64.wrap (64 - (IntKind.u64.wrap (t101)))))) ((shl .u64 a2 (IntKind.u64.wrap (t101))) / 4294967296))) * ((shl .u64 a2 (IntKind.u64.wrap (t101))) / 4294967296))))))) else (none)) else (none)))))) = some (r1, r2) := h
 clear h
 by_cases c4 : a2 = 0
 ·rw [if_pos c4] at H
  exact absurd H (by simp)
 ·rw [if_neg c4] at H
  have c4b0 : (a2 == 0) = false := beq_eq_false_iff_ne.mpr c4
  have c4b1 : (a2 != 0) = true := bne_iff_ne.mpr c4
  by_cases c5 : a2 ≤ a0
  ·rw [if_pos c5] at H
   exact absurd H (by simp)
  ·rw [if_neg c5] at H
   have c5b0 : decide (a2 ≤ a0) = false := decide_eq_false c5
   clear c5
   by_cases c6 : a0 = 0
   ·rw [if_pos c6] at H
    have c6b0 : (a0 == 0) = true := beq_iff_eq.mpr c6
    have c6b1 : (a0 != 0) = false := bne_eq_false_iff_eq.mpr c6
    clear c6
    simp only [Option.some.injEq, Prod.mk.injEq] at H
    obtain ⟨rfl, rfl⟩ := H
    go_enter Tryd.func42, Tryd.ntmps42
    go_wp2
    repeat (go_quiet (fail); try go_wp2)
    go_ret2
    exact ⟨by first | rfl | (simp; done) | (simp [*]; done), by repeat (first | exact Drawn0.refl _ | apply Drawn0.step)⟩
   ·rw [if_neg c6] at H
    have c6b0 : (a0 == 0) = false := beq_eq_false_iff_ne.mpr c6
    have c6b1 : (a0 != 0) = true := bne_iff_ne.mpr c6
    replace H := Option.bind_eq_some_iff.mp H
    obtain ⟨t101, A70, H⟩ := H
    replace H : (if 0 ≤ (IntKind.u64.wrap (t101)) then (if 0 ≤ (IntKind.u64.wrap (64 - (IntKind.u64.wrap (t101)))) then (if ((shl .u64 a2 (IntKind.u64.wrap (t101))) / 4294967296) = 0 then (none) else (bits_Div64.l0 k (shl .u64 a2 (IntKind.u64.wrap (t101))) (IntKind.u64.wrap (t101)) ((shl .u64 a2 (IntKind.u64.wrap (t101))) / 4294967296) (Go.bits .and .u64 (shl .u64 a2 (IntKind.u64.wrap (t101))) 4294967295) (Go.bits .or .u64 (shl .u64 a0 (IntKind.u64.wrap (t101))) (shr .u64 a1 (IntKind.u64.wrap (64 - (IntKind.u64.wrap (t101)))))) ((shl .u64 a1 (IntKind.u64.wrap (t101))) / 4294967296) (Go.bits .and .u64 (shl .u64 a1 (IntKind.u64.wrap (t101))) 4294967295) (IntKind.u64.wrap (Int.tdiv (Go.bits .or .u64 (shl .u64 a0 (IntKind.u64.wrap (t101))) (shr .u64 a1 (IntKind.u64.wrap (64 - (IntKind.u64.wrap (t101)))))) ((shl .u64 a2 (IntKind.u64.wrap (t101))) / 4294967296))) (IntKind.u64.wrap ((Go.bits .or .u64 (shl .u64 a0 (IntKind.u64.wrap (t101))) (shr .u64 a1 (IntKind.u64.wrap (64 - (IntKind.u64.wrap (t101)))))) - (IntKind.u64.wrap ((IntKind.u64.wrap (Int.tdiv (Go.bits .or .u64 (shl .u64 a0 (IntKind.u64.wrap (t101))) (shr .u64 a1 (IntKind.u64.wrap (64 - (IntKind.u64.wrap (t101)))))) ((shl .u64 a2 (IntKind.u64.wrap (t101))) / 4294967296))) * ((shl .u64 a2 (IntKind.u64.wrap (t101))) / 4294967296))))))) else (none)) else (none)) = some (r1, r2) := H
    have A7 := Aside0.mk A70
    clear A70
    obtain ⟨ji8, hji8⟩ : ∃ j_ : Int, (IntKind.u64.wrap (t101)) = j_ := ⟨_, rfl⟩
    replace H : (if 0 ≤ (ji8) then (if 0 ≤ (IntKind.u64.wrap (64 - (ji8))) then (if ((shl .u64 a2 (ji8)) / 4294967296) = 0 then (none) else (bits_Div64.l0 k (shl .u64 a2 (ji8)) ji8 ((shl .u64 a2 (ji8)) / 4294967296) (Go.bits .and .u64 (shl .u64 a2 (ji8)) 4294967295) (Go.bits .or .u64 (shl .u64 a0 (ji8)) (shr .u64 a1 (IntKind.u64.wrap (64 - (ji8))))) ((shl .u64 a1 (ji8)) / 4294967296) (Go.bits .and .u64 (shl .u64 a1 (ji8)) 4294967295) (IntKind.u64.wrap (Int.tdiv (Go.bits .or .u64 (shl .u64 a0 (ji8)) (shr .u64 a1 (IntKind.u64.wrap (64 - (ji8))))) ((shl .u64 a2 (ji8)) / 4294967296))) (IntKind.u64.wrap ((Go.bits .or .u64 (shl .u64 a0 (ji8)) (shr .u64 a1 (IntKind.u64.wrap (64 - (ji8))))) - (IntKind.u64.wrap ((IntKind.u64.wrap (Int.tdiv (Go.bits .or .u64 (shl .u64 a0 (ji8)) (shr .u64 a1 (IntKind.u64.wrap (64 - (ji8))))) ((shl .u64 a2 (ji8)) / 4294967296))) * ((shl .u64 a2 (ji8)) / 4294967296))))))) else (none)) else (none)) = some (r1, r2) := by first | (rw [hji8] at H <;> exact H) | (simp only [hji8] at H ⊢; exact H)
    (try rw [hji8] at A7)
    by_cases c9 : 0 ≤ (ji8)
    ·rw [if_pos c9] at H
     have c9b0 := eq_true c9
     have c9b1 : decide (0 ≤ (ji8)) = true := decide_eq_true c9
     clear c9
     obtain ⟨ji10, hji10⟩ : ∃ j_ : Int, (shl .u64 a2 (ji8)) = j_ := ⟨_, rfl⟩
     replace H : (if 0 ≤ (IntKind.u64.wrap (64 - (ji8))) then (if ((ji10) / 4294967296) = 0 then (none) else (bits_Div64.l0 k ji10 ji8 ((ji10) / 4294967296) (Go.bits .and .u64 (ji10) 4294967295) (Go.bits .or .u64 (shl .u64 a0 (ji8)) (shr .u64 a1 (IntKind.u64.wrap (64 - (ji8))))) ((shl .u64 a1 (ji8)) / 4294967296) (Go.bits .and .u64 (shl .u64 a1 (ji8)) 4294967295) (IntKind.u64.wrap (Int.tdiv (Go.bits .or .u64 (shl .u64 a0 (ji8)) (shr .u64 a1 (IntKind.u64.wrap (64 - (ji8))))) ((ji10) / 4294967296))) (IntKind.u64.wrap ((Go.bits .or .u64 (shl .u64 a0 (ji8)) (shr .u64 a1 (IntKind.u64.wrap (64 - (ji8))))) - (IntKind.u64.wrap ((IntKind.u64.wrap (Int.tdiv (Go.bits .or .u64 (shl .u64 a0 (ji8)) (shr .u64 a1 (IntKind.u64.wrap (64 - (ji8))))) ((ji10) / 4294967296))) * ((ji10) / 4294967296))))))) else (none)) = some (r1, r2) := by first | (rw [hji10] at H <;> exact H) | (simp only [hji10] at H ⊢; exact H)
     (try rw [hji10] at A7)
     have hji10_ : (IntKind.u64.wrap (a2 * 2 ^ min (ji8).toNat 64)) = ji10 := hji10
     have hji10z : (ji8) ≤ 64 → (IntKind.u64.wrap (a2 * 2 ^ (ji8).toNat)) = ji10 := shl_small hji10
     have c11b0 := eq_true (of_decide_eq_true (by first | (with_reducible assumption) | assumption) : 0 ≤ (ji8))
     obtain ⟨ji12, hji12⟩ : ∃ j_ : Int, (shl .u64 a0 (ji8)) = j_ := ⟨_, rfl⟩
     replace H : (if 0 ≤ (IntKind.u64.wrap (64 - (ji8))) then (if ((ji10) / 4294967296) = 0 then (none) else (bits_Div64.l0 k ji10 ji8 ((ji10) / 4294967296) (Go.bits .and .u64 (ji10) 4294967295) (Go.bits .or .u64 (ji12) (shr .u64 a1 (IntKind.u64.wrap (64 - (ji8))))) ((shl .u64 a1 (ji8)) / 4294967296) (Go.bits .and .u64 (shl .u64 a1 (ji8)) 4294967295) (IntKind.u64.wrap (Int.tdiv (Go.bits .or .u64 (ji12) (shr .u64 a1 (IntKind.u64.wrap (64 - (ji8))))) ((ji10) / 4294967296))) (IntKind.u64.wrap ((Go.bits .or .u64 (ji12) (shr .u64 a1 (IntKind.u64.wrap (64 - (ji8))))) - (IntKind.u64.wrap ((IntKind.u64.wrap (Int.tdiv (Go.bits .or .u64 (ji12) (shr .u64 a1 (IntKind.u64.wrap (64 - (ji8))))) ((ji10) / 4294967296))) * ((ji10) / 4294967296))))))) else (none)) = some (r1, r2) := by first | (rw [hji12] at H <;> exact H) | (simp only [hji12] at H ⊢; exact H)
     (try rw [hji12] at A7)
     have hji12_ : (IntKind.u64.wrap (a0 * 2 ^ min (ji8).toNat 64)) = ji12 := hji12
     have hji12z : (ji8) ≤ 64 → (IntKind.u64.wrap (a0 * 2 ^ (ji8).toNat)) = ji12 := shl_small hji12
     obtain ⟨ji13, hji13⟩ : ∃ j_ : Int, (IntKind.u64.wrap (64 - (ji8))) = j_ := ⟨_, rfl⟩
     replace H : (if 0 ≤ (ji13) then (if ((ji10) / 4294967296) = 0 then (none) else (bits_Div64.l0 k ji10 ji8 ((ji10) / 4294967296) (Go.bits .and .u64 (ji10) 4294967295) (Go.bits .or .u64 (ji12) (shr .u64 a1 (ji13))) ((shl .u64 a1 (ji8)) / 4294967296) (Go.bits .and .u64 (shl .u64 a1 (ji8)) 4294967295) (IntKind.u64.wrap (Int.tdiv (Go.bits .or .u64 (ji12) (shr .u64 a1 (ji13))) ((ji10) / 4294967296))) (IntKind.u64.wrap ((Go.bits .or .u64 (ji12) (shr .u64 a1 (ji13))) - (IntKind.u64.wrap ((IntKind.u64.wrap (Int.tdiv (Go.bits .or .u64 (ji12) (shr .u64 a1 (ji13))) ((ji10) / 4294967296))) * ((ji10) / 4294967296))))))) else (none)) = some (r1, r2) := by first | (rw [hji13] at H <;> exact H) | (simp only [hji13] at H ⊢; exact H)
     (try rw [hji13] at A7)
     by_cases c14 : 0 ≤ (ji13)
     ·rw [if_pos c14] at H
      have c14b0 := eq_true c14
      have c14b1 : decide (0 ≤ (ji13)) = true := decide_eq_true c14
      clear c14
      obtain ⟨ji15, hji15⟩ : ∃ j_ : Int, (shr .u64 a1 (ji13)) = j_ := ⟨_, rfl⟩
      replace H : (if ((ji10) / 4294967296) = 0 then (none) else (bits_Div64.l0 k ji10 ji8 ((ji10) / 4294967296) (Go.bits .and .u64 (ji10) 4294967295) (Go.bits .or .u64 (ji12) (ji15)) ((shl .u64 a1 (ji8)) / 4294967296) (Go.bits .and .u64 (shl .u64 a1 (ji8)) 4294967295) (IntKind.u64.wrap (Int.tdiv (Go.bits .or .u64 (ji12) (ji15)) ((ji10) / 4294967296))) (IntKind.u64.wrap ((Go.bits .or .u64 (ji12) (ji15)) - (IntKind.u64.wrap ((IntKind.u64.wrap (Int.tdiv (Go.bits .or .u64 (ji12) (ji15)) ((ji10) / 4294967296))) * ((ji10) / 4294967296))))))) = some (r1, r2) := by first | (rw [hji15] at H <;> exact H) | (simp only [hji15] at H ⊢; exact H)
      (try rw [hji15] at A7)
      have hji15_ : (a1 / 2 ^ min (ji13).toNat 64) = ji15 := hji15
      have hji15z : (ji13) ≤ 64 → (a1 / 2 ^ (ji13).toNat) = ji15 := shr_small hji15
      have c16b0 := eq_true (of_decide_eq_true (by first | (with_reducible assumption) | assumption) : 0 ≤ (ji8))
      obtain ⟨ji17, hji17⟩ : ∃ j_ : Int, (shl .u64 a1 (ji8)) = j_ := ⟨_, rfl⟩
      replace H : (if ((ji10) / 4294967296) = 0 then (none) else (bits_Div64.l0 k ji10 ji8 ((ji10) / 4294967296) (Go.bits .and .u64 (ji10) 4294967295) (Go.bits .or .u64 (ji12) (ji15)) ((ji17) / 4294967296) (Go.bits .and .u64 (ji17) 4294967295) (IntKind.u64.wrap (Int.tdiv (Go.bits .or .u64 (ji12) (ji15)) ((ji10) / 4294967296))) (IntKind.u64.wrap ((Go.bits .or .u64 (ji12) (ji15)) - (IntKind.u64.wrap ((IntKind.u64.wrap (Int.tdiv (Go.bits .or .u64 (ji12) (ji15)) ((ji10) / 4294967296))) * ((ji10) / 4294967296))))))) = some (r1, r2) := by first | (rw [hji17] at H <;> exact H) | (simp only [hji17] at H ⊢; exact H)
      (try rw [hji17] at A7)
      have hji17_ : (IntKind.u64.wrap (a1 * 2 ^ min (ji8).toNat 64)) = ji17 := hji17
      have hji17z : (ji8) ≤ 64 → (IntKind.u64.wrap (a1 * 2 ^ (ji8).toNat)) = ji17 := shl_small hji17
      by_cases c18 : ((ji10) / 4294967296) = 0
      ·rw [if_pos c18] at H
       exact absurd H (by simp)
      ·rw [if_neg c18] at H
       have c18b0 : (((ji10) / 4294967296) == 0) = false := beq_eq_false_iff_ne.mpr c18
       have c18b1 : (((ji10) / 4294967296) != 0) = true := bne_iff_ne.mpr c18
       have HC19 := Aside0.mk H
       clear H
       go_enter Tryd.func42, Tryd.ntmps42
       go_upto_block 0 with (first | (go_at_call 50; (with_reducible refine (bits_LeadingZeros64.calls a2 t101 _ A7.out).mono ?_); rintro e w' ⟨rfl, ⟨nd, rfl⟩⟩; (try first | exact ⟨rfl, _, World.drewN_drewN _ _ _⟩ | exact ⟨rfl, _, Eq.trans (World.drewN_drewN _ _ _) (congrArg (World.drewN _) (Nat.add_assoc _ _ _))⟩)))
       repeat (go_quiet (first | (go_at_call 50; (with_reducible refine (bits_LeadingZeros64.calls a2 t101 _ A7.out).mono ?_); rintro e w' ⟨rfl, ⟨nd, rfl⟩⟩; (try first | exact ⟨rfl, _, World.drewN_drewN _ _ _⟩ | exact ⟨rfl, _, Eq.trans (World.drewN_drewN _ _ _) (congrArg (World.drewN _) (Nat.add_assoc _ _ _))⟩))); go_upto_block 0 with (first | (go_at_call 50; (with_reducible refine (bits_LeadingZeros64.calls a2 t101 _ A7.out).mono ?_); rintro e w' ⟨rfl, ⟨nd, rfl⟩⟩; (try first | exact ⟨rfl, _, World.drewN_drewN _ _ _⟩ | exact ⟨rfl, _, Eq.trans (World.drewN_drewN _ _ _) (congrArg (World.drewN _) (Nat.add_assoc _ _ _))⟩))))
       (try simp only [Act.put, List.setIfInBounds_toArray, List.set_cons_zero, List.set_cons_succ])
       (try simp only [hji8, hji10, hji12, hji13, hji15, hji17])
       go_cut [15] (fun v15 wc => ∃ (kq : Nat) (x15_18 : Int), v15 = .int .u64 x15_18 ∧ Aside0 (bits_Div64.j2 kq ji10 ji8 ((ji10) / 4294967296) (Go.bits .and .u64 (ji10) 4294967295) (Go.bits .or .u64 (ji12) (ji15)) ((ji17) / 4294967296) (Go.bits .and .u64 (ji17) 4294967295) x15_18 = some (r1, r2)) ∧ Aside0 (kq ≤ k) ∧ Drawn0 w wc)
       case first =>
        have H := HC19.out
        clear HC19
        have H' := Aside0.mk H
        clear H
        go_wp2
        repeat (go_quiet (fail); try go_wp2)
        (try simp only [hji8, hji10, hji12, hji13, hji15, hji17])
        go_loopg [15, 16] k (fun kq v15 v16 w' => ∃ (x15_1 : Int) (x16_1 : Int), v15 = .int .u64 x15_1 ∧ v16 = .int .u64 x16_1 ∧ Aside0 (bits_Div64.l0 kq ji10 ji8 ((ji10) / 4294967296) (Go.bits .and .u64 (ji10) 4294967295) (Go.bits .or .u64 (ji12) (ji15)) ((ji17) / 4294967296) (Go.bits .and .u64 (ji17) 4294967295) x15_1 x16_1 = some (r1, r2)) ∧ Aside0 (kq ≤ k) ∧ Drawn0 w w')
        case atStart => exact ⟨(IntKind.u64.wrap (Int.tdiv (Go.bits .or .u64 (ji12) (ji15)) ((ji10) / 4294967296))), (IntKind.u64.wrap ((Go.bits .or .u64 (ji12) (ji15)) - (IntKind.u64.wrap ((IntKind.u64.wrap (Int.tdiv (Go.bits .or .u64 (ji12) (ji15)) ((ji10) / 4294967296))) * ((ji10) / 4294967296))))), (by first | rfl | (simp; done) | (simp only [← hji10, ← hji12, ← hji15] <;> (first | rfl | simp)) | (simp [*]; done)), (by first | rfl | (simp; done) | (simp only [← hji10, ← hji12, ← hji15] <;> (first | rfl | simp)) | (simp [*]; done)), H', ⟨Nat.le_refl _⟩, by repeat (first | exact Drawn0.refl _ | apply Drawn0.step)⟩
        case round =>
         clear H'
         try clear c1
         try clear p2
         try clear c4
         try clear c4b0
         try clear c4b1
         try clear c5
         try clear c5b0
         try clear c6
         try clear c6b0
         try clear c6b1
         try clear c9
         try clear c9b0
         try clear c9b1
         try clear c11
         try clear c11b0
         try clear c14
         try clear c14b0
         try clear c14b1
         try clear c16
         try clear c16b0
         try clear c18
         try clear c18b0
         try clear c18b1
         obtain ⟨x15_1, x16_1, rfl, rfl, HA, HK1, ⟨m1, rfl⟩⟩ := hrel
         cases gk with
         | zero => exact absurd HA.out (by simp [bits_Div64.l0])
         | succ k1 =>
          have H := HA.out
          clear HA
          simp only [bits_Div64.l0] at H
          have HC20 := Aside0.mk H
          clear H
          go_upto_region 17 with (fail)
          repeat (go_quiet (fail); go_upto_region 17 with (fail))
          (try simp only [hji8, hji10, hji12, hji13, hji15, hji17])
          go_cut [78] (fun v78 wc => ∃ (kq : Nat) (x78_19 : Bool), v78 = .bool x78_19 ∧ Aside0 (bits_Div64.j1 kq ji10 ji8 ((ji10) / 4294967296) (Go.bits .and .u64 (ji10) 4294967295) (Go.bits .or .u64 (ji12) (ji15)) ((ji17) / 4294967296) (Go.bits .and .u64 (ji17) 4294967295) x15_1 x16_1 x78_19 = some (r1, r2)) ∧ Aside0 (kq ≤ k1) ∧ Drawn0 w wc)
          case first =>
           have H := HC20.out
           clear HC20
           by_cases c21 : x15_1 ≥ 4294967296
           ·rw [if_pos c21] at H
            have c21b0 : decide (4294967296 ≤ x15_1) = true := decide_eq_true c21
            clear c21
            (first | rw [c21b0] | (simp only [i64_w, i32_w]; rw [c21b0]) | skip)
            have H' := Aside0.mk H
            clear H
            go_wp2
            repeat (go_quiet (fail); try go_wp2)
            go_meet
            case rel => exact ⟨_, (true), (by first | rfl | (simp; done) | (simp [*]; done)), H', ⟨by have := HK1.out; first | omega | exact Nat.le_refl _⟩, by repeat (first | exact Drawn0.refl _ | apply Drawn0.step)⟩
           ·rw [if_neg c21] at H
            have c21b0 : decide (4294967296 ≤ x15_1) = false := decide_eq_false c21
            clear c21
            (first | rw [c21b0] | (simp only [i64_w, i32_w]; rw [c21b0]) | skip)
            have H' := Aside0.mk H
            clear H
            go_wp2
            repeat (go_quiet (fail); try go_wp2)
            go_meet
            case rel => exact ⟨_, (decide ((IntKind.u64.wrap (x15_1 * (Go.bits .and .u64 (ji10) 4294967295))) > (IntKind.u64.wrap ((IntKind.u64.wrap (4294967296 * x16_1)) + ((ji17) / 4294967296))))), (by first | rfl | (simp; done) | (simp only [← hji10, ← hji17] <;> (first | rfl | simp)) | (simp [*]; done)), H', ⟨by have := HK1.out; first | omega | exact Nat.le_refl _⟩, by repeat (first | exact Drawn0.refl _ | apply Drawn0.step)⟩
          case rest =>
           clear HC20
           try clear c1
           try clear c2
           try clear p2
           try clear c4
           try clear c4b0
           try clear c4b1
           try clear c5
           try clear c5b0
           try clear c6
           try clear c6b0
           try clear c6b1
           try clear c9
           try clear c9b0
           try clear c9b1
           try clear c11
           try clear c11b0
           try clear c14
           try clear c14b0
           try clear c14b1
           try clear c16
           try clear c16b0
           try clear c18
           try clear c18b0
           try clear c18b1
           try clear c21
           try clear c21b0
           try clear p2
           obtain ⟨kq, x78_19, rfl, HA, HJ19, ⟨mc19, rfl⟩⟩ := hcut
           cases kq with
           | zero => exact absurd HA.out (by simp [bits_Div64.j1])
           | succ kj19 =>
            have H := HA.out
            clear HA
            simp only [bits_Div64.j1] at H
            by_cases c22 : x78_19 = true
            ·subst c22
             have H1 : (if (IntKind.u64.wrap (x16_1 + ((ji10) / 4294967296))) ≥ 4294967296 then (bits_Div64.j2 kj19 ji10 ji8 ((ji10) / 4294967296) (Go.bits .and .u64 (ji10) 4294967295) (Go.bits .or .u64 (ji12) (ji15)) ((ji17) / 4294967296) (Go.bits .and .u64 (ji17) 4294967295) (IntKind.u64.wrap (x15_1 - 1))) else (bits_Div64.l0 kj19 ji10 ji8 ((ji10) / 4294967296) (Go.bits .and .u64 (ji10) 4294967295) (Go.bits .or .u64 (ji12) (ji15)) ((ji17) / 4294967296) (Go.bits .and .u64 (ji17) 4294967295) (IntKind.u64.wrap (x15_1 - 1)) (IntKind.u64.wrap (x16_1 + ((ji10) / 4294967296))))) = some (r1, r2) := by rw [if_pos rfl] at H <;> exact H
             clear H
             have H := H1
             clear H1
             by_cases c23 : (IntKind.u64.wrap (x16_1 + ((ji10) / 4294967296))) ≥ 4294967296
             ·rw [if_pos c23] at H
              have c23b0 : decide (4294967296 ≤ (IntKind.u64.wrap (x16_1 + ((ji10) / 4294967296)))) = true := decide_eq_true c23
              clear c23
              have H' := Aside0.mk H
              clear H
              go_wp2
              repeat (go_quiet (fail); try go_wp2)
              go_meet
              case rel => exact ⟨_, (IntKind.u64.wrap (x15_1 - 1)), (by first | rfl | (simp; done) | (simp [*]; done)), H', ⟨by have := HK1.out; have := HJ19.out; first | omega | exact Nat.le_refl _⟩, by repeat (first | exact Drawn0.refl _ | apply Drawn0.step)⟩
             ·rw [if_neg c23] at H
              have c23b0 : decide (4294967296 ≤ (IntKind.u64.wrap (x16_1 + ((ji10) / 4294967296)))) = false := decide_eq_false c23
              clear c23
              have H' := Aside0.mk H
              clear H
              go_wp2
              repeat (go_quiet (fail); try go_wp2)
              go_roundg kj19
              case measure => have := HK1.out; have := HJ19.out; omega
              case rel => exact ⟨(IntKind.u64.wrap (x15_1 - 1)), (IntKind.u64.wrap (x16_1 + ((ji10) / 4294967296))), (by first | rfl | (simp; done) | (simp [*]; done)), (by first | rfl | (simp; done) | (simp only [← hji10] <;> (first | rfl | simp)) | (simp [*]; done)), H', ⟨by have := HK1.out; have := HJ19.out; omega⟩, by repeat (first | exact Drawn0.refl _ | apply Drawn0.step)⟩
            ·replace c22 := Bool.eq_false_iff.mpr c22
             subst c22
             have H1 : (bits_Div64.j2 kj19 ji10 ji8 ((ji10) / 4294967296) (Go.bits .and .u64 (ji10) 4294967295) (Go.bits .or .u64 (ji12) (ji15)) ((ji17) / 4294967296) (Go.bits .and .u64 (ji17) 4294967295) x15_1) = some (r1, r2) := by rw [if_neg (show ¬ (false = true) by decide)] at H <;> exact H
             clear H
             have H := H1
             clear H1
             have H' := Aside0.mk H
             clear H
             go_wp2
             repeat (go_quiet (fail); try go_wp2)
             go_meet
             case rel => exact ⟨_, (x15_1), (by first | rfl | (simp; done) | (simp [*]; done)), H', ⟨by have := HK1.out; have := HJ19.out; first | omega | exact Nat.le_refl _⟩, by repeat (first | exact Drawn0.refl _ | apply Drawn0.step)⟩
       case rest =>
        clear HC19
        try clear c1
        try clear c2
        try clear p2
        try clear c4
        try clear c4b0
        try clear c4b1
        try clear c5
        try clear c5b0
        try clear c6
        try clear c6b0
        try clear c6b1
        try clear c9
        try clear c9b0
        try clear c9b1
        try clear c11
        try clear c11b0
        try clear c14
        try clear c14b0
        try clear c14b1
        try clear c16
        try clear c16b0
        try clear c18
        try clear c18b0
        try clear c18b1
        try clear c19
        try clear c21
        try clear c21b0
        try clear c22
        try clear c23
        try clear c23b0
        try clear p2
        obtain ⟨kq, x15_18, rfl, HA, HJ18, ⟨mc18, rfl⟩⟩ := hcut
        cases kq with
        | zero => exact absurd HA.out (by simp [bits_Div64.j2])
        | succ kj18 =>
         have H := HA.out
         clear HA
         simp only [bits_Div64.j2] at H
         by_cases c24 : ((ji10) / 4294967296) = 0
         ·rw [if_pos c24] at H
          exact absurd H (by simp)
         ·rw [if_neg c24] at H
          have c24b0 : (((ji10) / 4294967296) == 0) = false := beq_eq_false_iff_ne.mpr c24
          have c24b1 : (((ji10) / 4294967296) != 0) = true := bne_iff_ne.mpr c24
          have H' := Aside0.mk H
          clear H
          go_wp2
          repeat (go_quiet (fail); try go_wp2)
          (try simp only [hji8, hji10, hji12, hji13, hji15, hji17])
          go_loopg [16, 18] kj18 (fun kq v16 v18 w' => ∃ (x16_2 : Int) (x18_2 : Int), v16 = .int .u64 x16_2 ∧ v18 = .int .u64 x18_2 ∧ Aside0 (bits_Div64.l1 kq ji10 ji8 ((ji10) / 4294967296) (Go.bits .and .u64 (ji10) 4294967295) (Go.bits .and .u64 (ji17) 4294967295) x15_18 x16_2 (IntKind.u64.wrap ((IntKind.u64.wrap ((IntKind.u64.wrap ((Go.bits .or .u64 (ji12) (ji15)) * 4294967296)) + ((ji17) / 4294967296))) - (IntKind.u64.wrap (x15_18 * ji10)))) x18_2 = some (r1, r2)) ∧ Aside0 (kq ≤ kj18) ∧ Drawn0 w w')
          case atStart => exact ⟨(IntKind.u64.wrap ((IntKind.u64.wrap ((IntKind.u64.wrap ((IntKind.u64.wrap ((Go.bits .or .u64 (ji12) (ji15)) * 4294967296)) + ((ji17) / 4294967296))) - (IntKind.u64.wrap (x15_18 * ji10)))) - (IntKind.u64.wrap ((IntKind.u64.wrap (Int.tdiv (IntKind.u64.wrap ((IntKind.u64.wrap ((IntKind.u64.wrap ((Go.bits .or .u64 (ji12) (ji15)) * 4294967296)) + ((ji17) / 4294967296))) - (IntKind.u64.wrap (x15_18 * ji10)))) ((ji10) / 4294967296))) * ((ji10) / 4294967296))))), (IntKind.u64.wrap (Int.tdiv (IntKind.u64.wrap ((IntKind.u64.wrap ((IntKind.u64.wrap ((Go.bits .or .u64 (ji12) (ji15)) * 4294967296)) + ((ji17) / 4294967296))) - (IntKind.u64.wrap (x15_18 * ji10)))) ((ji10) / 4294967296))), (by first | rfl | (simp; done) | (simp only [← hji10, ← hji12, ← hji15, ← hji17] <;> (first | rfl | simp)) | (simp [*]; done)), (by first | rfl | (simp; done) | (simp only [← hji10, ← hji12, ← hji15, ← hji17] <;> (first | rfl | simp)) | (simp [*]; done)), H', ⟨Nat.le_refl _⟩, by repeat (first | exact Drawn0.refl _ | apply Drawn0.step)⟩
          case round =>
           clear H'
           try clear c1
           try clear c2
           try clear p2
           try clear c4
           try clear c4b0
           try clear c4b1
           try clear c5
           try clear c5b0
           try clear c6
           try clear c6b0
           try clear c6b1
           try clear c9
           try clear c9b0
           try clear c9b1
           try clear c11
           try clear c11b0
           try clear c14
           try clear c14b0
           try clear c14b1
           try clear c16
           try clear c16b0
           try clear c18
           try clear c18b0
           try clear c18b1
           try clear c19
           try clear c21
           try clear c21b0
           try clear c22
           try clear c23
           try clear c23b0
           try clear c24
           try clear c24b0
           try clear c24b1
           try clear p2
           obtain ⟨x16_2, x18_2, rfl, rfl, HA, HK2, ⟨m2, rfl⟩⟩ := hrel
           cases gk with
           | zero => exact absurd HA.out (by simp [bits_Div64.l1])
           | succ k2 =>
            have H := HA.out
            clear HA
            simp only [bits_Div64.l1] at H
            have HC25 := Aside0.mk H
            clear H
            go_upto_region 24 with (fail)
            repeat (go_quiet (fail); go_upto_region 24 with (fail))
            (try simp only [hji8, hji10, hji12, hji13, hji15, hji17])
            go_cut [113] (fun v113 wc => ∃ (kq : Nat) (x113_24 : Bool), v113 = .bool x113_24 ∧ Aside0 (bits_Div64.j4 kq ji10 ji8 ((ji10) / 4294967296) (Go.bits .and .u64 (ji10) 4294967295) (Go.bits .and .u64 (ji17) 4294967295) x15_18 x16_2 (IntKind.u64.wrap ((IntKind.u64.wrap ((IntKind.u64.wrap ((Go.bits .or .u64 (ji12) (ji15)) * 4294967296)) + ((ji17) / 4294967296))) - (IntKind.u64.wrap (x15_18 * ji10)))) x18_2 x113_24 = some (r1, r2)) ∧ Aside0 (kq ≤ k2) ∧ Drawn0 w wc)
            case first =>
             have H := HC25.out
             clear HC25
             by_cases c26 : x18_2 ≥ 4294967296
             ·rw [if_pos c26] at H
              have c26b0 : decide (4294967296 ≤ x18_2) = true := decide_eq_true c26
              clear c26
              (first | rw [c26b0] | (simp only [i64_w, i32_w]; rw [c26b0]) | skip)
              have H' := Aside0.mk H
              clear H
              go_wp2
              repeat (go_quiet (fail); try go_wp2)
              go_meet
              case rel => exact ⟨_, (true), (by first | rfl | (simp; done) | (simp [*]; done)), H', ⟨by have := HJ18.out; have := HK2.out; first | omega | exact Nat.le_refl _⟩, by repeat (first | exact Drawn0.refl _ | apply Drawn0.step)⟩
             ·rw [if_neg c26] at H
              have c26b0 : decide (4294967296 ≤ x18_2) = false := decide_eq_false c26
              clear c26
              (first | rw [c26b0] | (simp only [i64_w, i32_w]; rw [c26b0]) | skip)
              have H' := Aside0.mk H
              clear H
              go_wp2
              repeat (go_quiet (fail); try go_wp2)
              go_meet
              case rel => exact ⟨_, (decide ((IntKind.u64.wrap (x18_2 * (Go.bits .and .u64 (ji10) 4294967295))) > (IntKind.u64.wrap ((IntKind.u64.wrap (4294967296 * x16_2)) + (Go.bits .and .u64 (ji17) 4294967295))))), (by first | rfl | (simp; done) | (simp only [← hji10, ← hji17] <;> (first | rfl | simp)) | (simp [*]; done)), H', ⟨by have := HJ18.out; have := HK2.out; first | omega | exact Nat.le_refl _⟩, by repeat (first | exact Drawn0.refl _ | apply Drawn0.step)⟩
            case rest =>
             clear HC25
             try clear c1
             try clear c2
             try clear p2
             try clear c4
             try clear c4b0
             try clear c4b1
             try clear c5
             try clear c5b0
             try clear c6
             try clear c6b0
             try clear c6b1
             try clear c9
             try clear c9b0
             try clear c9b1
             try clear c11
             try clear c11b0
             try clear c14
             try clear c14b0
             try clear c14b1
             try clear c16
             try clear c16b0
             try clear c18
             try clear c18b0
             try clear c18b1
             try clear c19
             try clear c21
             try clear c21b0
             try clear c22
             try clear c23
             try clear c23b0
             try clear c24
             try clear c24b0
             try clear c24b1
             try clear c26
             try clear c26b0
             try clear p2
             obtain ⟨kq, x113_24, rfl, HA, HJ24, ⟨mc24, rfl⟩⟩ := hcut
             cases kq with
             | zero => exact absurd HA.out (by simp [bits_Div64.j4])
             | succ kj24 =>
              have H := HA.out
              clear HA
              simp only [bits_Div64.j4] at H
              by_cases c27 : x113_24 = true
              ·subst c27
               have H1 : (if (IntKind.u64.wrap (x16_2 + ((ji10) / 4294967296))) ≥ 4294967296 then (if 0 ≤ ji8 then (some (IntKind.u64.wrap ((IntKind.u64.wrap (x15_18 * 4294967296)) + (IntKind.u64.wrap (x18_2 - 1))), shr .u64 (IntKind.u64.wrap ((IntKind.u64.wrap ((IntKind.u64.wrap ((IntKind.u64.wrap ((IntKind.u64.wrap ((IntKind.u64.wrap ((Go.bits .or .u64 (ji12) (ji15)) * 4294967296)) + ((ji17) / 4294967296))) - (IntKind.u64.wrap (x15_18 * ji10)))) * 4294967296)) + (Go.bits .and .u64 (ji17) 4294967295))) - (IntKind.u64.wrap ((IntKind.u64.wrap (x18_2 - 1)) * ji10)))) ji8)) else (none)) else (bits_Div64.l1 kj24 ji10 ji8 ((ji10) / 4294967296) (Go.bits .and .u64 (ji10) 4294967295) (Go.bits .and .u64 (ji17) 4294967295) x15_18 (IntKind.u64.wrap (x16_2 + ((ji10) / 4294967296))) (IntKind.u64.wrap ((IntKind.u64.wrap ((IntKind.u64.wrap ((Go.bits .or .u64 (ji12) (ji15)) * 4294967296)) + ((ji17) / 4294967296))) - (IntKind.u64.wrap (x15_18 * ji10)))) (IntKind.u64.wrap (x18_2 - 1)))) = some (r1, r2) := by rw [if_pos rfl] at H <;> exact H
               clear H
               have H := H1
               clear H1
               by_cases c28 : (IntKind.u64.wrap (x16_2 + ((ji10) / 4294967296))) ≥ 4294967296
               ·rw [if_pos c28] at H
                have c28b0 : decide (4294967296 ≤ (IntKind.u64.wrap (x16_2 + ((ji10) / 4294967296)))) = true := decide_eq_true c28
                clear c28
                by_cases c29 : 0 ≤ ji8
                ·rw [if_pos c29] at H
                 have c29b0 := eq_true c29
                 have c29b1 : decide (0 ≤ ji8) = true := decide_eq_true c29
                 clear c29
                 obtain ⟨ji30, hji30⟩ : ∃ j_ : Int, (shr .u64 (IntKind.u64.wrap ((IntKind.u64.wrap ((IntKind.u64.wrap ((IntKind.u64.wrap ((IntKind.u64.wrap ((IntKind.u64.wrap ((Go.bits .or .u64 (ji12) (ji15)) * 4294967296)) + ((ji17) / 4294967296))) - (IntKind.u64.wrap (x15_18 * ji10)))) * 4294967296)) + (Go.bits .and .u64 (ji17) 4294967295))) - (IntKind.u64.wrap ((IntKind.u64.wrap (x18_2 - 1)) * ji10)))) ji8) = j_ := ⟨_, rfl⟩
                 replace H : (some (IntKind.u64.wrap ((IntKind.u64.wrap (x15_18 * 4294967296)) + (IntKind.u64.wrap (x18_2 - 1))), ji30)) = some (r1, r2) := by first | (rw [hji30] at H <;> exact H) | (simp only [hji30] at H ⊢; exact H)
                 have hji30_ : ((IntKind.u64.wrap ((IntKind.u64.wrap ((IntKind.u64.wrap ((IntKind.u64.wrap ((IntKind.u64.wrap ((IntKind.u64.wrap ((Go.bits .or .u64 (ji12) (ji15)) * 4294967296)) + ((ji17) / 4294967296))) - (IntKind.u64.wrap (x15_18 * ji10)))) * 4294967296)) + (Go.bits .and .u64 (ji17) 4294967295))) - (IntKind.u64.wrap ((IntKind.u64.wrap (x18_2 - 1)) * ji10)))) / 2 ^ min ji8.toNat 64) = ji30 := hji30
                 have hji30z : ji8 ≤ 64 → ((IntKind.u64.wrap ((IntKind.u64.wrap ((IntKind.u64.wrap ((IntKind.u64.wrap ((IntKind.u64.wrap ((IntKind.u64.wrap ((Go.bits .or .u64 (ji12) (ji15)) * 4294967296)) + ((ji17) / 4294967296))) - (IntKind.u64.wrap (x15_18 * ji10)))) * 4294967296)) + (Go.bits .and .u64 (ji17) 4294967295))) - (IntKind.u64.wrap ((IntKind.u64.wrap (x18_2 - 1)) * ji10)))) / 2 ^ ji8.toNat) = ji30 := shr_small hji30
                 simp only [Option.some.injEq, Prod.mk.injEq] at H
                 obtain ⟨rfl, rfl⟩ := H
                 go_wp2
                 repeat (go_quiet (fail); try go_wp2)
                 go_ret2
                 exact ⟨by first | rfl | (simp; done) | (simp only [← hji8, ← hji10, ← hji12, ← hji13, ← hji15, ← hji17, ← hji30] <;> (first | rfl | simp)) | (simp [*]; done), by repeat (first | exact Drawn0.refl _ | apply Drawn0.step)⟩
                ·rw [if_neg c29] at H
                 exact absurd H (by simp)
               ·rw [if_neg c28] at H
                have c28b0 : decide (4294967296 ≤ (IntKind.u64.wrap (x16_2 + ((ji10) / 4294967296)))) = false := decide_eq_false c28
                clear c28
                have H' := Aside0.mk H
                clear H
                go_wp2
                repeat (go_quiet (fail); try go_wp2)
                go_roundg kj24
                case measure => have := HJ18.out; have := HK2.out; have := HJ24.out; omega
                case rel => exact ⟨(IntKind.u64.wrap (x16_2 + ((ji10) / 4294967296))), (IntKind.u64.wrap (x18_2 - 1)), (by first | rfl | (simp; done) | (simp only [← hji10] <;> (first | rfl | simp)) | (simp [*]; done)), (by first | rfl | (simp; done) | (simp [*]; done)), H', ⟨by have := HJ18.out; have := HK2.out; have := HJ24.out; omega⟩, by repeat (first | exact Drawn0.refl _ | apply Drawn0.step)⟩
              ·replace c27 := Bool.eq_false_iff.mpr c27
               subst c27
               have H1 : (if 0 ≤ ji8 then (some (IntKind.u64.wrap ((IntKind.u64.wrap (x15_18 * 4294967296)) + x18_2), shr .u64 (IntKind.u64.wrap ((IntKind.u64.wrap ((IntKind.u64.wrap ((IntKind.u64.wrap ((IntKind.u64.wrap ((IntKind.u64.wrap ((Go.bits .or .u64 (ji12) (ji15)) * 4294967296)) + ((ji17) / 4294967296))) - (IntKind.u64.wrap (x15_18 * ji10)))) * 4294967296)) + (Go.bits .and .u64 (ji17) 4294967295))) - (IntKind.u64.wrap (x18_2 * ji10)))) ji8)) else (none)) = some (r1, r2) := by rw [if_neg (show ¬ (false = true) by decide)] at H <;> exact H
               clear H
               have H := H1
               clear H1
               by_cases c31 : 0 ≤ ji8
               ·rw [if_pos c31] at H
                have c31b0 := eq_true c31
                have c31b1 : decide (0 ≤ ji8) = true := decide_eq_true c31
                clear c31
                obtain ⟨ji32, hji32⟩ : ∃ j_ : Int, (shr .u64 (IntKind.u64.wrap ((IntKind.u64.wrap ((IntKind.u64.wrap ((IntKind.u64.wrap ((IntKind.u64.wrap ((IntKind.u64.wrap ((Go.bits .or .u64 (ji12) (ji15)) * 4294967296)) + ((ji17) / 4294967296))) - (IntKind.u64.wrap (x15_18 * ji10)))) * 4294967296)) + (Go.bits .and .u64 (ji17) 4294967295))) - (IntKind.u64.wrap (x18_2 * ji10)))) ji8) = j_ := ⟨_, rfl⟩
                replace H : (some (IntKind.u64.wrap ((IntKind.u64.wrap (x15_18 * 4294967296)) + x18_2), ji32)) = some (r1, r2) := by first | (rw [hji32] at H <;> exact H) | (simp only [hji32] at H ⊢; exact H)
                have hji32_ : ((IntKind.u64.wrap ((IntKind.u64.wrap ((IntKind.u64.wrap ((IntKind.u64.wrap ((IntKind.u64.wrap ((IntKind.u64.wrap ((Go.bits .or .u64 (ji12) (ji15)) * 4294967296)) + ((ji17) / 4294967296))) - (IntKind.u64.wrap (x15_18 * ji10)))) * 4294967296)) + (Go.bits .and .u64 (ji17) 4294967295))) - (IntKind.u64.wrap (x18_2 * ji10)))) / 2 ^ min ji8.toNat 64) = ji32 := hji32
                have hji32z : ji8 ≤ 64 → ((IntKind.u64.wrap ((IntKind.u64.wrap ((IntKind.u64.wrap ((IntKind.u64.wrap ((IntKind.u64.wrap ((IntKind.u64.wrap ((Go.bits .or .u64 (ji12) (ji15)) * 4294967296)) + ((ji17) / 4294967296))) - (IntKind.u64.wrap (x15_18 * ji10)))) * 4294967296)) + (Go.bits .and .u64 (ji17) 4294967295))) - (IntKind.u64.wrap (x18_2 * ji10)))) / 2 ^ ji8.toNat) = ji32 := shr_small hji32
                simp only [Option.some.injEq, Prod.mk.injEq] at H
                obtain ⟨rfl, rfl⟩ := H
                go_wp2
                repeat (go_quiet (fail); try go_wp2)
                go_ret2
                exact ⟨by first | rfl | (simp; done) | (simp only [← hji8, ← hji10, ← hji12, ← hji13, ← hji15, ← hji17, ← hji32] <;> (first | rfl | simp)) | (simp [*]; done), by repeat (first | exact Drawn0.refl _ | apply Drawn0.step)⟩
               ·rw [if_neg c31] at H
                exact absurd H (by simp)
     ·rw [if_neg c14] at H
      exact absurd H (by simp)
    ·rw [if_neg c9] at H
     exact absurd H (by simp)
def epicycleref01_power.l0 : Nat → Int → Int → Int → Option (Int)
 | 0, _, _, _ => none
 | k + 1, x0, x3, x4 => if x4 < x0 then (epicycleref01_power.l0 k x0 (IntKind.u64.wrap (2 * x3)) (wrap64 (x4 + 1))) else (some x3)
def epicycleref01_power.f (k : Nat) (a0 : Int) : Option (Int) := epicycleref01_power.l0 k a0 1 0
set_option maxHeartbeats 8000000 in
set_option maxRecDepth 100000 in
theorem epicycleref01_power.calls (k : Nat) (a0 : Int) (r : Int) (w : World) (h : epicycleref01_power.f k a0 = some r) :
  Calls Tryd.prog 40 #[.int .i64 a0] w fun e w' => e = .returned (.int .u64 r) ∧ Drawn0 w w' := by
 have H : (epicycleref01_power.l0 k a0 1 0) = some r := h
 clear h
 have H' := Aside0.mk H
 clear H
 go_enter Tryd.func40, Tryd.ntmps40
 go_wp2
 go_loopg [3, 4] k (fun kq v3 v4 w' => ∃ (x3_1 : Int) (x4_1 : Int), v3 = .int .u64 x3_1 ∧ v4 = .int .i64 x4_1 ∧ Aside0 (epicycleref01_power.l0 kq a0 x3_1 x4_1 = some r) ∧ Aside0 (kq ≤ k) ∧ Drawn0 w w')
 case atStart => exact ⟨(1), (0), (by first | rfl | (simp; done) | (simp [*]; done)), (by first | rfl | (simp; done) | (simp [*]; done)), H', ⟨Nat.le_refl _⟩, by repeat (first | exact Drawn0.refl _ | apply Drawn0.step)⟩
 case round =>
  clear H'
  obtain ⟨x3_1, x4_1, rfl, rfl, HA, HK1, ⟨m1, rfl⟩⟩ := hrel
  cases gk with
  | zero => exact absurd HA.out (by simp [epicycleref01_power.l0])
  | succ k1 =>
   have H := HA.out
   clear HA
   simp only [epicycleref01_power.l0] at H
   by_cases c2 : x4_1 < a0
   ·rw [if_pos c2] at H
    have c2b0 : decide (x4_1 < a0) = true := decide_eq_true c2
    clear c2
    have H' := Aside0.mk H
    clear H
    go_wp2
    go_roundg k1
    case measure => have := HK1.out; omega
    case rel => exact ⟨(IntKind.u64.wrap (2 * x3_1)), (wrap64 (x4_1 + 1)), (by first | rfl | (simp; done) | (simp [*]; done)), (by first | rfl | (simp; done) | (simp [*]; done)), H', ⟨by have := HK1.out; omega⟩, by repeat (first | exact Drawn0.refl _ | apply Drawn0.step)⟩
   ·rw [if_neg c2] at H
    have c2b0 : decide (x4_1 < a0) = false := decide_eq_false c2
    clear c2
    obtain rfl := Option.some.inj H
    go_wp2
    go_ret
    exact ⟨by first | rfl | (simp; done) | (simp [*]; done), by repeat (first | exact Drawn0.refl _ | apply Drawn0.step)⟩
end Go.Proofs.YtlpbfhbfaphicaaDoor.XB
end
section
namespace Go.Proofs.YtlpbfhbfaphicaaDoor.XB
open Go Go.RowKit Go.Proofs.YtlpbfhbfaphicaaDoorW.PrintWords Go.Proofs.YtlpbfhbfaphicaaDoorW.PrintLast Go.Proofs.YtlpbfhbfaphicaaDoorW.PrintMore Go.Proofs.YtlpbfhbfaphicaaDoor.Given Go.Proofs.YtlpbfhbfaphicaaDoor.M
section digit
variable {Y h l u d q r : Int}
theorem digit_le (hY : Y = h * 4294967296 + l) (hl : 0 ≤ l) (hh : 2147483648 ≤ h) (he : q * h + r = u) (hc : q * l ≤ 4294967296 * r + d) : q ≤ (u * 4294967296 + d) / Y := by
  have e : q * Y = q * h * 4294967296 + q * l := by rw [hY, Int.mul_add, ← Int.mul_assoc]
  have hp : 0 < Y := by omega
  refine Int.le_ediv_of_mul_le hp ?_
  omega
theorem digit_lt (hY : Y = h * 4294967296 + l) (hl : 0 ≤ l) (hh : 2147483648 ≤ h) (he : q * h + r = u) (hc : 4294967296 * r + d < q * l) : (u * 4294967296 + d) / Y < q := by
  have e : q * Y = q * h * 4294967296 + q * l := by rw [hY, Int.mul_add, ← Int.mul_assoc]
  have hp : 0 < Y := by omega
  refine Int.ediv_lt_of_lt_mul hp ?_
  omega
theorem digit_top (hp : 0 < Y) (hu : u < Y) (hd : d < 4294967296) : (u * 4294967296 + d) / Y < 4294967296 := by
  refine Int.ediv_lt_of_lt_mul hp ?_
  omega
end digit
theorem mul_le_of {a b A B : Int} (ha : 0 ≤ a) (hb : 0 ≤ b) (hA : a ≤ A) (hB : b ≤ B) : a * b ≤ A * B :=
  Int.mul_le_mul hA hB hb (by omega)
section
variable {Y s h l u d e : Int}
theorem div_l0 {R : Int × Int} (hY : Y = h * 4294967296 + l) (hl : 0 ≤ l) (hl2 : l < 4294967296) (hh : 2147483648 ≤ h) (hh2 : h < 4294967296) (hu0 : 0 ≤ u) (hu : u < Y) (hd0 : 0 ≤ d) (hd : d < 4294967296)
    (hR : Ev (fun k => bits_Div64.j2 k Y s h l u d e ((u * 4294967296 + d) / Y)) R) (n : Nat) :
    ∀ q r : Int, q * h + r = u → 0 ≤ r → r < 4294967296 → (u * 4294967296 + d) / Y ≤ q → q ≤ 4294967297 → q - (u * 4294967296 + d) / Y = n →
    Ev (fun k => bits_Div64.l0 k Y s h l u d e q r) R := by
  have hp : 0 < Y := by omega
  have htop := digit_top hp hu hd
  have hq0 : 0 ≤ (u * 4294967296 + d) / Y := Int.ediv_nonneg (by omega) (by omega)
  generalize hQ : (u * 4294967296 + d) / Y = Q at *
  have step : ∀ q r : Int, q * h + r = u → 0 ≤ r → r < 4294967296 → Q < q → q ≤ 4294967297 → (Q < q - 1 → Ev (fun k => bits_Div64.l0 k Y s h l u d e (q - 1) (r + h)) R) →
      (r + h < 4294967296 → Q = q - 1 → Ev (fun k => bits_Div64.l0 k Y s h l u d e (q - 1) (r + h)) R) →
      Ev (fun k => bits_Div64.j1 k Y s h l u d e q r true) R := by
    intro q r he hr0 hr hlt hq hnext hnext2
    by_cases hb : r + h < 4294967296
    · have hE : Ev (fun k => bits_Div64.l0 k Y s h l u d e (q - 1) (r + h)) R := by
        by_cases hx : Q < q - 1
        · exact hnext hx
        · exact hnext2 hb (by omega)
      refine Ev.step (fun k => ?_) hE
      simp only [bits_Div64.j1, if_true]
      rw [wu64_id (r + h) (by omega) (by omega), if_neg (by omega), wu64_id (q - 1) (by omega) (by omega)]
    · have hle : q - 1 ≤ Q := by
        rw [← hQ]
        refine digit_le (r := r + h) hY hl hh ?_ ?_
        · rw [Int.sub_mul]; omega
        · have := mul_le_of (a := q - 1) (b := l) (A := 4294967296) (B := 4294967295) (by omega) hl (by omega) (by omega)
          omega
      have hQe : Q = q - 1 := by omega
      refine Ev.step (fun k => ?_) hR
      simp only [bits_Div64.j1, if_true]
      rw [wu64_id (r + h) (by omega) (by omega), if_pos (by omega), wu64_id (q - 1) (by omega) (by omega), hQe]
  induction n with
  | zero =>
    intro q r he hr0 hr hQq hq hn
    obtain rfl : Q = q := by omega
    have hnc : ¬ (4294967296 * r + d < Q * l) := by
      intro hc
      have := digit_lt hY hl hh he hc
      omega
    have hm := mul_le_of (a := Q) (b := l) (A := 4294967297) (B := 4294967295) (by omega) hl (by omega) (by omega)
    have hm0 : 0 ≤ Q * l := Int.mul_nonneg hq0 hl
    refine Ev.step (f := fun k => bits_Div64.j1 k Y s h l u d e Q r false) (fun k => ?_) (Ev.step (fun k => ?_) hR)
    · simp only [bits_Div64.l0]
      rw [if_neg (by omega), wu64_id (Q * l) hm0 (by omega), wu64_id (4294967296 * r) (by omega) (by omega), wu64_id (4294967296 * r + d) (by omega) (by omega), decide_eq_false (by omega)]
    · simp only [bits_Div64.j1]
      rw [if_neg (by simp)]
  | succ n ih =>
    intro q r he hr0 hr hQq hq hn
    have hlt : Q < q := by omega
    have hc : 4294967296 ≤ q ∨ 4294967296 * r + d < q * l := by
      by_cases h1 : 4294967296 ≤ q
      · exact .inl h1
      · right
        refine Classical.byContradiction fun h2 => ?_
        have := digit_le (q := q) (r := r) hY hl hh he (Int.not_lt.1 h2)
        omega
    have hj := step q r he hr0 hr hlt hq (fun hx => by
        by_cases hb : r + h < 4294967296
        · exact ih (q - 1) (r + h) (by rw [Int.sub_mul]; omega) (by omega) hb (by omega) (by omega) (by omega)
        · exfalso
          have hle : q - 1 ≤ Q := by
            rw [← hQ]
            refine digit_le (r := r + h) hY hl hh ?_ ?_
            · rw [Int.sub_mul]; omega
            · have := mul_le_of (a := q - 1) (b := l) (A := 4294967296) (B := 4294967295) (by omega) hl (by omega) (by omega)
              omega
          omega)
      (fun hb hx => ih (q - 1) (r + h) (by rw [Int.sub_mul]; omega) (by omega) hb (by omega) (by omega) (by omega))
    have hm := mul_le_of (a := q) (b := l) (A := 4294967297) (B := 4294967295) (by omega) hl (by omega) (by omega)
    have hm0 : 0 ≤ q * l := Int.mul_nonneg (by omega) hl
    refine Ev.step (fun k => ?_) hj
    simp only [bits_Div64.l0]
    by_cases h1 : 4294967296 ≤ q
    · rw [if_pos (by omega)]
    · rw [if_neg (by omega), wu64_id (q * l) hm0 (by omega), wu64_id (4294967296 * r) (by omega) (by omega), wu64_id (4294967296 * r + d) (by omega) (by omega), decide_eq_true (by omega)]
theorem div_l1 {q1 : Int} (hY : Y = h * 4294967296 + l) (hl : 0 ≤ l) (hl2 : l < 4294967296) (hh : 2147483648 ≤ h) (hh2 : h < 4294967296) (hu0 : 0 ≤ u) (hu : u < Y) (hd0 : 0 ≤ d) (hd : d < 4294967296) (hs : 0 ≤ s) (hq1 : 0 ≤ q1) (hq1' : q1 < 4294967296) (n : Nat) :
    ∀ q r : Int, q * h + r = u → 0 ≤ r → r < 4294967296 → (u * 4294967296 + d) / Y ≤ q → q ≤ 4294967297 → q - (u * 4294967296 + d) / Y = n →
    Ev (fun k => bits_Div64.l1 k Y s h l d q1 r u q) (q1 * 4294967296 + (u * 4294967296 + d) / Y, shr .u64 ((u * 4294967296 + d) % Y) s) := by
  have hp : 0 < Y := by omega
  have htop := digit_top hp hu hd
  have hq0 : 0 ≤ (u * 4294967296 + d) / Y := Int.ediv_nonneg (by omega) (by omega)
  have hmod : (u * 4294967296 + d) - (u * 4294967296 + d) / Y * Y = (u * 4294967296 + d) % Y := by
    have := Int.mul_ediv_add_emod (u * 4294967296 + d) Y
    rw [Int.mul_comm] at this
    omega
  have hm1 := Int.emod_lt_of_pos (u * 4294967296 + d) hp
  have hm0 := Int.emod_nonneg (u * 4294967296 + d) (by omega : Y ≠ 0)
  have hrest : IntKind.u64.wrap (IntKind.u64.wrap (IntKind.u64.wrap (u * 4294967296) + d) - IntKind.u64.wrap ((u * 4294967296 + d) / Y * Y)) = (u * 4294967296 + d) % Y := by
    simp only [wu64]
    omega
  generalize hQ : (u * 4294967296 + d) / Y = Q at *
  have step : ∀ q r : Int, q * h + r = u → 0 ≤ r → r < 4294967296 → Q < q → q ≤ 4294967297 →
      (r + h < 4294967296 → Ev (fun k => bits_Div64.l1 k Y s h l d q1 (r + h) u (q - 1)) (q1 * 4294967296 + Q, shr .u64 ((u * 4294967296 + d) % Y) s)) →
      Ev (fun k => bits_Div64.j4 k Y s h l d q1 r u q true) (q1 * 4294967296 + Q, shr .u64 ((u * 4294967296 + d) % Y) s) := by
    intro q r he hr0 hr hlt hq hnext
    by_cases hb : r + h < 4294967296
    · refine Ev.step (fun k => ?_) (hnext hb)
      simp only [bits_Div64.j4, if_true]
      rw [wu64_id (r + h) (by omega) (by omega), if_neg (by omega), wu64_id (q - 1) (by omega) (by omega)]
    · have hle : q - 1 ≤ Q := by
        rw [← hQ]
        refine digit_le (r := r + h) hY hl hh ?_ ?_
        · rw [Int.sub_mul]; omega
        · have := mul_le_of (a := q - 1) (b := l) (A := 4294967296) (B := 4294967295) (by omega) hl (by omega) (by omega)
          omega
      have hQe : q - 1 = Q := by omega
      refine Ev.step (fun k => ?_) (Ev.now _)
      simp only [bits_Div64.j4, if_true]
      rw [wu64_id (r + h) (by omega) (by omega), if_pos (by omega), if_pos hs, wu64_id (q - 1) (by omega) (by omega), hQe, hrest, wu64_id (q1 * 4294967296) (by omega) (by omega), wu64_id (q1 * 4294967296 + Q) (by omega) (by omega)]
  induction n with
  | zero =>
    intro q r he hr0 hr hQq hq hn
    obtain rfl : Q = q := by omega
    have hnc : ¬ (4294967296 * r + d < Q * l) := by
      intro hc
      have := digit_lt hY hl hh he hc
      omega
    have hm := mul_le_of (a := Q) (b := l) (A := 4294967297) (B := 4294967295) (by omega) hl (by omega) (by omega)
    have hmm : 0 ≤ Q * l := Int.mul_nonneg hq0 hl
    refine Ev.step (f := fun k => bits_Div64.j4 k Y s h l d q1 r u Q false) (fun k => ?_) (Ev.step (fun k => ?_) (Ev.now _))
    · simp only [bits_Div64.l1]
      rw [if_neg (by omega), wu64_id (Q * l) hmm (by omega), wu64_id (4294967296 * r) (by omega) (by omega), wu64_id (4294967296 * r + d) (by omega) (by omega), decide_eq_false (by omega)]
    · simp only [bits_Div64.j4]
      rw [if_neg (by simp), if_pos hs, hrest, wu64_id (q1 * 4294967296) (by omega) (by omega), wu64_id (q1 * 4294967296 + Q) (by omega) (by omega)]
  | succ n ih =>
    intro q r he hr0 hr hQq hq hn
    have hlt : Q < q := by omega
    have hc : 4294967296 ≤ q ∨ 4294967296 * r + d < q * l := by
      by_cases h1 : 4294967296 ≤ q
      · exact .inl h1
      · right
        refine Classical.byContradiction fun h2 => ?_
        have := digit_le (q := q) (r := r) hY hl hh he (Int.not_lt.1 h2)
        omega
    have hj := step q r he hr0 hr hlt hq (fun hb => ih (q - 1) (r + h) (by rw [Int.sub_mul]; omega) (by omega) hb (by omega) (by omega) (by omega))
    have hm := mul_le_of (a := q) (b := l) (A := 4294967297) (B := 4294967295) (by omega) hl (by omega) (by omega)
    have hmm : 0 ≤ q * l := Int.mul_nonneg (by omega) hl
    refine Ev.step (fun k => ?_) hj
    simp only [bits_Div64.l1]
    by_cases h1 : 4294967296 ≤ q
    · rw [if_pos (by omega)]
    · rw [if_neg (by omega), wu64_id (q * l) hmm (by omega), wu64_id (4294967296 * r) (by omega) (by omega), wu64_id (4294967296 * r + d) (by omega) (by omega), decide_eq_true (by omega)]
end
section
variable {Y s h l u d e : Int}
theorem div_j2 (hY : Y = h * 4294967296 + l) (hl : 0 ≤ l) (hl2 : l < 4294967296) (hh : 2147483648 ≤ h) (hh2 : h < 4294967296) (hu0 : 0 ≤ u) (hu : u < Y) (hd0 : 0 ≤ d) (hd : d < 4294967296) (he0 : 0 ≤ e) (he : e < 4294967296) (hs : 0 ≤ s) :
    Ev (fun k => bits_Div64.j2 k Y s h l u d e ((u * 4294967296 + d) / Y)) ((u * 4294967296 + d) / Y * 4294967296 + ((u * 4294967296 + d) % Y * 4294967296 + e) / Y, shr .u64 (((u * 4294967296 + d) % Y * 4294967296 + e) % Y) s) := by
  have hp : 0 < Y := by omega
  have htop := digit_top hp hu hd
  have hq0 : 0 ≤ (u * 4294967296 + d) / Y := Int.ediv_nonneg (by omega) (by omega)
  have hmod : (u * 4294967296 + d) - (u * 4294967296 + d) / Y * Y = (u * 4294967296 + d) % Y := by
    have := Int.mul_ediv_add_emod (u * 4294967296 + d) Y
    rw [Int.mul_comm] at this
    omega
  have hm1 := Int.emod_lt_of_pos (u * 4294967296 + d) hp
  have hm0 := Int.emod_nonneg (u * 4294967296 + d) (by omega : Y ≠ 0)
  have hrest : IntKind.u64.wrap (IntKind.u64.wrap (IntKind.u64.wrap (u * 4294967296) + d) - IntKind.u64.wrap ((u * 4294967296 + d) / Y * Y)) = (u * 4294967296 + d) % Y := by
    simp only [wu64]
    omega
  generalize (u * 4294967296 + d) / Y = q1 at *
  generalize (u * 4294967296 + d) % Y = v at *
  have hv : v / h * h + v % h = v := by
    have := Int.mul_ediv_add_emod v h
    rw [Int.mul_comm] at this
    exact this
  have hvm1 := Int.emod_lt_of_pos v (by omega : 0 < h)
  have hvm0 := Int.emod_nonneg v (by omega : h ≠ 0)
  have hvd0 : 0 ≤ v / h := Int.ediv_nonneg hm0 (by omega)
  have hvd1 : v / h ≤ 4294967297 := by
    have : v / h < 4294967298 := Int.ediv_lt_of_lt_mul (by omega) (by omega)
    omega
  have hle : (v * 4294967296 + e) / Y ≤ v / h := by
    refine Classical.byContradiction fun hn => ?_
    have h1 := Int.ediv_mul_le (v * 4294967296 + e) (by omega : Y ≠ 0)
    have h2 : (v / h + 1) * Y ≤ (v * 4294967296 + e) / Y * Y := Int.mul_le_mul_of_nonneg_right (by omega) (by omega)
    have h3 : (v / h + 1) * Y = (v / h * h + h) * 4294967296 + (v / h + 1) * l := by rw [hY, Int.mul_add, ← Int.mul_assoc, Int.add_mul (v / h) 1 h, Int.one_mul]
    have h4 : 0 ≤ (v / h + 1) * l := Int.mul_nonneg (by omega) hl
    omega
  refine Ev.step (fun k => ?_) (div_l1 (s := s) (q1 := q1) hY hl hl2 hh hh2 hm0 hm1 he0 he hs hq0 htop ((v / h - (v * 4294967296 + e) / Y).toNat) (v / h) (v % h) hv hvm0 (by omega) hle hvd1 (by omega))
  simp only [bits_Div64.j2]
  rw [if_neg (by omega), hrest, tdiv_pos hm0, wu64_id (v / h) hvd0 (by omega), wu64_id (v / h * h) (Int.mul_nonneg hvd0 (by omega)) (by omega), show v - v / h * h = v % h from by omega, wu64_id (v % h) hvm0 (by omega)]
end
theorem bitLen_bounds (y : Nat) (h0 : y ≠ 0) (h : y < 18446744073709551616) : 1 ≤ Lib.bitLen y ∧ 2 ^ (Lib.bitLen y - 1) ≤ y ∧ y < 2 ^ Lib.bitLen y :=
  Lib.bitLenAux_bounds 64 y h h0
theorem div_join {N y p Y q1 q0 w : Int} (hp : 0 < p) (hY : Y = y * p) (hN : N * p = (q1 * 4294967296 + q0) * Y + w) (hw0 : 0 ≤ w) (hw : w < Y) :
    q1 * 4294967296 + q0 = N / y ∧ w / p = N % y := by
  generalize q1 * 4294967296 + q0 = Q at *
  have hw' : w = (N - Q * y) * p := by rw [Int.sub_mul, hN, hY, Int.mul_assoc]; omega
  have hyp : 0 < Y := by omega
  have hr0 : 0 ≤ N - Q * y := by
    refine Classical.byContradiction fun hn => ?_
    have : (N - Q * y) * p < 0 := Int.mul_neg_of_neg_of_pos (by omega) hp
    omega
  have hr1 : N - Q * y < y := by
    refine Int.lt_of_mul_lt_mul_right (a := p) ?_ (by omega)
    rw [← hw', ← hY]; exact hw
  have hy : 0 < y := by omega
  have e1 : N / y = Q := by
    rw [show N = (N - Q * y) + Q * y from by omega, Int.add_mul_ediv_right _ _ (by omega), Int.ediv_eq_zero_of_lt hr0 hr1]; omega
  refine ⟨e1.symm, ?_⟩
  rw [hw', Int.mul_ediv_cancel _ (by omega)]
  have := Int.mul_ediv_add_emod N y
  rw [e1, Int.mul_comm] at this
  omega
theorem two_pow_split (S : Nat) (h : S ≤ 64) : (2 : Int) ^ S * 2 ^ (64 - S) = 18446744073709551616 := by
  rw [← Int.pow_add, show S + (64 - S) = 64 from by omega]; rfl
theorem bits_Div64_ev (a0 a1 a2 : Int) (h0 : 0 ≤ a0) (h1 : U a1) (h2 : U a2) (h : a0 < a2) :
    Ev (fun k => bits_Div64.f k a0 a1 a2) ((a0 * 18446744073709551616 + a1) / a2, (a0 * 18446744073709551616 + a1) % a2) := by
  unfold U at h1 h2
  by_cases hz : a0 = 0
  · subst hz
    refine Ev.congr (fun k => ?_) (Ev.now _)
    unfold bits_Div64.f
    rw [if_neg (by omega), if_neg (by omega), if_pos rfl, tdiv_pos h1.1, tmod_pos h1.1, wu64_id _ (Int.ediv_nonneg h1.1 (by omega)) (by have := Int.ediv_le_self a2 h1.1; omega)]
    simp
  · obtain ⟨y, rfl⟩ := Int.eq_ofNat_of_zero_le h2.1
    obtain ⟨b1, b2, b3⟩ := bitLen_bounds y (by omega) (by omega)
    have b4 : Lib.bitLen y ≤ 64 := Lib.bitLen_le y 64 (by omega) (by have := h2.2; omega)
    generalize hL : Lib.bitLen y = L at *
    -- s = 64 - L
    obtain ⟨S, hS, hS2⟩ : ∃ S : Nat, 64 - (L : Int) = S ∧ S = 64 - L := ⟨64 - L, by omega, rfl⟩
    have hP := two_pow_split S (by omega)
    have hp0 : (0 : Int) < 2 ^ S := Int.pow_pos (by omega)
    have hp1 : (0 : Int) < 2 ^ (64 - S) := Int.pow_pos (by omega)
    have hLS : 64 - S = L := by omega
    have hb3 : ((y : Int)) < 2 ^ (64 - S) := by rw [hLS]; exact_mod_cast b3
    have hb2 : (2 : Int) ^ (64 - S) ≤ 2 * y := by
      rw [hLS, show L = (L - 1) + 1 from by omega, Int.pow_succ]
      have : ((2 ^ (L - 1) : Nat) : Int) ≤ y := by exact_mod_cast b2
      rw [Int.natCast_pow] at this
      have e2 : ((2 : Nat) : Int) = 2 := rfl
      rw [e2] at this
      omega
    have hYlt : (y : Int) * 2 ^ S < 18446744073709551616 := by
      rw [← hP, Int.mul_comm ((2 : Int) ^ S)]; exact Int.mul_lt_mul_of_pos_right hb3 hp0
    have hYge : (9223372036854775808 : Int) ≤ y * 2 ^ S := by
      have : (2 : Int) ^ (64 - S) * 2 ^ S ≤ 2 * y * 2 ^ S := Int.mul_le_mul_of_nonneg_right hb2 (by omega)
      rw [Int.mul_comm ((2 : Int) ^ (64 - S)), hP, Int.mul_assoc] at this
      omega
    have hs1 : shl .u64 (y : Int) (S : Int) = y * 2 ^ S := by
      unfold shl
      rw [show min ((S : Int)).toNat IntKind.u64.bits = S from by simp [IntKind.bits] <;> omega, wu64_id _ (by omega) hYlt]
    have hlt0 : a0 * 2 ^ S < y * 2 ^ S := Int.mul_lt_mul_of_pos_right h hp0
    have hs2 : shl .u64 a0 (S : Int) = a0 * 2 ^ S := by
      unfold shl
      rw [show min ((S : Int)).toNat IntKind.u64.bits = S from by simp [IntKind.bits] <;> omega, wu64_id _ (Int.mul_nonneg h0 (by omega)) (by omega)]
    have hs3 : shr .u64 a1 ((64 - S : Int)) = a1 / 2 ^ (64 - S) := by
      unfold shr
      rw [show min ((64 - S : Int)).toNat IntKind.u64.bits = 64 - S from by simp [IntKind.bits] <;> omega]
    have hs4 : shl .u64 a1 (S : Int) = (a1 * 2 ^ S) % 18446744073709551616 := by
      unfold shl
      rw [show min ((S : Int)).toNat IntKind.u64.bits = S from by simp [IntKind.bits] <;> omega, wu64]
    have hq : a1 / 2 ^ (64 - S) < 2 ^ S := by
      refine Int.ediv_lt_of_lt_mul hp1 ?_
      rw [hP]; exact h1.2
    have hq0 : 0 ≤ a1 / 2 ^ (64 - S) := Int.ediv_nonneg h1.1 (by omega)
    have hdiv : (a1 * 2 ^ S) / 18446744073709551616 = a1 / 2 ^ (64 - S) := by
      rw [← hP, Int.mul_comm a1, Int.mul_ediv_mul_of_pos _ _ hp0]
    have hun10 := Int.mul_ediv_add_emod (a1 * 2 ^ S) 18446744073709551616
    rw [hdiv] at hun10
    have hor : Go.bits .or .u64 (a0 * 2 ^ S) (a1 / 2 ^ (64 - S)) = a0 * 2 ^ S + a1 / 2 ^ (64 - S) := by
      have hpow : ((2 : Int) ^ S) ≤ 18446744073709551616 := by
        rw [← hP]
        have := Int.mul_le_mul_of_nonneg_left (by omega : (1 : Int) ≤ 2 ^ (64 - S)) (by omega : (0 : Int) ≤ 2 ^ S)
        omega
      exact bits_join .u64 64 (by decide) wraps_u64 S (a0 * 2 ^ S) (a1 / 2 ^ (64 - S)) (Int.mul_nonneg h0 (by omega)) (Int.mul_emod_left _ _) (by omega) hq0 hq (by omega)
    have hur : a0 * 2 ^ S + a1 / 2 ^ (64 - S) < y * 2 ^ S := by
      have : (a0 + 1) * 2 ^ S ≤ y * 2 ^ S := Int.mul_le_mul_of_nonneg_right (by omega) (by omega)
      rw [Int.add_mul, Int.one_mul] at this
      omega
    have hmul0 : 0 ≤ a0 * 2 ^ S := Int.mul_nonneg h0 (by omega)
    have hN : (a0 * 18446744073709551616 + a1) * 2 ^ S = (a0 * 2 ^ S + a1 / 2 ^ (64 - S)) * 18446744073709551616 + (a1 * 2 ^ S) % 18446744073709551616 := by
      have e1 : (a0 * 18446744073709551616 + a1) * 2 ^ S = a0 * 2 ^ S * 18446744073709551616 + a1 * 2 ^ S := by
        rw [Int.add_mul, Int.mul_right_comm]
      omega
    have hM0 := Int.emod_nonneg (a1 * 2 ^ S) (by omega : (18446744073709551616 : Int) ≠ 0)
    have hM1 := Int.emod_lt_of_pos (a1 * 2 ^ S) (by omega : (0 : Int) < 18446744073709551616)
    have hshr : ∀ w : Int, shr .u64 w (S : Int) = w / 2 ^ S := by
      intro w
      unfold shr
      rw [show min ((S : Int)).toNat IntKind.u64.bits = S from by simp [IntKind.bits] <;> omega]
    generalize hu : a0 * 2 ^ S + a1 / 2 ^ (64 - S) = u at *
    generalize hm : (a1 * 2 ^ S) % 18446744073709551616 = m at *
    generalize hp : (2 : Int) ^ S = p at *
    generalize hYY : (y : Int) * p = Y at *
    have hYdm : Y = Y / 4294967296 * 4294967296 + Y % 4294967296 := by omega
    have ev2 := div_j2 (s := (S : Int)) (Y := Y) (h := Y / 4294967296) (l := Y % 4294967296) (u := u) (d := m / 4294967296) (e := m % 4294967296) hYdm (by omega) (by omega) (by omega) (by omega) (by omega) hur (by omega) (by omega) (by omega) (by omega) (by omega)
    have hp' : 0 < Y := by omega
    have hu1 : u / (Y / 4294967296) * (Y / 4294967296) + u % (Y / 4294967296) = u := by
      have := Int.mul_ediv_add_emod u (Y / 4294967296)
      rw [Int.mul_comm] at this
      exact this
    have hvm1 := Int.emod_lt_of_pos u (by omega : 0 < Y / 4294967296)
    have hvm0 := Int.emod_nonneg u (by omega : Y / 4294967296 ≠ 0)
    have hvd0 : 0 ≤ u / (Y / 4294967296) := Int.ediv_nonneg (by omega) (by omega)
    have hvd1 : u / (Y / 4294967296) ≤ 4294967297 := by
      have : u / (Y / 4294967296) < 4294967298 := Int.ediv_lt_of_lt_mul (by omega) (by omega)
      omega
    have hle : (u * 4294967296 + m / 4294967296) / Y ≤ u / (Y / 4294967296) := by
      refine Classical.byContradiction fun hn => ?_
      have g1 := Int.ediv_mul_le (u * 4294967296 + m / 4294967296) (by omega : Y ≠ 0)
      have g2 : (u / (Y / 4294967296) + 1) * Y ≤ (u * 4294967296 + m / 4294967296) / Y * Y := Int.mul_le_mul_of_nonneg_right (by omega) (by omega)
      have g3 : (u / (Y / 4294967296) + 1) * Y = (u / (Y / 4294967296) * (Y / 4294967296) + Y / 4294967296) * 4294967296 + (u / (Y / 4294967296) + 1) * (Y % 4294967296) := by
        have : (u / (Y / 4294967296) + 1) * Y = (u / (Y / 4294967296) + 1) * (Y / 4294967296 * 4294967296 + Y % 4294967296) := by rw [← hYdm]
        rw [this, Int.mul_add, ← Int.mul_assoc, Int.add_mul (u / (Y / 4294967296)) 1 (Y / 4294967296), Int.one_mul]
      have g4 : 0 ≤ (u / (Y / 4294967296) + 1) * (Y % 4294967296) := Int.mul_nonneg (by omega) (by omega)
      omega
    have ev0 := div_l0 (s := (S : Int)) hYdm (by omega) (by omega) (by omega) (by omega) (by omega) hur (by omega) (by omega) ev2 ((u / (Y / 4294967296) - (u * 4294967296 + m / 4294967296) / Y).toNat) (u / (Y / 4294967296)) (u % (Y / 4294967296)) hu1 hvm0 (by omega) hle hvd1 (by omega)
    have hdm1 := Int.mul_ediv_add_emod (u * 4294967296 + m / 4294967296) Y
    have hdm2 := Int.mul_ediv_add_emod ((u * 4294967296 + m / 4294967296) % Y * 4294967296 + m % 4294967296) Y
    have hw1 := Int.emod_lt_of_pos ((u * 4294967296 + m / 4294967296) % Y * 4294967296 + m % 4294967296) hp'
    have hw0 := Int.emod_nonneg ((u * 4294967296 + m / 4294967296) % Y * 4294967296 + m % 4294967296) (by omega : Y ≠ 0)
    generalize (u * 4294967296 + m / 4294967296) / Y = q1 at *
    generalize (u * 4294967296 + m / 4294967296) % Y = v at *
    generalize (v * 4294967296 + m % 4294967296) / Y = q2 at *
    generalize (v * 4294967296 + m % 4294967296) % Y = w at *
    obtain ⟨j1, j2⟩ := div_join (N := a0 * 18446744073709551616 + a1) (y := (y : Int)) (p := p) (Y := Y) (q1 := q1) (q0 := q2) (w := w) hp0 hYY.symm (by
      rw [hN]
      have : (q1 * 4294967296 + q2) * Y = Y * q1 * 4294967296 + Y * q2 := by rw [Int.add_mul, Int.mul_right_comm, Int.mul_comm q1, Int.mul_comm q2]
      omega) hw0 hw1
    rw [j1, hshr, j2] at ev0
    refine Ev.congr (fun k => ?_) ev0
    unfold bits_Div64.f bits_LeadingZeros64.f
    rw [if_neg (by omega), if_neg (by omega), if_neg hz, if_pos (by omega)]
    simp only [Option.bind_some, Int.toNat_natCast, hL, hS]
    rw [wu64_id (S : Int) (by omega) (by omega), wu64_id (64 - (S : Int)) (by omega) (by omega), if_pos (by omega), if_pos (by omega), hs1, hs2, hs3, hs4, hor, if_neg (by omega), tdiv_pos (by omega),
      and32 Y (by unfold U; omega), and32 m (by unfold U; omega), wu64_id (u / (Y / 4294967296)) hvd0 (by omega), wu64_id (u / (Y / 4294967296) * (Y / 4294967296)) (Int.mul_nonneg hvd0 (by omega)) (by omega), show u - u / (Y / 4294967296) * (Y / 4294967296) = u % (Y / 4294967296) from by omega, wu64_id (u % (Y / 4294967296)) hvm0 (by omega)]
end Go.Proofs.YtlpbfhbfaphicaaDoor.XB
end
