-- thinned
-- Printed by a program of this session (wip/tools/mkprint.py) out of the translation.
import Derived.Test.YtcnnaciilphadaaXP0
import Derived.Test.YtcnnaciilphadaaXP1
import Derived.Test.YtcnnaciilphadaaXP3
import Derived.Test.YtcnnaciilphadaaXP4
import Derived.Test.YtcnnaciilphadaaXP7
import Derived.Test.YtcnnaciilphadaaXP9
import Derived.Test.YtcnnaciilphadaaGiven
import Derived.Test.YtcnnaciilphadaaClone04
namespace Go.Proofs.Ytcnnaciilphadaa.XP
open Go.RowKit Go.Proofs.Ytcnnaciilphadaa.Given Go.Proofs.Ytcnnaciilphadaa.Given04 Go.Proofs.YtcnnaciilphadaaW.PrintWords Go.Proofs.YtcnnaciilphadaaW.PrintLast Go.Proofs.YtcnnaciilphadaaW.PrintMore
attribute [local go_sem] max2_int min2_int max_two min_two max_three min_three max_four min_four   -- for this text's walks alone
set_option linter.unusedVariables false
set_option linter.unusedSimpArgs false

attribute [local go_sem high] eqA59
/-! ### epicyclelaw04_ProofClaims: function 13 -/
mutual
def epicyclelaw04_ProofClaims.j0 : Nat → List (S46) → Int → Bool → Bool → Int → Int → List (S59) → Option (Bool)
 | 0, _, _, _, _, _, _, _ => none
 | k + 1, x0, x1, x6, x36, x255000, x255001, x255002 => if x36 = true then (if x6 = true then (some false) else (if x255000 = 0 then (if x255001 = 0 then (some ((x255002.length : Int) == 0)) else (some false)) else (some false))) else (epicyclelaw04_ProofClaims.l0 k x1 x6 x0 (x0.length : Int) 0 x255000 x255001 x255002)
def epicyclelaw04_ProofClaims.l0 : Nat → Int → Bool → List (S46) → Int → Int → Int → Int → List (S59) → Option (Bool)
 | 0, _, _, _, _, _, _, _, _ => none
 | k + 1, x1, x6, x55, x56, x57, x255000, x255001, x255002 => if x57 < x56 then (if 0 ≤ x57 then (if x57 < (x55.length : Int) then (if ((rd_T46 x55 x57).f0) = x1 then (if x255000 = x1 then (if x255001 = ((rd_T46 x55 x57).f1) then (epicyclelaw04_ProofClaims.j2 k x1 x6 x55 x56 x57 ((x255002.length : Int) != (((rd_T46 x55 x57).f2).length : Int)) x255000 x255001 x255002 ((rd_T46 x55 x57).f0) ((rd_T46 x55 x57).f1) ((rd_T46 x55 x57).f2)) else (epicyclelaw04_ProofClaims.j2 k x1 x6 x55 x56 x57 true x255000 x255001 x255002 ((rd_T46 x55 x57).f0) ((rd_T46 x55 x57).f1) ((rd_T46 x55 x57).f2))) else (epicyclelaw04_ProofClaims.j2 k x1 x6 x55 x56 x57 true x255000 x255001 x255002 ((rd_T46 x55 x57).f0) ((rd_T46 x55 x57).f1) ((rd_T46 x55 x57).f2))) else (epicyclelaw04_ProofClaims.l0 k x1 x6 x55 x56 (wrap64 (x57 + 1)) x255000 x255001 x255002)) else (none)) else (none)) else (some x6)
def epicyclelaw04_ProofClaims.j2 : Nat → Int → Bool → List (S46) → Int → Int → Bool → Int → Int → List (S59) → Int → Int → List (S60) → Option (Bool)
 | 0, _, _, _, _, _, _, _, _, _, _, _, _ => none
 | k + 1, x1, x6, x55, x56, x57, x84, x255000, x255001, x255002, x260000, x260001, x260002 => if x84 = true then (some false) else (epicyclelaw04_ProofClaims.l1 k x1 x6 x55 x56 x57 x255002 (x255002.length : Int) 0 x255000 x255001 x255002 x260000 x260001 x260002)
def epicyclelaw04_ProofClaims.l1 : Nat → Int → Bool → List (S46) → Int → Int → List (S59) → Int → Int → Int → Int → List (S59) → Int → Int → List (S60) → Option (Bool)
 | 0, _, _, _, _, _, _, _, _, _, _, _, _, _, _ => none
 | k + 1, x1, x6, x55, x56, x57, x86, x87, x88, x255000, x255001, x255002, x260000, x260001, x260002 => if x88 < x87 then (if 0 ≤ x88 then (if x88 < (x86.length : Int) then (if x88 < (x260002.length : Int) then (if (!(((rd_T59 x86 x88).f0) == ((rd_T60 x260002 x88).f0)) || (!(((rd_T59 x86 x88).f1) == ((rd_T60 x260002 x88).f1)))) = true then (some false) else (epicyclelaw04_ProofClaims.l1 k x1 x6 x55 x56 x57 x86 x87 (wrap64 (x88 + 1)) x255000 x255001 x255002 x260000 x260001 x260002)) else (none)) else (none)) else (none)) else (epicyclelaw04_ProofClaims.l0 k x1 x6 x55 x56 (wrap64 (x57 + 1)) x255000 x255001 x255002)
end
def epicyclelaw04_ProofClaims.f (k : Nat) (l0 : List (S46)) (a1 : Int) : Option (Bool) := (epicyclelaw04_alive.f k).bind fun t243 => (if t243 = true then ((epicyclelaw04_great.f k l0).bind fun t244 => (if t244 = true then (some true) else ((epicyclelaw04_rows.f k l0).bind fun t245 => ((proof_Claim.f k t245 a1).bind fun bt248 => ((epicycleref04_Check.f k l0).bind fun bt255 => (if bt255.2 = 0 then ((epicycleref04_Claimed.f k l0 a1).bind fun t257 => (epicyclelaw04_ProofClaims.j0 k l0 a1 bt248.2.2.2 (!t257) bt248.1 bt248.2.1 bt248.2.2.1)) else (epicyclelaw04_ProofClaims.j0 k l0 a1 bt248.2.2.2 true bt248.1 bt248.2.1 bt248.2.2.1))))))) else (some false))
theorem epicyclelaw04_ProofClaims.mono_l : ∀ k, (∀ y0 y1 y2 y3 y4 y5 y6, LeO (epicyclelaw04_ProofClaims.j0 k y0 y1 y2 y3 y4 y5 y6) (epicyclelaw04_ProofClaims.j0 (k + 1) y0 y1 y2 y3 y4 y5 y6)) ∧ (∀ y0 y1 y2 y3 y4 y5 y6 y7, LeO (epicyclelaw04_ProofClaims.l0 k y0 y1 y2 y3 y4 y5 y6 y7) (epicyclelaw04_ProofClaims.l0 (k + 1) y0 y1 y2 y3 y4 y5 y6 y7)) ∧ (∀ y0 y1 y2 y3 y4 y5 y6 y7 y8 y9 y10 y11, LeO (epicyclelaw04_ProofClaims.j2 k y0 y1 y2 y3 y4 y5 y6 y7 y8 y9 y10 y11) (epicyclelaw04_ProofClaims.j2 (k + 1) y0 y1 y2 y3 y4 y5 y6 y7 y8 y9 y10 y11)) ∧ (∀ y0 y1 y2 y3 y4 y5 y6 y7 y8 y9 y10 y11 y12 y13, LeO (epicyclelaw04_ProofClaims.l1 k y0 y1 y2 y3 y4 y5 y6 y7 y8 y9 y10 y11 y12 y13) (epicyclelaw04_ProofClaims.l1 (k + 1) y0 y1 y2 y3 y4 y5 y6 y7 y8 y9 y10 y11 y12 y13))
 | 0 => ⟨fun _ _ _ _ _ _ _ r h => by simp [epicyclelaw04_ProofClaims.j0] at h, fun _ _ _ _ _ _ _ _ r h => by simp [epicyclelaw04_ProofClaims.l0] at h, fun _ _ _ _ _ _ _ _ _ _ _ _ r h => by simp [epicyclelaw04_ProofClaims.j2] at h, fun _ _ _ _ _ _ _ _ _ _ _ _ _ _ r h => by simp [epicyclelaw04_ProofClaims.l1] at h⟩
 | k + 1 => by
  obtain ⟨ih0, ih1, ih2, ih3⟩ := epicyclelaw04_ProofClaims.mono_l k
  refine ⟨?_, ?_, ?_, ?_⟩
  ·intro y0 y1 y2 y3 y4 y5 y6
   unfold epicyclelaw04_ProofClaims.j0
   repeat' first
   | (with_reducible exact ih0 _ _ _ _ _ _ _)
   | (with_reducible exact ih1 _ _ _ _ _ _ _ _)
   | (with_reducible exact ih2 _ _ _ _ _ _ _ _ _ _ _ _)
   | (with_reducible exact ih3 _ _ _ _ _ _ _ _ _ _ _ _ _ _)
   | (with_reducible exact epicyclelaw04_alive.mono _)
   | (with_reducible exact epicyclelaw04_great.mono _ _)
   | (with_reducible exact epicyclelaw04_rows.mono _ _)
   | (with_reducible exact epicycleref04_Check.mono _ _)
   | (with_reducible exact epicycleref04_Claimed.mono _ _ _)
   | (with_reducible exact proof_Claim.mono _ _ _)
   | (with_reducible exact LeO.refl _)
   | (with_reducible exact LeO.none _)
   | (with_reducible refine LeO.ite ?_ ?_)
   | (with_reducible refine LeO.bind ?_ (fun _ => ?_))
   | exact ih0 _ _ _ _ _ _ _
   | exact ih1 _ _ _ _ _ _ _ _
   | exact ih2 _ _ _ _ _ _ _ _ _ _ _ _
   | exact ih3 _ _ _ _ _ _ _ _ _ _ _ _ _ _
   | exact epicyclelaw04_alive.mono _
   | exact epicyclelaw04_great.mono _ _
   | exact epicyclelaw04_rows.mono _ _
   | exact epicycleref04_Check.mono _ _
   | exact epicycleref04_Claimed.mono _ _ _
   | exact proof_Claim.mono _ _ _
   | exact LeO.none _
   | refine LeO.ite ?_ ?_
   | refine LeO.bind ?_ (fun _ => ?_)
  ·intro y0 y1 y2 y3 y4 y5 y6 y7
   unfold epicyclelaw04_ProofClaims.l0
   repeat' first
   | (with_reducible exact ih0 _ _ _ _ _ _ _)
   | (with_reducible exact ih1 _ _ _ _ _ _ _ _)
   | (with_reducible exact ih2 _ _ _ _ _ _ _ _ _ _ _ _)
   | (with_reducible exact ih3 _ _ _ _ _ _ _ _ _ _ _ _ _ _)
   | (with_reducible exact epicyclelaw04_alive.mono _)
   | (with_reducible exact epicyclelaw04_great.mono _ _)
   | (with_reducible exact epicyclelaw04_rows.mono _ _)
   | (with_reducible exact epicycleref04_Check.mono _ _)
   | (with_reducible exact epicycleref04_Claimed.mono _ _ _)
   | (with_reducible exact proof_Claim.mono _ _ _)
   | (with_reducible exact LeO.refl _)
   | (with_reducible exact LeO.none _)
   | (with_reducible refine LeO.ite ?_ ?_)
   | (with_reducible refine LeO.bind ?_ (fun _ => ?_))
   | exact ih0 _ _ _ _ _ _ _
   | exact ih1 _ _ _ _ _ _ _ _
   | exact ih2 _ _ _ _ _ _ _ _ _ _ _ _
   | exact ih3 _ _ _ _ _ _ _ _ _ _ _ _ _ _
   | exact epicyclelaw04_alive.mono _
   | exact epicyclelaw04_great.mono _ _
   | exact epicyclelaw04_rows.mono _ _
   | exact epicycleref04_Check.mono _ _
   | exact epicycleref04_Claimed.mono _ _ _
   | exact proof_Claim.mono _ _ _
   | exact LeO.none _
   | refine LeO.ite ?_ ?_
   | refine LeO.bind ?_ (fun _ => ?_)
  ·intro y0 y1 y2 y3 y4 y5 y6 y7 y8 y9 y10 y11
   unfold epicyclelaw04_ProofClaims.j2
   repeat' first
   | (with_reducible exact ih0 _ _ _ _ _ _ _)
   | (with_reducible exact ih1 _ _ _ _ _ _ _ _)
   | (with_reducible exact ih2 _ _ _ _ _ _ _ _ _ _ _ _)
   | (with_reducible exact ih3 _ _ _ _ _ _ _ _ _ _ _ _ _ _)
   | (with_reducible exact epicyclelaw04_alive.mono _)
   | (with_reducible exact epicyclelaw04_great.mono _ _)
   | (with_reducible exact epicyclelaw04_rows.mono _ _)
   | (with_reducible exact epicycleref04_Check.mono _ _)
   | (with_reducible exact epicycleref04_Claimed.mono _ _ _)
   | (with_reducible exact proof_Claim.mono _ _ _)
   | (with_reducible exact LeO.refl _)
   | (with_reducible exact LeO.none _)
   | (with_reducible refine LeO.ite ?_ ?_)
   | (with_reducible refine LeO.bind ?_ (fun _ => ?_))
   | exact ih0 _ _ _ _ _ _ _
   | exact ih1 _ _ _ _ _ _ _ _
   | exact ih2 _ _ _ _ _ _ _ _ _ _ _ _
   | exact ih3 _ _ _ _ _ _ _ _ _ _ _ _ _ _
   | exact epicyclelaw04_alive.mono _
   | exact epicyclelaw04_great.mono _ _
   | exact epicyclelaw04_rows.mono _ _
   | exact epicycleref04_Check.mono _ _
   | exact epicycleref04_Claimed.mono _ _ _
   | exact proof_Claim.mono _ _ _
   | exact LeO.none _
   | refine LeO.ite ?_ ?_
   | refine LeO.bind ?_ (fun _ => ?_)
  ·intro y0 y1 y2 y3 y4 y5 y6 y7 y8 y9 y10 y11 y12 y13
   unfold epicyclelaw04_ProofClaims.l1
   repeat' first
   | (with_reducible exact ih0 _ _ _ _ _ _ _)
   | (with_reducible exact ih1 _ _ _ _ _ _ _ _)
   | (with_reducible exact ih2 _ _ _ _ _ _ _ _ _ _ _ _)
   | (with_reducible exact ih3 _ _ _ _ _ _ _ _ _ _ _ _ _ _)
   | (with_reducible exact epicyclelaw04_alive.mono _)
   | (with_reducible exact epicyclelaw04_great.mono _ _)
   | (with_reducible exact epicyclelaw04_rows.mono _ _)
   | (with_reducible exact epicycleref04_Check.mono _ _)
   | (with_reducible exact epicycleref04_Claimed.mono _ _ _)
   | (with_reducible exact proof_Claim.mono _ _ _)
   | (with_reducible exact LeO.refl _)
   | (with_reducible exact LeO.none _)
   | (with_reducible refine LeO.ite ?_ ?_)
   | (with_reducible refine LeO.bind ?_ (fun _ => ?_))
   | exact ih0 _ _ _ _ _ _ _
   | exact ih1 _ _ _ _ _ _ _ _
   | exact ih2 _ _ _ _ _ _ _ _ _ _ _ _
   | exact ih3 _ _ _ _ _ _ _ _ _ _ _ _ _ _
   | exact epicyclelaw04_alive.mono _
   | exact epicyclelaw04_great.mono _ _
   | exact epicyclelaw04_rows.mono _ _
   | exact epicycleref04_Check.mono _ _
   | exact epicycleref04_Claimed.mono _ _ _
   | exact proof_Claim.mono _ _ _
   | exact LeO.none _
   | refine LeO.ite ?_ ?_
   | refine LeO.bind ?_ (fun _ => ?_)
theorem epicyclelaw04_ProofClaims.mono : ∀ a0 a1 k, LeO (epicyclelaw04_ProofClaims.f k a0 a1) (epicyclelaw04_ProofClaims.f (k + 1) a0 a1) := by
 intro a0 a1 k
 obtain ⟨ih0, ih1, ih2, ih3⟩ := epicyclelaw04_ProofClaims.mono_l k
 unfold epicyclelaw04_ProofClaims.f
 repeat' first
   | (with_reducible exact ih0 _ _ _ _ _ _ _)
   | (with_reducible exact ih1 _ _ _ _ _ _ _ _)
   | (with_reducible exact ih2 _ _ _ _ _ _ _ _ _ _ _ _)
   | (with_reducible exact ih3 _ _ _ _ _ _ _ _ _ _ _ _ _ _)
   | (with_reducible exact epicyclelaw04_alive.mono _)
   | (with_reducible exact epicyclelaw04_great.mono _ _)
   | (with_reducible exact epicyclelaw04_rows.mono _ _)
   | (with_reducible exact epicycleref04_Check.mono _ _)
   | (with_reducible exact epicycleref04_Claimed.mono _ _ _)
   | (with_reducible exact proof_Claim.mono _ _ _)
   | (with_reducible exact LeO.refl _)
   | (with_reducible exact LeO.none _)
   | (with_reducible refine LeO.ite ?_ ?_)
   | (with_reducible refine LeO.bind ?_ (fun _ => ?_))
   | exact ih0 _ _ _ _ _ _ _
   | exact ih1 _ _ _ _ _ _ _ _
   | exact ih2 _ _ _ _ _ _ _ _ _ _ _ _
   | exact ih3 _ _ _ _ _ _ _ _ _ _ _ _ _ _
   | exact epicyclelaw04_alive.mono _
   | exact epicyclelaw04_great.mono _ _
   | exact epicyclelaw04_rows.mono _ _
   | exact epicycleref04_Check.mono _ _
   | exact epicycleref04_Claimed.mono _ _ _
   | exact proof_Claim.mono _ _ _
   | exact LeO.none _
   | refine LeO.ite ?_ ?_
   | refine LeO.bind ?_ (fun _ => ?_)
set_option maxHeartbeats 8000000 in
set_option maxRecDepth 100000 in
theorem epicyclelaw04_ProofClaims.calls (k : Nat) (A0 : Option Addr) (c0 : Nat) (l0 : List (S46)) (a1 : Int) (w : World) (hr0 : Kd.C k46 w A0 l0.length l0) (hc0 : l0.length ≤ c0) (h : epicyclelaw04_ProofClaims.f k l0 a1 = some true) :
  Calls Try.prog 13 #[.slice A0 l0.length c0, .int .u64 a1] w fun e w' => e = .returned (.bool true) ∧ Below w.heap.size w w' := by
 have hu54 := Try.underlying54
 have hu46 := Try.underlying46
 have hu59 := Try.underlying59
 have hu60 := Try.underlying60
 have HR0 := Aside0.mk hr0
 have HC0 := Aside0.mk hc0
 clear hr0 hc0
 have HB := Aside0.mk (Below.refl w.heap.size w)
 have H : ((epicyclelaw04_alive.f k).bind fun t243 => (if t243 = true then ((epicyclelaw04_great.f k l0).bind fun t244 => (if t244 = true then (some true) else ((epicyclelaw04_rows.f k l0).bind fun t245 => ((proof_Claim.f k t245 a1).bind fun bt248 => ((epicycleref04_Check.f k l0).bind fun bt255 => (if bt255.2 = 0 then ((epicycleref04_Claimed.f k l0 a1).bind fun t257 => (epicyclelaw04_ProofClaims.j0 k l0 a1 bt248.2.2.2 (!t257) bt248.1 bt248.2.1 bt248.2.2.1)) else (epicyclelaw04_ProofClaims.j0 k l0 a1 bt248.2.2.2 true bt248.1 bt248.2.1 bt248.2.2.1))))))) else (some false))) = some true := h
 clear h
 replace H := Option.bind_eq_some_iff.mp H
 obtain ⟨t243, A30, H⟩ := H
 replace H : (if t243 = true then ((epicyclelaw04_great.f k l0).bind fun t244 => (if t244 = true then (some true) else ((epicyclelaw04_rows.f k l0).bind fun t245 => ((proof_Claim.f k t245 a1).bind fun bt248 => ((epicycleref04_Check.f k l0).bind fun bt255 => (if bt255.2 = 0 then ((epicycleref04_Claimed.f k l0 a1).bind fun t257 => (epicyclelaw04_ProofClaims.j0 k l0 a1 bt248.2.2.2 (!t257) bt248.1 bt248.2.1 bt248.2.2.1)) else (epicyclelaw04_ProofClaims.j0 k l0 a1 bt248.2.2.2 true bt248.1 bt248.2.1 bt248.2.2.1))))))) else (some false)) = some true := H
 have A3 := Aside0.mk A30
 clear A30
 by_cases c4 : t243 = true
 ·subst c4
  have H1 : ((epicyclelaw04_great.f k l0).bind fun t244 => (if t244 = true then (some true) else ((epicyclelaw04_rows.f k l0).bind fun t245 => ((proof_Claim.f k t245 a1).bind fun bt248 => ((epicycleref04_Check.f k l0).bind fun bt255 => (if bt255.2 = 0 then ((epicycleref04_Claimed.f k l0 a1).bind fun t257 => (epicyclelaw04_ProofClaims.j0 k l0 a1 bt248.2.2.2 (!t257) bt248.1 bt248.2.1 bt248.2.2.1)) else (epicyclelaw04_ProofClaims.j0 k l0 a1 bt248.2.2.2 true bt248.1 bt248.2.1 bt248.2.2.1))))))) = some true := by rw [if_pos rfl] at H <;> exact H
  clear H
  have H := H1
  clear H1
  replace H := Option.bind_eq_some_iff.mp H
  obtain ⟨t244, A50, H⟩ := H
  replace H : (if t244 = true then (some true) else ((epicyclelaw04_rows.f k l0).bind fun t245 => ((proof_Claim.f k t245 a1).bind fun bt248 => ((epicycleref04_Check.f k l0).bind fun bt255 => (if bt255.2 = 0 then ((epicycleref04_Claimed.f k l0 a1).bind fun t257 => (epicyclelaw04_ProofClaims.j0 k l0 a1 bt248.2.2.2 (!t257) bt248.1 bt248.2.1 bt248.2.2.1)) else (epicyclelaw04_ProofClaims.j0 k l0 a1 bt248.2.2.2 true bt248.1 bt248.2.1 bt248.2.2.1)))))) = some true := H
  have A5 := Aside0.mk A50
  clear A50
  by_cases c6 : t244 = true
  ·subst c6
   have H1 : (some true) = some true := by rw [if_pos rfl] at H <;> exact H
   clear H
   have H := H1
   clear H1
   clear H
   go_enter Try.func13, Try.ntmps13
   go_wp2_with (first | (go_at_call 32; (with_reducible refine (epicyclelaw04_alive.calls k  true _ A3.out).mono ?_); rintro e w7 ⟨rfl, hb⟩; have n0_ := Aside0.mk (below_step (by repeat (first | (with_reducible first | exact HB.out | apply below_alloc | apply pw_below_drewN | apply below_drew1) | exact HB.out)) hb); clear HB; have HB := n0_; clear n0_; (try clear hb); (try clear hb2); (try clear hk); (try clear hi)) | (go_at_call 33; (with_reducible refine (epicyclelaw04_great.calls k _ _ l0 true _ ?side1 ?side2 A5.out).mono ?_); (case side1 => repeat (first | exact (Kd.C_below HR0.out HB.out) | (with_reducible refine Kd.C_alloc ?_ _) | (with_reducible refine Kd.C_drewN ?_ _) | (with_reducible refine Kd.C_drew ?_))); (case side2 => exact HC0.out); rintro e w8 ⟨rfl, hb⟩; have n0_ := Aside0.mk (below_step (by repeat (first | (with_reducible first | exact HB.out | apply below_alloc | apply pw_below_drewN | apply below_drew1) | exact HB.out)) hb); clear HB; have HB := n0_; clear n0_; (try clear hb); (try clear hb2); (try clear hk); (try clear hi)))
   repeat (go_quiet (first | (go_at_call 32; (with_reducible refine (epicyclelaw04_alive.calls k  true _ A3.out).mono ?_); rintro e w7 ⟨rfl, hb⟩; have n0_ := Aside0.mk (below_step (by repeat (first | (with_reducible first | exact HB.out | apply below_alloc | apply pw_below_drewN | apply below_drew1) | exact HB.out)) hb); clear HB; have HB := n0_; clear n0_; (try clear hb); (try clear hb2); (try clear hk); (try clear hi)) | (go_at_call 33; (with_reducible refine (epicyclelaw04_great.calls k _ _ l0 true _ ?side1 ?side2 A5.out).mono ?_); (case side1 => repeat (first | exact (Kd.C_below HR0.out HB.out) | (with_reducible refine Kd.C_alloc ?_ _) | (with_reducible refine Kd.C_drewN ?_ _) | (with_reducible refine Kd.C_drew ?_))); (case side2 => exact HC0.out); rintro e w8 ⟨rfl, hb⟩; have n0_ := Aside0.mk (below_step (by repeat (first | (with_reducible first | exact HB.out | apply below_alloc | apply pw_below_drewN | apply below_drew1) | exact HB.out)) hb); clear HB; have HB := n0_; clear n0_; (try clear hb); (try clear hb2); (try clear hk); (try clear hi))); try go_wp2_with (first | (go_at_call 32; (with_reducible refine (epicyclelaw04_alive.calls k  true _ A3.out).mono ?_); rintro e w7 ⟨rfl, hb⟩; have n0_ := Aside0.mk (below_step (by repeat (first | (with_reducible first | exact HB.out | apply below_alloc | apply pw_below_drewN | apply below_drew1) | exact HB.out)) hb); clear HB; have HB := n0_; clear n0_; (try clear hb); (try clear hb2); (try clear hk); (try clear hi)) | (go_at_call 33; (with_reducible refine (epicyclelaw04_great.calls k _ _ l0 true _ ?side1 ?side2 A5.out).mono ?_); (case side1 => repeat (first | exact (Kd.C_below HR0.out HB.out) | (with_reducible refine Kd.C_alloc ?_ _) | (with_reducible refine Kd.C_drewN ?_ _) | (with_reducible refine Kd.C_drew ?_))); (case side2 => exact HC0.out); rintro e w8 ⟨rfl, hb⟩; have n0_ := Aside0.mk (below_step (by repeat (first | (with_reducible first | exact HB.out | apply below_alloc | apply pw_below_drewN | apply below_drew1) | exact HB.out)) hb); clear HB; have HB := n0_; clear n0_; (try clear hb); (try clear hb2); (try clear hk); (try clear hi))))
   go_ret
   exact ⟨by first | rfl | (simp [errW_none, errW_some] <;> rfl) | (simp [*, errW_none, errW_some] <;> rfl), by repeat (first | (with_reducible first | exact HB.out | apply below_alloc | apply pw_below_drewN | apply below_drew1) | exact HB.out)⟩
  ·replace c6 := Bool.eq_false_iff.mpr c6
   subst c6
   have H1 : ((epicyclelaw04_rows.f k l0).bind fun t245 => ((proof_Claim.f k t245 a1).bind fun bt248 => ((epicycleref04_Check.f k l0).bind fun bt255 => (if bt255.2 = 0 then ((epicycleref04_Claimed.f k l0 a1).bind fun t257 => (epicyclelaw04_ProofClaims.j0 k l0 a1 bt248.2.2.2 (!t257) bt248.1 bt248.2.1 bt248.2.2.1)) else (epicyclelaw04_ProofClaims.j0 k l0 a1 bt248.2.2.2 true bt248.1 bt248.2.1 bt248.2.2.1))))) = some true := by rw [if_neg (show ¬ (false = true) by decide)] at H <;> exact H
   clear H
   have H := H1
   clear H1
   replace H := Option.bind_eq_some_iff.mp H
   obtain ⟨t245, A90, H⟩ := H
   replace H : ((proof_Claim.f k t245 a1).bind fun bt248 => ((epicycleref04_Check.f k l0).bind fun bt255 => (if bt255.2 = 0 then ((epicycleref04_Claimed.f k l0 a1).bind fun t257 => (epicyclelaw04_ProofClaims.j0 k l0 a1 bt248.2.2.2 (!t257) bt248.1 bt248.2.1 bt248.2.2.1)) else (epicyclelaw04_ProofClaims.j0 k l0 a1 bt248.2.2.2 true bt248.1 bt248.2.1 bt248.2.2.1)))) = some true := H
   have A9 := Aside0.mk A90
   clear A90
   replace H := Option.bind_eq_some_iff.mp H
   obtain ⟨⟨t248, t249, t250, t253⟩, A100, H⟩ := H
   replace H : ((epicycleref04_Check.f k l0).bind fun bt255 => (if bt255.2 = 0 then ((epicycleref04_Claimed.f k l0 a1).bind fun t257 => (epicyclelaw04_ProofClaims.j0 k l0 a1 t253 (!t257) t248 t249 t250)) else (epicyclelaw04_ProofClaims.j0 k l0 a1 t253 true t248 t249 t250))) = some true := H
   have A10 := Aside0.mk A100
   clear A100
   replace H := Option.bind_eq_some_iff.mp H
   obtain ⟨⟨t255, t256⟩, A110, H⟩ := H
   replace H : (if t256 = 0 then ((epicycleref04_Claimed.f k l0 a1).bind fun t257 => (epicyclelaw04_ProofClaims.j0 k l0 a1 t253 (!t257) t248 t249 t250)) else (epicyclelaw04_ProofClaims.j0 k l0 a1 t253 true t248 t249 t250)) = some true := H
   have A11 := Aside0.mk A110
   clear A110
   have HC12 := Aside0.mk H
   clear H
   go_enter Try.func13, Try.ntmps13
   go_upto_region 7 with (first | (go_at_call 32; (with_reducible refine (epicyclelaw04_alive.calls k  true _ A3.out).mono ?_); rintro e w13 ⟨rfl, hb⟩; have n0_ := Aside0.mk (below_step (by repeat (first | (with_reducible first | exact HB.out | apply below_alloc | apply pw_below_drewN | apply below_drew1) | exact HB.out)) hb); clear HB; have HB := n0_; clear n0_; (try clear hb); (try clear hb2); (try clear hk); (try clear hi)) | (go_at_call 33; (with_reducible refine (epicyclelaw04_great.calls k _ _ l0 false _ ?side1 ?side2 A5.out).mono ?_); (case side1 => repeat (first | exact (Kd.C_below HR0.out HB.out) | (with_reducible refine Kd.C_alloc ?_ _) | (with_reducible refine Kd.C_drewN ?_ _) | (with_reducible refine Kd.C_drew ?_))); (case side2 => exact HC0.out); rintro e w14 ⟨rfl, hb⟩; have n0_ := Aside0.mk (below_step (by repeat (first | (with_reducible first | exact HB.out | apply below_alloc | apply pw_below_drewN | apply below_drew1) | exact HB.out)) hb); clear HB; have HB := n0_; clear n0_; (try clear hb); (try clear hb2); (try clear hk); (try clear hi)) | (go_at_call 35; (with_reducible refine (epicyclelaw04_rows.calls k _ _ l0 t245 _ ?side1 ?side2 A9.out).mono ?_); (case side1 => repeat (first | exact (Kd.C_below HR0.out HB.out) | (with_reducible refine Kd.C_alloc ?_ _) | (with_reducible refine Kd.C_drewN ?_ _) | (with_reducible refine Kd.C_drew ?_))); (case side2 => exact HC0.out); rintro e w15 ⟨v246, rfl, ho0, hb⟩; have n0_ := Aside0.mk (Kd.S_lower ho0 (below_size (by repeat (first | (with_reducible first | exact HB.out | apply below_alloc | apply pw_below_drewN | apply below_drew1) | exact HB.out)))); have n1_ := Aside0.mk (below_step (by repeat (first | (with_reducible first | exact HB.out | apply below_alloc | apply pw_below_drewN | apply below_drew1) | exact HB.out)) hb); clear HB; have HO247 := n0_; have HB := n1_; clear n0_ n1_; (try clear hb); (try clear hb2); (try clear hk); (try clear hi); (try clear ho0); obtain ⟨Ao16, co16, eo16⟩ := Kd.S_slice HO247.out; subst eo16) | (go_at_call 38; (with_reducible refine (proof_Claim.calls k _ _ t245 a1 t248 t249 t250 t253 _ ?side1 ?side2 A10.out).mono ?_); (case side1 => repeat (first | exact (Kd.S_reads' HO247.out).2.2 | (with_reducible refine Kd.C_alloc ?_ _) | (with_reducible refine Kd.C_drewN ?_ _) | (with_reducible refine Kd.C_drew ?_))); (case side2 => exact (Kd.S_reads' HO247.out).2.1); rintro e w17 ⟨v251, rfl, ho0, hb⟩; have n0_ := Aside0.mk (Kd.S_elder' (by (with_reducible repeat (first | apply Kd.S_alloc | apply Kd.S_drewN | apply Kd.S_drew)); exact HO247.out) (Kd.R_base ho0) hb); have n1_ := Aside0.mk (Kd.R_lower ho0 (below_size (by repeat (first | (with_reducible first | exact HB.out | apply below_alloc | apply pw_below_drewN | apply below_drew1) | exact HB.out)))); have n2_ := Aside0.mk (below_step (by repeat (first | (with_reducible first | exact HB.out | apply below_alloc | apply pw_below_drewN | apply below_drew1) | exact HB.out)) hb); clear HO247; clear HB; have HO247 := n0_; have HO252 := n1_; have HB := n2_; clear n0_ n1_ n2_; (try clear hb); (try clear hb2); (try clear hk); (try clear hi); (try clear ho0)) | ((with_reducible refine gate_dst (N := 5) rfl ?_); (try (refine gate_guard (by rfl) ?_; dsimp only)); refine box_event ?hg (N := 5) ?hd (cs := #[.int .u64 0, .int .u64 0, .slice none 0 0]) (t := 54) ?hr ?_; (case hd => rfl); (case hg => rfl); (case hr => first | (go_simp; done) | (go_simp; rfl)); intro gb254 hg w18 hbox hb; have n0_ := Aside0.mk (Kd.S_below (Kd.S_elderB (by (with_reducible repeat (first | apply Kd.S_alloc | apply Kd.S_drewN | apply Kd.S_drew)); exact HO247.out) gb254 (Nat.le_of_eq hg.symm)) hb); have n1_ := Aside0.mk (Kd.R_below (by (with_reducible repeat (first | apply Kd.R_alloc | apply Kd.R_drewN | apply Kd.R_drew)); exact HO252.out) hb); have n2_ := Aside0.mk (below_step (by repeat (first | (with_reducible first | exact HB.out | apply below_alloc | apply pw_below_drewN | apply below_drew1) | exact HB.out)) hb); have n3_ := Aside0.mk (hbox); have n4_ := Aside0.mk ((by rw [hg]; exact (below_size (by repeat (first | (with_reducible first | exact HB.out | apply below_alloc | apply pw_below_drewN | apply below_drew1) | exact HB.out))) : w.heap.size ≤ gb254)); have n5_ := Aside0.mk ((by rw [hg]; exact (below_size (by repeat (first | (with_reducible first | exact HB.out | apply below_alloc | apply pw_below_drewN | apply below_drew1) | exact HB.out))) : w.heap.size ≤ gb254)); clear HO247; clear HO252; clear HB; have HO247 := n0_; have HO252 := n1_; have HB := n2_; have BK254 := n3_; have GW254 := n4_; have GE254 := n5_; clear n0_ n1_ n2_ n3_ n4_ n5_; clear hb hbox hg; have hcz19_0 : w18.cell? ⟨gb254, 0, none⟩ = some (.int .u64 0) := (blk_cell BK254.out 0).trans rfl; have hcz19_1 : w18.cell? ⟨gb254, 1, none⟩ = some (.int .u64 0) := (blk_cell BK254.out 1).trans rfl; have hcz19_2 : w18.cell? ⟨gb254, 2, none⟩ = some (.slice none 0 0) := (blk_cell BK254.out 2).trans rfl; have hfz19_0 := blk_frozen BK254.out 0; have hfz19_1 := blk_frozen BK254.out 1; have hfz19_2 := blk_frozen BK254.out 2; obtain ⟨Ao20, co20, eo20⟩ := Kd.R_slice HO252.out; subst eo20) | (go_at_call 36; (with_reducible refine (epicycleref04_Check.calls k _ _ l0 t255 t256 _ ?side1 ?side2 A11.out).mono ?_); (case side1 => exact Kd.C_below HR0.out (by repeat (first | (with_reducible first | exact HB.out | apply below_alloc | apply pw_below_drewN | apply below_drew1 | refine below_set ?_ GE254.out) | exact HB.out))); (case side2 => exact HC0.out); rintro e w21 ⟨rfl, hb⟩; have n0_ := Aside0.mk (Kd.S_below (by (with_reducible repeat (first | apply Kd.S_alloc | apply Kd.S_drewN | apply Kd.S_drew)); exact (Kd.S_mono (Kd.S_far (p := ⟨gb254, 2, none⟩) (Kd.S_far (p := ⟨gb254, 1, none⟩) (Kd.S_far (p := ⟨gb254, 0, none⟩) (Kd.S_mono HO247.out (fun k_ hk => (⟨hk, hk.2⟩ : _ ∧ k_ ≠ gb254))) (fun _ hk => hk.2) (.int .u64 t248)) (fun _ hk => hk.2) (.int .u64 t249)) (fun _ hk => hk.2) (.slice Ao20 t250.length co20)) (fun _ h_ => h_.1))) hb); have n1_ := Aside0.mk (Kd.R_below (by (with_reducible repeat (first | apply Kd.R_alloc | apply Kd.R_drewN | apply Kd.R_drew)); exact (Kd.R_mono (Kd.R_far (p := ⟨gb254, 2, none⟩) (Kd.R_far (p := ⟨gb254, 1, none⟩) (Kd.R_far (p := ⟨gb254, 0, none⟩) (Kd.R_types HO252.out BK254.out (by decide)) (fun _ hk => hk.2) (.int .u64 t248)) (fun _ hk => hk.2) (.int .u64 t249)) (fun _ hk => hk.2) (.slice Ao20 t250.length co20)) (fun _ h_ => h_.1))) hb); have n2_ := Aside0.mk (blk_below (g := gb254) (o := .cells #[.int .u64 t248, .int .u64 t249, .slice Ao20 t250.length co20] 54 (0, 0)) (by (with_reducible repeat (first | refine blk_drewN ?_ _ | refine blk_drew ?_ | refine blk_alloc ?_ _)); refine blk_put (cs := #[.int .u64 t248, .int .u64 t249, .slice none 0 0]) ?_ 2 _ rfl; (with_reducible repeat (first | refine blk_drewN ?_ _ | refine blk_drew ?_ | refine blk_alloc ?_ _)); refine blk_put (cs := #[.int .u64 t248, .int .u64 0, .slice none 0 0]) ?_ 1 _ rfl; (with_reducible repeat (first | refine blk_drewN ?_ _ | refine blk_drew ?_ | refine blk_alloc ?_ _)); refine blk_put (cs := #[.int .u64 0, .int .u64 0, .slice none 0 0]) ?_ 0 _ rfl; (with_reducible repeat (first | refine blk_drewN ?_ _ | refine blk_drew ?_ | refine blk_alloc ?_ _)); exact BK254.out) hb); have n3_ := Aside0.mk (below_step (by repeat (first | (with_reducible first | exact HB.out | apply below_alloc | apply pw_below_drewN | apply below_drew1 | refine below_set ?_ GE254.out) | exact HB.out)) hb); clear HO247; clear HO252; clear BK254; clear HB; have HO247 := n0_; have HO252 := n1_; have BK254 := n2_; have HB := n3_; clear n0_ n1_ n2_ n3_; (try clear hb); (try clear hb2); (try clear hk); (try clear hi)))
   repeat (go_quiet (first | (go_at_call 32; (with_reducible refine (epicyclelaw04_alive.calls k  true _ A3.out).mono ?_); rintro e w13 ⟨rfl, hb⟩; have n0_ := Aside0.mk (below_step (by repeat (first | (with_reducible first | exact HB.out | apply below_alloc | apply pw_below_drewN | apply below_drew1) | exact HB.out)) hb); clear HB; have HB := n0_; clear n0_; (try clear hb); (try clear hb2); (try clear hk); (try clear hi)) | (go_at_call 33; (with_reducible refine (epicyclelaw04_great.calls k _ _ l0 false _ ?side1 ?side2 A5.out).mono ?_); (case side1 => repeat (first | exact (Kd.C_below HR0.out HB.out) | (with_reducible refine Kd.C_alloc ?_ _) | (with_reducible refine Kd.C_drewN ?_ _) | (with_reducible refine Kd.C_drew ?_))); (case side2 => exact HC0.out); rintro e w14 ⟨rfl, hb⟩; have n0_ := Aside0.mk (below_step (by repeat (first | (with_reducible first | exact HB.out | apply below_alloc | apply pw_below_drewN | apply below_drew1) | exact HB.out)) hb); clear HB; have HB := n0_; clear n0_; (try clear hb); (try clear hb2); (try clear hk); (try clear hi)) | (go_at_call 35; (with_reducible refine (epicyclelaw04_rows.calls k _ _ l0 t245 _ ?side1 ?side2 A9.out).mono ?_); (case side1 => repeat (first | exact (Kd.C_below HR0.out HB.out) | (with_reducible refine Kd.C_alloc ?_ _) | (with_reducible refine Kd.C_drewN ?_ _) | (with_reducible refine Kd.C_drew ?_))); (case side2 => exact HC0.out); rintro e w15 ⟨v246, rfl, ho0, hb⟩; have n0_ := Aside0.mk (Kd.S_lower ho0 (below_size (by repeat (first | (with_reducible first | exact HB.out | apply below_alloc | apply pw_below_drewN | apply below_drew1) | exact HB.out)))); have n1_ := Aside0.mk (below_step (by repeat (first | (with_reducible first | exact HB.out | apply below_alloc | apply pw_below_drewN | apply below_drew1) | exact HB.out)) hb); clear HB; have HO247 := n0_; have HB := n1_; clear n0_ n1_; (try clear hb); (try clear hb2); (try clear hk); (try clear hi); (try clear ho0); obtain ⟨Ao16, co16, eo16⟩ := Kd.S_slice HO247.out; subst eo16) | (go_at_call 38; (with_reducible refine (proof_Claim.calls k _ _ t245 a1 t248 t249 t250 t253 _ ?side1 ?side2 A10.out).mono ?_); (case side1 => repeat (first | exact (Kd.S_reads' HO247.out).2.2 | (with_reducible refine Kd.C_alloc ?_ _) | (with_reducible refine Kd.C_drewN ?_ _) | (with_reducible refine Kd.C_drew ?_))); (case side2 => exact (Kd.S_reads' HO247.out).2.1); rintro e w17 ⟨v251, rfl, ho0, hb⟩; have n0_ := Aside0.mk (Kd.S_elder' (by (with_reducible repeat (first | apply Kd.S_alloc | apply Kd.S_drewN | apply Kd.S_drew)); exact HO247.out) (Kd.R_base ho0) hb); have n1_ := Aside0.mk (Kd.R_lower ho0 (below_size (by repeat (first | (with_reducible first | exact HB.out | apply below_alloc | apply pw_below_drewN | apply below_drew1) | exact HB.out)))); have n2_ := Aside0.mk (below_step (by repeat (first | (with_reducible first | exact HB.out | apply below_alloc | apply pw_below_drewN | apply below_drew1) | exact HB.out)) hb); clear HO247; clear HB; have HO247 := n0_; have HO252 := n1_; have HB := n2_; clear n0_ n1_ n2_; (try clear hb); (try clear hb2); (try clear hk); (try clear hi); (try clear ho0)) | ((with_reducible refine gate_dst (N := 5) rfl ?_); (try (refine gate_guard (by rfl) ?_; dsimp only)); refine box_event ?hg (N := 5) ?hd (cs := #[.int .u64 0, .int .u64 0, .slice none 0 0]) (t := 54) ?hr ?_; (case hd => rfl); (case hg => rfl); (case hr => first | (go_simp; done) | (go_simp; rfl)); intro gb254 hg w18 hbox hb; have n0_ := Aside0.mk (Kd.S_below (Kd.S_elderB (by (with_reducible repeat (first | apply Kd.S_alloc | apply Kd.S_drewN | apply Kd.S_drew)); exact HO247.out) gb254 (Nat.le_of_eq hg.symm)) hb); have n1_ := Aside0.mk (Kd.R_below (by (with_reducible repeat (first | apply Kd.R_alloc | apply Kd.R_drewN | apply Kd.R_drew)); exact HO252.out) hb); have n2_ := Aside0.mk (below_step (by repeat (first | (with_reducible first | exact HB.out | apply below_alloc | apply pw_below_drewN | apply below_drew1) | exact HB.out)) hb); have n3_ := Aside0.mk (hbox); have n4_ := Aside0.mk ((by rw [hg]; exact (below_size (by repeat (first | (with_reducible first | exact HB.out | apply below_alloc | apply pw_below_drewN | apply below_drew1) | exact HB.out))) : w.heap.size ≤ gb254)); have n5_ := Aside0.mk ((by rw [hg]; exact (below_size (by repeat (first | (with_reducible first | exact HB.out | apply below_alloc | apply pw_below_drewN | apply below_drew1) | exact HB.out))) : w.heap.size ≤ gb254)); clear HO247; clear HO252; clear HB; have HO247 := n0_; have HO252 := n1_; have HB := n2_; have BK254 := n3_; have GW254 := n4_; have GE254 := n5_; clear n0_ n1_ n2_ n3_ n4_ n5_; clear hb hbox hg; have hcz19_0 : w18.cell? ⟨gb254, 0, none⟩ = some (.int .u64 0) := (blk_cell BK254.out 0).trans rfl; have hcz19_1 : w18.cell? ⟨gb254, 1, none⟩ = some (.int .u64 0) := (blk_cell BK254.out 1).trans rfl; have hcz19_2 : w18.cell? ⟨gb254, 2, none⟩ = some (.slice none 0 0) := (blk_cell BK254.out 2).trans rfl; have hfz19_0 := blk_frozen BK254.out 0; have hfz19_1 := blk_frozen BK254.out 1; have hfz19_2 := blk_frozen BK254.out 2; obtain ⟨Ao20, co20, eo20⟩ := Kd.R_slice HO252.out; subst eo20) | (go_at_call 36; (with_reducible refine (epicycleref04_Check.calls k _ _ l0 t255 t256 _ ?side1 ?side2 A11.out).mono ?_); (case side1 => exact Kd.C_below HR0.out (by repeat (first | (with_reducible first | exact HB.out | apply below_alloc | apply pw_below_drewN | apply below_drew1 | refine below_set ?_ GE254.out) | exact HB.out))); (case side2 => exact HC0.out); rintro e w21 ⟨rfl, hb⟩; have n0_ := Aside0.mk (Kd.S_below (by (with_reducible repeat (first | apply Kd.S_alloc | apply Kd.S_drewN | apply Kd.S_drew)); exact (Kd.S_mono (Kd.S_far (p := ⟨gb254, 2, none⟩) (Kd.S_far (p := ⟨gb254, 1, none⟩) (Kd.S_far (p := ⟨gb254, 0, none⟩) (Kd.S_mono HO247.out (fun k_ hk => (⟨hk, hk.2⟩ : _ ∧ k_ ≠ gb254))) (fun _ hk => hk.2) (.int .u64 t248)) (fun _ hk => hk.2) (.int .u64 t249)) (fun _ hk => hk.2) (.slice Ao20 t250.length co20)) (fun _ h_ => h_.1))) hb); have n1_ := Aside0.mk (Kd.R_below (by (with_reducible repeat (first | apply Kd.R_alloc | apply Kd.R_drewN | apply Kd.R_drew)); exact (Kd.R_mono (Kd.R_far (p := ⟨gb254, 2, none⟩) (Kd.R_far (p := ⟨gb254, 1, none⟩) (Kd.R_far (p := ⟨gb254, 0, none⟩) (Kd.R_types HO252.out BK254.out (by decide)) (fun _ hk => hk.2) (.int .u64 t248)) (fun _ hk => hk.2) (.int .u64 t249)) (fun _ hk => hk.2) (.slice Ao20 t250.length co20)) (fun _ h_ => h_.1))) hb); have n2_ := Aside0.mk (blk_below (g := gb254) (o := .cells #[.int .u64 t248, .int .u64 t249, .slice Ao20 t250.length co20] 54 (0, 0)) (by (with_reducible repeat (first | refine blk_drewN ?_ _ | refine blk_drew ?_ | refine blk_alloc ?_ _)); refine blk_put (cs := #[.int .u64 t248, .int .u64 t249, .slice none 0 0]) ?_ 2 _ rfl; (with_reducible repeat (first | refine blk_drewN ?_ _ | refine blk_drew ?_ | refine blk_alloc ?_ _)); refine blk_put (cs := #[.int .u64 t248, .int .u64 0, .slice none 0 0]) ?_ 1 _ rfl; (with_reducible repeat (first | refine blk_drewN ?_ _ | refine blk_drew ?_ | refine blk_alloc ?_ _)); refine blk_put (cs := #[.int .u64 0, .int .u64 0, .slice none 0 0]) ?_ 0 _ rfl; (with_reducible repeat (first | refine blk_drewN ?_ _ | refine blk_drew ?_ | refine blk_alloc ?_ _)); exact BK254.out) hb); have n3_ := Aside0.mk (below_step (by repeat (first | (with_reducible first | exact HB.out | apply below_alloc | apply pw_below_drewN | apply below_drew1 | refine below_set ?_ GE254.out) | exact HB.out)) hb); clear HO247; clear HO252; clear BK254; clear HB; have HO247 := n0_; have HO252 := n1_; have BK254 := n2_; have HB := n3_; clear n0_ n1_ n2_ n3_; (try clear hb); (try clear hb2); (try clear hk); (try clear hi))); go_upto_region 7 with (first | (go_at_call 32; (with_reducible refine (epicyclelaw04_alive.calls k  true _ A3.out).mono ?_); rintro e w13 ⟨rfl, hb⟩; have n0_ := Aside0.mk (below_step (by repeat (first | (with_reducible first | exact HB.out | apply below_alloc | apply pw_below_drewN | apply below_drew1) | exact HB.out)) hb); clear HB; have HB := n0_; clear n0_; (try clear hb); (try clear hb2); (try clear hk); (try clear hi)) | (go_at_call 33; (with_reducible refine (epicyclelaw04_great.calls k _ _ l0 false _ ?side1 ?side2 A5.out).mono ?_); (case side1 => repeat (first | exact (Kd.C_below HR0.out HB.out) | (with_reducible refine Kd.C_alloc ?_ _) | (with_reducible refine Kd.C_drewN ?_ _) | (with_reducible refine Kd.C_drew ?_))); (case side2 => exact HC0.out); rintro e w14 ⟨rfl, hb⟩; have n0_ := Aside0.mk (below_step (by repeat (first | (with_reducible first | exact HB.out | apply below_alloc | apply pw_below_drewN | apply below_drew1) | exact HB.out)) hb); clear HB; have HB := n0_; clear n0_; (try clear hb); (try clear hb2); (try clear hk); (try clear hi)) | (go_at_call 35; (with_reducible refine (epicyclelaw04_rows.calls k _ _ l0 t245 _ ?side1 ?side2 A9.out).mono ?_); (case side1 => repeat (first | exact (Kd.C_below HR0.out HB.out) | (with_reducible refine Kd.C_alloc ?_ _) | (with_reducible refine Kd.C_drewN ?_ _) | (with_reducible refine Kd.C_drew ?_))); (case side2 => exact HC0.out); rintro e w15 ⟨v246, rfl, ho0, hb⟩; have n0_ := Aside0.mk (Kd.S_lower ho0 (below_size (by repeat (first | (with_reducible first | exact HB.out | apply below_alloc | apply pw_below_drewN | apply below_drew1) | exact HB.out)))); have n1_ := Aside0.mk (below_step (by repeat (first | (with_reducible first | exact HB.out | apply below_alloc | apply pw_below_drewN | apply below_drew1) | exact HB.out)) hb); clear HB; have HO247 := n0_; have HB := n1_; clear n0_ n1_; (try clear hb); (try clear hb2); (try clear hk); (try clear hi); (try clear ho0); obtain ⟨Ao16, co16, eo16⟩ := Kd.S_slice HO247.out; subst eo16) | (go_at_call 38; (with_reducible refine (proof_Claim.calls k _ _ t245 a1 t248 t249 t250 t253 _ ?side1 ?side2 A10.out).mono ?_); (case side1 => repeat (first | exact (Kd.S_reads' HO247.out).2.2 | (with_reducible refine Kd.C_alloc ?_ _) | (with_reducible refine Kd.C_drewN ?_ _) | (with_reducible refine Kd.C_drew ?_))); (case side2 => exact (Kd.S_reads' HO247.out).2.1); rintro e w17 ⟨v251, rfl, ho0, hb⟩; have n0_ := Aside0.mk (Kd.S_elder' (by (with_reducible repeat (first | apply Kd.S_alloc | apply Kd.S_drewN | apply Kd.S_drew)); exact HO247.out) (Kd.R_base ho0) hb); have n1_ := Aside0.mk (Kd.R_lower ho0 (below_size (by repeat (first | (with_reducible first | exact HB.out | apply below_alloc | apply pw_below_drewN | apply below_drew1) | exact HB.out)))); have n2_ := Aside0.mk (below_step (by repeat (first | (with_reducible first | exact HB.out | apply below_alloc | apply pw_below_drewN | apply below_drew1) | exact HB.out)) hb); clear HO247; clear HB; have HO247 := n0_; have HO252 := n1_; have HB := n2_; clear n0_ n1_ n2_; (try clear hb); (try clear hb2); (try clear hk); (try clear hi); (try clear ho0)) | ((with_reducible refine gate_dst (N := 5) rfl ?_); (try (refine gate_guard (by rfl) ?_; dsimp only)); refine box_event ?hg (N := 5) ?hd (cs := #[.int .u64 0, .int .u64 0, .slice none 0 0]) (t := 54) ?hr ?_; (case hd => rfl); (case hg => rfl); (case hr => first | (go_simp; done) | (go_simp; rfl)); intro gb254 hg w18 hbox hb; have n0_ := Aside0.mk (Kd.S_below (Kd.S_elderB (by (with_reducible repeat (first | apply Kd.S_alloc | apply Kd.S_drewN | apply Kd.S_drew)); exact HO247.out) gb254 (Nat.le_of_eq hg.symm)) hb); have n1_ := Aside0.mk (Kd.R_below (by (with_reducible repeat (first | apply Kd.R_alloc | apply Kd.R_drewN | apply Kd.R_drew)); exact HO252.out) hb); have n2_ := Aside0.mk (below_step (by repeat (first | (with_reducible first | exact HB.out | apply below_alloc | apply pw_below_drewN | apply below_drew1) | exact HB.out)) hb); have n3_ := Aside0.mk (hbox); have n4_ := Aside0.mk ((by rw [hg]; exact (below_size (by repeat (first | (with_reducible first | exact HB.out | apply below_alloc | apply pw_below_drewN | apply below_drew1) | exact HB.out))) : w.heap.size ≤ gb254)); have n5_ := Aside0.mk ((by rw [hg]; exact (below_size (by repeat (first | (with_reducible first | exact HB.out | apply below_alloc | apply pw_below_drewN | apply below_drew1) | exact HB.out))) : w.heap.size ≤ gb254)); clear HO247; clear HO252; clear HB; have HO247 := n0_; have HO252 := n1_; have HB := n2_; have BK254 := n3_; have GW254 := n4_; have GE254 := n5_; clear n0_ n1_ n2_ n3_ n4_ n5_; clear hb hbox hg; have hcz19_0 : w18.cell? ⟨gb254, 0, none⟩ = some (.int .u64 0) := (blk_cell BK254.out 0).trans rfl; have hcz19_1 : w18.cell? ⟨gb254, 1, none⟩ = some (.int .u64 0) := (blk_cell BK254.out 1).trans rfl; have hcz19_2 : w18.cell? ⟨gb254, 2, none⟩ = some (.slice none 0 0) := (blk_cell BK254.out 2).trans rfl; have hfz19_0 := blk_frozen BK254.out 0; have hfz19_1 := blk_frozen BK254.out 1; have hfz19_2 := blk_frozen BK254.out 2; obtain ⟨Ao20, co20, eo20⟩ := Kd.R_slice HO252.out; subst eo20) | (go_at_call 36; (with_reducible refine (epicycleref04_Check.calls k _ _ l0 t255 t256 _ ?side1 ?side2 A11.out).mono ?_); (case side1 => exact Kd.C_below HR0.out (by repeat (first | (with_reducible first | exact HB.out | apply below_alloc | apply pw_below_drewN | apply below_drew1 | refine below_set ?_ GE254.out) | exact HB.out))); (case side2 => exact HC0.out); rintro e w21 ⟨rfl, hb⟩; have n0_ := Aside0.mk (Kd.S_below (by (with_reducible repeat (first | apply Kd.S_alloc | apply Kd.S_drewN | apply Kd.S_drew)); exact (Kd.S_mono (Kd.S_far (p := ⟨gb254, 2, none⟩) (Kd.S_far (p := ⟨gb254, 1, none⟩) (Kd.S_far (p := ⟨gb254, 0, none⟩) (Kd.S_mono HO247.out (fun k_ hk => (⟨hk, hk.2⟩ : _ ∧ k_ ≠ gb254))) (fun _ hk => hk.2) (.int .u64 t248)) (fun _ hk => hk.2) (.int .u64 t249)) (fun _ hk => hk.2) (.slice Ao20 t250.length co20)) (fun _ h_ => h_.1))) hb); have n1_ := Aside0.mk (Kd.R_below (by (with_reducible repeat (first | apply Kd.R_alloc | apply Kd.R_drewN | apply Kd.R_drew)); exact (Kd.R_mono (Kd.R_far (p := ⟨gb254, 2, none⟩) (Kd.R_far (p := ⟨gb254, 1, none⟩) (Kd.R_far (p := ⟨gb254, 0, none⟩) (Kd.R_types HO252.out BK254.out (by decide)) (fun _ hk => hk.2) (.int .u64 t248)) (fun _ hk => hk.2) (.int .u64 t249)) (fun _ hk => hk.2) (.slice Ao20 t250.length co20)) (fun _ h_ => h_.1))) hb); have n2_ := Aside0.mk (blk_below (g := gb254) (o := .cells #[.int .u64 t248, .int .u64 t249, .slice Ao20 t250.length co20] 54 (0, 0)) (by (with_reducible repeat (first | refine blk_drewN ?_ _ | refine blk_drew ?_ | refine blk_alloc ?_ _)); refine blk_put (cs := #[.int .u64 t248, .int .u64 t249, .slice none 0 0]) ?_ 2 _ rfl; (with_reducible repeat (first | refine blk_drewN ?_ _ | refine blk_drew ?_ | refine blk_alloc ?_ _)); refine blk_put (cs := #[.int .u64 t248, .int .u64 0, .slice none 0 0]) ?_ 1 _ rfl; (with_reducible repeat (first | refine blk_drewN ?_ _ | refine blk_drew ?_ | refine blk_alloc ?_ _)); refine blk_put (cs := #[.int .u64 0, .int .u64 0, .slice none 0 0]) ?_ 0 _ rfl; (with_reducible repeat (first | refine blk_drewN ?_ _ | refine blk_drew ?_ | refine blk_alloc ?_ _)); exact BK254.out) hb); have n3_ := Aside0.mk (below_step (by repeat (first | (with_reducible first | exact HB.out | apply below_alloc | apply pw_below_drewN | apply below_drew1 | refine below_set ?_ GE254.out) | exact HB.out)) hb); clear HO247; clear HO252; clear BK254; clear HB; have HO247 := n0_; have HO252 := n1_; have BK254 := n2_; have HB := n3_; clear n0_ n1_ n2_ n3_; (try clear hb); (try clear hb2); (try clear hk); (try clear hi))))
   (try simp only [Act.put, List.setIfInBounds_toArray, List.set_cons_zero, List.set_cons_succ])
   go_cut [36] (fun v36 wc => ∃ (kq : Nat) (x36_11 : Bool), v36 = .bool x36_11 ∧ Aside0 (epicyclelaw04_ProofClaims.j0 kq l0 a1 t253 x36_11 t248 t249 t250 = some true) ∧ Aside0 (kq ≤ k) ∧ Aside0 (Kd.R k59 59 wc w.heap.size (fun _ => True) (.slice Ao20 t250.length co20) t250) ∧ Aside0 (wc.heap[gb254]? = some (.cells #[.int .u64 t248, .int .u64 t249, (.slice Ao20 t250.length co20)] 54 (0, 0))) ∧ Aside0 (Below w.heap.size w wc))
   case first =>
    have H := HC12.out
    clear HC12
    by_cases c22 : t256 = 0
    ·rw [if_pos c22] at H
     have c22b0 : (t256 == 0) = true := beq_iff_eq.mpr c22
     have c22b1 : (t256 != 0) = false := bne_eq_false_iff_eq.mpr c22
     clear c22
     (first | rw [c22b0] | (simp only [i64_w, i32_w]; rw [c22b0]) | skip)
     replace H := Option.bind_eq_some_iff.mp H
     obtain ⟨t257, A230, H⟩ := H
     replace H : (epicyclelaw04_ProofClaims.j0 k l0 a1 t253 (!t257) t248 t249 t250) = some true := H
     have A23 := Aside0.mk A230
     clear A230
     have H' := Aside0.mk H
     clear H
     go_wp2_with (first | (go_at_call 39; (with_reducible refine (epicycleref04_Claimed.calls k _ _ l0 a1 t257 _ ?side1 ?side2 A23.out).mono ?_); (case side1 => repeat (first | exact (Kd.C_below HR0.out HB.out) | (with_reducible refine Kd.C_alloc ?_ _) | (with_reducible refine Kd.C_drewN ?_ _) | (with_reducible refine Kd.C_drew ?_))); (case side2 => exact HC0.out); rintro e w24 ⟨rfl, hb⟩; have n0_ := Aside0.mk (Kd.S_below (by (with_reducible repeat (first | apply Kd.S_alloc | apply Kd.S_drewN | apply Kd.S_drew)); exact HO247.out) hb); have n1_ := Aside0.mk (Kd.R_below (by (with_reducible repeat (first | apply Kd.R_alloc | apply Kd.R_drewN | apply Kd.R_drew)); exact HO252.out) hb); have n2_ := Aside0.mk (blk_below (g := gb254) (o := .cells #[.int .u64 t248, .int .u64 t249, .slice Ao20 t250.length co20] 54 (0, 0)) (by (with_reducible repeat (first | refine blk_drewN ?_ _ | refine blk_drew ?_ | refine blk_alloc ?_ _)); exact BK254.out) hb); have n3_ := Aside0.mk (below_step (by repeat (first | (with_reducible first | exact HB.out | apply below_alloc | apply pw_below_drewN | apply below_drew1 | refine below_set ?_ GE254.out) | exact HB.out)) hb); clear HO247; clear HO252; clear BK254; clear HB; have HO247 := n0_; have HO252 := n1_; have BK254 := n2_; have HB := n3_; clear n0_ n1_ n2_ n3_; (try clear hb); (try clear hb2); (try clear hk); (try clear hi)))
     repeat (go_quiet (first | (go_at_call 39; (with_reducible refine (epicycleref04_Claimed.calls k _ _ l0 a1 t257 _ ?side1 ?side2 A23.out).mono ?_); (case side1 => repeat (first | exact (Kd.C_below HR0.out HB.out) | (with_reducible refine Kd.C_alloc ?_ _) | (with_reducible refine Kd.C_drewN ?_ _) | (with_reducible refine Kd.C_drew ?_))); (case side2 => exact HC0.out); rintro e w24 ⟨rfl, hb⟩; have n0_ := Aside0.mk (Kd.S_below (by (with_reducible repeat (first | apply Kd.S_alloc | apply Kd.S_drewN | apply Kd.S_drew)); exact HO247.out) hb); have n1_ := Aside0.mk (Kd.R_below (by (with_reducible repeat (first | apply Kd.R_alloc | apply Kd.R_drewN | apply Kd.R_drew)); exact HO252.out) hb); have n2_ := Aside0.mk (blk_below (g := gb254) (o := .cells #[.int .u64 t248, .int .u64 t249, .slice Ao20 t250.length co20] 54 (0, 0)) (by (with_reducible repeat (first | refine blk_drewN ?_ _ | refine blk_drew ?_ | refine blk_alloc ?_ _)); exact BK254.out) hb); have n3_ := Aside0.mk (below_step (by repeat (first | (with_reducible first | exact HB.out | apply below_alloc | apply pw_below_drewN | apply below_drew1 | refine below_set ?_ GE254.out) | exact HB.out)) hb); clear HO247; clear HO252; clear BK254; clear HB; have HO247 := n0_; have HO252 := n1_; have BK254 := n2_; have HB := n3_; clear n0_ n1_ n2_ n3_; (try clear hb); (try clear hb2); (try clear hk); (try clear hi))); try go_wp2_with (first | (go_at_call 39; (with_reducible refine (epicycleref04_Claimed.calls k _ _ l0 a1 t257 _ ?side1 ?side2 A23.out).mono ?_); (case side1 => repeat (first | exact (Kd.C_below HR0.out HB.out) | (with_reducible refine Kd.C_alloc ?_ _) | (with_reducible refine Kd.C_drewN ?_ _) | (with_reducible refine Kd.C_drew ?_))); (case side2 => exact HC0.out); rintro e w24 ⟨rfl, hb⟩; have n0_ := Aside0.mk (Kd.S_below (by (with_reducible repeat (first | apply Kd.S_alloc | apply Kd.S_drewN | apply Kd.S_drew)); exact HO247.out) hb); have n1_ := Aside0.mk (Kd.R_below (by (with_reducible repeat (first | apply Kd.R_alloc | apply Kd.R_drewN | apply Kd.R_drew)); exact HO252.out) hb); have n2_ := Aside0.mk (blk_below (g := gb254) (o := .cells #[.int .u64 t248, .int .u64 t249, .slice Ao20 t250.length co20] 54 (0, 0)) (by (with_reducible repeat (first | refine blk_drewN ?_ _ | refine blk_drew ?_ | refine blk_alloc ?_ _)); exact BK254.out) hb); have n3_ := Aside0.mk (below_step (by repeat (first | (with_reducible first | exact HB.out | apply below_alloc | apply pw_below_drewN | apply below_drew1 | refine below_set ?_ GE254.out) | exact HB.out)) hb); clear HO247; clear HO252; clear BK254; clear HB; have HO247 := n0_; have HO252 := n1_; have BK254 := n2_; have HB := n3_; clear n0_ n1_ n2_ n3_; (try clear hb); (try clear hb2); (try clear hk); (try clear hi))))
     go_meet
     case rel => exact ⟨_, (!t257), (by first | rfl | (simp; done) | (simp [*]; done)), H', ⟨by first | omega | exact Nat.le_refl _⟩, ⟨by (with_reducible repeat (first | apply Kd.R_alloc | apply Kd.R_drewN | apply Kd.R_drew)); exact HO252.out⟩, ⟨by (with_reducible repeat (first | refine blk_drewN ?_ _ | refine blk_drew ?_ | refine blk_alloc ?_ _)); exact BK254.out⟩, ⟨by repeat (first | (with_reducible first | exact HB.out | apply below_alloc | apply pw_below_drewN | apply below_drew1 | refine below_set ?_ GE254.out) | exact HB.out)⟩⟩
    ·rw [if_neg c22] at H
     have c22b0 : (t256 == 0) = false := beq_eq_false_iff_ne.mpr c22
     have c22b1 : (t256 != 0) = true := bne_iff_ne.mpr c22
     (first | rw [c22b0] | (simp only [i64_w, i32_w]; rw [c22b0]) | skip)
     have H' := Aside0.mk H
     clear H
     go_wp2
     repeat (go_quiet (fail); try go_wp2)
     go_meet
     case rel => exact ⟨_, (true), (by first | rfl | (simp; done) | (simp [*]; done)), H', ⟨by first | omega | exact Nat.le_refl _⟩, ⟨by (with_reducible repeat (first | apply Kd.R_alloc | apply Kd.R_drewN | apply Kd.R_drew)); exact HO252.out⟩, ⟨by (with_reducible repeat (first | refine blk_drewN ?_ _ | refine blk_drew ?_ | refine blk_alloc ?_ _)); exact BK254.out⟩, ⟨by repeat (first | (with_reducible first | exact HB.out | apply below_alloc | apply pw_below_drewN | apply below_drew1 | refine below_set ?_ GE254.out) | exact HB.out)⟩⟩
   case rest =>
    clear HC12
    try clear c1
    try clear c2
    try clear p2
    try clear c4
    try clear c6
    try clear c13
    try clear c22
    try clear c22b0
    try clear c22b1
    try clear hcz19_0
    try clear hcz19_1
    try clear hcz19_2
    try clear hfz19_0
    try clear hfz19_1
    try clear hfz19_2
    obtain ⟨kq, x36_11, rfl, HA, HJ11, HO_255002, BK254, HB⟩ := hcut
    cases kq with
    | zero => exact absurd HA.out (by simp [epicyclelaw04_ProofClaims.j0])
    | succ kj11 =>
     have H := HA.out
     clear HA
     simp only [epicyclelaw04_ProofClaims.j0] at H
     by_cases c25 : x36_11 = true
     ·subst c25
      have H1 : (if t253 = true then (some false) else (if t248 = 0 then (if t249 = 0 then (some ((t250.length : Int) == 0)) else (some false)) else (some false))) = some true := by rw [if_pos rfl] at H <;> exact H
      clear H
      have H := H1
      clear H1
      by_cases c26 : t253 = true
      ·subst c26
       have H1 : (some false) = some true := by rw [if_pos rfl] at H <;> exact H
       clear H
       have H := H1
       clear H1
       exact absurd H (by simp)
      ·replace c26 := Bool.eq_false_iff.mpr c26
       subst c26
       have H1 : (if t248 = 0 then (if t249 = 0 then (some ((t250.length : Int) == 0)) else (some false)) else (some false)) = some true := by rw [if_neg (show ¬ (false = true) by decide)] at H <;> exact H
       clear H
       have H := H1
       clear H1
       by_cases c27 : t248 = 0
       ·rw [if_pos c27] at H
        have c27b0 : (t248 == 0) = true := beq_iff_eq.mpr c27
        have c27b1 : (t248 != 0) = false := bne_eq_false_iff_eq.mpr c27
        clear c27
        by_cases c28 : t249 = 0
        ·rw [if_pos c28] at H
         have c28b0 : (t249 == 0) = true := beq_iff_eq.mpr c28
         have c28b1 : (t249 != 0) = false := bne_eq_false_iff_eq.mpr c28
         clear c28
         have hR_ := Option.some.inj H
         have hcz29_0 : wc.cell? ⟨gb254, 0, none⟩ = some (.int .u64 t248) := (blk_cell BK254.out 0).trans rfl
         have hcz29_1 : wc.cell? ⟨gb254, 1, none⟩ = some (.int .u64 t249) := (blk_cell BK254.out 1).trans rfl
         have hcz29_2 : wc.cell? ⟨gb254, 2, none⟩ = some (.slice Ao20 t250.length co20) := (blk_cell BK254.out 2).trans rfl
         have hfz29_0 := blk_frozen BK254.out 0
         have hfz29_1 := blk_frozen BK254.out 1
         have hfz29_2 := blk_frozen BK254.out 2
         go_wp2
         repeat (go_quiet (fail); try go_wp2)
         go_ret
         exact ⟨by first | rfl | (simp [errW_none, errW_some] <;> rfl) | (simp [*, errW_none, errW_some] <;> rfl), by repeat (first | (with_reducible first | exact HB.out | apply below_alloc | apply pw_below_drewN | apply below_drew1 | refine below_set ?_ GE254.out) | exact HB.out)⟩
        ·rw [if_neg c28] at H
         have c28b0 : (t249 == 0) = false := beq_eq_false_iff_ne.mpr c28
         have c28b1 : (t249 != 0) = true := bne_iff_ne.mpr c28
         exact absurd H (by simp)
       ·rw [if_neg c27] at H
        have c27b0 : (t248 == 0) = false := beq_eq_false_iff_ne.mpr c27
        have c27b1 : (t248 != 0) = true := bne_iff_ne.mpr c27
        exact absurd H (by simp)
     ·replace c25 := Bool.eq_false_iff.mpr c25
      subst c25
      have H1 : (epicyclelaw04_ProofClaims.l0 kj11 a1 t253 l0 (l0.length : Int) 0 t248 t249 t250) = some true := by rw [if_neg (show ¬ (false = true) by decide)] at H <;> exact H
      clear H
      have H := H1
      clear H1
      have H' := Aside0.mk H
      clear H
      go_wp2
      repeat (go_quiet (fail); try go_wp2)
      go_loopg [57] kj11 (fun kq v57 w' => ∃ (x57_2 : Int), v57 = .int .i64 x57_2 ∧ Aside0 (epicyclelaw04_ProofClaims.l0 kq a1 t253 l0 (l0.length : Int) x57_2 t248 t249 t250 = some true) ∧ Aside0 (kq ≤ kj11) ∧ Aside0 (Kd.R k59 59 w' w.heap.size (fun _ => True) (.slice Ao20 t250.length co20) t250) ∧ Aside0 (w'.heap[gb254]? = some (.cells #[.int .u64 t248, .int .u64 t249, (.slice Ao20 t250.length co20)] 54 (0, 0))) ∧ Aside0 (Below w.heap.size w w'))
      case atStart => exact ⟨(0), (by first | rfl | (simp; done) | (simp [*]; done)), H', ⟨Nat.le_refl _⟩, ⟨by (with_reducible repeat (first | apply Kd.R_alloc | apply Kd.R_drewN | apply Kd.R_drew)); exact HO_255002.out⟩, ⟨by (with_reducible repeat (first | refine blk_drewN ?_ _ | refine blk_drew ?_ | refine blk_alloc ?_ _)); exact BK254.out⟩, ⟨by repeat (first | (with_reducible first | exact HB.out | apply below_alloc | apply pw_below_drewN | apply below_drew1 | refine below_set ?_ GE254.out) | exact HB.out)⟩⟩
      case round =>
       clear H'
       try clear c1
       try clear c2
       try clear p2
       try clear c4
       try clear c6
       try clear c13
       try clear c22
       try clear c22b0
       try clear c22b1
       try clear c25
       try clear c26
       try clear c27
       try clear c27b0
       try clear c27b1
       try clear c28
       try clear c28b0
       try clear c28b1
       try clear hcz19_0
       try clear hcz19_1
       try clear hcz19_2
       try clear hcz29_0
       try clear hcz29_1
       try clear hcz29_2
       try clear hfz19_0
       try clear hfz19_1
       try clear hfz19_2
       try clear hfz29_0
       try clear hfz29_1
       try clear hfz29_2
       try clear p2
       obtain ⟨x57_2, rfl, HA, HK2, HO_255002, BK254, HB⟩ := hrel
       cases gk with
       | zero => exact absurd HA.out (by simp [epicyclelaw04_ProofClaims.l0])
       | succ k2 =>
        have H := HA.out
        clear HA
        simp only [epicyclelaw04_ProofClaims.l0] at H
        by_cases c30 : x57_2 < (l0.length : Int)
        ·rw [if_pos c30] at H
         have c30b0 : decide (x57_2 < (l0.length : Int)) = true := decide_eq_true c30
         clear c30
         by_cases c31 : 0 ≤ x57_2
         ·rw [if_pos c31] at H
          have c31b0 : decide (0 ≤ x57_2) = true := decide_eq_true c31
          clear c31
          by_cases c32 : x57_2 < (l0.length : Int)
          ·rw [if_pos c32] at H
           have c32b0 : decide (x57_2 < (l0.length : Int)) = true := decide_eq_true c32
           clear c32
           by_cases c33 : ((rd_T46 l0 x57_2).f0) = a1
           ·rw [if_pos c33] at H
            have c33b0 : (((rd_T46 l0 x57_2).f0) == a1) = true := beq_iff_eq.mpr c33
            have c33b1 : (((rd_T46 l0 x57_2).f0) != a1) = false := bne_eq_false_iff_eq.mpr c33
            clear c33
            have HC34 := Aside0.mk H
            clear H
            have p258 : 0 ≤ (x57_2 : Int) := of_decide_eq_true (by first | (with_reducible assumption) | assumption)
            have q258 : x57_2 < (l0.length : Int) := of_decide_eq_true (by first | (with_reducible assumption) | assumption)
            obtain ⟨ad258, A258_2, c258_2, e258, hx258_0, hx258_1, hx258_2, hl258_2, hi258_2⟩ := at_T46 HR0.out x57_2 p258 q258
            cases e258
            replace hx258_0 := (HB.out.cell (World.block_lt_of_cell? w _ hx258_0)).trans hx258_0
            replace hx258_1 := (HB.out.cell (World.block_lt_of_cell? w _ hx258_1)).trans hx258_1
            replace hx258_2 := (HB.out.cell (World.block_lt_of_cell? w _ hx258_2)).trans hx258_2
            have HR258_2 := Aside0.mk hi258_2
            have HC258_2 := Aside0.mk hl258_2
            clear hi258_2 hl258_2
            replace p258 := eq_true p258
            replace q258 := eq_true q258
            go_upto_region 13 with (first | ((with_reducible refine gate_dst (N := 10) rfl ?_); (try (refine gate_guard (by rfl) ?_; dsimp only)); refine box_event ?hg (N := 10) ?hd (cs := #[.int .u64 0, .int .u64 0, .slice none 0 0]) (t := 46) ?hr ?_; (case hd => rfl); (case hg => rfl); (case hr => first | (go_simp; done) | (go_simp; rfl)); intro gb259 hg w35 hbox hb; have n0_ := Aside0.mk (Kd.R_below (by (with_reducible repeat (first | apply Kd.R_alloc | apply Kd.R_drewN | apply Kd.R_drew)); exact HO_255002.out) hb); have n1_ := Aside0.mk (blk_below (g := gb254) (o := .cells #[.int .u64 t248, .int .u64 t249, .slice Ao20 t250.length co20] 54 (0, 0)) (by (with_reducible repeat (first | refine blk_drewN ?_ _ | refine blk_drew ?_ | refine blk_alloc ?_ _)); exact BK254.out) hb); have n2_ := Aside0.mk (below_step (by repeat (first | (with_reducible first | exact HB.out | apply below_alloc | apply pw_below_drewN | apply below_drew1 | refine below_set ?_ GE254.out) | exact HB.out)) hb); have n3_ := Aside0.mk (hbox); have n4_ := Aside0.mk ((by rw [hg]; exact (below_size (by repeat (first | (with_reducible first | exact HB.out | apply below_alloc | apply pw_below_drewN | apply below_drew1 | refine below_set ?_ GE254.out) | exact HB.out))) : w.heap.size ≤ gb259)); have n5_ := Aside0.mk ((by rw [hg]; exact (below_size (by repeat (first | (with_reducible first | exact HB.out | apply below_alloc | apply pw_below_drewN | apply below_drew1 | refine below_set ?_ GE254.out) | exact HB.out))) : w.heap.size ≤ gb259)); have n6_ := Aside0.mk ((by rw [hg]; exact Nat.ne_of_lt (blk_lt (g := gb254) (o := .cells #[.int .u64 t248, .int .u64 t249, .slice Ao20 t250.length co20] 54 (0, 0)) (by (with_reducible repeat (first | refine blk_drewN ?_ _ | refine blk_drew ?_ | refine blk_alloc ?_ _)); exact BK254.out)) : gb254 ≠ gb259)); have n7_ := Aside0.mk ((by rw [hg]; exact Nat.ne_of_gt (blk_lt (g := gb254) (o := .cells #[.int .u64 t248, .int .u64 t249, .slice Ao20 t250.length co20] 54 (0, 0)) (by (with_reducible repeat (first | refine blk_drewN ?_ _ | refine blk_drew ?_ | refine blk_alloc ?_ _)); exact BK254.out)) : gb259 ≠ gb254)); clear HO_255002; clear BK254; clear HB; have HO_255002 := n0_; have BK254 := n1_; have HB := n2_; have BK259 := n3_; have GW259 := n4_; have GE259 := n5_; have NB254_259 := n6_; have NB259_254 := n7_; clear n0_ n1_ n2_ n3_ n4_ n5_ n6_ n7_; clear hb hbox hg; have hnb36 := NB259_254.out; have hnc36 := NB254_259.out; have hcz37_0 : w35.cell? ⟨gb259, 0, none⟩ = some (.int .u64 0) := (blk_cell BK259.out 0).trans rfl; have hcz37_1 : w35.cell? ⟨gb259, 1, none⟩ = some (.int .u64 0) := (blk_cell BK259.out 1).trans rfl; have hcz37_2 : w35.cell? ⟨gb259, 2, none⟩ = some (.slice none 0 0) := (blk_cell BK259.out 2).trans rfl; have hfz37_0 := blk_frozen BK259.out 0; have hfz37_1 := blk_frozen BK259.out 1; have hfz37_2 := blk_frozen BK259.out 2))
            repeat (go_quiet (first | ((with_reducible refine gate_dst (N := 10) rfl ?_); (try (refine gate_guard (by rfl) ?_; dsimp only)); refine box_event ?hg (N := 10) ?hd (cs := #[.int .u64 0, .int .u64 0, .slice none 0 0]) (t := 46) ?hr ?_; (case hd => rfl); (case hg => rfl); (case hr => first | (go_simp; done) | (go_simp; rfl)); intro gb259 hg w35 hbox hb; have n0_ := Aside0.mk (Kd.R_below (by (with_reducible repeat (first | apply Kd.R_alloc | apply Kd.R_drewN | apply Kd.R_drew)); exact HO_255002.out) hb); have n1_ := Aside0.mk (blk_below (g := gb254) (o := .cells #[.int .u64 t248, .int .u64 t249, .slice Ao20 t250.length co20] 54 (0, 0)) (by (with_reducible repeat (first | refine blk_drewN ?_ _ | refine blk_drew ?_ | refine blk_alloc ?_ _)); exact BK254.out) hb); have n2_ := Aside0.mk (below_step (by repeat (first | (with_reducible first | exact HB.out | apply below_alloc | apply pw_below_drewN | apply below_drew1 | refine below_set ?_ GE254.out) | exact HB.out)) hb); have n3_ := Aside0.mk (hbox); have n4_ := Aside0.mk ((by rw [hg]; exact (below_size (by repeat (first | (with_reducible first | exact HB.out | apply below_alloc | apply pw_below_drewN | apply below_drew1 | refine below_set ?_ GE254.out) | exact HB.out))) : w.heap.size ≤ gb259)); have n5_ := Aside0.mk ((by rw [hg]; exact (below_size (by repeat (first | (with_reducible first | exact HB.out | apply below_alloc | apply pw_below_drewN | apply below_drew1 | refine below_set ?_ GE254.out) | exact HB.out))) : w.heap.size ≤ gb259)); have n6_ := Aside0.mk ((by rw [hg]; exact Nat.ne_of_lt (blk_lt (g := gb254) (o := .cells #[.int .u64 t248, .int .u64 t249, .slice Ao20 t250.length co20] 54 (0, 0)) (by (with_reducible repeat (first | refine blk_drewN ?_ _ | refine blk_drew ?_ | refine blk_alloc ?_ _)); exact BK254.out)) : gb254 ≠ gb259)); have n7_ := Aside0.mk ((by rw [hg]; exact Nat.ne_of_gt (blk_lt (g := gb254) (o := .cells #[.int .u64 t248, .int .u64 t249, .slice Ao20 t250.length co20] 54 (0, 0)) (by (with_reducible repeat (first | refine blk_drewN ?_ _ | refine blk_drew ?_ | refine blk_alloc ?_ _)); exact BK254.out)) : gb259 ≠ gb254)); clear HO_255002; clear BK254; clear HB; have HO_255002 := n0_; have BK254 := n1_; have HB := n2_; have BK259 := n3_; have GW259 := n4_; have GE259 := n5_; have NB254_259 := n6_; have NB259_254 := n7_; clear n0_ n1_ n2_ n3_ n4_ n5_ n6_ n7_; clear hb hbox hg; have hnb36 := NB259_254.out; have hnc36 := NB254_259.out; have hcz37_0 : w35.cell? ⟨gb259, 0, none⟩ = some (.int .u64 0) := (blk_cell BK259.out 0).trans rfl; have hcz37_1 : w35.cell? ⟨gb259, 1, none⟩ = some (.int .u64 0) := (blk_cell BK259.out 1).trans rfl; have hcz37_2 : w35.cell? ⟨gb259, 2, none⟩ = some (.slice none 0 0) := (blk_cell BK259.out 2).trans rfl; have hfz37_0 := blk_frozen BK259.out 0; have hfz37_1 := blk_frozen BK259.out 1; have hfz37_2 := blk_frozen BK259.out 2)); go_upto_region 13 with (first | ((with_reducible refine gate_dst (N := 10) rfl ?_); (try (refine gate_guard (by rfl) ?_; dsimp only)); refine box_event ?hg (N := 10) ?hd (cs := #[.int .u64 0, .int .u64 0, .slice none 0 0]) (t := 46) ?hr ?_; (case hd => rfl); (case hg => rfl); (case hr => first | (go_simp; done) | (go_simp; rfl)); intro gb259 hg w35 hbox hb; have n0_ := Aside0.mk (Kd.R_below (by (with_reducible repeat (first | apply Kd.R_alloc | apply Kd.R_drewN | apply Kd.R_drew)); exact HO_255002.out) hb); have n1_ := Aside0.mk (blk_below (g := gb254) (o := .cells #[.int .u64 t248, .int .u64 t249, .slice Ao20 t250.length co20] 54 (0, 0)) (by (with_reducible repeat (first | refine blk_drewN ?_ _ | refine blk_drew ?_ | refine blk_alloc ?_ _)); exact BK254.out) hb); have n2_ := Aside0.mk (below_step (by repeat (first | (with_reducible first | exact HB.out | apply below_alloc | apply pw_below_drewN | apply below_drew1 | refine below_set ?_ GE254.out) | exact HB.out)) hb); have n3_ := Aside0.mk (hbox); have n4_ := Aside0.mk ((by rw [hg]; exact (below_size (by repeat (first | (with_reducible first | exact HB.out | apply below_alloc | apply pw_below_drewN | apply below_drew1 | refine below_set ?_ GE254.out) | exact HB.out))) : w.heap.size ≤ gb259)); have n5_ := Aside0.mk ((by rw [hg]; exact (below_size (by repeat (first | (with_reducible first | exact HB.out | apply below_alloc | apply pw_below_drewN | apply below_drew1 | refine below_set ?_ GE254.out) | exact HB.out))) : w.heap.size ≤ gb259)); have n6_ := Aside0.mk ((by rw [hg]; exact Nat.ne_of_lt (blk_lt (g := gb254) (o := .cells #[.int .u64 t248, .int .u64 t249, .slice Ao20 t250.length co20] 54 (0, 0)) (by (with_reducible repeat (first | refine blk_drewN ?_ _ | refine blk_drew ?_ | refine blk_alloc ?_ _)); exact BK254.out)) : gb254 ≠ gb259)); have n7_ := Aside0.mk ((by rw [hg]; exact Nat.ne_of_gt (blk_lt (g := gb254) (o := .cells #[.int .u64 t248, .int .u64 t249, .slice Ao20 t250.length co20] 54 (0, 0)) (by (with_reducible repeat (first | refine blk_drewN ?_ _ | refine blk_drew ?_ | refine blk_alloc ?_ _)); exact BK254.out)) : gb259 ≠ gb254)); clear HO_255002; clear BK254; clear HB; have HO_255002 := n0_; have BK254 := n1_; have HB := n2_; have BK259 := n3_; have GW259 := n4_; have GE259 := n5_; have NB254_259 := n6_; have NB259_254 := n7_; clear n0_ n1_ n2_ n3_ n4_ n5_ n6_ n7_; clear hb hbox hg; have hnb36 := NB259_254.out; have hnc36 := NB254_259.out; have hcz37_0 : w35.cell? ⟨gb259, 0, none⟩ = some (.int .u64 0) := (blk_cell BK259.out 0).trans rfl; have hcz37_1 : w35.cell? ⟨gb259, 1, none⟩ = some (.int .u64 0) := (blk_cell BK259.out 1).trans rfl; have hcz37_2 : w35.cell? ⟨gb259, 2, none⟩ = some (.slice none 0 0) := (blk_cell BK259.out 2).trans rfl; have hfz37_0 := blk_frozen BK259.out 0; have hfz37_1 := blk_frozen BK259.out 1; have hfz37_2 := blk_frozen BK259.out 2)))
            (try simp only [Act.put, List.setIfInBounds_toArray, List.set_cons_zero, List.set_cons_succ])
            go_cut [84] (fun v84 wc => ∃ (kq : Nat) (x84_33 : Bool), v84 = .bool x84_33 ∧ Aside0 (epicyclelaw04_ProofClaims.j2 kq a1 t253 l0 (l0.length : Int) x57_2 x84_33 t248 t249 t250 ((rd_T46 l0 x57_2).f0) ((rd_T46 l0 x57_2).f1) ((rd_T46 l0 x57_2).f2) = some true) ∧ Aside0 (kq ≤ k2) ∧ Aside0 (Kd.R k59 59 wc w.heap.size (fun _ => True) (.slice Ao20 t250.length co20) t250) ∧ Aside0 (wc.heap[gb254]? = some (.cells #[.int .u64 t248, .int .u64 t249, (.slice Ao20 t250.length co20)] 54 (0, 0))) ∧ Aside0 (wc.heap[gb259]? = some (.cells #[.int .u64 ((rd_T46 l0 x57_2).f0), .int .u64 ((rd_T46 l0 x57_2).f1), (.slice A258_2 ((rd_T46 l0 x57_2).f2).length c258_2)] 46 (0, 0))) ∧ Aside0 (Below w.heap.size w wc))
            case first =>
             have H := HC34.out
             clear HC34
             by_cases c38 : t248 = a1
             ·rw [if_pos c38] at H
              have c38b0 : (t248 == a1) = true := beq_iff_eq.mpr c38
              have c38b1 : (t248 != a1) = false := bne_eq_false_iff_eq.mpr c38
              clear c38
              (first | rw [c38b0] | (simp only [i64_w, i32_w]; rw [c38b0]) | skip)
              by_cases c39 : t249 = ((rd_T46 l0 x57_2).f1)
              ·rw [if_pos c39] at H
               have c39b0 : (t249 == ((rd_T46 l0 x57_2).f1)) = true := beq_iff_eq.mpr c39
               have c39b1 : (t249 != ((rd_T46 l0 x57_2).f1)) = false := bne_eq_false_iff_eq.mpr c39
               clear c39
               have H' := Aside0.mk H
               clear H
               have hnb40 := NB254_259.out
               have hnc40 := NB259_254.out
               have hcz41_0 : w35.cell? ⟨gb254, 0, none⟩ = some (.int .u64 t248) := (blk_cell BK254.out 0).trans rfl
               have hcz41_1 : w35.cell? ⟨gb254, 1, none⟩ = some (.int .u64 t249) := (blk_cell BK254.out 1).trans rfl
               have hcz41_2 : w35.cell? ⟨gb254, 2, none⟩ = some (.slice Ao20 t250.length co20) := (blk_cell BK254.out 2).trans rfl
               have hfz41_0 := blk_frozen BK254.out 0
               have hfz41_1 := blk_frozen BK254.out 1
               have hfz41_2 := blk_frozen BK254.out 2
               have hcz42_0 : w35.cell? ⟨gb259, 0, none⟩ = some (.int .u64 0) := (blk_cell BK259.out 0).trans rfl
               have hcz42_1 : w35.cell? ⟨gb259, 1, none⟩ = some (.int .u64 0) := (blk_cell BK259.out 1).trans rfl
               have hcz42_2 : w35.cell? ⟨gb259, 2, none⟩ = some (.slice none 0 0) := (blk_cell BK259.out 2).trans rfl
               have hfz42_0 := blk_frozen BK259.out 0
               have hfz42_1 := blk_frozen BK259.out 1
               have hfz42_2 := blk_frozen BK259.out 2
               go_wp2
               repeat (go_quiet (fail); try go_wp2)
               go_meet
               case rel => exact ⟨_, (((t250.length : Int) != (((rd_T46 l0 x57_2).f2).length : Int))), (by first | rfl | (simp; done) | (simp [*]; done)), H', ⟨by have := HJ11.out; have := HK2.out; first | omega | exact Nat.le_refl _⟩, ⟨by (with_reducible repeat (first | apply Kd.R_alloc | apply Kd.R_drewN | apply Kd.R_drew)); exact Kd.R_mono (Kd.R_far (p := ⟨gb259, 2, none⟩) (Kd.R_far (p := ⟨gb259, 1, none⟩) (Kd.R_far (p := ⟨gb259, 0, none⟩) (Kd.R_types HO_255002.out BK259.out (by decide)) (fun _ hk => hk.2) (.int .u64 ((rd_T46 l0 x57_2).f0))) (fun _ hk => hk.2) (.int .u64 ((rd_T46 l0 x57_2).f1))) (fun _ hk => hk.2) (.slice A258_2 ((rd_T46 l0 x57_2).f2).length c258_2)) (fun _ hk => trivial)⟩, ⟨by (with_reducible repeat (first | refine blk_drewN ?_ _ | refine blk_drew ?_ | refine blk_alloc ?_ _)); refine blk_far ?_ NB254_259.out _; (with_reducible repeat (first | refine blk_drewN ?_ _ | refine blk_drew ?_ | refine blk_alloc ?_ _)); refine blk_far ?_ NB254_259.out _; (with_reducible repeat (first | refine blk_drewN ?_ _ | refine blk_drew ?_ | refine blk_alloc ?_ _)); refine blk_far ?_ NB254_259.out _; (with_reducible repeat (first | refine blk_drewN ?_ _ | refine blk_drew ?_ | refine blk_alloc ?_ _)); exact BK254.out⟩, ⟨by (with_reducible repeat (first | refine blk_drewN ?_ _ | refine blk_drew ?_ | refine blk_alloc ?_ _)); refine blk_put (cs := #[.int .u64 ((rd_T46 l0 x57_2).f0), .int .u64 ((rd_T46 l0 x57_2).f1), .slice none 0 0]) ?_ 2 _ rfl; (with_reducible repeat (first | refine blk_drewN ?_ _ | refine blk_drew ?_ | refine blk_alloc ?_ _)); refine blk_put (cs := #[.int .u64 ((rd_T46 l0 x57_2).f0), .int .u64 0, .slice none 0 0]) ?_ 1 _ rfl; (with_reducible repeat (first | refine blk_drewN ?_ _ | refine blk_drew ?_ | refine blk_alloc ?_ _)); refine blk_put (cs := #[.int .u64 0, .int .u64 0, .slice none 0 0]) ?_ 0 _ rfl; (with_reducible repeat (first | refine blk_drewN ?_ _ | refine blk_drew ?_ | refine blk_alloc ?_ _)); exact BK259.out⟩, ⟨by repeat (first | (with_reducible first | exact HB.out | apply below_alloc | apply pw_below_drewN | apply below_drew1 | refine below_set ?_ GE254.out | refine below_set ?_ GE259.out) | exact HB.out)⟩⟩
              ·rw [if_neg c39] at H
               have c39b0 : (t249 == ((rd_T46 l0 x57_2).f1)) = false := beq_eq_false_iff_ne.mpr c39
               have c39b1 : (t249 != ((rd_T46 l0 x57_2).f1)) = true := bne_iff_ne.mpr c39
               have H' := Aside0.mk H
               clear H
               have hnb43 := NB254_259.out
               have hnc43 := NB259_254.out
               have hcz44_0 : w35.cell? ⟨gb254, 0, none⟩ = some (.int .u64 t248) := (blk_cell BK254.out 0).trans rfl
               have hcz44_1 : w35.cell? ⟨gb254, 1, none⟩ = some (.int .u64 t249) := (blk_cell BK254.out 1).trans rfl
               have hcz44_2 : w35.cell? ⟨gb254, 2, none⟩ = some (.slice Ao20 t250.length co20) := (blk_cell BK254.out 2).trans rfl
               have hfz44_0 := blk_frozen BK254.out 0
               have hfz44_1 := blk_frozen BK254.out 1
               have hfz44_2 := blk_frozen BK254.out 2
               have hcz45_0 : w35.cell? ⟨gb259, 0, none⟩ = some (.int .u64 0) := (blk_cell BK259.out 0).trans rfl
               have hcz45_1 : w35.cell? ⟨gb259, 1, none⟩ = some (.int .u64 0) := (blk_cell BK259.out 1).trans rfl
               have hcz45_2 : w35.cell? ⟨gb259, 2, none⟩ = some (.slice none 0 0) := (blk_cell BK259.out 2).trans rfl
               have hfz45_0 := blk_frozen BK259.out 0
               have hfz45_1 := blk_frozen BK259.out 1
               have hfz45_2 := blk_frozen BK259.out 2
               go_wp2
               repeat (go_quiet (fail); try go_wp2)
               go_meet
               case rel => exact ⟨_, (true), (by first | rfl | (simp; done) | (simp [*]; done)), H', ⟨by have := HJ11.out; have := HK2.out; first | omega | exact Nat.le_refl _⟩, ⟨by (with_reducible repeat (first | apply Kd.R_alloc | apply Kd.R_drewN | apply Kd.R_drew)); exact Kd.R_mono (Kd.R_far (p := ⟨gb259, 2, none⟩) (Kd.R_far (p := ⟨gb259, 1, none⟩) (Kd.R_far (p := ⟨gb259, 0, none⟩) (Kd.R_types HO_255002.out BK259.out (by decide)) (fun _ hk => hk.2) (.int .u64 ((rd_T46 l0 x57_2).f0))) (fun _ hk => hk.2) (.int .u64 ((rd_T46 l0 x57_2).f1))) (fun _ hk => hk.2) (.slice A258_2 ((rd_T46 l0 x57_2).f2).length c258_2)) (fun _ hk => trivial)⟩, ⟨by (with_reducible repeat (first | refine blk_drewN ?_ _ | refine blk_drew ?_ | refine blk_alloc ?_ _)); refine blk_far ?_ NB254_259.out _; (with_reducible repeat (first | refine blk_drewN ?_ _ | refine blk_drew ?_ | refine blk_alloc ?_ _)); refine blk_far ?_ NB254_259.out _; (with_reducible repeat (first | refine blk_drewN ?_ _ | refine blk_drew ?_ | refine blk_alloc ?_ _)); refine blk_far ?_ NB254_259.out _; (with_reducible repeat (first | refine blk_drewN ?_ _ | refine blk_drew ?_ | refine blk_alloc ?_ _)); exact BK254.out⟩, ⟨by (with_reducible repeat (first | refine blk_drewN ?_ _ | refine blk_drew ?_ | refine blk_alloc ?_ _)); refine blk_put (cs := #[.int .u64 ((rd_T46 l0 x57_2).f0), .int .u64 ((rd_T46 l0 x57_2).f1), .slice none 0 0]) ?_ 2 _ rfl; (with_reducible repeat (first | refine blk_drewN ?_ _ | refine blk_drew ?_ | refine blk_alloc ?_ _)); refine blk_put (cs := #[.int .u64 ((rd_T46 l0 x57_2).f0), .int .u64 0, .slice none 0 0]) ?_ 1 _ rfl; (with_reducible repeat (first | refine blk_drewN ?_ _ | refine blk_drew ?_ | refine blk_alloc ?_ _)); refine blk_put (cs := #[.int .u64 0, .int .u64 0, .slice none 0 0]) ?_ 0 _ rfl; (with_reducible repeat (first | refine blk_drewN ?_ _ | refine blk_drew ?_ | refine blk_alloc ?_ _)); exact BK259.out⟩, ⟨by repeat (first | (with_reducible first | exact HB.out | apply below_alloc | apply pw_below_drewN | apply below_drew1 | refine below_set ?_ GE254.out | refine below_set ?_ GE259.out) | exact HB.out)⟩⟩
             ·rw [if_neg c38] at H
              have c38b0 : (t248 == a1) = false := beq_eq_false_iff_ne.mpr c38
              have c38b1 : (t248 != a1) = true := bne_iff_ne.mpr c38
              (first | rw [c38b0] | (simp only [i64_w, i32_w]; rw [c38b0]) | skip)
              have H' := Aside0.mk H
              clear H
              have hnb46 := NB254_259.out
              have hnc46 := NB259_254.out
              have hcz47_0 : w35.cell? ⟨gb254, 0, none⟩ = some (.int .u64 t248) := (blk_cell BK254.out 0).trans rfl
              have hcz47_1 : w35.cell? ⟨gb254, 1, none⟩ = some (.int .u64 t249) := (blk_cell BK254.out 1).trans rfl
              have hcz47_2 : w35.cell? ⟨gb254, 2, none⟩ = some (.slice Ao20 t250.length co20) := (blk_cell BK254.out 2).trans rfl
              have hfz47_0 := blk_frozen BK254.out 0
              have hfz47_1 := blk_frozen BK254.out 1
              have hfz47_2 := blk_frozen BK254.out 2
              go_wp2
              repeat (go_quiet (fail); try go_wp2)
              go_meet
              case rel => exact ⟨_, (true), (by first | rfl | (simp; done) | (simp [*]; done)), H', ⟨by have := HJ11.out; have := HK2.out; first | omega | exact Nat.le_refl _⟩, ⟨by (with_reducible repeat (first | apply Kd.R_alloc | apply Kd.R_drewN | apply Kd.R_drew)); exact Kd.R_mono (Kd.R_far (p := ⟨gb259, 2, none⟩) (Kd.R_far (p := ⟨gb259, 1, none⟩) (Kd.R_far (p := ⟨gb259, 0, none⟩) (Kd.R_types HO_255002.out BK259.out (by decide)) (fun _ hk => hk.2) (.int .u64 ((rd_T46 l0 x57_2).f0))) (fun _ hk => hk.2) (.int .u64 ((rd_T46 l0 x57_2).f1))) (fun _ hk => hk.2) (.slice A258_2 ((rd_T46 l0 x57_2).f2).length c258_2)) (fun _ hk => trivial)⟩, ⟨by (with_reducible repeat (first | refine blk_drewN ?_ _ | refine blk_drew ?_ | refine blk_alloc ?_ _)); refine blk_far ?_ NB254_259.out _; (with_reducible repeat (first | refine blk_drewN ?_ _ | refine blk_drew ?_ | refine blk_alloc ?_ _)); refine blk_far ?_ NB254_259.out _; (with_reducible repeat (first | refine blk_drewN ?_ _ | refine blk_drew ?_ | refine blk_alloc ?_ _)); refine blk_far ?_ NB254_259.out _; (with_reducible repeat (first | refine blk_drewN ?_ _ | refine blk_drew ?_ | refine blk_alloc ?_ _)); exact BK254.out⟩, ⟨by (with_reducible repeat (first | refine blk_drewN ?_ _ | refine blk_drew ?_ | refine blk_alloc ?_ _)); refine blk_put (cs := #[.int .u64 ((rd_T46 l0 x57_2).f0), .int .u64 ((rd_T46 l0 x57_2).f1), .slice none 0 0]) ?_ 2 _ rfl; (with_reducible repeat (first | refine blk_drewN ?_ _ | refine blk_drew ?_ | refine blk_alloc ?_ _)); refine blk_put (cs := #[.int .u64 ((rd_T46 l0 x57_2).f0), .int .u64 0, .slice none 0 0]) ?_ 1 _ rfl; (with_reducible repeat (first | refine blk_drewN ?_ _ | refine blk_drew ?_ | refine blk_alloc ?_ _)); refine blk_put (cs := #[.int .u64 0, .int .u64 0, .slice none 0 0]) ?_ 0 _ rfl; (with_reducible repeat (first | refine blk_drewN ?_ _ | refine blk_drew ?_ | refine blk_alloc ?_ _)); exact BK259.out⟩, ⟨by repeat (first | (with_reducible first | exact HB.out | apply below_alloc | apply pw_below_drewN | apply below_drew1 | refine below_set ?_ GE254.out | refine below_set ?_ GE259.out) | exact HB.out)⟩⟩
            case rest =>
             clear HC34
             try clear c1
             try clear c2
             try clear p2
             try clear q2
             try clear hx2
             try clear c3
             try clear c4
             try clear c6
             try clear c13
             try clear c22
             try clear c22b0
             try clear c22b1
             try clear c25
             try clear p25
             try clear q25
             try clear hx25
             try clear c26
             try clear c27
             try clear c27b0
             try clear c27b1
             try clear c28
             try clear c28b0
             try clear c28b1
             try clear c30
             try clear c30b0
             try clear c31
             try clear c31b0
             try clear c32
             try clear c32b0
             try clear c33
             try clear c33b0
             try clear c33b1
             try clear c36
             try clear c38
             try clear c38b0
             try clear c38b1
             try clear c39
             try clear c39b0
             try clear c39b1
             try clear c40
             try clear c43
             try clear c46
             try clear hcz19_0
             try clear hcz19_1
             try clear hcz19_2
             try clear hcz29_0
             try clear hcz29_1
             try clear hcz29_2
             try clear hcz37_0
             try clear hcz37_1
             try clear hcz37_2
             try clear hcz41_0
             try clear hcz41_1
             try clear hcz41_2
             try clear hcz42_0
             try clear hcz42_1
             try clear hcz42_2
             try clear hcz44_0
             try clear hcz44_1
             try clear hcz44_2
             try clear hcz45_0
             try clear hcz45_1
             try clear hcz45_2
             try clear hcz47_0
             try clear hcz47_1
             try clear hcz47_2
             try clear hfz19_0
             try clear hfz19_1
             try clear hfz19_2
             try clear hfz29_0
             try clear hfz29_1
             try clear hfz29_2
             try clear hfz37_0
             try clear hfz37_1
             try clear hfz37_2
             try clear hfz41_0
             try clear hfz41_1
             try clear hfz41_2
             try clear hfz42_0
             try clear hfz42_1
             try clear hfz42_2
             try clear hfz44_0
             try clear hfz44_1
             try clear hfz44_2
             try clear hfz45_0
             try clear hfz45_1
             try clear hfz45_2
             try clear hfz47_0
             try clear hfz47_1
             try clear hfz47_2
             try clear hx258_0
             try clear hx258_1
             try clear hx258_2
             try clear p2
             try clear p258
             try clear q258
             obtain ⟨kq, x84_33, rfl, HA, HJ33, HO_255002, BK254, BK259, HB⟩ := hcut
             cases kq with
             | zero => exact absurd HA.out (by simp [epicyclelaw04_ProofClaims.j2])
             | succ kj33 =>
              have H := HA.out
              clear HA
              simp only [epicyclelaw04_ProofClaims.j2] at H
              by_cases c48 : x84_33 = true
              ·subst c48
               have H1 : (some false) = some true := by rw [if_pos rfl] at H <;> exact H
               clear H
               have H := H1
               clear H1
               exact absurd H (by simp)
              ·replace c48 := Bool.eq_false_iff.mpr c48
               subst c48
               have H1 : (epicyclelaw04_ProofClaims.l1 kj33 a1 t253 l0 (l0.length : Int) x57_2 t250 (t250.length : Int) 0 t248 t249 t250 ((rd_T46 l0 x57_2).f0) ((rd_T46 l0 x57_2).f1) ((rd_T46 l0 x57_2).f2)) = some true := by rw [if_neg (show ¬ (false = true) by decide)] at H <;> exact H
               clear H
               have H := H1
               clear H1
               have H' := Aside0.mk H
               clear H
               have hnb49 := NB254_259.out
               have hnc49 := NB259_254.out
               have hcz50_0 : wc.cell? ⟨gb254, 0, none⟩ = some (.int .u64 t248) := (blk_cell BK254.out 0).trans rfl
               have hcz50_1 : wc.cell? ⟨gb254, 1, none⟩ = some (.int .u64 t249) := (blk_cell BK254.out 1).trans rfl
               have hcz50_2 : wc.cell? ⟨gb254, 2, none⟩ = some (.slice Ao20 t250.length co20) := (blk_cell BK254.out 2).trans rfl
               have hfz50_0 := blk_frozen BK254.out 0
               have hfz50_1 := blk_frozen BK254.out 1
               have hfz50_2 := blk_frozen BK254.out 2
               go_wp2
               repeat (go_quiet (fail); try go_wp2)
               go_loopg [88] kj33 (fun kq v88 w' => ∃ (x88_4 : Int), v88 = .int .i64 x88_4 ∧ Aside0 (epicyclelaw04_ProofClaims.l1 kq a1 t253 l0 (l0.length : Int) x57_2 t250 (t250.length : Int) x88_4 t248 t249 t250 ((rd_T46 l0 x57_2).f0) ((rd_T46 l0 x57_2).f1) ((rd_T46 l0 x57_2).f2) = some true) ∧ Aside0 (kq ≤ kj33) ∧ Aside0 (Kd.R k59 59 w' w.heap.size (fun _ => True) (.slice Ao20 t250.length co20) t250) ∧ Aside0 (Kd.R k59 59 w' w.heap.size (fun _ => True) (.slice Ao20 t250.length co20) t250) ∧ Aside0 (w'.heap[gb254]? = some (.cells #[.int .u64 t248, .int .u64 t249, (.slice Ao20 t250.length co20)] 54 (0, 0))) ∧ Aside0 (w'.heap[gb259]? = some (.cells #[.int .u64 ((rd_T46 l0 x57_2).f0), .int .u64 ((rd_T46 l0 x57_2).f1), (.slice A258_2 ((rd_T46 l0 x57_2).f2).length c258_2)] 46 (0, 0))) ∧ Aside0 (Below w.heap.size w w'))
               case atStart => exact ⟨(0), (by first | rfl | (simp; done) | (simp [*]; done)), H', ⟨Nat.le_refl _⟩, ⟨by (with_reducible repeat (first | apply Kd.R_alloc | apply Kd.R_drewN | apply Kd.R_drew)); exact HO_255002.out⟩, ⟨by (with_reducible repeat (first | apply Kd.R_alloc | apply Kd.R_drewN | apply Kd.R_drew)); exact HO_255002.out⟩, ⟨by (with_reducible repeat (first | refine blk_drewN ?_ _ | refine blk_drew ?_ | refine blk_alloc ?_ _)); exact BK254.out⟩, ⟨by (with_reducible repeat (first | refine blk_drewN ?_ _ | refine blk_drew ?_ | refine blk_alloc ?_ _)); exact BK259.out⟩, ⟨by repeat (first | (with_reducible first | exact HB.out | apply below_alloc | apply pw_below_drewN | apply below_drew1 | refine below_set ?_ GE254.out | refine below_set ?_ GE259.out) | exact HB.out)⟩⟩
               case round =>
                clear H'
                try clear c1
                try clear c2
                try clear p2
                try clear q2
                try clear hx2
                try clear c3
                try clear c4
                try clear c6
                try clear c13
                try clear c22
                try clear c22b0
                try clear c22b1
                try clear c25
                try clear p25
                try clear q25
                try clear hx25
                try clear c26
                try clear c27
                try clear c27b0
                try clear c27b1
                try clear c28
                try clear c28b0
                try clear c28b1
                try clear c30
                try clear c30b0
                try clear c31
                try clear c31b0
                try clear c32
                try clear c32b0
                try clear c33
                try clear c33b0
                try clear c33b1
                try clear c36
                try clear c38
                try clear c38b0
                try clear c38b1
                try clear c39
                try clear c39b0
                try clear c39b1
                try clear c40
                try clear c43
                try clear c46
                try clear c48
                try clear c49
                try clear hcz19_0
                try clear hcz19_1
                try clear hcz19_2
                try clear hcz29_0
                try clear hcz29_1
                try clear hcz29_2
                try clear hcz37_0
                try clear hcz37_1
                try clear hcz37_2
                try clear hcz41_0
                try clear hcz41_1
                try clear hcz41_2
                try clear hcz42_0
                try clear hcz42_1
                try clear hcz42_2
                try clear hcz44_0
                try clear hcz44_1
                try clear hcz44_2
                try clear hcz45_0
                try clear hcz45_1
                try clear hcz45_2
                try clear hcz47_0
                try clear hcz47_1
                try clear hcz47_2
                try clear hcz50_0
                try clear hcz50_1
                try clear hcz50_2
                try clear hfz19_0
                try clear hfz19_1
                try clear hfz19_2
                try clear hfz29_0
                try clear hfz29_1
                try clear hfz29_2
                try clear hfz37_0
                try clear hfz37_1
                try clear hfz37_2
                try clear hfz41_0
                try clear hfz41_1
                try clear hfz41_2
                try clear hfz42_0
                try clear hfz42_1
                try clear hfz42_2
                try clear hfz44_0
                try clear hfz44_1
                try clear hfz44_2
                try clear hfz45_0
                try clear hfz45_1
                try clear hfz45_2
                try clear hfz47_0
                try clear hfz47_1
                try clear hfz47_2
                try clear hfz50_0
                try clear hfz50_1
                try clear hfz50_2
                try clear hx258_0
                try clear hx258_1
                try clear hx258_2
                try clear p2
                try clear p25
                try clear p258
                try clear q2
                try clear q25
                try clear q258
                obtain ⟨x88_4, rfl, HA, HK4, HO_86, HO_255002, BK254, BK259, HB⟩ := hrel
                cases gk with
                | zero => exact absurd HA.out (by simp [epicyclelaw04_ProofClaims.l1])
                | succ k4 =>
                 have H := HA.out
                 clear HA
                 simp only [epicyclelaw04_ProofClaims.l1] at H
                 by_cases c51 : x88_4 < (t250.length : Int)
                 ·rw [if_pos c51] at H
                  have c51b0 : decide (x88_4 < (t250.length : Int)) = true := decide_eq_true c51
                  clear c51
                  by_cases c52 : 0 ≤ x88_4
                  ·rw [if_pos c52] at H
                   have c52b0 : decide (0 ≤ x88_4) = true := decide_eq_true c52
                   clear c52
                   by_cases c53 : x88_4 < (t250.length : Int)
                   ·rw [if_pos c53] at H
                    have c53b0 : decide (x88_4 < (t250.length : Int)) = true := decide_eq_true c53
                    clear c53
                    by_cases c54 : x88_4 < (((rd_T46 l0 x57_2).f2).length : Int)
                    ·rw [if_pos c54] at H
                     have c54b0 : decide (x88_4 < (((rd_T46 l0 x57_2).f2).length : Int)) = true := decide_eq_true c54
                     clear c54
                     by_cases c55 : (!(((rd_T59 t250 x88_4).f0) == ((rd_T60 ((rd_T46 l0 x57_2).f2) x88_4).f0)) || (!(((rd_T59 t250 x88_4).f1) == ((rd_T60 ((rd_T46 l0 x57_2).f2) x88_4).f1)))) = true
                     ·rw [if_pos c55] at H
                      have c55b0 : (!(((rd_T59 t250 x88_4).f0) == ((rd_T60 ((rd_T46 l0 x57_2).f2) x88_4).f0)) || (!(((rd_T59 t250 x88_4).f1) == ((rd_T60 ((rd_T46 l0 x57_2).f2) x88_4).f1)))) = true := c55
                      clear c55
                      exact absurd H (by simp)
                     ·rw [if_neg c55] at H
                      have c55b0 : (!(((rd_T59 t250 x88_4).f0) == ((rd_T60 ((rd_T46 l0 x57_2).f2) x88_4).f0)) || (!(((rd_T59 t250 x88_4).f1) == ((rd_T60 ((rd_T46 l0 x57_2).f2) x88_4).f1)))) = false := by simpa using c55
                      clear c55
                      have H' := Aside0.mk H
                      clear H
                      have p260 : 0 ≤ (x88_4 : Int) := of_decide_eq_true (by first | (with_reducible assumption) | assumption)
                      have q260 : x88_4 < (t250.length : Int) := of_decide_eq_true (by first | (with_reducible assumption) | assumption)
                      obtain ⟨ad260, e260, hx260_0, hx260_1⟩ := at_T59 (Kd.R_reads' HO_86.out).2.2 x88_4 p260 q260
                      cases e260
                      replace p260 := eq_true p260
                      replace q260 := eq_true q260
                      go_wp2_with (first | ((with_reducible refine gate_dst (N := 12) rfl ?_); (try (refine gate_guard (by rfl) ?_; dsimp only)); refine box_event ?hg (N := 12) ?hd (cs := #[.int .u64 0, .int .i64 0]) (t := 59) ?hr ?_; (case hd => rfl); (case hg => rfl); (case hr => first | (go_simp; done) | (go_simp; rfl)); intro gb261 hg w56 hbox hb; have n0_ := Aside0.mk (Kd.R_below (Kd.R_elderB (by (with_reducible repeat (first | apply Kd.R_alloc | apply Kd.R_drewN | apply Kd.R_drew)); exact HO_86.out) gb261 (Nat.le_of_eq hg.symm)) hb); have n1_ := Aside0.mk (Kd.R_below (Kd.R_elderB (by (with_reducible repeat (first | apply Kd.R_alloc | apply Kd.R_drewN | apply Kd.R_drew)); exact HO_255002.out) gb261 (Nat.le_of_eq hg.symm)) hb); have n2_ := Aside0.mk (blk_below (g := gb254) (o := .cells #[.int .u64 t248, .int .u64 t249, .slice (some ad260) t250.length co20] 54 (0, 0)) (by (with_reducible repeat (first | refine blk_drewN ?_ _ | refine blk_drew ?_ | refine blk_alloc ?_ _)); exact BK254.out) hb); have n3_ := Aside0.mk (blk_below (g := gb259) (o := .cells #[.int .u64 ((rd_T46 l0 x57_2).f0), .int .u64 ((rd_T46 l0 x57_2).f1), .slice A258_2 ((rd_T46 l0 x57_2).f2).length c258_2] 46 (0, 0)) (by (with_reducible repeat (first | refine blk_drewN ?_ _ | refine blk_drew ?_ | refine blk_alloc ?_ _)); exact BK259.out) hb); have n4_ := Aside0.mk (below_step (by repeat (first | (with_reducible first | exact HB.out | apply below_alloc | apply pw_below_drewN | apply below_drew1 | refine below_set ?_ GE254.out | refine below_set ?_ GE259.out) | exact HB.out)) hb); have n5_ := Aside0.mk (hbox); have n6_ := Aside0.mk ((by rw [hg]; exact (below_size (by repeat (first | (with_reducible first | exact HB.out | apply below_alloc | apply pw_below_drewN | apply below_drew1 | refine below_set ?_ GE254.out | refine below_set ?_ GE259.out) | exact HB.out))) : w.heap.size ≤ gb261)); have n7_ := Aside0.mk ((by rw [hg]; exact (below_size (by repeat (first | (with_reducible first | exact HB.out | apply below_alloc | apply pw_below_drewN | apply below_drew1 | refine below_set ?_ GE254.out | refine below_set ?_ GE259.out) | exact HB.out))) : w.heap.size ≤ gb261)); have n8_ := Aside0.mk ((by rw [hg]; exact Nat.ne_of_lt (blk_lt (g := gb254) (o := .cells #[.int .u64 t248, .int .u64 t249, .slice (some ad260) t250.length co20] 54 (0, 0)) (by (with_reducible repeat (first | refine blk_drewN ?_ _ | refine blk_drew ?_ | refine blk_alloc ?_ _)); exact BK254.out)) : gb254 ≠ gb261)); have n9_ := Aside0.mk ((by rw [hg]; exact Nat.ne_of_gt (blk_lt (g := gb254) (o := .cells #[.int .u64 t248, .int .u64 t249, .slice (some ad260) t250.length co20] 54 (0, 0)) (by (with_reducible repeat (first | refine blk_drewN ?_ _ | refine blk_drew ?_ | refine blk_alloc ?_ _)); exact BK254.out)) : gb261 ≠ gb254)); have n10_ := Aside0.mk ((by rw [hg]; exact Nat.ne_of_lt (blk_lt (g := gb259) (o := .cells #[.int .u64 ((rd_T46 l0 x57_2).f0), .int .u64 ((rd_T46 l0 x57_2).f1), .slice A258_2 ((rd_T46 l0 x57_2).f2).length c258_2] 46 (0, 0)) (by (with_reducible repeat (first | refine blk_drewN ?_ _ | refine blk_drew ?_ | refine blk_alloc ?_ _)); exact BK259.out)) : gb259 ≠ gb261)); have n11_ := Aside0.mk ((by rw [hg]; exact Nat.ne_of_gt (blk_lt (g := gb259) (o := .cells #[.int .u64 ((rd_T46 l0 x57_2).f0), .int .u64 ((rd_T46 l0 x57_2).f1), .slice A258_2 ((rd_T46 l0 x57_2).f2).length c258_2] 46 (0, 0)) (by (with_reducible repeat (first | refine blk_drewN ?_ _ | refine blk_drew ?_ | refine blk_alloc ?_ _)); exact BK259.out)) : gb261 ≠ gb259)); clear HO_86; clear HO_255002; clear BK254; clear BK259; clear HB; have HO_86 := n0_; have HO_255002 := n1_; have BK254 := n2_; have BK259 := n3_; have HB := n4_; have BK261 := n5_; have GW261 := n6_; have GE261 := n7_; have NB254_261 := n8_; have NB261_254 := n9_; have NB259_261 := n10_; have NB261_259 := n11_; clear n0_ n1_ n2_ n3_ n4_ n5_ n6_ n7_ n8_ n9_ n10_ n11_; clear hb hbox hg; have hnb57 := NB261_254.out; have hnc57 := NB254_261.out; have hnb58 := NB261_259.out; have hnc58 := NB259_261.out; have hcz59_0 : w56.cell? ⟨gb261, 0, none⟩ = some (.int .u64 0) := (blk_cell BK261.out 0).trans rfl; have hcz59_1 : w56.cell? ⟨gb261, 1, none⟩ = some (.int .i64 0) := (blk_cell BK261.out 1).trans rfl; have hfz59_0 := blk_frozen BK261.out 0; have hfz59_1 := blk_frozen BK261.out 1; have hnb60 := NB259_254.out; have hnc60 := NB254_259.out; have hcz61_0 : w56.cell? ⟨gb259, 0, none⟩ = some (.int .u64 ((rd_T46 l0 x57_2).f0)) := (blk_cell BK259.out 0).trans rfl; have hcz61_1 : w56.cell? ⟨gb259, 1, none⟩ = some (.int .u64 ((rd_T46 l0 x57_2).f1)) := (blk_cell BK259.out 1).trans rfl; have hcz61_2 : w56.cell? ⟨gb259, 2, none⟩ = some (.slice A258_2 ((rd_T46 l0 x57_2).f2).length c258_2) := (blk_cell BK259.out 2).trans rfl; have hfz61_0 := blk_frozen BK259.out 0; have hfz61_1 := blk_frozen BK259.out 1; have hfz61_2 := blk_frozen BK259.out 2; have p262 : 0 ≤ (x88_4 : Int) := of_decide_eq_true (by first | (with_reducible assumption) | assumption); have q262 : x88_4 < (((rd_T46 l0 x57_2).f2).length : Int) := of_decide_eq_true (by first | (with_reducible assumption) | assumption); obtain ⟨ad262, e262, hx262_0, hx262_1⟩ := at_T60 HR258_2.out x88_4 p262 q262; cases e262; have hn262_0 : ad262.block ≠ gb261 := Nat.ne_of_lt (Nat.lt_of_lt_of_le (by have := World.block_lt_of_cell? _ _ hx262_0; first | rwa [add_block] at this | exact this) GW261.out); have hn262_1 : ad262.block ≠ gb261 := Nat.ne_of_lt (Nat.lt_of_lt_of_le (by have := World.block_lt_of_cell? _ _ hx262_0; first | rwa [add_block] at this | exact this) GW261.out); replace hx262_0 := (HB.out.cell (World.block_lt_of_cell? w _ hx262_0)).trans hx262_0; replace hx262_1 := (HB.out.cell (World.block_lt_of_cell? w _ hx262_1)).trans hx262_1; replace hx262_0 := (cell_far (p := ⟨gb261, 0, none⟩) (by first | (rw [add_block]; exact hn262_0) | (show (Addr.add _ _).block ≠ _; rw [add_block]; exact hn262_0) | exact hn262_0) (.int .u64 ((rd_T59 t250 x88_4).f0))).trans hx262_0; replace hx262_1 := (cell_far (p := ⟨gb261, 0, none⟩) (by first | (rw [add_block]; exact hn262_0) | (show (Addr.add _ _).block ≠ _; rw [add_block]; exact hn262_0) | exact hn262_0) (.int .u64 ((rd_T59 t250 x88_4).f0))).trans hx262_1; replace hx262_0 := (cell_far (p := ⟨gb261, 1, none⟩) (by first | (rw [add_block]; exact hn262_1) | (show (Addr.add _ _).block ≠ _; rw [add_block]; exact hn262_1) | exact hn262_1) (.int .i64 ((rd_T59 t250 x88_4).f1))).trans hx262_0; replace hx262_1 := (cell_far (p := ⟨gb261, 1, none⟩) (by first | (rw [add_block]; exact hn262_1) | (show (Addr.add _ _).block ≠ _; rw [add_block]; exact hn262_1) | exact hn262_1) (.int .i64 ((rd_T59 t250 x88_4).f1))).trans hx262_1; (try have hy262_0 := fun (n_ : Nat) => (show ((((w56.drewN n_).setCell ⟨gb261, 0, none⟩ (.int .u64 ((rd_T59 t250 x88_4).f0))).setCell ⟨gb261, 1, none⟩ (.int .i64 ((rd_T59 t250 x88_4).f1)))).cell? _ = some _ from hx262_0)); (try have hy262_1 := fun (n_ : Nat) => (show ((((w56.drewN n_).setCell ⟨gb261, 0, none⟩ (.int .u64 ((rd_T59 t250 x88_4).f0))).setCell ⟨gb261, 1, none⟩ (.int .i64 ((rd_T59 t250 x88_4).f1)))).cell? _ = some _ from hx262_1)); clear hn262_0; clear hn262_1; replace p262 := eq_true p262; replace q262 := eq_true q262))
                      repeat (go_quiet (first | ((with_reducible refine gate_dst (N := 12) rfl ?_); (try (refine gate_guard (by rfl) ?_; dsimp only)); refine box_event ?hg (N := 12) ?hd (cs := #[.int .u64 0, .int .i64 0]) (t := 59) ?hr ?_; (case hd => rfl); (case hg => rfl); (case hr => first | (go_simp; done) | (go_simp; rfl)); intro gb261 hg w56 hbox hb; have n0_ := Aside0.mk (Kd.R_below (Kd.R_elderB (by (with_reducible repeat (first | apply Kd.R_alloc | apply Kd.R_drewN | apply Kd.R_drew)); exact HO_86.out) gb261 (Nat.le_of_eq hg.symm)) hb); have n1_ := Aside0.mk (Kd.R_below (Kd.R_elderB (by (with_reducible repeat (first | apply Kd.R_alloc | apply Kd.R_drewN | apply Kd.R_drew)); exact HO_255002.out) gb261 (Nat.le_of_eq hg.symm)) hb); have n2_ := Aside0.mk (blk_below (g := gb254) (o := .cells #[.int .u64 t248, .int .u64 t249, .slice (some ad260) t250.length co20] 54 (0, 0)) (by (with_reducible repeat (first | refine blk_drewN ?_ _ | refine blk_drew ?_ | refine blk_alloc ?_ _)); exact BK254.out) hb); have n3_ := Aside0.mk (blk_below (g := gb259) (o := .cells #[.int .u64 ((rd_T46 l0 x57_2).f0), .int .u64 ((rd_T46 l0 x57_2).f1), .slice A258_2 ((rd_T46 l0 x57_2).f2).length c258_2] 46 (0, 0)) (by (with_reducible repeat (first | refine blk_drewN ?_ _ | refine blk_drew ?_ | refine blk_alloc ?_ _)); exact BK259.out) hb); have n4_ := Aside0.mk (below_step (by repeat (first | (with_reducible first | exact HB.out | apply below_alloc | apply pw_below_drewN | apply below_drew1 | refine below_set ?_ GE254.out | refine below_set ?_ GE259.out) | exact HB.out)) hb); have n5_ := Aside0.mk (hbox); have n6_ := Aside0.mk ((by rw [hg]; exact (below_size (by repeat (first | (with_reducible first | exact HB.out | apply below_alloc | apply pw_below_drewN | apply below_drew1 | refine below_set ?_ GE254.out | refine below_set ?_ GE259.out) | exact HB.out))) : w.heap.size ≤ gb261)); have n7_ := Aside0.mk ((by rw [hg]; exact (below_size (by repeat (first | (with_reducible first | exact HB.out | apply below_alloc | apply pw_below_drewN | apply below_drew1 | refine below_set ?_ GE254.out | refine below_set ?_ GE259.out) | exact HB.out))) : w.heap.size ≤ gb261)); have n8_ := Aside0.mk ((by rw [hg]; exact Nat.ne_of_lt (blk_lt (g := gb254) (o := .cells #[.int .u64 t248, .int .u64 t249, .slice (some ad260) t250.length co20] 54 (0, 0)) (by (with_reducible repeat (first | refine blk_drewN ?_ _ | refine blk_drew ?_ | refine blk_alloc ?_ _)); exact BK254.out)) : gb254 ≠ gb261)); have n9_ := Aside0.mk ((by rw [hg]; exact Nat.ne_of_gt (blk_lt (g := gb254) (o := .cells #[.int .u64 t248, .int .u64 t249, .slice (some ad260) t250.length co20] 54 (0, 0)) (by (with_reducible repeat (first | refine blk_drewN ?_ _ | refine blk_drew ?_ | refine blk_alloc ?_ _)); exact BK254.out)) : gb261 ≠ gb254)); have n10_ := Aside0.mk ((by rw [hg]; exact Nat.ne_of_lt (blk_lt (g := gb259) (o := .cells #[.int .u64 ((rd_T46 l0 x57_2).f0), .int .u64 ((rd_T46 l0 x57_2).f1), .slice A258_2 ((rd_T46 l0 x57_2).f2).length c258_2] 46 (0, 0)) (by (with_reducible repeat (first | refine blk_drewN ?_ _ | refine blk_drew ?_ | refine blk_alloc ?_ _)); exact BK259.out)) : gb259 ≠ gb261)); have n11_ := Aside0.mk ((by rw [hg]; exact Nat.ne_of_gt (blk_lt (g := gb259) (o := .cells #[.int .u64 ((rd_T46 l0 x57_2).f0), .int .u64 ((rd_T46 l0 x57_2).f1), .slice A258_2 ((rd_T46 l0 x57_2).f2).length c258_2] 46 (0, 0)) (by (with_reducible repeat (first | refine blk_drewN ?_ _ | refine blk_drew ?_ | refine blk_alloc ?_ _)); exact BK259.out)) : gb261 ≠ gb259)); clear HO_86; clear HO_255002; clear BK254; clear BK259; clear HB; have HO_86 := n0_; have HO_255002 := n1_; have BK254 := n2_; have BK259 := n3_; have HB := n4_; have BK261 := n5_; have GW261 := n6_; have GE261 := n7_; have NB254_261 := n8_; have NB261_254 := n9_; have NB259_261 := n10_; have NB261_259 := n11_; clear n0_ n1_ n2_ n3_ n4_ n5_ n6_ n7_ n8_ n9_ n10_ n11_; clear hb hbox hg; have hnb57 := NB261_254.out; have hnc57 := NB254_261.out; have hnb58 := NB261_259.out; have hnc58 := NB259_261.out; have hcz59_0 : w56.cell? ⟨gb261, 0, none⟩ = some (.int .u64 0) := (blk_cell BK261.out 0).trans rfl; have hcz59_1 : w56.cell? ⟨gb261, 1, none⟩ = some (.int .i64 0) := (blk_cell BK261.out 1).trans rfl; have hfz59_0 := blk_frozen BK261.out 0; have hfz59_1 := blk_frozen BK261.out 1; have hnb60 := NB259_254.out; have hnc60 := NB254_259.out; have hcz61_0 : w56.cell? ⟨gb259, 0, none⟩ = some (.int .u64 ((rd_T46 l0 x57_2).f0)) := (blk_cell BK259.out 0).trans rfl; have hcz61_1 : w56.cell? ⟨gb259, 1, none⟩ = some (.int .u64 ((rd_T46 l0 x57_2).f1)) := (blk_cell BK259.out 1).trans rfl; have hcz61_2 : w56.cell? ⟨gb259, 2, none⟩ = some (.slice A258_2 ((rd_T46 l0 x57_2).f2).length c258_2) := (blk_cell BK259.out 2).trans rfl; have hfz61_0 := blk_frozen BK259.out 0; have hfz61_1 := blk_frozen BK259.out 1; have hfz61_2 := blk_frozen BK259.out 2; have p262 : 0 ≤ (x88_4 : Int) := of_decide_eq_true (by first | (with_reducible assumption) | assumption); have q262 : x88_4 < (((rd_T46 l0 x57_2).f2).length : Int) := of_decide_eq_true (by first | (with_reducible assumption) | assumption); obtain ⟨ad262, e262, hx262_0, hx262_1⟩ := at_T60 HR258_2.out x88_4 p262 q262; cases e262; have hn262_0 : ad262.block ≠ gb261 := Nat.ne_of_lt (Nat.lt_of_lt_of_le (by have := World.block_lt_of_cell? _ _ hx262_0; first | rwa [add_block] at this | exact this) GW261.out); have hn262_1 : ad262.block ≠ gb261 := Nat.ne_of_lt (Nat.lt_of_lt_of_le (by have := World.block_lt_of_cell? _ _ hx262_0; first | rwa [add_block] at this | exact this) GW261.out); replace hx262_0 := (HB.out.cell (World.block_lt_of_cell? w _ hx262_0)).trans hx262_0; replace hx262_1 := (HB.out.cell (World.block_lt_of_cell? w _ hx262_1)).trans hx262_1; replace hx262_0 := (cell_far (p := ⟨gb261, 0, none⟩) (by first | (rw [add_block]; exact hn262_0) | (show (Addr.add _ _).block ≠ _; rw [add_block]; exact hn262_0) | exact hn262_0) (.int .u64 ((rd_T59 t250 x88_4).f0))).trans hx262_0; replace hx262_1 := (cell_far (p := ⟨gb261, 0, none⟩) (by first | (rw [add_block]; exact hn262_0) | (show (Addr.add _ _).block ≠ _; rw [add_block]; exact hn262_0) | exact hn262_0) (.int .u64 ((rd_T59 t250 x88_4).f0))).trans hx262_1; replace hx262_0 := (cell_far (p := ⟨gb261, 1, none⟩) (by first | (rw [add_block]; exact hn262_1) | (show (Addr.add _ _).block ≠ _; rw [add_block]; exact hn262_1) | exact hn262_1) (.int .i64 ((rd_T59 t250 x88_4).f1))).trans hx262_0; replace hx262_1 := (cell_far (p := ⟨gb261, 1, none⟩) (by first | (rw [add_block]; exact hn262_1) | (show (Addr.add _ _).block ≠ _; rw [add_block]; exact hn262_1) | exact hn262_1) (.int .i64 ((rd_T59 t250 x88_4).f1))).trans hx262_1; (try have hy262_0 := fun (n_ : Nat) => (show ((((w56.drewN n_).setCell ⟨gb261, 0, none⟩ (.int .u64 ((rd_T59 t250 x88_4).f0))).setCell ⟨gb261, 1, none⟩ (.int .i64 ((rd_T59 t250 x88_4).f1)))).cell? _ = some _ from hx262_0)); (try have hy262_1 := fun (n_ : Nat) => (show ((((w56.drewN n_).setCell ⟨gb261, 0, none⟩ (.int .u64 ((rd_T59 t250 x88_4).f0))).setCell ⟨gb261, 1, none⟩ (.int .i64 ((rd_T59 t250 x88_4).f1)))).cell? _ = some _ from hx262_1)); clear hn262_0; clear hn262_1; replace p262 := eq_true p262; replace q262 := eq_true q262)); try go_wp2_with (first | ((with_reducible refine gate_dst (N := 12) rfl ?_); (try (refine gate_guard (by rfl) ?_; dsimp only)); refine box_event ?hg (N := 12) ?hd (cs := #[.int .u64 0, .int .i64 0]) (t := 59) ?hr ?_; (case hd => rfl); (case hg => rfl); (case hr => first | (go_simp; done) | (go_simp; rfl)); intro gb261 hg w56 hbox hb; have n0_ := Aside0.mk (Kd.R_below (Kd.R_elderB (by (with_reducible repeat (first | apply Kd.R_alloc | apply Kd.R_drewN | apply Kd.R_drew)); exact HO_86.out) gb261 (Nat.le_of_eq hg.symm)) hb); have n1_ := Aside0.mk (Kd.R_below (Kd.R_elderB (by (with_reducible repeat (first | apply Kd.R_alloc | apply Kd.R_drewN | apply Kd.R_drew)); exact HO_255002.out) gb261 (Nat.le_of_eq hg.symm)) hb); have n2_ := Aside0.mk (blk_below (g := gb254) (o := .cells #[.int .u64 t248, .int .u64 t249, .slice (some ad260) t250.length co20] 54 (0, 0)) (by (with_reducible repeat (first | refine blk_drewN ?_ _ | refine blk_drew ?_ | refine blk_alloc ?_ _)); exact BK254.out) hb); have n3_ := Aside0.mk (blk_below (g := gb259) (o := .cells #[.int .u64 ((rd_T46 l0 x57_2).f0), .int .u64 ((rd_T46 l0 x57_2).f1), .slice A258_2 ((rd_T46 l0 x57_2).f2).length c258_2] 46 (0, 0)) (by (with_reducible repeat (first | refine blk_drewN ?_ _ | refine blk_drew ?_ | refine blk_alloc ?_ _)); exact BK259.out) hb); have n4_ := Aside0.mk (below_step (by repeat (first | (with_reducible first | exact HB.out | apply below_alloc | apply pw_below_drewN | apply below_drew1 | refine below_set ?_ GE254.out | refine below_set ?_ GE259.out) | exact HB.out)) hb); have n5_ := Aside0.mk (hbox); have n6_ := Aside0.mk ((by rw [hg]; exact (below_size (by repeat (first | (with_reducible first | exact HB.out | apply below_alloc | apply pw_below_drewN | apply below_drew1 | refine below_set ?_ GE254.out | refine below_set ?_ GE259.out) | exact HB.out))) : w.heap.size ≤ gb261)); have n7_ := Aside0.mk ((by rw [hg]; exact (below_size (by repeat (first | (with_reducible first | exact HB.out | apply below_alloc | apply pw_below_drewN | apply below_drew1 | refine below_set ?_ GE254.out | refine below_set ?_ GE259.out) | exact HB.out))) : w.heap.size ≤ gb261)); have n8_ := Aside0.mk ((by rw [hg]; exact Nat.ne_of_lt (blk_lt (g := gb254) (o := .cells #[.int .u64 t248, .int .u64 t249, .slice (some ad260) t250.length co20] 54 (0, 0)) (by (with_reducible repeat (first | refine blk_drewN ?_ _ | refine blk_drew ?_ | refine blk_alloc ?_ _)); exact BK254.out)) : gb254 ≠ gb261)); have n9_ := Aside0.mk ((by rw [hg]; exact Nat.ne_of_gt (blk_lt (g := gb254) (o := .cells #[.int .u64 t248, .int .u64 t249, .slice (some ad260) t250.length co20] 54 (0, 0)) (by (with_reducible repeat (first | refine blk_drewN ?_ _ | refine blk_drew ?_ | refine blk_alloc ?_ _)); exact BK254.out)) : gb261 ≠ gb254)); have n10_ := Aside0.mk ((by rw [hg]; exact Nat.ne_of_lt (blk_lt (g := gb259) (o := .cells #[.int .u64 ((rd_T46 l0 x57_2).f0), .int .u64 ((rd_T46 l0 x57_2).f1), .slice A258_2 ((rd_T46 l0 x57_2).f2).length c258_2] 46 (0, 0)) (by (with_reducible repeat (first | refine blk_drewN ?_ _ | refine blk_drew ?_ | refine blk_alloc ?_ _)); exact BK259.out)) : gb259 ≠ gb261)); have n11_ := Aside0.mk ((by rw [hg]; exact Nat.ne_of_gt (blk_lt (g := gb259) (o := .cells #[.int .u64 ((rd_T46 l0 x57_2).f0), .int .u64 ((rd_T46 l0 x57_2).f1), .slice A258_2 ((rd_T46 l0 x57_2).f2).length c258_2] 46 (0, 0)) (by (with_reducible repeat (first | refine blk_drewN ?_ _ | refine blk_drew ?_ | refine blk_alloc ?_ _)); exact BK259.out)) : gb261 ≠ gb259)); clear HO_86; clear HO_255002; clear BK254; clear BK259; clear HB; have HO_86 := n0_; have HO_255002 := n1_; have BK254 := n2_; have BK259 := n3_; have HB := n4_; have BK261 := n5_; have GW261 := n6_; have GE261 := n7_; have NB254_261 := n8_; have NB261_254 := n9_; have NB259_261 := n10_; have NB261_259 := n11_; clear n0_ n1_ n2_ n3_ n4_ n5_ n6_ n7_ n8_ n9_ n10_ n11_; clear hb hbox hg; have hnb57 := NB261_254.out; have hnc57 := NB254_261.out; have hnb58 := NB261_259.out; have hnc58 := NB259_261.out; have hcz59_0 : w56.cell? ⟨gb261, 0, none⟩ = some (.int .u64 0) := (blk_cell BK261.out 0).trans rfl; have hcz59_1 : w56.cell? ⟨gb261, 1, none⟩ = some (.int .i64 0) := (blk_cell BK261.out 1).trans rfl; have hfz59_0 := blk_frozen BK261.out 0; have hfz59_1 := blk_frozen BK261.out 1; have hnb60 := NB259_254.out; have hnc60 := NB254_259.out; have hcz61_0 : w56.cell? ⟨gb259, 0, none⟩ = some (.int .u64 ((rd_T46 l0 x57_2).f0)) := (blk_cell BK259.out 0).trans rfl; have hcz61_1 : w56.cell? ⟨gb259, 1, none⟩ = some (.int .u64 ((rd_T46 l0 x57_2).f1)) := (blk_cell BK259.out 1).trans rfl; have hcz61_2 : w56.cell? ⟨gb259, 2, none⟩ = some (.slice A258_2 ((rd_T46 l0 x57_2).f2).length c258_2) := (blk_cell BK259.out 2).trans rfl; have hfz61_0 := blk_frozen BK259.out 0; have hfz61_1 := blk_frozen BK259.out 1; have hfz61_2 := blk_frozen BK259.out 2; have p262 : 0 ≤ (x88_4 : Int) := of_decide_eq_true (by first | (with_reducible assumption) | assumption); have q262 : x88_4 < (((rd_T46 l0 x57_2).f2).length : Int) := of_decide_eq_true (by first | (with_reducible assumption) | assumption); obtain ⟨ad262, e262, hx262_0, hx262_1⟩ := at_T60 HR258_2.out x88_4 p262 q262; cases e262; have hn262_0 : ad262.block ≠ gb261 := Nat.ne_of_lt (Nat.lt_of_lt_of_le (by have := World.block_lt_of_cell? _ _ hx262_0; first | rwa [add_block] at this | exact this) GW261.out); have hn262_1 : ad262.block ≠ gb261 := Nat.ne_of_lt (Nat.lt_of_lt_of_le (by have := World.block_lt_of_cell? _ _ hx262_0; first | rwa [add_block] at this | exact this) GW261.out); replace hx262_0 := (HB.out.cell (World.block_lt_of_cell? w _ hx262_0)).trans hx262_0; replace hx262_1 := (HB.out.cell (World.block_lt_of_cell? w _ hx262_1)).trans hx262_1; replace hx262_0 := (cell_far (p := ⟨gb261, 0, none⟩) (by first | (rw [add_block]; exact hn262_0) | (show (Addr.add _ _).block ≠ _; rw [add_block]; exact hn262_0) | exact hn262_0) (.int .u64 ((rd_T59 t250 x88_4).f0))).trans hx262_0; replace hx262_1 := (cell_far (p := ⟨gb261, 0, none⟩) (by first | (rw [add_block]; exact hn262_0) | (show (Addr.add _ _).block ≠ _; rw [add_block]; exact hn262_0) | exact hn262_0) (.int .u64 ((rd_T59 t250 x88_4).f0))).trans hx262_1; replace hx262_0 := (cell_far (p := ⟨gb261, 1, none⟩) (by first | (rw [add_block]; exact hn262_1) | (show (Addr.add _ _).block ≠ _; rw [add_block]; exact hn262_1) | exact hn262_1) (.int .i64 ((rd_T59 t250 x88_4).f1))).trans hx262_0; replace hx262_1 := (cell_far (p := ⟨gb261, 1, none⟩) (by first | (rw [add_block]; exact hn262_1) | (show (Addr.add _ _).block ≠ _; rw [add_block]; exact hn262_1) | exact hn262_1) (.int .i64 ((rd_T59 t250 x88_4).f1))).trans hx262_1; (try have hy262_0 := fun (n_ : Nat) => (show ((((w56.drewN n_).setCell ⟨gb261, 0, none⟩ (.int .u64 ((rd_T59 t250 x88_4).f0))).setCell ⟨gb261, 1, none⟩ (.int .i64 ((rd_T59 t250 x88_4).f1)))).cell? _ = some _ from hx262_0)); (try have hy262_1 := fun (n_ : Nat) => (show ((((w56.drewN n_).setCell ⟨gb261, 0, none⟩ (.int .u64 ((rd_T59 t250 x88_4).f0))).setCell ⟨gb261, 1, none⟩ (.int .i64 ((rd_T59 t250 x88_4).f1)))).cell? _ = some _ from hx262_1)); clear hn262_0; clear hn262_1; replace p262 := eq_true p262; replace q262 := eq_true q262)))
                      go_roundg k4
                      case measure => have := HJ11.out; have := HK2.out; have := HJ33.out; have := HK4.out; omega
                      case rel => exact ⟨(wrap64 (x88_4 + 1)), (by first | rfl | (simp; done) | (simp [*]; done)), H', ⟨by have := HJ11.out; have := HK2.out; have := HJ33.out; have := HK4.out; omega⟩, ⟨by (with_reducible repeat (first | apply Kd.R_alloc | apply Kd.R_drewN | apply Kd.R_drew)); exact Kd.R_mono (Kd.R_far (p := ⟨gb261, 1, none⟩) (Kd.R_far (p := ⟨gb261, 0, none⟩) (Kd.R_mono HO_86.out (fun k_ hk => (⟨hk, hk.2⟩ : _ ∧ k_ ≠ gb261))) (fun _ hk => hk.2) (.int .u64 ((rd_T59 t250 x88_4).f0))) (fun _ hk => hk.2) (.int .i64 ((rd_T59 t250 x88_4).f1))) (fun _ hk => trivial)⟩, ⟨by (with_reducible repeat (first | apply Kd.R_alloc | apply Kd.R_drewN | apply Kd.R_drew)); exact Kd.R_mono (Kd.R_far (p := ⟨gb261, 1, none⟩) (Kd.R_far (p := ⟨gb261, 0, none⟩) (Kd.R_mono HO_255002.out (fun k_ hk => (⟨hk, hk.2⟩ : _ ∧ k_ ≠ gb261))) (fun _ hk => hk.2) (.int .u64 ((rd_T59 t250 x88_4).f0))) (fun _ hk => hk.2) (.int .i64 ((rd_T59 t250 x88_4).f1))) (fun _ hk => trivial)⟩, ⟨by (with_reducible repeat (first | refine blk_drewN ?_ _ | refine blk_drew ?_ | refine blk_alloc ?_ _)); refine blk_far ?_ NB254_261.out _; (with_reducible repeat (first | refine blk_drewN ?_ _ | refine blk_drew ?_ | refine blk_alloc ?_ _)); refine blk_far ?_ NB254_261.out _; (with_reducible repeat (first | refine blk_drewN ?_ _ | refine blk_drew ?_ | refine blk_alloc ?_ _)); exact BK254.out⟩, ⟨by (with_reducible repeat (first | refine blk_drewN ?_ _ | refine blk_drew ?_ | refine blk_alloc ?_ _)); refine blk_far ?_ NB259_261.out _; (with_reducible repeat (first | refine blk_drewN ?_ _ | refine blk_drew ?_ | refine blk_alloc ?_ _)); refine blk_far ?_ NB259_261.out _; (with_reducible repeat (first | refine blk_drewN ?_ _ | refine blk_drew ?_ | refine blk_alloc ?_ _)); exact BK259.out⟩, ⟨by repeat (first | (with_reducible first | exact HB.out | apply below_alloc | apply pw_below_drewN | apply below_drew1 | refine below_set ?_ GE254.out | refine below_set ?_ GE259.out | refine below_set ?_ GE261.out) | exact HB.out)⟩⟩
                    ·rw [if_neg c54] at H
                     exact absurd H (by simp)
                   ·rw [if_neg c53] at H
                    exact absurd H (by simp)
                  ·rw [if_neg c52] at H
                   exact absurd H (by simp)
                 ·rw [if_neg c51] at H
                  have c51b0 : decide (x88_4 < (t250.length : Int)) = false := decide_eq_false c51
                  clear c51
                  have H' := Aside0.mk H
                  clear H
                  go_wp2
                  repeat (go_quiet (fail); try go_wp2)
                  go_roundg k4
                  case measure => have := HJ11.out; have := HK2.out; have := HJ33.out; have := HK4.out; omega
                  case rel => exact ⟨(wrap64 (x57_2 + 1)), (by first | rfl | (simp; done) | (simp [*]; done)), H', ⟨by have := HJ11.out; have := HK2.out; have := HJ33.out; have := HK4.out; omega⟩, ⟨by (with_reducible repeat (first | apply Kd.R_alloc | apply Kd.R_drewN | apply Kd.R_drew)); exact HO_255002.out⟩, ⟨by (with_reducible repeat (first | refine blk_drewN ?_ _ | refine blk_drew ?_ | refine blk_alloc ?_ _)); exact BK254.out⟩, ⟨by repeat (first | (with_reducible first | exact HB.out | apply below_alloc | apply pw_below_drewN | apply below_drew1 | refine below_set ?_ GE254.out | refine below_set ?_ GE259.out) | exact HB.out)⟩⟩
           ·rw [if_neg c33] at H
            have c33b0 : (((rd_T46 l0 x57_2).f0) == a1) = false := beq_eq_false_iff_ne.mpr c33
            have c33b1 : (((rd_T46 l0 x57_2).f0) != a1) = true := bne_iff_ne.mpr c33
            have H' := Aside0.mk H
            clear H
            have p258 : 0 ≤ (x57_2 : Int) := of_decide_eq_true (by first | (with_reducible assumption) | assumption)
            have q258 : x57_2 < (l0.length : Int) := of_decide_eq_true (by first | (with_reducible assumption) | assumption)
            obtain ⟨ad258, A258_2, c258_2, e258, hx258_0, hx258_1, hx258_2, hl258_2, hi258_2⟩ := at_T46 HR0.out x57_2 p258 q258
            cases e258
            replace hx258_0 := (HB.out.cell (World.block_lt_of_cell? w _ hx258_0)).trans hx258_0
            replace hx258_1 := (HB.out.cell (World.block_lt_of_cell? w _ hx258_1)).trans hx258_1
            replace hx258_2 := (HB.out.cell (World.block_lt_of_cell? w _ hx258_2)).trans hx258_2
            have HR258_2 := Aside0.mk hi258_2
            have HC258_2 := Aside0.mk hl258_2
            clear hi258_2 hl258_2
            replace p258 := eq_true p258
            replace q258 := eq_true q258
            go_wp2_with (first | ((with_reducible refine gate_dst (N := 10) rfl ?_); (try (refine gate_guard (by rfl) ?_; dsimp only)); refine box_event ?hg (N := 10) ?hd (cs := #[.int .u64 0, .int .u64 0, .slice none 0 0]) (t := 46) ?hr ?_; (case hd => rfl); (case hg => rfl); (case hr => first | (go_simp; done) | (go_simp; rfl)); intro gb259 hg w62 hbox hb; have n0_ := Aside0.mk (Kd.R_below (by (with_reducible repeat (first | apply Kd.R_alloc | apply Kd.R_drewN | apply Kd.R_drew)); exact HO_255002.out) hb); have n1_ := Aside0.mk (blk_below (g := gb254) (o := .cells #[.int .u64 t248, .int .u64 t249, .slice Ao20 t250.length co20] 54 (0, 0)) (by (with_reducible repeat (first | refine blk_drewN ?_ _ | refine blk_drew ?_ | refine blk_alloc ?_ _)); exact BK254.out) hb); have n2_ := Aside0.mk (below_step (by repeat (first | (with_reducible first | exact HB.out | apply below_alloc | apply pw_below_drewN | apply below_drew1 | refine below_set ?_ GE254.out) | exact HB.out)) hb); have n3_ := Aside0.mk (hbox); have n4_ := Aside0.mk ((by rw [hg]; exact (below_size (by repeat (first | (with_reducible first | exact HB.out | apply below_alloc | apply pw_below_drewN | apply below_drew1 | refine below_set ?_ GE254.out) | exact HB.out))) : w.heap.size ≤ gb259)); have n5_ := Aside0.mk ((by rw [hg]; exact (below_size (by repeat (first | (with_reducible first | exact HB.out | apply below_alloc | apply pw_below_drewN | apply below_drew1 | refine below_set ?_ GE254.out) | exact HB.out))) : w.heap.size ≤ gb259)); have n6_ := Aside0.mk ((by rw [hg]; exact Nat.ne_of_lt (blk_lt (g := gb254) (o := .cells #[.int .u64 t248, .int .u64 t249, .slice Ao20 t250.length co20] 54 (0, 0)) (by (with_reducible repeat (first | refine blk_drewN ?_ _ | refine blk_drew ?_ | refine blk_alloc ?_ _)); exact BK254.out)) : gb254 ≠ gb259)); have n7_ := Aside0.mk ((by rw [hg]; exact Nat.ne_of_gt (blk_lt (g := gb254) (o := .cells #[.int .u64 t248, .int .u64 t249, .slice Ao20 t250.length co20] 54 (0, 0)) (by (with_reducible repeat (first | refine blk_drewN ?_ _ | refine blk_drew ?_ | refine blk_alloc ?_ _)); exact BK254.out)) : gb259 ≠ gb254)); clear HO_255002; clear BK254; clear HB; have HO_255002 := n0_; have BK254 := n1_; have HB := n2_; have BK259 := n3_; have GW259 := n4_; have GE259 := n5_; have NB254_259 := n6_; have NB259_254 := n7_; clear n0_ n1_ n2_ n3_ n4_ n5_ n6_ n7_; clear hb hbox hg; have hnb63 := NB259_254.out; have hnc63 := NB254_259.out; have hcz64_0 : w62.cell? ⟨gb259, 0, none⟩ = some (.int .u64 0) := (blk_cell BK259.out 0).trans rfl; have hcz64_1 : w62.cell? ⟨gb259, 1, none⟩ = some (.int .u64 0) := (blk_cell BK259.out 1).trans rfl; have hcz64_2 : w62.cell? ⟨gb259, 2, none⟩ = some (.slice none 0 0) := (blk_cell BK259.out 2).trans rfl; have hfz64_0 := blk_frozen BK259.out 0; have hfz64_1 := blk_frozen BK259.out 1; have hfz64_2 := blk_frozen BK259.out 2))
            repeat (go_quiet (first | ((with_reducible refine gate_dst (N := 10) rfl ?_); (try (refine gate_guard (by rfl) ?_; dsimp only)); refine box_event ?hg (N := 10) ?hd (cs := #[.int .u64 0, .int .u64 0, .slice none 0 0]) (t := 46) ?hr ?_; (case hd => rfl); (case hg => rfl); (case hr => first | (go_simp; done) | (go_simp; rfl)); intro gb259 hg w62 hbox hb; have n0_ := Aside0.mk (Kd.R_below (by (with_reducible repeat (first | apply Kd.R_alloc | apply Kd.R_drewN | apply Kd.R_drew)); exact HO_255002.out) hb); have n1_ := Aside0.mk (blk_below (g := gb254) (o := .cells #[.int .u64 t248, .int .u64 t249, .slice Ao20 t250.length co20] 54 (0, 0)) (by (with_reducible repeat (first | refine blk_drewN ?_ _ | refine blk_drew ?_ | refine blk_alloc ?_ _)); exact BK254.out) hb); have n2_ := Aside0.mk (below_step (by repeat (first | (with_reducible first | exact HB.out | apply below_alloc | apply pw_below_drewN | apply below_drew1 | refine below_set ?_ GE254.out) | exact HB.out)) hb); have n3_ := Aside0.mk (hbox); have n4_ := Aside0.mk ((by rw [hg]; exact (below_size (by repeat (first | (with_reducible first | exact HB.out | apply below_alloc | apply pw_below_drewN | apply below_drew1 | refine below_set ?_ GE254.out) | exact HB.out))) : w.heap.size ≤ gb259)); have n5_ := Aside0.mk ((by rw [hg]; exact (below_size (by repeat (first | (with_reducible first | exact HB.out | apply below_alloc | apply pw_below_drewN | apply below_drew1 | refine below_set ?_ GE254.out) | exact HB.out))) : w.heap.size ≤ gb259)); have n6_ := Aside0.mk ((by rw [hg]; exact Nat.ne_of_lt (blk_lt (g := gb254) (o := .cells #[.int .u64 t248, .int .u64 t249, .slice Ao20 t250.length co20] 54 (0, 0)) (by (with_reducible repeat (first | refine blk_drewN ?_ _ | refine blk_drew ?_ | refine blk_alloc ?_ _)); exact BK254.out)) : gb254 ≠ gb259)); have n7_ := Aside0.mk ((by rw [hg]; exact Nat.ne_of_gt (blk_lt (g := gb254) (o := .cells #[.int .u64 t248, .int .u64 t249, .slice Ao20 t250.length co20] 54 (0, 0)) (by (with_reducible repeat (first | refine blk_drewN ?_ _ | refine blk_drew ?_ | refine blk_alloc ?_ _)); exact BK254.out)) : gb259 ≠ gb254)); clear HO_255002; clear BK254; clear HB; have HO_255002 := n0_; have BK254 := n1_; have HB := n2_; have BK259 := n3_; have GW259 := n4_; have GE259 := n5_; have NB254_259 := n6_; have NB259_254 := n7_; clear n0_ n1_ n2_ n3_ n4_ n5_ n6_ n7_; clear hb hbox hg; have hnb63 := NB259_254.out; have hnc63 := NB254_259.out; have hcz64_0 : w62.cell? ⟨gb259, 0, none⟩ = some (.int .u64 0) := (blk_cell BK259.out 0).trans rfl; have hcz64_1 : w62.cell? ⟨gb259, 1, none⟩ = some (.int .u64 0) := (blk_cell BK259.out 1).trans rfl; have hcz64_2 : w62.cell? ⟨gb259, 2, none⟩ = some (.slice none 0 0) := (blk_cell BK259.out 2).trans rfl; have hfz64_0 := blk_frozen BK259.out 0; have hfz64_1 := blk_frozen BK259.out 1; have hfz64_2 := blk_frozen BK259.out 2)); try go_wp2_with (first | ((with_reducible refine gate_dst (N := 10) rfl ?_); (try (refine gate_guard (by rfl) ?_; dsimp only)); refine box_event ?hg (N := 10) ?hd (cs := #[.int .u64 0, .int .u64 0, .slice none 0 0]) (t := 46) ?hr ?_; (case hd => rfl); (case hg => rfl); (case hr => first | (go_simp; done) | (go_simp; rfl)); intro gb259 hg w62 hbox hb; have n0_ := Aside0.mk (Kd.R_below (by (with_reducible repeat (first | apply Kd.R_alloc | apply Kd.R_drewN | apply Kd.R_drew)); exact HO_255002.out) hb); have n1_ := Aside0.mk (blk_below (g := gb254) (o := .cells #[.int .u64 t248, .int .u64 t249, .slice Ao20 t250.length co20] 54 (0, 0)) (by (with_reducible repeat (first | refine blk_drewN ?_ _ | refine blk_drew ?_ | refine blk_alloc ?_ _)); exact BK254.out) hb); have n2_ := Aside0.mk (below_step (by repeat (first | (with_reducible first | exact HB.out | apply below_alloc | apply pw_below_drewN | apply below_drew1 | refine below_set ?_ GE254.out) | exact HB.out)) hb); have n3_ := Aside0.mk (hbox); have n4_ := Aside0.mk ((by rw [hg]; exact (below_size (by repeat (first | (with_reducible first | exact HB.out | apply below_alloc | apply pw_below_drewN | apply below_drew1 | refine below_set ?_ GE254.out) | exact HB.out))) : w.heap.size ≤ gb259)); have n5_ := Aside0.mk ((by rw [hg]; exact (below_size (by repeat (first | (with_reducible first | exact HB.out | apply below_alloc | apply pw_below_drewN | apply below_drew1 | refine below_set ?_ GE254.out) | exact HB.out))) : w.heap.size ≤ gb259)); have n6_ := Aside0.mk ((by rw [hg]; exact Nat.ne_of_lt (blk_lt (g := gb254) (o := .cells #[.int .u64 t248, .int .u64 t249, .slice Ao20 t250.length co20] 54 (0, 0)) (by (with_reducible repeat (first | refine blk_drewN ?_ _ | refine blk_drew ?_ | refine blk_alloc ?_ _)); exact BK254.out)) : gb254 ≠ gb259)); have n7_ := Aside0.mk ((by rw [hg]; exact Nat.ne_of_gt (blk_lt (g := gb254) (o := .cells #[.int .u64 t248, .int .u64 t249, .slice Ao20 t250.length co20] 54 (0, 0)) (by (with_reducible repeat (first | refine blk_drewN ?_ _ | refine blk_drew ?_ | refine blk_alloc ?_ _)); exact BK254.out)) : gb259 ≠ gb254)); clear HO_255002; clear BK254; clear HB; have HO_255002 := n0_; have BK254 := n1_; have HB := n2_; have BK259 := n3_; have GW259 := n4_; have GE259 := n5_; have NB254_259 := n6_; have NB259_254 := n7_; clear n0_ n1_ n2_ n3_ n4_ n5_ n6_ n7_; clear hb hbox hg; have hnb63 := NB259_254.out; have hnc63 := NB254_259.out; have hcz64_0 : w62.cell? ⟨gb259, 0, none⟩ = some (.int .u64 0) := (blk_cell BK259.out 0).trans rfl; have hcz64_1 : w62.cell? ⟨gb259, 1, none⟩ = some (.int .u64 0) := (blk_cell BK259.out 1).trans rfl; have hcz64_2 : w62.cell? ⟨gb259, 2, none⟩ = some (.slice none 0 0) := (blk_cell BK259.out 2).trans rfl; have hfz64_0 := blk_frozen BK259.out 0; have hfz64_1 := blk_frozen BK259.out 1; have hfz64_2 := blk_frozen BK259.out 2)))
            go_roundg k2
            case measure => have := HJ11.out; have := HK2.out; omega
            case rel => exact ⟨(wrap64 (x57_2 + 1)), (by first | rfl | (simp; done) | (simp [*]; done)), H', ⟨by have := HJ11.out; have := HK2.out; omega⟩, ⟨by (with_reducible repeat (first | apply Kd.R_alloc | apply Kd.R_drewN | apply Kd.R_drew)); exact Kd.R_mono (Kd.R_far (p := ⟨gb259, 2, none⟩) (Kd.R_far (p := ⟨gb259, 1, none⟩) (Kd.R_far (p := ⟨gb259, 0, none⟩) (Kd.R_types HO_255002.out BK259.out (by decide)) (fun _ hk => hk.2) (.int .u64 ((rd_T46 l0 x57_2).f0))) (fun _ hk => hk.2) (.int .u64 ((rd_T46 l0 x57_2).f1))) (fun _ hk => hk.2) (.slice A258_2 ((rd_T46 l0 x57_2).f2).length c258_2)) (fun _ hk => trivial)⟩, ⟨by (with_reducible repeat (first | refine blk_drewN ?_ _ | refine blk_drew ?_ | refine blk_alloc ?_ _)); refine blk_far ?_ NB254_259.out _; (with_reducible repeat (first | refine blk_drewN ?_ _ | refine blk_drew ?_ | refine blk_alloc ?_ _)); refine blk_far ?_ NB254_259.out _; (with_reducible repeat (first | refine blk_drewN ?_ _ | refine blk_drew ?_ | refine blk_alloc ?_ _)); refine blk_far ?_ NB254_259.out _; (with_reducible repeat (first | refine blk_drewN ?_ _ | refine blk_drew ?_ | refine blk_alloc ?_ _)); exact BK254.out⟩, ⟨by repeat (first | (with_reducible first | exact HB.out | apply below_alloc | apply pw_below_drewN | apply below_drew1 | refine below_set ?_ GE254.out | refine below_set ?_ GE259.out) | exact HB.out)⟩⟩
          ·rw [if_neg c32] at H
           exact absurd H (by simp)
         ·rw [if_neg c31] at H
          exact absurd H (by simp)
        ·rw [if_neg c30] at H
         have c30b0 : decide (x57_2 < (l0.length : Int)) = false := decide_eq_false c30
         clear c30
         have hR_ := Option.some.inj H
         go_wp2
         repeat (go_quiet (fail); try go_wp2)
         go_ret
         exact ⟨by first | rfl | (simp [errW_none, errW_some] <;> rfl) | (simp [*, errW_none, errW_some] <;> rfl), by repeat (first | (with_reducible first | exact HB.out | apply below_alloc | apply pw_below_drewN | apply below_drew1 | refine below_set ?_ GE254.out) | exact HB.out)⟩
 ·replace c4 := Bool.eq_false_iff.mpr c4
  subst c4
  have H1 : (some false) = some true := by rw [if_neg (show ¬ (false = true) by decide)] at H <;> exact H
  clear H
  have H := H1
  clear H1
  exact absurd H (by simp)

end Go.Proofs.Ytcnnaciilphadaa.XP
