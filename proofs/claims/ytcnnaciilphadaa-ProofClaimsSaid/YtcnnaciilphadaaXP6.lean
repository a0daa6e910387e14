-- thinned
-- Printed by a program of this session (wip/tools/mkprint.py) out of the translation.
import Derived.Test.YtcnnaciilphadaaXP0
import Derived.Test.YtcnnaciilphadaaXP4
import Derived.Test.YtcnnaciilphadaaXP5
import Derived.Test.YtcnnaciilphadaaGiven
import Derived.Test.YtcnnaciilphadaaGiven04
namespace Go.Proofs.Ytcnnaciilphadaa.XP
open Go.RowKit Go.Proofs.Ytcnnaciilphadaa.Given Go.Proofs.Ytcnnaciilphadaa.Given04 Go.Proofs.YtcnnaciilphadaaW.PrintWords Go.Proofs.YtcnnaciilphadaaW.PrintLast Go.Proofs.YtcnnaciilphadaaW.PrintMore
attribute [local go_sem] max2_int min2_int max_two min_two max_three min_three max_four min_four   -- for this text's walks alone
set_option linter.unusedVariables false
set_option linter.unusedSimpArgs false

/-! ### epicycleref04_Right: function 46 -/
mutual
def epicycleref04_Right.j0 : Nat → List (S46) → Int → Bool → Int → Int → List (S60) → Option (Bool)
 | 0, _, _, _, _, _, _ => none
 | k + 1, x0, x1, x43, x162000, x162001, x162002 => if x43 = true then (some false) else (if (x162002.length : Int) < 1 then (epicycleref04_Right.j1 k x0 x1 true x162000 x162001 x162002) else (if (x162002.length : Int) > 16 then (epicycleref04_Right.j1 k x0 x1 true x162000 x162001 x162002) else (if 0 < (x162002.length : Int) then (epicycleref04_Right.j1 k x0 x1 (((rd_T60 x162002 0).f0) != 2) x162000 x162001 x162002) else (none))))
def epicycleref04_Right.j1 : Nat → List (S46) → Int → Bool → Int → Int → List (S60) → Option (Bool)
 | 0, _, _, _, _, _, _ => none
 | k + 1, x0, x1, x61, x162000, x162001, x162002 => if x61 = true then (some false) else (epicycleref04_Right.l0 k x0 x1 1 x162000 x162001 x162002)
def epicycleref04_Right.l0 : Nat → List (S46) → Int → Int → Int → Int → List (S60) → Option (Bool)
 | 0, _, _, _, _, _, _ => none
 | k + 1, x0, x1, x6, x162000, x162001, x162002 => if x6 < (x162002.length : Int) then (if 0 ≤ x6 then (if 0 ≤ (wrap64 (x6 - 1)) then (if (wrap64 (x6 - 1)) < (x162002.length : Int) then (if ((rd_T60 x162002 x6).f0) ≤ ((rd_T60 x162002 (wrap64 (x6 - 1))).f0) then (epicycleref04_Right.j3 k x0 x1 x6 true x162000 x162001 x162002) else (if 0 ≤ x1 then (if x1 ≤ (x0.length : Int) then ((epicycleref04_Claimed.f k (x0.take (x1 : Int).toNat) ((rd_T60 x162002 x6).f0)).bind fun t171 => (epicycleref04_Right.j3 k x0 x1 x6 (!t171) x162000 x162001 x162002)) else (none)) else (none))) else (none)) else (none)) else (none)) else ((epicycleref04_Product.f k x162002 (IntKind.u64.wrap (x162000 - 1))).bind fun bt172 => (if bt172.2 = true then (if bt172.1 = (IntKind.u64.wrap (x162000 - 1)) then (if x162001 < 2 then (epicycleref04_Right.j4 k true x162000 x162001 x162002) else (if x162001 ≥ x162000 then (epicycleref04_Right.j4 k true x162000 x162001 x162002) else ((epicycleref02_Pow.f k x162001 (IntKind.u64.wrap (x162000 - 1)) x162000).bind fun t174 => (epicycleref04_Right.j4 k (t174 != 1) x162000 x162001 x162002)))) else (epicycleref04_Right.j4 k true x162000 x162001 x162002)) else (epicycleref04_Right.j4 k true x162000 x162001 x162002)))
def epicycleref04_Right.j3 : Nat → List (S46) → Int → Int → Bool → Int → Int → List (S60) → Option (Bool)
 | 0, _, _, _, _, _, _, _ => none
 | k + 1, x0, x1, x6, x95, x162000, x162001, x162002 => if x95 = true then (some false) else (epicycleref04_Right.l0 k x0 x1 (wrap64 (x6 + 1)) x162000 x162001 x162002)
def epicycleref04_Right.j4 : Nat → Bool → Int → Int → List (S60) → Option (Bool)
 | 0, _, _, _, _ => none
 | k + 1, x136, x162000, x162001, x162002 => if x136 = true then (some false) else (epicycleref04_Right.l1 k x162002 (x162002.length : Int) 0 x162000 x162001 x162002)
def epicycleref04_Right.l1 : Nat → List (S60) → Int → Int → Int → Int → List (S60) → Option (Bool)
 | 0, _, _, _, _, _, _ => none
 | k + 1, x138, x139, x140, x162000, x162001, x162002 => if x140 < x139 then (if 0 ≤ x140 then (if x140 < (x138.length : Int) then (if ((rd_T60 x138 x140).f0) = 0 then (none) else ((epicycleref02_Pow.f k x162001 (IntKind.u64.wrap (Int.tdiv (IntKind.u64.wrap (x162000 - 1)) ((rd_T60 x138 x140).f0))) x162000).bind fun t177 => (if t177 = 1 then (some false) else (epicycleref04_Right.l1 k x138 x139 (wrap64 (x140 + 1)) x162000 x162001 x162002)))) else (none)) else (none)) else (some true)
end
def epicycleref04_Right.f (k : Nat) (l0 : List (S46)) (a1 : Int) : Option (Bool) := if 0 ≤ a1 then (if a1 < (l0.length : Int) then (if (Int.tmod ((rd_T46 l0 a1).f0) 2) = 0 then (epicycleref04_Right.j0 k l0 a1 true ((rd_T46 l0 a1).f0) ((rd_T46 l0 a1).f1) ((rd_T46 l0 a1).f2)) else (if ((rd_T46 l0 a1).f0) < 3 then (epicycleref04_Right.j0 k l0 a1 true ((rd_T46 l0 a1).f0) ((rd_T46 l0 a1).f1) ((rd_T46 l0 a1).f2)) else (if ((rd_T46 l0 a1).f0) > 9223372036854775807 then (epicycleref04_Right.j0 k l0 a1 true ((rd_T46 l0 a1).f0) ((rd_T46 l0 a1).f1) ((rd_T46 l0 a1).f2)) else (if a1 > 0 then (if 0 ≤ (wrap64 (a1 - 1)) then (if (wrap64 (a1 - 1)) < (l0.length : Int) then (epicycleref04_Right.j0 k l0 a1 (decide (((rd_T46 l0 (wrap64 (a1 - 1))).f0) ≥ ((rd_T46 l0 a1).f0))) ((rd_T46 l0 a1).f0) ((rd_T46 l0 a1).f1) ((rd_T46 l0 a1).f2)) else (none)) else (none)) else (epicycleref04_Right.j0 k l0 a1 false ((rd_T46 l0 a1).f0) ((rd_T46 l0 a1).f1) ((rd_T46 l0 a1).f2)))))) else (none)) else (none)
theorem epicycleref04_Right.mono_l : ∀ k, (∀ y0 y1 y2 y3 y4 y5, LeO (epicycleref04_Right.j0 k y0 y1 y2 y3 y4 y5) (epicycleref04_Right.j0 (k + 1) y0 y1 y2 y3 y4 y5)) ∧ (∀ y0 y1 y2 y3 y4 y5, LeO (epicycleref04_Right.j1 k y0 y1 y2 y3 y4 y5) (epicycleref04_Right.j1 (k + 1) y0 y1 y2 y3 y4 y5)) ∧ (∀ y0 y1 y2 y3 y4 y5, LeO (epicycleref04_Right.l0 k y0 y1 y2 y3 y4 y5) (epicycleref04_Right.l0 (k + 1) y0 y1 y2 y3 y4 y5)) ∧ (∀ y0 y1 y2 y3 y4 y5 y6, LeO (epicycleref04_Right.j3 k y0 y1 y2 y3 y4 y5 y6) (epicycleref04_Right.j3 (k + 1) y0 y1 y2 y3 y4 y5 y6)) ∧ (∀ y0 y1 y2 y3, LeO (epicycleref04_Right.j4 k y0 y1 y2 y3) (epicycleref04_Right.j4 (k + 1) y0 y1 y2 y3)) ∧ (∀ y0 y1 y2 y3 y4 y5, LeO (epicycleref04_Right.l1 k y0 y1 y2 y3 y4 y5) (epicycleref04_Right.l1 (k + 1) y0 y1 y2 y3 y4 y5))
 | 0 => ⟨fun _ _ _ _ _ _ r h => by simp [epicycleref04_Right.j0] at h, fun _ _ _ _ _ _ r h => by simp [epicycleref04_Right.j1] at h, fun _ _ _ _ _ _ r h => by simp [epicycleref04_Right.l0] at h, fun _ _ _ _ _ _ _ r h => by simp [epicycleref04_Right.j3] at h, fun _ _ _ _ r h => by simp [epicycleref04_Right.j4] at h, fun _ _ _ _ _ _ r h => by simp [epicycleref04_Right.l1] at h⟩
 | k + 1 => by
  obtain ⟨ih0, ih1, ih2, ih3, ih4, ih5⟩ := epicycleref04_Right.mono_l k
  refine ⟨?_, ?_, ?_, ?_, ?_, ?_⟩
  ·intro y0 y1 y2 y3 y4 y5
   unfold epicycleref04_Right.j0
   repeat' first
   | (with_reducible exact ih0 _ _ _ _ _ _)
   | (with_reducible exact ih1 _ _ _ _ _ _)
   | (with_reducible exact ih2 _ _ _ _ _ _)
   | (with_reducible exact ih3 _ _ _ _ _ _ _)
   | (with_reducible exact ih4 _ _ _ _)
   | (with_reducible exact ih5 _ _ _ _ _ _)
   | (with_reducible exact epicycleref02_Pow.mono _ _ _ _)
   | (with_reducible exact epicycleref04_Claimed.mono _ _ _)
   | (with_reducible exact epicycleref04_Product.mono _ _ _)
   | (with_reducible exact LeO.refl _)
   | (with_reducible exact LeO.none _)
   | (with_reducible refine LeO.ite ?_ ?_)
   | (with_reducible refine LeO.bind ?_ (fun _ => ?_))
   | exact ih0 _ _ _ _ _ _
   | exact ih1 _ _ _ _ _ _
   | exact ih2 _ _ _ _ _ _
   | exact ih3 _ _ _ _ _ _ _
   | exact ih4 _ _ _ _
   | exact ih5 _ _ _ _ _ _
   | exact epicycleref02_Pow.mono _ _ _ _
   | exact epicycleref04_Claimed.mono _ _ _
   | exact epicycleref04_Product.mono _ _ _
   | exact LeO.none _
   | refine LeO.ite ?_ ?_
   | refine LeO.bind ?_ (fun _ => ?_)
  ·intro y0 y1 y2 y3 y4 y5
   unfold epicycleref04_Right.j1
   repeat' first
   | (with_reducible exact ih0 _ _ _ _ _ _)
   | (with_reducible exact ih1 _ _ _ _ _ _)
   | (with_reducible exact ih2 _ _ _ _ _ _)
   | (with_reducible exact ih3 _ _ _ _ _ _ _)
   | (with_reducible exact ih4 _ _ _ _)
   | (with_reducible exact ih5 _ _ _ _ _ _)
   | (with_reducible exact epicycleref02_Pow.mono _ _ _ _)
   | (with_reducible exact epicycleref04_Claimed.mono _ _ _)
   | (with_reducible exact epicycleref04_Product.mono _ _ _)
   | (with_reducible exact LeO.refl _)
   | (with_reducible exact LeO.none _)
   | (with_reducible refine LeO.ite ?_ ?_)
   | (with_reducible refine LeO.bind ?_ (fun _ => ?_))
   | exact ih0 _ _ _ _ _ _
   | exact ih1 _ _ _ _ _ _
   | exact ih2 _ _ _ _ _ _
   | exact ih3 _ _ _ _ _ _ _
   | exact ih4 _ _ _ _
   | exact ih5 _ _ _ _ _ _
   | exact epicycleref02_Pow.mono _ _ _ _
   | exact epicycleref04_Claimed.mono _ _ _
   | exact epicycleref04_Product.mono _ _ _
   | exact LeO.none _
   | refine LeO.ite ?_ ?_
   | refine LeO.bind ?_ (fun _ => ?_)
  ·intro y0 y1 y2 y3 y4 y5
   unfold epicycleref04_Right.l0
   repeat' first
   | (with_reducible exact ih0 _ _ _ _ _ _)
   | (with_reducible exact ih1 _ _ _ _ _ _)
   | (with_reducible exact ih2 _ _ _ _ _ _)
   | (with_reducible exact ih3 _ _ _ _ _ _ _)
   | (with_reducible exact ih4 _ _ _ _)
   | (with_reducible exact ih5 _ _ _ _ _ _)
   | (with_reducible exact epicycleref02_Pow.mono _ _ _ _)
   | (with_reducible exact epicycleref04_Claimed.mono _ _ _)
   | (with_reducible exact epicycleref04_Product.mono _ _ _)
   | (with_reducible exact LeO.refl _)
   | (with_reducible exact LeO.none _)
   | (with_reducible refine LeO.ite ?_ ?_)
   | (with_reducible refine LeO.bind ?_ (fun _ => ?_))
   | exact ih0 _ _ _ _ _ _
   | exact ih1 _ _ _ _ _ _
   | exact ih2 _ _ _ _ _ _
   | exact ih3 _ _ _ _ _ _ _
   | exact ih4 _ _ _ _
   | exact ih5 _ _ _ _ _ _
   | exact epicycleref02_Pow.mono _ _ _ _
   | exact epicycleref04_Claimed.mono _ _ _
   | exact epicycleref04_Product.mono _ _ _
   | exact LeO.none _
   | refine LeO.ite ?_ ?_
   | refine LeO.bind ?_ (fun _ => ?_)
  ·intro y0 y1 y2 y3 y4 y5 y6
   unfold epicycleref04_Right.j3
   repeat' first
   | (with_reducible exact ih0 _ _ _ _ _ _)
   | (with_reducible exact ih1 _ _ _ _ _ _)
   | (with_reducible exact ih2 _ _ _ _ _ _)
   | (with_reducible exact ih3 _ _ _ _ _ _ _)
   | (with_reducible exact ih4 _ _ _ _)
   | (with_reducible exact ih5 _ _ _ _ _ _)
   | (with_reducible exact epicycleref02_Pow.mono _ _ _ _)
   | (with_reducible exact epicycleref04_Claimed.mono _ _ _)
   | (with_reducible exact epicycleref04_Product.mono _ _ _)
   | (with_reducible exact LeO.refl _)
   | (with_reducible exact LeO.none _)
   | (with_reducible refine LeO.ite ?_ ?_)
   | (with_reducible refine LeO.bind ?_ (fun _ => ?_))
   | exact ih0 _ _ _ _ _ _
   | exact ih1 _ _ _ _ _ _
   | exact ih2 _ _ _ _ _ _
   | exact ih3 _ _ _ _ _ _ _
   | exact ih4 _ _ _ _
   | exact ih5 _ _ _ _ _ _
   | exact epicycleref02_Pow.mono _ _ _ _
   | exact epicycleref04_Claimed.mono _ _ _
   | exact epicycleref04_Product.mono _ _ _
   | exact LeO.none _
   | refine LeO.ite ?_ ?_
   | refine LeO.bind ?_ (fun _ => ?_)
  ·intro y0 y1 y2 y3
   unfold epicycleref04_Right.j4
   repeat' first
   | (with_reducible exact ih0 _ _ _ _ _ _)
   | (with_reducible exact ih1 _ _ _ _ _ _)
   | (with_reducible exact ih2 _ _ _ _ _ _)
   | (with_reducible exact ih3 _ _ _ _ _ _ _)
   | (with_reducible exact ih4 _ _ _ _)
   | (with_reducible exact ih5 _ _ _ _ _ _)
   | (with_reducible exact epicycleref02_Pow.mono _ _ _ _)
   | (with_reducible exact epicycleref04_Claimed.mono _ _ _)
   | (with_reducible exact epicycleref04_Product.mono _ _ _)
   | (with_reducible exact LeO.refl _)
   | (with_reducible exact LeO.none _)
   | (with_reducible refine LeO.ite ?_ ?_)
   | (with_reducible refine LeO.bind ?_ (fun _ => ?_))
   | exact ih0 _ _ _ _ _ _
   | exact ih1 _ _ _ _ _ _
   | exact ih2 _ _ _ _ _ _
   | exact ih3 _ _ _ _ _ _ _
   | exact ih4 _ _ _ _
   | exact ih5 _ _ _ _ _ _
   | exact epicycleref02_Pow.mono _ _ _ _
   | exact epicycleref04_Claimed.mono _ _ _
   | exact epicycleref04_Product.mono _ _ _
   | exact LeO.none _
   | refine LeO.ite ?_ ?_
   | refine LeO.bind ?_ (fun _ => ?_)
  ·intro y0 y1 y2 y3 y4 y5
   unfold epicycleref04_Right.l1
   repeat' first
   | (with_reducible exact ih0 _ _ _ _ _ _)
   | (with_reducible exact ih1 _ _ _ _ _ _)
   | (with_reducible exact ih2 _ _ _ _ _ _)
   | (with_reducible exact ih3 _ _ _ _ _ _ _)
   | (with_reducible exact ih4 _ _ _ _)
   | (with_reducible exact ih5 _ _ _ _ _ _)
   | (with_reducible exact epicycleref02_Pow.mono _ _ _ _)
   | (with_reducible exact epicycleref04_Claimed.mono _ _ _)
   | (with_reducible exact epicycleref04_Product.mono _ _ _)
   | (with_reducible exact LeO.refl _)
   | (with_reducible exact LeO.none _)
   | (with_reducible refine LeO.ite ?_ ?_)
   | (with_reducible refine LeO.bind ?_ (fun _ => ?_))
   | exact ih0 _ _ _ _ _ _
   | exact ih1 _ _ _ _ _ _
   | exact ih2 _ _ _ _ _ _
   | exact ih3 _ _ _ _ _ _ _
   | exact ih4 _ _ _ _
   | exact ih5 _ _ _ _ _ _
   | exact epicycleref02_Pow.mono _ _ _ _
   | exact epicycleref04_Claimed.mono _ _ _
   | exact epicycleref04_Product.mono _ _ _
   | exact LeO.none _
   | refine LeO.ite ?_ ?_
   | refine LeO.bind ?_ (fun _ => ?_)
theorem epicycleref04_Right.mono : ∀ a0 a1 k, LeO (epicycleref04_Right.f k a0 a1) (epicycleref04_Right.f (k + 1) a0 a1) := by
 intro a0 a1 k
 obtain ⟨ih0, ih1, ih2, ih3, ih4, ih5⟩ := epicycleref04_Right.mono_l k
 unfold epicycleref04_Right.f
 repeat' first
   | (with_reducible exact ih0 _ _ _ _ _ _)
   | (with_reducible exact ih1 _ _ _ _ _ _)
   | (with_reducible exact ih2 _ _ _ _ _ _)
   | (with_reducible exact ih3 _ _ _ _ _ _ _)
   | (with_reducible exact ih4 _ _ _ _)
   | (with_reducible exact ih5 _ _ _ _ _ _)
   | (with_reducible exact epicycleref02_Pow.mono _ _ _ _)
   | (with_reducible exact epicycleref04_Claimed.mono _ _ _)
   | (with_reducible exact epicycleref04_Product.mono _ _ _)
   | (with_reducible exact LeO.refl _)
   | (with_reducible exact LeO.none _)
   | (with_reducible refine LeO.ite ?_ ?_)
   | (with_reducible refine LeO.bind ?_ (fun _ => ?_))
   | exact ih0 _ _ _ _ _ _
   | exact ih1 _ _ _ _ _ _
   | exact ih2 _ _ _ _ _ _
   | exact ih3 _ _ _ _ _ _ _
   | exact ih4 _ _ _ _
   | exact ih5 _ _ _ _ _ _
   | exact epicycleref02_Pow.mono _ _ _ _
   | exact epicycleref04_Claimed.mono _ _ _
   | exact epicycleref04_Product.mono _ _ _
   | exact LeO.none _
   | refine LeO.ite ?_ ?_
   | refine LeO.bind ?_ (fun _ => ?_)
def epicycleref04_Right.T2 : Bool × List (List Nat × List Nat) := (true, [([], []), ([0], [0]), ([1], [1]), ([2], [2]), ([3], [3]), ([4], [4]), ([5, 4], [4, 5]), ([6, 4], [4, 6]), ([4, 7], [4, 7]), ([8, 4], [8]), ([9], [9]), ([10, 9], [9, 10]), ([11, 9], [9, 11]), ([9, 12], [9, 12]), ([13, 9], [13]), ([14], [14]), ([15, 14], [14, 15]), ([16, 14, 14], [14, 16]), ([17], [17]), ([17], [17]), ([19, 17], [17, 19]), ([18, 20, 17], [17, 18, 20]), ([21, 17], [17, 21]), ([22, 17], [17, 22]), ([17], [17]), ([24, 17], [17, 24]), ([23, 25, 17], [17, 23, 25]), ([17, 26, 14], [14, 17, 26]), ([14, 27], [14, 27])])
def epicycleref04_Right.B2 : List Nat := [0, 1, 3, 7, 15, 31, 63, 127, 255, 511, 1023, 2047, 4095, 8191, 16383, 32767, 65535, 131071, 262143, 262143, 786431, 2097151, 4194303, 8388607, 262143, 17039359, 67108863, 134217727, 268435455]
theorem epicycleref04_Right.tab2 : rtab .any (opsOf Try.f46 2) = epicycleref04_Right.T2 := by kernel_rfl
theorem epicycleref04_Right.bits2 : waitsOk epicycleref04_Right.T2.2 epicycleref04_Right.B2 = true := by kernel_rfl
def epicycleref04_Right.T9 : Bool × List (List Nat × List Nat) := (true, [([], []), ([0], [0]), ([], []), ([1, 2], [1, 2]), ([3], [3]), ([4], [4]), ([], []), ([6], [6]), ([], []), ([8], [8]), ([7, 9], [7, 9]), ([10], [10]), ([11], [11]), ([5, 12], [5, 12]), ([13], [13]), ([14], [14]), ([14], [14]), ([15, 16, 14], [14, 15, 16]), ([14], [14]), ([18, 14], [14, 18]), ([14], [14]), ([19, 20, 14], [14, 19, 20]), ([21, 14], [14, 21]), ([22, 14], [14, 22]), ([17, 23, 14, 14], [14, 17, 23]), ([24, 14], [14, 24]), ([14, 25], [14, 25])])
def epicycleref04_Right.B9 : List Nat := [0, 1, 0, 7, 15, 31, 0, 64, 0, 256, 960, 1984, 4032, 8191, 16383, 32767, 32767, 131071, 32767, 294911, 32767, 1867775, 3964927, 8159231, 16777215, 33554431, 67108863]
theorem epicycleref04_Right.tab9 : rtab .any (opsOf Try.f46 9) = epicycleref04_Right.T9 := by kernel_rfl
theorem epicycleref04_Right.bits9 : waitsOk epicycleref04_Right.T9.2 epicycleref04_Right.B9 = true := by kernel_rfl
def epicycleref04_Right.T17 : Bool × List (List Nat × List Nat) := (true, [([], []), ([0], [0]), ([], []), ([2], [2]), ([3], [3]), ([], []), ([5], [5]), ([4, 6], [4, 6]), ([], []), ([8], [8]), ([1, 7, 9], [1, 7, 9]), ([10], [10])])
def epicycleref04_Right.B17 : List Nat := [0, 1, 0, 4, 12, 0, 32, 124, 0, 256, 1023, 2047]
theorem epicycleref04_Right.tab17 : rtab .any (opsOf Try.f46 17) = epicycleref04_Right.T17 := by kernel_rfl
theorem epicycleref04_Right.bits17 : waitsOk epicycleref04_Right.T17.2 epicycleref04_Right.B17 = true := by kernel_rfl
set_option maxHeartbeats 8000000 in
set_option maxRecDepth 100000 in
theorem epicycleref04_Right.calls (k : Nat) (A0 : Option Addr) (c0 : Nat) (l0 : List (S46)) (a1 : Int) (r : Bool) (w : World) (hr0 : Kd.C k46 w A0 l0.length l0) (hc0 : l0.length ≤ c0) (h : epicycleref04_Right.f k l0 a1 = some r) :
  Calls Try.prog 46 #[.slice A0 l0.length c0, .int .i64 a1] w fun e w' => e = .returned (.bool r) ∧ Below w.heap.size w w' := by
 have hu46 := Try.underlying46
 have hu60 := Try.underlying60
 have HR0 := Aside0.mk hr0
 have HC0 := Aside0.mk hc0
 clear hr0 hc0
 have HB := Aside0.mk (Below.refl w.heap.size w)
 have H : (if 0 ≤ a1 then (if a1 < (l0.length : Int) then (if (Int.tmod ((rd_T46 l0 a1).f0) 2) = 0 then (epicycleref04_Right.j0 k l0 a1 true ((rd_T46 l0 a1).f0) ((rd_T46 l0 a1).f1) ((rd_T46 l0 a1).f2)) else (if ((rd_T46 l0 a1).f0) < 3 then (epicycleref04_Right.j0 k l0 a1 true ((rd_T46 l0 a1).f0) ((rd_T46 l0 a1).f1) ((rd_T46 l0 a1).f2)) else (if ((rd_T46 l0 a1).f0) > 9223372036854775807 then (epicycleref04_Right.j0 k l0 a1 true ((rd_T46 l0 a1).f0) ((rd_T46 l0 a1).f1) ((rd_T46 l0 a1).f2)) else (if a1 > 0 then (if 0 ≤ (wrap64 (a1 - 1)) then (if (wrap64 (a1 - 1)) < (l0.length : Int) then (epicycleref04_Right.j0 k l0 a1 (decide (((rd_T46 l0 (wrap64 (a1 - 1))).f0) ≥ ((rd_T46 l0 a1).f0))) ((rd_T46 l0 a1).f0) ((rd_T46 l0 a1).f1) ((rd_T46 l0 a1).f2)) else (none)) else (none)) else (epicycleref04_Right.j0 k l0 a1 false ((rd_T46 l0 a1).f0) ((rd_T46 l0 a1).f1) ((rd_T46 l0 a1).f2)))))) else (none)) else (none)) = some r := h
 clear h
 by_cases c3 : 0 ≤ a1
 ·rw [if_pos c3] at H
  have c3b0 : decide (0 ≤ a1) = true := decide_eq_true c3
  clear c3
  by_cases c4 : a1 < (l0.length : Int)
  ·rw [if_pos c4] at H
   have c4b0 : decide (a1 < (l0.length : Int)) = true := decide_eq_true c4
   clear c4
   have HC5 := Aside0.mk H
   clear H
   have p160 : 0 ≤ (a1 : Int) := of_decide_eq_true (by first | (with_reducible assumption) | assumption)
   have q160 : a1 < (l0.length : Int) := of_decide_eq_true (by first | (with_reducible assumption) | assumption)
   obtain ⟨ad160, A160_2, c160_2, e160, hx160_0, hx160_1, hx160_2, hl160_2, hi160_2⟩ := at_T46 HR0.out a1 p160 q160
   cases e160
   have HR160_2 := Aside0.mk hi160_2
   have HC160_2 := Aside0.mk hl160_2
   clear hi160_2 hl160_2
   replace p160 := eq_true p160
   replace q160 := eq_true q160
   go_enter Try.func46, Try.ntmps46
   go_upto_region 2 with (first | ((with_reducible refine gate_dst (N := 5) rfl ?_); (try (refine gate_guard (by rfl) ?_; dsimp only)); refine box_event ?hg (N := 5) ?hd (cs := #[.int .u64 0, .int .u64 0, .slice none 0 0]) (t := 46) ?hr ?_; (case hd => rfl); (case hg => rfl); (case hr => first | (go_simp; done) | (go_simp; rfl)); intro gb161 hg w6 hbox hb; have n0_ := Aside0.mk (below_step (by repeat (first | (with_reducible first | exact HB.out | apply below_alloc | apply pw_below_drewN | apply below_drew1) | exact HB.out)) hb); have n1_ := Aside0.mk (hbox); have n2_ := Aside0.mk ((by rw [hg]; exact (below_size (by repeat (first | (with_reducible first | exact HB.out | apply below_alloc | apply pw_below_drewN | apply below_drew1) | exact HB.out))) : w.heap.size ≤ gb161)); have n3_ := Aside0.mk ((by rw [hg]; exact (below_size (by repeat (first | (with_reducible first | exact HB.out | apply below_alloc | apply pw_below_drewN | apply below_drew1) | exact HB.out))) : w.heap.size ≤ gb161)); clear HB; have HB := n0_; have BK161 := n1_; have GW161 := n2_; have GE161 := n3_; clear n0_ n1_ n2_ n3_; clear hb hbox hg; have hcz7_0 : w6.cell? ⟨gb161, 0, none⟩ = some (.int .u64 0) := (blk_cell BK161.out 0).trans rfl; have hcz7_1 : w6.cell? ⟨gb161, 1, none⟩ = some (.int .u64 0) := (blk_cell BK161.out 1).trans rfl; have hcz7_2 : w6.cell? ⟨gb161, 2, none⟩ = some (.slice none 0 0) := (blk_cell BK161.out 2).trans rfl; have hfz7_0 := blk_frozen BK161.out 0; have hfz7_1 := blk_frozen BK161.out 1; have hfz7_2 := blk_frozen BK161.out 2))
   (try simp only [Act.put, List.setIfInBounds_toArray, List.set_cons_zero, List.set_cons_succ])
   go_cut [43] (fun v43 wc => ∃ (kq : Nat) (x43_4 : Bool), v43 = .bool x43_4 ∧ Aside0 (epicycleref04_Right.j0 kq l0 a1 x43_4 ((rd_T46 l0 a1).f0) ((rd_T46 l0 a1).f1) ((rd_T46 l0 a1).f2) = some r) ∧ Aside0 (kq ≤ k) ∧ Aside0 (wc.heap[gb161]? = some (.cells #[.int .u64 ((rd_T46 l0 a1).f0), .int .u64 ((rd_T46 l0 a1).f1), (.slice A160_2 ((rd_T46 l0 a1).f2).length c160_2)] 46 (0, 0))) ∧ Aside0 (Below w.heap.size w wc))
   case first =>
    have H := HC5.out
    clear HC5
    by_cases c8 : (Int.tmod ((rd_T46 l0 a1).f0) 2) = 0
    ·rw [if_pos c8] at H
     have c8b0 : ((Int.tmod ((rd_T46 l0 a1).f0) 2) == 0) = true := beq_iff_eq.mpr c8
     have c8b1 : ((Int.tmod ((rd_T46 l0 a1).f0) 2) != 0) = false := bne_eq_false_iff_eq.mpr c8
     clear c8
     (first | rw [c8b0] | (simp only [i64_w, i32_w]; rw [c8b0]) | skip)
     have H' := Aside0.mk H
     clear H
     try go_wp2
     have n0_ : Aside0 ((((w6.setCell ⟨gb161, 0, none⟩ (.int .u64 ((rd_T46 l0 a1).f0))).setCell ⟨gb161, 1, none⟩ (.int .u64 ((rd_T46 l0 a1).f1))).setCell ⟨gb161, 2, none⟩ (.slice A160_2 ((rd_T46 l0 a1).f2).length c160_2)).heap[gb161]? = some (.cells #[.int .u64 ((rd_T46 l0 a1).f0), .int .u64 ((rd_T46 l0 a1).f1), .slice A160_2 ((rd_T46 l0 a1).f2).length c160_2] 46 (0, 0))) := ⟨by (with_reducible repeat (first | refine blk_drewN ?_ _ | refine blk_drew ?_ | refine blk_alloc ?_ _)); refine blk_put (cs := #[.int .u64 ((rd_T46 l0 a1).f0), .int .u64 ((rd_T46 l0 a1).f1), .slice none 0 0]) ?_ 2 _ rfl; (with_reducible repeat (first | refine blk_drewN ?_ _ | refine blk_drew ?_ | refine blk_alloc ?_ _)); refine blk_put (cs := #[.int .u64 ((rd_T46 l0 a1).f0), .int .u64 0, .slice none 0 0]) ?_ 1 _ rfl; (with_reducible repeat (first | refine blk_drewN ?_ _ | refine blk_drew ?_ | refine blk_alloc ?_ _)); refine blk_put (cs := #[.int .u64 0, .int .u64 0, .slice none 0 0]) ?_ 0 _ rfl; (with_reducible repeat (first | refine blk_drewN ?_ _ | refine blk_drew ?_ | refine blk_alloc ?_ _)); exact BK161.out⟩
     have n1_ : Aside0 (Below w.heap.size w (((w6.setCell ⟨gb161, 0, none⟩ (.int .u64 ((rd_T46 l0 a1).f0))).setCell ⟨gb161, 1, none⟩ (.int .u64 ((rd_T46 l0 a1).f1))).setCell ⟨gb161, 2, none⟩ (.slice A160_2 ((rd_T46 l0 a1).f2).length c160_2))) := ⟨by repeat (first | (with_reducible first | exact HB.out | apply below_alloc | apply pw_below_drewN | apply below_drew1 | refine below_set ?_ GE161.out) | exact HB.out)⟩
     (try clear BK161)
     (try clear HB)
     generalize (((w6.setCell ⟨gb161, 0, none⟩ (.int .u64 ((rd_T46 l0 a1).f0))).setCell ⟨gb161, 1, none⟩ (.int .u64 ((rd_T46 l0 a1).f1))).setCell ⟨gb161, 2, none⟩ (.slice A160_2 ((rd_T46 l0 a1).f2).length c160_2)) = w9 at n0_ n1_ ⊢
     have BK161 := n0_
     have HB := n1_
     clear n0_ n1_
     have n0_ := Aside0.mk (blk_drew BK161.out)
     have n1_ := Aside0.mk (below_drew1 HB.out)
     clear BK161
     clear HB
     have BK161 := n0_
     have HB := n1_
     clear n0_ n1_
     refine start_ (n := 29) (S := fun w' => w'.cell? ⟨gb161, 0, none⟩ = some (.int .u64 ((rd_T46 l0 a1).f0)) ∧ w'.cell? ⟨gb161, 1, none⟩ = some (.int .u64 ((rd_T46 l0 a1).f1)) ∧ w'.cell? ⟨gb161, 2, none⟩ = some (.slice A160_2 ((rd_T46 l0 a1).f2).length c160_2)) (ds := []) #[false, false, false, false, false, false, false, false, false, false, false, false, false, false, false, false, false, false, false, false, false, false, false, false, false, false, false, false, false] (by kernel_rfl) rfl rfl ⟨(blk_cell BK161.out 0).trans rfl, (blk_cell BK161.out 1).trans rfl, (blk_cell BK161.out 2).trans rfl⟩ (fun hHeld => ?_); refine with_tabW epicycleref04_Right.tab2 epicycleref04_Right.bits2 (fun HT_ HW_ => ?_)
     generalize w9.drew = w10 at BK161 HB hHeld ⊢
     refine pure_ (i := 0) (N := some 15) (v := ?_) (a' := ?_) #[true, false, false, false, false, false, false, false, false, false, false, false, false, false, false, false, false, false, false, false, false, false, false, false, false, false, false, false, false] rfl rfl (any_of HT_.out (by kernel_rfl)) (fun _ _ _ h => h) (Or.inl ⟨by rfl, ?_⟩) ?_ ?_
     rotate_left
     ·intro w'
      go_simp
      with_reducible rfl
     rotate_left
     ·simp only [Act.put, zA, zB, zC, i64_w, i32_w]
      rfl
     refine take_ (i := 1) (N := some 16) (v := ?_) (a' := ?_) #[true, true, false, false, false, false, false, false, false, false, false, false, false, false, false, false, false, false, false, false, false, false, false, false, false, false, false, false, false] rfl rfl (take_ofW HT_.out HW_.out (by kernel_rfl)) (fun _ _ _ h => h) (Or.inl ⟨by rfl, ?_⟩) hHeld ?_ ?_
     rotate_left
     ·rintro w' ⟨s0, s1, s2⟩
      go_simp
      with_reducible rfl
     rotate_left
     ·simp only [Act.put, zA, zB, zC, i64_w, i32_w]
      rfl
     refine pure_ (i := 2) (N := some 17) (v := ?_) (a' := ?_) #[true, true, true, false, false, false, false, false, false, false, false, false, false, false, false, false, false, false, false, false, false, false, false, false, false, false, false, false, false] rfl rfl (any_of HT_.out (by kernel_rfl)) (fun _ _ _ h => h) (Or.inl ⟨by rfl, ?_⟩) ?_ ?_
     rotate_left
     ·intro w'
      go_simp
      with_reducible rfl
     rotate_left
     ·simp only [Act.put, zA, zB, zC, i64_w, i32_w]
      rfl
     refine pure_ (i := 3) (N := some 18) (v := ?_) (a' := ?_) #[true, true, true, true, false, false, false, false, false, false, false, false, false, false, false, false, false, false, false, false, false, false, false, false, false, false, false, false, false] rfl rfl (any_of HT_.out (by kernel_rfl)) (fun _ _ _ h => h) (Or.inl ⟨by rfl, ?_⟩) ?_ ?_
     rotate_left
     ·intro w'
      go_simp
      with_reducible rfl
     rotate_left
     ·simp only [Act.put, zA, zB, zC, i64_w, i32_w]
      rfl
     refine pure_ (i := 4) (N := some 19) (v := ?_) (a' := ?_) #[true, true, true, true, true, false, false, false, false, false, false, false, false, false, false, false, false, false, false, false, false, false, false, false, false, false, false, false, false] rfl rfl (any_of HT_.out (by kernel_rfl)) (fun _ _ _ h => h) (Or.inl ⟨by rfl, ?_⟩) ?_ ?_
     rotate_left
     ·intro w'
      go_simp
      with_reducible rfl
     rotate_left
     ·simp only [Act.put, zA, zB, zC, i64_w, i32_w]
      rfl
     refine pure_ (i := 5) (N := some 20) (v := undef) (a' := ?_) #[true, true, true, true, true, true, false, false, false, false, false, false, false, false, false, false, false, false, false, false, false, false, false, false, false, false, false, false, false] rfl rfl (any_of HT_.out (by kernel_rfl)) (fun _ _ _ h => h) (Or.inr ⟨by rfl, rfl⟩) ?_ ?_
     rotate_left
     ·simp only [Act.put, zA, zB, zC, i64_w, i32_w]
      rfl
     refine pure_ (i := 6) (N := some 21) (v := undef) (a' := ?_) #[true, true, true, true, true, true, true, false, false, false, false, false, false, false, false, false, false, false, false, false, false, false, false, false, false, false, false, false, false] rfl rfl (any_of HT_.out (by kernel_rfl)) (fun _ _ _ h => h) (Or.inr ⟨by rfl, rfl⟩) ?_ ?_
     rotate_left
     ·simp only [Act.put, zA, zB, zC, i64_w, i32_w]
      rfl
     refine pure_ (i := 7) (N := some 22) (v := undef) (a' := ?_) #[true, true, true, true, true, true, true, true, false, false, false, false, false, false, false, false, false, false, false, false, false, false, false, false, false, false, false, false, false] rfl rfl (any_of HT_.out (by kernel_rfl)) (fun _ _ _ h => h) (Or.inr ⟨by rfl, rfl⟩) ?_ ?_
     rotate_left
     ·simp only [Act.put, zA, zB, zC, i64_w, i32_w]
      rfl
     refine pure_ (i := 8) (N := some 23) (v := ?_) (a' := ?_) #[true, true, true, true, true, true, true, true, true, false, false, false, false, false, false, false, false, false, false, false, false, false, false, false, false, false, false, false, false] rfl rfl (any_of HT_.out (by kernel_rfl)) (fun _ _ _ h => h) (Or.inl ⟨by rfl, ?_⟩) ?_ ?_
     rotate_left
     ·intro w'
      go_simp
      with_reducible rfl
     rotate_left
     ·simp only [Act.put, zA, zB, zC, i64_w, i32_w]
      rfl
     refine pure_ (i := 9) (N := some 24) (v := ?_) (a' := ?_) #[true, true, true, true, true, true, true, true, true, true, false, false, false, false, false, false, false, false, false, false, false, false, false, false, false, false, false, false, false] rfl rfl (any_of HT_.out (by kernel_rfl)) (fun _ _ _ h => h) (Or.inl ⟨by rfl, ?_⟩) ?_ ?_
     rotate_left
     ·intro w'
      go_simp
      with_reducible rfl
     rotate_left
     ·simp only [Act.put, zA, zB, zC, i64_w, i32_w]
      rfl
     refine pure_ (i := 10) (N := some 25) (v := undef) (a' := ?_) #[true, true, true, true, true, true, true, true, true, true, true, false, false, false, false, false, false, false, false, false, false, false, false, false, false, false, false, false, false] rfl rfl (any_of HT_.out (by kernel_rfl)) (fun _ _ _ h => h) (Or.inr ⟨by rfl, rfl⟩) ?_ ?_
     rotate_left
     ·simp only [Act.put, zA, zB, zC, i64_w, i32_w]
      rfl
     refine pure_ (i := 11) (N := some 26) (v := undef) (a' := ?_) #[true, true, true, true, true, true, true, true, true, true, true, true, false, false, false, false, false, false, false, false, false, false, false, false, false, false, false, false, false] rfl rfl (any_of HT_.out (by kernel_rfl)) (fun _ _ _ h => h) (Or.inr ⟨by rfl, rfl⟩) ?_ ?_
     rotate_left
     ·simp only [Act.put, zA, zB, zC, i64_w, i32_w]
      rfl
     refine pure_ (i := 12) (N := some 27) (v := undef) (a' := ?_) #[true, true, true, true, true, true, true, true, true, true, true, true, true, false, false, false, false, false, false, false, false, false, false, false, false, false, false, false, false] rfl rfl (any_of HT_.out (by kernel_rfl)) (fun _ _ _ h => h) (Or.inr ⟨by rfl, rfl⟩) ?_ ?_
     rotate_left
     ·simp only [Act.put, zA, zB, zC, i64_w, i32_w]
      rfl
     refine pure_ (i := 13) (N := some 28) (v := ?_) (a' := ?_) #[true, true, true, true, true, true, true, true, true, true, true, true, true, true, false, false, false, false, false, false, false, false, false, false, false, false, false, false, false] rfl rfl (any_of HT_.out (by kernel_rfl)) (fun _ _ _ h => h) (Or.inl ⟨by rfl, ?_⟩) ?_ ?_
     rotate_left
     ·intro w'
      go_simp
      with_reducible rfl
     rotate_left
     ·simp only [Act.put, zA, zB, zC, i64_w, i32_w]
      rfl
     refine pure_ (i := 14) (N := some 29) (v := ?_) (a' := ?_) #[true, true, true, true, true, true, true, true, true, true, true, true, true, true, true, false, false, false, false, false, false, false, false, false, false, false, false, false, false] rfl rfl (any_of HT_.out (by kernel_rfl)) (fun _ _ _ h => h) (Or.inl ⟨by rfl, ?_⟩) ?_ ?_
     rotate_left
     ·intro w'
      go_simp
      with_reducible rfl
     rotate_left
     ·simp only [Act.put, zA, zB, zC, i64_w, i32_w]
      rfl
     refine pure_ (i := 15) (N := some 30) (v := undef) (a' := ?_) #[true, true, true, true, true, true, true, true, true, true, true, true, true, true, true, true, false, false, false, false, false, false, false, false, false, false, false, false, false] rfl rfl (any_of HT_.out (by kernel_rfl)) (fun _ _ _ h => h) (Or.inr ⟨by rfl, rfl⟩) ?_ ?_
     rotate_left
     ·simp only [Act.put, zA, zB, zC, i64_w, i32_w]
      rfl
     refine pure_ (i := 16) (N := some 31) (v := undef) (a' := ?_) #[true, true, true, true, true, true, true, true, true, true, true, true, true, true, true, true, true, false, false, false, false, false, false, false, false, false, false, false, false] rfl rfl (any_of HT_.out (by kernel_rfl)) (fun _ _ _ h => h) (Or.inr ⟨by rfl, rfl⟩) ?_ ?_
     rotate_left
     ·simp only [Act.put, zA, zB, zC, i64_w, i32_w]
      rfl
     refine pure_ (i := 17) (N := some 32) (v := undef) (a' := ?_) #[true, true, true, true, true, true, true, true, true, true, true, true, true, true, true, true, true, true, false, false, false, false, false, false, false, false, false, false, false] rfl rfl (any_of HT_.out (by kernel_rfl)) (fun _ _ _ h => h) (Or.inr ⟨by rfl, rfl⟩) ?_ ?_
     rotate_left
     ·simp only [Act.put, zA, zB, zC, i64_w, i32_w]
      rfl
     refine pure_ (i := 18) (N := some 33) (v := undef) (a' := ?_) #[true, true, true, true, true, true, true, true, true, true, true, true, true, true, true, true, true, true, true, false, false, false, false, false, false, false, false, false, false] rfl rfl (any_of HT_.out (by kernel_rfl)) (fun _ _ _ h => h) (Or.inr ⟨by rfl, rfl⟩) ?_ ?_
     rotate_left
     ·simp only [Act.put, zA, zB, zC, i64_w, i32_w]
      rfl
     refine pure_ (i := 19) (N := some 34) (v := undef) (a' := ?_) #[true, true, true, true, true, true, true, true, true, true, true, true, true, true, true, true, true, true, true, true, false, false, false, false, false, false, false, false, false] rfl rfl (any_of HT_.out (by kernel_rfl)) (fun _ _ _ h => h) (Or.inr ⟨by rfl, rfl⟩) ?_ ?_
     rotate_left
     ·simp only [Act.put, zA, zB, zC, i64_w, i32_w]
      rfl
     refine pure_ (i := 20) (N := some 35) (v := undef) (a' := ?_) #[true, true, true, true, true, true, true, true, true, true, true, true, true, true, true, true, true, true, true, true, true, false, false, false, false, false, false, false, false] rfl rfl (any_of HT_.out (by kernel_rfl)) (fun _ _ _ h => h) (Or.inr ⟨by rfl, rfl⟩) ?_ ?_
     rotate_left
     ·simp only [Act.put, zA, zB, zC, i64_w, i32_w]
      rfl
     refine pure_ (i := 21) (N := some 36) (v := undef) (a' := ?_) #[true, true, true, true, true, true, true, true, true, true, true, true, true, true, true, true, true, true, true, true, true, true, false, false, false, false, false, false, false] rfl rfl (any_of HT_.out (by kernel_rfl)) (fun _ _ _ h => h) (Or.inr ⟨by rfl, rfl⟩) ?_ ?_
     rotate_left
     ·simp only [Act.put, zA, zB, zC, i64_w, i32_w]
      rfl
     refine pure_ (i := 22) (N := some 37) (v := undef) (a' := ?_) #[true, true, true, true, true, true, true, true, true, true, true, true, true, true, true, true, true, true, true, true, true, true, true, false, false, false, false, false, false] rfl rfl (any_of HT_.out (by kernel_rfl)) (fun _ _ _ h => h) (Or.inr ⟨by rfl, rfl⟩) ?_ ?_
     rotate_left
     ·simp only [Act.put, zA, zB, zC, i64_w, i32_w]
      rfl
     refine pure_ (i := 23) (N := some 38) (v := undef) (a' := ?_) #[true, true, true, true, true, true, true, true, true, true, true, true, true, true, true, true, true, true, true, true, true, true, true, true, false, false, false, false, false] rfl rfl (any_of HT_.out (by kernel_rfl)) (fun _ _ _ h => h) (Or.inr ⟨by rfl, rfl⟩) ?_ ?_
     rotate_left
     ·simp only [Act.put, zA, zB, zC, i64_w, i32_w]
      rfl
     refine pure_ (i := 24) (N := some 39) (v := undef) (a' := ?_) #[true, true, true, true, true, true, true, true, true, true, true, true, true, true, true, true, true, true, true, true, true, true, true, true, true, false, false, false, false] rfl rfl (any_of HT_.out (by kernel_rfl)) (fun _ _ _ h => h) (Or.inr ⟨by rfl, rfl⟩) ?_ ?_
     rotate_left
     ·simp only [Act.put, zA, zB, zC, i64_w, i32_w]
      rfl
     refine pure_ (i := 25) (N := some 40) (v := undef) (a' := ?_) #[true, true, true, true, true, true, true, true, true, true, true, true, true, true, true, true, true, true, true, true, true, true, true, true, true, true, false, false, false] rfl rfl (any_of HT_.out (by kernel_rfl)) (fun _ _ _ h => h) (Or.inr ⟨by rfl, rfl⟩) ?_ ?_
     rotate_left
     ·simp only [Act.put, zA, zB, zC, i64_w, i32_w]
      rfl
     refine pure_ (i := 26) (N := some 41) (v := undef) (a' := ?_) #[true, true, true, true, true, true, true, true, true, true, true, true, true, true, true, true, true, true, true, true, true, true, true, true, true, true, true, false, false] rfl rfl (any_of HT_.out (by kernel_rfl)) (fun _ _ _ h => h) (Or.inr ⟨by rfl, rfl⟩) ?_ ?_
     rotate_left
     ·simp only [Act.put, zA, zB, zC, i64_w, i32_w]
      rfl
     refine pure_ (i := 27) (N := some 42) (v := undef) (a' := ?_) #[true, true, true, true, true, true, true, true, true, true, true, true, true, true, true, true, true, true, true, true, true, true, true, true, true, true, true, true, false] rfl rfl (any_of HT_.out (by kernel_rfl)) (fun _ _ _ h => h) (Or.inr ⟨by rfl, rfl⟩) ?_ ?_
     rotate_left
     ·simp only [Act.put, zA, zB, zC, i64_w, i32_w]
      rfl
     refine pure_ (i := 28) (N := some 43) (v := ?_) (a' := ?_) #[true, true, true, true, true, true, true, true, true, true, true, true, true, true, true, true, true, true, true, true, true, true, true, true, true, true, true, true, true] rfl rfl (any_of HT_.out (by kernel_rfl)) (fun _ _ _ h => h) (Or.inl ⟨by rfl, ?_⟩) ?_ ?_
     rotate_left
     ·intro w'
      go_simp
      with_reducible rfl
     rotate_left
     ·simp only [Act.put, zA, zB, zC, i64_w, i32_w]
      rfl
     refine done_ (done_of HT_.out (by kernel_rfl)) ?_
     try go_wp2
     go_meet
     case rel => exact ⟨_, (true), (by first | rfl | (simp; done) | (simp [*]; done)), H', ⟨by first | omega | exact Nat.le_refl _⟩, ⟨by (with_reducible repeat (first | refine blk_drewN ?_ _ | refine blk_drew ?_ | refine blk_alloc ?_ _)); exact BK161.out⟩, ⟨by repeat (first | (with_reducible first | exact HB.out | apply below_alloc | apply pw_below_drewN | apply below_drew1 | refine below_set ?_ GE161.out) | exact HB.out)⟩⟩
    ·rw [if_neg c8] at H
     have c8b0 : ((Int.tmod ((rd_T46 l0 a1).f0) 2) == 0) = false := beq_eq_false_iff_ne.mpr c8
     have c8b1 : ((Int.tmod ((rd_T46 l0 a1).f0) 2) != 0) = true := bne_iff_ne.mpr c8
     (first | rw [c8b0] | (simp only [i64_w, i32_w]; rw [c8b0]) | skip)
     by_cases c11 : ((rd_T46 l0 a1).f0) < 3
     ·rw [if_pos c11] at H
      have c11b0 : decide (((rd_T46 l0 a1).f0) < 3) = true := decide_eq_true c11
      clear c11
      have H' := Aside0.mk H
      clear H
      try go_wp2
      have n0_ : Aside0 ((((w6.setCell ⟨gb161, 0, none⟩ (.int .u64 ((rd_T46 l0 a1).f0))).setCell ⟨gb161, 1, none⟩ (.int .u64 ((rd_T46 l0 a1).f1))).setCell ⟨gb161, 2, none⟩ (.slice A160_2 ((rd_T46 l0 a1).f2).length c160_2)).heap[gb161]? = some (.cells #[.int .u64 ((rd_T46 l0 a1).f0), .int .u64 ((rd_T46 l0 a1).f1), .slice A160_2 ((rd_T46 l0 a1).f2).length c160_2] 46 (0, 0))) := ⟨by (with_reducible repeat (first | refine blk_drewN ?_ _ | refine blk_drew ?_ | refine blk_alloc ?_ _)); refine blk_put (cs := #[.int .u64 ((rd_T46 l0 a1).f0), .int .u64 ((rd_T46 l0 a1).f1), .slice none 0 0]) ?_ 2 _ rfl; (with_reducible repeat (first | refine blk_drewN ?_ _ | refine blk_drew ?_ | refine blk_alloc ?_ _)); refine blk_put (cs := #[.int .u64 ((rd_T46 l0 a1).f0), .int .u64 0, .slice none 0 0]) ?_ 1 _ rfl; (with_reducible repeat (first | refine blk_drewN ?_ _ | refine blk_drew ?_ | refine blk_alloc ?_ _)); refine blk_put (cs := #[.int .u64 0, .int .u64 0, .slice none 0 0]) ?_ 0 _ rfl; (with_reducible repeat (first | refine blk_drewN ?_ _ | refine blk_drew ?_ | refine blk_alloc ?_ _)); exact BK161.out⟩
      have n1_ : Aside0 (Below w.heap.size w (((w6.setCell ⟨gb161, 0, none⟩ (.int .u64 ((rd_T46 l0 a1).f0))).setCell ⟨gb161, 1, none⟩ (.int .u64 ((rd_T46 l0 a1).f1))).setCell ⟨gb161, 2, none⟩ (.slice A160_2 ((rd_T46 l0 a1).f2).length c160_2))) := ⟨by repeat (first | (with_reducible first | exact HB.out | apply below_alloc | apply pw_below_drewN | apply below_drew1 | refine below_set ?_ GE161.out) | exact HB.out)⟩
      (try clear BK161)
      (try clear HB)
      generalize (((w6.setCell ⟨gb161, 0, none⟩ (.int .u64 ((rd_T46 l0 a1).f0))).setCell ⟨gb161, 1, none⟩ (.int .u64 ((rd_T46 l0 a1).f1))).setCell ⟨gb161, 2, none⟩ (.slice A160_2 ((rd_T46 l0 a1).f2).length c160_2)) = w12 at n0_ n1_ ⊢
      have BK161 := n0_
      have HB := n1_
      clear n0_ n1_
      have n0_ := Aside0.mk (blk_drew BK161.out)
      have n1_ := Aside0.mk (below_drew1 HB.out)
      clear BK161
      clear HB
      have BK161 := n0_
      have HB := n1_
      clear n0_ n1_
      refine start_ (n := 29) (S := fun w' => w'.cell? ⟨gb161, 0, none⟩ = some (.int .u64 ((rd_T46 l0 a1).f0)) ∧ w'.cell? ⟨gb161, 1, none⟩ = some (.int .u64 ((rd_T46 l0 a1).f1)) ∧ w'.cell? ⟨gb161, 2, none⟩ = some (.slice A160_2 ((rd_T46 l0 a1).f2).length c160_2)) (ds := []) #[false, false, false, false, false, false, false, false, false, false, false, false, false, false, false, false, false, false, false, false, false, false, false, false, false, false, false, false, false] (by kernel_rfl) rfl rfl ⟨(blk_cell BK161.out 0).trans rfl, (blk_cell BK161.out 1).trans rfl, (blk_cell BK161.out 2).trans rfl⟩ (fun hHeld => ?_); refine with_tabW epicycleref04_Right.tab2 epicycleref04_Right.bits2 (fun HT_ HW_ => ?_)
      generalize w12.drew = w13 at BK161 HB hHeld ⊢
      refine pure_ (i := 0) (N := some 15) (v := ?_) (a' := ?_) #[true, false, false, false, false, false, false, false, false, false, false, false, false, false, false, false, false, false, false, false, false, false, false, false, false, false, false, false, false] rfl rfl (any_of HT_.out (by kernel_rfl)) (fun _ _ _ h => h) (Or.inl ⟨by rfl, ?_⟩) ?_ ?_
      rotate_left
      ·intro w'
       go_simp
       with_reducible rfl
      rotate_left
      ·simp only [Act.put, zA, zB, zC, i64_w, i32_w]
       rfl
      refine take_ (i := 1) (N := some 16) (v := ?_) (a' := ?_) #[true, true, false, false, false, false, false, false, false, false, false, false, false, false, false, false, false, false, false, false, false, false, false, false, false, false, false, false, false] rfl rfl (take_ofW HT_.out HW_.out (by kernel_rfl)) (fun _ _ _ h => h) (Or.inl ⟨by rfl, ?_⟩) hHeld ?_ ?_
      rotate_left
      ·rintro w' ⟨s0, s1, s2⟩
       go_simp
       with_reducible rfl
      rotate_left
      ·simp only [Act.put, zA, zB, zC, i64_w, i32_w]
       rfl
      refine pure_ (i := 2) (N := some 17) (v := ?_) (a' := ?_) #[true, true, true, false, false, false, false, false, false, false, false, false, false, false, false, false, false, false, false, false, false, false, false, false, false, false, false, false, false] rfl rfl (any_of HT_.out (by kernel_rfl)) (fun _ _ _ h => h) (Or.inl ⟨by rfl, ?_⟩) ?_ ?_
      rotate_left
      ·intro w'
       go_simp
       with_reducible rfl
      rotate_left
      ·simp only [Act.put, zA, zB, zC, i64_w, i32_w]
       rfl
      refine pure_ (i := 3) (N := some 18) (v := ?_) (a' := ?_) #[true, true, true, true, false, false, false, false, false, false, false, false, false, false, false, false, false, false, false, false, false, false, false, false, false, false, false, false, false] rfl rfl (any_of HT_.out (by kernel_rfl)) (fun _ _ _ h => h) (Or.inl ⟨by rfl, ?_⟩) ?_ ?_
      rotate_left
      ·intro w'
       go_simp
       with_reducible rfl
      rotate_left
      ·simp only [Act.put, zA, zB, zC, i64_w, i32_w]
       rfl
      refine pure_ (i := 4) (N := some 19) (v := ?_) (a' := ?_) #[true, true, true, true, true, false, false, false, false, false, false, false, false, false, false, false, false, false, false, false, false, false, false, false, false, false, false, false, false] rfl rfl (any_of HT_.out (by kernel_rfl)) (fun _ _ _ h => h) (Or.inl ⟨by rfl, ?_⟩) ?_ ?_
      rotate_left
      ·intro w'
       go_simp
       with_reducible rfl
      rotate_left
      ·simp only [Act.put, zA, zB, zC, i64_w, i32_w]
       rfl
      refine pure_ (i := 5) (N := some 20) (v := ?_) (a' := ?_) #[true, true, true, true, true, true, false, false, false, false, false, false, false, false, false, false, false, false, false, false, false, false, false, false, false, false, false, false, false] rfl rfl (any_of HT_.out (by kernel_rfl)) (fun _ _ _ h => h) (Or.inl ⟨by rfl, ?_⟩) ?_ ?_
      rotate_left
      ·intro w'
       go_simp
       with_reducible rfl
      rotate_left
      ·simp only [Act.put, zA, zB, zC, i64_w, i32_w]
       rfl
      refine take_ (i := 6) (N := some 21) (v := ?_) (a' := ?_) #[true, true, true, true, true, true, true, false, false, false, false, false, false, false, false, false, false, false, false, false, false, false, false, false, false, false, false, false, false] rfl rfl (take_ofW HT_.out HW_.out (by kernel_rfl)) (fun _ _ _ h => h) (Or.inl ⟨by rfl, ?_⟩) hHeld ?_ ?_
      rotate_left
      ·rintro w' ⟨s0, s1, s2⟩
       go_simp
       with_reducible rfl
      rotate_left
      ·simp only [Act.put, zA, zB, zC, i64_w, i32_w]
       rfl
      refine pure_ (i := 7) (N := some 22) (v := ?_) (a' := ?_) #[true, true, true, true, true, true, true, true, false, false, false, false, false, false, false, false, false, false, false, false, false, false, false, false, false, false, false, false, false] rfl rfl (any_of HT_.out (by kernel_rfl)) (fun _ _ _ h => h) (Or.inl ⟨by rfl, ?_⟩) ?_ ?_
      rotate_left
      ·intro w'
       go_simp
       with_reducible rfl
      rotate_left
      ·simp only [Act.put, zA, zB, zC, i64_w, i32_w]
       rfl
      refine pure_ (i := 8) (N := some 23) (v := ?_) (a' := ?_) #[true, true, true, true, true, true, true, true, true, false, false, false, false, false, false, false, false, false, false, false, false, false, false, false, false, false, false, false, false] rfl rfl (any_of HT_.out (by kernel_rfl)) (fun _ _ _ h => h) (Or.inl ⟨by rfl, ?_⟩) ?_ ?_
      rotate_left
      ·intro w'
       go_simp
       with_reducible rfl
      rotate_left
      ·simp only [Act.put, zA, zB, zC, i64_w, i32_w]
       rfl
      refine pure_ (i := 9) (N := some 24) (v := ?_) (a' := ?_) #[true, true, true, true, true, true, true, true, true, true, false, false, false, false, false, false, false, false, false, false, false, false, false, false, false, false, false, false, false] rfl rfl (any_of HT_.out (by kernel_rfl)) (fun _ _ _ h => h) (Or.inl ⟨by rfl, ?_⟩) ?_ ?_
      rotate_left
      ·intro w'
       go_simp
       with_reducible rfl
      rotate_left
      ·simp only [Act.put, zA, zB, zC, i64_w, i32_w]
       rfl
      refine pure_ (i := 10) (N := some 25) (v := undef) (a' := ?_) #[true, true, true, true, true, true, true, true, true, true, true, false, false, false, false, false, false, false, false, false, false, false, false, false, false, false, false, false, false] rfl rfl (any_of HT_.out (by kernel_rfl)) (fun _ _ _ h => h) (Or.inr ⟨by rfl, rfl⟩) ?_ ?_
      rotate_left
      ·simp only [Act.put, zA, zB, zC, i64_w, i32_w]
       rfl
      refine pure_ (i := 11) (N := some 26) (v := undef) (a' := ?_) #[true, true, true, true, true, true, true, true, true, true, true, true, false, false, false, false, false, false, false, false, false, false, false, false, false, false, false, false, false] rfl rfl (any_of HT_.out (by kernel_rfl)) (fun _ _ _ h => h) (Or.inr ⟨by rfl, rfl⟩) ?_ ?_
      rotate_left
      ·simp only [Act.put, zA, zB, zC, i64_w, i32_w]
       rfl
      refine pure_ (i := 12) (N := some 27) (v := undef) (a' := ?_) #[true, true, true, true, true, true, true, true, true, true, true, true, true, false, false, false, false, false, false, false, false, false, false, false, false, false, false, false, false] rfl rfl (any_of HT_.out (by kernel_rfl)) (fun _ _ _ h => h) (Or.inr ⟨by rfl, rfl⟩) ?_ ?_
      rotate_left
      ·simp only [Act.put, zA, zB, zC, i64_w, i32_w]
       rfl
      refine pure_ (i := 13) (N := some 28) (v := ?_) (a' := ?_) #[true, true, true, true, true, true, true, true, true, true, true, true, true, true, false, false, false, false, false, false, false, false, false, false, false, false, false, false, false] rfl rfl (any_of HT_.out (by kernel_rfl)) (fun _ _ _ h => h) (Or.inl ⟨by rfl, ?_⟩) ?_ ?_
      rotate_left
      ·intro w'
       go_simp
       with_reducible rfl
      rotate_left
      ·simp only [Act.put, zA, zB, zC, i64_w, i32_w]
       rfl
      refine pure_ (i := 14) (N := some 29) (v := ?_) (a' := ?_) #[true, true, true, true, true, true, true, true, true, true, true, true, true, true, true, false, false, false, false, false, false, false, false, false, false, false, false, false, false] rfl rfl (any_of HT_.out (by kernel_rfl)) (fun _ _ _ h => h) (Or.inl ⟨by rfl, ?_⟩) ?_ ?_
      rotate_left
      ·intro w'
       go_simp
       with_reducible rfl
      rotate_left
      ·simp only [Act.put, zA, zB, zC, i64_w, i32_w]
       rfl
      refine pure_ (i := 15) (N := some 30) (v := undef) (a' := ?_) #[true, true, true, true, true, true, true, true, true, true, true, true, true, true, true, true, false, false, false, false, false, false, false, false, false, false, false, false, false] rfl rfl (any_of HT_.out (by kernel_rfl)) (fun _ _ _ h => h) (Or.inr ⟨by rfl, rfl⟩) ?_ ?_
      rotate_left
      ·simp only [Act.put, zA, zB, zC, i64_w, i32_w]
       rfl
      refine pure_ (i := 16) (N := some 31) (v := undef) (a' := ?_) #[true, true, true, true, true, true, true, true, true, true, true, true, true, true, true, true, true, false, false, false, false, false, false, false, false, false, false, false, false] rfl rfl (any_of HT_.out (by kernel_rfl)) (fun _ _ _ h => h) (Or.inr ⟨by rfl, rfl⟩) ?_ ?_
      rotate_left
      ·simp only [Act.put, zA, zB, zC, i64_w, i32_w]
       rfl
      refine pure_ (i := 17) (N := some 32) (v := undef) (a' := ?_) #[true, true, true, true, true, true, true, true, true, true, true, true, true, true, true, true, true, true, false, false, false, false, false, false, false, false, false, false, false] rfl rfl (any_of HT_.out (by kernel_rfl)) (fun _ _ _ h => h) (Or.inr ⟨by rfl, rfl⟩) ?_ ?_
      rotate_left
      ·simp only [Act.put, zA, zB, zC, i64_w, i32_w]
       rfl
      refine pure_ (i := 18) (N := some 33) (v := undef) (a' := ?_) #[true, true, true, true, true, true, true, true, true, true, true, true, true, true, true, true, true, true, true, false, false, false, false, false, false, false, false, false, false] rfl rfl (any_of HT_.out (by kernel_rfl)) (fun _ _ _ h => h) (Or.inr ⟨by rfl, rfl⟩) ?_ ?_
      rotate_left
      ·simp only [Act.put, zA, zB, zC, i64_w, i32_w]
       rfl
      refine pure_ (i := 19) (N := some 34) (v := undef) (a' := ?_) #[true, true, true, true, true, true, true, true, true, true, true, true, true, true, true, true, true, true, true, true, false, false, false, false, false, false, false, false, false] rfl rfl (any_of HT_.out (by kernel_rfl)) (fun _ _ _ h => h) (Or.inr ⟨by rfl, rfl⟩) ?_ ?_
      rotate_left
      ·simp only [Act.put, zA, zB, zC, i64_w, i32_w]
       rfl
      refine pure_ (i := 20) (N := some 35) (v := undef) (a' := ?_) #[true, true, true, true, true, true, true, true, true, true, true, true, true, true, true, true, true, true, true, true, true, false, false, false, false, false, false, false, false] rfl rfl (any_of HT_.out (by kernel_rfl)) (fun _ _ _ h => h) (Or.inr ⟨by rfl, rfl⟩) ?_ ?_
      rotate_left
      ·simp only [Act.put, zA, zB, zC, i64_w, i32_w]
       rfl
      refine pure_ (i := 21) (N := some 36) (v := undef) (a' := ?_) #[true, true, true, true, true, true, true, true, true, true, true, true, true, true, true, true, true, true, true, true, true, true, false, false, false, false, false, false, false] rfl rfl (any_of HT_.out (by kernel_rfl)) (fun _ _ _ h => h) (Or.inr ⟨by rfl, rfl⟩) ?_ ?_
      rotate_left
      ·simp only [Act.put, zA, zB, zC, i64_w, i32_w]
       rfl
      refine pure_ (i := 22) (N := some 37) (v := undef) (a' := ?_) #[true, true, true, true, true, true, true, true, true, true, true, true, true, true, true, true, true, true, true, true, true, true, true, false, false, false, false, false, false] rfl rfl (any_of HT_.out (by kernel_rfl)) (fun _ _ _ h => h) (Or.inr ⟨by rfl, rfl⟩) ?_ ?_
      rotate_left
      ·simp only [Act.put, zA, zB, zC, i64_w, i32_w]
       rfl
      refine pure_ (i := 23) (N := some 38) (v := undef) (a' := ?_) #[true, true, true, true, true, true, true, true, true, true, true, true, true, true, true, true, true, true, true, true, true, true, true, true, false, false, false, false, false] rfl rfl (any_of HT_.out (by kernel_rfl)) (fun _ _ _ h => h) (Or.inr ⟨by rfl, rfl⟩) ?_ ?_
      rotate_left
      ·simp only [Act.put, zA, zB, zC, i64_w, i32_w]
       rfl
      refine pure_ (i := 24) (N := some 39) (v := undef) (a' := ?_) #[true, true, true, true, true, true, true, true, true, true, true, true, true, true, true, true, true, true, true, true, true, true, true, true, true, false, false, false, false] rfl rfl (any_of HT_.out (by kernel_rfl)) (fun _ _ _ h => h) (Or.inr ⟨by rfl, rfl⟩) ?_ ?_
      rotate_left
      ·simp only [Act.put, zA, zB, zC, i64_w, i32_w]
       rfl
      refine pure_ (i := 25) (N := some 40) (v := undef) (a' := ?_) #[true, true, true, true, true, true, true, true, true, true, true, true, true, true, true, true, true, true, true, true, true, true, true, true, true, true, false, false, false] rfl rfl (any_of HT_.out (by kernel_rfl)) (fun _ _ _ h => h) (Or.inr ⟨by rfl, rfl⟩) ?_ ?_
      rotate_left
      ·simp only [Act.put, zA, zB, zC, i64_w, i32_w]
       rfl
      refine pure_ (i := 26) (N := some 41) (v := undef) (a' := ?_) #[true, true, true, true, true, true, true, true, true, true, true, true, true, true, true, true, true, true, true, true, true, true, true, true, true, true, true, false, false] rfl rfl (any_of HT_.out (by kernel_rfl)) (fun _ _ _ h => h) (Or.inr ⟨by rfl, rfl⟩) ?_ ?_
      rotate_left
      ·simp only [Act.put, zA, zB, zC, i64_w, i32_w]
       rfl
      refine pure_ (i := 27) (N := some 42) (v := undef) (a' := ?_) #[true, true, true, true, true, true, true, true, true, true, true, true, true, true, true, true, true, true, true, true, true, true, true, true, true, true, true, true, false] rfl rfl (any_of HT_.out (by kernel_rfl)) (fun _ _ _ h => h) (Or.inr ⟨by rfl, rfl⟩) ?_ ?_
      rotate_left
      ·simp only [Act.put, zA, zB, zC, i64_w, i32_w]
       rfl
      refine pure_ (i := 28) (N := some 43) (v := ?_) (a' := ?_) #[true, true, true, true, true, true, true, true, true, true, true, true, true, true, true, true, true, true, true, true, true, true, true, true, true, true, true, true, true] rfl rfl (any_of HT_.out (by kernel_rfl)) (fun _ _ _ h => h) (Or.inl ⟨by rfl, ?_⟩) ?_ ?_
      rotate_left
      ·intro w'
       go_simp
       with_reducible rfl
      rotate_left
      ·simp only [Act.put, zA, zB, zC, i64_w, i32_w]
       rfl
      refine done_ (done_of HT_.out (by kernel_rfl)) ?_
      try go_wp2
      go_meet
      case rel => exact ⟨_, (true), (by first | rfl | (simp; done) | (simp [*]; done)), H', ⟨by first | omega | exact Nat.le_refl _⟩, ⟨by (with_reducible repeat (first | refine blk_drewN ?_ _ | refine blk_drew ?_ | refine blk_alloc ?_ _)); exact BK161.out⟩, ⟨by repeat (first | (with_reducible first | exact HB.out | apply below_alloc | apply pw_below_drewN | apply below_drew1 | refine below_set ?_ GE161.out) | exact HB.out)⟩⟩
     ·rw [if_neg c11] at H
      have c11b0 : decide (((rd_T46 l0 a1).f0) < 3) = false := decide_eq_false c11
      clear c11
      by_cases c14 : ((rd_T46 l0 a1).f0) > 9223372036854775807
      ·rw [if_pos c14] at H
       have c14b0 : decide (9223372036854775807 < ((rd_T46 l0 a1).f0)) = true := decide_eq_true c14
       clear c14
       have H' := Aside0.mk H
       clear H
       try go_wp2
       have n0_ : Aside0 ((((w6.setCell ⟨gb161, 0, none⟩ (.int .u64 ((rd_T46 l0 a1).f0))).setCell ⟨gb161, 1, none⟩ (.int .u64 ((rd_T46 l0 a1).f1))).setCell ⟨gb161, 2, none⟩ (.slice A160_2 ((rd_T46 l0 a1).f2).length c160_2)).heap[gb161]? = some (.cells #[.int .u64 ((rd_T46 l0 a1).f0), .int .u64 ((rd_T46 l0 a1).f1), .slice A160_2 ((rd_T46 l0 a1).f2).length c160_2] 46 (0, 0))) := ⟨by (with_reducible repeat (first | refine blk_drewN ?_ _ | refine blk_drew ?_ | refine blk_alloc ?_ _)); refine blk_put (cs := #[.int .u64 ((rd_T46 l0 a1).f0), .int .u64 ((rd_T46 l0 a1).f1), .slice none 0 0]) ?_ 2 _ rfl; (with_reducible repeat (first | refine blk_drewN ?_ _ | refine blk_drew ?_ | refine blk_alloc ?_ _)); refine blk_put (cs := #[.int .u64 ((rd_T46 l0 a1).f0), .int .u64 0, .slice none 0 0]) ?_ 1 _ rfl; (with_reducible repeat (first | refine blk_drewN ?_ _ | refine blk_drew ?_ | refine blk_alloc ?_ _)); refine blk_put (cs := #[.int .u64 0, .int .u64 0, .slice none 0 0]) ?_ 0 _ rfl; (with_reducible repeat (first | refine blk_drewN ?_ _ | refine blk_drew ?_ | refine blk_alloc ?_ _)); exact BK161.out⟩
       have n1_ : Aside0 (Below w.heap.size w (((w6.setCell ⟨gb161, 0, none⟩ (.int .u64 ((rd_T46 l0 a1).f0))).setCell ⟨gb161, 1, none⟩ (.int .u64 ((rd_T46 l0 a1).f1))).setCell ⟨gb161, 2, none⟩ (.slice A160_2 ((rd_T46 l0 a1).f2).length c160_2))) := ⟨by repeat (first | (with_reducible first | exact HB.out | apply below_alloc | apply pw_below_drewN | apply below_drew1 | refine below_set ?_ GE161.out) | exact HB.out)⟩
       (try clear BK161)
       (try clear HB)
       generalize (((w6.setCell ⟨gb161, 0, none⟩ (.int .u64 ((rd_T46 l0 a1).f0))).setCell ⟨gb161, 1, none⟩ (.int .u64 ((rd_T46 l0 a1).f1))).setCell ⟨gb161, 2, none⟩ (.slice A160_2 ((rd_T46 l0 a1).f2).length c160_2)) = w15 at n0_ n1_ ⊢
       have BK161 := n0_
       have HB := n1_
       clear n0_ n1_
       have n0_ := Aside0.mk (blk_drew BK161.out)
       have n1_ := Aside0.mk (below_drew1 HB.out)
       clear BK161
       clear HB
       have BK161 := n0_
       have HB := n1_
       clear n0_ n1_
       refine start_ (n := 29) (S := fun w' => w'.cell? ⟨gb161, 0, none⟩ = some (.int .u64 ((rd_T46 l0 a1).f0)) ∧ w'.cell? ⟨gb161, 1, none⟩ = some (.int .u64 ((rd_T46 l0 a1).f1)) ∧ w'.cell? ⟨gb161, 2, none⟩ = some (.slice A160_2 ((rd_T46 l0 a1).f2).length c160_2)) (ds := []) #[false, false, false, false, false, false, false, false, false, false, false, false, false, false, false, false, false, false, false, false, false, false, false, false, false, false, false, false, false] (by kernel_rfl) rfl rfl ⟨(blk_cell BK161.out 0).trans rfl, (blk_cell BK161.out 1).trans rfl, (blk_cell BK161.out 2).trans rfl⟩ (fun hHeld => ?_); refine with_tabW epicycleref04_Right.tab2 epicycleref04_Right.bits2 (fun HT_ HW_ => ?_)
       generalize w15.drew = w16 at BK161 HB hHeld ⊢
       refine pure_ (i := 0) (N := some 15) (v := ?_) (a' := ?_) #[true, false, false, false, false, false, false, false, false, false, false, false, false, false, false, false, false, false, false, false, false, false, false, false, false, false, false, false, false] rfl rfl (any_of HT_.out (by kernel_rfl)) (fun _ _ _ h => h) (Or.inl ⟨by rfl, ?_⟩) ?_ ?_
       rotate_left
       ·intro w'
        go_simp
        with_reducible rfl
       rotate_left
       ·simp only [Act.put, zA, zB, zC, i64_w, i32_w]
        rfl
       refine take_ (i := 1) (N := some 16) (v := ?_) (a' := ?_) #[true, true, false, false, false, false, false, false, false, false, false, false, false, false, false, false, false, false, false, false, false, false, false, false, false, false, false, false, false] rfl rfl (take_ofW HT_.out HW_.out (by kernel_rfl)) (fun _ _ _ h => h) (Or.inl ⟨by rfl, ?_⟩) hHeld ?_ ?_
       rotate_left
       ·rintro w' ⟨s0, s1, s2⟩
        go_simp
        with_reducible rfl
       rotate_left
       ·simp only [Act.put, zA, zB, zC, i64_w, i32_w]
        rfl
       refine pure_ (i := 2) (N := some 17) (v := ?_) (a' := ?_) #[true, true, true, false, false, false, false, false, false, false, false, false, false, false, false, false, false, false, false, false, false, false, false, false, false, false, false, false, false] rfl rfl (any_of HT_.out (by kernel_rfl)) (fun _ _ _ h => h) (Or.inl ⟨by rfl, ?_⟩) ?_ ?_
       rotate_left
       ·intro w'
        go_simp
        with_reducible rfl
       rotate_left
       ·simp only [Act.put, zA, zB, zC, i64_w, i32_w]
        rfl
       refine pure_ (i := 3) (N := some 18) (v := ?_) (a' := ?_) #[true, true, true, true, false, false, false, false, false, false, false, false, false, false, false, false, false, false, false, false, false, false, false, false, false, false, false, false, false] rfl rfl (any_of HT_.out (by kernel_rfl)) (fun _ _ _ h => h) (Or.inl ⟨by rfl, ?_⟩) ?_ ?_
       rotate_left
       ·intro w'
        go_simp
        with_reducible rfl
       rotate_left
       ·simp only [Act.put, zA, zB, zC, i64_w, i32_w]
        rfl
       refine pure_ (i := 4) (N := some 19) (v := ?_) (a' := ?_) #[true, true, true, true, true, false, false, false, false, false, false, false, false, false, false, false, false, false, false, false, false, false, false, false, false, false, false, false, false] rfl rfl (any_of HT_.out (by kernel_rfl)) (fun _ _ _ h => h) (Or.inl ⟨by rfl, ?_⟩) ?_ ?_
       rotate_left
       ·intro w'
        go_simp
        with_reducible rfl
       rotate_left
       ·simp only [Act.put, zA, zB, zC, i64_w, i32_w]
        rfl
       refine pure_ (i := 5) (N := some 20) (v := ?_) (a' := ?_) #[true, true, true, true, true, true, false, false, false, false, false, false, false, false, false, false, false, false, false, false, false, false, false, false, false, false, false, false, false] rfl rfl (any_of HT_.out (by kernel_rfl)) (fun _ _ _ h => h) (Or.inl ⟨by rfl, ?_⟩) ?_ ?_
       rotate_left
       ·intro w'
        go_simp
        with_reducible rfl
       rotate_left
       ·simp only [Act.put, zA, zB, zC, i64_w, i32_w]
        rfl
       refine take_ (i := 6) (N := some 21) (v := ?_) (a' := ?_) #[true, true, true, true, true, true, true, false, false, false, false, false, false, false, false, false, false, false, false, false, false, false, false, false, false, false, false, false, false] rfl rfl (take_ofW HT_.out HW_.out (by kernel_rfl)) (fun _ _ _ h => h) (Or.inl ⟨by rfl, ?_⟩) hHeld ?_ ?_
       rotate_left
       ·rintro w' ⟨s0, s1, s2⟩
        go_simp
        with_reducible rfl
       rotate_left
       ·simp only [Act.put, zA, zB, zC, i64_w, i32_w]
        rfl
       refine pure_ (i := 7) (N := some 22) (v := ?_) (a' := ?_) #[true, true, true, true, true, true, true, true, false, false, false, false, false, false, false, false, false, false, false, false, false, false, false, false, false, false, false, false, false] rfl rfl (any_of HT_.out (by kernel_rfl)) (fun _ _ _ h => h) (Or.inl ⟨by rfl, ?_⟩) ?_ ?_
       rotate_left
       ·intro w'
        go_simp
        with_reducible rfl
       rotate_left
       ·simp only [Act.put, zA, zB, zC, i64_w, i32_w]
        rfl
       refine pure_ (i := 8) (N := some 23) (v := ?_) (a' := ?_) #[true, true, true, true, true, true, true, true, true, false, false, false, false, false, false, false, false, false, false, false, false, false, false, false, false, false, false, false, false] rfl rfl (any_of HT_.out (by kernel_rfl)) (fun _ _ _ h => h) (Or.inl ⟨by rfl, ?_⟩) ?_ ?_
       rotate_left
       ·intro w'
        go_simp
        with_reducible rfl
       rotate_left
       ·simp only [Act.put, zA, zB, zC, i64_w, i32_w]
        rfl
       refine pure_ (i := 9) (N := some 24) (v := ?_) (a' := ?_) #[true, true, true, true, true, true, true, true, true, true, false, false, false, false, false, false, false, false, false, false, false, false, false, false, false, false, false, false, false] rfl rfl (any_of HT_.out (by kernel_rfl)) (fun _ _ _ h => h) (Or.inl ⟨by rfl, ?_⟩) ?_ ?_
       rotate_left
       ·intro w'
        go_simp
        with_reducible rfl
       rotate_left
       ·simp only [Act.put, zA, zB, zC, i64_w, i32_w]
        rfl
       refine pure_ (i := 10) (N := some 25) (v := ?_) (a' := ?_) #[true, true, true, true, true, true, true, true, true, true, true, false, false, false, false, false, false, false, false, false, false, false, false, false, false, false, false, false, false] rfl rfl (any_of HT_.out (by kernel_rfl)) (fun _ _ _ h => h) (Or.inl ⟨by rfl, ?_⟩) ?_ ?_
       rotate_left
       ·intro w'
        go_simp
        with_reducible rfl
       rotate_left
       ·simp only [Act.put, zA, zB, zC, i64_w, i32_w]
        rfl
       refine take_ (i := 11) (N := some 26) (v := ?_) (a' := ?_) #[true, true, true, true, true, true, true, true, true, true, true, true, false, false, false, false, false, false, false, false, false, false, false, false, false, false, false, false, false] rfl rfl (take_ofW HT_.out HW_.out (by kernel_rfl)) (fun _ _ _ h => h) (Or.inl ⟨by rfl, ?_⟩) hHeld ?_ ?_
       rotate_left
       ·rintro w' ⟨s0, s1, s2⟩
        go_simp
        with_reducible rfl
       rotate_left
       ·simp only [Act.put, zA, zB, zC, i64_w, i32_w]
        rfl
       refine pure_ (i := 12) (N := some 27) (v := ?_) (a' := ?_) #[true, true, true, true, true, true, true, true, true, true, true, true, true, false, false, false, false, false, false, false, false, false, false, false, false, false, false, false, false] rfl rfl (any_of HT_.out (by kernel_rfl)) (fun _ _ _ h => h) (Or.inl ⟨by rfl, ?_⟩) ?_ ?_
       rotate_left
       ·intro w'
        go_simp
        with_reducible rfl
       rotate_left
       ·simp only [Act.put, zA, zB, zC, i64_w, i32_w]
        rfl
       refine pure_ (i := 13) (N := some 28) (v := ?_) (a' := ?_) #[true, true, true, true, true, true, true, true, true, true, true, true, true, true, false, false, false, false, false, false, false, false, false, false, false, false, false, false, false] rfl rfl (any_of HT_.out (by kernel_rfl)) (fun _ _ _ h => h) (Or.inl ⟨by rfl, ?_⟩) ?_ ?_
       rotate_left
       ·intro w'
        go_simp
        with_reducible rfl
       rotate_left
       ·simp only [Act.put, zA, zB, zC, i64_w, i32_w]
        rfl
       refine pure_ (i := 14) (N := some 29) (v := ?_) (a' := ?_) #[true, true, true, true, true, true, true, true, true, true, true, true, true, true, true, false, false, false, false, false, false, false, false, false, false, false, false, false, false] rfl rfl (any_of HT_.out (by kernel_rfl)) (fun _ _ _ h => h) (Or.inl ⟨by rfl, ?_⟩) ?_ ?_
       rotate_left
       ·intro w'
        go_simp
        with_reducible rfl
       rotate_left
       ·simp only [Act.put, zA, zB, zC, i64_w, i32_w]
        rfl
       refine pure_ (i := 15) (N := some 30) (v := undef) (a' := ?_) #[true, true, true, true, true, true, true, true, true, true, true, true, true, true, true, true, false, false, false, false, false, false, false, false, false, false, false, false, false] rfl rfl (any_of HT_.out (by kernel_rfl)) (fun _ _ _ h => h) (Or.inr ⟨by rfl, rfl⟩) ?_ ?_
       rotate_left
       ·simp only [Act.put, zA, zB, zC, i64_w, i32_w]
        rfl
       refine pure_ (i := 16) (N := some 31) (v := undef) (a' := ?_) #[true, true, true, true, true, true, true, true, true, true, true, true, true, true, true, true, true, false, false, false, false, false, false, false, false, false, false, false, false] rfl rfl (any_of HT_.out (by kernel_rfl)) (fun _ _ _ h => h) (Or.inr ⟨by rfl, rfl⟩) ?_ ?_
       rotate_left
       ·simp only [Act.put, zA, zB, zC, i64_w, i32_w]
        rfl
       refine pure_ (i := 17) (N := some 32) (v := undef) (a' := ?_) #[true, true, true, true, true, true, true, true, true, true, true, true, true, true, true, true, true, true, false, false, false, false, false, false, false, false, false, false, false] rfl rfl (any_of HT_.out (by kernel_rfl)) (fun _ _ _ h => h) (Or.inr ⟨by rfl, rfl⟩) ?_ ?_
       rotate_left
       ·simp only [Act.put, zA, zB, zC, i64_w, i32_w]
        rfl
       refine pure_ (i := 18) (N := some 33) (v := undef) (a' := ?_) #[true, true, true, true, true, true, true, true, true, true, true, true, true, true, true, true, true, true, true, false, false, false, false, false, false, false, false, false, false] rfl rfl (any_of HT_.out (by kernel_rfl)) (fun _ _ _ h => h) (Or.inr ⟨by rfl, rfl⟩) ?_ ?_
       rotate_left
       ·simp only [Act.put, zA, zB, zC, i64_w, i32_w]
        rfl
       refine pure_ (i := 19) (N := some 34) (v := undef) (a' := ?_) #[true, true, true, true, true, true, true, true, true, true, true, true, true, true, true, true, true, true, true, true, false, false, false, false, false, false, false, false, false] rfl rfl (any_of HT_.out (by kernel_rfl)) (fun _ _ _ h => h) (Or.inr ⟨by rfl, rfl⟩) ?_ ?_
       rotate_left
       ·simp only [Act.put, zA, zB, zC, i64_w, i32_w]
        rfl
       refine pure_ (i := 20) (N := some 35) (v := undef) (a' := ?_) #[true, true, true, true, true, true, true, true, true, true, true, true, true, true, true, true, true, true, true, true, true, false, false, false, false, false, false, false, false] rfl rfl (any_of HT_.out (by kernel_rfl)) (fun _ _ _ h => h) (Or.inr ⟨by rfl, rfl⟩) ?_ ?_
       rotate_left
       ·simp only [Act.put, zA, zB, zC, i64_w, i32_w]
        rfl
       refine pure_ (i := 21) (N := some 36) (v := undef) (a' := ?_) #[true, true, true, true, true, true, true, true, true, true, true, true, true, true, true, true, true, true, true, true, true, true, false, false, false, false, false, false, false] rfl rfl (any_of HT_.out (by kernel_rfl)) (fun _ _ _ h => h) (Or.inr ⟨by rfl, rfl⟩) ?_ ?_
       rotate_left
       ·simp only [Act.put, zA, zB, zC, i64_w, i32_w]
        rfl
       refine pure_ (i := 22) (N := some 37) (v := undef) (a' := ?_) #[true, true, true, true, true, true, true, true, true, true, true, true, true, true, true, true, true, true, true, true, true, true, true, false, false, false, false, false, false] rfl rfl (any_of HT_.out (by kernel_rfl)) (fun _ _ _ h => h) (Or.inr ⟨by rfl, rfl⟩) ?_ ?_
       rotate_left
       ·simp only [Act.put, zA, zB, zC, i64_w, i32_w]
        rfl
       refine pure_ (i := 23) (N := some 38) (v := undef) (a' := ?_) #[true, true, true, true, true, true, true, true, true, true, true, true, true, true, true, true, true, true, true, true, true, true, true, true, false, false, false, false, false] rfl rfl (any_of HT_.out (by kernel_rfl)) (fun _ _ _ h => h) (Or.inr ⟨by rfl, rfl⟩) ?_ ?_
       rotate_left
       ·simp only [Act.put, zA, zB, zC, i64_w, i32_w]
        rfl
       refine pure_ (i := 24) (N := some 39) (v := undef) (a' := ?_) #[true, true, true, true, true, true, true, true, true, true, true, true, true, true, true, true, true, true, true, true, true, true, true, true, true, false, false, false, false] rfl rfl (any_of HT_.out (by kernel_rfl)) (fun _ _ _ h => h) (Or.inr ⟨by rfl, rfl⟩) ?_ ?_
       rotate_left
       ·simp only [Act.put, zA, zB, zC, i64_w, i32_w]
        rfl
       refine pure_ (i := 25) (N := some 40) (v := undef) (a' := ?_) #[true, true, true, true, true, true, true, true, true, true, true, true, true, true, true, true, true, true, true, true, true, true, true, true, true, true, false, false, false] rfl rfl (any_of HT_.out (by kernel_rfl)) (fun _ _ _ h => h) (Or.inr ⟨by rfl, rfl⟩) ?_ ?_
       rotate_left
       ·simp only [Act.put, zA, zB, zC, i64_w, i32_w]
        rfl
       refine pure_ (i := 26) (N := some 41) (v := undef) (a' := ?_) #[true, true, true, true, true, true, true, true, true, true, true, true, true, true, true, true, true, true, true, true, true, true, true, true, true, true, true, false, false] rfl rfl (any_of HT_.out (by kernel_rfl)) (fun _ _ _ h => h) (Or.inr ⟨by rfl, rfl⟩) ?_ ?_
       rotate_left
       ·simp only [Act.put, zA, zB, zC, i64_w, i32_w]
        rfl
       refine pure_ (i := 27) (N := some 42) (v := undef) (a' := ?_) #[true, true, true, true, true, true, true, true, true, true, true, true, true, true, true, true, true, true, true, true, true, true, true, true, true, true, true, true, false] rfl rfl (any_of HT_.out (by kernel_rfl)) (fun _ _ _ h => h) (Or.inr ⟨by rfl, rfl⟩) ?_ ?_
       rotate_left
       ·simp only [Act.put, zA, zB, zC, i64_w, i32_w]
        rfl
       refine pure_ (i := 28) (N := some 43) (v := ?_) (a' := ?_) #[true, true, true, true, true, true, true, true, true, true, true, true, true, true, true, true, true, true, true, true, true, true, true, true, true, true, true, true, true] rfl rfl (any_of HT_.out (by kernel_rfl)) (fun _ _ _ h => h) (Or.inl ⟨by rfl, ?_⟩) ?_ ?_
       rotate_left
       ·intro w'
        go_simp
        with_reducible rfl
       rotate_left
       ·simp only [Act.put, zA, zB, zC, i64_w, i32_w]
        rfl
       refine done_ (done_of HT_.out (by kernel_rfl)) ?_
       try go_wp2
       go_meet
       case rel => exact ⟨_, (true), (by first | rfl | (simp; done) | (simp [*]; done)), H', ⟨by first | omega | exact Nat.le_refl _⟩, ⟨by (with_reducible repeat (first | refine blk_drewN ?_ _ | refine blk_drew ?_ | refine blk_alloc ?_ _)); exact BK161.out⟩, ⟨by repeat (first | (with_reducible first | exact HB.out | apply below_alloc | apply pw_below_drewN | apply below_drew1 | refine below_set ?_ GE161.out) | exact HB.out)⟩⟩
      ·rw [if_neg c14] at H
       have c14b0 : decide (9223372036854775807 < ((rd_T46 l0 a1).f0)) = false := decide_eq_false c14
       clear c14
       by_cases c17 : a1 > 0
       ·rw [if_pos c17] at H
        have c17b0 : decide (0 < a1) = true := decide_eq_true c17
        clear c17
        obtain ⟨ji18, hji18⟩ : ∃ j_ : Int, (wrap64 (a1 - 1)) = j_ := ⟨_, rfl⟩
        replace H : (if 0 ≤ (ji18) then (if (ji18) < (l0.length : Int) then (epicycleref04_Right.j0 k l0 a1 (decide (((rd_T46 l0 (ji18)).f0) ≥ ((rd_T46 l0 a1).f0))) ((rd_T46 l0 a1).f0) ((rd_T46 l0 a1).f1) ((rd_T46 l0 a1).f2)) else (none)) else (none)) = some r := by first | (rw [hji18] at H <;> exact H) | (simp only [hji18] at H ⊢; exact H)
        have hji18w : (IntKind.i64.wrap (a1 - 1)) = ji18 := (i64_w _).trans hji18
        by_cases c19 : 0 ≤ (ji18)
        ·rw [if_pos c19] at H
         have c19b0 : decide (0 ≤ (ji18)) = true := decide_eq_true c19
         clear c19
         by_cases c20 : (ji18) < (l0.length : Int)
         ·rw [if_pos c20] at H
          have c20b0 : decide ((ji18) < (l0.length : Int)) = true := decide_eq_true c20
          clear c20
          have H' := Aside0.mk H
          clear H
          try go_wp2
          have n0_ : Aside0 ((((w6.setCell ⟨gb161, 0, none⟩ (.int .u64 ((rd_T46 l0 a1).f0))).setCell ⟨gb161, 1, none⟩ (.int .u64 ((rd_T46 l0 a1).f1))).setCell ⟨gb161, 2, none⟩ (.slice A160_2 ((rd_T46 l0 a1).f2).length c160_2)).heap[gb161]? = some (.cells #[.int .u64 ((rd_T46 l0 a1).f0), .int .u64 ((rd_T46 l0 a1).f1), .slice A160_2 ((rd_T46 l0 a1).f2).length c160_2] 46 (0, 0))) := ⟨by (with_reducible repeat (first | refine blk_drewN ?_ _ | refine blk_drew ?_ | refine blk_alloc ?_ _)); refine blk_put (cs := #[.int .u64 ((rd_T46 l0 a1).f0), .int .u64 ((rd_T46 l0 a1).f1), .slice none 0 0]) ?_ 2 _ rfl; (with_reducible repeat (first | refine blk_drewN ?_ _ | refine blk_drew ?_ | refine blk_alloc ?_ _)); refine blk_put (cs := #[.int .u64 ((rd_T46 l0 a1).f0), .int .u64 0, .slice none 0 0]) ?_ 1 _ rfl; (with_reducible repeat (first | refine blk_drewN ?_ _ | refine blk_drew ?_ | refine blk_alloc ?_ _)); refine blk_put (cs := #[.int .u64 0, .int .u64 0, .slice none 0 0]) ?_ 0 _ rfl; (with_reducible repeat (first | refine blk_drewN ?_ _ | refine blk_drew ?_ | refine blk_alloc ?_ _)); exact BK161.out⟩
          have n1_ : Aside0 (Below w.heap.size w (((w6.setCell ⟨gb161, 0, none⟩ (.int .u64 ((rd_T46 l0 a1).f0))).setCell ⟨gb161, 1, none⟩ (.int .u64 ((rd_T46 l0 a1).f1))).setCell ⟨gb161, 2, none⟩ (.slice A160_2 ((rd_T46 l0 a1).f2).length c160_2))) := ⟨by repeat (first | (with_reducible first | exact HB.out | apply below_alloc | apply pw_below_drewN | apply below_drew1 | refine below_set ?_ GE161.out) | exact HB.out)⟩
          (try clear BK161)
          (try clear HB)
          generalize (((w6.setCell ⟨gb161, 0, none⟩ (.int .u64 ((rd_T46 l0 a1).f0))).setCell ⟨gb161, 1, none⟩ (.int .u64 ((rd_T46 l0 a1).f1))).setCell ⟨gb161, 2, none⟩ (.slice A160_2 ((rd_T46 l0 a1).f2).length c160_2)) = w21 at n0_ n1_ ⊢
          have BK161 := n0_
          have HB := n1_
          clear n0_ n1_
          have n0_ := Aside0.mk (blk_drew BK161.out)
          have n1_ := Aside0.mk (below_drew1 HB.out)
          clear BK161
          clear HB
          have BK161 := n0_
          have HB := n1_
          clear n0_ n1_
          have p162 : 0 ≤ ((ji18) : Int) := of_decide_eq_true (by first | (with_reducible assumption) | assumption)
          have q162 : (ji18) < (l0.length : Int) := of_decide_eq_true (by first | (with_reducible assumption) | assumption)
          obtain ⟨ad162, A162_2, c162_2, e162, hx162_0, hx162_1, hx162_2, hl162_2, hi162_2⟩ := at_T46 HR0.out (ji18) p162 q162
          have hw162_2 := hx162_2
          have hw162_1 := hx162_1
          have hw162_0 := hx162_0
          obtain rfl : ad160 = ad162 := (by injection e162)
          replace hx162_0 := (HB.out.cell (World.block_lt_of_cell? w _ hx162_0)).trans hx162_0
          replace hx162_1 := (HB.out.cell (World.block_lt_of_cell? w _ hx162_1)).trans hx162_1
          replace hx162_2 := (HB.out.cell (World.block_lt_of_cell? w _ hx162_2)).trans hx162_2
          have HR162_2 := Aside0.mk hi162_2
          have HC162_2 := Aside0.mk hl162_2
          clear hi162_2 hl162_2
          replace p162 := eq_true p162
          replace q162 := eq_true q162
          refine start_ (n := 29) (S := fun w' => w'.cell? ⟨gb161, 0, none⟩ = some (.int .u64 ((rd_T46 l0 a1).f0)) ∧ w'.cell? ⟨gb161, 1, none⟩ = some (.int .u64 ((rd_T46 l0 a1).f1)) ∧ w'.cell? ⟨gb161, 2, none⟩ = some (.slice A160_2 ((rd_T46 l0 a1).f2).length c160_2) ∧ w'.cell? (ad160.add (((ji18)).toNat * 3)) = some (.int .u64 ((rd_T46 l0 (ji18)).f0)) ∧ w'.cell? ⟨(ad160.add (((ji18)).toNat * 3)).block, (ad160.add (((ji18)).toNat * 3)).off + 1, none⟩ = some (.int .u64 ((rd_T46 l0 (ji18)).f1)) ∧ w'.cell? ⟨(ad160.add (((ji18)).toNat * 3)).block, (ad160.add (((ji18)).toNat * 3)).off + 2, none⟩ = some (.slice A162_2 ((rd_T46 l0 (ji18)).f2).length c162_2)) (ds := []) #[false, false, false, false, false, false, false, false, false, false, false, false, false, false, false, false, false, false, false, false, false, false, false, false, false, false, false, false, false] (by kernel_rfl) rfl rfl ⟨(blk_cell BK161.out 0).trans rfl, (blk_cell BK161.out 1).trans rfl, (blk_cell BK161.out 2).trans rfl, ((HB.out.cell (World.block_lt_of_cell? w _ hw162_0)).trans hw162_0), ((HB.out.cell (World.block_lt_of_cell? w _ hw162_1)).trans hw162_1), ((HB.out.cell (World.block_lt_of_cell? w _ hw162_2)).trans hw162_2)⟩ (fun hHeld => ?_); refine with_tabW epicycleref04_Right.tab2 epicycleref04_Right.bits2 (fun HT_ HW_ => ?_)
          generalize w21.drew = w22 at BK161 HB HR162_2 hx162_0 hx162_1 hx162_2 hHeld ⊢
          refine pure_ (i := 0) (N := some 15) (v := ?_) (a' := ?_) #[true, false, false, false, false, false, false, false, false, false, false, false, false, false, false, false, false, false, false, false, false, false, false, false, false, false, false, false, false] rfl rfl (any_of HT_.out (by kernel_rfl)) (fun _ _ _ h => h) (Or.inl ⟨by rfl, ?_⟩) ?_ ?_
          rotate_left
          ·intro w'
           go_simp
           with_reducible rfl
          rotate_left
          ·simp only [Act.put, zA, zB, zC, i64_w, i32_w]
           rfl
          refine take_ (i := 1) (N := some 16) (v := ?_) (a' := ?_) #[true, true, false, false, false, false, false, false, false, false, false, false, false, false, false, false, false, false, false, false, false, false, false, false, false, false, false, false, false] rfl rfl (take_ofW HT_.out HW_.out (by kernel_rfl)) (fun _ _ _ h => h) (Or.inl ⟨by rfl, ?_⟩) hHeld ?_ ?_
          rotate_left
          ·rintro w' ⟨s0, s1, s2, s3, s4, s5⟩
           go_simp
           with_reducible rfl
          rotate_left
          ·simp only [Act.put, zA, zB, zC, i64_w, i32_w]
           rfl
          refine pure_ (i := 2) (N := some 17) (v := ?_) (a' := ?_) #[true, true, true, false, false, false, false, false, false, false, false, false, false, false, false, false, false, false, false, false, false, false, false, false, false, false, false, false, false] rfl rfl (any_of HT_.out (by kernel_rfl)) (fun _ _ _ h => h) (Or.inl ⟨by rfl, ?_⟩) ?_ ?_
          rotate_left
          ·intro w'
           go_simp
           with_reducible rfl
          rotate_left
          ·simp only [Act.put, zA, zB, zC, i64_w, i32_w]
           rfl
          refine pure_ (i := 3) (N := some 18) (v := ?_) (a' := ?_) #[true, true, true, true, false, false, false, false, false, false, false, false, false, false, false, false, false, false, false, false, false, false, false, false, false, false, false, false, false] rfl rfl (any_of HT_.out (by kernel_rfl)) (fun _ _ _ h => h) (Or.inl ⟨by rfl, ?_⟩) ?_ ?_
          rotate_left
          ·intro w'
           go_simp
           with_reducible rfl
          rotate_left
          ·simp only [Act.put, zA, zB, zC, i64_w, i32_w]
           rfl
          refine pure_ (i := 4) (N := some 19) (v := ?_) (a' := ?_) #[true, true, true, true, true, false, false, false, false, false, false, false, false, false, false, false, false, false, false, false, false, false, false, false, false, false, false, false, false] rfl rfl (any_of HT_.out (by kernel_rfl)) (fun _ _ _ h => h) (Or.inl ⟨by rfl, ?_⟩) ?_ ?_
          rotate_left
          ·intro w'
           go_simp
           with_reducible rfl
          rotate_left
          ·simp only [Act.put, zA, zB, zC, i64_w, i32_w]
           rfl
          refine pure_ (i := 5) (N := some 20) (v := ?_) (a' := ?_) #[true, true, true, true, true, true, false, false, false, false, false, false, false, false, false, false, false, false, false, false, false, false, false, false, false, false, false, false, false] rfl rfl (any_of HT_.out (by kernel_rfl)) (fun _ _ _ h => h) (Or.inl ⟨by rfl, ?_⟩) ?_ ?_
          rotate_left
          ·intro w'
           go_simp
           with_reducible rfl
          rotate_left
          ·simp only [Act.put, zA, zB, zC, i64_w, i32_w]
           rfl
          refine take_ (i := 6) (N := some 21) (v := ?_) (a' := ?_) #[true, true, true, true, true, true, true, false, false, false, false, false, false, false, false, false, false, false, false, false, false, false, false, false, false, false, false, false, false] rfl rfl (take_ofW HT_.out HW_.out (by kernel_rfl)) (fun _ _ _ h => h) (Or.inl ⟨by rfl, ?_⟩) hHeld ?_ ?_
          rotate_left
          ·rintro w' ⟨s0, s1, s2, s3, s4, s5⟩
           go_simp
           with_reducible rfl
          rotate_left
          ·simp only [Act.put, zA, zB, zC, i64_w, i32_w]
           rfl
          refine pure_ (i := 7) (N := some 22) (v := ?_) (a' := ?_) #[true, true, true, true, true, true, true, true, false, false, false, false, false, false, false, false, false, false, false, false, false, false, false, false, false, false, false, false, false] rfl rfl (any_of HT_.out (by kernel_rfl)) (fun _ _ _ h => h) (Or.inl ⟨by rfl, ?_⟩) ?_ ?_
          rotate_left
          ·intro w'
           go_simp
           with_reducible rfl
          rotate_left
          ·simp only [Act.put, zA, zB, zC, i64_w, i32_w]
           rfl
          refine pure_ (i := 8) (N := some 23) (v := ?_) (a' := ?_) #[true, true, true, true, true, true, true, true, true, false, false, false, false, false, false, false, false, false, false, false, false, false, false, false, false, false, false, false, false] rfl rfl (any_of HT_.out (by kernel_rfl)) (fun _ _ _ h => h) (Or.inl ⟨by rfl, ?_⟩) ?_ ?_
          rotate_left
          ·intro w'
           go_simp
           with_reducible rfl
          rotate_left
          ·simp only [Act.put, zA, zB, zC, i64_w, i32_w]
           rfl
          refine pure_ (i := 9) (N := some 24) (v := ?_) (a' := ?_) #[true, true, true, true, true, true, true, true, true, true, false, false, false, false, false, false, false, false, false, false, false, false, false, false, false, false, false, false, false] rfl rfl (any_of HT_.out (by kernel_rfl)) (fun _ _ _ h => h) (Or.inl ⟨by rfl, ?_⟩) ?_ ?_
          rotate_left
          ·intro w'
           go_simp
           with_reducible rfl
          rotate_left
          ·simp only [Act.put, zA, zB, zC, i64_w, i32_w]
           rfl
          refine pure_ (i := 10) (N := some 25) (v := ?_) (a' := ?_) #[true, true, true, true, true, true, true, true, true, true, true, false, false, false, false, false, false, false, false, false, false, false, false, false, false, false, false, false, false] rfl rfl (any_of HT_.out (by kernel_rfl)) (fun _ _ _ h => h) (Or.inl ⟨by rfl, ?_⟩) ?_ ?_
          rotate_left
          ·intro w'
           go_simp
           with_reducible rfl
          rotate_left
          ·simp only [Act.put, zA, zB, zC, i64_w, i32_w]
           rfl
          refine take_ (i := 11) (N := some 26) (v := ?_) (a' := ?_) #[true, true, true, true, true, true, true, true, true, true, true, true, false, false, false, false, false, false, false, false, false, false, false, false, false, false, false, false, false] rfl rfl (take_ofW HT_.out HW_.out (by kernel_rfl)) (fun _ _ _ h => h) (Or.inl ⟨by rfl, ?_⟩) hHeld ?_ ?_
          rotate_left
          ·rintro w' ⟨s0, s1, s2, s3, s4, s5⟩
           go_simp
           with_reducible rfl
          rotate_left
          ·simp only [Act.put, zA, zB, zC, i64_w, i32_w]
           rfl
          refine pure_ (i := 12) (N := some 27) (v := ?_) (a' := ?_) #[true, true, true, true, true, true, true, true, true, true, true, true, true, false, false, false, false, false, false, false, false, false, false, false, false, false, false, false, false] rfl rfl (any_of HT_.out (by kernel_rfl)) (fun _ _ _ h => h) (Or.inl ⟨by rfl, ?_⟩) ?_ ?_
          rotate_left
          ·intro w'
           go_simp
           with_reducible rfl
          rotate_left
          ·simp only [Act.put, zA, zB, zC, i64_w, i32_w]
           rfl
          refine pure_ (i := 13) (N := some 28) (v := ?_) (a' := ?_) #[true, true, true, true, true, true, true, true, true, true, true, true, true, true, false, false, false, false, false, false, false, false, false, false, false, false, false, false, false] rfl rfl (any_of HT_.out (by kernel_rfl)) (fun _ _ _ h => h) (Or.inl ⟨by rfl, ?_⟩) ?_ ?_
          rotate_left
          ·intro w'
           go_simp
           with_reducible rfl
          rotate_left
          ·simp only [Act.put, zA, zB, zC, i64_w, i32_w]
           rfl
          refine pure_ (i := 14) (N := some 29) (v := ?_) (a' := ?_) #[true, true, true, true, true, true, true, true, true, true, true, true, true, true, true, false, false, false, false, false, false, false, false, false, false, false, false, false, false] rfl rfl (any_of HT_.out (by kernel_rfl)) (fun _ _ _ h => h) (Or.inl ⟨by rfl, ?_⟩) ?_ ?_
          rotate_left
          ·intro w'
           go_simp
           with_reducible rfl
          rotate_left
          ·simp only [Act.put, zA, zB, zC, i64_w, i32_w]
           rfl
          refine pure_ (i := 15) (N := some 30) (v := ?_) (a' := ?_) #[true, true, true, true, true, true, true, true, true, true, true, true, true, true, true, true, false, false, false, false, false, false, false, false, false, false, false, false, false] rfl rfl (any_of HT_.out (by kernel_rfl)) (fun _ _ _ h => h) (Or.inl ⟨by rfl, ?_⟩) ?_ ?_
          rotate_left
          ·intro w'
           go_simp
           with_reducible rfl
          rotate_left
          ·simp only [Act.put, zA, zB, zC, i64_w, i32_w]
           rfl
          refine pure_ (i := 16) (N := some 31) (v := ?_) (a' := ?_) #[true, true, true, true, true, true, true, true, true, true, true, true, true, true, true, true, true, false, false, false, false, false, false, false, false, false, false, false, false] rfl rfl (any_of HT_.out (by kernel_rfl)) (fun _ _ _ h => h) (Or.inl ⟨by rfl, ?_⟩) ?_ ?_
          rotate_left
          ·intro w'
           go_simp
           with_reducible rfl
          rotate_left
          ·simp only [Act.put, zA, zB, zC, i64_w, i32_w]
           rfl
          refine pure_ (i := 17) (N := some 32) (v := ?_) (a' := ?_) #[true, true, true, true, true, true, true, true, true, true, true, true, true, true, true, true, true, true, false, false, false, false, false, false, false, false, false, false, false] rfl rfl (any_of HT_.out (by kernel_rfl)) (fun _ _ _ h => h) (Or.inl ⟨by rfl, ?_⟩) ?_ ?_
          rotate_left
          ·intro w'
           go_simp
           with_reducible rfl
          rotate_left
          ·simp only [Act.put, zA, zB, zC, i64_w, i32_w]
           rfl
          refine pure_ (i := 18) (N := some 33) (v := ?_) (a' := ?_) #[true, true, true, true, true, true, true, true, true, true, true, true, true, true, true, true, true, true, true, false, false, false, false, false, false, false, false, false, false] rfl rfl (any_of HT_.out (by kernel_rfl)) (fun _ _ _ h => h) (Or.inl ⟨by rfl, ?_⟩) ?_ ?_
          rotate_left
          ·intro w'
           go_simp
           with_reducible rfl
          rotate_left
          ·simp only [Act.put, zA, zB, zC, i64_w, i32_w]
           rfl
          refine pure_ (i := 19) (N := some 34) (v := ?_) (a' := ?_) #[true, true, true, true, true, true, true, true, true, true, true, true, true, true, true, true, true, true, true, true, false, false, false, false, false, false, false, false, false] rfl rfl (any_of HT_.out (by kernel_rfl)) (fun _ _ _ h => h) (Or.inl ⟨by rfl, ?_⟩) ?_ ?_
          rotate_left
          ·intro w'
           go_simp
           with_reducible rfl
          rotate_left
          ·simp only [Act.put, zA, zB, zC, i64_w, i32_w]
           rfl
          refine pure_ (i := 20) (N := some 35) (v := ?_) (a' := ?_) #[true, true, true, true, true, true, true, true, true, true, true, true, true, true, true, true, true, true, true, true, true, false, false, false, false, false, false, false, false] rfl rfl (any_of HT_.out (by kernel_rfl)) (fun _ _ _ h => h) (Or.inl ⟨by rfl, ?_⟩) ?_ ?_
          rotate_left
          ·intro w'
           go_simp
           with_reducible rfl
          rotate_left
          ·simp only [Act.put, zA, zB, zC, i64_w, i32_w]
           rfl
          refine pure_ (i := 21) (N := some 36) (v := ?_) (a' := ?_) #[true, true, true, true, true, true, true, true, true, true, true, true, true, true, true, true, true, true, true, true, true, true, false, false, false, false, false, false, false] rfl rfl (any_of HT_.out (by kernel_rfl)) (fun _ _ _ h => h) (Or.inl ⟨by rfl, ?_⟩) ?_ ?_
          rotate_left
          ·intro w'
           go_simp
           with_reducible rfl
          rotate_left
          ·simp only [Act.put, zA, zB, zC, i64_w, i32_w]
           rfl
          refine pure_ (i := 22) (N := some 37) (v := ?_) (a' := ?_) #[true, true, true, true, true, true, true, true, true, true, true, true, true, true, true, true, true, true, true, true, true, true, true, false, false, false, false, false, false] rfl rfl (any_of HT_.out (by kernel_rfl)) (fun _ _ _ h => h) (Or.inl ⟨by rfl, ?_⟩) ?_ ?_
          rotate_left
          ·intro w'
           go_simp
           with_reducible rfl
          rotate_left
          ·simp only [Act.put, zA, zB, zC, i64_w, i32_w]
           rfl
          refine pure_ (i := 24) (N := some 39) (v := ?_) (a' := ?_) #[true, true, true, true, true, true, true, true, true, true, true, true, true, true, true, true, true, true, true, true, true, true, true, false, true, false, false, false, false] rfl rfl (any_of HT_.out (by kernel_rfl)) (fun _ _ _ h => h) (Or.inl ⟨by rfl, ?_⟩) ?_ ?_
          rotate_left
          ·intro w'
           go_simp
           with_reducible rfl
          rotate_left
          ·simp only [Act.put, zA, zB, zC, i64_w, i32_w]
           rfl
          refine take_ (i := 23) (N := some 38) (v := ?_) (a' := ?_) #[true, true, true, true, true, true, true, true, true, true, true, true, true, true, true, true, true, true, true, true, true, true, true, true, true, false, false, false, false] rfl rfl (take_ofW HT_.out HW_.out (by kernel_rfl)) (fun _ _ _ h => h) (Or.inl ⟨by rfl, ?_⟩) hHeld ?_ ?_
          rotate_left
          ·rintro w' ⟨s0, s1, s2, s3, s4, s5⟩
           go_simp
           with_reducible rfl
          rotate_left
          ·simp only [Act.put, zA, zB, zC, i64_w, i32_w]
           rfl
          refine take_ (i := 25) (N := some 40) (v := ?_) (a' := ?_) #[true, true, true, true, true, true, true, true, true, true, true, true, true, true, true, true, true, true, true, true, true, true, true, true, true, true, false, false, false] rfl rfl (take_ofW HT_.out HW_.out (by kernel_rfl)) (fun _ _ _ h => h) (Or.inl ⟨by rfl, ?_⟩) hHeld ?_ ?_
          rotate_left
          ·rintro w' ⟨s0, s1, s2, s3, s4, s5⟩
           go_simp
           with_reducible rfl
          rotate_left
          ·simp only [Act.put, zA, zB, zC, i64_w, i32_w]
           rfl
          refine pure_ (i := 26) (N := some 41) (v := ?_) (a' := ?_) #[true, true, true, true, true, true, true, true, true, true, true, true, true, true, true, true, true, true, true, true, true, true, true, true, true, true, true, false, false] rfl rfl (any_of HT_.out (by kernel_rfl)) (fun _ _ _ h => h) (Or.inl ⟨by rfl, ?_⟩) ?_ ?_
          rotate_left
          ·intro w'
           go_simp
           with_reducible rfl
          rotate_left
          ·simp only [Act.put, zA, zB, zC, i64_w, i32_w]
           rfl
          refine pure_ (i := 27) (N := some 42) (v := ?_) (a' := ?_) #[true, true, true, true, true, true, true, true, true, true, true, true, true, true, true, true, true, true, true, true, true, true, true, true, true, true, true, true, false] rfl rfl (any_of HT_.out (by kernel_rfl)) (fun _ _ _ h => h) (Or.inl ⟨by rfl, ?_⟩) ?_ ?_
          rotate_left
          ·intro w'
           go_simp
           with_reducible rfl
          rotate_left
          ·simp only [Act.put, zA, zB, zC, i64_w, i32_w]
           rfl
          refine pure_ (i := 28) (N := some 43) (v := ?_) (a' := ?_) #[true, true, true, true, true, true, true, true, true, true, true, true, true, true, true, true, true, true, true, true, true, true, true, true, true, true, true, true, true] rfl rfl (any_of HT_.out (by kernel_rfl)) (fun _ _ _ h => h) (Or.inl ⟨by rfl, ?_⟩) ?_ ?_
          rotate_left
          ·intro w'
           go_simp
           with_reducible rfl
          rotate_left
          ·simp only [Act.put, zA, zB, zC, i64_w, i32_w]
           rfl
          refine done_ (done_of HT_.out (by kernel_rfl)) ?_
          try go_wp2
          go_meet
          case rel => exact ⟨_, (decide (((rd_T46 l0 (ji18)).f0) ≥ ((rd_T46 l0 a1).f0))), (by first | rfl | (simp; done) | (simp only [← hji18] <;> (first | rfl | simp)) | (simp [*]; done)), H', ⟨by first | omega | exact Nat.le_refl _⟩, ⟨by (with_reducible repeat (first | refine blk_drewN ?_ _ | refine blk_drew ?_ | refine blk_alloc ?_ _)); exact BK161.out⟩, ⟨by repeat (first | (with_reducible first | exact HB.out | apply below_alloc | apply pw_below_drewN | apply below_drew1 | refine below_set ?_ GE161.out) | exact HB.out)⟩⟩
         ·rw [if_neg c20] at H
          exact absurd H (by simp)
        ·rw [if_neg c19] at H
         exact absurd H (by simp)
       ·rw [if_neg c17] at H
        have c17b0 : decide (0 < a1) = false := decide_eq_false c17
        clear c17
        have H' := Aside0.mk H
        clear H
        try go_wp2
        have n0_ : Aside0 ((((w6.setCell ⟨gb161, 0, none⟩ (.int .u64 ((rd_T46 l0 a1).f0))).setCell ⟨gb161, 1, none⟩ (.int .u64 ((rd_T46 l0 a1).f1))).setCell ⟨gb161, 2, none⟩ (.slice A160_2 ((rd_T46 l0 a1).f2).length c160_2)).heap[gb161]? = some (.cells #[.int .u64 ((rd_T46 l0 a1).f0), .int .u64 ((rd_T46 l0 a1).f1), .slice A160_2 ((rd_T46 l0 a1).f2).length c160_2] 46 (0, 0))) := ⟨by (with_reducible repeat (first | refine blk_drewN ?_ _ | refine blk_drew ?_ | refine blk_alloc ?_ _)); refine blk_put (cs := #[.int .u64 ((rd_T46 l0 a1).f0), .int .u64 ((rd_T46 l0 a1).f1), .slice none 0 0]) ?_ 2 _ rfl; (with_reducible repeat (first | refine blk_drewN ?_ _ | refine blk_drew ?_ | refine blk_alloc ?_ _)); refine blk_put (cs := #[.int .u64 ((rd_T46 l0 a1).f0), .int .u64 0, .slice none 0 0]) ?_ 1 _ rfl; (with_reducible repeat (first | refine blk_drewN ?_ _ | refine blk_drew ?_ | refine blk_alloc ?_ _)); refine blk_put (cs := #[.int .u64 0, .int .u64 0, .slice none 0 0]) ?_ 0 _ rfl; (with_reducible repeat (first | refine blk_drewN ?_ _ | refine blk_drew ?_ | refine blk_alloc ?_ _)); exact BK161.out⟩
        have n1_ : Aside0 (Below w.heap.size w (((w6.setCell ⟨gb161, 0, none⟩ (.int .u64 ((rd_T46 l0 a1).f0))).setCell ⟨gb161, 1, none⟩ (.int .u64 ((rd_T46 l0 a1).f1))).setCell ⟨gb161, 2, none⟩ (.slice A160_2 ((rd_T46 l0 a1).f2).length c160_2))) := ⟨by repeat (first | (with_reducible first | exact HB.out | apply below_alloc | apply pw_below_drewN | apply below_drew1 | refine below_set ?_ GE161.out) | exact HB.out)⟩
        (try clear BK161)
        (try clear HB)
        generalize (((w6.setCell ⟨gb161, 0, none⟩ (.int .u64 ((rd_T46 l0 a1).f0))).setCell ⟨gb161, 1, none⟩ (.int .u64 ((rd_T46 l0 a1).f1))).setCell ⟨gb161, 2, none⟩ (.slice A160_2 ((rd_T46 l0 a1).f2).length c160_2)) = w23 at n0_ n1_ ⊢
        have BK161 := n0_
        have HB := n1_
        clear n0_ n1_
        have n0_ := Aside0.mk (blk_drew BK161.out)
        have n1_ := Aside0.mk (below_drew1 HB.out)
        clear BK161
        clear HB
        have BK161 := n0_
        have HB := n1_
        clear n0_ n1_
        refine start_ (n := 29) (S := fun w' => w'.cell? ⟨gb161, 0, none⟩ = some (.int .u64 ((rd_T46 l0 a1).f0)) ∧ w'.cell? ⟨gb161, 1, none⟩ = some (.int .u64 ((rd_T46 l0 a1).f1)) ∧ w'.cell? ⟨gb161, 2, none⟩ = some (.slice A160_2 ((rd_T46 l0 a1).f2).length c160_2)) (ds := []) #[false, false, false, false, false, false, false, false, false, false, false, false, false, false, false, false, false, false, false, false, false, false, false, false, false, false, false, false, false] (by kernel_rfl) rfl rfl ⟨(blk_cell BK161.out 0).trans rfl, (blk_cell BK161.out 1).trans rfl, (blk_cell BK161.out 2).trans rfl⟩ (fun hHeld => ?_); refine with_tabW epicycleref04_Right.tab2 epicycleref04_Right.bits2 (fun HT_ HW_ => ?_)
        generalize w23.drew = w24 at BK161 HB hHeld ⊢
        refine pure_ (i := 0) (N := some 15) (v := ?_) (a' := ?_) #[true, false, false, false, false, false, false, false, false, false, false, false, false, false, false, false, false, false, false, false, false, false, false, false, false, false, false, false, false] rfl rfl (any_of HT_.out (by kernel_rfl)) (fun _ _ _ h => h) (Or.inl ⟨by rfl, ?_⟩) ?_ ?_
        rotate_left
        ·intro w'
         go_simp
         with_reducible rfl
        rotate_left
        ·simp only [Act.put, zA, zB, zC, i64_w, i32_w]
         rfl
        refine take_ (i := 1) (N := some 16) (v := ?_) (a' := ?_) #[true, true, false, false, false, false, false, false, false, false, false, false, false, false, false, false, false, false, false, false, false, false, false, false, false, false, false, false, false] rfl rfl (take_ofW HT_.out HW_.out (by kernel_rfl)) (fun _ _ _ h => h) (Or.inl ⟨by rfl, ?_⟩) hHeld ?_ ?_
        rotate_left
        ·rintro w' ⟨s0, s1, s2⟩
         go_simp
         with_reducible rfl
        rotate_left
        ·simp only [Act.put, zA, zB, zC, i64_w, i32_w]
         rfl
        refine pure_ (i := 2) (N := some 17) (v := ?_) (a' := ?_) #[true, true, true, false, false, false, false, false, false, false, false, false, false, false, false, false, false, false, false, false, false, false, false, false, false, false, false, false, false] rfl rfl (any_of HT_.out (by kernel_rfl)) (fun _ _ _ h => h) (Or.inl ⟨by rfl, ?_⟩) ?_ ?_
        rotate_left
        ·intro w'
         go_simp
         with_reducible rfl
        rotate_left
        ·simp only [Act.put, zA, zB, zC, i64_w, i32_w]
         rfl
        refine pure_ (i := 3) (N := some 18) (v := ?_) (a' := ?_) #[true, true, true, true, false, false, false, false, false, false, false, false, false, false, false, false, false, false, false, false, false, false, false, false, false, false, false, false, false] rfl rfl (any_of HT_.out (by kernel_rfl)) (fun _ _ _ h => h) (Or.inl ⟨by rfl, ?_⟩) ?_ ?_
        rotate_left
        ·intro w'
         go_simp
         with_reducible rfl
        rotate_left
        ·simp only [Act.put, zA, zB, zC, i64_w, i32_w]
         rfl
        refine pure_ (i := 4) (N := some 19) (v := ?_) (a' := ?_) #[true, true, true, true, true, false, false, false, false, false, false, false, false, false, false, false, false, false, false, false, false, false, false, false, false, false, false, false, false] rfl rfl (any_of HT_.out (by kernel_rfl)) (fun _ _ _ h => h) (Or.inl ⟨by rfl, ?_⟩) ?_ ?_
        rotate_left
        ·intro w'
         go_simp
         with_reducible rfl
        rotate_left
        ·simp only [Act.put, zA, zB, zC, i64_w, i32_w]
         rfl
        refine pure_ (i := 5) (N := some 20) (v := ?_) (a' := ?_) #[true, true, true, true, true, true, false, false, false, false, false, false, false, false, false, false, false, false, false, false, false, false, false, false, false, false, false, false, false] rfl rfl (any_of HT_.out (by kernel_rfl)) (fun _ _ _ h => h) (Or.inl ⟨by rfl, ?_⟩) ?_ ?_
        rotate_left
        ·intro w'
         go_simp
         with_reducible rfl
        rotate_left
        ·simp only [Act.put, zA, zB, zC, i64_w, i32_w]
         rfl
        refine take_ (i := 6) (N := some 21) (v := ?_) (a' := ?_) #[true, true, true, true, true, true, true, false, false, false, false, false, false, false, false, false, false, false, false, false, false, false, false, false, false, false, false, false, false] rfl rfl (take_ofW HT_.out HW_.out (by kernel_rfl)) (fun _ _ _ h => h) (Or.inl ⟨by rfl, ?_⟩) hHeld ?_ ?_
        rotate_left
        ·rintro w' ⟨s0, s1, s2⟩
         go_simp
         with_reducible rfl
        rotate_left
        ·simp only [Act.put, zA, zB, zC, i64_w, i32_w]
         rfl
        refine pure_ (i := 7) (N := some 22) (v := ?_) (a' := ?_) #[true, true, true, true, true, true, true, true, false, false, false, false, false, false, false, false, false, false, false, false, false, false, false, false, false, false, false, false, false] rfl rfl (any_of HT_.out (by kernel_rfl)) (fun _ _ _ h => h) (Or.inl ⟨by rfl, ?_⟩) ?_ ?_
        rotate_left
        ·intro w'
         go_simp
         with_reducible rfl
        rotate_left
        ·simp only [Act.put, zA, zB, zC, i64_w, i32_w]
         rfl
        refine pure_ (i := 8) (N := some 23) (v := ?_) (a' := ?_) #[true, true, true, true, true, true, true, true, true, false, false, false, false, false, false, false, false, false, false, false, false, false, false, false, false, false, false, false, false] rfl rfl (any_of HT_.out (by kernel_rfl)) (fun _ _ _ h => h) (Or.inl ⟨by rfl, ?_⟩) ?_ ?_
        rotate_left
        ·intro w'
         go_simp
         with_reducible rfl
        rotate_left
        ·simp only [Act.put, zA, zB, zC, i64_w, i32_w]
         rfl
        refine pure_ (i := 9) (N := some 24) (v := ?_) (a' := ?_) #[true, true, true, true, true, true, true, true, true, true, false, false, false, false, false, false, false, false, false, false, false, false, false, false, false, false, false, false, false] rfl rfl (any_of HT_.out (by kernel_rfl)) (fun _ _ _ h => h) (Or.inl ⟨by rfl, ?_⟩) ?_ ?_
        rotate_left
        ·intro w'
         go_simp
         with_reducible rfl
        rotate_left
        ·simp only [Act.put, zA, zB, zC, i64_w, i32_w]
         rfl
        refine pure_ (i := 10) (N := some 25) (v := ?_) (a' := ?_) #[true, true, true, true, true, true, true, true, true, true, true, false, false, false, false, false, false, false, false, false, false, false, false, false, false, false, false, false, false] rfl rfl (any_of HT_.out (by kernel_rfl)) (fun _ _ _ h => h) (Or.inl ⟨by rfl, ?_⟩) ?_ ?_
        rotate_left
        ·intro w'
         go_simp
         with_reducible rfl
        rotate_left
        ·simp only [Act.put, zA, zB, zC, i64_w, i32_w]
         rfl
        refine take_ (i := 11) (N := some 26) (v := ?_) (a' := ?_) #[true, true, true, true, true, true, true, true, true, true, true, true, false, false, false, false, false, false, false, false, false, false, false, false, false, false, false, false, false] rfl rfl (take_ofW HT_.out HW_.out (by kernel_rfl)) (fun _ _ _ h => h) (Or.inl ⟨by rfl, ?_⟩) hHeld ?_ ?_
        rotate_left
        ·rintro w' ⟨s0, s1, s2⟩
         go_simp
         with_reducible rfl
        rotate_left
        ·simp only [Act.put, zA, zB, zC, i64_w, i32_w]
         rfl
        refine pure_ (i := 12) (N := some 27) (v := ?_) (a' := ?_) #[true, true, true, true, true, true, true, true, true, true, true, true, true, false, false, false, false, false, false, false, false, false, false, false, false, false, false, false, false] rfl rfl (any_of HT_.out (by kernel_rfl)) (fun _ _ _ h => h) (Or.inl ⟨by rfl, ?_⟩) ?_ ?_
        rotate_left
        ·intro w'
         go_simp
         with_reducible rfl
        rotate_left
        ·simp only [Act.put, zA, zB, zC, i64_w, i32_w]
         rfl
        refine pure_ (i := 13) (N := some 28) (v := ?_) (a' := ?_) #[true, true, true, true, true, true, true, true, true, true, true, true, true, true, false, false, false, false, false, false, false, false, false, false, false, false, false, false, false] rfl rfl (any_of HT_.out (by kernel_rfl)) (fun _ _ _ h => h) (Or.inl ⟨by rfl, ?_⟩) ?_ ?_
        rotate_left
        ·intro w'
         go_simp
         with_reducible rfl
        rotate_left
        ·simp only [Act.put, zA, zB, zC, i64_w, i32_w]
         rfl
        refine pure_ (i := 14) (N := some 29) (v := ?_) (a' := ?_) #[true, true, true, true, true, true, true, true, true, true, true, true, true, true, true, false, false, false, false, false, false, false, false, false, false, false, false, false, false] rfl rfl (any_of HT_.out (by kernel_rfl)) (fun _ _ _ h => h) (Or.inl ⟨by rfl, ?_⟩) ?_ ?_
        rotate_left
        ·intro w'
         go_simp
         with_reducible rfl
        rotate_left
        ·simp only [Act.put, zA, zB, zC, i64_w, i32_w]
         rfl
        refine pure_ (i := 15) (N := some 30) (v := ?_) (a' := ?_) #[true, true, true, true, true, true, true, true, true, true, true, true, true, true, true, true, false, false, false, false, false, false, false, false, false, false, false, false, false] rfl rfl (any_of HT_.out (by kernel_rfl)) (fun _ _ _ h => h) (Or.inl ⟨by rfl, ?_⟩) ?_ ?_
        rotate_left
        ·intro w'
         go_simp
         with_reducible rfl
        rotate_left
        ·simp only [Act.put, zA, zB, zC, i64_w, i32_w]
         rfl
        refine pure_ (i := 16) (N := some 31) (v := ?_) (a' := ?_) #[true, true, true, true, true, true, true, true, true, true, true, true, true, true, true, true, true, false, false, false, false, false, false, false, false, false, false, false, false] rfl rfl (any_of HT_.out (by kernel_rfl)) (fun _ _ _ h => h) (Or.inl ⟨by rfl, ?_⟩) ?_ ?_
        rotate_left
        ·intro w'
         go_simp
         with_reducible rfl
        rotate_left
        ·simp only [Act.put, zA, zB, zC, i64_w, i32_w]
         rfl
        refine pure_ (i := 17) (N := some 32) (v := ?_) (a' := ?_) #[true, true, true, true, true, true, true, true, true, true, true, true, true, true, true, true, true, true, false, false, false, false, false, false, false, false, false, false, false] rfl rfl (any_of HT_.out (by kernel_rfl)) (fun _ _ _ h => h) (Or.inl ⟨by rfl, ?_⟩) ?_ ?_
        rotate_left
        ·intro w'
         go_simp
         with_reducible rfl
        rotate_left
        ·simp only [Act.put, zA, zB, zC, i64_w, i32_w]
         rfl
        refine pure_ (i := 18) (N := some 33) (v := undef) (a' := ?_) #[true, true, true, true, true, true, true, true, true, true, true, true, true, true, true, true, true, true, true, false, false, false, false, false, false, false, false, false, false] rfl rfl (any_of HT_.out (by kernel_rfl)) (fun _ _ _ h => h) (Or.inr ⟨by rfl, rfl⟩) ?_ ?_
        rotate_left
        ·simp only [Act.put, zA, zB, zC, i64_w, i32_w]
         rfl
        refine pure_ (i := 19) (N := some 34) (v := undef) (a' := ?_) #[true, true, true, true, true, true, true, true, true, true, true, true, true, true, true, true, true, true, true, true, false, false, false, false, false, false, false, false, false] rfl rfl (any_of HT_.out (by kernel_rfl)) (fun _ _ _ h => h) (Or.inr ⟨by rfl, rfl⟩) ?_ ?_
        rotate_left
        ·simp only [Act.put, zA, zB, zC, i64_w, i32_w]
         rfl
        refine pure_ (i := 20) (N := some 35) (v := undef) (a' := ?_) #[true, true, true, true, true, true, true, true, true, true, true, true, true, true, true, true, true, true, true, true, true, false, false, false, false, false, false, false, false] rfl rfl (any_of HT_.out (by kernel_rfl)) (fun _ _ _ h => h) (Or.inr ⟨by rfl, rfl⟩) ?_ ?_
        rotate_left
        ·simp only [Act.put, zA, zB, zC, i64_w, i32_w]
         rfl
        refine pure_ (i := 21) (N := some 36) (v := undef) (a' := ?_) #[true, true, true, true, true, true, true, true, true, true, true, true, true, true, true, true, true, true, true, true, true, true, false, false, false, false, false, false, false] rfl rfl (any_of HT_.out (by kernel_rfl)) (fun _ _ _ h => h) (Or.inr ⟨by rfl, rfl⟩) ?_ ?_
        rotate_left
        ·simp only [Act.put, zA, zB, zC, i64_w, i32_w]
         rfl
        refine pure_ (i := 22) (N := some 37) (v := undef) (a' := ?_) #[true, true, true, true, true, true, true, true, true, true, true, true, true, true, true, true, true, true, true, true, true, true, true, false, false, false, false, false, false] rfl rfl (any_of HT_.out (by kernel_rfl)) (fun _ _ _ h => h) (Or.inr ⟨by rfl, rfl⟩) ?_ ?_
        rotate_left
        ·simp only [Act.put, zA, zB, zC, i64_w, i32_w]
         rfl
        refine pure_ (i := 23) (N := some 38) (v := undef) (a' := ?_) #[true, true, true, true, true, true, true, true, true, true, true, true, true, true, true, true, true, true, true, true, true, true, true, true, false, false, false, false, false] rfl rfl (any_of HT_.out (by kernel_rfl)) (fun _ _ _ h => h) (Or.inr ⟨by rfl, rfl⟩) ?_ ?_
        rotate_left
        ·simp only [Act.put, zA, zB, zC, i64_w, i32_w]
         rfl
        refine pure_ (i := 24) (N := some 39) (v := undef) (a' := ?_) #[true, true, true, true, true, true, true, true, true, true, true, true, true, true, true, true, true, true, true, true, true, true, true, true, true, false, false, false, false] rfl rfl (any_of HT_.out (by kernel_rfl)) (fun _ _ _ h => h) (Or.inr ⟨by rfl, rfl⟩) ?_ ?_
        rotate_left
        ·simp only [Act.put, zA, zB, zC, i64_w, i32_w]
         rfl
        refine pure_ (i := 25) (N := some 40) (v := undef) (a' := ?_) #[true, true, true, true, true, true, true, true, true, true, true, true, true, true, true, true, true, true, true, true, true, true, true, true, true, true, false, false, false] rfl rfl (any_of HT_.out (by kernel_rfl)) (fun _ _ _ h => h) (Or.inr ⟨by rfl, rfl⟩) ?_ ?_
        rotate_left
        ·simp only [Act.put, zA, zB, zC, i64_w, i32_w]
         rfl
        refine pure_ (i := 26) (N := some 41) (v := undef) (a' := ?_) #[true, true, true, true, true, true, true, true, true, true, true, true, true, true, true, true, true, true, true, true, true, true, true, true, true, true, true, false, false] rfl rfl (any_of HT_.out (by kernel_rfl)) (fun _ _ _ h => h) (Or.inr ⟨by rfl, rfl⟩) ?_ ?_
        rotate_left
        ·simp only [Act.put, zA, zB, zC, i64_w, i32_w]
         rfl
        refine pure_ (i := 27) (N := some 42) (v := ?_) (a' := ?_) #[true, true, true, true, true, true, true, true, true, true, true, true, true, true, true, true, true, true, true, true, true, true, true, true, true, true, true, true, false] rfl rfl (any_of HT_.out (by kernel_rfl)) (fun _ _ _ h => h) (Or.inl ⟨by rfl, ?_⟩) ?_ ?_
        rotate_left
        ·intro w'
         go_simp
         with_reducible rfl
        rotate_left
        ·simp only [Act.put, zA, zB, zC, i64_w, i32_w]
         rfl
        refine pure_ (i := 28) (N := some 43) (v := ?_) (a' := ?_) #[true, true, true, true, true, true, true, true, true, true, true, true, true, true, true, true, true, true, true, true, true, true, true, true, true, true, true, true, true] rfl rfl (any_of HT_.out (by kernel_rfl)) (fun _ _ _ h => h) (Or.inl ⟨by rfl, ?_⟩) ?_ ?_
        rotate_left
        ·intro w'
         go_simp
         with_reducible rfl
        rotate_left
        ·simp only [Act.put, zA, zB, zC, i64_w, i32_w]
         rfl
        refine done_ (done_of HT_.out (by kernel_rfl)) ?_
        try go_wp2
        go_meet
        case rel => exact ⟨_, (false), (by first | rfl | (simp; done) | (simp [*]; done)), H', ⟨by first | omega | exact Nat.le_refl _⟩, ⟨by (with_reducible repeat (first | refine blk_drewN ?_ _ | refine blk_drew ?_ | refine blk_alloc ?_ _)); exact BK161.out⟩, ⟨by repeat (first | (with_reducible first | exact HB.out | apply below_alloc | apply pw_below_drewN | apply below_drew1 | refine below_set ?_ GE161.out) | exact HB.out)⟩⟩
   case rest =>
    clear HC5
    try clear c1
    try clear p1
    try clear q1
    try clear hx1
    try clear c2
    try clear p2
    try clear p6
    try clear c14
    try clear c14b0
    try clear c16
    try clear p16
    try clear q16
    try clear hx16
    try clear c17
    try clear c17b0
    try clear c19
    try clear c19b0
    try clear c20
    try clear c20b0
    try clear hx162_0
    try clear hx162_1
    try clear hx162_2
    try clear p162
    try clear q162
    obtain ⟨kq, x43_4, rfl, HA, HJ4, BK161, HB⟩ := hcut
    cases kq with
    | zero => exact absurd HA.out (by simp [epicycleref04_Right.j0])
    | succ kj4 =>
     have H := HA.out
     clear HA
     simp only [epicycleref04_Right.j0] at H
     by_cases c25 : x43_4 = true
     ·subst c25
      have H1 : (some false) = some r := by rw [if_pos rfl] at H <;> exact H
      clear H
      have H := H1
      clear H1
      obtain rfl := Option.some.inj H
      go_wp2
      go_ret
      exact ⟨by first | rfl | (simp [errW_none, errW_some] <;> rfl) | (simp [*, errW_none, errW_some] <;> rfl), by repeat (first | (with_reducible first | exact HB.out | apply below_alloc | apply pw_below_drewN | apply below_drew1 | refine below_set ?_ GE161.out) | exact HB.out)⟩
     ·replace c25 := Bool.eq_false_iff.mpr c25
      subst c25
      have H1 : (if (((rd_T46 l0 a1).f2).length : Int) < 1 then (epicycleref04_Right.j1 kj4 l0 a1 true ((rd_T46 l0 a1).f0) ((rd_T46 l0 a1).f1) ((rd_T46 l0 a1).f2)) else (if (((rd_T46 l0 a1).f2).length : Int) > 16 then (epicycleref04_Right.j1 kj4 l0 a1 true ((rd_T46 l0 a1).f0) ((rd_T46 l0 a1).f1) ((rd_T46 l0 a1).f2)) else (if 0 < (((rd_T46 l0 a1).f2).length : Int) then (epicycleref04_Right.j1 kj4 l0 a1 (((rd_T60 ((rd_T46 l0 a1).f2) 0).f0) != 2) ((rd_T46 l0 a1).f0) ((rd_T46 l0 a1).f1) ((rd_T46 l0 a1).f2)) else (none)))) = some r := by rw [if_neg (show ¬ (false = true) by decide)] at H <;> exact H
      clear H
      have H := H1
      clear H1
      have HC26 := Aside0.mk H
      clear H
      go_upto_region 4 with (fail)
      go_cut [61] (fun v61 wc => ∃ (kq : Nat) (x61_25 : Bool), v61 = .bool x61_25 ∧ Aside0 (epicycleref04_Right.j1 kq l0 a1 x61_25 ((rd_T46 l0 a1).f0) ((rd_T46 l0 a1).f1) ((rd_T46 l0 a1).f2) = some r) ∧ Aside0 (kq ≤ kj4) ∧ Aside0 (wc.heap[gb161]? = some (.cells #[.int .u64 ((rd_T46 l0 a1).f0), .int .u64 ((rd_T46 l0 a1).f1), (.slice A160_2 ((rd_T46 l0 a1).f2).length c160_2)] 46 (0, 0))) ∧ Aside0 (Below w.heap.size w wc))
      case first =>
       have H := HC26.out
       clear HC26
       by_cases c27 : (((rd_T46 l0 a1).f2).length : Int) < 1
       ·rw [if_pos c27] at H
        have c27b0 : decide ((((rd_T46 l0 a1).f2).length : Int) < 1) = true := decide_eq_true c27
        have c27b1 : decide (((rd_T46 l0 a1).f2).length < 1) = true := decide_eq_true (by omega)
        clear c27
        (first | rw [c27b0] | (simp only [i64_w, i32_w]; rw [c27b0]) | skip)
        have H' := Aside0.mk H
        clear H
        have hcz28_0 : wc.cell? ⟨gb161, 0, none⟩ = some (.int .u64 ((rd_T46 l0 a1).f0)) := (blk_cell BK161.out 0).trans rfl
        have hcz28_1 : wc.cell? ⟨gb161, 1, none⟩ = some (.int .u64 ((rd_T46 l0 a1).f1)) := (blk_cell BK161.out 1).trans rfl
        have hcz28_2 : wc.cell? ⟨gb161, 2, none⟩ = some (.slice A160_2 ((rd_T46 l0 a1).f2).length c160_2) := (blk_cell BK161.out 2).trans rfl
        have hfz28_0 := blk_frozen BK161.out 0
        have hfz28_1 := blk_frozen BK161.out 1
        have hfz28_2 := blk_frozen BK161.out 2
        go_wp2
        go_meet
        case rel => exact ⟨_, (true), (by first | rfl | (simp; done) | (simp [*]; done)), H', ⟨by have := HJ4.out; first | omega | exact Nat.le_refl _⟩, ⟨by (with_reducible repeat (first | refine blk_drewN ?_ _ | refine blk_drew ?_ | refine blk_alloc ?_ _)); exact BK161.out⟩, ⟨by repeat (first | (with_reducible first | exact HB.out | apply below_alloc | apply pw_below_drewN | apply below_drew1 | refine below_set ?_ GE161.out) | exact HB.out)⟩⟩
       ·rw [if_neg c27] at H
        have c27b0 : decide ((((rd_T46 l0 a1).f2).length : Int) < 1) = false := decide_eq_false c27
        have c27b1 : decide (((rd_T46 l0 a1).f2).length < 1) = false := decide_eq_false (by omega)
        clear c27
        (first | rw [c27b0] | (simp only [i64_w, i32_w]; rw [c27b0]) | skip)
        by_cases c29 : (((rd_T46 l0 a1).f2).length : Int) > 16
        ·rw [if_pos c29] at H
         have c29b0 : decide (16 < (((rd_T46 l0 a1).f2).length : Int)) = true := decide_eq_true c29
         have c29b1 : decide (16 < ((rd_T46 l0 a1).f2).length) = true := decide_eq_true (by omega)
         clear c29
         have H' := Aside0.mk H
         clear H
         have hcz30_0 : wc.cell? ⟨gb161, 0, none⟩ = some (.int .u64 ((rd_T46 l0 a1).f0)) := (blk_cell BK161.out 0).trans rfl
         have hcz30_1 : wc.cell? ⟨gb161, 1, none⟩ = some (.int .u64 ((rd_T46 l0 a1).f1)) := (blk_cell BK161.out 1).trans rfl
         have hcz30_2 : wc.cell? ⟨gb161, 2, none⟩ = some (.slice A160_2 ((rd_T46 l0 a1).f2).length c160_2) := (blk_cell BK161.out 2).trans rfl
         have hfz30_0 := blk_frozen BK161.out 0
         have hfz30_1 := blk_frozen BK161.out 1
         have hfz30_2 := blk_frozen BK161.out 2
         go_wp2
         go_meet
         case rel => exact ⟨_, (true), (by first | rfl | (simp; done) | (simp [*]; done)), H', ⟨by have := HJ4.out; first | omega | exact Nat.le_refl _⟩, ⟨by (with_reducible repeat (first | refine blk_drewN ?_ _ | refine blk_drew ?_ | refine blk_alloc ?_ _)); exact BK161.out⟩, ⟨by repeat (first | (with_reducible first | exact HB.out | apply below_alloc | apply pw_below_drewN | apply below_drew1 | refine below_set ?_ GE161.out) | exact HB.out)⟩⟩
        ·rw [if_neg c29] at H
         have c29b0 : decide (16 < (((rd_T46 l0 a1).f2).length : Int)) = false := decide_eq_false c29
         have c29b1 : decide (16 < ((rd_T46 l0 a1).f2).length) = false := decide_eq_false (by omega)
         clear c29
         by_cases c31 : 0 < (((rd_T46 l0 a1).f2).length : Int)
         ·rw [if_pos c31] at H
          have c31b0 : decide (0 < (((rd_T46 l0 a1).f2).length : Int)) = true := decide_eq_true c31
          have c31b1 : decide (0 < ((rd_T46 l0 a1).f2).length) = true := decide_eq_true (by omega)
          clear c31
          have H' := Aside0.mk H
          clear H
          have hcz32_0 : wc.cell? ⟨gb161, 0, none⟩ = some (.int .u64 ((rd_T46 l0 a1).f0)) := (blk_cell BK161.out 0).trans rfl
          have hcz32_1 : wc.cell? ⟨gb161, 1, none⟩ = some (.int .u64 ((rd_T46 l0 a1).f1)) := (blk_cell BK161.out 1).trans rfl
          have hcz32_2 : wc.cell? ⟨gb161, 2, none⟩ = some (.slice A160_2 ((rd_T46 l0 a1).f2).length c160_2) := (blk_cell BK161.out 2).trans rfl
          have hfz32_0 := blk_frozen BK161.out 0
          have hfz32_1 := blk_frozen BK161.out 1
          have hfz32_2 := blk_frozen BK161.out 2
          have p163 : 0 ≤ (0 : Int) := (by omega)
          have q163 : 0 < (((rd_T46 l0 a1).f2).length : Int) := of_decide_eq_true (by first | (with_reducible assumption) | assumption)
          obtain ⟨ad163, e163, hx163_0, hx163_1⟩ := at_T60 HR160_2.out 0 p163 q163
          cases e163
          have qi163 : (0 < ((rd_T46 l0 a1).f2).length) = True := eq_true (by omega)
          (try rw [show ((0 : Int)).toNat = 0 from rfl] at hx163_0)
          (try rw [show 0 * 2 = 0 from rfl] at hx163_0)
          (try rw [Addr.add_zero'] at hx163_0)
          (try rw [show ((0 : Int)).toNat = 0 from rfl] at hx163_1)
          (try rw [show 0 * 2 = 0 from rfl] at hx163_1)
          (try rw [Addr.add_zero'] at hx163_1)
          replace hx163_0 := (HB.out.cell (World.block_lt_of_cell? w _ hx163_0)).trans hx163_0
          replace hx163_1 := (HB.out.cell (World.block_lt_of_cell? w _ hx163_1)).trans hx163_1
          replace p163 := eq_true p163
          replace q163 := eq_true q163
          go_wp2
          go_meet
          case rel => exact ⟨_, ((((rd_T60 ((rd_T46 l0 a1).f2) 0).f0) != 2)), (by first | rfl | (simp; done) | (simp [*]; done)), H', ⟨by have := HJ4.out; first | omega | exact Nat.le_refl _⟩, ⟨by (with_reducible repeat (first | refine blk_drewN ?_ _ | refine blk_drew ?_ | refine blk_alloc ?_ _)); exact BK161.out⟩, ⟨by repeat (first | (with_reducible first | exact HB.out | apply below_alloc | apply pw_below_drewN | apply below_drew1 | refine below_set ?_ GE161.out) | exact HB.out)⟩⟩
         ·rw [if_neg c31] at H
          exact absurd H (by simp)
      case rest =>
       clear HC26
       try clear c1
       try clear p1
       try clear q1
       try clear hx1
       try clear qi1
       try clear c2
       try clear p2
       try clear c3
       try clear p6
       try clear c14
       try clear c14b0
       try clear c16
       try clear p16
       try clear q16
       try clear hx16
       try clear qi16
       try clear c17
       try clear c17b0
       try clear c19
       try clear c19b0
       try clear c20
       try clear c20b0
       try clear c25
       try clear c27
       try clear c27b0
       try clear c27b1
       try clear c29
       try clear c29b0
       try clear c29b1
       try clear c31
       try clear c31b0
       try clear c31b1
       try clear hcz28_0
       try clear hcz28_1
       try clear hcz28_2
       try clear hcz30_0
       try clear hcz30_1
       try clear hcz30_2
       try clear hcz32_0
       try clear hcz32_1
       try clear hcz32_2
       try clear hfz28_0
       try clear hfz28_1
       try clear hfz28_2
       try clear hfz30_0
       try clear hfz30_1
       try clear hfz30_2
       try clear hfz32_0
       try clear hfz32_1
       try clear hfz32_2
       try clear hx162_0
       try clear hx162_1
       try clear hx162_2
       try clear hx163_0
       try clear hx163_1
       try clear p1
       try clear p16
       try clear p162
       try clear p163
       try clear p2
       try clear p6
       try clear q1
       try clear q16
       try clear q162
       try clear q163
       obtain ⟨kq, x61_25, rfl, HA, HJ25, BK161, HB⟩ := hcut
       cases kq with
       | zero => exact absurd HA.out (by simp [epicycleref04_Right.j1])
       | succ kj25 =>
        have H := HA.out
        clear HA
        simp only [epicycleref04_Right.j1] at H
        by_cases c33 : x61_25 = true
        ·subst c33
         have H1 : (some false) = some r := by rw [if_pos rfl] at H <;> exact H
         clear H
         have H := H1
         clear H1
         obtain rfl := Option.some.inj H
         go_wp2
         go_ret
         exact ⟨by first | rfl | (simp [errW_none, errW_some] <;> rfl) | (simp [*, errW_none, errW_some] <;> rfl), by repeat (first | (with_reducible first | exact HB.out | apply below_alloc | apply pw_below_drewN | apply below_drew1 | refine below_set ?_ GE161.out) | exact HB.out)⟩
        ·replace c33 := Bool.eq_false_iff.mpr c33
         subst c33
         have H1 : (epicycleref04_Right.l0 kj25 l0 a1 1 ((rd_T46 l0 a1).f0) ((rd_T46 l0 a1).f1) ((rd_T46 l0 a1).f2)) = some r := by rw [if_neg (show ¬ (false = true) by decide)] at H <;> exact H
         clear H
         have H := H1
         clear H1
         have H' := Aside0.mk H
         clear H
         go_wp2
         go_loopg [6] kj25 (fun kq v6 w' => ∃ (x6_3 : Int), v6 = .int .i64 x6_3 ∧ Aside0 (epicycleref04_Right.l0 kq l0 a1 x6_3 ((rd_T46 l0 a1).f0) ((rd_T46 l0 a1).f1) ((rd_T46 l0 a1).f2) = some r) ∧ Aside0 (kq ≤ kj25) ∧ Aside0 (w'.heap[gb161]? = some (.cells #[.int .u64 ((rd_T46 l0 a1).f0), .int .u64 ((rd_T46 l0 a1).f1), (.slice A160_2 ((rd_T46 l0 a1).f2).length c160_2)] 46 (0, 0))) ∧ Aside0 (Below w.heap.size w w'))
         case atStart => exact ⟨(1), (by first | rfl | (simp; done) | (simp [*]; done)), H', ⟨Nat.le_refl _⟩, ⟨by (with_reducible repeat (first | refine blk_drewN ?_ _ | refine blk_drew ?_ | refine blk_alloc ?_ _)); exact BK161.out⟩, ⟨by repeat (first | (with_reducible first | exact HB.out | apply below_alloc | apply pw_below_drewN | apply below_drew1 | refine below_set ?_ GE161.out) | exact HB.out)⟩⟩
         case round =>
          clear H'
          try clear c1
          try clear p1
          try clear q1
          try clear hx1
          try clear qi1
          try clear c2
          try clear p2
          try clear c3
          try clear p6
          try clear c14
          try clear c14b0
          try clear c16
          try clear p16
          try clear q16
          try clear hx16
          try clear qi16
          try clear c17
          try clear c17b0
          try clear c19
          try clear c19b0
          try clear c20
          try clear c20b0
          try clear c25
          try clear c27
          try clear c27b0
          try clear c27b1
          try clear c29
          try clear c29b0
          try clear c29b1
          try clear c31
          try clear c31b0
          try clear c31b1
          try clear c33
          try clear hcz28_0
          try clear hcz28_1
          try clear hcz28_2
          try clear hcz30_0
          try clear hcz30_1
          try clear hcz30_2
          try clear hcz32_0
          try clear hcz32_1
          try clear hcz32_2
          try clear hfz28_0
          try clear hfz28_1
          try clear hfz28_2
          try clear hfz30_0
          try clear hfz30_1
          try clear hfz30_2
          try clear hfz32_0
          try clear hfz32_1
          try clear hfz32_2
          try clear hx162_0
          try clear hx162_1
          try clear hx162_2
          try clear hx163_0
          try clear hx163_1
          try clear p1
          try clear p16
          try clear p162
          try clear p163
          try clear p2
          try clear p6
          try clear q1
          try clear q16
          try clear q162
          try clear q163
          obtain ⟨x6_3, rfl, HA, HK3, BK161, HB⟩ := hrel
          cases gk with
          | zero => exact absurd HA.out (by simp [epicycleref04_Right.l0])
          | succ k3 =>
           have H := HA.out
           clear HA
           simp only [epicycleref04_Right.l0] at H
           by_cases c34 : x6_3 < (((rd_T46 l0 a1).f2).length : Int)
           ·rw [if_pos c34] at H
            have c34b0 : decide (x6_3 < (((rd_T46 l0 a1).f2).length : Int)) = true := decide_eq_true c34
            clear c34
            have HC35 := Aside0.mk H
            clear H
            have hcz36_0 : wr.cell? ⟨gb161, 0, none⟩ = some (.int .u64 ((rd_T46 l0 a1).f0)) := (blk_cell BK161.out 0).trans rfl
            have hcz36_1 : wr.cell? ⟨gb161, 1, none⟩ = some (.int .u64 ((rd_T46 l0 a1).f1)) := (blk_cell BK161.out 1).trans rfl
            have hcz36_2 : wr.cell? ⟨gb161, 2, none⟩ = some (.slice A160_2 ((rd_T46 l0 a1).f2).length c160_2) := (blk_cell BK161.out 2).trans rfl
            have hfz36_0 := blk_frozen BK161.out 0
            have hfz36_1 := blk_frozen BK161.out 1
            have hfz36_2 := blk_frozen BK161.out 2
            go_upto_region 9 with (fail)
            go_cut [95] (fun v95 wc => ∃ (kq : Nat) (x95_34 : Bool), v95 = .bool x95_34 ∧ Aside0 (epicycleref04_Right.j3 kq l0 a1 x6_3 x95_34 ((rd_T46 l0 a1).f0) ((rd_T46 l0 a1).f1) ((rd_T46 l0 a1).f2) = some r) ∧ Aside0 (kq ≤ k3) ∧ Aside0 (wc.heap[gb161]? = some (.cells #[.int .u64 ((rd_T46 l0 a1).f0), .int .u64 ((rd_T46 l0 a1).f1), (.slice A160_2 ((rd_T46 l0 a1).f2).length c160_2)] 46 (0, 0))) ∧ Aside0 (Below w.heap.size w wc))
            case first =>
             have H := HC35.out
             clear HC35
             by_cases c37 : 0 ≤ x6_3
             ·rw [if_pos c37] at H
              have c37b0 : decide (0 ≤ x6_3) = true := decide_eq_true c37
              clear c37
              (first | rw [c37b0] | (simp only [i64_w, i32_w]; rw [c37b0]) | skip)
              obtain ⟨ji38, hji38⟩ : ∃ j_ : Int, (wrap64 (x6_3 - 1)) = j_ := ⟨_, rfl⟩
              replace H : (if 0 ≤ (ji38) then (if (ji38) < (((rd_T46 l0 a1).f2).length : Int) then (if ((rd_T60 ((rd_T46 l0 a1).f2) x6_3).f0) ≤ ((rd_T60 ((rd_T46 l0 a1).f2) (ji38)).f0) then (epicycleref04_Right.j3 k3 l0 a1 x6_3 true ((rd_T46 l0 a1).f0) ((rd_T46 l0 a1).f1) ((rd_T46 l0 a1).f2)) else (if 0 ≤ a1 then (if a1 ≤ (l0.length : Int) then ((epicycleref04_Claimed.f k3 (l0.take (a1 : Int).toNat) ((rd_T60 ((rd_T46 l0 a1).f2) x6_3).f0)).bind fun t171 => (epicycleref04_Right.j3 k3 l0 a1 x6_3 (!t171) ((rd_T46 l0 a1).f0) ((rd_T46 l0 a1).f1) ((rd_T46 l0 a1).f2))) else (none)) else (none))) else (none)) else (none)) = some r := by first | (rw [hji38] at H <;> exact H) | (simp only [hji38] at H ⊢; exact H)
              have hji38w : (IntKind.i64.wrap (x6_3 - 1)) = ji38 := (i64_w _).trans hji38
              by_cases c39 : 0 ≤ (ji38)
              ·rw [if_pos c39] at H
               have c39b0 : decide (0 ≤ (ji38)) = true := decide_eq_true c39
               clear c39
               by_cases c40 : (ji38) < (((rd_T46 l0 a1).f2).length : Int)
               ·rw [if_pos c40] at H
                have c40b0 : decide ((ji38) < (((rd_T46 l0 a1).f2).length : Int)) = true := decide_eq_true c40
                clear c40
                by_cases c41 : ((rd_T60 ((rd_T46 l0 a1).f2) x6_3).f0) ≤ ((rd_T60 ((rd_T46 l0 a1).f2) (ji38)).f0)
                ·rw [if_pos c41] at H
                 have c41b0 : decide (((rd_T60 ((rd_T46 l0 a1).f2) x6_3).f0) ≤ ((rd_T60 ((rd_T46 l0 a1).f2) (ji38)).f0)) = true := decide_eq_true c41
                 clear c41
                 have H' := Aside0.mk H
                 clear H
                 try go_wp2
                 have n0_ := Aside0.mk (blk_drew BK161.out)
                 have n1_ := Aside0.mk (below_drew1 HB.out)
                 clear BK161
                 clear HB
                 have BK161 := n0_
                 have HB := n1_
                 clear n0_ n1_
                 have p164 : 0 ≤ (x6_3 : Int) := of_decide_eq_true (by first | (with_reducible assumption) | assumption)
                 have q164 : x6_3 < (((rd_T46 l0 a1).f2).length : Int) := of_decide_eq_true (by first | (with_reducible assumption) | assumption)
                 obtain ⟨ad164, e164, hx164_0, hx164_1⟩ := at_T60 HR160_2.out x6_3 p164 q164
                 have hw164_1 := hx164_1
                 have hw164_0 := hx164_0
                 cases e164
                 replace hx164_0 := (HB.out.cell (World.block_lt_of_cell? w _ hx164_0)).trans hx164_0
                 replace hx164_1 := (HB.out.cell (World.block_lt_of_cell? w _ hx164_1)).trans hx164_1
                 replace p164 := eq_true p164
                 replace q164 := eq_true q164
                 have p165 : 0 ≤ ((ji38) : Int) := of_decide_eq_true (by first | (with_reducible assumption) | assumption)
                 have q165 : (ji38) < (((rd_T46 l0 a1).f2).length : Int) := of_decide_eq_true (by first | (with_reducible assumption) | assumption)
                 obtain ⟨ad165, e165, hx165_0, hx165_1⟩ := at_T60 HR160_2.out (ji38) p165 q165
                 have hw165_1 := hx165_1
                 have hw165_0 := hx165_0
                 obtain rfl : ad164 = ad165 := (by injection e165)
                 replace hx165_0 := (HB.out.cell (World.block_lt_of_cell? w _ hx165_0)).trans hx165_0
                 replace hx165_1 := (HB.out.cell (World.block_lt_of_cell? w _ hx165_1)).trans hx165_1
                 replace p165 := eq_true p165
                 replace q165 := eq_true q165
                 refine start_ (n := 27) (S := fun w' => w'.cell? ⟨gb161, 0, none⟩ = some (.int .u64 ((rd_T46 l0 a1).f0)) ∧ w'.cell? ⟨gb161, 1, none⟩ = some (.int .u64 ((rd_T46 l0 a1).f1)) ∧ w'.cell? ⟨gb161, 2, none⟩ = some (.slice (some ad164) ((rd_T46 l0 a1).f2).length c160_2) ∧ w'.cell? (ad164.add ((x6_3).toNat * 2)) = some (.int .u64 ((rd_T60 ((rd_T46 l0 a1).f2) x6_3).f0)) ∧ w'.cell? ⟨(ad164.add ((x6_3).toNat * 2)).block, (ad164.add ((x6_3).toNat * 2)).off + 1, none⟩ = some (.int .i64 ((rd_T60 ((rd_T46 l0 a1).f2) x6_3).f1)) ∧ w'.cell? (ad164.add (((ji38)).toNat * 2)) = some (.int .u64 ((rd_T60 ((rd_T46 l0 a1).f2) (ji38)).f0)) ∧ w'.cell? ⟨(ad164.add (((ji38)).toNat * 2)).block, (ad164.add (((ji38)).toNat * 2)).off + 1, none⟩ = some (.int .i64 ((rd_T60 ((rd_T46 l0 a1).f2) (ji38)).f1))) (ds := []) #[false, false, false, false, false, false, false, false, false, false, false, false, false, false, false, false, false, false, false, false, false, false, false, false, false, false, false] (by kernel_rfl) rfl rfl ⟨(blk_cell BK161.out 0).trans rfl, (blk_cell BK161.out 1).trans rfl, (blk_cell BK161.out 2).trans rfl, ((HB.out.cell (World.block_lt_of_cell? w _ hw164_0)).trans hw164_0), ((HB.out.cell (World.block_lt_of_cell? w _ hw164_1)).trans hw164_1), ((HB.out.cell (World.block_lt_of_cell? w _ hw165_0)).trans hw165_0), ((HB.out.cell (World.block_lt_of_cell? w _ hw165_1)).trans hw165_1)⟩ (fun hHeld => ?_); refine with_tabW epicycleref04_Right.tab9 epicycleref04_Right.bits9 (fun HT_ HW_ => ?_)
                 generalize wr.drew = w42 at BK161 HB hx164_0 hx164_1 hx165_0 hx165_1 hHeld ⊢
                 refine pure_ (i := 0) (N := some 69) (v := ?_) (a' := ?_) #[true, false, false, false, false, false, false, false, false, false, false, false, false, false, false, false, false, false, false, false, false, false, false, false, false, false, false] rfl rfl (any_of HT_.out (by kernel_rfl)) (fun _ _ _ h => h) (Or.inl ⟨by rfl, ?_⟩) ?_ ?_
                 rotate_left
                 ·intro w'
                  go_simp
                  with_reducible rfl
                 rotate_left
                 ·simp only [Act.put, zA, zB, zC, i64_w, i32_w]
                  rfl
                 refine pure_ (i := 2) (N := some 71) (v := ?_) (a' := ?_) #[true, false, true, false, false, false, false, false, false, false, false, false, false, false, false, false, false, false, false, false, false, false, false, false, false, false, false] rfl rfl (any_of HT_.out (by kernel_rfl)) (fun _ _ _ h => h) (Or.inl ⟨by rfl, ?_⟩) ?_ ?_
                 rotate_left
                 ·intro w'
                  go_simp
                  with_reducible rfl
                 rotate_left
                 ·simp only [Act.put, zA, zB, zC, i64_w, i32_w]
                  rfl
                 refine pure_ (i := 6) (N := some 75) (v := ?_) (a' := ?_) #[true, false, true, false, false, false, true, false, false, false, false, false, false, false, false, false, false, false, false, false, false, false, false, false, false, false, false] rfl rfl (any_of HT_.out (by kernel_rfl)) (fun _ _ _ h => h) (Or.inl ⟨by rfl, ?_⟩) ?_ ?_
                 rotate_left
                 ·intro w'
                  go_simp
                  with_reducible rfl
                 rotate_left
                 ·simp only [Act.put, zA, zB, zC, i64_w, i32_w]
                  rfl
                 refine pure_ (i := 8) (N := some 77) (v := ?_) (a' := ?_) #[true, false, true, false, false, false, true, false, true, false, false, false, false, false, false, false, false, false, false, false, false, false, false, false, false, false, false] rfl rfl (any_of HT_.out (by kernel_rfl)) (fun _ _ _ h => h) (Or.inl ⟨by rfl, ?_⟩) ?_ ?_
                 rotate_left
                 ·intro w'
                  go_simp
                  with_reducible rfl
                 rotate_left
                 ·simp only [Act.put, zA, zB, zC, i64_w, i32_w]
                  rfl
                 refine pure_ (i := 9) (N := some 78) (v := ?_) (a' := ?_) #[true, false, true, false, false, false, true, false, true, true, false, false, false, false, false, false, false, false, false, false, false, false, false, false, false, false, false] rfl rfl (any_of HT_.out (by kernel_rfl)) (fun _ _ _ h => h) (Or.inl ⟨by rfl, ?_⟩) ?_ ?_
                 rotate_left
                 ·intro w'
                  go_simp
                  with_reducible rfl
                 rotate_left
                 ·simp only [Act.put, zA, zB, zC, i64_w, i32_w]
                  rfl
                 refine take_ (i := 1) (N := some 70) (v := ?_) (a' := ?_) #[true, true, true, false, false, false, true, false, true, true, false, false, false, false, false, false, false, false, false, false, false, false, false, false, false, false, false] rfl rfl (take_ofW HT_.out HW_.out (by kernel_rfl)) (fun _ _ _ h => h) (Or.inl ⟨by rfl, ?_⟩) hHeld ?_ ?_
                 rotate_left
                 ·rintro w' ⟨s0, s1, s2, s3, s4, s5, s6⟩
                  go_simp
                  with_reducible rfl
                 rotate_left
                 ·simp only [Act.put, zA, zB, zC, i64_w, i32_w]
                  rfl
                 refine pure_ (i := 3) (N := some 72) (v := ?_) (a' := ?_) #[true, true, true, true, false, false, true, false, true, true, false, false, false, false, false, false, false, false, false, false, false, false, false, false, false, false, false] rfl rfl (any_of HT_.out (by kernel_rfl)) (fun _ _ _ h => h) (Or.inl ⟨by rfl, ?_⟩) ?_ ?_
                 rotate_left
                 ·intro w'
                  go_simp
                  with_reducible rfl
                 rotate_left
                 ·simp only [Act.put, zA, zB, zC, i64_w, i32_w]
                  rfl
                 refine pure_ (i := 4) (N := some 73) (v := ?_) (a' := ?_) #[true, true, true, true, true, false, true, false, true, true, false, false, false, false, false, false, false, false, false, false, false, false, false, false, false, false, false] rfl rfl (any_of HT_.out (by kernel_rfl)) (fun _ _ _ h => h) (Or.inl ⟨by rfl, ?_⟩) ?_ ?_
                 rotate_left
                 ·intro w'
                  go_simp
                  with_reducible rfl
                 rotate_left
                 ·simp only [Act.put, zA, zB, zC, i64_w, i32_w]
                  rfl
                 refine take_ (i := 5) (N := some 74) (v := ?_) (a' := ?_) #[true, true, true, true, true, true, true, false, true, true, false, false, false, false, false, false, false, false, false, false, false, false, false, false, false, false, false] rfl rfl (take_ofW HT_.out HW_.out (by kernel_rfl)) (fun _ _ _ h => h) (Or.inl ⟨by rfl, ?_⟩) hHeld ?_ ?_
                 rotate_left
                 ·rintro w' ⟨s0, s1, s2, s3, s4, s5, s6⟩
                  go_simp
                  with_reducible rfl
                 rotate_left
                 ·simp only [Act.put, zA, zB, zC, i64_w, i32_w]
                  rfl
                 refine take_ (i := 7) (N := some 76) (v := ?_) (a' := ?_) #[true, true, true, true, true, true, true, true, true, true, false, false, false, false, false, false, false, false, false, false, false, false, false, false, false, false, false] rfl rfl (take_ofW HT_.out HW_.out (by kernel_rfl)) (fun _ _ _ h => h) (Or.inl ⟨by rfl, ?_⟩) hHeld ?_ ?_
                 rotate_left
                 ·rintro w' ⟨s0, s1, s2, s3, s4, s5, s6⟩
                  go_simp
                  with_reducible rfl
                 rotate_left
                 ·simp only [Act.put, zA, zB, zC, i64_w, i32_w]
                  rfl
                 refine pure_ (i := 10) (N := some 79) (v := ?_) (a' := ?_) #[true, true, true, true, true, true, true, true, true, true, true, false, false, false, false, false, false, false, false, false, false, false, false, false, false, false, false] rfl rfl (any_of HT_.out (by kernel_rfl)) (fun _ _ _ h => h) (Or.inl ⟨by rfl, ?_⟩) ?_ ?_
                 rotate_left
                 ·intro w'
                  go_simp
                  with_reducible rfl
                 rotate_left
                 ·simp only [Act.put, zA, zB, zC, i64_w, i32_w]
                  rfl
                 refine pure_ (i := 11) (N := some 80) (v := ?_) (a' := ?_) #[true, true, true, true, true, true, true, true, true, true, true, true, false, false, false, false, false, false, false, false, false, false, false, false, false, false, false] rfl rfl (any_of HT_.out (by kernel_rfl)) (fun _ _ _ h => h) (Or.inl ⟨by rfl, ?_⟩) ?_ ?_
                 rotate_left
                 ·intro w'
                  go_simp
                  with_reducible rfl
                 rotate_left
                 ·simp only [Act.put, zA, zB, zC, i64_w, i32_w]
                  rfl
                 refine take_ (i := 12) (N := some 81) (v := ?_) (a' := ?_) #[true, true, true, true, true, true, true, true, true, true, true, true, true, false, false, false, false, false, false, false, false, false, false, false, false, false, false] rfl rfl (take_ofW HT_.out HW_.out (by kernel_rfl)) (fun _ _ _ h => h) (Or.inl ⟨by rfl, ?_⟩) hHeld ?_ ?_
                 rotate_left
                 ·rintro w' ⟨s0, s1, s2, s3, s4, s5, s6⟩
                  go_simp
                  with_reducible rfl
                 rotate_left
                 ·simp only [Act.put, zA, zB, zC, i64_w, i32_w]
                  rfl
                 refine pure_ (i := 13) (N := some 82) (v := ?_) (a' := ?_) #[true, true, true, true, true, true, true, true, true, true, true, true, true, true, false, false, false, false, false, false, false, false, false, false, false, false, false] rfl rfl (any_of HT_.out (by kernel_rfl)) (fun _ _ _ h => h) (Or.inl ⟨by rfl, ?_⟩) ?_ ?_
                 rotate_left
                 ·intro w'
                  go_simp
                  with_reducible rfl
                 rotate_left
                 ·simp only [Act.put, zA, zB, zC, i64_w, i32_w]
                  rfl
                 refine pure_ (i := 14) (N := some 83) (v := ?_) (a' := ?_) #[true, true, true, true, true, true, true, true, true, true, true, true, true, true, true, false, false, false, false, false, false, false, false, false, false, false, false] rfl rfl (any_of HT_.out (by kernel_rfl)) (fun _ _ _ h => h) (Or.inl ⟨by rfl, ?_⟩) ?_ ?_
                 rotate_left
                 ·intro w'
                  go_simp
                  with_reducible rfl
                 rotate_left
                 ·simp only [Act.put, zA, zB, zC, i64_w, i32_w]
                  rfl
                 refine pure_ (i := 15) (N := some 84) (v := undef) (a' := ?_) #[true, true, true, true, true, true, true, true, true, true, true, true, true, true, true, true, false, false, false, false, false, false, false, false, false, false, false] rfl rfl (any_of HT_.out (by kernel_rfl)) (fun _ _ _ h => h) (Or.inr ⟨by rfl, rfl⟩) ?_ ?_
                 rotate_left
                 ·simp only [Act.put, zA, zB, zC, i64_w, i32_w]
                  rfl
                 refine pure_ (i := 16) (N := some 85) (v := undef) (a' := ?_) #[true, true, true, true, true, true, true, true, true, true, true, true, true, true, true, true, true, false, false, false, false, false, false, false, false, false, false] rfl rfl (any_of HT_.out (by kernel_rfl)) (fun _ _ _ h => h) (Or.inr ⟨by rfl, rfl⟩) ?_ ?_
                 rotate_left
                 ·simp only [Act.put, zA, zB, zC, i64_w, i32_w]
                  rfl
                 refine pure_ (i := 17) (N := some 86) (v := undef) (a' := ?_) #[true, true, true, true, true, true, true, true, true, true, true, true, true, true, true, true, true, true, false, false, false, false, false, false, false, false, false] rfl rfl (any_of HT_.out (by kernel_rfl)) (fun _ _ _ h => h) (Or.inr ⟨by rfl, rfl⟩) ?_ ?_
                 rotate_left
                 ·simp only [Act.put, zA, zB, zC, i64_w, i32_w]
                  rfl
                 refine pure_ (i := 18) (N := some 87) (v := undef) (a' := ?_) #[true, true, true, true, true, true, true, true, true, true, true, true, true, true, true, true, true, true, true, false, false, false, false, false, false, false, false] rfl rfl (any_of HT_.out (by kernel_rfl)) (fun _ _ _ h => h) (Or.inr ⟨by rfl, rfl⟩) ?_ ?_
                 rotate_left
                 ·simp only [Act.put, zA, zB, zC, i64_w, i32_w]
                  rfl
                 refine pure_ (i := 19) (N := some 88) (v := undef) (a' := ?_) #[true, true, true, true, true, true, true, true, true, true, true, true, true, true, true, true, true, true, true, true, false, false, false, false, false, false, false] rfl rfl (any_of HT_.out (by kernel_rfl)) (fun _ _ _ h => h) (Or.inr ⟨by rfl, rfl⟩) ?_ ?_
                 rotate_left
                 ·simp only [Act.put, zA, zB, zC, i64_w, i32_w]
                  rfl
                 refine pure_ (i := 20) (N := some 89) (v := undef) (a' := ?_) #[true, true, true, true, true, true, true, true, true, true, true, true, true, true, true, true, true, true, true, true, true, false, false, false, false, false, false] rfl rfl (any_of HT_.out (by kernel_rfl)) (fun _ _ _ h => h) (Or.inr ⟨by rfl, rfl⟩) ?_ ?_
                 rotate_left
                 ·simp only [Act.put, zA, zB, zC, i64_w, i32_w]
                  rfl
                 refine pure_ (i := 21) (N := some 90) (v := undef) (a' := ?_) #[true, true, true, true, true, true, true, true, true, true, true, true, true, true, true, true, true, true, true, true, true, true, false, false, false, false, false] rfl rfl (any_of HT_.out (by kernel_rfl)) (fun _ _ _ h => h) (Or.inr ⟨by rfl, rfl⟩) ?_ ?_
                 rotate_left
                 ·simp only [Act.put, zA, zB, zC, i64_w, i32_w]
                  rfl
                 refine pure_ (i := 22) (N := some 91) (v := undef) (a' := ?_) #[true, true, true, true, true, true, true, true, true, true, true, true, true, true, true, true, true, true, true, true, true, true, true, false, false, false, false] rfl rfl (any_of HT_.out (by kernel_rfl)) (fun _ _ _ h => h) (Or.inr ⟨by rfl, rfl⟩) ?_ ?_
                 rotate_left
                 ·simp only [Act.put, zA, zB, zC, i64_w, i32_w]
                  rfl
                 refine pure_ (i := 23) (N := some 92) (v := undef) (a' := ?_) #[true, true, true, true, true, true, true, true, true, true, true, true, true, true, true, true, true, true, true, true, true, true, true, true, false, false, false] rfl rfl (any_of HT_.out (by kernel_rfl)) (fun _ _ _ h => h) (Or.inr ⟨by rfl, rfl⟩) ?_ ?_
                 rotate_left
                 ·simp only [Act.put, zA, zB, zC, i64_w, i32_w]
                  rfl
                 refine pure_ (i := 24) (N := some 93) (v := undef) (a' := ?_) #[true, true, true, true, true, true, true, true, true, true, true, true, true, true, true, true, true, true, true, true, true, true, true, true, true, false, false] rfl rfl (any_of HT_.out (by kernel_rfl)) (fun _ _ _ h => h) (Or.inr ⟨by rfl, rfl⟩) ?_ ?_
                 rotate_left
                 ·simp only [Act.put, zA, zB, zC, i64_w, i32_w]
                  rfl
                 refine pure_ (i := 25) (N := some 94) (v := undef) (a' := ?_) #[true, true, true, true, true, true, true, true, true, true, true, true, true, true, true, true, true, true, true, true, true, true, true, true, true, true, false] rfl rfl (any_of HT_.out (by kernel_rfl)) (fun _ _ _ h => h) (Or.inr ⟨by rfl, rfl⟩) ?_ ?_
                 rotate_left
                 ·simp only [Act.put, zA, zB, zC, i64_w, i32_w]
                  rfl
                 refine pure_ (i := 26) (N := some 95) (v := ?_) (a' := ?_) #[true, true, true, true, true, true, true, true, true, true, true, true, true, true, true, true, true, true, true, true, true, true, true, true, true, true, true] rfl rfl (any_of HT_.out (by kernel_rfl)) (fun _ _ _ h => h) (Or.inl ⟨by rfl, ?_⟩) ?_ ?_
                 rotate_left
                 ·intro w'
                  go_simp
                  with_reducible rfl
                 rotate_left
                 ·simp only [Act.put, zA, zB, zC, i64_w, i32_w]
                  rfl
                 refine done_ (done_of HT_.out (by kernel_rfl)) ?_
                 try go_wp2
                 go_meet
                 case rel => exact ⟨_, (true), (by first | rfl | (simp; done) | (simp [*]; done)), H', ⟨by have := HJ4.out; have := HJ25.out; have := HK3.out; first | omega | exact Nat.le_refl _⟩, ⟨by (with_reducible repeat (first | refine blk_drewN ?_ _ | refine blk_drew ?_ | refine blk_alloc ?_ _)); exact BK161.out⟩, ⟨by repeat (first | (with_reducible first | exact HB.out | apply below_alloc | apply pw_below_drewN | apply below_drew1 | refine below_set ?_ GE161.out) | exact HB.out)⟩⟩
                ·rw [if_neg c41] at H
                 have c41b0 : decide (((rd_T60 ((rd_T46 l0 a1).f2) x6_3).f0) ≤ ((rd_T60 ((rd_T46 l0 a1).f2) (ji38)).f0)) = false := decide_eq_false c41
                 clear c41
                 by_cases c43 : 0 ≤ a1
                 ·rw [if_pos c43] at H
                  have c43b0 := eq_true c43
                  have c43b1 : decide (0 ≤ a1) = true := decide_eq_true c43
                  clear c43
                  by_cases c44 : a1 ≤ (l0.length : Int)
                  ·rw [if_pos c44] at H
                   have c44b0 := eq_true c44
                   have c44b1 : decide (a1 ≤ (l0.length : Int)) = true := decide_eq_true c44
                   clear c44
                   obtain ⟨y166, hy166⟩ : ∃ y_ : List (S46), y_ = (l0.take (a1 : Int).toNat) := ⟨_, rfl⟩
                   replace H : ((epicycleref04_Claimed.f k3 y166 ((rd_T60 ((rd_T46 l0 a1).f2) x6_3).f0)).bind fun t171 => (epicycleref04_Right.j3 k3 l0 a1 x6_3 (!t171) ((rd_T46 l0 a1).f0) ((rd_T46 l0 a1).f1) ((rd_T46 l0 a1).f2))) = some r := by first | (rw [hy166]; with_reducible exact H) | (have H2_ := (Option.bind_some _ _).symm.trans H; rw [hy166]; with_reducible exact H2_) | (have H2_ := (Option.bind_some _ _).symm.trans H; with_reducible exact H2_) | with_reducible exact H | (rw [hy166]; exact H) | exact H
                   have Ny166 := Aside0.mk hy166
                   clear hy166
                   replace H := Option.bind_eq_some_iff.mp H
                   obtain ⟨t171, A450, H⟩ := H
                   replace H : (epicycleref04_Right.j3 k3 l0 a1 x6_3 (!t171) ((rd_T46 l0 a1).f0) ((rd_T46 l0 a1).f1) ((rd_T46 l0 a1).f2)) = some r := H
                   have A45 := Aside0.mk A450
                   clear A450
                   have H' := Aside0.mk H
                   clear H
                   try go_wp2
                   have n0_ := Aside0.mk (blk_drew BK161.out)
                   have n1_ := Aside0.mk (below_drew1 HB.out)
                   clear BK161
                   clear HB
                   have BK161 := n0_
                   have HB := n1_
                   clear n0_ n1_
                   have p164 : 0 ≤ (x6_3 : Int) := of_decide_eq_true (by first | (with_reducible assumption) | assumption)
                   have q164 : x6_3 < (((rd_T46 l0 a1).f2).length : Int) := of_decide_eq_true (by first | (with_reducible assumption) | assumption)
                   obtain ⟨ad164, e164, hx164_0, hx164_1⟩ := at_T60 HR160_2.out x6_3 p164 q164
                   have hw164_1 := hx164_1
                   have hw164_0 := hx164_0
                   cases e164
                   replace hx164_0 := (HB.out.cell (World.block_lt_of_cell? w _ hx164_0)).trans hx164_0
                   replace hx164_1 := (HB.out.cell (World.block_lt_of_cell? w _ hx164_1)).trans hx164_1
                   replace p164 := eq_true p164
                   replace q164 := eq_true q164
                   have p165 : 0 ≤ ((ji38) : Int) := of_decide_eq_true (by first | (with_reducible assumption) | assumption)
                   have q165 : (ji38) < (((rd_T46 l0 a1).f2).length : Int) := of_decide_eq_true (by first | (with_reducible assumption) | assumption)
                   obtain ⟨ad165, e165, hx165_0, hx165_1⟩ := at_T60 HR160_2.out (ji38) p165 q165
                   have hw165_1 := hx165_1
                   have hw165_0 := hx165_0
                   obtain rfl : ad164 = ad165 := (by injection e165)
                   replace hx165_0 := (HB.out.cell (World.block_lt_of_cell? w _ hx165_0)).trans hx165_0
                   replace hx165_1 := (HB.out.cell (World.block_lt_of_cell? w _ hx165_1)).trans hx165_1
                   replace p165 := eq_true p165
                   replace q165 := eq_true q165
                   have q47 : (a1 : Int) ≤ ((l0.length : Int) : Int) := of_decide_eq_true (by first | (with_reducible assumption) | assumption)
                   obtain ⟨i047, hi047, _, hsz47, _⟩ := info_parts info46
                   have hroom47 : l0.length ≤ c0 := HC0.out
                   have hC47 : Kd.C k46 _ (some ad160) l0.length l0 := HR0.out
                   have hcut47 := cut_to (P := Try.prog) 36 46 .i64 Try.underlying36 hi047 (some ad160) l0.length c0 a1 (of_decide_eq_true (by first | (with_reducible assumption) | assumption)) q47 hroom47
                   have hr47 := Kd.C_take (m := (a1 : Int).toNat) hC47 (by omega)
                   have hy47 : y166.length = (a1 : Int).toNat := (by rw [Ny166.out, List.length_take]; omega)
                   rw [← Ny166.out] at hr47
                   rw [← hy47] at hcut47
                   have HR169 := Aside0.mk hr47
                   have HC169 := Aside0.mk (show y166.length ≤ c0 from by omega)
                   clear hr47 hC47 hroom47 hi047 hsz47
                   have KY47 := Aside0.mk hy47
                   clear hy47
                   replace q47 := eq_true q47
                   have p170 : 0 ≤ (x6_3 : Int) := of_decide_eq_true (by first | (with_reducible assumption) | assumption)
                   have q170 : x6_3 < (((rd_T46 l0 a1).f2).length : Int) := of_decide_eq_true (by first | (with_reducible assumption) | assumption)
                   obtain ⟨ad170, e170, hx170_0, hx170_1⟩ := at_T60 HR160_2.out x6_3 p170 q170
                   have hw170_1 := hx170_1
                   have hw170_0 := hx170_0
                   obtain rfl : ad164 = ad170 := (by injection e170)
                   replace hx170_0 := (HB.out.cell (World.block_lt_of_cell? w _ hx170_0)).trans hx170_0
                   replace hx170_1 := (HB.out.cell (World.block_lt_of_cell? w _ hx170_1)).trans hx170_1
                   replace p170 := eq_true p170
                   replace q170 := eq_true q170
                   refine start_ (n := 27) (S := fun w' => w'.cell? ⟨gb161, 0, none⟩ = some (.int .u64 ((rd_T46 l0 a1).f0)) ∧ w'.cell? ⟨gb161, 1, none⟩ = some (.int .u64 ((rd_T46 l0 a1).f1)) ∧ w'.cell? ⟨gb161, 2, none⟩ = some (.slice (some ad164) ((rd_T46 l0 a1).f2).length c160_2) ∧ w'.cell? (ad164.add ((x6_3).toNat * 2)) = some (.int .u64 ((rd_T60 ((rd_T46 l0 a1).f2) x6_3).f0)) ∧ w'.cell? ⟨(ad164.add ((x6_3).toNat * 2)).block, (ad164.add ((x6_3).toNat * 2)).off + 1, none⟩ = some (.int .i64 ((rd_T60 ((rd_T46 l0 a1).f2) x6_3).f1)) ∧ w'.cell? (ad164.add (((ji38)).toNat * 2)) = some (.int .u64 ((rd_T60 ((rd_T46 l0 a1).f2) (ji38)).f0)) ∧ w'.cell? ⟨(ad164.add (((ji38)).toNat * 2)).block, (ad164.add (((ji38)).toNat * 2)).off + 1, none⟩ = some (.int .i64 ((rd_T60 ((rd_T46 l0 a1).f2) (ji38)).f1)) ∧ w'.cell? (ad164.add ((x6_3).toNat * 2)) = some (.int .u64 ((rd_T60 ((rd_T46 l0 a1).f2) x6_3).f0)) ∧ w'.cell? ⟨(ad164.add ((x6_3).toNat * 2)).block, (ad164.add ((x6_3).toNat * 2)).off + 1, none⟩ = some (.int .i64 ((rd_T60 ((rd_T46 l0 a1).f2) x6_3).f1))) (ds := []) #[false, false, false, false, false, false, false, false, false, false, false, false, false, false, false, false, false, false, false, false, false, false, false, false, false, false, false] (by kernel_rfl) rfl rfl ⟨(blk_cell BK161.out 0).trans rfl, (blk_cell BK161.out 1).trans rfl, (blk_cell BK161.out 2).trans rfl, ((HB.out.cell (World.block_lt_of_cell? w _ hw164_0)).trans hw164_0), ((HB.out.cell (World.block_lt_of_cell? w _ hw164_1)).trans hw164_1), ((HB.out.cell (World.block_lt_of_cell? w _ hw165_0)).trans hw165_0), ((HB.out.cell (World.block_lt_of_cell? w _ hw165_1)).trans hw165_1), ((HB.out.cell (World.block_lt_of_cell? w _ hw170_0)).trans hw170_0), ((HB.out.cell (World.block_lt_of_cell? w _ hw170_1)).trans hw170_1)⟩ (fun hHeld => ?_); refine with_tabW epicycleref04_Right.tab9 epicycleref04_Right.bits9 (fun HT_ HW_ => ?_)
                   generalize wr.drew = w46 at BK161 HB HR169 hx164_0 hx164_1 hx165_0 hx165_1 hx170_0 hx170_1 hHeld ⊢
                   refine pure_ (i := 0) (N := some 69) (v := ?_) (a' := ?_) #[true, false, false, false, false, false, false, false, false, false, false, false, false, false, false, false, false, false, false, false, false, false, false, false, false, false, false] rfl rfl (any_of HT_.out (by kernel_rfl)) (fun _ _ _ h => h) (Or.inl ⟨by rfl, ?_⟩) ?_ ?_
                   rotate_left
                   ·intro w'
                    go_simp
                    with_reducible rfl
                   rotate_left
                   ·simp only [Act.put, zA, zB, zC, i64_w, i32_w]
                    rfl
                   refine pure_ (i := 2) (N := some 71) (v := ?_) (a' := ?_) #[true, false, true, false, false, false, false, false, false, false, false, false, false, false, false, false, false, false, false, false, false, false, false, false, false, false, false] rfl rfl (any_of HT_.out (by kernel_rfl)) (fun _ _ _ h => h) (Or.inl ⟨by rfl, ?_⟩) ?_ ?_
                   rotate_left
                   ·intro w'
                    go_simp
                    with_reducible rfl
                   rotate_left
                   ·simp only [Act.put, zA, zB, zC, i64_w, i32_w]
                    rfl
                   refine pure_ (i := 6) (N := some 75) (v := ?_) (a' := ?_) #[true, false, true, false, false, false, true, false, false, false, false, false, false, false, false, false, false, false, false, false, false, false, false, false, false, false, false] rfl rfl (any_of HT_.out (by kernel_rfl)) (fun _ _ _ h => h) (Or.inl ⟨by rfl, ?_⟩) ?_ ?_
                   rotate_left
                   ·intro w'
                    go_simp
                    with_reducible rfl
                   rotate_left
                   ·simp only [Act.put, zA, zB, zC, i64_w, i32_w]
                    rfl
                   refine pure_ (i := 8) (N := some 77) (v := ?_) (a' := ?_) #[true, false, true, false, false, false, true, false, true, false, false, false, false, false, false, false, false, false, false, false, false, false, false, false, false, false, false] rfl rfl (any_of HT_.out (by kernel_rfl)) (fun _ _ _ h => h) (Or.inl ⟨by rfl, ?_⟩) ?_ ?_
                   rotate_left
                   ·intro w'
                    go_simp
                    with_reducible rfl
                   rotate_left
                   ·simp only [Act.put, zA, zB, zC, i64_w, i32_w]
                    rfl
                   refine pure_ (i := 9) (N := some 78) (v := ?_) (a' := ?_) #[true, false, true, false, false, false, true, false, true, true, false, false, false, false, false, false, false, false, false, false, false, false, false, false, false, false, false] rfl rfl (any_of HT_.out (by kernel_rfl)) (fun _ _ _ h => h) (Or.inl ⟨by rfl, ?_⟩) ?_ ?_
                   rotate_left
                   ·intro w'
                    go_simp
                    with_reducible rfl
                   rotate_left
                   ·simp only [Act.put, zA, zB, zC, i64_w, i32_w]
                    rfl
                   refine take_ (i := 1) (N := some 70) (v := ?_) (a' := ?_) #[true, true, true, false, false, false, true, false, true, true, false, false, false, false, false, false, false, false, false, false, false, false, false, false, false, false, false] rfl rfl (take_ofW HT_.out HW_.out (by kernel_rfl)) (fun _ _ _ h => h) (Or.inl ⟨by rfl, ?_⟩) hHeld ?_ ?_
                   rotate_left
                   ·rintro w' ⟨s0, s1, s2, s3, s4, s5, s6, s7, s8⟩
                    go_simp
                    with_reducible rfl
                   rotate_left
                   ·simp only [Act.put, zA, zB, zC, i64_w, i32_w]
                    rfl
                   refine pure_ (i := 3) (N := some 72) (v := ?_) (a' := ?_) #[true, true, true, true, false, false, true, false, true, true, false, false, false, false, false, false, false, false, false, false, false, false, false, false, false, false, false] rfl rfl (any_of HT_.out (by kernel_rfl)) (fun _ _ _ h => h) (Or.inl ⟨by rfl, ?_⟩) ?_ ?_
                   rotate_left
                   ·intro w'
                    go_simp
                    with_reducible rfl
                   rotate_left
                   ·simp only [Act.put, zA, zB, zC, i64_w, i32_w]
                    rfl
                   refine pure_ (i := 4) (N := some 73) (v := ?_) (a' := ?_) #[true, true, true, true, true, false, true, false, true, true, false, false, false, false, false, false, false, false, false, false, false, false, false, false, false, false, false] rfl rfl (any_of HT_.out (by kernel_rfl)) (fun _ _ _ h => h) (Or.inl ⟨by rfl, ?_⟩) ?_ ?_
                   rotate_left
                   ·intro w'
                    go_simp
                    with_reducible rfl
                   rotate_left
                   ·simp only [Act.put, zA, zB, zC, i64_w, i32_w]
                    rfl
                   refine take_ (i := 5) (N := some 74) (v := ?_) (a' := ?_) #[true, true, true, true, true, true, true, false, true, true, false, false, false, false, false, false, false, false, false, false, false, false, false, false, false, false, false] rfl rfl (take_ofW HT_.out HW_.out (by kernel_rfl)) (fun _ _ _ h => h) (Or.inl ⟨by rfl, ?_⟩) hHeld ?_ ?_
                   rotate_left
                   ·rintro w' ⟨s0, s1, s2, s3, s4, s5, s6, s7, s8⟩
                    go_simp
                    with_reducible rfl
                   rotate_left
                   ·simp only [Act.put, zA, zB, zC, i64_w, i32_w]
                    rfl
                   refine take_ (i := 7) (N := some 76) (v := ?_) (a' := ?_) #[true, true, true, true, true, true, true, true, true, true, false, false, false, false, false, false, false, false, false, false, false, false, false, false, false, false, false] rfl rfl (take_ofW HT_.out HW_.out (by kernel_rfl)) (fun _ _ _ h => h) (Or.inl ⟨by rfl, ?_⟩) hHeld ?_ ?_
                   rotate_left
                   ·rintro w' ⟨s0, s1, s2, s3, s4, s5, s6, s7, s8⟩
                    go_simp
                    with_reducible rfl
                   rotate_left
                   ·simp only [Act.put, zA, zB, zC, i64_w, i32_w]
                    rfl
                   refine pure_ (i := 10) (N := some 79) (v := ?_) (a' := ?_) #[true, true, true, true, true, true, true, true, true, true, true, false, false, false, false, false, false, false, false, false, false, false, false, false, false, false, false] rfl rfl (any_of HT_.out (by kernel_rfl)) (fun _ _ _ h => h) (Or.inl ⟨by rfl, ?_⟩) ?_ ?_
                   rotate_left
                   ·intro w'
                    go_simp
                    with_reducible rfl
                   rotate_left
                   ·simp only [Act.put, zA, zB, zC, i64_w, i32_w]
                    rfl
                   refine pure_ (i := 11) (N := some 80) (v := ?_) (a' := ?_) #[true, true, true, true, true, true, true, true, true, true, true, true, false, false, false, false, false, false, false, false, false, false, false, false, false, false, false] rfl rfl (any_of HT_.out (by kernel_rfl)) (fun _ _ _ h => h) (Or.inl ⟨by rfl, ?_⟩) ?_ ?_
                   rotate_left
                   ·intro w'
                    go_simp
                    with_reducible rfl
                   rotate_left
                   ·simp only [Act.put, zA, zB, zC, i64_w, i32_w]
                    rfl
                   refine take_ (i := 12) (N := some 81) (v := ?_) (a' := ?_) #[true, true, true, true, true, true, true, true, true, true, true, true, true, false, false, false, false, false, false, false, false, false, false, false, false, false, false] rfl rfl (take_ofW HT_.out HW_.out (by kernel_rfl)) (fun _ _ _ h => h) (Or.inl ⟨by rfl, ?_⟩) hHeld ?_ ?_
                   rotate_left
                   ·rintro w' ⟨s0, s1, s2, s3, s4, s5, s6, s7, s8⟩
                    go_simp
                    with_reducible rfl
                   rotate_left
                   ·simp only [Act.put, zA, zB, zC, i64_w, i32_w]
                    rfl
                   refine pure_ (i := 13) (N := some 82) (v := ?_) (a' := ?_) #[true, true, true, true, true, true, true, true, true, true, true, true, true, true, false, false, false, false, false, false, false, false, false, false, false, false, false] rfl rfl (any_of HT_.out (by kernel_rfl)) (fun _ _ _ h => h) (Or.inl ⟨by rfl, ?_⟩) ?_ ?_
                   rotate_left
                   ·intro w'
                    go_simp
                    with_reducible rfl
                   rotate_left
                   ·simp only [Act.put, zA, zB, zC, i64_w, i32_w]
                    rfl
                   refine pure_ (i := 14) (N := some 83) (v := ?_) (a' := ?_) #[true, true, true, true, true, true, true, true, true, true, true, true, true, true, true, false, false, false, false, false, false, false, false, false, false, false, false] rfl rfl (any_of HT_.out (by kernel_rfl)) (fun _ _ _ h => h) (Or.inl ⟨by rfl, ?_⟩) ?_ ?_
                   rotate_left
                   ·intro w'
                    go_simp
                    with_reducible rfl
                   rotate_left
                   ·simp only [Act.put, zA, zB, zC, i64_w, i32_w]
                    rfl
                   refine pure_ (i := 15) (N := some 84) (v := ?_) (a' := ?_) #[true, true, true, true, true, true, true, true, true, true, true, true, true, true, true, true, false, false, false, false, false, false, false, false, false, false, false] rfl rfl (any_of HT_.out (by kernel_rfl)) (fun _ _ _ h => h) (Or.inl ⟨by rfl, ?_⟩) ?_ ?_
                   rotate_left
                   ·intro w'
                    go_simp
                    with_reducible rfl
                   rotate_left
                   ·simp only [Act.put, zA, zB, zC, i64_w, i32_w]
                    rfl
                   refine pure_ (i := 16) (N := some 85) (v := ?_) (a' := ?_) #[true, true, true, true, true, true, true, true, true, true, true, true, true, true, true, true, true, false, false, false, false, false, false, false, false, false, false] rfl rfl (any_of HT_.out (by kernel_rfl)) (fun _ _ _ h => h) (Or.inl ⟨by rfl, ?_⟩) ?_ ?_
                   rotate_left
                   ·intro w'
                    go_simp
                    with_reducible rfl
                   rotate_left
                   ·simp only [Act.put, zA, zB, zC, i64_w, i32_w]
                    rfl
                   refine pure_ (i := 17) (N := some 86) (v := ?_) (a' := ?_) #[true, true, true, true, true, true, true, true, true, true, true, true, true, true, true, true, true, true, false, false, false, false, false, false, false, false, false] rfl rfl (any_of HT_.out (by kernel_rfl)) (fun _ _ _ h => h) (Or.inl ⟨by rfl, ?_⟩) ?_ ?_
                   rotate_left
                   ·intro w'
                    go_simp
                    with_reducible rfl
                   rotate_left
                   ·simp only [Act.put, zA, zB, zC, i64_w, i32_w]
                    rfl
                   refine pure_ (i := 18) (N := some 87) (v := ?_) (a' := ?_) #[true, true, true, true, true, true, true, true, true, true, true, true, true, true, true, true, true, true, true, false, false, false, false, false, false, false, false] rfl rfl (any_of HT_.out (by kernel_rfl)) (fun _ _ _ h => h) (Or.inl ⟨by rfl, ?_⟩) ?_ ?_
                   rotate_left
                   ·intro w'
                    go_simp
                    with_reducible rfl
                   rotate_left
                   ·simp only [Act.put, zA, zB, zC, i64_w, i32_w]
                    rfl
                   refine pure_ (i := 20) (N := some 89) (v := ?_) (a' := ?_) #[true, true, true, true, true, true, true, true, true, true, true, true, true, true, true, true, true, true, true, false, true, false, false, false, false, false, false] rfl rfl (any_of HT_.out (by kernel_rfl)) (fun _ _ _ h => h) (Or.inl ⟨by rfl, ?_⟩) ?_ ?_
                   rotate_left
                   ·intro w'
                    go_simp
                    with_reducible rfl
                   rotate_left
                   ·simp only [Act.put, zA, zB, zC, i64_w, i32_w]
                    rfl
                   refine take_ (i := 19) (N := some 88) (v := ?_) (a' := ?_) #[true, true, true, true, true, true, true, true, true, true, true, true, true, true, true, true, true, true, true, true, true, false, false, false, false, false, false] rfl rfl (take_ofW HT_.out HW_.out (by kernel_rfl)) (fun _ _ _ h => h) (Or.inl ⟨by rfl, ?_⟩) hHeld ?_ ?_
                   rotate_left
                   ·rintro w' ⟨s0, s1, s2, s3, s4, s5, s6, s7, s8⟩
                    go_simp
                    with_reducible rfl
                   rotate_left
                   ·simp only [Act.put, zA, zB, zC, i64_w, i32_w]
                    rfl
                   refine pure_ (i := 21) (N := some 90) (v := ?_) (a' := ?_) #[true, true, true, true, true, true, true, true, true, true, true, true, true, true, true, true, true, true, true, true, true, true, false, false, false, false, false] rfl rfl (any_of HT_.out (by kernel_rfl)) (fun _ _ _ h => h) (Or.inl ⟨by rfl, ?_⟩) ?_ ?_
                   rotate_left
                   ·intro w'
                    go_simp
                    with_reducible rfl
                   rotate_left
                   ·simp only [Act.put, zA, zB, zC, i64_w, i32_w]
                    rfl
                   refine pure_ (i := 22) (N := some 91) (v := ?_) (a' := ?_) #[true, true, true, true, true, true, true, true, true, true, true, true, true, true, true, true, true, true, true, true, true, true, true, false, false, false, false] rfl rfl (any_of HT_.out (by kernel_rfl)) (fun _ _ _ h => h) (Or.inl ⟨by rfl, ?_⟩) ?_ ?_
                   rotate_left
                   ·intro w'
                    go_simp
                    with_reducible rfl
                   rotate_left
                   ·simp only [Act.put, zA, zB, zC, i64_w, i32_w]
                    rfl
                   refine take_ (i := 23) (N := some 92) (v := ?_) (a' := ?_) #[true, true, true, true, true, true, true, true, true, true, true, true, true, true, true, true, true, true, true, true, true, true, true, true, false, false, false] rfl rfl (take_ofW HT_.out HW_.out (by kernel_rfl)) (fun _ _ _ h => h) (Or.inl ⟨by rfl, ?_⟩) hHeld ?_ ?_
                   rotate_left
                   ·rintro w' ⟨s0, s1, s2, s3, s4, s5, s6, s7, s8⟩
                    go_simp
                    with_reducible rfl
                   rotate_left
                   ·simp only [Act.put, zA, zB, zC, i64_w, i32_w]
                    rfl
                   refine one_ (i := 24) (N := some 93) #[true, true, true, true, true, true, true, true, true, true, true, true, true, true, true, true, true, true, true, true, true, true, true, true, true, false, false] rfl rfl (one_of HT_.out (by kernel_rfl)) (by decide) (fun K hK => ?_)
                   refine goes_ Try.func39 (by kernel_rfl) rfl #[.slice (some ad160) y166.length c0, .int .u64 ((rd_T60 ((rd_T46 l0 a1).f2) x6_3).f0)] (by rfl) rfl rfl (by (try simp only [List.map_toArray, List.map_cons, List.map_nil]); first | done | rfl | (simp only [List.length_drop, List.length_take]; rfl)) ?_
                   with_reducible refine (epicycleref04_Claimed.calls k3 _ _ y166 ((rd_T60 ((rd_T46 l0 a1).f2) x6_3).f0) t171 _ ?side1 ?side2 A45.out).mono ?_
                   (case side1 => repeat (first | exact (Kd.C_below HR169.out HB.out) | (with_reducible refine Kd.C_alloc ?_ _) | (with_reducible refine Kd.C_drewN ?_ _) | (with_reducible refine Kd.C_drew ?_)))
                   (case side2 => exact HC169.out)
                   rintro e w48 ⟨rfl, hb⟩
                   refine ⟨_, rfl, ?_⟩
                   have n0_ := Aside0.mk (blk_below (g := gb161) (o := .cells #[.int .u64 ((rd_T46 l0 a1).f0), .int .u64 ((rd_T46 l0 a1).f1), .slice (some ad164) ((rd_T46 l0 a1).f2).length c160_2] 46 (0, 0)) (by (with_reducible repeat (first | refine blk_drewN ?_ _ | refine blk_drew ?_ | refine blk_alloc ?_ _)); exact BK161.out) hb)
                   have n1_ := Aside0.mk (below_step (by repeat (first | (with_reducible first | exact HB.out | apply below_alloc | apply pw_below_drewN | apply below_drew1 | refine below_set ?_ GE161.out) | exact HB.out)) hb)
                   clear BK161
                   clear HB
                   have BK161 := n0_
                   have HB := n1_
                   clear n0_ n1_
                   (try clear hb)
                   (try clear hb2)
                   (try clear hk)
                   (try clear hi)
                   refine hK.out _ _ ⟨(blk_cell BK161.out 0).trans rfl, (blk_cell BK161.out 1).trans rfl, (blk_cell BK161.out 2).trans rfl, ((HB.out.cell (World.block_lt_of_cell? w _ hw164_0)).trans hw164_0), ((HB.out.cell (World.block_lt_of_cell? w _ hw164_1)).trans hw164_1), ((HB.out.cell (World.block_lt_of_cell? w _ hw165_0)).trans hw165_0), ((HB.out.cell (World.block_lt_of_cell? w _ hw165_1)).trans hw165_1), ((HB.out.cell (World.block_lt_of_cell? w _ hw170_0)).trans hw170_0), ((HB.out.cell (World.block_lt_of_cell? w _ hw170_1)).trans hw170_1)⟩ (fun hHeld => ?_)
                   clear hK K
                   refine norm_ (a' := ?_) ?_ ?_
                   rotate_left
                   ·show Act.put _ (some 93) _ = _
                    simp only [Act.put, zA, zB, zC, i64_w, i32_w]
                    rfl
                   refine pure_ (i := 25) (N := some 94) (v := ?_) (a' := ?_) #[true, true, true, true, true, true, true, true, true, true, true, true, true, true, true, true, true, true, true, true, true, true, true, true, true, true, false] rfl rfl (any_of HT_.out (by kernel_rfl)) (fun _ _ _ h => h) (Or.inl ⟨by rfl, ?_⟩) ?_ ?_
                   rotate_left
                   ·intro w'
                    go_simp
                    with_reducible rfl
                   rotate_left
                   ·simp only [Act.put, zA, zB, zC, i64_w, i32_w]
                    rfl
                   refine pure_ (i := 26) (N := some 95) (v := ?_) (a' := ?_) #[true, true, true, true, true, true, true, true, true, true, true, true, true, true, true, true, true, true, true, true, true, true, true, true, true, true, true] rfl rfl (any_of HT_.out (by kernel_rfl)) (fun _ _ _ h => h) (Or.inl ⟨by rfl, ?_⟩) ?_ ?_
                   rotate_left
                   ·intro w'
                    go_simp
                    with_reducible rfl
                   rotate_left
                   ·simp only [Act.put, zA, zB, zC, i64_w, i32_w]
                    rfl
                   refine done_ (done_of HT_.out (by kernel_rfl)) ?_
                   try go_wp2
                   go_meet
                   case rel => exact ⟨_, (!t171), (by first | rfl | (simp; done) | (simp [*]; done)), H', ⟨by have := HJ4.out; have := HJ25.out; have := HK3.out; first | omega | exact Nat.le_refl _⟩, ⟨by (with_reducible repeat (first | refine blk_drewN ?_ _ | refine blk_drew ?_ | refine blk_alloc ?_ _)); exact BK161.out⟩, ⟨by repeat (first | (with_reducible first | exact HB.out | apply below_alloc | apply pw_below_drewN | apply below_drew1 | refine below_set ?_ GE161.out) | exact HB.out)⟩⟩
                  ·rw [if_neg c44] at H
                   exact absurd H (by simp)
                 ·rw [if_neg c43] at H
                  exact absurd H (by simp)
               ·rw [if_neg c40] at H
                exact absurd H (by simp)
              ·rw [if_neg c39] at H
               exact absurd H (by simp)
             ·rw [if_neg c37] at H
              exact absurd H (by simp)
            case rest =>
             clear HC35
             try clear c1
             try clear p1
             try clear q1
             try clear hx1
             try clear p2
             try clear c3
             try clear c4
             try clear q4
             try clear p6
             try clear c16
             try clear p16
             try clear q16
             try clear hx16
             try clear p17
             try clear q17
             try clear hx17
             try clear c34
             try clear c34b0
             try clear c37
             try clear c37b0
             try clear c39
             try clear c39b0
             try clear c40
             try clear c40b0
             try clear c41
             try clear c41b0
             try clear c43
             try clear c43b0
             try clear c43b1
             try clear c44
             try clear c44b0
             try clear c44b1
             try clear q47
             try clear hcz36_0
             try clear hcz36_1
             try clear hcz36_2
             try clear hfz30_1
             try clear hfz30_2
             try clear hfz32_0
             try clear hfz32_1
             try clear hfz32_2
             try clear hfz36_0
             try clear hfz36_1
             try clear hfz36_2
             try clear hx162_0
             try clear hx162_1
             try clear hx162_2
             try clear hx163_0
             try clear hx163_1
             try clear hx164_0
             try clear hx164_1
             try clear hx165_0
             try clear hx165_1
             try clear hx170_0
             try clear hx170_1
             try clear p1
             try clear p16
             try clear p162
             try clear p163
             try clear p164
             try clear p165
             try clear p170
             try clear p2
             try clear p6
             try clear q1
             try clear q16
             try clear q162
             try clear q163
             try clear q164
             try clear q165
             try clear q170
             try clear q47
             obtain ⟨kq, x95_34, rfl, HA, HJ34, BK161, HB⟩ := hcut
             cases kq with
             | zero => exact absurd HA.out (by simp [epicycleref04_Right.j3])
             | succ kj34 =>
              have H := HA.out
              clear HA
              simp only [epicycleref04_Right.j3] at H
              by_cases c49 : x95_34 = true
              ·subst c49
               have H1 : (some false) = some r := by rw [if_pos rfl] at H <;> exact H
               clear H
               have H := H1
               clear H1
               obtain rfl := Option.some.inj H
               go_wp2
               go_ret
               exact ⟨by first | rfl | (simp [errW_none, errW_some] <;> rfl) | (simp [*, errW_none, errW_some] <;> rfl), by repeat (first | (with_reducible first | exact HB.out | apply below_alloc | apply pw_below_drewN | apply below_drew1 | refine below_set ?_ GE161.out) | exact HB.out)⟩
              ·replace c49 := Bool.eq_false_iff.mpr c49
               subst c49
               have H1 : (epicycleref04_Right.l0 kj34 l0 a1 (wrap64 (x6_3 + 1)) ((rd_T46 l0 a1).f0) ((rd_T46 l0 a1).f1) ((rd_T46 l0 a1).f2)) = some r := by rw [if_neg (show ¬ (false = true) by decide)] at H <;> exact H
               clear H
               have H := H1
               clear H1
               have H' := Aside0.mk H
               clear H
               go_wp2
               go_roundg kj34
               case measure => have := HJ4.out; have := HJ25.out; have := HK3.out; have := HJ34.out; omega
               case rel => exact ⟨(wrap64 (x6_3 + 1)), (by first | rfl | (simp; done) | (simp [*]; done)), H', ⟨by have := HJ4.out; have := HJ25.out; have := HK3.out; have := HJ34.out; omega⟩, ⟨by (with_reducible repeat (first | refine blk_drewN ?_ _ | refine blk_drew ?_ | refine blk_alloc ?_ _)); exact BK161.out⟩, ⟨by repeat (first | (with_reducible first | exact HB.out | apply below_alloc | apply pw_below_drewN | apply below_drew1 | refine below_set ?_ GE161.out) | exact HB.out)⟩⟩
           ·rw [if_neg c34] at H
            have c34b0 : decide (x6_3 < (((rd_T46 l0 a1).f2).length : Int)) = false := decide_eq_false c34
            clear c34
            replace H := Option.bind_eq_some_iff.mp H
            obtain ⟨⟨t172, t173⟩, A500, H⟩ := H
            replace H : (if t173 = true then (if t172 = (IntKind.u64.wrap (((rd_T46 l0 a1).f0) - 1)) then (if ((rd_T46 l0 a1).f1) < 2 then (epicycleref04_Right.j4 k3 true ((rd_T46 l0 a1).f0) ((rd_T46 l0 a1).f1) ((rd_T46 l0 a1).f2)) else (if ((rd_T46 l0 a1).f1) ≥ ((rd_T46 l0 a1).f0) then (epicycleref04_Right.j4 k3 true ((rd_T46 l0 a1).f0) ((rd_T46 l0 a1).f1) ((rd_T46 l0 a1).f2)) else ((epicycleref02_Pow.f k3 ((rd_T46 l0 a1).f1) (IntKind.u64.wrap (((rd_T46 l0 a1).f0) - 1)) ((rd_T46 l0 a1).f0)).bind fun t174 => (epicycleref04_Right.j4 k3 (t174 != 1) ((rd_T46 l0 a1).f0) ((rd_T46 l0 a1).f1) ((rd_T46 l0 a1).f2))))) else (epicycleref04_Right.j4 k3 true ((rd_T46 l0 a1).f0) ((rd_T46 l0 a1).f1) ((rd_T46 l0 a1).f2))) else (epicycleref04_Right.j4 k3 true ((rd_T46 l0 a1).f0) ((rd_T46 l0 a1).f1) ((rd_T46 l0 a1).f2))) = some r := H
            have A50 := Aside0.mk A500
            clear A500
            have HC51 := Aside0.mk H
            clear H
            have hcz52_0 : wr.cell? ⟨gb161, 0, none⟩ = some (.int .u64 ((rd_T46 l0 a1).f0)) := (blk_cell BK161.out 0).trans rfl
            have hcz52_1 : wr.cell? ⟨gb161, 1, none⟩ = some (.int .u64 ((rd_T46 l0 a1).f1)) := (blk_cell BK161.out 1).trans rfl
            have hcz52_2 : wr.cell? ⟨gb161, 2, none⟩ = some (.slice A160_2 ((rd_T46 l0 a1).f2).length c160_2) := (blk_cell BK161.out 2).trans rfl
            have hfz52_0 := blk_frozen BK161.out 0
            have hfz52_1 := blk_frozen BK161.out 1
            have hfz52_2 := blk_frozen BK161.out 2
            go_upto_region 12 with (first | ((with_reducible refine gate_callee (f := 52) rfl ?_); refine goesL_ (some 102) rfl rfl Try.func52 (by kernel_rfl) rfl #[.slice A160_2 ((rd_T46 l0 a1).f2).length c160_2, .int .u64 (IntKind.u64.wrap (((rd_T46 l0 a1).f0) - 1))] rfl (by (try simp only [List.map_toArray, List.map_cons, List.map_nil]); first | done | rfl | (simp only [List.length_drop, List.length_take]; rfl)) ?_; (with_reducible refine (epicycleref04_Product.calls k3 _ _ ((rd_T46 l0 a1).f2) (IntKind.u64.wrap (((rd_T46 l0 a1).f0) - 1)) t172 t173 _ ?side1 ?side2 A50.out).mono ?_); (case side1 => repeat (first | exact (Kd.C_below HR160_2.out HB.out) | (with_reducible refine Kd.C_alloc ?_ _) | (with_reducible refine Kd.C_drewN ?_ _) | (with_reducible refine Kd.C_drew ?_))); (case side2 => exact HC160_2.out); rintro e w53 ⟨rfl, hb⟩; refine ⟨_, rfl, ?_⟩; have n0_ := Aside0.mk (blk_below (g := gb161) (o := .cells #[.int .u64 ((rd_T46 l0 a1).f0), .int .u64 ((rd_T46 l0 a1).f1), .slice A160_2 ((rd_T46 l0 a1).f2).length c160_2] 46 (0, 0)) (by (with_reducible repeat (first | refine blk_drewN ?_ _ | refine blk_drew ?_ | refine blk_alloc ?_ _)); exact BK161.out) hb); have n1_ := Aside0.mk (below_step (by repeat (first | (with_reducible first | exact HB.out | apply below_alloc | apply pw_below_drewN | apply below_drew1 | refine below_set ?_ GE161.out) | exact HB.out)) hb); clear BK161; clear HB; have BK161 := n0_; have HB := n1_; clear n0_ n1_; (try clear hb); (try clear hb2); (try clear hk); (try clear hi)))
            (try simp only [Act.put, List.setIfInBounds_toArray, List.set_cons_zero, List.set_cons_succ])
            go_cut [136] (fun v136 wc => ∃ (kq : Nat) (x136_50 : Bool), v136 = .bool x136_50 ∧ Aside0 (epicycleref04_Right.j4 kq x136_50 ((rd_T46 l0 a1).f0) ((rd_T46 l0 a1).f1) ((rd_T46 l0 a1).f2) = some r) ∧ Aside0 (kq ≤ k3) ∧ Aside0 (wc.heap[gb161]? = some (.cells #[.int .u64 ((rd_T46 l0 a1).f0), .int .u64 ((rd_T46 l0 a1).f1), (.slice A160_2 ((rd_T46 l0 a1).f2).length c160_2)] 46 (0, 0))) ∧ Aside0 (Below w.heap.size w wc))
            case first =>
             have H := HC51.out
             clear HC51
             by_cases c54 : t173 = true
             ·subst c54
              have H1 : (if t172 = (IntKind.u64.wrap (((rd_T46 l0 a1).f0) - 1)) then (if ((rd_T46 l0 a1).f1) < 2 then (epicycleref04_Right.j4 k3 true ((rd_T46 l0 a1).f0) ((rd_T46 l0 a1).f1) ((rd_T46 l0 a1).f2)) else (if ((rd_T46 l0 a1).f1) ≥ ((rd_T46 l0 a1).f0) then (epicycleref04_Right.j4 k3 true ((rd_T46 l0 a1).f0) ((rd_T46 l0 a1).f1) ((rd_T46 l0 a1).f2)) else ((epicycleref02_Pow.f k3 ((rd_T46 l0 a1).f1) (IntKind.u64.wrap (((rd_T46 l0 a1).f0) - 1)) ((rd_T46 l0 a1).f0)).bind fun t174 => (epicycleref04_Right.j4 k3 (t174 != 1) ((rd_T46 l0 a1).f0) ((rd_T46 l0 a1).f1) ((rd_T46 l0 a1).f2))))) else (epicycleref04_Right.j4 k3 true ((rd_T46 l0 a1).f0) ((rd_T46 l0 a1).f1) ((rd_T46 l0 a1).f2))) = some r := by rw [if_pos rfl] at H <;> exact H
              clear H
              have H := H1
              clear H1
              by_cases c55 : t172 = (IntKind.u64.wrap (((rd_T46 l0 a1).f0) - 1))
              ·rw [if_pos c55] at H
               have c55b0 : (t172 == (IntKind.u64.wrap (((rd_T46 l0 a1).f0) - 1))) = true := beq_iff_eq.mpr c55
               have c55b1 : (t172 != (IntKind.u64.wrap (((rd_T46 l0 a1).f0) - 1))) = false := bne_eq_false_iff_eq.mpr c55
               clear c55
               (first | rw [c55b0] | (simp only [i64_w, i32_w]; rw [c55b0]) | skip)
               by_cases c56 : ((rd_T46 l0 a1).f1) < 2
               ·rw [if_pos c56] at H
                have c56b0 : decide (((rd_T46 l0 a1).f1) < 2) = true := decide_eq_true c56
                clear c56
                have H' := Aside0.mk H
                clear H
                have hcz57_0 : w53.cell? ⟨gb161, 0, none⟩ = some (.int .u64 ((rd_T46 l0 a1).f0)) := (blk_cell BK161.out 0).trans rfl
                have hcz57_1 : w53.cell? ⟨gb161, 1, none⟩ = some (.int .u64 ((rd_T46 l0 a1).f1)) := (blk_cell BK161.out 1).trans rfl
                have hcz57_2 : w53.cell? ⟨gb161, 2, none⟩ = some (.slice A160_2 ((rd_T46 l0 a1).f2).length c160_2) := (blk_cell BK161.out 2).trans rfl
                have hfz57_0 := blk_frozen BK161.out 0
                have hfz57_1 := blk_frozen BK161.out 1
                have hfz57_2 := blk_frozen BK161.out 2
                go_wp2
                go_meet
                case rel => exact ⟨_, (true), (by first | rfl | (simp; done) | (simp [*]; done)), H', ⟨by have := HJ4.out; have := HJ25.out; have := HK3.out; first | omega | exact Nat.le_refl _⟩, ⟨by (with_reducible repeat (first | refine blk_drewN ?_ _ | refine blk_drew ?_ | refine blk_alloc ?_ _)); exact BK161.out⟩, ⟨by repeat (first | (with_reducible first | exact HB.out | apply below_alloc | apply pw_below_drewN | apply below_drew1 | refine below_set ?_ GE161.out) | exact HB.out)⟩⟩
               ·rw [if_neg c56] at H
                have c56b0 : decide (((rd_T46 l0 a1).f1) < 2) = false := decide_eq_false c56
                clear c56
                by_cases c58 : ((rd_T46 l0 a1).f1) ≥ ((rd_T46 l0 a1).f0)
                ·rw [if_pos c58] at H
                 have c58b0 : decide (((rd_T46 l0 a1).f0) ≤ ((rd_T46 l0 a1).f1)) = true := decide_eq_true c58
                 clear c58
                 have H' := Aside0.mk H
                 clear H
                 have hcz59_0 : w53.cell? ⟨gb161, 0, none⟩ = some (.int .u64 ((rd_T46 l0 a1).f0)) := (blk_cell BK161.out 0).trans rfl
                 have hcz59_1 : w53.cell? ⟨gb161, 1, none⟩ = some (.int .u64 ((rd_T46 l0 a1).f1)) := (blk_cell BK161.out 1).trans rfl
                 have hcz59_2 : w53.cell? ⟨gb161, 2, none⟩ = some (.slice A160_2 ((rd_T46 l0 a1).f2).length c160_2) := (blk_cell BK161.out 2).trans rfl
                 have hfz59_0 := blk_frozen BK161.out 0
                 have hfz59_1 := blk_frozen BK161.out 1
                 have hfz59_2 := blk_frozen BK161.out 2
                 go_wp2
                 go_meet
                 case rel => exact ⟨_, (true), (by first | rfl | (simp; done) | (simp [*]; done)), H', ⟨by have := HJ4.out; have := HJ25.out; have := HK3.out; first | omega | exact Nat.le_refl _⟩, ⟨by (with_reducible repeat (first | refine blk_drewN ?_ _ | refine blk_drew ?_ | refine blk_alloc ?_ _)); exact BK161.out⟩, ⟨by repeat (first | (with_reducible first | exact HB.out | apply below_alloc | apply pw_below_drewN | apply below_drew1 | refine below_set ?_ GE161.out) | exact HB.out)⟩⟩
                ·rw [if_neg c58] at H
                 have c58b0 : decide (((rd_T46 l0 a1).f0) ≤ ((rd_T46 l0 a1).f1)) = false := decide_eq_false c58
                 clear c58
                 replace H := Option.bind_eq_some_iff.mp H
                 obtain ⟨t174, A600, H⟩ := H
                 replace H : (epicycleref04_Right.j4 k3 (t174 != 1) ((rd_T46 l0 a1).f0) ((rd_T46 l0 a1).f1) ((rd_T46 l0 a1).f2)) = some r := H
                 have A60 := Aside0.mk A600
                 clear A600
                 have H' := Aside0.mk H
                 clear H
                 have hcz61_0 : w53.cell? ⟨gb161, 0, none⟩ = some (.int .u64 ((rd_T46 l0 a1).f0)) := (blk_cell BK161.out 0).trans rfl
                 have hcz61_1 : w53.cell? ⟨gb161, 1, none⟩ = some (.int .u64 ((rd_T46 l0 a1).f1)) := (blk_cell BK161.out 1).trans rfl
                 have hcz61_2 : w53.cell? ⟨gb161, 2, none⟩ = some (.slice A160_2 ((rd_T46 l0 a1).f2).length c160_2) := (blk_cell BK161.out 2).trans rfl
                 have hfz61_0 := blk_frozen BK161.out 0
                 have hfz61_1 := blk_frozen BK161.out 1
                 have hfz61_2 := blk_frozen BK161.out 2
                 go_wp2_with (first | (go_at_call 28; (with_reducible refine (epicycleref02_Pow.calls k3 ((rd_T46 l0 a1).f1) (IntKind.u64.wrap (((rd_T46 l0 a1).f0) - 1)) ((rd_T46 l0 a1).f0) t174 _ A60.out).mono ?_); rintro e w' ⟨rfl, ⟨nd, rfl⟩⟩))
                 go_meet
                 case rel => exact ⟨_, ((t174 != 1)), (by first | rfl | (simp; done) | (simp [*]; done)), H', ⟨by have := HJ4.out; have := HJ25.out; have := HK3.out; first | omega | exact Nat.le_refl _⟩, ⟨by (with_reducible repeat (first | refine blk_drewN ?_ _ | refine blk_drew ?_ | refine blk_alloc ?_ _)); exact BK161.out⟩, ⟨by repeat (first | (with_reducible first | exact HB.out | apply below_alloc | apply pw_below_drewN | apply below_drew1 | refine below_set ?_ GE161.out) | exact HB.out)⟩⟩
              ·rw [if_neg c55] at H
               have c55b0 : (t172 == (IntKind.u64.wrap (((rd_T46 l0 a1).f0) - 1))) = false := beq_eq_false_iff_ne.mpr c55
               have c55b1 : (t172 != (IntKind.u64.wrap (((rd_T46 l0 a1).f0) - 1))) = true := bne_iff_ne.mpr c55
               (first | rw [c55b0] | (simp only [i64_w, i32_w]; rw [c55b0]) | skip)
               have H' := Aside0.mk H
               clear H
               have hcz62_0 : w53.cell? ⟨gb161, 0, none⟩ = some (.int .u64 ((rd_T46 l0 a1).f0)) := (blk_cell BK161.out 0).trans rfl
               have hcz62_1 : w53.cell? ⟨gb161, 1, none⟩ = some (.int .u64 ((rd_T46 l0 a1).f1)) := (blk_cell BK161.out 1).trans rfl
               have hcz62_2 : w53.cell? ⟨gb161, 2, none⟩ = some (.slice A160_2 ((rd_T46 l0 a1).f2).length c160_2) := (blk_cell BK161.out 2).trans rfl
               have hfz62_0 := blk_frozen BK161.out 0
               have hfz62_1 := blk_frozen BK161.out 1
               have hfz62_2 := blk_frozen BK161.out 2
               go_wp2
               go_meet
               case rel => exact ⟨_, (true), (by first | rfl | (simp; done) | (simp [*]; done)), H', ⟨by have := HJ4.out; have := HJ25.out; have := HK3.out; first | omega | exact Nat.le_refl _⟩, ⟨by (with_reducible repeat (first | refine blk_drewN ?_ _ | refine blk_drew ?_ | refine blk_alloc ?_ _)); exact BK161.out⟩, ⟨by repeat (first | (with_reducible first | exact HB.out | apply below_alloc | apply pw_below_drewN | apply below_drew1 | refine below_set ?_ GE161.out) | exact HB.out)⟩⟩
             ·replace c54 := Bool.eq_false_iff.mpr c54
              subst c54
              have H1 : (epicycleref04_Right.j4 k3 true ((rd_T46 l0 a1).f0) ((rd_T46 l0 a1).f1) ((rd_T46 l0 a1).f2)) = some r := by rw [if_neg (show ¬ (false = true) by decide)] at H <;> exact H
              clear H
              have H := H1
              clear H1
              have H' := Aside0.mk H
              clear H
              go_wp2
              go_meet
              case rel => exact ⟨_, (true), (by first | rfl | (simp; done) | (simp [*]; done)), H', ⟨by have := HJ4.out; have := HJ25.out; have := HK3.out; first | omega | exact Nat.le_refl _⟩, ⟨by (with_reducible repeat (first | refine blk_drewN ?_ _ | refine blk_drew ?_ | refine blk_alloc ?_ _)); exact BK161.out⟩, ⟨by repeat (first | (with_reducible first | exact HB.out | apply below_alloc | apply pw_below_drewN | apply below_drew1 | refine below_set ?_ GE161.out) | exact HB.out)⟩⟩
            case rest =>
             clear HC51
             try clear c1
             try clear p1
             try clear q1
             try clear hx1
             try clear p2
             try clear c3
             try clear c4
             try clear q4
             try clear c5
             try clear p6
             try clear c16
             try clear p16
             try clear q16
             try clear hx16
             try clear p17
             try clear q17
             try clear hx17
             try clear c34
             try clear c34b0
             try clear c37
             try clear c37b0
             try clear c39
             try clear c39b0
             try clear c40
             try clear c40b0
             try clear c41
             try clear c41b0
             try clear c43
             try clear c43b0
             try clear c43b1
             try clear c44
             try clear c44b0
             try clear c44b1
             try clear q47
             try clear c49
             try clear c52
             try clear c54
             try clear c55
             try clear c55b0
             try clear c55b1
             try clear c56
             try clear c56b0
             try clear c58
             try clear c58b0
             try clear hcz36_0
             try clear hcz36_1
             try clear hcz36_2
             try clear hcz52_0
             try clear hcz52_1
             try clear hcz52_2
             try clear hcz57_0
             try clear hcz57_1
             try clear hcz57_2
             try clear hcz59_0
             try clear hcz59_1
             try clear hcz59_2
             try clear hcz61_0
             try clear hcz61_1
             try clear hcz61_2
             try clear hcz62_0
             try clear hcz62_1
             try clear hcz62_2
             try clear hfz30_1
             try clear hfz30_2
             try clear hfz32_0
             try clear hfz32_1
             try clear hfz32_2
             try clear hfz36_0
             try clear hfz36_1
             try clear hfz36_2
             try clear hfz52_0
             try clear hfz52_1
             try clear hfz52_2
             try clear hfz57_0
             try clear hfz57_1
             try clear hfz57_2
             try clear hfz59_0
             try clear hfz59_1
             try clear hfz59_2
             try clear hfz61_0
             try clear hfz61_1
             try clear hfz61_2
             try clear hfz62_0
             try clear hfz62_1
             try clear hfz62_2
             try clear hx162_0
             try clear hx162_1
             try clear hx162_2
             try clear hx163_0
             try clear hx163_1
             try clear hx164_0
             try clear hx164_1
             try clear hx165_0
             try clear hx165_1
             try clear hx170_0
             try clear hx170_1
             try clear p1
             try clear p16
             try clear p162
             try clear p163
             try clear p164
             try clear p165
             try clear p17
             try clear p170
             try clear p2
             try clear p6
             try clear q1
             try clear q16
             try clear q162
             try clear q163
             try clear q164
             try clear q165
             try clear q17
             try clear q170
             try clear q4
             try clear q47
             obtain ⟨kq, x136_50, rfl, HA, HJ50, BK161, HB⟩ := hcut
             cases kq with
             | zero => exact absurd HA.out (by simp [epicycleref04_Right.j4])
             | succ kj50 =>
              have H := HA.out
              clear HA
              simp only [epicycleref04_Right.j4] at H
              by_cases c63 : x136_50 = true
              ·subst c63
               have H1 : (some false) = some r := by rw [if_pos rfl] at H <;> exact H
               clear H
               have H := H1
               clear H1
               obtain rfl := Option.some.inj H
               go_wp2
               go_ret
               exact ⟨by first | rfl | (simp [errW_none, errW_some] <;> rfl) | (simp [*, errW_none, errW_some] <;> rfl), by repeat (first | (with_reducible first | exact HB.out | apply below_alloc | apply pw_below_drewN | apply below_drew1 | refine below_set ?_ GE161.out) | exact HB.out)⟩
              ·replace c63 := Bool.eq_false_iff.mpr c63
               subst c63
               have H1 : (epicycleref04_Right.l1 kj50 ((rd_T46 l0 a1).f2) (((rd_T46 l0 a1).f2).length : Int) 0 ((rd_T46 l0 a1).f0) ((rd_T46 l0 a1).f1) ((rd_T46 l0 a1).f2)) = some r := by rw [if_neg (show ¬ (false = true) by decide)] at H <;> exact H
               clear H
               have H := H1
               clear H1
               have H' := Aside0.mk H
               clear H
               have hcz64_0 : wc.cell? ⟨gb161, 0, none⟩ = some (.int .u64 ((rd_T46 l0 a1).f0)) := (blk_cell BK161.out 0).trans rfl
               have hcz64_1 : wc.cell? ⟨gb161, 1, none⟩ = some (.int .u64 ((rd_T46 l0 a1).f1)) := (blk_cell BK161.out 1).trans rfl
               have hcz64_2 : wc.cell? ⟨gb161, 2, none⟩ = some (.slice A160_2 ((rd_T46 l0 a1).f2).length c160_2) := (blk_cell BK161.out 2).trans rfl
               have hfz64_0 := blk_frozen BK161.out 0
               have hfz64_1 := blk_frozen BK161.out 1
               have hfz64_2 := blk_frozen BK161.out 2
               go_wp2
               go_loopg [140] kj50 (fun kq v140 w' => ∃ (x140_5 : Int), v140 = .int .i64 x140_5 ∧ Aside0 (epicycleref04_Right.l1 kq ((rd_T46 l0 a1).f2) (((rd_T46 l0 a1).f2).length : Int) x140_5 ((rd_T46 l0 a1).f0) ((rd_T46 l0 a1).f1) ((rd_T46 l0 a1).f2) = some r) ∧ Aside0 (kq ≤ kj50) ∧ Aside0 (w'.heap[gb161]? = some (.cells #[.int .u64 ((rd_T46 l0 a1).f0), .int .u64 ((rd_T46 l0 a1).f1), (.slice A160_2 ((rd_T46 l0 a1).f2).length c160_2)] 46 (0, 0))) ∧ Aside0 (Below w.heap.size w w'))
               case atStart => exact ⟨(0), (by first | rfl | (simp; done) | (simp [*]; done)), H', ⟨Nat.le_refl _⟩, ⟨by (with_reducible repeat (first | refine blk_drewN ?_ _ | refine blk_drew ?_ | refine blk_alloc ?_ _)); exact BK161.out⟩, ⟨by repeat (first | (with_reducible first | exact HB.out | apply below_alloc | apply pw_below_drewN | apply below_drew1 | refine below_set ?_ GE161.out) | exact HB.out)⟩⟩
               case round =>
                clear H'
                try clear c1
                try clear p1
                try clear q1
                try clear hx1
                try clear p2
                try clear c3
                try clear c4
                try clear q4
                try clear c5
                try clear c6
                try clear p6
                try clear c16
                try clear p16
                try clear q16
                try clear hx16
                try clear p17
                try clear q17
                try clear hx17
                try clear c34
                try clear c34b0
                try clear c37
                try clear c37b0
                try clear c39
                try clear c39b0
                try clear c40
                try clear c40b0
                try clear c41
                try clear c41b0
                try clear c43
                try clear c43b0
                try clear c43b1
                try clear c44
                try clear c44b0
                try clear c44b1
                try clear q47
                try clear c49
                try clear c52
                try clear c54
                try clear c55
                try clear c55b0
                try clear c55b1
                try clear c56
                try clear c56b0
                try clear c58
                try clear c58b0
                try clear c63
                try clear p64
                try clear hcz36_0
                try clear hcz36_1
                try clear hcz36_2
                try clear hcz52_0
                try clear hcz52_1
                try clear hcz52_2
                try clear hcz57_0
                try clear hcz57_1
                try clear hcz57_2
                try clear hcz59_0
                try clear hcz59_1
                try clear hcz59_2
                try clear hcz61_0
                try clear hcz61_1
                try clear hcz61_2
                try clear hcz62_0
                try clear hcz62_1
                try clear hcz62_2
                try clear hcz64_0
                try clear hcz64_1
                try clear hcz64_2
                try clear hfz30_1
                try clear hfz30_2
                try clear hfz32_0
                try clear hfz32_1
                try clear hfz32_2
                try clear hfz36_0
                try clear hfz36_1
                try clear hfz36_2
                try clear hfz52_0
                try clear hfz52_1
                try clear hfz52_2
                try clear hfz57_0
                try clear hfz57_1
                try clear hfz57_2
                try clear hfz59_0
                try clear hfz59_1
                try clear hfz59_2
                try clear hfz61_0
                try clear hfz61_1
                try clear hfz61_2
                try clear hfz62_0
                try clear hfz62_1
                try clear hfz62_2
                try clear hfz64_0
                try clear hfz64_1
                try clear hfz64_2
                try clear hx162_0
                try clear hx162_1
                try clear hx162_2
                try clear hx163_0
                try clear hx163_1
                try clear hx164_0
                try clear hx164_1
                try clear hx165_0
                try clear hx165_1
                try clear hx170_0
                try clear hx170_1
                try clear p1
                try clear p16
                try clear p162
                try clear p163
                try clear p164
                try clear p165
                try clear p17
                try clear p170
                try clear p2
                try clear p6
                try clear q1
                try clear q16
                try clear q162
                try clear q163
                try clear q164
                try clear q165
                try clear q17
                try clear q170
                try clear q4
                try clear q47
                obtain ⟨x140_5, rfl, HA, HK5, BK161, HB⟩ := hrel
                cases gk with
                | zero => exact absurd HA.out (by simp [epicycleref04_Right.l1])
                | succ k5 =>
                 have H := HA.out
                 clear HA
                 simp only [epicycleref04_Right.l1] at H
                 by_cases c65 : x140_5 < (((rd_T46 l0 a1).f2).length : Int)
                 ·rw [if_pos c65] at H
                  have c65b0 : decide (x140_5 < (((rd_T46 l0 a1).f2).length : Int)) = true := decide_eq_true c65
                  clear c65
                  by_cases c66 : 0 ≤ x140_5
                  ·rw [if_pos c66] at H
                   have c66b0 : decide (0 ≤ x140_5) = true := decide_eq_true c66
                   clear c66
                   by_cases c67 : x140_5 < (((rd_T46 l0 a1).f2).length : Int)
                   ·rw [if_pos c67] at H
                    have c67b0 : decide (x140_5 < (((rd_T46 l0 a1).f2).length : Int)) = true := decide_eq_true c67
                    clear c67
                    by_cases c68 : ((rd_T60 ((rd_T46 l0 a1).f2) x140_5).f0) = 0
                    ·rw [if_pos c68] at H
                     exact absurd H (by simp)
                    ·rw [if_neg c68] at H
                     have c68b0 : (((rd_T60 ((rd_T46 l0 a1).f2) x140_5).f0) == 0) = false := beq_eq_false_iff_ne.mpr c68
                     have c68b1 : (((rd_T60 ((rd_T46 l0 a1).f2) x140_5).f0) != 0) = true := bne_iff_ne.mpr c68
                     replace H := Option.bind_eq_some_iff.mp H
                     obtain ⟨t177, A690, H⟩ := H
                     replace H : (if t177 = 1 then (some false) else (epicycleref04_Right.l1 k5 ((rd_T46 l0 a1).f2) (((rd_T46 l0 a1).f2).length : Int) (wrap64 (x140_5 + 1)) ((rd_T46 l0 a1).f0) ((rd_T46 l0 a1).f1) ((rd_T46 l0 a1).f2))) = some r := H
                     have A69 := Aside0.mk A690
                     clear A690
                     by_cases c70 : t177 = 1
                     ·rw [if_pos c70] at H
                      have c70b0 : (t177 == 1) = true := beq_iff_eq.mpr c70
                      have c70b1 : (t177 != 1) = false := bne_eq_false_iff_eq.mpr c70
                      clear c70
                      obtain rfl := Option.some.inj H
                      have p175 : 0 ≤ (x140_5 : Int) := of_decide_eq_true (by first | (with_reducible assumption) | assumption)
                      have q175 : x140_5 < (((rd_T46 l0 a1).f2).length : Int) := of_decide_eq_true (by first | (with_reducible assumption) | assumption)
                      obtain ⟨ad175, e175, hx175_0, hx175_1⟩ := at_T60 HR160_2.out x140_5 p175 q175
                      cases e175
                      replace hx175_0 := (HB.out.cell (World.block_lt_of_cell? w _ hx175_0)).trans hx175_0
                      replace hx175_1 := (HB.out.cell (World.block_lt_of_cell? w _ hx175_1)).trans hx175_1
                      replace p175 := eq_true p175
                      replace q175 := eq_true q175
                      try go_wp2_with (first | ((with_reducible refine gate_dst (N := 10) rfl ?_); (try (refine gate_guard (by rfl) ?_; dsimp only)); refine box_event ?hg (N := 10) ?hd (cs := #[.int .u64 0, .int .i64 0]) (t := 60) ?hr ?_; (case hd => rfl); (case hg => rfl); (case hr => first | (go_simp; done) | (go_simp; rfl)); intro gb176 hg w71 hbox hb; have n0_ := Aside0.mk (blk_below (g := gb161) (o := .cells #[.int .u64 ((rd_T46 l0 a1).f0), .int .u64 ((rd_T46 l0 a1).f1), .slice (some ad175) ((rd_T46 l0 a1).f2).length c160_2] 46 (0, 0)) (by (with_reducible repeat (first | refine blk_drewN ?_ _ | refine blk_drew ?_ | refine blk_alloc ?_ _)); exact BK161.out) hb); have n1_ := Aside0.mk (below_step (by repeat (first | (with_reducible first | exact HB.out | apply below_alloc | apply pw_below_drewN | apply below_drew1 | refine below_set ?_ GE161.out) | exact HB.out)) hb); have n2_ := Aside0.mk (hbox); have n3_ := Aside0.mk ((by rw [hg]; exact (below_size (by repeat (first | (with_reducible first | exact HB.out | apply below_alloc | apply pw_below_drewN | apply below_drew1 | refine below_set ?_ GE161.out) | exact HB.out))) : w.heap.size ≤ gb176)); have n4_ := Aside0.mk ((by rw [hg]; exact (below_size (by repeat (first | (with_reducible first | exact HB.out | apply below_alloc | apply pw_below_drewN | apply below_drew1 | refine below_set ?_ GE161.out) | exact HB.out))) : w.heap.size ≤ gb176)); have n5_ := Aside0.mk ((by rw [hg]; exact Nat.ne_of_lt (blk_lt (g := gb161) (o := .cells #[.int .u64 ((rd_T46 l0 a1).f0), .int .u64 ((rd_T46 l0 a1).f1), .slice (some ad175) ((rd_T46 l0 a1).f2).length c160_2] 46 (0, 0)) (by (with_reducible repeat (first | refine blk_drewN ?_ _ | refine blk_drew ?_ | refine blk_alloc ?_ _)); exact BK161.out)) : gb161 ≠ gb176)); have n6_ := Aside0.mk ((by rw [hg]; exact Nat.ne_of_gt (blk_lt (g := gb161) (o := .cells #[.int .u64 ((rd_T46 l0 a1).f0), .int .u64 ((rd_T46 l0 a1).f1), .slice (some ad175) ((rd_T46 l0 a1).f2).length c160_2] 46 (0, 0)) (by (with_reducible repeat (first | refine blk_drewN ?_ _ | refine blk_drew ?_ | refine blk_alloc ?_ _)); exact BK161.out)) : gb176 ≠ gb161)); clear BK161; clear HB; have BK161 := n0_; have HB := n1_; have BK176 := n2_; have GW176 := n3_; have GE176 := n4_; have NB161_176 := n5_; have NB176_161 := n6_; clear n0_ n1_ n2_ n3_ n4_ n5_ n6_; clear hb hbox hg; have hnb72 := NB176_161.out; have hnc72 := NB161_176.out; have hcz73_0 : w71.cell? ⟨gb176, 0, none⟩ = some (.int .u64 0) := (blk_cell BK176.out 0).trans rfl; have hcz73_1 : w71.cell? ⟨gb176, 1, none⟩ = some (.int .i64 0) := (blk_cell BK176.out 1).trans rfl; have hfz73_0 := blk_frozen BK176.out 0; have hfz73_1 := blk_frozen BK176.out 1))
                      have n0_ : Aside0 (((w71.setCell ⟨gb176, 0, none⟩ (.int .u64 ((rd_T60 ((rd_T46 l0 a1).f2) x140_5).f0))).setCell ⟨gb176, 1, none⟩ (.int .i64 ((rd_T60 ((rd_T46 l0 a1).f2) x140_5).f1))).heap[gb161]? = some (.cells #[.int .u64 ((rd_T46 l0 a1).f0), .int .u64 ((rd_T46 l0 a1).f1), .slice (some ad175) ((rd_T46 l0 a1).f2).length c160_2] 46 (0, 0))) := ⟨by (with_reducible repeat (first | refine blk_drewN ?_ _ | refine blk_drew ?_ | refine blk_alloc ?_ _)); refine blk_far ?_ NB161_176.out _; (with_reducible repeat (first | refine blk_drewN ?_ _ | refine blk_drew ?_ | refine blk_alloc ?_ _)); refine blk_far ?_ NB161_176.out _; (with_reducible repeat (first | refine blk_drewN ?_ _ | refine blk_drew ?_ | refine blk_alloc ?_ _)); exact BK161.out⟩
                      have n1_ : Aside0 (((w71.setCell ⟨gb176, 0, none⟩ (.int .u64 ((rd_T60 ((rd_T46 l0 a1).f2) x140_5).f0))).setCell ⟨gb176, 1, none⟩ (.int .i64 ((rd_T60 ((rd_T46 l0 a1).f2) x140_5).f1))).heap[gb176]? = some (.cells #[.int .u64 ((rd_T60 ((rd_T46 l0 a1).f2) x140_5).f0), .int .i64 ((rd_T60 ((rd_T46 l0 a1).f2) x140_5).f1)] 60 (0, 0))) := ⟨by (with_reducible repeat (first | refine blk_drewN ?_ _ | refine blk_drew ?_ | refine blk_alloc ?_ _)); refine blk_put (cs := #[.int .u64 ((rd_T60 ((rd_T46 l0 a1).f2) x140_5).f0), .int .i64 0]) ?_ 1 _ rfl; (with_reducible repeat (first | refine blk_drewN ?_ _ | refine blk_drew ?_ | refine blk_alloc ?_ _)); refine blk_put (cs := #[.int .u64 0, .int .i64 0]) ?_ 0 _ rfl; (with_reducible repeat (first | refine blk_drewN ?_ _ | refine blk_drew ?_ | refine blk_alloc ?_ _)); exact BK176.out⟩
                      have n2_ : Aside0 (Below w.heap.size w ((w71.setCell ⟨gb176, 0, none⟩ (.int .u64 ((rd_T60 ((rd_T46 l0 a1).f2) x140_5).f0))).setCell ⟨gb176, 1, none⟩ (.int .i64 ((rd_T60 ((rd_T46 l0 a1).f2) x140_5).f1)))) := ⟨by repeat (first | (with_reducible first | exact HB.out | apply below_alloc | apply pw_below_drewN | apply below_drew1 | refine below_set ?_ GE161.out | refine below_set ?_ GE176.out) | exact HB.out)⟩
                      (try clear BK161)
                      (try clear BK176)
                      (try clear HB)
                      generalize ((w71.setCell ⟨gb176, 0, none⟩ (.int .u64 ((rd_T60 ((rd_T46 l0 a1).f2) x140_5).f0))).setCell ⟨gb176, 1, none⟩ (.int .i64 ((rd_T60 ((rd_T46 l0 a1).f2) x140_5).f1))) = w74 at n0_ n1_ n2_ ⊢
                      have BK161 := n0_
                      have BK176 := n1_
                      have HB := n2_
                      clear n0_ n1_ n2_
                      have n0_ := Aside0.mk (blk_drew BK161.out)
                      have n1_ := Aside0.mk (blk_drew BK176.out)
                      have n2_ := Aside0.mk (below_drew1 HB.out)
                      clear BK161
                      clear BK176
                      clear HB
                      have BK161 := n0_
                      have BK176 := n1_
                      have HB := n2_
                      clear n0_ n1_ n2_
                      refine start_ (n := 12) (S := fun w' => w'.cell? ⟨gb161, 0, none⟩ = some (.int .u64 ((rd_T46 l0 a1).f0)) ∧ w'.cell? ⟨gb161, 1, none⟩ = some (.int .u64 ((rd_T46 l0 a1).f1)) ∧ w'.cell? ⟨gb161, 2, none⟩ = some (.slice (some ad175) ((rd_T46 l0 a1).f2).length c160_2) ∧ w'.cell? ⟨gb176, 0, none⟩ = some (.int .u64 ((rd_T60 ((rd_T46 l0 a1).f2) x140_5).f0)) ∧ w'.cell? ⟨gb176, 1, none⟩ = some (.int .i64 ((rd_T60 ((rd_T46 l0 a1).f2) x140_5).f1))) (ds := []) #[false, false, false, false, false, false, false, false, false, false, false, false] (by kernel_rfl) rfl rfl ⟨(blk_cell BK161.out 0).trans rfl, (blk_cell BK161.out 1).trans rfl, (blk_cell BK161.out 2).trans rfl, (blk_cell BK176.out 0).trans rfl, (blk_cell BK176.out 1).trans rfl⟩ (fun hHeld => ?_); refine with_tabW epicycleref04_Right.tab17 epicycleref04_Right.bits17 (fun HT_ HW_ => ?_)
                      generalize w74.drew = w75 at BK161 BK176 HB hHeld ⊢
                      refine pure_ (i := 0) (N := some 144) (v := ?_) (a' := ?_) #[true, false, false, false, false, false, false, false, false, false, false, false] rfl rfl (any_of HT_.out (by kernel_rfl)) (fun _ _ _ h => h) (Or.inl ⟨by rfl, ?_⟩) ?_ ?_
                      rotate_left
                      ·intro w'
                       go_simp
                       with_reducible rfl
                      rotate_left
                      ·simp only [Act.put, zA, zB, zC, i64_w, i32_w]
                       rfl
                      refine pure_ (i := 2) (N := some 146) (v := ?_) (a' := ?_) #[true, false, true, false, false, false, false, false, false, false, false, false] rfl rfl (any_of HT_.out (by kernel_rfl)) (fun _ _ _ h => h) (Or.inl ⟨by rfl, ?_⟩) ?_ ?_
                      rotate_left
                      ·intro w'
                       go_simp
                       with_reducible rfl
                      rotate_left
                      ·simp only [Act.put, zA, zB, zC, i64_w, i32_w]
                       rfl
                      refine pure_ (i := 5) (N := some 149) (v := ?_) (a' := ?_) #[true, false, true, false, false, true, false, false, false, false, false, false] rfl rfl (any_of HT_.out (by kernel_rfl)) (fun _ _ _ h => h) (Or.inl ⟨by rfl, ?_⟩) ?_ ?_
                      rotate_left
                      ·intro w'
                       go_simp
                       with_reducible rfl
                      rotate_left
                      ·simp only [Act.put, zA, zB, zC, i64_w, i32_w]
                       rfl
                      refine pure_ (i := 8) (N := some 152) (v := ?_) (a' := ?_) #[true, false, true, false, false, true, false, false, true, false, false, false] rfl rfl (any_of HT_.out (by kernel_rfl)) (fun _ _ _ h => h) (Or.inl ⟨by rfl, ?_⟩) ?_ ?_
                      rotate_left
                      ·intro w'
                       go_simp
                       with_reducible rfl
                      rotate_left
                      ·simp only [Act.put, zA, zB, zC, i64_w, i32_w]
                       rfl
                      refine take_ (i := 1) (N := some 145) (v := ?_) (a' := ?_) #[true, true, true, false, false, true, false, false, true, false, false, false] rfl rfl (take_ofW HT_.out HW_.out (by kernel_rfl)) (fun _ _ _ h => h) (Or.inl ⟨by rfl, ?_⟩) hHeld ?_ ?_
                      rotate_left
                      ·rintro w' ⟨s0, s1, s2, s3, s4⟩
                       go_simp
                       with_reducible rfl
                      rotate_left
                      ·simp only [Act.put, zA, zB, zC, i64_w, i32_w]
                       rfl
                      refine take_ (i := 3) (N := some 147) (v := ?_) (a' := ?_) #[true, true, true, true, false, true, false, false, true, false, false, false] rfl rfl (take_ofW HT_.out HW_.out (by kernel_rfl)) (fun _ _ _ h => h) (Or.inl ⟨by rfl, ?_⟩) hHeld ?_ ?_
                      rotate_left
                      ·rintro w' ⟨s0, s1, s2, s3, s4⟩
                       go_simp
                       with_reducible rfl
                      rotate_left
                      ·simp only [Act.put, zA, zB, zC, i64_w, i32_w]
                       rfl
                      refine pure_ (i := 4) (N := some 148) (v := ?_) (a' := ?_) #[true, true, true, true, true, true, false, false, true, false, false, false] rfl rfl (any_of HT_.out (by kernel_rfl)) (fun _ _ _ h => h) (Or.inl ⟨by rfl, ?_⟩) ?_ ?_
                      rotate_left
                      ·intro w'
                       go_simp
                       with_reducible rfl
                      rotate_left
                      ·simp only [Act.put, zA, zB, zC, i64_w, i32_w]
                       rfl
                      refine take_ (i := 6) (N := some 150) (v := ?_) (a' := ?_) #[true, true, true, true, true, true, true, false, true, false, false, false] rfl rfl (take_ofW HT_.out HW_.out (by kernel_rfl)) (fun _ _ _ h => h) (Or.inl ⟨by rfl, ?_⟩) hHeld ?_ ?_
                      rotate_left
                      ·rintro w' ⟨s0, s1, s2, s3, s4⟩
                       go_simp
                       with_reducible rfl
                      rotate_left
                      ·simp only [Act.put, zA, zB, zC, i64_w, i32_w]
                       rfl
                      refine pure_ (i := 7) (N := some 151) (v := ?_) (a' := ?_) #[true, true, true, true, true, true, true, true, true, false, false, false] rfl rfl (any_of HT_.out (by kernel_rfl)) (fun _ _ _ h => h) (Or.inl ⟨by rfl, ?_⟩) ?_ ?_
                      rotate_left
                      ·intro w'
                       go_simp
                       with_reducible rfl
                      rotate_left
                      ·simp only [Act.put, zA, zB, zC, i64_w, i32_w]
                       rfl
                      refine take_ (i := 9) (N := some 153) (v := ?_) (a' := ?_) #[true, true, true, true, true, true, true, true, true, true, false, false] rfl rfl (take_ofW HT_.out HW_.out (by kernel_rfl)) (fun _ _ _ h => h) (Or.inl ⟨by rfl, ?_⟩) hHeld ?_ ?_
                      rotate_left
                      ·rintro w' ⟨s0, s1, s2, s3, s4⟩
                       go_simp
                       with_reducible rfl
                      rotate_left
                      ·simp only [Act.put, zA, zB, zC, i64_w, i32_w]
                       rfl
                      refine one_ (i := 10) (N := some 154) #[true, true, true, true, true, true, true, true, true, true, true, false] rfl rfl (one_of HT_.out (by kernel_rfl)) (by decide) (fun K hK => ?_)
                      refine goes_ Try.func28 (by kernel_rfl) rfl #[.int .u64 ((rd_T46 l0 a1).f1), .int .u64 (IntKind.u64.wrap (Int.tdiv (IntKind.u64.wrap (((rd_T46 l0 a1).f0) - 1)) ((rd_T60 ((rd_T46 l0 a1).f2) x140_5).f0))), .int .u64 ((rd_T46 l0 a1).f0)] (by rfl) rfl rfl (by (try simp only [List.map_toArray, List.map_cons, List.map_nil]); first | done | rfl | (simp only [List.length_drop, List.length_take]; rfl)) ?_
                      with_reducible refine (epicycleref02_Pow.calls k5 ((rd_T46 l0 a1).f1) (IntKind.u64.wrap (Int.tdiv (IntKind.u64.wrap (((rd_T46 l0 a1).f0) - 1)) ((rd_T60 ((rd_T46 l0 a1).f2) x140_5).f0))) ((rd_T46 l0 a1).f0) t177 _ A69.out).mono ?_
                      rintro e w' ⟨rfl, ⟨nd, rfl⟩⟩
                      refine ⟨_, rfl, ?_⟩
                      refine hK.out _ _ ⟨(blk_cell BK161.out 0).trans rfl, (blk_cell BK161.out 1).trans rfl, (blk_cell BK161.out 2).trans rfl, (blk_cell BK176.out 0).trans rfl, (blk_cell BK176.out 1).trans rfl⟩ (fun hHeld => ?_)
                      clear hK K
                      refine norm_ (a' := ?_) ?_ ?_
                      rotate_left
                      ·show Act.put _ (some 154) _ = _
                       simp only [Act.put, zA, zB, zC, i64_w, i32_w]
                       rfl
                      refine pure_ (i := 11) (N := some 155) (v := ?_) (a' := ?_) #[true, true, true, true, true, true, true, true, true, true, true, true] rfl rfl (any_of HT_.out (by kernel_rfl)) (fun _ _ _ h => h) (Or.inl ⟨by rfl, ?_⟩) ?_ ?_
                      rotate_left
                      ·intro w'
                       go_simp
                       with_reducible rfl
                      rotate_left
                      ·simp only [Act.put, zA, zB, zC, i64_w, i32_w]
                       rfl
                      refine done_ (done_of HT_.out (by kernel_rfl)) ?_
                      try go_wp2
                      go_ret
                      exact ⟨by first | rfl | (simp [errW_none, errW_some] <;> rfl) | (simp [*, errW_none, errW_some] <;> rfl), by repeat (first | (with_reducible first | exact HB.out | apply below_alloc | apply pw_below_drewN | apply below_drew1 | refine below_set ?_ GE161.out | refine below_set ?_ GE176.out) | exact HB.out)⟩
                     ·rw [if_neg c70] at H
                      have c70b0 : (t177 == 1) = false := beq_eq_false_iff_ne.mpr c70
                      have c70b1 : (t177 != 1) = true := bne_iff_ne.mpr c70
                      have H' := Aside0.mk H
                      clear H
                      have p175 : 0 ≤ (x140_5 : Int) := of_decide_eq_true (by first | (with_reducible assumption) | assumption)
                      have q175 : x140_5 < (((rd_T46 l0 a1).f2).length : Int) := of_decide_eq_true (by first | (with_reducible assumption) | assumption)
                      obtain ⟨ad175, e175, hx175_0, hx175_1⟩ := at_T60 HR160_2.out x140_5 p175 q175
                      cases e175
                      replace hx175_0 := (HB.out.cell (World.block_lt_of_cell? w _ hx175_0)).trans hx175_0
                      replace hx175_1 := (HB.out.cell (World.block_lt_of_cell? w _ hx175_1)).trans hx175_1
                      replace p175 := eq_true p175
                      replace q175 := eq_true q175
                      try go_wp2_with (first | ((with_reducible refine gate_dst (N := 10) rfl ?_); (try (refine gate_guard (by rfl) ?_; dsimp only)); refine box_event ?hg (N := 10) ?hd (cs := #[.int .u64 0, .int .i64 0]) (t := 60) ?hr ?_; (case hd => rfl); (case hg => rfl); (case hr => first | (go_simp; done) | (go_simp; rfl)); intro gb176 hg w76 hbox hb; have n0_ := Aside0.mk (blk_below (g := gb161) (o := .cells #[.int .u64 ((rd_T46 l0 a1).f0), .int .u64 ((rd_T46 l0 a1).f1), .slice (some ad175) ((rd_T46 l0 a1).f2).length c160_2] 46 (0, 0)) (by (with_reducible repeat (first | refine blk_drewN ?_ _ | refine blk_drew ?_ | refine blk_alloc ?_ _)); exact BK161.out) hb); have n1_ := Aside0.mk (below_step (by repeat (first | (with_reducible first | exact HB.out | apply below_alloc | apply pw_below_drewN | apply below_drew1 | refine below_set ?_ GE161.out) | exact HB.out)) hb); have n2_ := Aside0.mk (hbox); have n3_ := Aside0.mk ((by rw [hg]; exact (below_size (by repeat (first | (with_reducible first | exact HB.out | apply below_alloc | apply pw_below_drewN | apply below_drew1 | refine below_set ?_ GE161.out) | exact HB.out))) : w.heap.size ≤ gb176)); have n4_ := Aside0.mk ((by rw [hg]; exact (below_size (by repeat (first | (with_reducible first | exact HB.out | apply below_alloc | apply pw_below_drewN | apply below_drew1 | refine below_set ?_ GE161.out) | exact HB.out))) : w.heap.size ≤ gb176)); have n5_ := Aside0.mk ((by rw [hg]; exact Nat.ne_of_lt (blk_lt (g := gb161) (o := .cells #[.int .u64 ((rd_T46 l0 a1).f0), .int .u64 ((rd_T46 l0 a1).f1), .slice (some ad175) ((rd_T46 l0 a1).f2).length c160_2] 46 (0, 0)) (by (with_reducible repeat (first | refine blk_drewN ?_ _ | refine blk_drew ?_ | refine blk_alloc ?_ _)); exact BK161.out)) : gb161 ≠ gb176)); have n6_ := Aside0.mk ((by rw [hg]; exact Nat.ne_of_gt (blk_lt (g := gb161) (o := .cells #[.int .u64 ((rd_T46 l0 a1).f0), .int .u64 ((rd_T46 l0 a1).f1), .slice (some ad175) ((rd_T46 l0 a1).f2).length c160_2] 46 (0, 0)) (by (with_reducible repeat (first | refine blk_drewN ?_ _ | refine blk_drew ?_ | refine blk_alloc ?_ _)); exact BK161.out)) : gb176 ≠ gb161)); clear BK161; clear HB; have BK161 := n0_; have HB := n1_; have BK176 := n2_; have GW176 := n3_; have GE176 := n4_; have NB161_176 := n5_; have NB176_161 := n6_; clear n0_ n1_ n2_ n3_ n4_ n5_ n6_; clear hb hbox hg; have hnb77 := NB176_161.out; have hnc77 := NB161_176.out; have hcz78_0 : w76.cell? ⟨gb176, 0, none⟩ = some (.int .u64 0) := (blk_cell BK176.out 0).trans rfl; have hcz78_1 : w76.cell? ⟨gb176, 1, none⟩ = some (.int .i64 0) := (blk_cell BK176.out 1).trans rfl; have hfz78_0 := blk_frozen BK176.out 0; have hfz78_1 := blk_frozen BK176.out 1))
                      have n0_ : Aside0 (((w76.setCell ⟨gb176, 0, none⟩ (.int .u64 ((rd_T60 ((rd_T46 l0 a1).f2) x140_5).f0))).setCell ⟨gb176, 1, none⟩ (.int .i64 ((rd_T60 ((rd_T46 l0 a1).f2) x140_5).f1))).heap[gb161]? = some (.cells #[.int .u64 ((rd_T46 l0 a1).f0), .int .u64 ((rd_T46 l0 a1).f1), .slice (some ad175) ((rd_T46 l0 a1).f2).length c160_2] 46 (0, 0))) := ⟨by (with_reducible repeat (first | refine blk_drewN ?_ _ | refine blk_drew ?_ | refine blk_alloc ?_ _)); refine blk_far ?_ NB161_176.out _; (with_reducible repeat (first | refine blk_drewN ?_ _ | refine blk_drew ?_ | refine blk_alloc ?_ _)); refine blk_far ?_ NB161_176.out _; (with_reducible repeat (first | refine blk_drewN ?_ _ | refine blk_drew ?_ | refine blk_alloc ?_ _)); exact BK161.out⟩
                      have n1_ : Aside0 (((w76.setCell ⟨gb176, 0, none⟩ (.int .u64 ((rd_T60 ((rd_T46 l0 a1).f2) x140_5).f0))).setCell ⟨gb176, 1, none⟩ (.int .i64 ((rd_T60 ((rd_T46 l0 a1).f2) x140_5).f1))).heap[gb176]? = some (.cells #[.int .u64 ((rd_T60 ((rd_T46 l0 a1).f2) x140_5).f0), .int .i64 ((rd_T60 ((rd_T46 l0 a1).f2) x140_5).f1)] 60 (0, 0))) := ⟨by (with_reducible repeat (first | refine blk_drewN ?_ _ | refine blk_drew ?_ | refine blk_alloc ?_ _)); refine blk_put (cs := #[.int .u64 ((rd_T60 ((rd_T46 l0 a1).f2) x140_5).f0), .int .i64 0]) ?_ 1 _ rfl; (with_reducible repeat (first | refine blk_drewN ?_ _ | refine blk_drew ?_ | refine blk_alloc ?_ _)); refine blk_put (cs := #[.int .u64 0, .int .i64 0]) ?_ 0 _ rfl; (with_reducible repeat (first | refine blk_drewN ?_ _ | refine blk_drew ?_ | refine blk_alloc ?_ _)); exact BK176.out⟩
                      have n2_ : Aside0 (Below w.heap.size w ((w76.setCell ⟨gb176, 0, none⟩ (.int .u64 ((rd_T60 ((rd_T46 l0 a1).f2) x140_5).f0))).setCell ⟨gb176, 1, none⟩ (.int .i64 ((rd_T60 ((rd_T46 l0 a1).f2) x140_5).f1)))) := ⟨by repeat (first | (with_reducible first | exact HB.out | apply below_alloc | apply pw_below_drewN | apply below_drew1 | refine below_set ?_ GE161.out | refine below_set ?_ GE176.out) | exact HB.out)⟩
                      (try clear BK161)
                      (try clear BK176)
                      (try clear HB)
                      generalize ((w76.setCell ⟨gb176, 0, none⟩ (.int .u64 ((rd_T60 ((rd_T46 l0 a1).f2) x140_5).f0))).setCell ⟨gb176, 1, none⟩ (.int .i64 ((rd_T60 ((rd_T46 l0 a1).f2) x140_5).f1))) = w79 at n0_ n1_ n2_ ⊢
                      have BK161 := n0_
                      have BK176 := n1_
                      have HB := n2_
                      clear n0_ n1_ n2_
                      have n0_ := Aside0.mk (blk_drew BK161.out)
                      have n1_ := Aside0.mk (blk_drew BK176.out)
                      have n2_ := Aside0.mk (below_drew1 HB.out)
                      clear BK161
                      clear BK176
                      clear HB
                      have BK161 := n0_
                      have BK176 := n1_
                      have HB := n2_
                      clear n0_ n1_ n2_
                      refine start_ (n := 12) (S := fun w' => w'.cell? ⟨gb161, 0, none⟩ = some (.int .u64 ((rd_T46 l0 a1).f0)) ∧ w'.cell? ⟨gb161, 1, none⟩ = some (.int .u64 ((rd_T46 l0 a1).f1)) ∧ w'.cell? ⟨gb161, 2, none⟩ = some (.slice (some ad175) ((rd_T46 l0 a1).f2).length c160_2) ∧ w'.cell? ⟨gb176, 0, none⟩ = some (.int .u64 ((rd_T60 ((rd_T46 l0 a1).f2) x140_5).f0)) ∧ w'.cell? ⟨gb176, 1, none⟩ = some (.int .i64 ((rd_T60 ((rd_T46 l0 a1).f2) x140_5).f1))) (ds := []) #[false, false, false, false, false, false, false, false, false, false, false, false] (by kernel_rfl) rfl rfl ⟨(blk_cell BK161.out 0).trans rfl, (blk_cell BK161.out 1).trans rfl, (blk_cell BK161.out 2).trans rfl, (blk_cell BK176.out 0).trans rfl, (blk_cell BK176.out 1).trans rfl⟩ (fun hHeld => ?_); refine with_tabW epicycleref04_Right.tab17 epicycleref04_Right.bits17 (fun HT_ HW_ => ?_)
                      generalize w79.drew = w80 at BK161 BK176 HB hHeld ⊢
                      refine pure_ (i := 0) (N := some 144) (v := ?_) (a' := ?_) #[true, false, false, false, false, false, false, false, false, false, false, false] rfl rfl (any_of HT_.out (by kernel_rfl)) (fun _ _ _ h => h) (Or.inl ⟨by rfl, ?_⟩) ?_ ?_
                      rotate_left
                      ·intro w'
                       go_simp
                       with_reducible rfl
                      rotate_left
                      ·simp only [Act.put, zA, zB, zC, i64_w, i32_w]
                       rfl
                      refine pure_ (i := 2) (N := some 146) (v := ?_) (a' := ?_) #[true, false, true, false, false, false, false, false, false, false, false, false] rfl rfl (any_of HT_.out (by kernel_rfl)) (fun _ _ _ h => h) (Or.inl ⟨by rfl, ?_⟩) ?_ ?_
                      rotate_left
                      ·intro w'
                       go_simp
                       with_reducible rfl
                      rotate_left
                      ·simp only [Act.put, zA, zB, zC, i64_w, i32_w]
                       rfl
                      refine pure_ (i := 5) (N := some 149) (v := ?_) (a' := ?_) #[true, false, true, false, false, true, false, false, false, false, false, false] rfl rfl (any_of HT_.out (by kernel_rfl)) (fun _ _ _ h => h) (Or.inl ⟨by rfl, ?_⟩) ?_ ?_
                      rotate_left
                      ·intro w'
                       go_simp
                       with_reducible rfl
                      rotate_left
                      ·simp only [Act.put, zA, zB, zC, i64_w, i32_w]
                       rfl
                      refine pure_ (i := 8) (N := some 152) (v := ?_) (a' := ?_) #[true, false, true, false, false, true, false, false, true, false, false, false] rfl rfl (any_of HT_.out (by kernel_rfl)) (fun _ _ _ h => h) (Or.inl ⟨by rfl, ?_⟩) ?_ ?_
                      rotate_left
                      ·intro w'
                       go_simp
                       with_reducible rfl
                      rotate_left
                      ·simp only [Act.put, zA, zB, zC, i64_w, i32_w]
                       rfl
                      refine take_ (i := 1) (N := some 145) (v := ?_) (a' := ?_) #[true, true, true, false, false, true, false, false, true, false, false, false] rfl rfl (take_ofW HT_.out HW_.out (by kernel_rfl)) (fun _ _ _ h => h) (Or.inl ⟨by rfl, ?_⟩) hHeld ?_ ?_
                      rotate_left
                      ·rintro w' ⟨s0, s1, s2, s3, s4⟩
                       go_simp
                       with_reducible rfl
                      rotate_left
                      ·simp only [Act.put, zA, zB, zC, i64_w, i32_w]
                       rfl
                      refine take_ (i := 3) (N := some 147) (v := ?_) (a' := ?_) #[true, true, true, true, false, true, false, false, true, false, false, false] rfl rfl (take_ofW HT_.out HW_.out (by kernel_rfl)) (fun _ _ _ h => h) (Or.inl ⟨by rfl, ?_⟩) hHeld ?_ ?_
                      rotate_left
                      ·rintro w' ⟨s0, s1, s2, s3, s4⟩
                       go_simp
                       with_reducible rfl
                      rotate_left
                      ·simp only [Act.put, zA, zB, zC, i64_w, i32_w]
                       rfl
                      refine pure_ (i := 4) (N := some 148) (v := ?_) (a' := ?_) #[true, true, true, true, true, true, false, false, true, false, false, false] rfl rfl (any_of HT_.out (by kernel_rfl)) (fun _ _ _ h => h) (Or.inl ⟨by rfl, ?_⟩) ?_ ?_
                      rotate_left
                      ·intro w'
                       go_simp
                       with_reducible rfl
                      rotate_left
                      ·simp only [Act.put, zA, zB, zC, i64_w, i32_w]
                       rfl
                      refine take_ (i := 6) (N := some 150) (v := ?_) (a' := ?_) #[true, true, true, true, true, true, true, false, true, false, false, false] rfl rfl (take_ofW HT_.out HW_.out (by kernel_rfl)) (fun _ _ _ h => h) (Or.inl ⟨by rfl, ?_⟩) hHeld ?_ ?_
                      rotate_left
                      ·rintro w' ⟨s0, s1, s2, s3, s4⟩
                       go_simp
                       with_reducible rfl
                      rotate_left
                      ·simp only [Act.put, zA, zB, zC, i64_w, i32_w]
                       rfl
                      refine pure_ (i := 7) (N := some 151) (v := ?_) (a' := ?_) #[true, true, true, true, true, true, true, true, true, false, false, false] rfl rfl (any_of HT_.out (by kernel_rfl)) (fun _ _ _ h => h) (Or.inl ⟨by rfl, ?_⟩) ?_ ?_
                      rotate_left
                      ·intro w'
                       go_simp
                       with_reducible rfl
                      rotate_left
                      ·simp only [Act.put, zA, zB, zC, i64_w, i32_w]
                       rfl
                      refine take_ (i := 9) (N := some 153) (v := ?_) (a' := ?_) #[true, true, true, true, true, true, true, true, true, true, false, false] rfl rfl (take_ofW HT_.out HW_.out (by kernel_rfl)) (fun _ _ _ h => h) (Or.inl ⟨by rfl, ?_⟩) hHeld ?_ ?_
                      rotate_left
                      ·rintro w' ⟨s0, s1, s2, s3, s4⟩
                       go_simp
                       with_reducible rfl
                      rotate_left
                      ·simp only [Act.put, zA, zB, zC, i64_w, i32_w]
                       rfl
                      refine one_ (i := 10) (N := some 154) #[true, true, true, true, true, true, true, true, true, true, true, false] rfl rfl (one_of HT_.out (by kernel_rfl)) (by decide) (fun K hK => ?_)
                      refine goes_ Try.func28 (by kernel_rfl) rfl #[.int .u64 ((rd_T46 l0 a1).f1), .int .u64 (IntKind.u64.wrap (Int.tdiv (IntKind.u64.wrap (((rd_T46 l0 a1).f0) - 1)) ((rd_T60 ((rd_T46 l0 a1).f2) x140_5).f0))), .int .u64 ((rd_T46 l0 a1).f0)] (by rfl) rfl rfl (by (try simp only [List.map_toArray, List.map_cons, List.map_nil]); first | done | rfl | (simp only [List.length_drop, List.length_take]; rfl)) ?_
                      with_reducible refine (epicycleref02_Pow.calls k5 ((rd_T46 l0 a1).f1) (IntKind.u64.wrap (Int.tdiv (IntKind.u64.wrap (((rd_T46 l0 a1).f0) - 1)) ((rd_T60 ((rd_T46 l0 a1).f2) x140_5).f0))) ((rd_T46 l0 a1).f0) t177 _ A69.out).mono ?_
                      rintro e w' ⟨rfl, ⟨nd, rfl⟩⟩
                      refine ⟨_, rfl, ?_⟩
                      refine hK.out _ _ ⟨(blk_cell BK161.out 0).trans rfl, (blk_cell BK161.out 1).trans rfl, (blk_cell BK161.out 2).trans rfl, (blk_cell BK176.out 0).trans rfl, (blk_cell BK176.out 1).trans rfl⟩ (fun hHeld => ?_)
                      clear hK K
                      refine norm_ (a' := ?_) ?_ ?_
                      rotate_left
                      ·show Act.put _ (some 154) _ = _
                       simp only [Act.put, zA, zB, zC, i64_w, i32_w]
                       rfl
                      refine pure_ (i := 11) (N := some 155) (v := ?_) (a' := ?_) #[true, true, true, true, true, true, true, true, true, true, true, true] rfl rfl (any_of HT_.out (by kernel_rfl)) (fun _ _ _ h => h) (Or.inl ⟨by rfl, ?_⟩) ?_ ?_
                      rotate_left
                      ·intro w'
                       go_simp
                       with_reducible rfl
                      rotate_left
                      ·simp only [Act.put, zA, zB, zC, i64_w, i32_w]
                       rfl
                      refine done_ (done_of HT_.out (by kernel_rfl)) ?_
                      try go_wp2
                      go_roundg k5
                      case measure => have := HJ4.out; have := HJ25.out; have := HK3.out; have := HJ50.out; have := HK5.out; omega
                      case rel => exact ⟨(wrap64 (x140_5 + 1)), (by first | rfl | (simp; done) | (simp [*]; done)), H', ⟨by have := HJ4.out; have := HJ25.out; have := HK3.out; have := HJ50.out; have := HK5.out; omega⟩, ⟨by (with_reducible repeat (first | refine blk_drewN ?_ _ | refine blk_drew ?_ | refine blk_alloc ?_ _)); exact BK161.out⟩, ⟨by repeat (first | (with_reducible first | exact HB.out | apply below_alloc | apply pw_below_drewN | apply below_drew1 | refine below_set ?_ GE161.out | refine below_set ?_ GE176.out) | exact HB.out)⟩⟩
                   ·rw [if_neg c67] at H
                    exact absurd H (by simp)
                  ·rw [if_neg c66] at H
                   exact absurd H (by simp)
                 ·rw [if_neg c65] at H
                  have c65b0 : decide (x140_5 < (((rd_T46 l0 a1).f2).length : Int)) = false := decide_eq_false c65
                  clear c65
                  obtain rfl := Option.some.inj H
                  go_wp2
                  go_ret
                  exact ⟨by first | rfl | (simp [errW_none, errW_some] <;> rfl) | (simp [*, errW_none, errW_some] <;> rfl), by repeat (first | (with_reducible first | exact HB.out | apply below_alloc | apply pw_below_drewN | apply below_drew1 | refine below_set ?_ GE161.out) | exact HB.out)⟩
  ·rw [if_neg c4] at H
   exact absurd H (by simp)
 ·rw [if_neg c3] at H
  exact absurd H (by simp)

end Go.Proofs.Ytcnnaciilphadaa.XP
