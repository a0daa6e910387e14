/- Layer 3 (mont): a context in memory, and what its calls do. -/
import Derived.Test.YtcnnaciilphadaaDiv
import Derived.Test.YtcnnaciilphadaaMontM
namespace Go.Proofs.Ytcnnaciilphadaa.Mont
open Go Go.RowKit Go.Proofs.YtcnnaciilphadaaW.PrintWords Go.Proofs.YtcnnaciilphadaaW.PrintLast Go.Proofs.YtcnnaciilphadaaW.PrintMore Go.Proofs.Ytcnnaciilphadaa.Given Go.Proofs.Ytcnnaciilphadaa.M Go.Proofs.Ytcnnaciilphadaa.XR

/-- Block g holds a context of m. -/
def CtxBlk (W : World) (g : Nat) (m t : Int) : Prop := W.heap[g]? = some (.cells #[.int .u64 m, .int .u64 t, .int .u64 (mOne m), .int .u64 (mSq m)] 64 (0, 0))
/-- The pointer leads to a context of m. -/
def IsCtx (W : World) (v : Value) (m : Int) : Prop := ∃ (g : Nat) (t : Int), v = .pointer (some ⟨g, 0, none⟩) ∧ CtxBlk W g m t ∧ GoodM m ∧ U t ∧ (18446744073709551616 : Int) ∣ m * t + 1
/-- A pointer that is nil, or leads to a context. -/
def CtxP (W : World) (v : Value) : Option Int → Prop
  | none => v = .pointer none
  | some m => IsCtx W v m
theorem IsCtx.below {W W1 : World} {v : Value} {m : Int} (h : IsCtx W v m) (hb : Below W.heap.size W W1) : IsCtx W1 v m := by
  obtain ⟨g, t, e, hc, r⟩ := h
  exact ⟨g, t, e, blk_below hc hb, r⟩
theorem CtxP.below {W W1 : World} {v : Value} {o : Option Int} (h : CtxP W v o) (hb : Below W.heap.size W W1) : CtxP W1 v o := by
  cases o with
  | none => exact h
  | some m => exact IsCtx.below h hb
theorem IsCtx.drewN {W : World} {v : Value} {m : Int} (h : IsCtx W v m) (n : Nat) : IsCtx (W.drewN n) v m := h
section
variable {W : World} {g : Nat} {m t : Int} (h : CtxBlk W g m t)
include h
theorem CtxBlk.c0 : W.cell? ⟨g, 0, none⟩ = some (.int .u64 m) := (blk_cell h 0).trans rfl
theorem CtxBlk.c1 : W.cell? ⟨g, 1, none⟩ = some (.int .u64 t) := (blk_cell h 1).trans rfl
theorem CtxBlk.c2 : W.cell? ⟨g, 2, none⟩ = some (.int .u64 (mOne m)) := (blk_cell h 2).trans rfl
theorem CtxBlk.c3 : W.cell? ⟨g, 3, none⟩ = some (.int .u64 (mSq m)) := (blk_cell h 3).trans rfl
end

/-- What cut answers. -/
def cutF (m x r : Int) : Prop := r = x % m
set_option maxHeartbeats 1000000 in
theorem cut_calls {g : Nat} {m t x r : Int} {w : World} (hc : CtxBlk w g m t) (hm : GoodM m) (hx : U x) (hr : Aside0 (r = x % m)) :
    Calls Try.prog 43 #[.pointer (some ⟨g, 0, none⟩), .int .u64 x] w fun e w' => e = .returned (.int .u64 r) ∧ Drawn0 w w' := by
  have h0 := hc.c0
  have f0 := blk_frozen hc 0
  clear hc
  by_cases h1 : m ≤ x
  · have hb : decide (m ≤ x) = true := decide_eq_true h1
    have hz : (m == 0) = false := beq_eq_false_iff_ne.mpr (good_ne hm)
    have hz1 : ¬ m = 0 := good_ne hm
    have hx0 : 0 ≤ x := hx.1
    clear hm hx h1
    go_enter Try.func43, Try.ntmps43
    go_wp2
    go_ret
    exact ⟨by rw [hr.out] <;> first | rfl | (simp; done), Drawn0.refl _⟩
  · have hb : decide (m ≤ x) = false := decide_eq_false h1
    have he : x % m = x := Int.emod_eq_of_lt hx.1 (by omega)
    have hr' := Aside0.mk (hr.out.trans he)
    clear hm hx h1 he
    go_enter Try.func43, Try.ntmps43
    go_wp2
    go_ret
    exact ⟨by rw [hr'.out] <;> first | rfl | (simp; done), Drawn0.refl _⟩

set_option maxHeartbeats 2000000 in
theorem reduce_calls {g : Nat} {m t hi lo r : Int} {w : World} (hc : CtxBlk w g m t) (hm : GoodM m) (hd : (18446744073709551616 : Int) ∣ m * t + 1) (h0 : 0 ≤ hi) (h1 : hi < m) (hl : U lo) (hr : Aside0 (r = mOut m (hi * 18446744073709551616 + lo))) :
    Calls Try.prog 42 #[.pointer (some ⟨g, 0, none⟩), .int .u64 hi, .int .u64 lo] w fun e w' => e = .returned (.int .u64 r) ∧ Drawn0 w w' := by
  obtain ⟨q, hq⟩ : ∃ q, q = lo * t % 18446744073709551616 := ⟨_, rfl⟩
  obtain ⟨P, hP⟩ : ∃ P, P = q * m := ⟨_, rfl⟩
  obtain ⟨h, hh⟩ : ∃ h, h = P / 18446744073709551616 := ⟨_, rfl⟩
  obtain ⟨l, hll⟩ : ∃ l, l = P % 18446744073709551616 := ⟨_, rfl⟩
  obtain ⟨c, hcc⟩ : ∃ c, c = (lo + l) / 18446744073709551616 := ⟨_, rfl⟩
  obtain ⟨T, hT⟩ : ∃ T, T = hi + h + c := ⟨_, rfl⟩
  obtain ⟨r0, r1, r2, r3, r4, r5, r6, r7⟩ := redc hm hd h0 h1 hl.1 hl.2 hq hP hh hll hcc hT
  have hend := redc_end r5 r6 r7
  have hmU := good_U hm
  have hq0 : U q := by rw [hq]; unfold U; omega
  have hw : IntKind.u64.wrap (lo * t) = q := by rw [wu64, hq]
  have m1 : bits_Mul64.f (IntKind.u64.wrap (lo * t)) m = some (h, l) := by
    unfold bits_Mul64.f
    rw [hw, if_pos ⟨hq0.1, hq0.2, hmU.1, hmU.2⟩, hh, hll, hP]
  obtain ⟨s1, a1⟩ : ∃ s1, bits_Add64.f lo l 0 = some (s1, c) := by
    refine ⟨(lo + l + 0) % 18446744073709551616, ?_⟩
    unfold bits_Add64.f
    rw [if_pos ⟨hl.1, r1, by omega, by omega⟩, hcc, Int.add_zero]
  obtain ⟨c2, a2⟩ : ∃ c2, bits_Add64.f hi h c = some (T, c2) := by
    refine ⟨(hi + h + c) / 18446744073709551616, ?_⟩
    unfold bits_Add64.f
    rw [if_pos ⟨h0, r0, r3, r4⟩, ← hT, Int.emod_eq_of_lt r5 (by unfold GoodM at hm; omega)]
  have x1 := fun W => bits_Add64.run lo l 0 s1 c W a1
  have x2 := fun W => bits_Add64.run hi h c T c2 W a2
  have M1 := Aside0.mk m1
  have k0 := hc.c0
  have k1 := hc.c1
  have f0 := blk_frozen hc 0
  have f1 := blk_frozen hc 1
  by_cases hTm : m ≤ T
  · have hb : decide (m ≤ T) = true := decide_eq_true hTm
    have e1 : r = IntKind.u64.wrap (T - m) := by rw [hr.out, ← hend, if_pos hTm, wu64_id _ (by omega) (by unfold GoodM at hm; omega)]
    have E1 := Aside0.mk e1
    clear e1 hc hm hd h0 h1 hl hr hq hP hh hll hcc hT r0 r1 r2 r3 r4 r5 r6 r7 hend hmU hq0 hw m1 a1 a2 hTm
    go_enter Try.func42, Try.ntmps42
    go_wp2
    repeat (go_quiet (first | (go_at_call 40; (with_reducible refine (bits_Mul64.calls _ _ h l _ M1.out).mono ?_); rintro e w' ⟨rfl, ⟨nd, rfl⟩⟩; (try first | exact qA | exact qB))); try go_wp2)
    go_ret
    exact ⟨by rw [E1.out] <;> first | rfl | (simp; done), by repeat (first | exact Drawn0.refl _ | apply Drawn0.step)⟩
  · have hb : decide (m ≤ T) = false := decide_eq_false hTm
    have e1 : r = T := by rw [hr.out, ← hend, if_neg hTm]
    have E1 := Aside0.mk e1
    clear e1 hc hm hd h0 h1 hl hr hq hP hh hll hcc hT r0 r1 r2 r3 r4 r5 r6 r7 hend hmU hq0 hw m1 a1 a2 hTm
    go_enter Try.func42, Try.ntmps42
    go_wp2
    repeat (go_quiet (first | (go_at_call 40; (with_reducible refine (bits_Mul64.calls _ _ h l _ M1.out).mono ?_); rintro e w' ⟨rfl, ⟨nd, rfl⟩⟩; (try first | exact qA | exact qB))); try go_wp2)
    go_ret
    exact ⟨by rw [E1.out] <;> first | rfl | (simp; done), by repeat (first | exact Drawn0.refl _ | apply Drawn0.step)⟩

/-- The three calls that products lean on, as arms. -/
theorem mul64_calls {x y h l : Int} {w : World} (hr : Aside0 (bits_Mul64.f x y = some (h, l))) :
    Calls Try.prog 40 #[.int .u64 x, .int .u64 y] w fun e w' => e = .returned (.tuple #[.int .u64 h, .int .u64 l]) ∧ Drawn0 w w' :=
  bits_Mul64.calls x y h l w hr.out

set_option maxHeartbeats 2000000 in
theorem Mul_some {v : Value} {m x y r : Int} {w : World} (hc : IsCtx w v m) (hx : U x) (hy : U y) (hr : Aside0 (r = mMul m x y)) :
    Calls Try.prog 20 #[v, .int .u64 x, .int .u64 y] w fun e w' => e = .returned (.int .u64 r) ∧ Drawn0 w w' := by
  obtain ⟨g, t, rfl, hb, hm, ht, hd⟩ := hc
  obtain ⟨x', hx'⟩ : ∃ x', x' = x % m := ⟨_, rfl⟩
  obtain ⟨y', hy'⟩ : ∃ y', y' = y % m := ⟨_, rfl⟩
  have ux := U_mod hm x
  have uy := U_mod hm y
  have lx := lt_mod hm x
  have ly := lt_mod hm y
  rw [← hx'] at ux lx
  rw [← hy'] at uy ly
  have p0 : 0 ≤ x' * y' := Int.mul_nonneg ux.1 uy.1
  have p1 : x' * y' ≤ (m - 1) * (m - 1) := Int.mul_le_mul (by omega) (by omega) uy.1 (by unfold GoodM at hm; omega)
  have p2 : (m - 1) * (m - 1) < m * 18446744073709551616 := by
    have : (m - 1) * (m - 1) ≤ (m - 1) * 18446744073709551616 := Int.mul_le_mul_of_nonneg_left (by unfold GoodM at hm; omega) (by unfold GoodM at hm; omega)
    unfold GoodM at hm; omega
  obtain ⟨h, hh⟩ : ∃ h, h = x' * y' / 18446744073709551616 := ⟨_, rfl⟩
  obtain ⟨l, hl⟩ : ∃ l, l = x' * y' % 18446744073709551616 := ⟨_, rfl⟩
  have M1 : Aside0 (bits_Mul64.f x' y' = some (h, l)) := ⟨by unfold bits_Mul64.f; rw [if_pos ⟨ux.1, ux.2, uy.1, uy.2⟩, hh, hl]⟩
  have R1 : Aside0 (r = mOut m (h * 18446744073709551616 + l)) := ⟨by
    rw [hr.out, ← mMul_rest, ← hx', ← hy', hh, hl]; congr 1; omega⟩
  have X1 := Aside0.mk hx'
  have Y1 := Aside0.mk hy'
  have h0 : 0 ≤ h := by rw [hh]; omega
  have h1 : h < m := by rw [hh]; omega
  have lU : U l := by rw [hl]; unfold U; omega
  have HB := Aside0.mk hb
  have HN : Aside0 (∀ n, CtxBlk (w.drewN n) g m t) := ⟨fun _ => hb⟩
  have HM := Aside0.mk hm
  have HD := Aside0.mk hd
  have HX := Aside0.mk hx
  have HY := Aside0.mk hy
  have H0 := Aside0.mk h0
  have H1 := Aside0.mk h1
  have HL := Aside0.mk lU
  clear hx' hy' ux uy lx ly p0 p1 p2 hh hl h0 h1 lU hb hm ht hd hx hy hr
  go_enter Try.func20, Try.ntmps20
  go_wp2_with (first
    | (go_at_call 43; (with_reducible refine (cut_calls HB.out HM.out HX.out X1).mono ?_); rintro e w' ⟨rfl, ⟨nd, rfl⟩⟩; (try first | exact qA | exact qB))
    | (go_at_call 43; (with_reducible refine (cut_calls (HN.out _) HM.out HX.out X1).mono ?_); rintro e w' ⟨rfl, ⟨nd, rfl⟩⟩; (try first | exact qA | exact qB))
    | (go_at_call 43; (with_reducible refine (cut_calls HB.out HM.out HY.out Y1).mono ?_); rintro e w' ⟨rfl, ⟨nd, rfl⟩⟩; (try first | exact qA | exact qB))
    | (go_at_call 43; (with_reducible refine (cut_calls (HN.out _) HM.out HY.out Y1).mono ?_); rintro e w' ⟨rfl, ⟨nd, rfl⟩⟩; (try first | exact qA | exact qB))
    | (go_at_call 40; (with_reducible refine (mul64_calls M1).mono ?_); rintro e w' ⟨rfl, ⟨nd, rfl⟩⟩; (try first | exact qA | exact qB))
    | (go_at_call 42; (with_reducible refine (reduce_calls HB.out HM.out HD.out H0.out H1.out HL.out R1).mono ?_); rintro e w' ⟨rfl, ⟨nd, rfl⟩⟩; (try first | exact qA | exact qB))
    | (go_at_call 42; (with_reducible refine (reduce_calls (HN.out _) HM.out HD.out H0.out H1.out HL.out R1).mono ?_); rintro e w' ⟨rfl, ⟨nd, rfl⟩⟩; (try first | exact qA | exact qB))
    )
  go_ret
  exact ⟨by first | rfl | (simp; done), by repeat (first | exact Drawn0.refl _ | apply Drawn0.step)⟩

theorem Mul_nil {x y : Int} {w : World} :
    Calls Try.prog 20 #[.pointer none, .int .u64 x, .int .u64 y] w fun e w' => e = .returned (.int .u64 0) ∧ Drawn0 w w' := by
  go_enter Try.func20, Try.ntmps20
  go_wp2
  go_ret
  exact ⟨by first | rfl | (simp; done), by repeat (first | exact Drawn0.refl _ | apply Drawn0.step)⟩

set_option maxHeartbeats 2000000 in
theorem Out_some {v : Value} {m x r : Int} {w : World} (hc : IsCtx w v m) (hx : U x) (hr : Aside0 (r = mOut m x)) :
    Calls Try.prog 17 #[v, .int .u64 x] w fun e w' => e = .returned (.int .u64 r) ∧ Drawn0 w w' := by
  obtain ⟨g, t, rfl, hb, hm, ht, hd⟩ := hc
  obtain ⟨x', hx'⟩ : ∃ x', x' = x % m := ⟨_, rfl⟩
  have ux := U_mod hm x
  rw [← hx'] at ux
  have R1 : Aside0 (r = mOut m (0 * 18446744073709551616 + x')) := ⟨by rw [hr.out, hx', Int.zero_mul, Int.zero_add, mOut_rest]⟩
  have X1 := Aside0.mk hx'
  have h1 := good_pos hm
  have HB := Aside0.mk hb
  have HN : Aside0 (∀ n, CtxBlk (w.drewN n) g m t) := ⟨fun _ => hb⟩
  have HM := Aside0.mk hm
  have HD := Aside0.mk hd
  have HX := Aside0.mk hx
  have H1 := Aside0.mk h1
  have HL := Aside0.mk ux
  clear hx' ux h1 hb hm ht hd hx hr
  go_enter Try.func17, Try.ntmps17
  go_wp2_with (first
    | (go_at_call 43; (with_reducible refine (cut_calls HB.out HM.out HX.out X1).mono ?_); rintro e w' ⟨rfl, ⟨nd, rfl⟩⟩; (try first | exact qA | exact qB))
    | (go_at_call 43; (with_reducible refine (cut_calls (HN.out _) HM.out HX.out X1).mono ?_); rintro e w' ⟨rfl, ⟨nd, rfl⟩⟩; (try first | exact qA | exact qB))
    | (go_at_call 42; (with_reducible refine (reduce_calls HB.out HM.out HD.out (Int.le_refl 0) H1.out HL.out R1).mono ?_); rintro e w' ⟨rfl, ⟨nd, rfl⟩⟩; (try first | exact qA | exact qB))
    | (go_at_call 42; (with_reducible refine (reduce_calls (HN.out _) HM.out HD.out (Int.le_refl 0) H1.out HL.out R1).mono ?_); rintro e w' ⟨rfl, ⟨nd, rfl⟩⟩; (try first | exact qA | exact qB))
    )
  go_ret
  exact ⟨by first | rfl | (simp; done), by repeat (first | exact Drawn0.refl _ | apply Drawn0.step)⟩

theorem Out_nil {x : Int} {w : World} :
    Calls Try.prog 17 #[.pointer none, .int .u64 x] w fun e w' => e = .returned (.int .u64 0) ∧ Drawn0 w w' := by
  go_enter Try.func17, Try.ntmps17
  go_wp2
  go_ret
  exact ⟨by first | rfl | (simp; done), by repeat (first | exact Drawn0.refl _ | apply Drawn0.step)⟩

set_option maxHeartbeats 2000000 in
theorem In_some {v : Value} {m x r : Int} {w : World} (hc : IsCtx w v m) (hx : U x) (hr : Aside0 (r = mIn m x)) :
    Calls Try.prog 18 #[v, .int .u64 x] w fun e w' => e = .returned (.int .u64 r) ∧ Drawn0 w w' := by
  have hc' := hc
  obtain ⟨g, t, rfl, hb, hm, ht, hd⟩ := hc'
  obtain ⟨s, hs⟩ : ∃ s, s = mSq m := ⟨_, rfl⟩
  have us : U s := by rw [hs]; exact U_mod hm _
  have R1 : Aside0 (r = mMul m x s) := ⟨by rw [hr.out, hs, mMul_sq hm]⟩
  have k3 := hb.c3
  have f3 := blk_frozen hb 3
  rw [← hs] at k3
  have HB := Aside0.mk hc
  have HN : Aside0 (∀ n, IsCtx (w.drewN n) (.pointer (some ⟨g, 0, none⟩)) m) := ⟨fun _ => hc⟩
  have HX := Aside0.mk hx
  have HL := Aside0.mk us
  clear us hs hb hm ht hd hx hr hc
  go_enter Try.func18, Try.ntmps18
  go_wp2_with (first
    | (go_at_call 20; (with_reducible refine (Mul_some HB.out HX.out HL.out R1).mono ?_); rintro e w' ⟨rfl, ⟨nd, rfl⟩⟩; (try first | exact qA | exact qB))
    | (go_at_call 20; (with_reducible refine (Mul_some (HN.out _) HX.out HL.out R1).mono ?_); rintro e w' ⟨rfl, ⟨nd, rfl⟩⟩; (try first | exact qA | exact qB))
    )
  go_ret
  exact ⟨by first | rfl | (simp; done), by repeat (first | exact Drawn0.refl _ | apply Drawn0.step)⟩

theorem In_nil {x : Int} {w : World} :
    Calls Try.prog 18 #[.pointer none, .int .u64 x] w fun e w' => e = .returned (.int .u64 0) ∧ Drawn0 w w' := by
  go_enter Try.func18, Try.ntmps18
  go_wp2
  go_ret
  exact ⟨by first | rfl | (simp; done), by repeat (first | exact Drawn0.refl _ | apply Drawn0.step)⟩

theorem One_some {v : Value} {m r : Int} {w : World} (hc : IsCtx w v m) (hr : Aside0 (r = mOne m)) :
    Calls Try.prog 19 #[v] w fun e w' => e = .returned (.int .u64 r) ∧ Drawn0 w w' := by
  obtain ⟨g, t, rfl, hb, hm, ht, hd⟩ := hc
  have k2 := hb.c2
  have f2 := blk_frozen hb 2
  rw [← hr.out] at k2
  clear hb hm ht hd hr
  go_enter Try.func19, Try.ntmps19
  go_wp2
  go_ret
  exact ⟨by first | rfl | (simp; done), by repeat (first | exact Drawn0.refl _ | apply Drawn0.step)⟩

theorem One_nil {w : World} :
    Calls Try.prog 19 #[.pointer none] w fun e w' => e = .returned (.int .u64 0) ∧ Drawn0 w w' := by
  go_enter Try.func19, Try.ntmps19
  go_wp2
  go_ret
  exact ⟨by first | rfl | (simp; done), by repeat (first | exact Drawn0.refl _ | apply Drawn0.step)⟩

theorem Modulus_some {v : Value} {m : Int} {w : World} (hc : IsCtx w v m) :
    Calls Try.prog 29 #[v] w fun e w' => e = .returned (.int .u64 m) ∧ Drawn0 w w' := by
  obtain ⟨g, t, rfl, hb, hm, ht, hd⟩ := hc
  have k0 := hb.c0
  have f0 := blk_frozen hb 0
  clear hb hm ht hd
  go_enter Try.func29, Try.ntmps29
  go_wp2
  go_ret
  exact ⟨by first | rfl | (simp; done), by repeat (first | exact Drawn0.refl _ | apply Drawn0.step)⟩

theorem Modulus_nil {w : World} :
    Calls Try.prog 29 #[.pointer none] w fun e w' => e = .returned (.int .u64 0) ∧ Drawn0 w w' := by
  go_enter Try.func29, Try.ntmps29
  go_wp2
  go_ret
  exact ⟨by first | rfl | (simp; done), by repeat (first | exact Drawn0.refl _ | apply Drawn0.step)⟩

set_option maxHeartbeats 2000000 in
theorem Neg_some {v : Value} {m x r : Int} {w : World} (hc : IsCtx w v m) (hx : U x) (hr : Aside0 (r = mNeg m x)) :
    Calls Try.prog 26 #[v, .int .u64 x] w fun e w' => e = .returned (.int .u64 r) ∧ Drawn0 w w' := by
  obtain ⟨g, t, rfl, hb, hm, ht, hd⟩ := hc
  obtain ⟨x', hx'⟩ : ∃ x', x' = x % m := ⟨_, rfl⟩
  have k0 := hb.c0
  have f0 := blk_frozen hb 0
  have X1 := Aside0.mk hx'
  have HB := Aside0.mk hb
  have HN : Aside0 (∀ n, CtxBlk (w.drewN n) g m t) := ⟨fun _ => hb⟩
  have HM := Aside0.mk hm
  have HX := Aside0.mk hx
  by_cases hz : x' = 0
  · have b1 : (x' == 0) = true := beq_iff_eq.mpr hz
    have e1 : r = 0 := by
      rw [hr.out]; unfold mNeg
      exact Int.emod_eq_zero_of_dvd ((Int.dvd_neg).2 (Int.dvd_of_emod_eq_zero (hx'.symm.trans hz)))
    have E1 := Aside0.mk e1
    clear e1 hz hx' hb hm ht hd hx hr
    go_enter Try.func26, Try.ntmps26
    go_wp2_with (first
      | (go_at_call 43; (with_reducible refine (cut_calls HB.out HM.out HX.out X1).mono ?_); rintro e w' ⟨rfl, ⟨nd, rfl⟩⟩; (try first | exact qA | exact qB))
      | (go_at_call 43; (with_reducible refine (cut_calls (HN.out _) HM.out HX.out X1).mono ?_); rintro e w' ⟨rfl, ⟨nd, rfl⟩⟩; (try first | exact qA | exact qB))
      )
    go_ret
    exact ⟨by rw [E1.out] <;> first | rfl | (simp; done), by repeat (first | exact Drawn0.refl _ | apply Drawn0.step)⟩
  · have b1 : (x' == 0) = false := beq_eq_false_iff_ne.mpr hz
    have e1 : r = IntKind.u64.wrap (m - x') := by
      rw [hr.out, hx', wu64_id _ (by have := lt_mod hm x; omega) (by have := ge_mod hm x; unfold GoodM at hm; omega)]
      exact neg_emod_eq (good_pos hm) (by omega)
    have E1 := Aside0.mk e1
    clear e1 hz hx' hb hm ht hd hx hr
    go_enter Try.func26, Try.ntmps26
    go_wp2_with (first
      | (go_at_call 43; (with_reducible refine (cut_calls HB.out HM.out HX.out X1).mono ?_); rintro e w' ⟨rfl, ⟨nd, rfl⟩⟩; (try first | exact qA | exact qB))
      | (go_at_call 43; (with_reducible refine (cut_calls (HN.out _) HM.out HX.out X1).mono ?_); rintro e w' ⟨rfl, ⟨nd, rfl⟩⟩; (try first | exact qA | exact qB))
      )
    go_ret
    exact ⟨by rw [E1.out] <;> first | rfl | (simp; done), by repeat (first | exact Drawn0.refl _ | apply Drawn0.step)⟩

theorem Neg_nil {x : Int} {w : World} :
    Calls Try.prog 26 #[.pointer none, .int .u64 x] w fun e w' => e = .returned (.int .u64 0) ∧ Drawn0 w w' := by
  go_enter Try.func26, Try.ntmps26
  go_wp2
  go_ret
  exact ⟨by first | rfl | (simp; done), by repeat (first | exact Drawn0.refl _ | apply Drawn0.step)⟩

set_option maxHeartbeats 2000000 in
theorem Add_some {v : Value} {m x y r : Int} {w : World} (hc : IsCtx w v m) (hx : U x) (hy : U y) (hr : Aside0 (r = mAdd m x y)) :
    Calls Try.prog 22 #[v, .int .u64 x, .int .u64 y] w fun e w' => e = .returned (.int .u64 r) ∧ Drawn0 w w' := by
  obtain ⟨g, t, rfl, hb, hm, ht, hd⟩ := hc
  obtain ⟨x', hx'⟩ : ∃ x', x' = x % m := ⟨_, rfl⟩
  obtain ⟨y', hy'⟩ : ∃ y', y' = y % m := ⟨_, rfl⟩
  have k0 := hb.c0
  have f0 := blk_frozen hb 0
  have X1 := Aside0.mk hx'
  have Y1 := Aside0.mk hy'
  have HB := Aside0.mk hb
  have HN : Aside0 (∀ n, CtxBlk (w.drewN n) g m t) := ⟨fun _ => hb⟩
  have HM := Aside0.mk hm
  have HX := Aside0.mk hx
  have HY := Aside0.mk hy
  have x0 := ge_mod hm x
  have x1 := lt_mod hm x
  have y0 := ge_mod hm y
  have y1 := lt_mod hm y
  have hmb : m < 9223372036854775808 := hm.2.2
  have hs : r = (x' + y') % m := by rw [hr.out, hx', hy', Int.emod_add_emod, Int.add_emod_emod]; rfl
  rw [← hx'] at x0 x1
  rw [← hy'] at y0 y1
  have hend := redc_end (T := x' + y') (m := m) (by omega) (by omega) hs.symm
  obtain ⟨s, hs'⟩ : ∃ s, s = x' + y' := ⟨_, rfl⟩
  have hw : IntKind.u64.wrap (x' + y') = s := by rw [wu64_id _ (by omega) (by omega), hs']
  by_cases hz : m ≤ s
  · have b1 : decide (m ≤ s) = true := decide_eq_true hz
    have e1 : r = IntKind.u64.wrap (s - m) := by rw [← hend, if_pos (by omega), wu64_id _ (by omega) (by omega), hs']
    have E1 := Aside0.mk e1
    clear e1 hz hs hs' hend hx' hy' x0 x1 y0 y1 hmb hb hm ht hd hx hy hr
    go_enter Try.func22, Try.ntmps22
    go_wp2_with (first
      | (go_at_call 43; (with_reducible refine (cut_calls HB.out HM.out HX.out X1).mono ?_); rintro e w' ⟨rfl, ⟨nd, rfl⟩⟩; (try first | exact qA | exact qB))
      | (go_at_call 43; (with_reducible refine (cut_calls (HN.out _) HM.out HX.out X1).mono ?_); rintro e w' ⟨rfl, ⟨nd, rfl⟩⟩; (try first | exact qA | exact qB))
      | (go_at_call 43; (with_reducible refine (cut_calls HB.out HM.out HY.out Y1).mono ?_); rintro e w' ⟨rfl, ⟨nd, rfl⟩⟩; (try first | exact qA | exact qB))
      | (go_at_call 43; (with_reducible refine (cut_calls (HN.out _) HM.out HY.out Y1).mono ?_); rintro e w' ⟨rfl, ⟨nd, rfl⟩⟩; (try first | exact qA | exact qB))
      )
    go_ret
    exact ⟨by rw [E1.out] <;> first | rfl | (simp; done), by repeat (first | exact Drawn0.refl _ | apply Drawn0.step)⟩
  · have b1 : decide (m ≤ s) = false := decide_eq_false hz
    have e1 : r = s := by rw [← hend, if_neg (by omega), hs']
    have E1 := Aside0.mk e1
    clear e1 hz hs hs' hend hx' hy' x0 x1 y0 y1 hmb hb hm ht hd hx hy hr
    go_enter Try.func22, Try.ntmps22
    go_wp2_with (first
      | (go_at_call 43; (with_reducible refine (cut_calls HB.out HM.out HX.out X1).mono ?_); rintro e w' ⟨rfl, ⟨nd, rfl⟩⟩; (try first | exact qA | exact qB))
      | (go_at_call 43; (with_reducible refine (cut_calls (HN.out _) HM.out HX.out X1).mono ?_); rintro e w' ⟨rfl, ⟨nd, rfl⟩⟩; (try first | exact qA | exact qB))
      | (go_at_call 43; (with_reducible refine (cut_calls HB.out HM.out HY.out Y1).mono ?_); rintro e w' ⟨rfl, ⟨nd, rfl⟩⟩; (try first | exact qA | exact qB))
      | (go_at_call 43; (with_reducible refine (cut_calls (HN.out _) HM.out HY.out Y1).mono ?_); rintro e w' ⟨rfl, ⟨nd, rfl⟩⟩; (try first | exact qA | exact qB))
      )
    go_ret
    exact ⟨by rw [E1.out] <;> first | rfl | (simp; done), by repeat (first | exact Drawn0.refl _ | apply Drawn0.step)⟩

theorem Add_nil {x y : Int} {w : World} :
    Calls Try.prog 22 #[.pointer none, .int .u64 x, .int .u64 y] w fun e w' => e = .returned (.int .u64 0) ∧ Drawn0 w w' := by
  go_enter Try.func22, Try.ntmps22
  go_wp2
  go_ret
  exact ⟨by first | rfl | (simp; done), by repeat (first | exact Drawn0.refl _ | apply Drawn0.step)⟩

set_option maxHeartbeats 2000000 in
theorem Sub_some {v : Value} {m x y r : Int} {w : World} (hc : IsCtx w v m) (hx : U x) (hy : U y) (hr : Aside0 (r = mSub m x y)) :
    Calls Try.prog 24 #[v, .int .u64 x, .int .u64 y] w fun e w' => e = .returned (.int .u64 r) ∧ Drawn0 w w' := by
  have hm : GoodM m := by obtain ⟨g, t, rfl, hb, hm, ht, hd⟩ := hc; exact hm
  obtain ⟨y', hy'⟩ : ∃ y', y' = mNeg m y := ⟨_, rfl⟩
  have Y1 := Aside0.mk hy'
  have uy : U y' := by rw [hy']; exact U_mod hm _
  have R1 : Aside0 (r = mAdd m x y') := ⟨by rw [hr.out, hy']; unfold mSub mAdd mNeg; rw [Int.add_emod_emod, Int.sub_eq_add_neg]⟩
  have HB := Aside0.mk hc
  have HN : Aside0 (∀ n, IsCtx (w.drewN n) v m) := ⟨fun _ => hc⟩
  have HX := Aside0.mk hx
  have HY := Aside0.mk hy
  have HU := Aside0.mk uy
  clear hy' uy hm hx hy hr hc
  go_enter Try.func24, Try.ntmps24
  go_wp2_with (first
    | (go_at_call 26; (with_reducible refine (Neg_some HB.out HY.out Y1).mono ?_); rintro e w' ⟨rfl, ⟨nd, rfl⟩⟩; (try first | exact qA | exact qB))
    | (go_at_call 26; (with_reducible refine (Neg_some (HN.out _) HY.out Y1).mono ?_); rintro e w' ⟨rfl, ⟨nd, rfl⟩⟩; (try first | exact qA | exact qB))
    | (go_at_call 22; (with_reducible refine (Add_some HB.out HX.out HU.out R1).mono ?_); rintro e w' ⟨rfl, ⟨nd, rfl⟩⟩; (try first | exact qA | exact qB))
    | (go_at_call 22; (with_reducible refine (Add_some (HN.out _) HX.out HU.out R1).mono ?_); rintro e w' ⟨rfl, ⟨nd, rfl⟩⟩; (try first | exact qA | exact qB))
    )
  go_ret
  exact ⟨by first | rfl | (simp; done), by repeat (first | exact Drawn0.refl _ | apply Drawn0.step)⟩

theorem Sub_nil {x y : Int} {w : World} :
    Calls Try.prog 24 #[.pointer none, .int .u64 x, .int .u64 y] w fun e w' => e = .returned (.int .u64 0) ∧ Drawn0 w w' := by
  go_enter Try.func24, Try.ntmps24
  go_wp2_with (first
    | (go_at_call 26; (with_reducible refine (Neg_nil).mono ?_); rintro e w' ⟨rfl, ⟨nd, rfl⟩⟩; (try first | exact qA | exact qB))
    | (go_at_call 22; (with_reducible refine (Add_nil).mono ?_); rintro e w' ⟨rfl, ⟨nd, rfl⟩⟩; (try first | exact qA | exact qB))
    )
  go_ret
  exact ⟨by first | rfl | (simp; done), by repeat (first | exact Drawn0.refl _ | apply Drawn0.step)⟩

end Go.Proofs.Ytcnnaciilphadaa.Mont
