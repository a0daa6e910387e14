/- Parts of this claim's texts, packed by wip/tools/prune.py: what the proof does not reach is left out. -/
import Derived.Test.YtndkmnjbjlfeaaaPR7
import Derived.Lib.LazyBuf
section
namespace Go.Proofs.Ytndkmnjbjlfeaaa.Given04
open Go Go.RowKit Go.Proofs.YtndkmnjbjlfeaaaW.PrintWords Go.Proofs.YtndkmnjbjlfeaaaW.PrintLast Go.Proofs.YtndkmnjbjlfeaaaW.PrintMore Go.Proofs.Ytndkmnjbjlfeaaa.Given Go.Proofs.Ytndkmnjbjlfeaaa.M Go.Proofs.Ytndkmnjbjlfeaaa.Mont Go.Proofs.Ytndkmnjbjlfeaaa.XS Go.Proofs.Ytndkmnjbjlfeaaa.XT
def proof_Power.f (l : List S75) : Option (List S75) := if l.length ≤ 1000000 then some l else none
theorem proof_Power.calls (A0 : Option Addr) (c0 : Nat) (l : List S75) (r : List S75) (w : World) (hr0 : Kd.C k75 w A0 l.length l) (_hc0 : l.length ≤ c0) (h : proof_Power.f l = some r) :
    Calls Try.prog 41 #[.slice A0 l.length c0] w fun e w' => ∃ v0_ : Value, e = .returned v0_ ∧ Kd.R k75 75 w' w.heap.size (fun _ => True) v0_ r ∧ Below w.heap.size w w' := by
  unfold proof_Power.f at h
  split at h
  case isFalse => cases h
  rename_i hl
  obtain rfl := Option.some.inj h
  clear h
  have HR0 := Aside0.mk hr0
  have HL := Aside0.mk hl
  cases A0 with
  | none =>
    have hz : l = [] := by
      obtain ⟨_, _, hh⟩ := hr0
      cases l with
      | nil => rfl
      | cons x t => obtain ⟨ad, e, _⟩ := hh (by simp); cases e
    subst hz
    have hq : ∀ (w : World) (n c : Nat) (a : Option Addr), (binOp .eql 56 (.slice a n c) (.slice none 0 0)).run Try.prog w = .ok (.bool a.isNone) w := fun w n c a => run_eql_slice_nil w 56 75 a n c Try.underlying56
    clear hr0 hl
    go_enter Try.func41, Try.ntmps41
    go_wp2
    go_ret
    exact ⟨_, rfl, Kd.R_nil _ _ _ _ _, Below.refl _ _⟩
  | some ad =>
    have HK : ∀ x cs, k75.K (w.alloc (.cells #[] 75)) x cs → k75.M (w.alloc (.cells #[] 75)) w.heap.size (fun _ => False) x cs := fun x cs h => by obtain rfl := k75_open h; exact k75_mkM _ _ _ x
    have HL2 : (([] : List S75).length + l.length) * 16 ≤ 140737488355328 := by simp; omega
    have hq : ∀ (w : World) (n c : Nat) (a : Option Addr), (binOp .eql 56 (.slice a n c) (.slice none 0 0)).run Try.prog w = .ok (.bool a.isNone) w := fun w n c a => run_eql_slice_nil w 56 75 a n c Try.underlying56
    clear hr0 hl
    go_enter Try.func41, Try.ntmps41
    go_wp2_with ((with_reducible refine gate_builtin (b := .append) (xs := #[.tmp 5, .tmp 6]) rfl ?_); at_builtin; (refine Kd.R_append_rows k75 (Rr := k75.K (w.alloc (.cells #[] 75))) (w0 := w) w.heap.size ?b1 (.tmp 5) (.tmp 6) 56 75 (.agg #[(.int .u64 0), (.int .i64 0)]) 16 ?b2 ?b3 ?b4 ?b5 ?b6 ?b7 (.slice (some ⟨w.heap.size, 0, none⟩) 0 0) [] l (some ad) l.length c0 (fun _ => True) (fun _ => False) ?b8 ?b9 ?aO ?aR ?aK (fun _ h => h.elim) ?aF ?aB ?aS ?aL ?_); (case b1 => rfl); (case b2 => rfl); (case b3 => exact Try.underlying56); (case b4 => exact info75); (case b5 => rfl); (case b6 => exact (by decide)); (case b7 => exact (by decide)); (case b8 => rfl); (case b9 => rfl); (case aO => exact ⟨fun _ _ => trivial, OwnRow.lit w w.heap.size (Reps.none _ _) (Nat.le_refl _) (by simp)⟩); (case aR => exact Kd.C_alloc HR0.out _); (case aK => exact HK); (case aF => exact fun _ _ => trivial); (case aB => exact below_alloc (Below.refl _ _) _); (case aS => exact below_size (below_alloc (Below.refl _ _) _)); (case aL => exact HL2); intro v1 w2 ho hb hg hat; have HO := Aside0.mk ho; have HB := Aside0.mk hb; clear ho hb hg hat)
    go_ret
    exact ⟨_, rfl, HO.out, HB.out⟩
end Go.Proofs.Ytndkmnjbjlfeaaa.Given04
end
section
namespace Go.Proofs.Ytndkmnjbjlfeaaa.F06
open Go Go.RowKit Go.Proofs.YtndkmnjbjlfeaaaW.PrintWords Go.Proofs.YtndkmnjbjlfeaaaW.PrintLast Go.Proofs.YtndkmnjbjlfeaaaW.PrintMore Go.Proofs.Ytndkmnjbjlfeaaa.Given Go.Proofs.Ytndkmnjbjlfeaaa.M Go.Proofs.Ytndkmnjbjlfeaaa.Mont Go.Proofs.Ytndkmnjbjlfeaaa.XS Go.Proofs.Ytndkmnjbjlfeaaa.XT Go.Proofs.Ytndkmnjbjlfeaaa.Given04
instance (x : Int) : Decidable (U x) := by unfold U; infer_instance
def FldAt (w : World) (a : Addr) (F : Fld) : Prop := ∃ (cv : Value) (A3 : Option Addr) (c3 : Nat), w.cell? a = some cv ∧ w.cell? ⟨a.block, a.off + 1, none⟩ = some (.int .u64 F.p) ∧ w.cell? ⟨a.block, a.off + 2, none⟩ = some (.int .u64 F.g) ∧ w.cell? ⟨a.block, a.off + 3, none⟩ = some (.slice A3 F.l.length c3) ∧ IsCtx w cv F.p ∧ U F.g ∧ F.l.length ≤ c3 ∧ Kd.C k75 w A3 F.l.length F.l
theorem fldAt_of {w : World} {A : Option Addr} {c : Nat} {F : Fld} {l : List Fld} (h : Kd.C kFld w A (F :: l).length (F :: l)) : ∃ a, toPtr (.slice A (F :: l).length c) = .pointer (some a) ∧ FldAt w a F := by
  obtain ⟨a, cv, A3, c3, h0, h1, h2, h3, h4, r⟩ := fld_open (c := c) h
  exact ⟨a, h0, cv, A3, c3, h1, h2, h3, h4, r⟩
theorem FldAt.good {w : World} {a : Addr} {F : Fld} (h : FldAt w a F) : GoodM F.p := by
  obtain ⟨_, _, _, _, _, _, _, ⟨_, _, _, _, hm, _⟩, _⟩ := h
  exact hm
theorem FldAt.drewN {w : World} {a : Addr} {F : Fld} (h : FldAt w a F) (n : Nat) : FldAt (w.drewN n) a F := h
theorem two_ways {P : Program} {f : Nat} {mk : Value → Array Value} {A : Option Addr} {c : Nat} {l : List Fld} {w : World} {Q : Ending → World → Prop}
    (hr : Kd.C kFld w A l.length l) (h0 : l = [] → Calls P f (mk (.pointer none)) w Q) (h1 : ∀ F t a, l = F :: t → FldAt w a F → Calls P f (mk (.pointer (some a))) w Q) :
    Calls P f (mk (toPtr (.slice A l.length c))) w Q := by
  cases l with
  | nil => rw [show toPtr (.slice A ([] : List Fld).length c) = .pointer none from pf_none _ _ rfl]; exact h0 rfl
  | cons F t =>
    obtain ⟨a, e, h⟩ := fldAt_of (c := c) hr
    rw [e]
    exact h1 F t a rfl h
def fP : List Fld → Int
  | [] => 0
  | F :: _ => F.p
theorem P_some {w : World} {a : Addr} {F : Fld} (h : FldAt w a F) :
    Calls Try.prog 49 #[.pointer (some a)] w fun e w' => e = .returned (.int .u64 F.p) ∧ Drawn0 w w' := by
  obtain ⟨cv, A3, c3, k0, k1, k2, k3, hx, hg, hl, hr⟩ := h
  clear hx hg hl hr
  go_enter Try.func49, Try.ntmps49
  go_wp2
  go_ret
  exact ⟨by first | rfl | (simp; done), by repeat (first | exact Drawn0.refl _ | apply Drawn0.step)⟩
theorem P_nil {w : World} :
    Calls Try.prog 49 #[.pointer none] w fun e w' => e = .returned (.int .u64 0) ∧ Drawn0 w w' := by
  go_enter Try.func49, Try.ntmps49
  go_wp2
  go_ret
  exact ⟨by first | rfl | (simp; done), by repeat (first | exact Drawn0.refl _ | apply Drawn0.step)⟩
def field_Field_Good.f (l : List Fld) (x : Int) : Option Bool := some (match l with
  | [] => false
  | F :: _ => decide (x < F.p))
theorem Good_some {w : World} {a : Addr} {F : Fld} {x : Int} (h : FldAt w a F) :
    Calls Try.prog 26 #[.pointer (some a), .int .u64 x] w fun e w' => e = .returned (.bool (decide (x < F.p))) ∧ Drawn0 w w' := by
  obtain ⟨cv, A3, c3, k0, k1, k2, k3, hx, hg, hl, hr⟩ := h
  clear hx hg hl hr
  go_enter Try.func26, Try.ntmps26
  go_wp2
  go_ret
  exact ⟨by first | rfl | (simp; done), by repeat (first | exact Drawn0.refl _ | apply Drawn0.step)⟩
theorem Good_nil {w : World} {x : Int} :
    Calls Try.prog 26 #[.pointer none, .int .u64 x] w fun e w' => e = .returned (.bool false) ∧ Drawn0 w w' := by
  go_enter Try.func26, Try.ntmps26
  go_wp2
  go_ret
  exact ⟨by first | rfl | (simp; done), by repeat (first | exact Drawn0.refl _ | apply Drawn0.step)⟩
theorem field_Field_Good.calls (A0 : Option Addr) (c0 : Nat) (l0 : List Fld) (a1 : Int) (r : Bool) (w : World) (hr0 : Kd.C kFld w A0 l0.length l0) (_hc0 : l0.length ≤ c0) (h : field_Field_Good.f l0 a1 = some r) :
    Calls Try.prog 26 #[toPtr (.slice A0 l0.length c0), .int .u64 a1] w fun e w' => e = .returned (.bool r) ∧ Drawn0 w w' := by
  obtain rfl := Option.some.inj h
  refine two_ways (mk := fun v => #[v, .int .u64 a1]) hr0 (fun e => ?_) (fun F t a e hF => ?_)
  · subst e; exact Good_nil
  · subst e; exact Good_some hF
def field_Field_Divides.f (l : List Fld) (n : Int) : Option Bool := if n < 18446744073709551616 then some (match l with
  | [] => false
  | F :: _ => decide (0 < n) && decide ((F.p - 1) % n = 0)) else none
theorem Divides_some {w : World} {a : Addr} {F : Fld} {n : Int} (h : FldAt w a F) (hn : n < 18446744073709551616) :
    Calls Try.prog 25 #[.pointer (some a), .int .i64 n] w fun e w' => e = .returned (.bool (decide (0 < n) && decide ((F.p - 1) % n = 0))) ∧ Drawn0 w w' := by
  have hm := h.good
  obtain ⟨cv, A3, c3, k0, k1, k2, k3, hx, hg, hl, hr⟩ := h
  clear hx hg hl hr
  unfold GoodM at hm
  have e1 : IntKind.u64.wrap (F.p - 1) = F.p - 1 := wu64_id _ (by omega) (by omega)
  have e3 : Int.tmod (F.p - 1) n = (F.p - 1) % n := tmod_pos (by omega)
  by_cases h0 : 0 < n
  · have b0 : decide (0 < n) = true := decide_eq_true h0
    have e2 : IntKind.u64.wrap n = n := wu64_id _ (by omega) (by omega)
    have b2 : (n == 0) = false := beq_eq_false_iff_ne.mpr (by omega)
    have b3 : ¬ n = 0 := by omega
    by_cases hd : (F.p - 1) % n = 0
    · have b4 : ((F.p - 1) % n == 0) = true := beq_iff_eq.mpr hd
      have b5 : decide ((F.p - 1) % n = 0) = true := decide_eq_true hd
      rw [b0, b5]
      clear hm h0 hd hn
      go_enter Try.func25, Try.ntmps25
      go_wp2
      go_ret
      exact ⟨by first | rfl | (simp; done), by repeat (first | exact Drawn0.refl _ | apply Drawn0.step)⟩
    · have b4 : ((F.p - 1) % n == 0) = false := beq_eq_false_iff_ne.mpr hd
      have b5 : decide ((F.p - 1) % n = 0) = false := decide_eq_false hd
      rw [b0, b5]
      clear hm h0 hd hn
      go_enter Try.func25, Try.ntmps25
      go_wp2
      go_ret
      exact ⟨by first | rfl | (simp; done), by repeat (first | exact Drawn0.refl _ | apply Drawn0.step)⟩
  · have b0 : decide (0 < n) = false := decide_eq_false h0
    rw [b0]
    clear hm h0 hn e1 e3
    go_enter Try.func25, Try.ntmps25
    go_wp2
    go_ret
    exact ⟨by first | rfl | (simp; done), by repeat (first | exact Drawn0.refl _ | apply Drawn0.step)⟩
theorem Divides_b {w : World} {a : Addr} {F : Fld} {n : Int} {b : Bool} (h : FldAt w a F) (hn : n < 18446744073709551616) (hb : (decide (0 < n) && decide ((F.p - 1) % n = 0)) = b) :
    Calls Try.prog 25 #[.pointer (some a), .int .i64 n] w fun e w' => e = .returned (.bool b) ∧ Drawn0 w w' := by
  have := Divides_some h hn
  rwa [hb] at this
theorem Divides_nil {w : World} {n : Int} :
    Calls Try.prog 25 #[.pointer none, .int .i64 n] w fun e w' => e = .returned (.bool false) ∧ Drawn0 w w' := by
  go_enter Try.func25, Try.ntmps25
  go_wp2
  go_ret
  exact ⟨by first | rfl | (simp; done), by repeat (first | exact Drawn0.refl _ | apply Drawn0.step)⟩
theorem field_Field_Divides.calls (A0 : Option Addr) (c0 : Nat) (l0 : List Fld) (a1 : Int) (r : Bool) (w : World) (hr0 : Kd.C kFld w A0 l0.length l0) (_hc0 : l0.length ≤ c0) (h : field_Field_Divides.f l0 a1 = some r) :
    Calls Try.prog 25 #[toPtr (.slice A0 l0.length c0), .int .i64 a1] w fun e w' => e = .returned (.bool r) ∧ Drawn0 w w' := by
  unfold field_Field_Divides.f at h
  split at h
  case isFalse => cases h
  rename_i hn
  obtain rfl := Option.some.inj h
  refine two_ways (mk := fun v => #[v, .int .i64 a1]) hr0 (fun e => ?_) (fun F t a e hF => ?_)
  · subst e; exact Divides_nil
  · subst e; exact Divides_some hF hn
def field_Field_Add.f (l : List Fld) (a1 : Int) (a2 : Int) : Option Int := if U a1 ∧ U a2 then some (match l with
  | [] => 0
  | F :: _ => (a1 + a2) % F.p) else none
theorem field_Field_Add.at_ {F : Fld} {l : List Fld} {a1 a2 : Int} (h : U a1 ∧ U a2) : field_Field_Add.f (F :: l) a1 a2 = some ((a1 + a2) % F.p) := by unfold field_Field_Add.f; rw [if_pos h]
set_option maxHeartbeats 2000000 in
theorem Add_f_some {w : World} {a : Addr} {F : Fld} {a1 a2 r : Int} (h : FldAt w a F) (hu : U a1 ∧ U a2) (hr0 : Aside0 (r = (a1 + a2) % F.p)) :
    Calls Try.prog 47 #[.pointer (some a), .int .u64 a1, .int .u64 a2] w fun e w' => e = .returned (.int .u64 r) ∧ Drawn0 w w' := by
  have hm := h.good
  obtain ⟨cv, A3, c3, k0, k1, k2, k3, hx, hg, hl, hr⟩ := h
  have HB := Aside0.mk hx
  have HN : Aside0 (∀ n, IsCtx (w.drewN n) cv F.p) := ⟨fun _ => hx⟩
  have HU := Aside0.mk hu
  clear hx hg hl hr hm hu
  go_enter Try.func47, Try.ntmps47
  go_wp2_with (first
    | (go_at_call 61; (with_reducible refine (Add_some HB.out HU.out.1 HU.out.2 hr0).mono ?_); rintro e w' ⟨rfl, ⟨nd, rfl⟩⟩; (try first | exact qA | exact qB))
    | (go_at_call 61; (with_reducible refine (Add_some (HN.out _) HU.out.1 HU.out.2 hr0).mono ?_); rintro e w' ⟨rfl, ⟨nd, rfl⟩⟩; (try first | exact qA | exact qB))
    )
  go_ret
  exact ⟨by first | rfl | (simp; done), by repeat (first | exact Drawn0.refl _ | apply Drawn0.step)⟩
theorem Add_f_nil {w : World} {a1 a2 : Int} :
    Calls Try.prog 47 #[.pointer none, .int .u64 a1, .int .u64 a2] w fun e w' => e = .returned (.int .u64 0) ∧ Drawn0 w w' := by
  go_enter Try.func47, Try.ntmps47
  go_wp2
  go_ret
  exact ⟨by first | rfl | (simp; done), by repeat (first | exact Drawn0.refl _ | apply Drawn0.step)⟩
theorem field_Field_Add.calls (A0 : Option Addr) (c0 : Nat) (l0 : List Fld) (a1 : Int) (a2 : Int) (r : Int) (w : World) (hr0 : Kd.C kFld w A0 l0.length l0) (_hc0 : l0.length ≤ c0) (h : field_Field_Add.f l0 a1 a2 = some r) :
    Calls Try.prog 47 #[toPtr (.slice A0 l0.length c0), .int .u64 a1, .int .u64 a2] w fun e w' => e = .returned (.int .u64 r) ∧ Drawn0 w w' := by
  unfold field_Field_Add.f at h
  split at h
  case isFalse => cases h
  rename_i hu
  obtain rfl := Option.some.inj h
  refine two_ways (mk := fun v => #[v, .int .u64 a1, .int .u64 a2]) hr0 (fun e => ?_) (fun F t a e hF => ?_)
  · subst e; exact Add_f_nil
  · subst e; exact Add_f_some hF hu ⟨rfl⟩
def field_Field_Sub.f (l : List Fld) (a1 : Int) (a2 : Int) : Option Int := if U a1 ∧ U a2 then some (match l with
  | [] => 0
  | F :: _ => (a1 - a2) % F.p) else none
theorem field_Field_Sub.at_ {F : Fld} {l : List Fld} {a1 a2 : Int} (h : U a1 ∧ U a2) : field_Field_Sub.f (F :: l) a1 a2 = some ((a1 - a2) % F.p) := by unfold field_Field_Sub.f; rw [if_pos h]
def field_Field_Neg.f (l : List Fld) (a1 : Int) : Option Int := if U a1 then some (match l with
  | [] => 0
  | F :: _ => (-a1) % F.p) else none
theorem field_Field_Neg.at_ {F : Fld} {l : List Fld} {a1 : Int} (h : U a1) : field_Field_Neg.f (F :: l) a1 = some ((-a1) % F.p) := by unfold field_Field_Neg.f; rw [if_pos h]
def field_Field_Lift.f (l : List Fld) (a1 : Int) : Option Int := if U a1 then some (match l with
  | [] => 0
  | F :: _ => mIn F.p a1) else none
theorem field_Field_Lift.at_ {F : Fld} {l : List Fld} {a1 : Int} (h : U a1) : field_Field_Lift.f (F :: l) a1 = some (mIn F.p a1) := by unfold field_Field_Lift.f; rw [if_pos h]
set_option maxHeartbeats 2000000 in
theorem Lift_f_some {w : World} {a : Addr} {F : Fld} {a1 r : Int} (h : FldAt w a F) (hu : U a1) (hr0 : Aside0 (r = mIn F.p a1)) :
    Calls Try.prog 28 #[.pointer (some a), .int .u64 a1] w fun e w' => e = .returned (.int .u64 r) ∧ Drawn0 w w' := by
  have hm := h.good
  obtain ⟨cv, A3, c3, k0, k1, k2, k3, hx, hg, hl, hr⟩ := h
  have HB := Aside0.mk hx
  have HN : Aside0 (∀ n, IsCtx (w.drewN n) cv F.p) := ⟨fun _ => hx⟩
  have HU := Aside0.mk hu
  clear hx hg hl hr hm hu
  go_enter Try.func28, Try.ntmps28
  go_wp2_with (first
    | (go_at_call 45; (with_reducible refine (In_some HB.out HU.out hr0).mono ?_); rintro e w' ⟨rfl, ⟨nd, rfl⟩⟩; (try first | exact qA | exact qB))
    | (go_at_call 45; (with_reducible refine (In_some (HN.out _) HU.out hr0).mono ?_); rintro e w' ⟨rfl, ⟨nd, rfl⟩⟩; (try first | exact qA | exact qB))
    )
  go_ret
  exact ⟨by first | rfl | (simp; done), by repeat (first | exact Drawn0.refl _ | apply Drawn0.step)⟩
theorem Lift_f_nil {w : World} {a1 : Int} :
    Calls Try.prog 28 #[.pointer none, .int .u64 a1] w fun e w' => e = .returned (.int .u64 0) ∧ Drawn0 w w' := by
  go_enter Try.func28, Try.ntmps28
  go_wp2
  go_ret
  exact ⟨by first | rfl | (simp; done), by repeat (first | exact Drawn0.refl _ | apply Drawn0.step)⟩
theorem field_Field_Lift.calls (A0 : Option Addr) (c0 : Nat) (l0 : List Fld) (a1 : Int) (r : Int) (w : World) (hr0 : Kd.C kFld w A0 l0.length l0) (_hc0 : l0.length ≤ c0) (h : field_Field_Lift.f l0 a1 = some r) :
    Calls Try.prog 28 #[toPtr (.slice A0 l0.length c0), .int .u64 a1] w fun e w' => e = .returned (.int .u64 r) ∧ Drawn0 w w' := by
  unfold field_Field_Lift.f at h
  split at h
  case isFalse => cases h
  rename_i hu
  obtain rfl := Option.some.inj h
  refine two_ways (mk := fun v => #[v, .int .u64 a1]) hr0 (fun e => ?_) (fun F t a e hF => ?_)
  · subst e; exact Lift_f_nil
  · subst e; exact Lift_f_some hF hu ⟨rfl⟩
def field_Field_Times.f (l : List Fld) (a1 : Int) (a2 : Int) : Option Int := if U a1 ∧ U a2 then some (match l with
  | [] => 0
  | F :: _ => mMul F.p a1 a2) else none
theorem field_Field_Times.at_ {F : Fld} {l : List Fld} {a1 a2 : Int} (h : U a1 ∧ U a2) : field_Field_Times.f (F :: l) a1 a2 = some (mMul F.p a1 a2) := by unfold field_Field_Times.f; rw [if_pos h]
set_option maxHeartbeats 2000000 in
theorem Times_f_some {w : World} {a : Addr} {F : Fld} {a1 a2 r : Int} (h : FldAt w a F) (hu : U a1 ∧ U a2) (hr0 : Aside0 (r = mMul F.p a1 a2)) :
    Calls Try.prog 33 #[.pointer (some a), .int .u64 a1, .int .u64 a2] w fun e w' => e = .returned (.int .u64 r) ∧ Drawn0 w w' := by
  have hm := h.good
  obtain ⟨cv, A3, c3, k0, k1, k2, k3, hx, hg, hl, hr⟩ := h
  have HB := Aside0.mk hx
  have HN : Aside0 (∀ n, IsCtx (w.drewN n) cv F.p) := ⟨fun _ => hx⟩
  have HU := Aside0.mk hu
  clear hx hg hl hr hm hu
  go_enter Try.func33, Try.ntmps33
  go_wp2_with (first
    | (go_at_call 50; (with_reducible refine (Mul_some HB.out HU.out.1 HU.out.2 hr0).mono ?_); rintro e w' ⟨rfl, ⟨nd, rfl⟩⟩; (try first | exact qA | exact qB))
    | (go_at_call 50; (with_reducible refine (Mul_some (HN.out _) HU.out.1 HU.out.2 hr0).mono ?_); rintro e w' ⟨rfl, ⟨nd, rfl⟩⟩; (try first | exact qA | exact qB))
    )
  go_ret
  exact ⟨by first | rfl | (simp; done), by repeat (first | exact Drawn0.refl _ | apply Drawn0.step)⟩
theorem Times_f_nil {w : World} {a1 a2 : Int} :
    Calls Try.prog 33 #[.pointer none, .int .u64 a1, .int .u64 a2] w fun e w' => e = .returned (.int .u64 0) ∧ Drawn0 w w' := by
  go_enter Try.func33, Try.ntmps33
  go_wp2
  go_ret
  exact ⟨by first | rfl | (simp; done), by repeat (first | exact Drawn0.refl _ | apply Drawn0.step)⟩
theorem field_Field_Times.calls (A0 : Option Addr) (c0 : Nat) (l0 : List Fld) (a1 : Int) (a2 : Int) (r : Int) (w : World) (hr0 : Kd.C kFld w A0 l0.length l0) (_hc0 : l0.length ≤ c0) (h : field_Field_Times.f l0 a1 a2 = some r) :
    Calls Try.prog 33 #[toPtr (.slice A0 l0.length c0), .int .u64 a1, .int .u64 a2] w fun e w' => e = .returned (.int .u64 r) ∧ Drawn0 w w' := by
  unfold field_Field_Times.f at h
  split at h
  case isFalse => cases h
  rename_i hu
  obtain rfl := Option.some.inj h
  refine two_ways (mk := fun v => #[v, .int .u64 a1, .int .u64 a2]) hr0 (fun e => ?_) (fun F t a e hF => ?_)
  · subst e; exact Times_f_nil
  · subst e; exact Times_f_some hF hu ⟨rfl⟩
def field_Field_Mul.f (l : List Fld) (a1 : Int) (a2 : Int) : Option Int := if U a1 ∧ U a2 then some (match l with
  | [] => 0
  | F :: _ => a1 * a2 % F.p) else none
theorem field_Field_Mul.at_ {F : Fld} {l : List Fld} {a1 a2 : Int} (h : U a1 ∧ U a2) : field_Field_Mul.f (F :: l) a1 a2 = some (a1 * a2 % F.p) := by unfold field_Field_Mul.f; rw [if_pos h]
def field_Field_Pow.f (l : List Fld) (a1 : Int) (a2 : Int) : Option Int := if U a1 ∧ U a2 then some (match l with
  | [] => 0
  | F :: _ => a1 ^ a2.toNat % F.p) else none
theorem field_Field_Pow.at_ {F : Fld} {l : List Fld} {a1 a2 : Int} (h : U a1 ∧ U a2) : field_Field_Pow.f (F :: l) a1 a2 = some (a1 ^ a2.toNat % F.p) := by unfold field_Field_Pow.f; rw [if_pos h]
set_option maxHeartbeats 2000000 in
theorem Pow_f_some {w : World} {a : Addr} {F : Fld} {a1 a2 r : Int} (h : FldAt w a F) (hu : U a1 ∧ U a2) (hr0 : Aside0 (r = a1 ^ a2.toNat % F.p)) :
    Calls Try.prog 82 #[.pointer (some a), .int .u64 a1, .int .u64 a2] w fun e w' => e = .returned (.int .u64 r) ∧ Drawn0 w w' := by
  have hm := h.good
  obtain ⟨cv, A3, c3, k0, k1, k2, k3, hx, hg, hl, hr⟩ := h
  have HB := Aside0.mk hx
  have HN : Aside0 (∀ n, IsCtx (w.drewN n) cv F.p) := ⟨fun _ => hx⟩
  have HU := Aside0.mk hu
  obtain ⟨s, hs⟩ : ∃ s, s = mIn F.p a1 := ⟨_, rfl⟩
  obtain ⟨t, ht⟩ : ∃ t, t = mPow F.p s a2 := ⟨_, rfl⟩
  have R1 := Aside0.mk hs
  have R2 := Aside0.mk ht
  have US : Aside0 (U s) := ⟨by rw [hs]; exact U_mod hm _⟩
  have UT : Aside0 (U t) := ⟨by rw [ht]; exact U_mod hm _⟩
  have R3 : Aside0 (r = mOut F.p t) := ⟨by rw [hr0.out, ht, hs, pow_in hm, out_in hm]⟩
  clear hs ht
  clear hx hg hl hr hm hu
  go_enter Try.func82, Try.ntmps82
  go_wp2_with (first
    | (go_at_call 45; (with_reducible refine (In_some HB.out HU.out.1 R1).mono ?_); rintro e w' ⟨rfl, ⟨nd, rfl⟩⟩; (try first | exact qA | exact qB))
    | (go_at_call 45; (with_reducible refine (In_some (HN.out _) HU.out.1 R1).mono ?_); rintro e w' ⟨rfl, ⟨nd, rfl⟩⟩; (try first | exact qA | exact qB))
    | (go_at_call 79; (with_reducible refine (Pow_some HB.out US.out HU.out.2 R2).mono ?_); rintro e w' ⟨rfl, ⟨nd, rfl⟩⟩; (try first | exact qA | exact qB))
    | (go_at_call 79; (with_reducible refine (Pow_some (HN.out _) US.out HU.out.2 R2).mono ?_); rintro e w' ⟨rfl, ⟨nd, rfl⟩⟩; (try first | exact qA | exact qB))
    | (go_at_call 94; (with_reducible refine (Out_some HB.out UT.out R3).mono ?_); rintro e w' ⟨rfl, ⟨nd, rfl⟩⟩; (try first | exact qA | exact qB))
    | (go_at_call 94; (with_reducible refine (Out_some (HN.out _) UT.out R3).mono ?_); rintro e w' ⟨rfl, ⟨nd, rfl⟩⟩; (try first | exact qA | exact qB))
    )
  repeat (go_quiet (first | (go_at_call 45; (with_reducible refine (In_some HB.out HU.out.1 R1).mono ?_); rintro e w' ⟨rfl, ⟨nd, rfl⟩⟩; (try first | exact qA | exact qB)) | (go_at_call 45; (with_reducible refine (In_some (HN.out _) HU.out.1 R1).mono ?_); rintro e w' ⟨rfl, ⟨nd, rfl⟩⟩; (try first | exact qA | exact qB)) | (go_at_call 79; (with_reducible refine (Pow_some HB.out US.out HU.out.2 R2).mono ?_); rintro e w' ⟨rfl, ⟨nd, rfl⟩⟩; (try first | exact qA | exact qB)) | (go_at_call 79; (with_reducible refine (Pow_some (HN.out _) US.out HU.out.2 R2).mono ?_); rintro e w' ⟨rfl, ⟨nd, rfl⟩⟩; (try first | exact qA | exact qB)) | (go_at_call 94; (with_reducible refine (Out_some HB.out UT.out R3).mono ?_); rintro e w' ⟨rfl, ⟨nd, rfl⟩⟩; (try first | exact qA | exact qB)) | (go_at_call 94; (with_reducible refine (Out_some (HN.out _) UT.out R3).mono ?_); rintro e w' ⟨rfl, ⟨nd, rfl⟩⟩; (try first | exact qA | exact qB))); try go_wp2_with (first | (go_at_call 45; (with_reducible refine (In_some HB.out HU.out.1 R1).mono ?_); rintro e w' ⟨rfl, ⟨nd, rfl⟩⟩; (try first | exact qA | exact qB)) | (go_at_call 45; (with_reducible refine (In_some (HN.out _) HU.out.1 R1).mono ?_); rintro e w' ⟨rfl, ⟨nd, rfl⟩⟩; (try first | exact qA | exact qB)) | (go_at_call 79; (with_reducible refine (Pow_some HB.out US.out HU.out.2 R2).mono ?_); rintro e w' ⟨rfl, ⟨nd, rfl⟩⟩; (try first | exact qA | exact qB)) | (go_at_call 79; (with_reducible refine (Pow_some (HN.out _) US.out HU.out.2 R2).mono ?_); rintro e w' ⟨rfl, ⟨nd, rfl⟩⟩; (try first | exact qA | exact qB)) | (go_at_call 94; (with_reducible refine (Out_some HB.out UT.out R3).mono ?_); rintro e w' ⟨rfl, ⟨nd, rfl⟩⟩; (try first | exact qA | exact qB)) | (go_at_call 94; (with_reducible refine (Out_some (HN.out _) UT.out R3).mono ?_); rintro e w' ⟨rfl, ⟨nd, rfl⟩⟩; (try first | exact qA | exact qB))))
  go_ret
  exact ⟨by first | rfl | (simp; done), by repeat (first | exact Drawn0.refl _ | apply Drawn0.step)⟩
open Classical in
/-- What makes 1 with x modulo m; 0: nothing does. -/
noncomputable def invF (m x : Int) : Int := if h : ∃ t : Int, 0 ≤ t ∧ t < m ∧ t * x % m = 1 then h.choose else 0
theorem invF_spec {m x t : Int} (h0 : 0 ≤ t) (h1 : t < m) (h2 : t * x % m = 1) : 0 ≤ invF m x ∧ invF m x < m ∧ invF m x * x % m = 1 := by
  have h : ∃ t : Int, 0 ≤ t ∧ t < m ∧ t * x % m = 1 := ⟨t, h0, h1, h2⟩
  unfold invF
  rw [dif_pos h]
  exact h.choose_spec
theorem invF_unique {m x t u : Int} (_hm : 2 ≤ m) (h0 : 0 ≤ t) (h1 : t < m) (h2 : t * x % m = 1) (g0 : 0 ≤ u) (g1 : u < m) (g2 : u * x % m = 1) : t = u := by
  have e1 : t * x * u % m = u % m := by rw [Int.mul_emod, h2, Int.one_mul, Int.emod_emod]
  have e2 : t * x * u % m = t % m := by rw [show t * x * u = t * (u * x) by rw [Int.mul_assoc, Int.mul_comm x u], Int.mul_emod, g2, Int.mul_one, Int.emod_emod]
  rw [Int.emod_eq_of_lt h0 h1] at e2
  rw [Int.emod_eq_of_lt g0 g1] at e1
  omega
theorem invF_eq {m x t : Int} (hm : 2 ≤ m) (h0 : 0 ≤ t) (h1 : t < m) (h2 : t * x % m = 1) : invF m x = t := by
  obtain ⟨g0, g1, g2⟩ := invF_spec h0 h1 h2
  exact invF_unique hm g0 g1 g2 h0 h1 h2
theorem invF_none {m x : Int} (h : ¬ ∃ t : Int, 0 ≤ t ∧ t < m ∧ t * x % m = 1) : invF m x = 0 := by unfold invF; rw [dif_neg h]
noncomputable def field_Field_Inv.f (l : List Fld) (a1 : Int) : Option Int := if U a1 then some (invF (fP l) a1) else none
theorem field_Field_Inv.at_ {F : Fld} {l : List Fld} {a1 : Int} (h : U a1) : field_Field_Inv.f (F :: l) a1 = some (invF F.p a1) := by unfold field_Field_Inv.f; rw [if_pos h]; rfl
theorem inv_answers {m x : Int} (hm : U m) (hx : U x) : ∃ k b, modular_Inv.f k x m = some (invF m x, b) := by
  by_cases h2 : m < 2
  · obtain ⟨k, hk⟩ := Ev.rounds (modular_Inv_small (a := x) h2)
    refine ⟨k, false, ?_⟩
    rw [hk, invF_none]
    rintro ⟨t, h0, h1, h3⟩
    have : t = 0 := by omega
    subst this
    simp at h3
  · obtain ⟨n, rfl⟩ := Int.eq_ofNat_of_zero_le hx.1
    obtain ⟨q, rfl⟩ := Int.eq_ofNat_of_zero_le hm.1
    obtain ⟨R, hR, hi⟩ := modular_Inv_ev (a := n) hm (by omega)
    obtain ⟨k, hk⟩ := Ev.rounds hR
    refine ⟨k, R.2, ?_⟩
    rw [hk]
    have : invF (q : Int) (n : Int) = R.1 := by
      by_cases hg : Nat.gcd n q = 1
      · obtain ⟨_, h0, h1, h2⟩ := hi.1 hg
        exact invF_eq (by omega) h0 h1 ((XS.emod_of_dvd_sub h2).trans (Int.emod_eq_of_lt (by omega) (by omega)))
      · rw [hi.2 hg]
        refine invF_none ?_
        rintro ⟨t, h0, h1, h3⟩
        refine hg (Nat.dvd_one.1 (Int.natCast_dvd_natCast.1 ?_))
        have d1 : ((Nat.gcd n q : Nat) : Int) ∣ (n : Int) := Int.natCast_dvd_natCast.2 (Nat.gcd_dvd_left n q)
        have d2 : ((Nat.gcd n q : Nat) : Int) ∣ (q : Int) := Int.natCast_dvd_natCast.2 (Nat.gcd_dvd_right n q)
        have e : (1 : Int) = t * n - q * (t * n / q) := by rw [← Int.emod_def, h3]
        rw [Int.natCast_one, e]
        exact Int.dvd_sub (Int.dvd_mul_of_dvd_right d1) (Int.dvd_mul_of_dvd_left d2)
    rw [this]
theorem Inv_f_some {w : World} {a : Addr} {F : Fld} {a1 r : Int} (h : FldAt w a F) (hu : U a1) (hr0 : Aside0 (r = invF F.p a1)) :
    Calls Try.prog 32 #[.pointer (some a), .int .u64 a1] w fun e w' => e = .returned (.int .u64 r) ∧ Drawn0 w w' := by
  have hm := h.good
  have HB := Aside0.mk h
  have HN : Aside0 (∀ n, FldAt (w.drewN n) a F) := ⟨fun _ => h⟩
  obtain ⟨k, b, hk⟩ := inv_answers (good_U hm) hu
  rw [← hr0.out] at hk
  have HK := Aside0.mk hk
  clear hk hm hu h hr0
  go_enter Try.func32, Try.ntmps32
  go_wp2_with (first
    | (go_at_call 49; (with_reducible refine (P_some HB.out).mono ?_); rintro e w' ⟨rfl, ⟨nd, rfl⟩⟩; (try first | exact qA | exact qB))
    | (go_at_call 49; (with_reducible refine (P_some (HN.out _)).mono ?_); rintro e w' ⟨rfl, ⟨nd, rfl⟩⟩; (try first | exact qA | exact qB))
    | (go_at_call 48; (with_reducible refine (modular_Inv.calls k _ _ r b _ HK.out).mono ?_); rintro e w' ⟨rfl, ⟨nd, rfl⟩⟩; (try first | exact qA | exact qB))
    )
  go_ret
  exact ⟨by first | rfl | (simp; done), by repeat (first | exact Drawn0.refl _ | apply Drawn0.step)⟩
theorem Inv_f_nil {w : World} {a1 : Int} (hu : U a1) :
    Calls Try.prog 32 #[.pointer none, .int .u64 a1] w fun e w' => e = .returned (.int .u64 (invF 0 a1)) ∧ Drawn0 w w' := by
  obtain ⟨k, b, hk⟩ := inv_answers (m := 0) (by unfold U; omega) hu
  obtain ⟨r, hr⟩ : ∃ r, r = invF 0 a1 := ⟨_, rfl⟩
  rw [← hr] at hk ⊢
  have HK := Aside0.mk hk
  clear hk hu hr
  go_enter Try.func32, Try.ntmps32
  go_wp2_with (first
    | (go_at_call 49; (with_reducible refine (P_nil).mono ?_); rintro e w' ⟨rfl, ⟨nd, rfl⟩⟩; (try first | exact qA | exact qB))
    | (go_at_call 48; (with_reducible refine (modular_Inv.calls k _ _ r b _ HK.out).mono ?_); rintro e w' ⟨rfl, ⟨nd, rfl⟩⟩; (try first | exact qA | exact qB))
    )
  go_ret
  exact ⟨by first | rfl | (simp; done), by repeat (first | exact Drawn0.refl _ | apply Drawn0.step)⟩
theorem field_Field_Inv.calls (A0 : Option Addr) (c0 : Nat) (l0 : List Fld) (a1 : Int) (r : Int) (w : World) (hr0 : Kd.C kFld w A0 l0.length l0) (_hc0 : l0.length ≤ c0) (h : field_Field_Inv.f l0 a1 = some r) :
    Calls Try.prog 32 #[toPtr (.slice A0 l0.length c0), .int .u64 a1] w fun e w' => e = .returned (.int .u64 r) ∧ Drawn0 w w' := by
  unfold field_Field_Inv.f at h
  split at h
  case isFalse => cases h
  rename_i hu
  obtain rfl := Option.some.inj h
  refine two_ways (mk := fun v => #[v, .int .u64 a1]) hr0 (fun e => ?_) (fun F t a e hF => ?_)
  · subst e; exact Inv_f_nil hu
  · subst e; exact Inv_f_some hF hu ⟨rfl⟩
def field_Field_Root.f (l : List Fld) (n : Int) : Option (Int × Int) := if n < 9223372036854775808 then some (match l with
  | [] => (0, 2)
  | F :: _ => if 0 < n ∧ (F.p - 1) % n = 0 then (F.g ^ ((F.p - 1) / n).toNat % F.p, 0) else (0, 4)) else none
theorem Root_nil {w : World} {n : Int} :
    Calls Try.prog 60 #[.pointer none, .int .i64 n] w fun e w' => e = .returned (.tuple #[.int .u64 0, .int .i64 2]) ∧ Drawn0 w w' := by
  go_enter Try.func60, Try.ntmps60
  go_wp2
  go_ret2
  exact ⟨by first | rfl | (simp; done), by repeat (first | exact Drawn0.refl _ | apply Drawn0.step)⟩
theorem Root_no {w : World} {a : Addr} {F : Fld} {n : Int} (h : FldAt w a F) (hn : n < 9223372036854775808) (hd : ¬ (0 < n ∧ (F.p - 1) % n = 0)) :
    Calls Try.prog 60 #[.pointer (some a), .int .i64 n] w fun e w' => e = .returned (.tuple #[.int .u64 0, .int .i64 4]) ∧ Drawn0 w w' := by
  have HB := Aside0.mk h
  have HN : Aside0 (∀ n, FldAt (w.drewN n) a F) := ⟨fun _ => h⟩
  have hb : (decide (0 < n) && decide ((F.p - 1) % n = 0)) = false := by
    rw [← Bool.decide_and]; exact decide_eq_false hd
  have HBb := Aside0.mk hb
  have HNn : Aside0 (n < 18446744073709551616) := ⟨by omega⟩
  clear h hd hn hb
  go_enter Try.func60, Try.ntmps60
  go_wp2_with (first
    | (go_at_call 25; (with_reducible refine (Divides_b HB.out HNn.out HBb.out).mono ?_); rintro e w' ⟨rfl, ⟨nd, rfl⟩⟩; (try first | exact qA | exact qB))
    | (go_at_call 25; (with_reducible refine (Divides_b (HN.out _) HNn.out HBb.out).mono ?_); rintro e w' ⟨rfl, ⟨nd, rfl⟩⟩; (try first | exact qA | exact qB))
    )
  go_ret2
  exact ⟨by first | rfl | (simp; done), by repeat (first | exact Drawn0.refl _ | apply Drawn0.step)⟩
theorem Root_yes {w : World} {a : Addr} {F : Fld} {n r : Int} (h : FldAt w a F) (hn : n < 9223372036854775808) (hd : 0 < n ∧ (F.p - 1) % n = 0) (hr0 : Aside0 (r = F.g ^ ((F.p - 1) / n).toNat % F.p)) :
    Calls Try.prog 60 #[.pointer (some a), .int .i64 n] w fun e w' => e = .returned (.tuple #[.int .u64 r, .int .i64 0]) ∧ Drawn0 w w' := by
  have HB := Aside0.mk h
  have HN : Aside0 (∀ n, FldAt (w.drewN n) a F) := ⟨fun _ => h⟩
  have hm := h.good
  have hb : (decide (0 < n) && decide ((F.p - 1) % n = 0)) = true := by
    rw [← Bool.decide_and]; exact decide_eq_true hd
  have HBb := Aside0.mk hb
  have HNn : Aside0 (n < 18446744073709551616) := ⟨by omega⟩
  unfold GoodM at hm
  have e1 : IntKind.u64.wrap (F.p - 1) = F.p - 1 := wu64_id _ (by omega) (by omega)
  have e2 : IntKind.u64.wrap n = n := wu64_id _ (by omega) (by omega)
  have b2 : (n == 0) = false := beq_eq_false_iff_ne.mpr (by omega)
  have b3 : ¬ n = 0 := by omega
  obtain ⟨q, hq⟩ : ∃ q, q = (F.p - 1) / n := ⟨_, rfl⟩
  have hq0 : 0 ≤ q := by rw [hq]; exact Int.ediv_nonneg (by omega) (by omega)
  have hq1 : q ≤ F.p - 1 := by rw [hq]; exact Int.ediv_le_self _ (by omega)
  have e3 : Int.tdiv (F.p - 1) n = q := by rw [hq]; exact Int.tdiv_eq_ediv_of_nonneg (by omega)
  have e4 : IntKind.u64.wrap q = q := wu64_id _ (by omega) (by omega)
  rw [← hq] at hr0
  have hg : U F.g := by obtain ⟨_, _, _, _, _, _, _, _, hg, _⟩ := h; exact hg
  have HU : Aside0 (U F.g ∧ U q) := ⟨hg, by unfold U; omega⟩
  have hh := h
  obtain ⟨cv, A3, c3, k0, k1, k2, k3, hx, hgu, hl, hr⟩ := hh
  clear hgu h hd hn hb hm hq0 hq1 hg hx hl hr hq
  go_enter Try.func60, Try.ntmps60
  go_wp2_with (first
    | (go_at_call 25; (with_reducible refine (Divides_b HB.out HNn.out HBb.out).mono ?_); rintro e w' ⟨rfl, ⟨nd, rfl⟩⟩; (try first | exact qA | exact qB))
    | (go_at_call 25; (with_reducible refine (Divides_b (HN.out _) HNn.out HBb.out).mono ?_); rintro e w' ⟨rfl, ⟨nd, rfl⟩⟩; (try first | exact qA | exact qB))
    | (go_at_call 82; (with_reducible refine (Pow_f_some HB.out HU.out hr0).mono ?_); rintro e w' ⟨rfl, ⟨nd, rfl⟩⟩; (try first | exact qA | exact qB))
    | (go_at_call 82; (with_reducible refine (Pow_f_some (HN.out _) HU.out hr0).mono ?_); rintro e w' ⟨rfl, ⟨nd, rfl⟩⟩; (try first | exact qA | exact qB))
    )
  repeat (go_quiet (first | (go_at_call 25; (with_reducible refine (Divides_b HB.out HNn.out HBb.out).mono ?_); rintro e w' ⟨rfl, ⟨nd, rfl⟩⟩; (try first | exact qA | exact qB)) | (go_at_call 25; (with_reducible refine (Divides_b (HN.out _) HNn.out HBb.out).mono ?_); rintro e w' ⟨rfl, ⟨nd, rfl⟩⟩; (try first | exact qA | exact qB)) | (go_at_call 82; (with_reducible refine (Pow_f_some HB.out HU.out hr0).mono ?_); rintro e w' ⟨rfl, ⟨nd, rfl⟩⟩; (try first | exact qA | exact qB)) | (go_at_call 82; (with_reducible refine (Pow_f_some (HN.out _) HU.out hr0).mono ?_); rintro e w' ⟨rfl, ⟨nd, rfl⟩⟩; (try first | exact qA | exact qB))); try go_wp2_with (first | (go_at_call 25; (with_reducible refine (Divides_b HB.out HNn.out HBb.out).mono ?_); rintro e w' ⟨rfl, ⟨nd, rfl⟩⟩; (try first | exact qA | exact qB)) | (go_at_call 25; (with_reducible refine (Divides_b (HN.out _) HNn.out HBb.out).mono ?_); rintro e w' ⟨rfl, ⟨nd, rfl⟩⟩; (try first | exact qA | exact qB)) | (go_at_call 82; (with_reducible refine (Pow_f_some HB.out HU.out hr0).mono ?_); rintro e w' ⟨rfl, ⟨nd, rfl⟩⟩; (try first | exact qA | exact qB)) | (go_at_call 82; (with_reducible refine (Pow_f_some (HN.out _) HU.out hr0).mono ?_); rintro e w' ⟨rfl, ⟨nd, rfl⟩⟩; (try first | exact qA | exact qB))))
  go_ret2
  exact ⟨by first | rfl | (simp; done), by repeat (first | exact Drawn0.refl _ | apply Drawn0.step)⟩
theorem field_Field_Root.calls (A0 : Option Addr) (c0 : Nat) (l0 : List Fld) (a1 : Int) (r1 r2 : Int) (w : World) (hr0 : Kd.C kFld w A0 l0.length l0) (_hc0 : l0.length ≤ c0) (h : field_Field_Root.f l0 a1 = some (r1, r2)) :
    Calls Try.prog 60 #[toPtr (.slice A0 l0.length c0), .int .i64 a1] w fun e w' => e = .returned (.tuple #[.int .u64 r1, .int .i64 r2]) ∧ Drawn0 w w' := by
  unfold field_Field_Root.f at h
  split at h
  case isFalse => cases h
  rename_i hn
  have h := Option.some.inj h
  refine two_ways (mk := fun v => #[v, .int .i64 a1]) hr0 (fun e => ?_) (fun F t a e hF => ?_)
  · subst e
    obtain ⟨rfl, rfl⟩ := Prod.mk.inj h
    exact Root_nil
  · subst e
    simp only at h
    split at h
    · rename_i hd
      obtain ⟨rfl, rfl⟩ := Prod.mk.inj h
      exact Root_yes hF hn hd ⟨rfl⟩
    · rename_i hd
      obtain ⟨rfl, rfl⟩ := Prod.mk.inj h
      exact Root_no hF hn hd
end Go.Proofs.Ytndkmnjbjlfeaaa.F06
end
