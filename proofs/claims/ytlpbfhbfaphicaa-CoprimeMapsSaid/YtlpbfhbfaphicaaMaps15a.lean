/- Layer 15: CoprimeMaps: plain facts: places marked, what In and Out tell where there is no table. -/
import Derived.Test.YtlpbfhbfaphicaaPick15
namespace Go.Proofs.Ytlpbfhbfaphicaa.D15
open Go Go.RowKit Go.Proofs.YtlpbfhbfaphicaaW.PrintWords Go.Proofs.YtlpbfhbfaphicaaW.PrintLast Go.Proofs.YtlpbfhbfaphicaaW.PrintMore Go.Proofs.Ytlpbfhbfaphicaa.M Go.Proofs.Ytlpbfhbfaphicaa.XC Go.Proofs.Ytlpbfhbfaphicaa.XE

set_option linter.unusedVariables false
theorem cancel_cop {a b i j : Nat} (h : Nat.Coprime a b) (hi : i < a) (hj : j < a) (e : b * i % a = b * j % a) : i = j := by
  have key : ∀ x y : Nat, x ≤ y → y < a → b * x % a = b * y % a → x = y := by
    intro x y hxy hy e
    have h1 : (b * y - b * x) % a = 0 := Nat.sub_mod_eq_zero_of_mod_eq e.symm
    rw [← Nat.mul_sub] at h1
    have h2 : a ∣ y - x := h.dvd_of_dvd_mul_left (Nat.dvd_of_mod_eq_zero h1)
    by_cases c : y - x = 0
    · omega
    · have := Nat.le_of_dvd (by omega) h2
      omega
  rcases Nat.le_total i j with c | c
  · exact key i j c hj e
  · exact (key j i c hi e.symm).symm
theorem inN_inj {a b s t : Nat} (hab : Nat.Coprime a b) (hs : s < a * b) (ht : t < a * b) (h : inN a b s = inN a b t) : s = t := by
  have hb : 0 < b := Nat.pos_of_ne_zero fun c => by subst c; omega
  unfold inN at h
  have h1 := congrArg (· % a) h
  have h2 := congrArg (· % b) h
  simp only [Nat.mod_mul_right_mod, Nat.mod_mul_left_mod, Nat.add_mul_mod_self_left, Nat.mul_add_mod] at h1 h2
  have d1 : s / b < a := Nat.div_lt_of_lt_mul (by rw [Nat.mul_comm]; exact hs)
  have d2 : t / b < a := Nat.div_lt_of_lt_mul (by rw [Nat.mul_comm]; exact ht)
  have e1 := cancel_cop hab d1 d2 h1
  have e2 := cancel_cop hab.symm (Nat.mod_lt s hb) (Nat.mod_lt t hb) h2
  rw [← Nat.div_add_mod s b, ← Nat.div_add_mod t b, e1, e2]
theorem outN_inj {a b s t : Nat} (hab : Nat.Coprime a b) (hs : s < a * b) (ht : t < a * b) (h : outN a b s = outN a b t) : s = t := by
  have hb : 0 < b := Nat.pos_of_ne_zero fun c => by subst c; omega
  unfold outN at h
  have l1 := Nat.mod_lt s hb
  have l2 := Nat.mod_lt t hb
  have h1 : s % a = t % a := by
    have := congrArg (· / b) h
    simp only [Nat.mul_comm _ b, Nat.mul_add_div hb, Nat.div_eq_of_lt l1, Nat.div_eq_of_lt l2, Nat.add_zero] at this
    exact this
  have h2 : s % b = t % b := by
    have := congrArg (· % b) h
    simp only [Nat.mul_comm _ b, Nat.mul_add_mod, Nat.mod_eq_of_lt l1, Nat.mod_eq_of_lt l2] at this
    exact this
  rcases Nat.le_total s t with c | c
  · have e1 := Nat.sub_mod_eq_zero_of_mod_eq h1.symm
    have e2 := Nat.sub_mod_eq_zero_of_mod_eq h2.symm
    have := hab.mul_dvd_of_dvd_of_dvd (Nat.dvd_of_mod_eq_zero e1) (Nat.dvd_of_mod_eq_zero e2)
    by_cases z : t - s = 0
    · omega
    · have := Nat.le_of_dvd (by omega) this
      omega
  · have e1 := Nat.sub_mod_eq_zero_of_mod_eq h1
    have e2 := Nat.sub_mod_eq_zero_of_mod_eq h2
    have := hab.mul_dvd_of_dvd_of_dvd (Nat.dvd_of_mod_eq_zero e1) (Nat.dvd_of_mod_eq_zero e2)
    by_cases z : s - t = 0
    · omega
    · have := Nat.le_of_dvd (by omega) this
      omega
theorem outN_lt {a b s : Nat} (ha : 0 < a) (hb : 0 < b) : outN a b s < a * b := by
  unfold outN
  have h1 : (s % a + 1) * b ≤ a * b := Nat.mul_le_mul_right _ (Nat.mod_lt _ ha)
  have h2 := Nat.mod_lt s hb
  rw [Nat.succ_mul] at h1
  omega
/-! ### places marked -/
def marks (f : Nat → Nat) (t : Nat) : List Bool := (List.range 1024).map fun p => (List.range t).any fun s => f s == p
theorem marks_len (f : Nat → Nat) (t : Nat) : (marks f t).length = 1024 := by unfold marks; rw [List.length_map, List.length_range]
theorem marks_at {f : Nat → Nat} {t p : Nat} (h : p < 1024) : (marks f t)[p]? = some ((List.range t).any fun s => f s == p) := by
  unfold marks
  rw [List.getElem?_map, List.getElem?_range h]
  rfl
theorem marks_new {f : Nat → Nat} {t n : Nat} (hn : t < n) (hi : ∀ s t, s < n → t < n → f s = f t → s = t) (h : f t < 1024) : (marks f t)[f t]? = some false := by
  rw [marks_at h]
  congr 1
  rw [List.any_eq_false]
  intro s hs
  have hs' := List.mem_range.1 hs
  have : f s ≠ f t := fun e => by have := hi s t (by omega) hn e; omega
  simp [this]
theorem marks_set {f : Nat → Nat} {t : Nat} (h : f t < 1024) : (marks f t).set (f t) true = marks f (t + 1) := by
  refine List.ext_getElem? fun p => ?_
  by_cases hp : p < 1024
  · rw [List.getElem?_set, marks_at hp, marks_at hp, List.range_succ, List.any_append]
    by_cases c : f t = p
    · rw [if_pos c, if_pos (by rw [marks_len]; exact h)]
      simp [c]
    · rw [if_neg c]
      simp [c]
  · rw [List.getElem?_eq_none (by rw [List.length_set, marks_len]; omega), List.getElem?_eq_none (by rw [marks_len]; omega)]
theorem marks_zero (f : Nat → Nat) : marks f 0 = List.replicate 1024 false := by
  refine List.ext_getElem? fun p => ?_
  by_cases hp : p < 1024
  · rw [marks_at hp, List.getElem?_replicate, if_pos hp]
    rfl
  · rw [List.getElem?_eq_none (by rw [marks_len]; omega), List.getElem?_eq_none (by rw [List.length_replicate]; omega)]
/-! ### no table -/
theorem small_no {a b : Int} (h : ¬ (0 < a ∧ 0 < b)) : coprime_small.f a b = some false := by
  unfold coprime_small.f
  by_cases h1 : a > 0
  · rw [if_pos h1, if_neg (fun h2 => h ⟨h1, h2⟩)]
  · rw [if_neg h1]
theorem no_table {a b : Int} (ha : a ≤ 1048576) (h : tableB a b = false) : Ev (fun k => coprime_In.f k a b) [] ∧ Ev (fun k => coprime_Out.f k a b) [] := by
  by_cases h0 : 0 < a ∧ 0 < b
  · obtain ⟨h1, h2⟩ := h0
    by_cases hs : coprime_small.f a b = some true
    · have hle : a ≤ 1024 / b := by
        have hs' := hs
        unfold coprime_small.f at hs'
        rw [if_pos h1, if_pos h2, if_neg (by omega)] at hs'
        have := of_decide_eq_true (Option.some.inj hs')
        rw [tdiv_pos (by decide)] at this
        have q1 : 0 ≤ (1024 : Int) / b := Int.ediv_nonneg (by decide) (by omega)
        have q2 : (1024 : Int) / b ≤ 1024 := Int.ediv_le_self _ (by decide)
        rw [w64_id _ (by omega) (by omega)] at this
        exact this
      have hab : a * b ≤ 1024 := (Int.le_ediv_iff_mul_le h2).1 hle
      have hb : b ≤ 1024 := by
        have : 1 * b ≤ a * b := Int.mul_le_mul_of_nonneg_right (by omega) (by omega)
        omega
      have ha' : a ≤ 1024 := by
        have : a * 1 ≤ a * b := Int.mul_le_mul_of_nonneg_left (by omega) (by omega)
        omega
      have hf : fitB (a * b) a = false := by
        unfold tableB at h
        rw [decide_eq_true ⟨h1, h2, ha', hb, hab⟩, Bool.true_and] at h
        exact h
      have hpos : 0 ≤ a * b := Int.mul_nonneg (by omega) (by omega)
      have w : wrap64 (a * b) = a * b := w64_id _ (by omega) (by omega)
      have F := fits_ev (n := a * b) (a := a) (by omega)
      rw [hf] at F
      exact ⟨Ev.congr (f := fun k => (some true).bind fun s => if s = true then ((coprime_Fits.f k (a * b) a).bind fun t => if t = true then (if 0 ≤ a * b ∧ a * b ≤ 1024 then coprime_In.l0 k a b (a * b) [] 0 else none) else some []) else some []) (fun k => by unfold coprime_In.f; rw [hs, w]) (evB rfl (evP rfl (Ev.bind F (evN Bool.false_ne_true (Ev.now _))))),
        Ev.congr (f := fun k => (some true).bind fun s => if s = true then ((coprime_Fits.f k (a * b) a).bind fun t => if t = true then coprime_Out.l0 k a b (a * b) [] 0 else some []) else some []) (fun k => by unfold coprime_Out.f; rw [hs, w]) (evB rfl (evP rfl (Ev.bind F (evN Bool.false_ne_true (Ev.now _)))))⟩
    · have hs' : coprime_small.f a b = some false := by
        unfold coprime_small.f at hs ⊢
        rw [if_pos h1, if_pos h2, if_neg (by omega)] at hs ⊢
        revert hs
        cases decide (a ≤ wrap64 (Int.tdiv 1024 b)) <;> simp
      exact ⟨Ev.congr (f := fun _ => some []) (fun k => by unfold coprime_In.f; rw [hs']; rfl) (Ev.now _), Ev.congr (f := fun _ => some []) (fun k => by unfold coprime_Out.f; rw [hs']; rfl) (Ev.now _)⟩
  · have hs' := small_no h0
    exact ⟨Ev.congr (f := fun _ => some []) (fun k => by unfold coprime_In.f; rw [hs']; rfl) (Ev.now _), Ev.congr (f := fun _ => some []) (fun k => by unfold coprime_Out.f; rw [hs']; rfl) (Ev.now _)⟩

end Go.Proofs.Ytlpbfhbfaphicaa.D15
