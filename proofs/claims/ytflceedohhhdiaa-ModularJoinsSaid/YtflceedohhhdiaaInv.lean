/- Inverses and joins of layer 2, as printed. -/
import Derived.Test.YtflceedohhhdiaaMod
namespace Go.Proofs.Ytflceedohhhdiaa.XM
open Go Go.RowKit Go.Proofs.YtflceedohhhdiaaW.PrintWords Go.Proofs.YtflceedohhhdiaaW.PrintLast Go.Proofs.YtflceedohhhdiaaW.PrintMore Go.Proofs.Ytflceedohhhdiaa.Given Go.Proofs.Ytflceedohhhdiaa.M

/-- What Inv answers: the inverse, or that there is none. -/
def InvIs (a m : Int) (g : Nat) (R : Int × Bool) : Prop :=
  (g = 1 → R.2 = true ∧ 0 ≤ R.1 ∧ R.1 < m ∧ m ∣ R.1 * a - 1) ∧ (g ≠ 1 → R = (0, false))

theorem dvd_emod_sub (x m : Int) : m ∣ x % m - x := by
  rw [Int.emod_def]
  exact ⟨-(x / m), by rw [Int.mul_neg]; omega⟩

theorem modular_Inv_l0 {a m : Int} (hm : U m) (h2 : 2 ≤ m) (n : Nat) : ∀ (next r : Nat) (t step : Int), next ≤ n → (next : Int) ≤ m → (r : Int) ≤ m → 0 ≤ t → t < m → 0 ≤ step → step < m → m ∣ t * a - r → m ∣ step * a - next →
    ∃ R, Ev (fun k => modular_Inv.l0 k m r next t step) R ∧ InvIs a m (Nat.gcd r next) R := by
  have h : m ≠ 0 := by omega
  induction n using Nat.strongRecOn with
  | _ n ih =>
    intro next r t step hn hnm hrm ht0 ht hs0 hs hd1 hd2
    by_cases hz : next = 0
    · subst hz
      rw [Nat.gcd_zero_right]
      by_cases h1 : r = 1
      · refine ⟨(t, true), stepE ⟨_, fun k => by simp only [modular_Inv.l0]; rw [if_neg (by simp), if_pos (by omega)], Ev.now _⟩, fun _ => ⟨rfl, ht0, ht, ?_⟩, fun hh => absurd h1 hh⟩
        rw [h1] at hd1; exact hd1
      · exact ⟨(0, false), stepE ⟨_, fun k => by simp only [modular_Inv.l0]; rw [if_neg (by simp), if_neg (by omega)], Ev.now _⟩, fun hh => absurd hh h1, fun _ => rfl⟩
    · have hq0 : (0 : Int) ≤ (r : Int) / next := Int.ediv_nonneg (by omega) (by omega)
      have hqle : (r : Int) / next ≤ r := Int.ediv_le_self _ (by omega)
      have hqU : U ((r : Int) / next) := by unfold U at *; omega
      have hsU : U step := by unfold U at *; omega
      have htU : U t := by unfold U at *; omega
      have m1 := modular_Mul_ev hqU hsU hm h
      have m2 := modular_Sub_ev htU (U_emod ((r : Int) / next * step) hm h) hm h
      have hmod : ((r % next : Nat) : Int) = r - (r : Int) / next * next := by
        rw [Int.natCast_emod]
        have := Int.mul_ediv_add_emod (r : Int) next
        rw [Int.mul_comm] at this
        omega
      have hp0 : 0 ≤ (r : Int) / next * next := Int.mul_nonneg hq0 (by omega)
      have hlt : r % next < next := Nat.mod_lt _ (by omega)
      have hw : IntKind.u64.wrap ((r : Int) - IntKind.u64.wrap (IntKind.u64.wrap (Int.tdiv (r : Int) next) * next)) = ((r % next : Nat) : Int) := by
        rw [tdiv_pos (by omega), wu64_id _ hqU.1 hqU.2, wu64_id _ hp0 (by unfold U at hm; omega), wu64_id _ (by omega) (by unfold U at hm; omega)]
        omega
      generalize hq : (r : Int) / next = q at *
      have hdT : m ∣ (t - q * step % m) % m * a - ((r % next : Nat) : Int) := by
        have e1 : m ∣ (t - q * step % m) % m - (t - q * step % m) := dvd_emod_sub _ _
        have e2 : m ∣ q * step % m - q * step := dvd_emod_sub _ _
        have e3 : (t - q * step % m) % m * a - ((r % next : Nat) : Int) = ((t - q * step % m) % m - (t - q * step % m)) * a - (q * step % m - q * step) * a + (t * a - r) - q * (step * a - next) := by
          rw [hmod]
          generalize (t - q * step % m) % m = A
          generalize q * step % m = B
          simp only [Int.sub_mul, Int.mul_sub, Int.mul_assoc]
          omega
        rw [e3]
        exact Int.dvd_sub (Int.dvd_add (Int.dvd_sub (Int.dvd_mul_of_dvd_left e1) (Int.dvd_mul_of_dvd_left e2)) hd1) (Int.dvd_mul_of_dvd_right hd2)
      have hb0 := Int.emod_nonneg (t - q * step % m) h
      have hb1 := Int.emod_lt_of_pos (t - q * step % m) (by omega : 0 < m)
      obtain ⟨R, hR, hI⟩ := ih (r % next) (by omega) (r % next) next step ((t - q * step % m) % m) (Nat.le_refl _) (by omega) hnm hs0 hs hb0 hb1 hd2 hdT
      rw [Nat.gcd_comm, ← Nat.gcd_rec, Nat.gcd_comm] at hI
      refine ⟨R, ?_, hI⟩
      refine stepE ⟨_, fun k => by simp only [modular_Inv.l0]; rw [if_pos (by omega), if_neg (by omega), hw, tdiv_pos (by omega), hq, wu64_id _ hqU.1 hqU.2], ?_⟩
      exact Ev.bind m1 (Ev.bind m2 hR)

theorem modular_Inv_small {a m : Int} (hm : m < 2) : Ev (fun k => modular_Inv.f k a m) (0, false) :=
  Ev.congr (fun k => by unfold modular_Inv.f; rw [if_pos hm]) (Ev.now _)

theorem modular_Inv_ev {a m : Nat} (hm : U m) (h2 : 2 ≤ m) : ∃ R, Ev (fun k => modular_Inv.f k a m) R ∧ InvIs a m (Nat.gcd a m) R := by
  have hlt : a % m < m := Nat.mod_lt _ (by omega)
  obtain ⟨R, hR, hI⟩ := modular_Inv_l0 (a := a) hm (by omega) (a % m) (a % m) m 0 1 (Nat.le_refl _) (by omega) (by omega) (by omega) (by omega) (by omega) (by omega) (by rw [Int.zero_mul, Int.zero_sub]; exact (Int.dvd_neg).2 (Int.dvd_refl _))
    (by rw [Int.one_mul, Int.natCast_emod]; have := (Int.dvd_neg).2 (dvd_emod_sub (a : Int) m); rwa [Int.neg_sub] at this)
  have hg : Nat.gcd m (a % m) = Nat.gcd a m := by rw [Nat.gcd_comm, ← Nat.gcd_rec, Nat.gcd_comm]
  rw [hg] at hI
  refine ⟨R, congrE ⟨_, fun k => by unfold modular_Inv.f; rw [if_neg (by omega), if_neg (by omega), tmod_pos (by omega), ← Int.natCast_emod], hR⟩, hI⟩

theorem emod_of_dvd_sub {x y m : Int} (h : m ∣ x - y) : x % m = y % m := Int.emod_eq_emod_iff_emod_sub_eq_zero.2 (Int.emod_eq_zero_of_dvd h)
theorem dvd_sub_of_emod {x y m : Int} (h : x % m = y % m) : m ∣ x - y := Int.dvd_of_emod_eq_zero (Int.emod_eq_emod_iff_emod_sub_eq_zero.1 h)

/-- Of numbers below a product of coprime ones there is one with two rests. -/
theorem join_unique {a b : Nat} (hc : Nat.gcd a b = 1) {x y : Int} (hx0 : 0 ≤ x) (hx : x < a * b) (hy0 : 0 ≤ y) (hy : y < a * b) (h1 : x % a = y % a) (h2 : x % b = y % b) : x = y := by
  have d1 := dvd_sub_of_emod h1
  have d2 := dvd_sub_of_emod h2
  have n1 := Int.ofNat_dvd_left.1 d1
  have n2 := Int.ofNat_dvd_left.1 d2
  have n3 := Nat.Coprime.mul_dvd_of_dvd_of_dvd hc n1 n2
  have : (x - y).natAbs < a * b := by
    have e : ((a * b : Nat) : Int) = a * b := Int.natCast_mul a b
    omega
  have := Nat.eq_zero_of_dvd_of_lt n3 this
  omega

/-- Join, where there is one. -/
theorem modular_Join_ev {r s : Int} {a b : Nat} (hr : U r) (hs : U s) (ha : a ≠ 0) (hb : b ≠ 0) (hc : Nat.gcd a b = 1) (hab : (a : Int) * b < 18446744073709551616) :
    ∃ x, Ev (fun k => modular_Join.f k r a s b) (x, true) ∧ 0 ≤ x ∧ x < a * b ∧ x % a = r % a ∧ x % b = s % b := by
  have hle1 : (a : Int) ≤ a * b := by
    have := Int.mul_le_mul_of_nonneg_left (by omega : (1 : Int) ≤ b) (by omega : (0 : Int) ≤ a)
    omega
  have hle2 : (b : Int) ≤ a * b := by
    have := Int.mul_le_mul_of_nonneg_right (by omega : (1 : Int) ≤ a) (by omega : (0 : Int) ≤ b)
    omega
  have hUa : U (a : Int) := by unfold U; omega
  have hUb : U (b : Int) := by unfold U; omega
  have hP : U ((a : Int) * b) := by unfold U; omega
  have hP0 : (a : Int) * b ≠ 0 := by omega
  have hb0 : (b : Int) ≠ 0 := by omega
  have ha0 : (a : Int) ≠ 0 := by omega
  have r0 := Int.emod_nonneg r ha0
  have r1 := Int.emod_lt_of_pos r (by omega : (0 : Int) < a)
  have s0 := Int.emod_nonneg s hb0
  have s1 := Int.emod_lt_of_pos s (by omega : (0 : Int) < b)
  -- whatever stands for the inverse, if it is one modulo b
  have core : ∀ inv : Int, U inv → (b : Int) ∣ inv * a - 1 → ∃ x, Ev (fun k => modular_Join.j1 k r a s b (a * b) inv) (x, true) ∧ 0 ≤ x ∧ x < a * b ∧ x % a = r % a ∧ x % b = s % b := by
    intro inv hi hinv
    have e1 := modular_Sub_ev (a := s % b) (b := r % a) (U_emod s hUb hb0) (U_emod r hUa ha0) hUb hb0
    have e2 := modular_Mul_ev (U_emod (s % b - r % a) hUb hb0) hi hUb hb0
    rw [emod_mul_l] at e2
    have c0 := Int.emod_nonneg ((s % b - r % a) * inv) hb0
    have c1 := Int.emod_lt_of_pos ((s % b - r % a) * inv) (by omega : (0 : Int) < b)
    have hcd : (b : Int) ∣ (s % b - r % a) * inv % b - (s % b - r % a) * inv := dvd_emod_sub _ _
    have hU : U ((s % b - r % a) * inv % b) := U_emod _ hUb hb0
    generalize hcc : (s % b - r % a) * inv % b = c at *
    have e3 := modular_Mul_ev hUa hU hP hP0
    have hac0 : 0 ≤ (a : Int) * c := Int.mul_nonneg (by omega) c0
    have hac1 : (a : Int) * c ≤ a * b - a := by
      have := Int.mul_le_mul_of_nonneg_left (by omega : c ≤ b - 1) (by omega : (0 : Int) ≤ a)
      rw [Int.mul_sub, Int.mul_one] at this
      exact this
    rw [Int.emod_eq_of_lt hac0 (by omega)] at e3
    have e4 := modular_Add_ev (U_emod r hUa ha0) (b := (a : Int) * c) (by unfold U; omega) hP hP0
    rw [Int.emod_eq_of_lt (a := r % a + a * c) (b := a * b) (by omega) (by omega)] at e4
    refine ⟨r % a + a * c, ?_, by omega, by omega, ?_, ?_⟩
    · refine stepE ⟨_, fun k => by simp only [modular_Join.j1]; rw [if_neg ha0, if_neg hb0, tmod_pos hr.1, tmod_pos hs.1], ?_⟩
      exact Ev.bind e1 (Ev.bind e2 (Ev.bind e3 (Ev.bind e4 (Ev.now _))))
    · rw [Int.add_mul_emod_self_left, Int.emod_emod]
    · have : (r % a + a * c) % b = (s % b) % b := by
        refine emod_of_dvd_sub ?_
        have e5 : r % a + a * c - s % b = a * (c - (s % b - r % a) * inv) + (s % b - r % a) * (inv * a - 1) := by
          generalize r % (a : Int) = R
          generalize s % (b : Int) = S
          simp only [Int.mul_sub, Int.sub_mul, Int.mul_one]
          rw [show (a : Int) * (S * inv) = S * (inv * a) from by rw [Int.mul_comm, Int.mul_assoc], show (a : Int) * (R * inv) = R * (inv * a) from by rw [Int.mul_comm, Int.mul_assoc]]
          omega
        rw [e5]
        exact Int.dvd_add (Int.dvd_mul_of_dvd_right hcd) (Int.dvd_mul_of_dvd_right hinv)
      rw [this, Int.emod_emod]
  have hmul : ∀ k, modular_Join.f k r a s b = ((modular_Coprime.f k a b).bind fun t => modular_Join.j0 k r a s b (a * b) (!t)) := by
    intro k
    unfold modular_Join.f bits_Mul64.f
    rw [if_pos ⟨hUa.1, hUa.2, hUb.1, hUb.2⟩, Option.bind_some, if_neg (by omega), if_neg (by omega)]
    have : (a : Int) * b % 18446744073709551616 = a * b := Int.emod_eq_of_lt (by omega) hab
    simp only [this]
  by_cases hb1 : b = 1
  · obtain ⟨x, hx, hr4⟩ := core 0 (by unfold U; omega) (by rw [hb1]; exact ⟨0 * a - 1, by simp⟩)
    refine ⟨x, congrE ⟨_, hmul, ?_⟩, hr4⟩
    refine Ev.bind (modular_Coprime_ev a b) ?_
    rw [decide_eq_true hc]
    refine stepE ⟨_, fun k => by simp only [modular_Join.j0]; rw [if_neg (by simp)], ?_⟩
    refine Ev.bind (modular_Inv_small (a := a) (m := b) (by omega)) ?_
    refine congrE ⟨_, fun k => by rw [if_neg (by simp)], hx⟩
  · obtain ⟨R, hR, hI⟩ := modular_Inv_ev (a := a) (m := b) hUb (by omega)
    obtain ⟨i1, i2, i3, i4⟩ := hI.1 hc
    obtain ⟨x, hx, hr4⟩ := core R.1 (by unfold U; omega) i4
    refine ⟨x, congrE ⟨_, hmul, ?_⟩, hr4⟩
    refine Ev.bind (modular_Coprime_ev a b) ?_
    rw [decide_eq_true hc]
    refine stepE ⟨_, fun k => by simp only [modular_Join.j0]; rw [if_neg (by simp)], ?_⟩
    refine Ev.bind hR ?_
    refine congrE ⟨_, fun k => by rw [if_pos i1], hx⟩

theorem modular_Join_none {r s : Int} {a b : Nat} (hUa : U a) (hUb : U b) (h : a = 0 ∨ b = 0 ∨ Nat.gcd a b ≠ 1 ∨ 18446744073709551616 ≤ (a : Int) * b) :
    Ev (fun k => modular_Join.f k r a s b) (0, false) := by
  have j0 : ∀ p : Int, Ev (fun k => modular_Join.j0 k r a s b p true) (0, false) := by
    intro p
    exact stepE ⟨_, fun k => by simp only [modular_Join.j0, if_true], Ev.now _⟩
  have h0 : (0 : Int) ≤ (a : Int) * b := Int.mul_nonneg (by omega) (by omega)
  have hmul : ∀ k, modular_Join.f k r a s b = (if (a : Int) * b / 18446744073709551616 > 0 then (modular_Join.j0 k r a s b (a * b % 18446744073709551616) true) else (if (a : Int) * b % 18446744073709551616 = 0 then (modular_Join.j0 k r a s b (a * b % 18446744073709551616) true) else ((modular_Coprime.f k a b).bind fun t117 => (modular_Join.j0 k r a s b (a * b % 18446744073709551616) (!t117))))) := by
    intro k
    unfold modular_Join.f bits_Mul64.f
    rw [if_pos ⟨hUa.1, hUa.2, hUb.1, hUb.2⟩]
    rfl
  by_cases h1 : (a : Int) * b / 18446744073709551616 > 0
  · exact congrE ⟨_, fun k => by rw [hmul, if_pos h1], j0 _⟩
  · by_cases h2 : (a : Int) * b % 18446744073709551616 = 0
    · exact congrE ⟨_, fun k => by rw [hmul, if_neg h1, if_pos h2], j0 _⟩
    · refine congrE ⟨_, fun k => by rw [hmul, if_neg h1, if_neg h2], ?_⟩
      refine Ev.bind (modular_Coprime_ev a b) ?_
      have hg : Nat.gcd a b ≠ 1 := by
        rcases h with h | h | h | h
        · subst h; simp at h2
        · subst h; simp at h2
        · exact h
        · omega
      rw [decide_eq_false hg]
      exact j0 _

end Go.Proofs.Ytflceedohhhdiaa.XM
