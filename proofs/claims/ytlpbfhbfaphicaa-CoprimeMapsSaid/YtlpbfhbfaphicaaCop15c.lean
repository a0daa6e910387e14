/- Layer 15: the document's Fits; In and Out as lists, in plain words. -/
import Derived.Test.YtlpbfhbfaphicaaCop15b
namespace Go.Proofs.Ytlpbfhbfaphicaa.D15
open Go Go.RowKit Go.Proofs.YtlpbfhbfaphicaaW.PrintWords Go.Proofs.YtlpbfhbfaphicaaW.PrintLast Go.Proofs.YtlpbfhbfaphicaaW.PrintMore Go.Proofs.Ytlpbfhbfaphicaa.M Go.Proofs.Ytlpbfhbfaphicaa.XC Go.Proofs.Ytlpbfhbfaphicaa.XE

set_option linter.unusedVariables false
theorem rfits_l0 {n : Int} {a b : Nat} (ha : 1 ≤ a) (hn0 : 0 ≤ n) (hq : n / (a : Int) = (b : Int)) (hb : b ≤ 1100000) (ha2 : a ≤ 1100000) (d : Nat) : ∀ i : Nat, 2 ≤ i → i + d = a + 1 → (∀ e, 2 ≤ e → e < i → ¬ (e ∣ a ∧ e ∣ b)) →
    Ev (fun k => epicycleref15_Fits.l0 k n (a : Int) (i : Int)) (decide (Nat.gcd a b = 1)) := by
  induction d with
  | zero =>
    intro i h2 hi hv
    have p1 : ¬ (i : Int) ≤ (a : Int) := by omega
    have e : decide (Nat.gcd a b = 1) = true := decide_eq_true (by
      have h0 : 0 < Nat.gcd a b := Nat.gcd_pos_of_pos_left _ ha
      have h1 : Nat.gcd a b ≤ a := Nat.le_of_dvd ha (Nat.gcd_dvd_left a b)
      by_cases c : 2 ≤ Nat.gcd a b
      · exact absurd ⟨Nat.gcd_dvd_left a b, Nat.gcd_dvd_right a b⟩ (hv _ c (by omega))
      · omega)
    rw [e]
    exact stepE ⟨_, fun k => by simp only [epicycleref15_Fits.l0]; rw [if_neg p1], Ev.now _⟩
  | succ d ih =>
    intro i h2 hi hv
    have p1 : (i : Int) ≤ (a : Int) := by omega
    have p2 : ¬ (i : Int) = 0 := by omega
    have p3 : ¬ (a : Int) = 0 := by omega
    have ws : wrap64 ((i : Int) + 1) = ((i + 1 : Nat) : Int) := wrap_succ (by omega)
    have e1 : Int.tmod (a : Int) (i : Int) = ((a % i : Nat) : Int) := by rw [tmod_pos (Int.natCast_nonneg _), Int.natCast_emod]
    have e2 : Int.tmod (wrap64 (Int.tdiv n (a : Int))) (i : Int) = ((b % i : Nat) : Int) := by rw [tdiv_pos hn0, hq, w64_id _ (by omega) (by omega), tmod_pos (Int.natCast_nonneg _), Int.natCast_emod]
    have next : ¬ (i ∣ a ∧ i ∣ b) → Ev (fun k => epicycleref15_Fits.j2 k n (a : Int) (i : Int) false) (decide (Nat.gcd a b = 1)) := fun hc =>
      stepE ⟨_, fun k => by simp only [epicycleref15_Fits.j2]; rw [if_neg Bool.false_ne_true, ws], ih (i + 1) (by omega) (by omega) fun e he hlt => by
        by_cases c : e = i
        · subst c; exact hc
        · exact hv e he (by omega)⟩
    by_cases c1 : a % i = 0
    · have q1 : Int.tmod (a : Int) (i : Int) = 0 := by rw [e1, c1]; rfl
      refine stepE ⟨_, fun k => by simp only [epicycleref15_Fits.l0]; rw [if_pos p1, if_neg p2, if_pos q1, if_neg p3, e2], ?_⟩
      by_cases c2 : b % i = 0
      · rw [c2]
        have e : decide (Nat.gcd a b = 1) = false := decide_eq_false fun h => by
          have := Nat.dvd_gcd (Nat.dvd_of_mod_eq_zero c1) (Nat.dvd_of_mod_eq_zero c2)
          rw [h] at this
          have := Nat.le_of_dvd (by decide) this
          omega
        rw [e]
        exact stepE ⟨_, fun k => by simp only [epicycleref15_Fits.j2]; rw [if_pos (show (((0 : Nat) : Int) == 0) = true from rfl)], Ev.now _⟩
      · have : (((b % i : Nat) : Int) == 0) = false := beq_eq_false_iff_ne.2 (by omega)
        rw [this]
        exact next fun h => c2 (Nat.mod_eq_zero_of_dvd h.2)
    · have q1 : ¬ Int.tmod (a : Int) (i : Int) = 0 := by rw [e1]; omega
      refine stepE ⟨_, fun k => by simp only [epicycleref15_Fits.l0]; rw [if_pos p1, if_neg p2, if_neg q1], ?_⟩
      exact next fun h => c1 (Nat.mod_eq_zero_of_dvd h.1)
theorem rfits_ev {n a : Int} (hn : n ≤ 1100000) : Ev (fun k => epicycleref15_Fits.f k n a) (fitB n a) := by
  have J : Ev (fun k => epicycleref15_Fits.j0 k n a true) false := stepE ⟨_, fun k => by simp only [epicycleref15_Fits.j0]; rw [if_pos trivial], Ev.now _⟩
  by_cases c1 : a ≤ 1
  · have e : fitB n a = false := decide_eq_false fun h => by omega
    rw [e]
    exact Ev.congr (fun k => rfl) (evP c1 J)
  by_cases c2 : a ≥ n
  · have e : fitB n a = false := decide_eq_false fun h => by omega
    rw [e]
    exact Ev.congr (fun k => rfl) (evN c1 (evP c2 J))
  have c3 : ¬ a = 0 := by omega
  have et : Int.tmod n a = n % a := tmod_pos (by omega)
  refine Ev.congr (fun k => rfl) (evN c1 (evN c2 (evN c3 ?_)))
  rw [et]
  by_cases c4 : n % a = 0
  · rw [c4]
    obtain ⟨a', rfl⟩ : ∃ x : Nat, a = x := ⟨a.toNat, by omega⟩
    obtain ⟨b, hb⟩ : ∃ x : Nat, n / (a' : Int) = x := ⟨(n / (a' : Int)).toNat, by have : 0 ≤ n / (a' : Int) := Int.ediv_nonneg (by omega) (by omega); omega⟩
    have q1 : n / (a' : Int) ≤ n := Int.ediv_le_self _ (by omega)
    have e : fitB n (a' : Int) = decide (Nat.gcd a' b = 1) := by
      unfold fitB
      rw [hb, Int.toNat_natCast, Int.toNat_natCast]
      by_cases c : Nat.gcd a' b = 1
      · rw [decide_eq_true ⟨by omega, by omega, c4, c⟩, decide_eq_true c]
      · rw [decide_eq_false (fun h => c h.2.2.2), decide_eq_false c]
    rw [e]
    refine stepE ⟨fun k => epicycleref15_Fits.l0 k n (a' : Int) ((2 : Nat) : Int), fun k => by simp only [epicycleref15_Fits.j0]; rw [if_neg (show ¬ ((0 : Int) != 0) = true by decide)]; rfl, ?_⟩
    exact rfits_l0 (by omega) (by omega) hb (by omega) (by omega) (a' - 1) 2 (by omega) (by omega) fun e h h' => by omega
  · have e : fitB n a = false := decide_eq_false fun h => c4 h.2.2.1
    have e2 : (n % a != 0) = true := bne_iff_ne.2 c4
    rw [e, e2]
    exact J
/-- What fits. -/
theorem fit_nat {n : Nat} {a : Int} (h : fitB (n : Int) a = true) : ∃ x b : Nat, a = x ∧ n = x * b ∧ 2 ≤ x ∧ 2 ≤ b ∧ Nat.Coprime x b := by
  obtain ⟨h1, h2, h3, h4⟩ := of_decide_eq_true h
  obtain ⟨x, rfl⟩ : ∃ x : Nat, a = x := ⟨a.toNat, by omega⟩
  obtain ⟨q, hq⟩ := Int.dvd_of_emod_eq_zero h3
  have hx : (x : Int) ≠ 0 := by omega
  have e1 : (n : Int) / (x : Int) = q := by rw [hq]; exact Int.mul_ediv_cancel_left _ hx
  have q0 : 0 ≤ q := by rw [← e1]; exact Int.ediv_nonneg (Int.natCast_nonneg _) (Int.natCast_nonneg _)
  obtain ⟨b, rfl⟩ : ∃ b : Nat, q = b := ⟨q.toNat, by omega⟩
  have en : n = x * b := by rw [← Int.natCast_mul] at hq; exact Int.ofNat_inj.1 hq
  refine ⟨x, b, rfl, en, by omega, ?_, ?_⟩
  · rcases Nat.lt_or_ge b 2 with c | c
    · have : b = 0 ∨ b = 1 := by omega
      rcases this with rfl | rfl
      · rw [Nat.mul_zero] at en; omega
      · rw [Nat.mul_one] at en; omega
    · exact c
  · rw [e1, Int.toNat_natCast, Int.toNat_natCast] at h4
    exact h4
theorem fit_of {a b : Nat} (ha : 2 ≤ a) (hb : 2 ≤ b) (h : Nat.Coprime a b) : fitB ((a * b : Nat) : Int) (a : Int) = true := by
  have e : ((a * b : Nat) : Int) / (a : Int) = (b : Int) := by rw [Int.natCast_mul]; exact Int.mul_ediv_cancel_left _ (by omega)
  have hlt : a * 1 < a * b := Nat.mul_lt_mul_of_pos_left (by omega) (by omega)
  refine decide_eq_true ⟨by omega, by omega, by rw [Int.natCast_mul]; exact Int.mul_emod_right _ _, ?_⟩
  rw [e, Int.toNat_natCast, Int.toNat_natCast]
  exact h

/-! ### In and Out -/
theorem w64n {x : Nat} (h : x ≤ 1000000000000) : wrap64 (x : Int) = (x : Int) := w64_id _ (by omega) (by omega)
theorem w64N {x : Nat} (h : x ≤ 1000000) : W64 (x : Int) := by unfold W64; omega
def inN (a b t : Nat) : Nat := (b * (t / b) + a * (t % b)) % (a * b)
def inL (a b m : Nat) : List Int := (List.range m).map fun t => ((inN a b t : Nat) : Int)
def outN (a b t : Nat) : Nat := t % a * b + t % b
def outL (a b m : Nat) : List Int := (List.range m).map fun t => ((outN a b t : Nat) : Int)
theorem inL_len (a b m : Nat) : (inL a b m).length = m := by unfold inL; rw [List.length_map, List.length_range]
theorem outL_len (a b m : Nat) : (outL a b m).length = m := by unfold outL; rw [List.length_map, List.length_range]
theorem inN_at {a b i j : Nat} (hj : j < b) : inN a b (i * b + j) = (b * i + a * j) % (a * b) := by
  have h1 : (i * b + j) / b = i := by rw [Nat.mul_comm i b, Nat.mul_add_div (by omega), Nat.div_eq_of_lt hj, Nat.add_zero]
  have h2 : (i * b + j) % b = j := by rw [Nat.mul_comm i b, Nat.mul_add_mod, Nat.mod_eq_of_lt hj]
  unfold inN
  rw [h1, h2]
theorem inL_succ {a b m : Nat} : inL a b (m + 1) = inL a b m ++ [((inN a b m : Nat) : Int)] := by
  unfold inL
  rw [List.range_succ, List.map_append]
  rfl
theorem in_l1 {a b : Nat} (hb : 1 ≤ b) (ht : a * b ≤ 1024) {R : List Int} {i : Nat} (hi : i < a) (E : Ev (fun k => coprime_In.l0 k (a : Int) (b : Int) ((a * b : Nat) : Int) (inL a b ((i + 1) * b)) ((i + 1 : Nat) : Int)) R) (d : Nat) : ∀ j : Nat, j + d = b →
    Ev (fun k => coprime_In.l1 k (a : Int) (b : Int) ((a * b : Nat) : Int) (inL a b (i * b + j)) (i : Int) (j : Int)) R := by
  have hib : i * b + b ≤ a * b := by rw [← Nat.succ_mul]; exact Nat.mul_le_mul_right _ hi
  have hia : i ≤ 1024 := by
    have : i * 1 ≤ i * b := Nat.mul_le_mul_left _ hb
    omega
  induction d with
  | zero =>
    intro j hj
    obtain rfl : j = b := by omega
    have ws : wrap64 ((i : Int) + 1) = ((i + 1 : Nat) : Int) := wrap_succ (by omega)
    refine stepE ⟨_, fun k => by simp only [coprime_In.l1]; rw [if_neg (by omega), ws], ?_⟩
    rw [← Nat.succ_mul]
    exact E
  | succ d ih =>
    intro j hj
    have hjb : j < b := by omega
    have p1 : (j : Int) < (b : Int) := by omega
    have p2 : ¬ ((a * b : Nat) : Int) = 0 := by omega
    have haj : a * j ≤ a * b := Nat.mul_le_mul_left _ (by omega)
    have hbi : b * i ≤ a * b := by rw [Nat.mul_comm]; omega
    have hbj : j ≤ b := by omega
    have hb' : b ≤ 1024 := by omega
    have p3 : (inL a b (i * b + j)).length < 17592186044416 := by rw [inL_len]; omega
    have ws : wrap64 ((j : Int) + 1) = ((j + 1 : Nat) : Int) := wrap_succ (by omega)
    have e : Int.tmod (wrap64 (wrap64 ((b : Int) * (i : Int)) + wrap64 ((a : Int) * (j : Int)))) ((a * b : Nat) : Int) = ((inN a b (i * b + j) : Nat) : Int) := by
      rw [inN_at hjb, ← Int.natCast_mul, ← Int.natCast_mul, w64n (by omega), w64n (by omega), ← Int.natCast_add, w64n (by omega), tmod_pos (Int.natCast_nonneg _), Int.natCast_emod]
    refine stepE ⟨_, fun k => by simp only [coprime_In.l1]; rw [if_pos p1, if_neg p2, if_pos p3, e, ws], ?_⟩
    have := ih (j + 1) (by omega)
    rw [← Nat.add_assoc, inL_succ] at this
    exact this
theorem in_l0 {a b : Nat} (hb : 1 ≤ b) (ht : a * b ≤ 1024) (d : Nat) : ∀ i : Nat, i + d = a → Ev (fun k => coprime_In.l0 k (a : Int) (b : Int) ((a * b : Nat) : Int) (inL a b (i * b)) (i : Int)) (inL a b (a * b)) := by
  induction d with
  | zero =>
    intro i hi
    obtain rfl : i = a := by omega
    exact stepE ⟨_, fun k => by simp only [coprime_In.l0]; rw [if_neg (by omega)], Ev.now _⟩
  | succ d ih =>
    intro i hi
    have p1 : (i : Int) < (a : Int) := by omega
    refine stepE ⟨_, fun k => by simp only [coprime_In.l0]; rw [if_pos p1], ?_⟩
    exact in_l1 hb ht (by omega) (ih (i + 1) (by omega)) b 0 (by omega)
theorem small_at {a b : Nat} (ha : 2 ≤ a) (hb : 2 ≤ b) (ht : a * b ≤ 1024) : coprime_small.f (a : Int) (b : Int) = some true := by
  have h1 : a * 2 ≤ a * b := Nat.mul_le_mul_left _ hb
  have h2 : 2 * b ≤ a * b := Nat.mul_le_mul_right _ ha
  have e : wrap64 (Int.tdiv (1024 : Int) (b : Int)) = ((1024 / b : Nat) : Int) := by
    rw [tdiv_pos (by decide), show (1024 : Int) = ((1024 : Nat) : Int) from rfl, ← Int.natCast_ediv]
    exact w64n (by have := Nat.div_le_self 1024 b; omega)
  unfold coprime_small.f
  rw [if_pos (by omega), if_pos (by omega), if_neg (by omega), e, decide_eq_true]
  have : a ≤ 1024 / b := (Nat.le_div_iff_mul_le (by omega)).2 ht
  omega
theorem in_ev {a b : Nat} (ha : 2 ≤ a) (hb : 2 ≤ b) (h : Nat.Coprime a b) (ht : a * b ≤ 1024) : Ev (fun k => coprime_In.f k (a : Int) (b : Int)) (inL a b (a * b)) := by
  have w : wrap64 ((a : Int) * (b : Int)) = ((a * b : Nat) : Int) := by rw [← Int.natCast_mul]; exact w64n (by omega)
  have F := fits_ev (n := ((a * b : Nat) : Int)) (a := (a : Int)) (by omega)
  rw [fit_of ha hb h] at F
  refine Ev.congr (f := fun k => (some true).bind fun s => if s = true then ((coprime_Fits.f k ((a * b : Nat) : Int) (a : Int)).bind fun t => if t = true then (if 0 ≤ ((a * b : Nat) : Int) ∧ ((a * b : Nat) : Int) ≤ 1024 then coprime_In.l0 k (a : Int) (b : Int) ((a * b : Nat) : Int) [] 0 else none) else some []) else some []) (fun k => by unfold coprime_In.f; rw [small_at ha hb ht, w]) (evB rfl (evP rfl (Ev.bind F (evP rfl (evP ⟨Int.natCast_nonneg _, by omega⟩ ?_)))))
  have := in_l0 (a := a) (b := b) (by omega) ht a 0 (by omega)
  rw [Nat.zero_mul] at this
  exact this

/-- What the map holds after so many steps. -/
def MapOk (b : Nat) (M : List (Int × Int × Int)) (m : Nat) : Prop := M.length = m ∧ ∀ i j : Nat, j < b → i * b + j < m → lookM M (i : Int) (j : Int) = ((i * b + j : Nat) : Int)
theorem out_l1 {a b : Nat} (hb : 1 ≤ b) (ht : a * b ≤ 1024) {R : List Int} {i : Nat} (hi : i < a) (E : ∀ M, MapOk b M ((i + 1) * b) → Ev (fun k => coprime_Out.l0 k (a : Int) (b : Int) ((a * b : Nat) : Int) M ((i + 1 : Nat) : Int)) R) (d : Nat) : ∀ (j : Nat) (M : List (Int × Int × Int)), j + d = b → MapOk b M (i * b + j) →
    Ev (fun k => coprime_Out.l1 k (a : Int) (b : Int) ((a * b : Nat) : Int) M (i : Int) (j : Int)) R := by
  have hib : i * b + b ≤ a * b := by rw [← Nat.succ_mul]; exact Nat.mul_le_mul_right _ hi
  have hia : i ≤ 1024 := by
    have : i * 1 ≤ i * b := Nat.mul_le_mul_left _ hb
    omega
  induction d with
  | zero =>
    intro j M hj hM
    obtain rfl : j = b := by omega
    have ws : wrap64 ((i : Int) + 1) = ((i + 1 : Nat) : Int) := wrap_succ (by omega)
    refine stepE ⟨_, fun k => by simp only [coprime_Out.l1]; rw [if_neg (by omega), ws], ?_⟩
    exact E M (by rw [Nat.succ_mul]; exact hM)
  | succ d ih =>
    intro j M hj hM
    have hjb : j < b := by omega
    have j1 : j + 1 + d = b := by omega
    have p1 : (j : Int) < (b : Int) := by omega
    have hb' : b ≤ 1024 := by omega
    have p3 : M.length < 17592186044416 ∧ W64 (i : Int) ∧ W64 (j : Int) := ⟨by rw [hM.1]; omega, w64N (by omega), w64N (by omega)⟩
    have e : wrap64 (wrap64 ((i : Int) * (b : Int)) + (j : Int)) = ((i * b + j : Nat) : Int) := by
      rw [← Int.natCast_mul, w64n (by omega), ← Int.natCast_add, w64n (by omega)]
    have j2 : j ≤ 1000000000 := by clear e p3; omega
    have ws : wrap64 ((j : Int) + 1) = ((j + 1 : Nat) : Int) := wrap_succ j2
    refine stepE ⟨_, fun k => by simp only [coprime_Out.l1]; rw [if_pos p1, if_pos p3, e, ws], ?_⟩
    refine ih (j + 1) _ j1 ⟨by rw [List.length_cons, hM.1]; rfl, fun i' j' hj' hlt => ?_⟩
    clear ws e p3
    show (if (i : Int) = (i' : Int) ∧ (j : Int) = (j' : Int) then ((i * b + j : Nat) : Int) else lookM M (i' : Int) (j' : Int)) = _
    by_cases c : i' * b + j' = i * b + j
    · have h1 : i' = i := by
        have e1 : (i' * b + j') / b = i' := by rw [Nat.mul_comm i' b, Nat.mul_add_div (by omega), Nat.div_eq_of_lt hj', Nat.add_zero]
        have e2 : (i * b + j) / b = i := by rw [Nat.mul_comm i b, Nat.mul_add_div (by omega), Nat.div_eq_of_lt hjb, Nat.add_zero]
        rw [← e1, ← e2, c]
      subst h1
      have h2 : j' = j := Nat.add_left_cancel c
      subst h2
      rw [if_pos ⟨rfl, rfl⟩]
    · rw [if_neg fun h => c (by
        have h1 := Int.ofNat_inj.1 h.1
        have h2 := Int.ofNat_inj.1 h.2
        rw [h1, h2])]
      exact hM.2 i' j' hj' (Nat.lt_of_le_of_ne (Nat.le_of_lt_succ hlt) c)
theorem out_l2 {a b : Nat} (ha : 1 ≤ a) (hb : 1 ≤ b) (ht : a * b ≤ 1024) {M : List (Int × Int × Int)} (hM : MapOk b M (a * b)) (d : Nat) : ∀ (t : Nat) (y : List Int), t + d = a * b → y.length = a * b → (∀ s : Nat, s < t → rd y (s : Int) = ((outN a b s : Nat) : Int)) →
    Ev (fun k => coprime_Out.l2 k (a : Int) (b : Int) ((a * b : Nat) : Int) M y (t : Int)) (outL a b (a * b)) := by
  induction d with
  | zero =>
    intro t y hy hl hv
    obtain rfl : t = a * b := by omega
    have e : y = outL a b (a * b) := list_ext (by rw [hl, outL_len]) fun s hs => by
      rw [outL_len] at hs
      rw [hv s hs]
      show _ = rd ((List.range (a * b)).map fun t => ((outN a b t : Nat) : Int)) (s : Int)
      rw [rd_map_range hs]
    rw [e]
    exact stepE ⟨_, fun k => by simp only [coprime_Out.l2]; rw [if_neg (by omega)], Ev.now _⟩
  | succ d ih =>
    intro t y hy hl hv
    have hlt : t < a * b := by omega
    have t1 : t + 1 + d = a * b := by omega
    have p1 : (t : Int) < ((a * b : Nat) : Int) := by omega
    have ea : Int.tmod (t : Int) (a : Int) = ((t % a : Nat) : Int) := by rw [tmod_pos (Int.natCast_nonneg _), Int.natCast_emod]
    have eb : Int.tmod (t : Int) (b : Int) = ((t % b : Nat) : Int) := by rw [tmod_pos (Int.natCast_nonneg _), Int.natCast_emod]
    have la : t % a < a := Nat.mod_lt _ ha
    have lb : t % b < b := Nat.mod_lt _ hb
    have ha' : a * 1 ≤ a * b := Nat.mul_le_mul_left _ hb
    have hb' : 1 * b ≤ a * b := Nat.mul_le_mul_right _ ha
    have p2 : ((a : Int) ≠ 0 ∧ (b : Int) ≠ 0) ∧ (0 ≤ (t : Int) ∧ (t : Int) < (y.length : Int)) ∧ W64 ((t % a : Nat) : Int) ∧ W64 ((t % b : Nat) : Int) := ⟨⟨by omega, by omega⟩, ⟨by omega, by omega⟩, w64N (by omega), w64N (by omega)⟩
    have ws : wrap64 ((t : Int) + 1) = ((t + 1 : Nat) : Int) := wrap_succ (by omega)
    have hin : t % a * b + t % b < a * b := by
      have : t % a * b + b ≤ a * b := by rw [← Nat.succ_mul]; exact Nat.mul_le_mul_right _ la
      omega
    have el : lookM M ((t % a : Nat) : Int) ((t % b : Nat) : Int) = ((outN a b t : Nat) : Int) := hM.2 _ _ lb hin
    refine stepE ⟨_, fun k => by simp only [coprime_Out.l2]; rw [if_pos p1, ea, eb, if_pos p2, el, Int.toNat_natCast, ws], ?_⟩
    refine ih (t + 1) _ t1 (by rw [List.length_set]; exact hl) fun s hs => ?_
    clear ws el p2 ea eb
    by_cases c : s = t
    · subst c
      exact rd_set _ (by rw [hl]; exact hlt)
    · rw [rd_set_ne _ fun e => c e.symm]
      exact hv s (Nat.lt_of_le_of_ne (Nat.le_of_lt_succ hs) c)
theorem out_l0 {a b : Nat} (ha : 1 ≤ a) (hb : 1 ≤ b) (ht : a * b ≤ 1024) (d : Nat) : ∀ (i : Nat) (M : List (Int × Int × Int)), i + d = a → MapOk b M (i * b) → Ev (fun k => coprime_Out.l0 k (a : Int) (b : Int) ((a * b : Nat) : Int) M (i : Int)) (outL a b (a * b)) := by
  induction d with
  | zero =>
    intro i M hi hM
    obtain rfl : i = a := by omega
    have p : 0 ≤ ((i * b : Nat) : Int) ∧ ((i * b : Nat) : Int) ≤ 1024 := ⟨by omega, by omega⟩
    refine stepE ⟨_, fun k => by simp only [coprime_Out.l0]; rw [if_neg (by omega), if_pos p, Int.toNat_natCast], ?_⟩
    exact out_l2 ha hb ht hM (i * b) 0 _ (by omega) List.length_replicate fun s hs => by omega
  | succ d ih =>
    intro i M hi hM
    have p1 : (i : Int) < (a : Int) := by omega
    refine stepE ⟨_, fun k => by simp only [coprime_Out.l0]; rw [if_pos p1], ?_⟩
    exact out_l1 hb ht (by omega) (fun M' h => ih (i + 1) M' (by omega) h) b 0 M (by omega) hM
theorem out_ev {a b : Nat} (ha : 2 ≤ a) (hb : 2 ≤ b) (h : Nat.Coprime a b) (ht : a * b ≤ 1024) : Ev (fun k => coprime_Out.f k (a : Int) (b : Int)) (outL a b (a * b)) := by
  have w : wrap64 ((a : Int) * (b : Int)) = ((a * b : Nat) : Int) := by rw [← Int.natCast_mul]; exact w64n (by omega)
  have F := fits_ev (n := ((a * b : Nat) : Int)) (a := (a : Int)) (by omega)
  rw [fit_of ha hb h] at F
  refine Ev.congr (f := fun k => (some true).bind fun s => if s = true then ((coprime_Fits.f k ((a * b : Nat) : Int) (a : Int)).bind fun t => if t = true then coprime_Out.l0 k (a : Int) (b : Int) ((a * b : Nat) : Int) [] 0 else some []) else some []) (fun k => by unfold coprime_Out.f; rw [small_at ha hb ht, w]) (evB rfl (evP rfl (Ev.bind F (evP rfl ?_))))
  exact out_l0 (by omega) (by omega) ht a 0 [] (by omega) ⟨by rw [Nat.zero_mul]; rfl, fun i j _ h => by omega⟩

end Go.Proofs.Ytlpbfhbfaphicaa.D15
