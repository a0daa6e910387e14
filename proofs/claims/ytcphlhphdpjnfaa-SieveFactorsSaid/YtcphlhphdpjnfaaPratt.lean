/- Plain numbers: primes, orders, Lucas and Pratt. No program in sight. -/
import Derived.Test.YtcphlhphdpjnfaaProg
namespace Go.Proofs.Ytcphlhphdpjnfaa.Num

def Prime (p : Nat) : Prop := 2 ≤ p ∧ ∀ d, d ∣ p → d = 1 ∨ d = p

theorem pigeon : ∀ (n : Nat) (f : Nat → Nat), (∀ i, i < n → f i < n) → (∀ i, i < n → ∀ j, j < n → f i = f j → i = j) → ∀ y, y < n → ∃ i, i < n ∧ f i = y
  | 0, _, _, _, y, hy => absurd hy (Nat.not_lt_zero y)
  | n + 1, f, hb, hi, y, hy => by
    have hv := hb n (Nat.lt_succ_self n)
    have ne : ∀ i, i < n → f i ≠ f n := fun i h e => by have := hi i (by omega) n (by omega) e; omega
    have IH := pigeon n (fun i => if f i = n then f n else f i) (fun i h => by
        show (if f i = n then f n else f i) < n
        split
        · next e => have := ne i h; omega
        · next e => have := hb i (by omega); omega)
      (fun i h j k e => by
        have e : (if f i = n then f n else f i) = (if f j = n then f n else f j) := e
        split at e <;> split at e
        · next a b => exact hi i (by omega) j (by omega) (by omega)
        · exact absurd e.symm (ne j k)
        · exact absurd e (ne i h)
        · exact hi i (by omega) j (by omega) e)
    by_cases h1 : f n = y
    · exact ⟨n, Nat.lt_succ_self n, h1⟩
    by_cases h2 : y = n
    · obtain ⟨i, hin, e⟩ := IH (f n) (by omega)
      have e : (if f i = n then f n else f i) = f n := e
      split at e
      · next a => exact ⟨i, by omega, by omega⟩
      · exact absurd e (ne i hin)
    · obtain ⟨i, hin, e⟩ := IH y (by omega)
      have e : (if f i = n then f n else f i) = y := e
      split at e
      · exact absurd e h1
      · exact ⟨i, by omega, e⟩

theorem least {p : Nat → Prop} : ∀ n, p n → ∃ m, p m ∧ ∀ k, k < m → ¬ p k := by
  intro n
  induction n using Nat.strongRecOn with
  | ind n ih =>
    intro h
    by_cases c : ∃ k, k < n ∧ p k
    · obtain ⟨k, hk, hp⟩ := c; exact ih k hk hp
    · exact ⟨n, h, fun k hk hp => c ⟨k, hk, hp⟩⟩

theorem Prime.euclid {p a b : Nat} (h : Prime p) (d : p ∣ a * b) : p ∣ a ∨ p ∣ b := by
  rcases h.2 (Nat.gcd p a) (Nat.gcd_dvd_left p a) with e | e
  · exact .inr (Nat.Coprime.dvd_of_dvd_mul_left e d)
  · exact .inl (e ▸ Nat.gcd_dvd_right p a)

theorem exists_prime : ∀ n : Nat, 2 ≤ n → ∃ p, Prime p ∧ p ∣ n := by
  intro n
  induction n using Nat.strongRecOn with
  | ind n ih =>
    intro h
    by_cases c : ∃ d, d ∣ n ∧ d ≠ 1 ∧ d ≠ n
    · obtain ⟨d, hd, h1, h2⟩ := c
      have hle := Nat.le_of_dvd (by omega) hd
      have h0 : d ≠ 0 := by rintro rfl; have := Nat.eq_zero_of_zero_dvd hd; omega
      obtain ⟨p, hp, hpd⟩ := ih d (by omega) (by omega)
      exact ⟨p, hp, Nat.dvd_trans hpd hd⟩
    · exact ⟨n, ⟨h, fun d hd => Classical.byContradiction fun e => c ⟨d, hd, fun a => e (.inl a), fun a => e (.inr a)⟩⟩, Nat.dvd_refl n⟩

theorem Prime.dvd_pow {p q : Nat} (h : Prime p) : ∀ e, p ∣ q ^ e → p ∣ q
  | 0, d => by have := Nat.le_of_dvd (by decide : 0 < 1) (by simpa using d); have := h.1; omega
  | e + 1, d => by
    rw [Nat.pow_succ] at d
    rcases h.euclid d with c | c
    · exact h.dvd_pow e c
    · exact c

/-- All factors multiplied. -/
def prod : List (Nat × Nat) → Nat
  | [] => 1
  | f :: l => f.1 ^ f.2 * prod l

theorem Prime.dvd_prod {p : Nat} (h : Prime p) : ∀ l : List (Nat × Nat), p ∣ prod l → ∃ f ∈ l, p ∣ f.1
  | [], d => by have := Nat.le_of_dvd (by decide : 0 < 1) d; have := h.1; omega
  | f :: l, d => by
    rcases h.euclid d with c | c
    · exact ⟨f, List.mem_cons_self, h.dvd_pow _ c⟩
    · obtain ⟨g, hg, hd⟩ := h.dvd_prod l c
      exact ⟨g, List.mem_cons_of_mem _ hg, hd⟩

section
variable {P G : Nat}
theorem pow_mod_one {d : Nat} (h : G ^ d % P = 1) (hP : 2 ≤ P) (q : Nat) : G ^ (d * q) % P = 1 := by
  rw [Nat.pow_mul, Nat.pow_mod, h, Nat.one_pow]
  exact Nat.mod_eq_of_lt (by omega)
theorem pow_mod_add {d : Nat} (h : G ^ d % P = 1) (x : Nat) : G ^ (d + x) % P = G ^ x % P := by
  rw [Nat.pow_add, Nat.mul_mod, h, Nat.one_mul, Nat.mod_mod]

/-- The order divides just the exponents that come to 1. -/
theorem order {d : Nat} (hP : 2 ≤ P) (hd : 0 < d) (h : G ^ d % P = 1) (hm : ∀ k, 0 < k → k < d → G ^ k % P ≠ 1) (x : Nat) : G ^ x % P = 1 ↔ d ∣ x := by
  constructor
  · intro hx
    rw [← Nat.div_add_mod x d, pow_mod_add (pow_mod_one h hP _)] at hx
    refine Nat.dvd_of_mod_eq_zero (Classical.byContradiction fun c => hm _ (by omega) (Nat.mod_lt _ hd) hx)
  · rintro ⟨q, rfl⟩
    exact pow_mod_one h hP q

theorem lucas (hP : 2 ≤ P) (h1 : G ^ (P - 1) % P = 1) (h2 : ∀ q, Prime q → q ∣ P - 1 → G ^ ((P - 1) / q) % P ≠ 1) (x : Nat) : G ^ x % P = 1 ↔ P - 1 ∣ x := by
  obtain ⟨d, ⟨hd, h⟩, hm⟩ := least (p := fun d => 0 < d ∧ G ^ d % P = 1) (P - 1) ⟨by omega, h1⟩
  have ord := order hP hd h (fun k k0 kd e => hm k kd ⟨k0, e⟩)
  have dv := (ord (P - 1)).1 h1
  suffices e : d = P - 1 by rw [← e]; exact ord x
  obtain ⟨c, hc⟩ := dv
  refine Classical.byContradiction fun ne => ?_
  have c2 : 2 ≤ c := by
    have : c ≠ 0 := by rintro rfl; simp at hc; omega
    have : c ≠ 1 := by rintro rfl; simp at hc; omega
    omega
  obtain ⟨q, hq, qc⟩ := exists_prime c c2
  obtain ⟨c', rfl⟩ := qc
  have q2 := hq.1
  refine h2 q hq ⟨d * c', by rw [hc, ← Nat.mul_assoc, Nat.mul_comm d q, Nat.mul_assoc]⟩ ((ord _).2 ⟨c', ?_⟩)
  rw [hc, ← Nat.mul_assoc, Nat.mul_comm d q, Nat.mul_assoc, Nat.mul_div_cancel_left _ (by omega)]

theorem one_le_sub {i : Nat} (h1 : G ^ (P - 1) % P = 1) (hi : i ≤ P - 1) : G ^ i * G ^ (P - 1 - i) % P = 1 := by
  rw [← Nat.pow_add, Nat.add_sub_of_le hi, h1]

theorem surj (hP : 2 ≤ P) (ord : ∀ x, G ^ x % P = 1 ↔ P - 1 ∣ x) {y : Nat} (y0 : 0 < y) (yP : y < P) : ∃ i, i < P - 1 ∧ G ^ i % P = y := by
  have h1 := (ord (P - 1)).2 (Nat.dvd_refl _)
  have nz : ∀ i, i < P - 1 → 0 < G ^ i % P := fun i hi => by
    have := one_le_sub h1 (Nat.le_of_lt hi)
    rw [Nat.mul_mod] at this
    rcases Nat.eq_zero_or_pos (G ^ i % P) with e | e
    · rw [e, Nat.zero_mul, Nat.zero_mod] at this; omega
    · exact e
  have inj : ∀ i, i < P - 1 → ∀ j, j < P - 1 → i ≤ j → G ^ i % P = G ^ j % P → i = j := by
    intro i hi j hj hij e
    have a := one_le_sub h1 (Nat.le_of_lt hi)
    have b : G ^ j * G ^ (P - 1 - i) % P = 1 := by rw [Nat.mul_mod, ← e, ← Nat.mul_mod]; exact a
    rw [← Nat.pow_add, show j + (P - 1 - i) = (P - 1) + (j - i) by omega, pow_mod_add h1] at b
    obtain ⟨c, hc⟩ := (ord _).1 b
    rcases Nat.eq_zero_or_pos c with rfl | hc0
    · simp at hc; omega
    · have : P - 1 ≤ (P - 1) * c := Nat.le_mul_of_pos_right _ hc0
      omega
  obtain ⟨i, hi, e⟩ := pigeon (P - 1) (fun i => G ^ i % P - 1)
    (fun i hi => by have := nz i hi; have := Nat.mod_lt (G ^ i) (show P > 0 by omega); show G ^ i % P - 1 < P - 1; omega)
    (fun i hi j hj e => by
      have e : G ^ i % P - 1 = G ^ j % P - 1 := e
      have := nz i hi; have := nz j hj
      rcases Nat.le_total i j with c | c
      · exact inj i hi j hj c (by omega)
      · exact (inj j hj i hi c (by omega)).symm) (y - 1) (by omega)
  have e : G ^ i % P - 1 = y - 1 := e
  exact ⟨i, hi, by have := nz i hi; omega⟩

theorem unit (hP : 2 ≤ P) (ord : ∀ x, G ^ x % P = 1 ↔ P - 1 ∣ x) {y : Nat} (y0 : 0 < y) (yP : y < P) : ∃ z, y * z % P = 1 := by
  obtain ⟨i, hi, rfl⟩ := surj hP ord y0 yP
  exact ⟨G ^ (P - 1 - i), by rw [Nat.mul_mod, Nat.mod_mod, ← Nat.mul_mod]; exact one_le_sub ((ord _).2 (Nat.dvd_refl _)) (Nat.le_of_lt hi)⟩

theorem prime_of_order (hP : 2 ≤ P) (ord : ∀ x, G ^ x % P = 1 ↔ P - 1 ∣ x) : Prime P := by
  refine ⟨hP, fun d hd => Classical.byContradiction fun c => ?_⟩
  have h0 : d ≠ 0 := by rintro rfl; have := Nat.eq_zero_of_zero_dvd hd; omega
  have hle := Nat.le_of_dvd (by omega) hd
  have h1 : d ≠ 1 := fun e => c (.inl e)
  have h2 : d ≠ P := fun e => c (.inr e)
  obtain ⟨z, hz⟩ := unit hP ord (y := d) (by omega) (by omega)
  have : d ∣ 1 := by
    have a : d ∣ d * z := ⟨z, rfl⟩
    have b := (Nat.dvd_mod_iff hd).2 a
    rwa [hz] at b
  have := Nat.le_of_dvd (by decide) this
  omega

theorem fermat (hP : 2 ≤ P) (ord : ∀ x, G ^ x % P = 1 ↔ P - 1 ∣ x) {a : Nat} (ha : a % P ≠ 0) : a ^ (P - 1) % P = 1 := by
  obtain ⟨i, hi, e⟩ := surj hP ord (y := a % P) (by omega) (Nat.mod_lt _ (by omega))
  rw [Nat.pow_mod, ← e, ← Nat.pow_mod, ← Nat.pow_mul]
  exact (ord _).2 ⟨i, Nat.mul_comm _ _⟩

/-- What the document's proof of a prime proves. -/
theorem pratt (fs : List (Nat × Nat)) (hP : 3 ≤ P) (h1 : G ^ (P - 1) % P = 1) (hp : ∀ f ∈ fs, Prime f.1) (hprod : prod fs = P - 1) (h2 : ∀ f ∈ fs, G ^ ((P - 1) / f.1) % P ≠ 1) (x : Nat) :
    G ^ x % P = 1 ↔ P - 1 ∣ x := by
  refine lucas (by omega) h1 (fun q hq hd => ?_) x
  rw [← hprod] at hd
  obtain ⟨f, hf, hqf⟩ := hq.dvd_prod fs hd
  rcases (hp f hf).2 q hqf with e | e
  · have := hq.1; omega
  · rw [e]; exact h2 f hf
end

theorem Prime.two : Prime 2 := ⟨Nat.le_refl 2, fun d hd => by
  have := Nat.le_of_dvd (by decide) hd
  have h0 : d ≠ 0 := by rintro rfl; exact absurd hd (by decide)
  omega⟩

end Go.Proofs.Ytcphlhphdpjnfaa.Num
