/- Plain numbers: every prime has a primitive root; Fermat of every prime. No program in sight. -/
import Derived.Test.YtcphlhphdpjnfaaPratt
namespace Go.Proofs.Ytcphlhphdpjnfaa.Num
/-! ### a primitive root of every prime -/
theorem strip (d : Nat) (hd : 2 ≤ d) (n : Nat) (hn : 0 < n) : ∃ e m, n = d ^ e * m ∧ ¬ d ∣ m ∧ 0 < m ∧ e ≤ n ∧ m ≤ n := by
  induction n using Nat.strongRecOn with
  | ind n ih =>
    by_cases h : d ∣ n
    · obtain ⟨c, rfl⟩ := h
      have c0 : 0 < c := Nat.pos_of_mul_pos_left hn
      have lt : c < d * c := by
        have := Nat.mul_le_mul_right c hd
        omega
      obtain ⟨e, m, h1, h2, h3, h4, h5⟩ := ih c lt c0
      refine ⟨e + 1, m, ?_, h2, h3, by omega, by omega⟩
      rw [Nat.pow_succ, Nat.mul_comm (d ^ e) d, Nat.mul_assoc, ← h1]
    · exact ⟨0, n, by simp, h, hn, Nat.zero_le _, Nat.le_refl n⟩

def IsOrd (P a d : Nat) : Prop := 0 < d ∧ ∀ x, a ^ x % P = 1 ↔ d ∣ x

theorem mod_one {P x : Nat} (hP : 2 ≤ P) (hx : 1 ≤ x) (h : P ∣ x - 1) : x % P = 1 := by
  obtain ⟨c, hc⟩ := h
  have : x = 1 + P * c := by omega
  rw [this, Nat.add_mul_mod_self_left]
  exact Nat.mod_eq_of_lt (by omega)

theorem pow_pos_of {P a : Nat} (_hp : Prime P) (ha : ¬ P ∣ a) (e : Nat) : 1 ≤ a ^ e := by
  refine Nat.pow_pos (Nat.pos_of_ne_zero ?_)
  rintro rfl
  exact ha (Nat.dvd_zero P)

theorem cancel_one {P a i j : Nat} (hp : Prime P) (ha : ¬ P ∣ a) (hij : i ≤ j) (e : a ^ i % P = a ^ j % P) : a ^ (j - i) % P = 1 := by
  have h : P ∣ a ^ j - a ^ i := Nat.dvd_of_mod_eq_zero (Nat.sub_mod_eq_zero_of_mod_eq e.symm)
  have h2 : a ^ j - a ^ i = a ^ i * (a ^ (j - i) - 1) := by
    rw [Nat.mul_sub, Nat.mul_one, ← Nat.pow_add, Nat.add_sub_of_le hij]
  rw [h2] at h
  rcases hp.euclid h with c | c
  · exact absurd (hp.dvd_pow _ c) ha
  · exact mod_one hp.1 (pow_pos_of hp ha _) c

theorem mod_pos_of {P a : Nat} (hp : Prime P) (ha : ¬ P ∣ a) (i : Nat) : 0 < a ^ i % P := by
  refine Nat.pos_of_ne_zero fun e => ha (hp.dvd_pow i (Nat.dvd_of_mod_eq_zero e))

theorem exists_rep {P a : Nat} (hp : Prime P) (ha : ¬ P ∣ a) : ∃ i j, i < j ∧ j ≤ P - 1 ∧ a ^ i % P = a ^ j % P := by
  refine Classical.byContradiction fun c => ?_
  have hP := hp.1
  have inj : ∀ i j, i < j → j ≤ P - 1 → a ^ i % P ≠ a ^ j % P := fun i j hi hj e => c ⟨i, j, hi, hj, e⟩
  have lt : ∀ i, a ^ i % P < P := fun i => Nat.mod_lt _ (by omega)
  have pos := mod_pos_of hp ha
  obtain ⟨i, hi, e⟩ := pigeon (P - 1) (fun i => a ^ i % P - 1) (fun i _ => by
      have := lt i; have := pos i
      show a ^ i % P - 1 < P - 1
      omega) (fun i hi j hj e => by
      have e : a ^ i % P - 1 = a ^ j % P - 1 := e
      have := pos i; have := pos j
      rcases Nat.lt_trichotomy i j with h | h | h
      · exact absurd (by omega) (inj i j h (by omega))
      · exact h
      · exact absurd (by omega) (inj j i h (by omega))) (a ^ (P - 1) % P - 1) (by have := lt (P - 1); have := pos (P - 1); omega)
  have e : a ^ i % P - 1 = a ^ (P - 1) % P - 1 := e
  have := pos i; have := pos (P - 1)
  exact inj i (P - 1) hi (Nat.le_refl _) (by omega)

theorem exists_ord {P a : Nat} (hp : Prime P) (ha : ¬ P ∣ a) : ∃ d, IsOrd P a d ∧ d ≤ P - 1 := by
  obtain ⟨i, j, hij, hj, e⟩ := exists_rep hp ha
  have h := cancel_one hp ha (Nat.le_of_lt hij) e
  obtain ⟨d, ⟨hd, h1⟩, hm⟩ := least (p := fun d => 0 < d ∧ a ^ d % P = 1) (j - i) ⟨by omega, h⟩
  refine ⟨d, ⟨hd, order hp.1 hd h1 fun k k0 kd e => hm k kd ⟨k0, e⟩⟩, ?_⟩
  refine Nat.le_of_not_lt fun c => hm (j - i) (by omega) ⟨by omega, h⟩

theorem ord_le {P a d : Nat} (hp : Prime P) (ha : ¬ P ∣ a) (h : IsOrd P a d) : d ≤ P - 1 := by
  obtain ⟨e, he, hl⟩ := exists_ord hp ha
  have := (h.2 e).1 ((he.2 e).2 (Nat.dvd_refl e))
  have := Nat.le_of_dvd he.1 this
  omega

/-- A power's order, where it divides. -/
theorem ord_pow {P a c d : Nat} (h : IsOrd P a (c * d)) : IsOrd P (a ^ c) d := by
  have h0 : 0 < c ∧ 0 < d := by
    have := h.1
    exact ⟨Nat.pos_of_mul_pos_right this, Nat.pos_of_mul_pos_left this⟩
  refine ⟨h0.2, fun x => ?_⟩
  rw [← Nat.pow_mul, h.2]
  exact Nat.mul_dvd_mul_iff_left h0.1

theorem pow_one_mod {P b : Nat} (hP : 2 ≤ P) (h : b % P = 1) (x : Nat) : b ^ x % P = 1 := by
  rw [Nat.pow_mod, h, Nat.one_pow]
  exact Nat.mod_eq_of_lt (by omega)

/-- A product's order, of coprime ones. -/
theorem ord_mul {P a b m n : Nat} (hP : 2 ≤ P) (ha : IsOrd P a m) (hb : IsOrd P b n) (hc : Nat.Coprime m n) : IsOrd P (a * b) (m * n) := by
  refine ⟨Nat.mul_pos ha.1 hb.1, fun x => ⟨fun h => ?_, ?_⟩⟩
  · have am : ∀ y, a ^ (m * y) % P = 1 := fun y => (ha.2 _).2 ⟨y, rfl⟩
    have bn : ∀ y, b ^ (n * y) % P = 1 := fun y => (hb.2 _).2 ⟨y, rfl⟩
    have h1 : m ∣ n * x := by
      refine (ha.2 _).1 ?_
      have := pow_one_mod hP h n
      rw [← Nat.pow_mul, Nat.mul_comm x n, Nat.mul_pow, Nat.mul_mod, bn, Nat.mul_one, Nat.mod_mod] at this
      exact this
    have h2 : n ∣ m * x := by
      refine (hb.2 _).1 ?_
      have := pow_one_mod hP h m
      rw [← Nat.pow_mul, Nat.mul_comm x m, Nat.mul_pow, Nat.mul_mod, am, Nat.one_mul, Nat.mod_mod] at this
      exact this
    exact Nat.Coprime.mul_dvd_of_dvd_of_dvd hc (Nat.Coprime.dvd_of_dvd_mul_left hc h1) (Nat.Coprime.dvd_of_dvd_mul_left hc.symm h2)
  · rintro ⟨y, rfl⟩
    rw [Nat.mul_pow, Nat.mul_mod, (ha.2 _).2 ⟨n * y, Nat.mul_assoc _ _ _⟩, (hb.2 _).2 ⟨m * y, by rw [← Nat.mul_assoc, Nat.mul_comm m n]⟩]
    exact Nat.mod_eq_of_lt (by omega)

theorem Prime.coprime_pow {p m : Nat} (h : Prime p) (hm : ¬ p ∣ m) (e : Nat) : Nat.Coprime m (p ^ e) := by
  refine (Nat.Coprime.pow_left e ?_).symm
  rcases h.2 (Nat.gcd p m) (Nat.gcd_dvd_left p m) with c | c
  · exact c
  · exact absurd (c ▸ Nat.gcd_dvd_right p m) hm

/-- Where one order doesn't divide the other, there is a greater one. -/
theorem ord_more {P a b m n : Nat} (hp : Prime P) (ha : IsOrd P a m) (hb : IsOrd P b n) (hn : ¬ n ∣ m) : ∃ c d, IsOrd P c d ∧ m < d ∧ (¬ P ∣ a → ¬ P ∣ b → ¬ P ∣ c) := by
  have n0 := hb.1
  have g0 : 0 < Nat.gcd n m := Nat.gcd_pos_of_pos_left m n0
  obtain ⟨t, ht⟩ := Nat.gcd_dvd_left n m
  have t2 : 2 ≤ t := by
    have h0 : t ≠ 0 := by rintro rfl; rw [Nat.mul_zero] at ht; omega
    have h1 : t ≠ 1 := by
      rintro rfl
      rw [Nat.mul_one] at ht
      exact hn (ht ▸ Nat.gcd_dvd_right n m)
    omega
  obtain ⟨q, hq, qt⟩ := exists_prime t t2
  obtain ⟨e, n', hn', hnq, _⟩ := strip q hq.1 n n0
  obtain ⟨f, m', hm', hmq, m0, _⟩ := strip q hq.1 m ha.1
  have q0 : 0 < q := by have := hq.1; omega
  have ef : f < e := by
    refine Nat.lt_of_not_le fun c => hnq ?_
    have h1 : q ^ e ∣ Nat.gcd n m := Nat.dvd_gcd ⟨n', hn'⟩ (by
      rw [hm']
      exact Nat.dvd_trans (Nat.pow_dvd_pow q c) ⟨m', rfl⟩)
    obtain ⟨g', hg'⟩ := h1
    rw [hg', Nat.mul_assoc] at ht
    have h2 : n' = g' * t := Nat.eq_of_mul_eq_mul_left (Nat.pow_pos q0 : 0 < q ^ e) (by rw [← hn', ← ht])
    rw [h2]
    exact Nat.dvd_trans qt ⟨g', Nat.mul_comm _ _⟩
  have ha' : IsOrd P (a ^ q ^ f) m' := ord_pow (hm' ▸ ha)
  have hb' : IsOrd P (b ^ n') (q ^ e) := ord_pow (by rw [Nat.mul_comm n', ← hn']; exact hb)
  refine ⟨_, _, ord_mul hp.1 ha' hb' (hq.coprime_pow hmq e), ?_, ?_⟩
  · have : q ^ f < q ^ e := Nat.pow_lt_pow_right (by have := hq.1; omega) ef
    have := Nat.mul_lt_mul_of_pos_right this m0
    rw [Nat.mul_comm m' (q ^ e)]
    omega
  · intro h1 h2 h3
    rcases hp.euclid h3 with c | c
    · exact h1 (hp.dvd_pow _ c)
    · exact h2 (hp.dvd_pow _ c)

/-- Polynomials whose first coefficient is 1. -/
def Poly : Nat → (Int → Int) → Prop
  | 0, f => ∀ x, f x = 1
  | n + 1, f => ∃ g c, Poly n g ∧ ∀ x, f x = x * g x + c

theorem Poly.add : ∀ (n : Nat) (g q : Int → Int) (r : Int), Poly (n + 1) g → Poly n q → Poly (n + 1) (fun x => g x + r * q x)
  | 0, g, q, r, ⟨h, c, h0, e⟩, hq => ⟨h, c + r, h0, fun x => by
      show g x + r * q x = _
      rw [e, hq x]; grind⟩
  | n + 1, g, q, r, ⟨h, c, h0, e⟩, ⟨q1, c1, h1, e1⟩ => ⟨_, c + r * c1, Poly.add n h q1 r h0 h1, fun x => by
      show g x + r * q x = _
      rw [e, e1]; grind⟩

theorem Poly.div : ∀ (n : Nat) (f : Int → Int) (r : Int), Poly (n + 1) f → ∃ q, Poly n q ∧ ∀ x, f x - f r = (x - r) * q x
  | 0, f, r, ⟨g, c, h0, e⟩ => ⟨g, h0, fun x => by rw [e, e, h0 x, h0 r]; grind⟩
  | n + 1, f, r, ⟨g, c, h0, e⟩ => by
    obtain ⟨q, hq, eq⟩ := Poly.div n g r h0
    refine ⟨_, Poly.add n g q r h0 hq, fun x => ?_⟩
    have := eq x
    rw [e, e]
    have h : g x = g r + (x - r) * q x := by omega
    rw [h]; grind

theorem Prime.int {p : Nat} (h : Prime p) {a b : Int} (d : (p : Int) ∣ a * b) : (p : Int) ∣ a ∨ (p : Int) ∣ b := by
  have := Int.natAbs_dvd_natAbs.2 d
  rw [Int.natAbs_mul, Int.natAbs_natCast] at this
  rcases h.euclid this with c | c
  · exact .inl (Int.natAbs_dvd_natAbs.1 (by rwa [Int.natAbs_natCast]))
  · exact .inr (Int.natAbs_dvd_natAbs.1 (by rwa [Int.natAbs_natCast]))

/-- A polynomial has no more roots than its degree. -/
theorem Poly.roots {P : Nat} (hp : Prime P) : ∀ (n : Nat) (f : Int → Int) (lo : Nat), Poly n f → lo ≤ P → (∀ s : Nat, lo ≤ s → s < P → (P : Int) ∣ f s) → P - lo ≤ n
  | 0, f, lo, h, hlo, hr => by
    refine Nat.le_of_not_lt fun c => ?_
    have := hr lo (Nat.le_refl _) (by omega)
    rw [h] at this
    have h1 : P ∣ 1 := Int.natCast_dvd_natCast.1 this
    have h2 : P ≤ 1 := Nat.le_of_dvd (by decide) h1
    have hP := hp.1
    omega
  | n + 1, f, lo, h, hlo, hr => by
    rcases Nat.lt_or_ge lo P with hl | hl
    · obtain ⟨q, hq, e⟩ := Poly.div n f lo h
      have := Poly.roots hp n q (lo + 1) hq (by omega) (fun s h1 h2 => by
        have d : (P : Int) ∣ f s - f lo := Int.dvd_sub (hr s (by omega) h2) (hr lo (Nat.le_refl _) hl)
        rw [e] at d
        rcases hp.int d with c | c
        · have : (s : Int) - lo = ((s - lo : Nat) : Int) := by omega
          rw [this] at c
          have := Nat.le_of_dvd (by omega) (Int.natCast_dvd_natCast.1 c)
          omega
        · exact c)
      omega
    · omega

theorem Poly.pow : ∀ n : Nat, Poly (n + 1) (fun x => x ^ (n + 1) - 1)
  | 0 => ⟨fun _ => 1, -1, fun _ => rfl, fun x => by show x ^ 1 - 1 = x * 1 + -1; rw [Int.pow_succ, Int.pow_zero]; omega⟩
  | n + 1 => by
    have h : ∀ n : Nat, Poly n (fun x : Int => x ^ n) := by
      intro n
      induction n with
      | zero => exact fun x => Int.pow_zero x
      | succ n ih => exact ⟨_, 0, ih, fun x => by show x ^ (n + 1) = x * x ^ n + 0; rw [Int.pow_succ, Int.mul_comm, Int.add_zero]⟩
    exact ⟨_, -1, h (n + 1), fun x => by show x ^ (n + 1 + 1) - 1 = x * x ^ (n + 1) + -1; rw [Int.pow_succ, Int.mul_comm]; omega⟩

/-- EVERY PRIME HAS A PRIMITIVE ROOT. -/
theorem exists_root {P : Nat} (hp : Prime P) : ∃ g, 0 < g ∧ g < P ∧ ∀ x, g ^ x % P = 1 ↔ P - 1 ∣ x := by
  have hP := hp.1
  have one : ¬ P ∣ 1 := fun d => by have := Nat.le_of_dvd (by decide) d; omega
  obtain ⟨d1, o1, _⟩ := exists_ord hp one
  obtain ⟨k, ⟨a, d, ha, ho, hk⟩, hm⟩ := least (p := fun k => ∃ a d, ¬ P ∣ a ∧ IsOrd P a d ∧ k = P - d) _ ⟨1, d1, one, o1, rfl⟩
  have dle := ord_le hp ha ho
  have all : ∀ b, ¬ P ∣ b → b ^ d % P = 1 := by
    intro b hb
    obtain ⟨n, hn, nle⟩ := exists_ord hp hb
    refine (hn.2 d).2 (Classical.byContradiction fun c => ?_)
    obtain ⟨x, y, hy, lt, hx⟩ := ord_more hp ho hn c
    have hx := hx ha hb
    have := ord_le hp hx hy
    exact hm (P - y) (by omega) ⟨x, y, hx, hy, rfl⟩
  obtain ⟨d', rfl⟩ : ∃ d', d = d' + 1 := ⟨d - 1, by have := ho.1; omega⟩
  have r := Poly.roots hp (d' + 1) _ 1 (Poly.pow d') (by omega) (fun s h1 h2 => by
    have ns : ¬ P ∣ s := fun c => by have := Nat.le_of_dvd (by omega) c; omega
    have h := all s ns
    have pos := pow_pos_of hp ns (d' + 1)
    have : P ∣ s ^ (d' + 1) - 1 := Nat.dvd_of_mod_eq_zero (Nat.sub_mod_eq_zero_of_mod_eq (by rw [h, Nat.mod_eq_of_lt (by omega)]))
    have := Int.natCast_dvd_natCast.2 this
    rw [Int.natCast_sub pos, Int.natCast_pow] at this
    exact this)
  have e : d' + 1 = P - 1 := by omega
  refine ⟨a % P, Nat.pos_of_ne_zero fun e => ha (Nat.dvd_of_mod_eq_zero e), Nat.mod_lt _ (by omega), fun x => ?_⟩
  rw [← e, ← Nat.pow_mod]
  exact ho.2 x

/-- Fermat, of every prime. -/
theorem Prime.fermat {P a : Nat} (hp : Prime P) (ha : a % P ≠ 0) : a ^ (P - 1) % P = 1 := by
  obtain ⟨g, _, _, ho⟩ := exists_root hp
  exact Num.fermat hp.1 ho ha

end Go.Proofs.Ytcphlhphdpjnfaa.Num
