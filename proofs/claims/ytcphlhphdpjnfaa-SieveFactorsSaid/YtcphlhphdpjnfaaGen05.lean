/- Layer 5: the least primitive root, the program's and the document's; alive. -/
import Derived.Test.YtcphlhphdpjnfaaPrim05
import Derived.Test.YtcphlhphdpjnfaaXS5
namespace Go.Proofs.Ytcphlhphdpjnfaa.XS
open Go Go.RowKit Go.Proofs.YtcphlhphdpjnfaaW.PrintWords Go.Proofs.YtcphlhphdpjnfaaW.PrintLast Go.Proofs.YtcphlhphdpjnfaaW.PrintMore Go.Proofs.Ytcphlhphdpjnfaa.Given Go.Proofs.Ytcphlhphdpjnfaa.Given05 Go.Proofs.Ytcphlhphdpjnfaa.M Go.Proofs.Ytcphlhphdpjnfaa.Num

/-- All powers of g: just those with p - 1 in the exponent are 1. -/
def Full (p g : Nat) : Prop := ∀ x, g ^ x % p = 1 ↔ p - 1 ∣ x

theorem bad_eq (p g q : Nat) (e : Int) (hp : 1 ≤ p) : bad (p : Int) (g : Int) ⟨(q : Int), e⟩ = decide (g ^ ((p - 1) / q) % p = 1) := by
  have h1 : (((p : Int) - 1) / (q : Int)).toNat = (p - 1) / q := by
    rw [show (p : Int) - 1 = ((p - 1 : Nat) : Int) by omega, ← Int.natCast_ediv, Int.toNat_natCast]
  unfold bad
  show ((g : Int) ^ (((p : Int) - 1) / (q : Int)).toNat % (p : Int) == 1) = _
  rw [h1, ← Int.natCast_pow, ← Int.natCast_emod, Bool.eq_iff_iff, beq_iff_eq, decide_eq_true_eq]
  omega

/-- No bad factor: all powers. -/
theorem any_bad {p g : Nat} {l : List (Nat × Nat)} (hp : Prime p) (h3 : 3 ≤ p) (hl : Facs 2 (p - 1) l) (g0 : 0 < g) (gp : g < p) : (m33 l).any (bad (p : Int) (g : Int)) = false ↔ Full p g := by
  have hf : g ^ (p - 1) % p = 1 := hp.fermat (by rw [Nat.mod_eq_of_lt gp]; omega)
  rw [← Bool.not_eq_true, List.any_eq_true]
  constructor
  · intro h x
    refine lucas hp.1 hf (fun q hq hd e => h ?_) x
    rw [← hl.2.2] at hd
    obtain ⟨f, hfl, hqf⟩ := hq.dvd_prod l hd
    have : q = f.1 := by
      rcases (hl.1 f hfl).1.2 q hqf with c | c
      · have := hq.1; omega
      · exact c
    subst this
    refine ⟨_, List.mem_map.2 ⟨f, hfl, rfl⟩, ?_⟩
    rw [bad_eq p g f.1 _ (by omega), decide_eq_true e]
  · intro h hx
    obtain ⟨y, hy, hb⟩ := hx
    obtain ⟨f, hfl, rfl⟩ := List.mem_map.1 hy
    rw [bad_eq p g f.1 _ (by omega), decide_eq_true_eq] at hb
    have d := (h _).1 hb
    have q2 := (hl.1 f hfl).1.1
    have dv := hl.le (by omega) hfl
    have h1 := Nat.div_lt_self (show 0 < p - 1 by omega) (show 1 < f.1 by omega)
    have h2 := Nat.div_pos (Nat.le_of_dvd (by omega) dv) (show 0 < f.1 by omega)
    have := Nat.le_of_dvd h2 d
    omega

theorem search_ev {p r : Nat} {l : List (Nat × Nat)} (hp : Prime p) (h3 : 3 ≤ p) (hb : p ≤ 65536) (hl : Facs 2 (p - 1) l) (r2 : 2 ≤ r) (rp : r < p) (hr : Full p r) (hm : ∀ g, 2 ≤ g → g < r → ¬ Full p g) (M : Nat) :
    ∀ g : Nat, r - g ≤ M → 2 ≤ g → g ≤ r → Ev (fun k => search (m33 l) (p : Int) k (g : Int)) (r : Int) := by
  have ok : ∀ g : Nat, g ≤ r → okS (p : Int) (g : Int) (m33 l) := fun g hg => by
    refine ⟨⟨by omega, by omega⟩, ⟨by omega, by omega⟩, fun x hx => ?_⟩
    obtain ⟨f, hf, rfl⟩ := List.mem_map.1 hx
    have h1 := (hl.1 f hf).1.1
    have h2 := Nat.le_of_dvd (by omega) (hl.le (by omega) hf)
    refine ⟨?_, ?_, ?_⟩
    · show (1 : Int) ≤ (f.1 : Int); omega
    · show (0 : Int) ≤ (f.1 : Int); omega
    · show (f.1 : Int) < 18446744073709551616; omega
  induction M with
  | zero =>
    intro g hg g2 gr
    have : g = r := by omega
    subst this
    have h := (any_bad hp h3 hl (by omega) rp).2 hr
    refine Ev.step (f := fun _ => some (g : Int)) (fun k => ?_) (Ev.now _)
    simp only [search]
    rw [if_pos (ok g gr), if_neg (by rw [h]; exact Bool.false_ne_true)]
  | succ M ih =>
    intro g hg g2 gr
    rcases Nat.lt_or_ge g r with c | c
    · have h : (m33 l).any (bad (p : Int) (g : Int)) = true := by
        rw [← Bool.not_eq_false]
        exact fun h => hm g g2 c ((any_bad hp h3 hl (by omega) (by omega)).1 h)
      refine Ev.step (fun k => ?_) (ih (g + 1) (by omega) (by omega) (by omega))
      simp only [search]
      rw [if_pos (ok g gr), if_pos h]
      rfl
    · have : g = r := by omega
      subst this
      have h := (any_bad hp h3 hl (by omega) rp).2 hr
      refine Ev.step (f := fun _ => some (g : Int)) (fun k => ?_) (Ev.now _)
      simp only [search]
      rw [if_pos (ok g gr), if_neg (by rw [h]; exact Bool.false_ne_true)]

/-- The least one. -/
def Least (p r : Nat) : Prop := 2 ≤ r ∧ r < p ∧ Full p r ∧ ∀ g, 2 ≤ g → g < r → ¬ Full p g

theorem exists_least {p : Nat} (hp : Prime p) (h3 : 3 ≤ p) : ∃ r, Least p r := by
  obtain ⟨g, g0, gp, hg⟩ := exists_root hp
  have g2 : 2 ≤ g := by
    refine Nat.le_of_not_lt fun c => ?_
    have : g = 1 := by omega
    subst this
    have := Nat.le_of_dvd (by decide) ((hg 1).1 (by rw [Nat.one_pow]; exact Nat.mod_eq_of_lt (by omega)))
    omega
  obtain ⟨r, ⟨r2, hr⟩, hm⟩ := least (p := fun g => 2 ≤ g ∧ Full p g) g ⟨g2, hg⟩
  refine ⟨r, r2, ?_, hr, fun x h1 h2 h => hm x h2 ⟨h1, h⟩⟩
  refine Nat.lt_of_le_of_lt (Nat.le_of_not_lt fun c => hm g c ⟨g2, hg⟩) gp

open Classical in
theorem Generator_odd {p r : Nat} (hp : OddP (p : Int)) (hr : Least p r) : Ev (fun k => sieve_Generator.f k (p : Int)) (r : Int) := by
  have hpp : Prime p := hp.2.2
  have b1 := hp.1
  have b2 := hp.2.1
  obtain ⟨l, hl, L, _⟩ := Factor_both (p - 1) (by omega) (by omega)
  have hw : IntKind.u64.wrap ((p : Int) - 1) = ((p - 1 : Nat) : Int) := by rw [wu64_id _ (by omega) (by omega)]; omega
  have O := odd_ev (p : Int)
  rw [decide_eq_true hp] at O
  refine Ev.congr (fun k => rfl) (Ev.bind O (evP rfl ?_))
  rw [hw]
  exact Ev.bind L (search_ev hpp (by omega) (by omega) hl hr.1 hr.2.1 hr.2.2.1 hr.2.2.2 r 2 (by omega) (by omega) hr.1)

open Classical in
theorem Generator_not {x : Int} (h : ¬ OddP x) : Ev (fun k => sieve_Generator.f k x) 0 := by
  have O := odd_ev x
  rw [decide_eq_false h] at O
  exact Ev.congr (fun k => rfl) (Ev.bind O (evN (by decide) (Ev.now _)))

/-! #### the document's -/
theorem order_l0 {p g d : Nat} (hP : 2 ≤ p) (hb : p ≤ 65536) (gp : g < p) (h1 : g ^ d % p = 1) (hm : ∀ k, 0 < k → k < d → g ^ k % p ≠ 1) (hd : d < 65536) (M : Nat) :
    ∀ n : Nat, d - n ≤ M → 1 ≤ n → n ≤ d → Ev (fun k => epicycleref05_Order.l0 k (g : Int) (p : Int) (n : Int) ((g ^ n % p : Nat) : Int)) (d : Int) := by
  induction M with
  | zero =>
    intro n hn n1 nd
    have : n = d := by omega
    subst this
    refine Ev.step (f := fun _ => some (n : Int)) (fun k => ?_) (Ev.now _)
    simp only [epicycleref05_Order.l0]
    rw [h1, if_pos (by omega)]
  | succ M ih =>
    intro n hn n1 nd
    rcases Nat.lt_or_ge n d with c | c
    · have h := hm n n1 c
      have lt : g ^ n % p < p := Nat.mod_lt _ (by omega)
      have e : g ^ n % p * g % p = g ^ (n + 1) % p := by rw [Nat.pow_succ, Nat.mod_mul_mod]
      have IH := ih (n + 1) (by omega) (by omega) (by omega)
      rw [← e] at IH
      generalize g ^ n % p = x at *
      have hx : x * g ≤ 65536 * 65536 := Nat.mul_le_mul (by omega) (by omega)
      have hw : IntKind.u64.wrap ((x : Int) * (g : Int)) = ((x * g : Nat) : Int) := by rw [← Int.natCast_mul]; exact wu64_id _ (by omega) (by omega)
      have hw2 : IntKind.u64.wrap ((n : Int) + 1) = ((n + 1 : Nat) : Int) := by rw [wu64_id _ (by omega) (by omega)]; rfl
      have ht : Int.tmod ((x * g : Nat) : Int) (p : Int) = ((x * g % p : Nat) : Int) := by rw [tmod_pos (by omega), Int.natCast_emod]
      refine Ev.step (fun k => ?_) IH
      simp only [epicycleref05_Order.l0]
      rw [if_neg (by omega), if_neg (by omega), hw, hw2, ht]
    · have : n = d := by omega
      subst this
      refine Ev.step (f := fun _ => some (n : Int)) (fun k => ?_) (Ev.now _)
      simp only [epicycleref05_Order.l0]
      rw [h1, if_pos (by omega)]

theorem Order_ev {p g d : Nat} (hp : Prime p) (hb : p ≤ 65536) (g0 : 0 < g) (gp : g < p) (h : IsOrd p g d) : Ev (fun k => epicycleref05_Order.f k (g : Int) (p : Int)) (d : Int) := by
  have hP := hp.1
  have nd : ¬ p ∣ g := fun c => by have := Nat.le_of_dvd g0 c; omega
  have hd := ord_le hp nd h
  have d0 := h.1
  have h1 := (h.2 d).2 (Nat.dvd_refl d)
  have hm : ∀ k, 0 < k → k < d → g ^ k % p ≠ 1 := fun k k0 kd e => by have := Nat.le_of_dvd k0 ((h.2 k).1 e); omega
  have L := order_l0 hP hb gp h1 hm (by omega) d 1 (by omega) (by omega) (by omega)
  rw [Nat.pow_one] at L
  refine Ev.congr (fun k => ?_) L
  simp only [epicycleref05_Order.f]
  rw [if_neg (by omega), tmod_pos (by omega), ← Int.natCast_emod]
  rfl

theorem full_iff {p g d : Nat} (h : IsOrd p g d) : d = p - 1 ↔ Full p g := by
  constructor
  · rintro rfl; exact h.2
  · intro f
    have a := (f d).1 ((h.2 d).2 (Nat.dvd_refl d))
    have b := (h.2 (p - 1)).1 ((f (p - 1)).2 (Nat.dvd_refl _))
    exact Nat.dvd_antisymm b a

theorem rgen_l0 {p r : Nat} (hp : Prime p) (h3 : 3 ≤ p) (hb : p ≤ 65536) (hr : Least p r) (M : Nat) :
    ∀ g : Nat, r - g ≤ M → 2 ≤ g → g ≤ r → Ev (fun k => epicycleref05_Generator.l0 k (p : Int) (g : Int)) (r : Int) := by
  have hw : IntKind.u64.wrap ((p : Int) - 1) = ((p - 1 : Nat) : Int) := by rw [wu64_id _ (by omega) (by omega)]; omega
  obtain ⟨r2, rp, hfull, hmin⟩ := hr
  have last : Ev (fun k => epicycleref05_Generator.l0 k (p : Int) (r : Int)) (r : Int) := by
    have nd : ¬ p ∣ r := fun c => by have := Nat.le_of_dvd (by omega) c; omega
    obtain ⟨d, ho, hd⟩ := exists_ord hp nd
    have e := (full_iff ho).2 hfull
    refine Ev.step (f := fun k => if (r : Int) < (p : Int) then ((epicycleref05_Order.f k (r : Int) (p : Int)).bind fun t161 => (if t161 = (IntKind.u64.wrap ((p : Int) - 1)) then (some (r : Int)) else (epicycleref05_Generator.l0 k (p : Int) (IntKind.u64.wrap ((r : Int) + 1))))) else (some 0)) (fun k => by simp only [epicycleref05_Generator.l0]) ?_
    refine evP (by omega) (Ev.bind (Order_ev hp hb (by omega) rp ho) (evP ?_ (Ev.now _)))
    rw [hw, e]
  induction M with
  | zero =>
    intro g hg g2 gr
    have : g = r := by omega
    subst this
    exact last
  | succ M ih =>
    intro g hg g2 gr
    rcases Nat.lt_or_ge g r with c | c
    · have nd : ¬ p ∣ g := fun c => by have := Nat.le_of_dvd (by omega) c; omega
      obtain ⟨d, ho, hd⟩ := exists_ord hp nd
      have ne : ¬ d = p - 1 := fun e => hmin g g2 c ((full_iff ho).1 e)
      have IH := ih (g + 1) (by omega) (by omega) (by omega)
      have hw2 : IntKind.u64.wrap ((g : Int) + 1) = ((g + 1 : Nat) : Int) := by rw [wu64_id _ (by omega) (by omega)]; rfl
      refine Ev.step (f := fun k => if (g : Int) < (p : Int) then ((epicycleref05_Order.f k (g : Int) (p : Int)).bind fun t161 => (if t161 = (IntKind.u64.wrap ((p : Int) - 1)) then (some (g : Int)) else (epicycleref05_Generator.l0 k (p : Int) (IntKind.u64.wrap ((g : Int) + 1))))) else (some 0)) (fun k => by simp only [epicycleref05_Generator.l0]) ?_
      refine evP (by omega) (Ev.bind (Order_ev hp hb (by omega) (by omega) ho) (evN ?_ ?_))
      · rw [hw]; omega
      · rw [hw2]; exact IH
    · have : g = r := by omega
      subst this
      exact last

open Classical in
theorem rOdd_ev (x : Int) : Ev (fun k => epicycleref05_Odd.f k x) (decide (OddP x)) := by
  by_cases h1 : 2 < x
  · by_cases h2 : x ≤ 65536
    · have e : decide (OddP x) = decide (PrimeI x) := by
        rw [Bool.eq_iff_iff]; simp only [decide_eq_true_eq]
        exact ⟨fun h => ⟨by omega, h.2.2⟩, fun h => ⟨h1, h2, h.2⟩⟩
      rw [e]
      exact Ev.congr (fun k => rfl) (evP h1 (evP h2 (Ev.bind (rPrime_ev x) (Ev.now _))))
    · rw [decide_eq_false (fun h => h2 h.2.1)]
      exact Ev.congr (fun k => rfl) (evP h1 (evN h2 (Ev.now _)))
  · rw [decide_eq_false (fun h => h1 h.1)]
    exact Ev.congr (fun k => rfl) (evN h1 (Ev.now _))

open Classical in
theorem rGenerator_odd {p r : Nat} (hp : OddP (p : Int)) (hr : Least p r) : Ev (fun k => epicycleref05_Generator.f k (p : Int)) (r : Int) := by
  have hpp : Prime p := hp.2.2
  have b1 := hp.1
  have b2 := hp.2.1
  have O := rOdd_ev (p : Int)
  rw [decide_eq_true hp] at O
  exact Ev.congr (fun k => rfl) (Ev.bind O (evP rfl (rgen_l0 hpp (by omega) (by omega) hr r 2 (by omega) (by omega) hr.1)))

open Classical in
theorem rGenerator_not {x : Int} (h : ¬ OddP x) : Ev (fun k => epicycleref05_Generator.f k x) 0 := by
  have O := rOdd_ev x
  rw [decide_eq_false h] at O
  exact Ev.congr (fun k => rfl) (Ev.bind O (evN (by decide) (Ev.now _)))

/-! #### alive -/
def primeB (n : Nat) : Bool := decide (2 ≤ n) && (List.range n).all fun d => decide (d < 2) || decide (n % d ≠ 0)

theorem primeB_iff (n : Nat) : primeB n = true ↔ Prime n := by
  unfold primeB
  rw [Bool.and_eq_true, decide_eq_true_eq, List.all_eq_true]
  constructor
  · rintro ⟨h2, h⟩
    refine ⟨h2, fun d hd => Classical.byContradiction fun c => ?_⟩
    have hle := Nat.le_of_dvd (by omega) hd
    have d0 : d ≠ 0 := by rintro rfl; have := Nat.eq_zero_of_zero_dvd hd; omega
    have := h d (List.mem_range.2 (by omega))
    rw [Bool.or_eq_true, decide_eq_true_eq, decide_eq_true_eq] at this
    rcases this with e | e
    · omega
    · exact e (Nat.mod_eq_zero_of_dvd hd)
  · intro h
    refine ⟨h.1, fun d hd => ?_⟩
    rw [List.mem_range] at hd
    rw [Bool.or_eq_true, decide_eq_true_eq, decide_eq_true_eq]
    rcases Nat.lt_or_ge d 2 with c | c
    · exact .inl c
    · refine .inr fun e => ?_
      rcases h.2 d (Nat.dvd_of_mod_eq_zero e) with x | x <;> omega

open Classical in
theorem plist_eq (n : Nat) : plist n = ((List.range n).filter primeB).map Int.ofNat := by
  unfold plist
  congr 2
  funext j
  rw [Bool.eq_iff_iff, decide_eq_true_eq, primeB_iff]

theorem least7 : Least 7 3 := by
  refine ⟨by omega, by omega, order (by omega) (by omega) (by decide) (fun k k0 k6 => ?_), fun g g2 g3 hf => ?_⟩
  · have : k = 1 ∨ k = 2 ∨ k = 3 ∨ k = 4 ∨ k = 5 := by omega
    rcases this with rfl | rfl | rfl | rfl | rfl <;> decide
  · have : g = 2 := by omega
    subst this
    have := (hf 3).1 (by decide)
    have := Nat.le_of_dvd (by decide) this
    omega

open Classical in
theorem alive_ev : Ev (fun k => epicyclelaw05_alive.f k) true := by
  have P := Primes_ev 10
  have e : plist (upTo 10 + 1) = [2, 3, 5, 7] := by rw [plist_eq]; decide
  rw [e] at P
  have p7 : OddP ((7 : Nat) : Int) := ⟨by decide, by decide, (primeB_iff 7).1 (by decide)⟩
  have G := Generator_odd p7 least7
  have Q := sPrime_ev 97
  have q97 : PrimeI 97 := ⟨by decide, (primeB_iff 97).1 (by decide)⟩
  rw [decide_eq_true q97] at Q
  refine Ev.congr (fun k => rfl) (Ev.bind P ?_)
  refine evP (by decide) (evP (by decide) (evP (by decide) (evP (by decide) (evP (by decide) (Ev.bind G (evP (by decide) (Ev.bind Q (Ev.now _))))))))

end Go.Proofs.Ytcphlhphdpjnfaa.XS
