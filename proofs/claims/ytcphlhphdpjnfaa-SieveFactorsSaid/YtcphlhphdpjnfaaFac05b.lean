/- Layer 5: the factors by trials: what both find. -/
import Derived.Test.YtcphlhphdpjnfaaFacEv05
namespace Go.Proofs.Ytcphlhphdpjnfaa.XS
open Go Go.RowKit Go.Proofs.YtcphlhphdpjnfaaW.PrintWords Go.Proofs.YtcphlhphdpjnfaaW.PrintLast Go.Proofs.YtcphlhphdpjnfaaW.PrintMore Go.Proofs.Ytcphlhphdpjnfaa.Given Go.Proofs.Ytcphlhphdpjnfaa.M Go.Proofs.Ytcphlhphdpjnfaa.Num

/-- What the factors' list is. -/
def Facs (d n : Nat) (l : List (Nat × Nat)) : Prop := (∀ x ∈ l, Prime x.1 ∧ d ≤ x.1 ∧ 1 ≤ x.2) ∧ l.Pairwise (fun x y => x.1 < y.1) ∧ prod l = n

theorem prime_of_trials {n d : Nat} (hn : 2 ≤ n) (hd : n < d * d) (h : ∀ c, 2 ≤ c → c < d → ¬ c ∣ n) : Prime n := by
  refine ⟨hn, fun c hc => Classical.byContradiction fun ne => ?_⟩
  obtain ⟨e, he⟩ := hc
  have c0 : c ≠ 0 := by rintro rfl; simp at he; omega
  have e0 : e ≠ 0 := by rintro rfl; simp at he; omega
  have c1 : c ≠ 1 := fun x => ne (.inl x)
  have e1 : e ≠ 1 := by rintro rfl; exact ne (.inr (by omega))
  have hcd : ¬ c < d := fun x => h c (by omega) x ⟨e, he⟩
  have hed : ¬ e < d := fun x => h e (by omega) x ⟨c, by rw [he, Nat.mul_comm]⟩
  have := Nat.mul_le_mul (Nat.le_of_not_lt hcd) (Nat.le_of_not_lt hed)
  omega

theorem prime_of_least {n d : Nat} (hd : 2 ≤ d) (hdn : d ∣ n) (h : ∀ c, 2 ≤ c → c < d → ¬ c ∣ n) : Prime d := by
  refine ⟨hd, fun c hc => Classical.byContradiction fun ne => ?_⟩
  have hle := Nat.le_of_dvd (by omega) hc
  have c0 : c ≠ 0 := by rintro rfl; have := Nat.eq_zero_of_zero_dvd hc; omega
  exact h c (by omega) (by omega) (Nat.dvd_trans hc hdn)

theorem fac_done {acc : List S33} {d : Int} : Ev (fun k => sieve_Factor.l0 k 1 acc d) acc := by
  refine Ev.step (f := fun _ => some acc) (fun k => ?_) (Ev.now _)
  simp only [sieve_Factor.l0]
  rw [if_neg (by omega)]

theorem rfac_done {acc : List S34} {d : Int} (hd : 2 ≤ d) (h2 : d ≤ 65537) : Ev (fun k => epicycleref05_Factor.l0 k 1 acc d) acc := by
  refine Ev.step (f := fun _ => some acc) (fun k => ?_) (Ev.now _)
  simp only [epicycleref05_Factor.l0]
  have h1 : d * d ≤ 65537 * 65537 := Int.mul_le_mul h2 h2 (by omega) (by omega)
  have h3 : 2 * 2 ≤ d * d := Int.mul_le_mul hd hd (by omega) (by omega)
  generalize d * d = x at *
  rw [wu64_id _ (by omega) (by omega), if_neg (by omega), if_neg (by omega)]

theorem fac_go {acc : List S33} {n d : Nat} {R : List S33} (hn : 2 ≤ n) (h2 : d ≤ 65537)
    (E : Ev (fun k => sieve_Factor.l1 k (n : Int) acc ((if n < d * d then n else d : Nat) : Int) 0) R) : Ev (fun k => sieve_Factor.l0 k (n : Int) acc (d : Int)) R := by
  have h1 : d * d ≤ 65537 * 65537 := Nat.mul_le_mul h2 h2
  have hw : IntKind.u64.wrap ((d : Int) * d) = ((d * d : Nat) : Int) := by
    rw [← Int.natCast_mul]; exact wu64_id _ (by omega) (by omega)
  by_cases c : n < d * d
  · rw [if_pos c] at E
    refine Ev.step (f := fun k => sieve_Factor.j2 k (n : Int) acc (n : Int)) (fun k => ?_) (Ev.step (fun k => ?_) E)
    · simp only [sieve_Factor.l0]
      rw [if_pos (by omega), hw, if_pos (by omega)]
    · simp only [sieve_Factor.j2]
  · rw [if_neg c] at E
    refine Ev.step (f := fun k => sieve_Factor.j2 k (n : Int) acc (d : Int)) (fun k => ?_) (Ev.step (fun k => ?_) E)
    · simp only [sieve_Factor.l0]
      rw [if_pos (by omega), hw, if_neg (by omega)]
    · simp only [sieve_Factor.j2]

theorem rfac_go {acc : List S34} {n d : Nat} {R : List S34} (h2 : d ≤ 65537) (c : d * d ≤ n)
    (E : Ev (fun k => epicycleref05_Factor.l1 k (n : Int) acc (d : Int) 0) R) : Ev (fun k => epicycleref05_Factor.l0 k (n : Int) acc (d : Int)) R := by
  have h1 : d * d ≤ 65537 * 65537 := Nat.mul_le_mul h2 h2
  have hw : IntKind.u64.wrap ((d : Int) * d) = ((d * d : Nat) : Int) := by
    rw [← Int.natCast_mul]; exact wu64_id _ (by omega) (by omega)
  refine Ev.step (fun k => ?_) E
  simp only [epicycleref05_Factor.l0]
  rw [hw, if_pos (by omega)]

theorem rfac_last {acc : List S34} {n d : Nat} (h2 : d ≤ 65537) (hn : 2 ≤ n) (c : n < d * d) (hacc : acc.length < 8796093022208) :
    Ev (fun k => epicycleref05_Factor.l0 k (n : Int) acc (d : Int)) (acc ++ [⟨(n : Int), 1⟩]) := by
  have h1 : d * d ≤ 65537 * 65537 := Nat.mul_le_mul h2 h2
  have hw : IntKind.u64.wrap ((d : Int) * d) = ((d * d : Nat) : Int) := by
    rw [← Int.natCast_mul]; exact wu64_id _ (by omega) (by omega)
  refine Ev.step (f := fun _ => some (acc ++ [⟨(n : Int), 1⟩])) (fun k => ?_) (Ev.now _)
  simp only [epicycleref05_Factor.l0]
  rw [hw, if_neg (by omega), if_pos (by omega), if_pos hacc]

theorem fac_both (M : Nat) : ∀ n d : Nat, 65538 - d ≤ M → 1 ≤ n → n ≤ 4294967296 → 2 ≤ d → d ≤ 65537 → (∀ c, 2 ≤ c → c < d → ¬ c ∣ n) →
    ∃ l : List (Nat × Nat), Facs d n l ∧ (∀ acc : List S33, acc.length ≤ d → Ev (fun k => sieve_Factor.l0 k (n : Int) acc (d : Int)) (acc ++ m33 l)) ∧
      (∀ acc : List S34, acc.length ≤ d → Ev (fun k => epicycleref05_Factor.l0 k (n : Int) acc (d : Int)) (acc ++ m34 l)) := by
  induction M with
  | zero => intro n d h1 _ _ _ h2; omega
  | succ M ih =>
    intro n d hM n1 hn d2 hd hno
    rcases Nat.lt_or_ge n 2 with n2 | n2
    · have : n = 1 := by omega
      subst this
      refine ⟨[], ⟨by simp, List.Pairwise.nil, rfl⟩, fun acc _ => ?_, fun acc _ => ?_⟩
      · rw [show m33 [] = [] from rfl, List.append_nil]; exact fac_done
      · rw [show m34 [] = [] from rfl, List.append_nil]; exact rfac_done (by omega) (by omega)
    rcases Nat.lt_or_ge n (d * d) with c | c
    · have hp := prime_of_trials n2 c hno
      have dn : d ≤ n := Nat.le_of_not_lt fun x => hno n n2 x (Nat.dvd_refl n)
      refine ⟨[(n, 1)], ⟨by simp [hp, dn], by simp, by simp [prod]⟩, fun acc ha => ?_, fun acc ha => ?_⟩
      · refine fac_go n2 hd ?_
        rw [if_pos c]
        have nd : ¬ n ∣ 1 := fun x => by have := Nat.le_of_dvd (by decide) x; omega
        refine fac_l1 (m := 1) n2 (by omega) (by omega) nd (by decide) 1 0 n (by omega) (by omega) (by rw [Nat.pow_one, Nat.mul_one]) ?_
        exact fac_done
      · exact rfac_last hd n2 c (by omega)
    · have d6 : d ≤ 65536 := by
        refine Nat.le_of_not_lt fun x => ?_
        have := Nat.mul_le_mul (Nat.succ_le_of_lt x) (Nat.succ_le_of_lt x)
        omega
      obtain ⟨e, m, hnm, hdm, m0, e1, m1⟩ := strip d d2 n n1
      have hno' : ∀ c, 2 ≤ c → c < d + 1 → ¬ c ∣ m := by
        intro c c2 cd hc
        rcases Nat.lt_or_ge c d with x | x
        · exact hno c c2 x (hnm ▸ Nat.dvd_trans hc ⟨d ^ e, Nat.mul_comm _ _⟩)
        · exact hdm ((show d = c by omega) ▸ hc)
      obtain ⟨l, ⟨f1, f2, f3⟩, L1, L2⟩ := ih m (d + 1) (by omega) m0 (by omega) (by omega) (by omega) hno'
      rcases Nat.eq_zero_or_pos e with e0 | e0
      · subst e0
        rw [Nat.pow_zero, Nat.one_mul] at hnm
        subst hnm
        refine ⟨l, ⟨fun x hx => ⟨(f1 x hx).1, by have := (f1 x hx).2.1; omega, (f1 x hx).2.2⟩, f2, f3⟩, fun acc ha => ?_, fun acc ha => ?_⟩
        · refine fac_go n2 hd ?_
          rw [if_neg (by omega)]
          exact fac_l1 d2 (by omega) (by omega) hdm m0 0 0 n (by omega) (by omega) (by rw [Nat.pow_zero, Nat.one_mul]) (L1 acc (by omega))
        · refine rfac_go hd c ?_
          exact rfac_l1 d2 (by omega) (by omega) hdm m0 0 0 n (by omega) (by omega) (by rw [Nat.pow_zero, Nat.one_mul]) (L2 acc (by omega))
      · have dvd : d ∣ n := by
          obtain ⟨e', rfl⟩ : ∃ e', e = e' + 1 := ⟨e - 1, by omega⟩
          exact ⟨d ^ e' * m, by rw [hnm, Nat.pow_succ, Nat.mul_comm (d ^ e') d, Nat.mul_assoc]⟩
        have hp := prime_of_least d2 dvd hno
        refine ⟨(d, e) :: l, ⟨?_, ?_, ?_⟩, fun acc ha => ?_, fun acc ha => ?_⟩
        · intro x hx
          rcases List.mem_cons.1 hx with rfl | hx
          · exact ⟨hp, Nat.le_refl _, e0⟩
          · exact ⟨(f1 x hx).1, by have := (f1 x hx).2.1; omega, (f1 x hx).2.2⟩
        · refine List.pairwise_cons.2 ⟨fun x hx => ?_, f2⟩
          have := (f1 x hx).2.1
          show d < x.1
          omega
        · show d ^ e * prod l = n
          rw [f3, hnm]
        · refine fac_go n2 hd ?_
          rw [if_neg (by omega)]
          refine fac_l1 d2 (by omega) (by omega) hdm m0 e 0 n (by omega) (by omega) hnm ?_
          rw [Nat.zero_add, if_pos (by omega)]
          have := L1 (acc ++ [⟨(d : Int), (e : Int)⟩]) (by rw [List.length_append]; show acc.length + 1 ≤ d + 1; omega)
          rw [List.append_assoc] at this
          exact this
        · refine rfac_go hd c ?_
          refine rfac_l1 d2 (by omega) (by omega) hdm m0 e 0 n (by omega) (by omega) hnm ?_
          rw [Nat.zero_add, if_pos (by omega)]
          have := L2 (acc ++ [⟨(d : Int), (e : Int)⟩]) (by rw [List.length_append]; show acc.length + 1 ≤ d + 1; omega)
          rw [List.append_assoc] at this
          exact this

/-- Both list the factors. -/
theorem Factor_both (n : Nat) (h2 : 2 ≤ n) (hn : n ≤ 4294967296) : ∃ l : List (Nat × Nat), Facs 2 n l ∧ Ev (fun k => sieve_Factor.f k (n : Int)) (m33 l) ∧ Ev (fun k => epicycleref05_Factor.f k (n : Int)) (m34 l) := by
  obtain ⟨l, f, L1, L2⟩ := fac_both 65538 n 2 (by omega) (by omega) hn (by omega) (by omega) (fun c a b => by omega)
  refine ⟨l, f, ?_, ?_⟩
  · refine Ev.congr (g := fun k => sieve_Factor.f k (n : Int)) (f := fun k => sieve_Factor.j0 k (n : Int) false) (fun k => ?_) (Ev.step (fun k => ?_) (L1 [] (by simp)))
    · simp only [sieve_Factor.f]
      rw [if_neg (by omega), decide_eq_false (by omega)]
    · simp [sieve_Factor.j0]
  · refine Ev.congr (g := fun k => epicycleref05_Factor.f k (n : Int)) (f := fun k => epicycleref05_Factor.j0 k (n : Int) [] false) (fun k => ?_) (Ev.step (fun k => ?_) (L2 [] (by simp)))
    · simp only [epicycleref05_Factor.f]
      rw [if_neg (by omega), decide_eq_false (by omega)]
    · simp [epicycleref05_Factor.j0]

theorem Factor_none (x : Int) (h : x < 2 ∨ 4294967296 < x) : Ev (fun k => sieve_Factor.f k x) [] ∧ Ev (fun k => epicycleref05_Factor.f k x) [] := by
  constructor
  · refine Ev.congr (g := fun k => sieve_Factor.f k x) (f := fun k => sieve_Factor.j0 k x true) (fun k => ?_) (Ev.step (f := fun _ => some []) (fun k => ?_) (Ev.now _))
    · simp only [sieve_Factor.f]
      split
      · rfl
      · rw [decide_eq_true (by omega)]
    · simp [sieve_Factor.j0]
  · refine Ev.congr (g := fun k => epicycleref05_Factor.f k x) (f := fun k => epicycleref05_Factor.j0 k x [] true) (fun k => ?_) (Ev.step (f := fun _ => some []) (fun k => ?_) (Ev.now _))
    · simp only [epicycleref05_Factor.f]
      split
      · rfl
      · rw [decide_eq_true (by omega)]
    · simp [epicycleref05_Factor.j0]

theorem Facs.le {d n : Nat} {l : List (Nat × Nat)} (h : Facs d n l) (hn : 0 < n) {x : Nat × Nat} (hx : x ∈ l) : x.1 ∣ n := by
  obtain ⟨h1, h2, rfl⟩ := h
  clear hn h2
  induction l with
  | nil => cases hx
  | cons y l ih =>
    rcases List.mem_cons.1 hx with rfl | hx
    · obtain ⟨e, he⟩ : ∃ e, x.2 = e + 1 := ⟨x.2 - 1, by have := (h1 x List.mem_cons_self).2.2; omega⟩
      show x.1 ∣ x.1 ^ x.2 * prod l
      rw [he, Nat.pow_succ, Nat.mul_comm (x.1 ^ e), Nat.mul_assoc]
      exact ⟨_, rfl⟩
    · exact Nat.dvd_trans (ih hx (fun z hz => h1 z (List.mem_cons_of_mem _ hz))) ⟨y.1 ^ y.2, Nat.mul_comm _ _⟩

/-- One factor, once: just the primes. -/
theorem Facs.prime {d n : Nat} {l : List (Nat × Nat)} (h : Facs d n l) (hn : 2 ≤ n) : (∃ q, l = [(q, 1)]) ↔ Prime n := by
  constructor
  · rintro ⟨q, rfl⟩
    have h3 : q ^ 1 * 1 = n := h.2.2
    have : q = n := by rw [Nat.pow_one, Nat.mul_one] at h3; exact h3
    rw [← this]
    exact (h.1 _ List.mem_cons_self).1
  · intro hp
    have all : ∀ x ∈ l, x.1 = n := fun x hx => by
      rcases hp.2 _ (h.le (by omega) hx) with e | e
      · have := (h.1 x hx).1.1; omega
      · exact e
    match l, h, all with
    | [], h, _ => have : 1 = n := h.2.2; omega
    | [(q, e)], h, all =>
      have hq : q = n := all (q, e) List.mem_cons_self
      subst hq
      have h3 : q ^ e * 1 = q := h.2.2
      have he := (h.1 _ List.mem_cons_self).2.2
      have he : 1 ≤ e := he
      refine ⟨q, ?_⟩
      rcases Nat.lt_or_ge e 2 with c | c
      · rw [show e = 1 by omega]
      · have := Nat.pow_lt_pow_right (a := q) (by omega) (show 1 < e by omega)
        rw [Nat.pow_one] at this
        omega
    | x :: y :: t, h, all =>
      have := (List.pairwise_cons.1 h.2.1).1 y (by simp)
      have a1 := all x (by simp)
      have a2 := all y (by simp)
      omega

open Classical in
/-- The program's Prime tells the primes. -/
theorem Prime_ev (n : Nat) (hn : n ≤ 4294967296) : Ev (fun k => sieve_Prime.f k (n : Int)) (decide (Prime n)) := by
  rcases Nat.lt_or_ge n 2 with c | c
  · have hp : ¬ Prime n := fun h => by have := h.1; omega
    rw [decide_eq_false hp]
    exact Ev.congr (fun k => rfl) (Ev.bind (Factor_none _ (.inl (by omega))).1 (Ev.now _))
  · obtain ⟨l, f, L, _⟩ := Factor_both n c hn
    refine Ev.congr (fun k => rfl) (Ev.bind L ?_)
    have hp := f.prime c
    match l, f, hp with
    | [], f, _ => have : 1 = n := f.2.2; omega
    | [(q, e)], f, hp =>
      show Ev (fun _ => some (((e : Int)) == 1)) _
      have : ((e : Int) == 1) = decide (Prime n) := by
        rw [Bool.eq_iff_iff]
        simp only [beq_iff_eq, decide_eq_true_eq]
        rw [← hp]
        constructor
        · intro h; exact ⟨q, by rw [show e = 1 by omega]⟩
        · rintro ⟨q', h⟩
          cases h; rfl
      rw [this]
      exact Ev.now _
    | x :: y :: t, f, hp =>
      have hp' : ¬ Prime n := fun h => by obtain ⟨q, hq⟩ := hp.2 h; cases hq
      rw [decide_eq_false hp']
      refine evN ?_ (Ev.now _)
      unfold m33
      rw [List.length_map, List.length_cons, List.length_cons]
      omega

end Go.Proofs.Ytcphlhphdpjnfaa.XS
