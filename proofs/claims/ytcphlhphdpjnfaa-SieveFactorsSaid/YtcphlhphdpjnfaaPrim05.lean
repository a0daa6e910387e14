/- Layer 5: the document's Prime; odd primes; the sieve. -/
import Derived.Test.YtcphlhphdpjnfaaFac05b
namespace Go.Proofs.Ytcphlhphdpjnfaa.XS
open Go Go.RowKit Go.Proofs.YtcphlhphdpjnfaaW.PrintWords Go.Proofs.YtcphlhphdpjnfaaW.PrintLast Go.Proofs.YtcphlhphdpjnfaaW.PrintMore Go.Proofs.Ytcphlhphdpjnfaa.Given Go.Proofs.Ytcphlhphdpjnfaa.M Go.Proofs.Ytcphlhphdpjnfaa.Num

open Classical in
theorem rprime_l0 (n : Nat) (n2 : 2 ≤ n) (hn : n ≤ 4294967296) (M : Nat) : ∀ d : Nat, 65538 - d ≤ M → 2 ≤ d → d ≤ 65537 → (∀ c, 2 ≤ c → c < d → ¬ c ∣ n) →
    Ev (fun k => epicycleref05_Prime.l0 k (n : Int) (d : Int)) (decide (Prime n)) := by
  induction M with
  | zero => intro d h _ h2; omega
  | succ M ih =>
    intro d hM d2 hd hno
    have h1 : d * d ≤ 65537 * 65537 := Nat.mul_le_mul hd hd
    have hw : IntKind.u64.wrap ((d : Int) * d) = ((d * d : Nat) : Int) := by
      rw [← Int.natCast_mul]; exact wu64_id _ (by omega) (by omega)
    have d0 : ¬ (d : Int) = 0 := by omega
    have ht : Int.tmod (n : Int) (d : Int) = ((n % d : Nat) : Int) := by rw [tmod_pos (by omega), Int.natCast_emod]
    rcases Nat.lt_or_ge n (d * d) with c | c
    · rw [decide_eq_true (prime_of_trials n2 c hno)]
      refine Ev.step (f := fun _ => some true) (fun k => ?_) (Ev.now _)
      simp only [epicycleref05_Prime.l0]
      rw [hw, if_neg (by omega)]
    · by_cases hdn : d ∣ n
      · have hp : ¬ Prime n := fun h => by
          rcases h.2 d hdn with e | e
          · omega
          · have := Nat.mul_le_mul_right d d2
            omega
        rw [decide_eq_false hp]
        have hm := Nat.mod_eq_zero_of_dvd hdn
        refine Ev.step (f := fun _ => some false) (fun k => ?_) (Ev.now _)
        simp only [epicycleref05_Prime.l0]
        rw [hw, if_pos (by omega), if_neg d0, ht, if_pos (by omega)]
      · have hm : n % d ≠ 0 := fun e => hdn (Nat.dvd_of_mod_eq_zero e)
        have d6 : d ≤ 65536 := by
          refine Nat.le_of_not_lt fun x => ?_
          have := Nat.mul_le_mul (Nat.succ_le_of_lt x) (Nat.succ_le_of_lt x)
          omega
        have IH := ih (d + 1) (by omega) (by omega) (by omega) (fun x h1 h2 h3 => by
          rcases Nat.lt_or_ge x d with y | y
          · exact hno x h1 y h3
          · exact hdn ((show x = d by omega) ▸ h3))
        have hw2 : IntKind.u64.wrap ((d : Int) + 1) = ((d + 1 : Nat) : Int) := by rw [wu64_id _ (by omega) (by omega)]; rfl
        refine Ev.step (fun k => ?_) IH
        simp only [epicycleref05_Prime.l0]
        rw [hw, if_pos (by omega), if_neg d0, ht, if_neg (by omega), hw2]

/-- The primes up to 2^32. -/
def PrimeI (x : Int) : Prop := x ≤ 4294967296 ∧ Prime x.toNat

open Classical in
theorem rPrime_ev (x : Int) : Ev (fun k => epicycleref05_Prime.f k x) (decide (PrimeI x)) := by
  by_cases h : x < 2 ∨ 4294967296 < x
  · have hp : ¬ PrimeI x := fun h' => by have := h'.1; have := h'.2.1; omega
    rw [decide_eq_false hp]
    refine Ev.congr (g := fun k => epicycleref05_Prime.f k x) (f := fun k => epicycleref05_Prime.j0 k x true) (fun k => ?_) (Ev.step (f := fun _ => some false) (fun k => ?_) (Ev.now _))
    · simp only [epicycleref05_Prime.f]
      split
      · rfl
      · rw [decide_eq_true (by omega)]
    · simp [epicycleref05_Prime.j0]
  · obtain ⟨n, rfl⟩ : ∃ n : Nat, x = n := ⟨x.toNat, by omega⟩
    have e : decide (PrimeI (n : Int)) = decide (Prime n) := by
      rw [Bool.eq_iff_iff]; simp only [decide_eq_true_eq]
      exact ⟨fun h => h.2, fun h => ⟨by omega, h⟩⟩
    rw [e]
    refine Ev.congr (g := fun k => epicycleref05_Prime.f k (n : Int)) (f := fun k => epicycleref05_Prime.j0 k (n : Int) false) (fun k => ?_) (Ev.step (fun k => ?_) (rprime_l0 n (by omega) (by omega) 65538 2 (by omega) (by omega) (by omega) (fun c a b => by omega)))
    · simp only [epicycleref05_Prime.f]
      rw [if_neg (by omega), decide_eq_false (by omega)]
    · simp [epicycleref05_Prime.j0]

open Classical in
theorem sPrime_ev (x : Int) : Ev (fun k => sieve_Prime.f k x) (decide (PrimeI x)) := by
  by_cases h : x < 2 ∨ 4294967296 < x
  · have hp : ¬ PrimeI x := fun h' => by have := h'.1; have := h'.2.1; omega
    rw [decide_eq_false hp]
    exact Ev.congr (fun k => rfl) (Ev.bind (Factor_none _ h).1 (Ev.now _))
  · obtain ⟨n, rfl⟩ : ∃ n : Nat, x = n := ⟨x.toNat, by omega⟩
    have e : decide (PrimeI (n : Int)) = decide (Prime n) := by
      rw [Bool.eq_iff_iff]; simp only [decide_eq_true_eq]
      exact ⟨fun h => h.2, fun h => ⟨by omega, h⟩⟩
    rw [e]
    exact Prime_ev n (by omega)

/-- Odd primes up to 2^16. -/
def OddP (x : Int) : Prop := 2 < x ∧ x ≤ 65536 ∧ Prime x.toNat

open Classical in
theorem odd_ev (x : Int) : Ev (fun k => sieve_odd.f k x) (decide (OddP x)) := by
  by_cases h1 : 2 < x
  · by_cases h2 : x ≤ 65536
    · have e : decide (OddP x) = decide (PrimeI x) := by
        rw [Bool.eq_iff_iff]; simp only [decide_eq_true_eq]
        exact ⟨fun h => ⟨by omega, h.2.2⟩, fun h => ⟨h1, h2, h.2⟩⟩
      rw [e]
      exact Ev.congr (fun k => rfl) (evP h1 (evP h2 (Ev.bind (sPrime_ev x) (Ev.now _))))
    · rw [decide_eq_false (fun h => h2 h.2.1)]
      exact Ev.congr (fun k => rfl) (evP h1 (evN h2 (Ev.now _)))
  · rw [decide_eq_false (fun h => h1 h.1)]
    exact Ev.congr (fun k => rfl) (evN h1 (Ev.now _))

/-! #### the sieve -/
def Struck (n j : Nat) : Prop := ∃ q, Prime q ∧ q < n ∧ q ∣ j ∧ q * q ≤ j
open Classical in
noncomputable def plist (n : Nat) : List Int := ((List.range n).filter fun j => decide (Prime j)).map Int.ofNat

open Classical in
theorem plist_succ (n : Nat) : plist (n + 1) = if Prime n then plist n ++ [(n : Int)] else plist n := by
  unfold plist
  rw [List.range_succ, List.filter_append, List.map_append]
  split
  · next h => simp [List.filter, h]
  · next h => simp [List.filter, h]

open Classical in
theorem plist_len (n : Nat) : (plist n).length ≤ n := by
  unfold plist
  rw [List.length_map]
  exact Nat.le_trans (List.length_filter_le _ _) (by rw [List.length_range]; exact Nat.le_refl _)

open Classical in
theorem mem_plist {n : Nat} {x : Int} : x ∈ plist n ↔ 0 ≤ x ∧ x < n ∧ Prime x.toNat := by
  unfold plist
  rw [List.mem_map]
  constructor
  · rintro ⟨j, hj, rfl⟩
    rw [List.mem_filter, List.mem_range, decide_eq_true_eq] at hj
    refine ⟨Int.natCast_nonneg j, ?_, hj.2⟩
    have := hj.1
    show (j : Int) < n
    omega
  · rintro ⟨h0, h1, h2⟩
    refine ⟨x.toNat, ?_, ?_⟩
    · rw [List.mem_filter, List.mem_range, decide_eq_true_eq]
      exact ⟨by omega, h2⟩
    · show (x.toNat : Int) = x
      omega

open Classical in
theorem plist_rising (n : Nat) : (plist n).Pairwise (· < ·) := by
  unfold plist
  rw [List.pairwise_map]
  refine (List.Pairwise.filter _ (List.pairwise_lt_range (n := n))).imp ?_
  intro a b h
  show (a : Int) < b
  omega

theorem small_factor {n : Nat} (n2 : 2 ≤ n) (h : ¬ Prime n) : ∃ q, Prime q ∧ q < n ∧ q ∣ n ∧ q * q ≤ n := by
  have : ∃ d, d ∣ n ∧ d ≠ 1 ∧ d ≠ n := Classical.byContradiction fun c => h ⟨n2, fun d hd => Classical.byContradiction fun e => c ⟨d, hd, fun a => e (.inl a), fun a => e (.inr a)⟩⟩
  obtain ⟨d, ⟨e, he⟩, d1, dn⟩ := this
  have d0 : d ≠ 0 := by rintro rfl; simp at he; omega
  have e0 : e ≠ 0 := by rintro rfl; simp at he; omega
  have e1 : e ≠ 1 := by rintro rfl; omega
  have key : ∀ a b : Nat, a * b = n → 2 ≤ a → 2 ≤ b → a ≤ b → ∃ q, Prime q ∧ q < n ∧ q ∣ n ∧ q * q ≤ n := by
    intro a b hab a2 b2 hle
    obtain ⟨q, hq, hqa⟩ := exists_prime a a2
    have h1 := Nat.le_of_dvd (by omega) hqa
    have h2 : q * q ≤ a * b := Nat.mul_le_mul h1 (Nat.le_trans h1 hle)
    have h3 : a * 2 ≤ a * b := Nat.mul_le_mul_left a b2
    exact ⟨q, hq, by omega, Nat.dvd_trans hqa ⟨b, hab.symm⟩, by omega⟩
  rcases Nat.le_total d e with c | c
  · exact key d e he.symm (by omega) (by omega) c
  · exact key e d (by rw [he, Nat.mul_comm]) (by omega) (by omega) c

theorem struck_self {n : Nat} (n2 : 2 ≤ n) : Struck n n ↔ ¬ Prime n := by
  constructor
  · rintro ⟨q, hq, h1, h2, _⟩ hp
    rcases hp.2 q h2 with e | e
    · have := hq.1; omega
    · omega
  · intro h
    obtain ⟨q, a, b, c, d⟩ := small_factor n2 h
    exact ⟨q, a, b, c, d⟩

theorem struck_succ (n j : Nat) : Struck (n + 1) j ↔ Struck n j ∨ (Prime n ∧ n ∣ j ∧ n * n ≤ j) := by
  constructor
  · rintro ⟨q, a, b, c, d⟩
    rcases Nat.lt_or_ge q n with h | h
    · exact .inl ⟨q, a, h, c, d⟩
    · have : q = n := by omega
      subst this
      exact .inr ⟨a, c, d⟩
  · rintro (⟨q, a, b, c, d⟩ | ⟨a, c, d⟩)
    · exact ⟨q, a, by omega, c, d⟩
    · exact ⟨n, a, by omega, c, d⟩

theorem primes_l1 {u n : Nat} {acc : List Int} {R : List Int} (hu : u ≤ 65536) (n2 : 2 ≤ n) (hn : n ≤ u) (hp : Prime n)
    (K : ∀ B' : List Bool, B'.length = u + 1 → (∀ j, j ≤ u → (B'.getD j false = true ↔ Struck (n + 1) j)) → Ev (fun k => sieve_Primes.l0 k (u : Int) B' acc ((n + 1 : Nat) : Int)) R) (M : Nat) :
    ∀ (cur : Nat) (B : List Bool), u + 1 - cur ≤ M → n ∣ cur → n * n ≤ cur → cur ≤ 4295032832 → B.length = u + 1 →
      (∀ j, j ≤ u → (B.getD j false = true ↔ (Struck n j ∨ (n ∣ j ∧ n * n ≤ j ∧ j < cur)))) → Ev (fun k => sieve_Primes.l1 k (u : Int) B acc (n : Int) (cur : Int)) R := by
  induction M with
  | zero =>
    intro cur B hM hd hnn hc hB hI
    have hw : wrap64 ((n : Int) + 1) = ((n + 1 : Nat) : Int) := by rw [w64_id _ (by omega) (by omega)]; rfl
    refine Ev.step (fun k => ?_) (K B hB fun j hj => ?_)
    · simp only [sieve_Primes.l1]
      rw [if_neg (by omega), hw]
    · rw [hI j hj, struck_succ]
      refine or_congr Iff.rfl ⟨fun h => ⟨hp, h.1, h.2.1⟩, fun h => ⟨h.2.1, h.2.2, by omega⟩⟩
  | succ M ih =>
    intro cur B hM hd hnn hc hB hI
    rcases Nat.lt_or_ge u cur with c | c
    · have hw : wrap64 ((n : Int) + 1) = ((n + 1 : Nat) : Int) := by rw [w64_id _ (by omega) (by omega)]; rfl
      refine Ev.step (fun k => ?_) (K B hB fun j hj => ?_)
      · simp only [sieve_Primes.l1]
        rw [if_neg (by omega), hw]
      · rw [hI j hj, struck_succ]
        refine or_congr Iff.rfl ⟨fun h => ⟨hp, h.1, h.2.1⟩, fun h => ⟨h.2.1, h.2.2, by omega⟩⟩
    · have hw : wrap64 ((cur : Int) + n) = ((cur + n : Nat) : Int) := by rw [w64_id _ (by omega) (by omega)]; rfl
      have hl : (cur : Int) < (B.length : Int) := by omega
      refine Ev.step (fun k => ?_) (ih (cur + n) (B.set cur true) (by omega) (Nat.dvd_add hd (Nat.dvd_refl n)) (by omega) (by omega) (by rw [List.length_set]; exact hB) fun j hj => ?_)
      · simp only [sieve_Primes.l1]
        rw [if_pos (by omega), if_pos (by omega), if_pos hl, hw, Int.toNat_natCast]
      · by_cases e : j = cur
        · subst e
          have h1 : (B.set j true).getD j false = true := by
            rw [List.getD_eq_getElem?_getD, List.getElem?_set_self (by omega)]; rfl
          rw [h1]
          exact ⟨fun _ => .inr ⟨hd, hnn, by omega⟩, fun _ => rfl⟩
        · have h1 : (B.set cur true).getD j false = B.getD j false := by
            rw [List.getD_eq_getElem?_getD, List.getElem?_set_ne (fun h => e h.symm), ← List.getD_eq_getElem?_getD]
          rw [h1, hI j hj]
          refine or_congr Iff.rfl ⟨fun h => ⟨h.1, h.2.1, by omega⟩, fun h => ⟨h.1, h.2.1, ?_⟩⟩
          refine Classical.byContradiction fun x => ?_
          have dd : n ∣ j - cur := Nat.dvd_sub h.1 hd
          have := Nat.le_of_dvd (by omega) dd
          omega

theorem primes_l0 {u : Nat} (hu : u ≤ 65536) (M : Nat) : ∀ (n : Nat) (B : List Bool), u + 1 - n ≤ M → 2 ≤ n → n ≤ u + 1 → B.length = u + 1 →
    (∀ j, j ≤ u → (B.getD j false = true ↔ Struck n j)) → Ev (fun k => sieve_Primes.l0 k (u : Int) B (plist n) (n : Int)) (plist (u + 1)) := by
  induction M with
  | zero =>
    intro n B hM n2 hn hB hI
    have : n = u + 1 := by omega
    subst this
    refine Ev.step (f := fun _ => some (plist (u + 1))) (fun k => ?_) (Ev.now _)
    simp only [sieve_Primes.l0]
    rw [if_neg (by omega)]
  | succ M ih =>
    intro n B hM n2 hn hB hI
    rcases Nat.lt_or_ge u n with c | c
    · have : n = u + 1 := by omega
      subst this
      refine Ev.step (f := fun _ => some (plist (u + 1))) (fun k => ?_) (Ev.now _)
      simp only [sieve_Primes.l0]
      rw [if_neg (by omega)]
    · have hr : rdOf false B (n : Int) = B.getD n false := by simp [rdOf]
      have hl : (n : Int) < (B.length : Int) := by omega
      have hw : wrap64 ((n : Int) + 1) = ((n + 1 : Nat) : Int) := by rw [w64_id _ (by omega) (by omega)]; rfl
      have key := (hI n c).trans (struck_self n2)
      by_cases hp : Prime n
      · have hb : ¬ B.getD n false = true := fun h => key.1 h hp
        have hle := plist_len n
        have h1 : (plist n).length < 17592186044416 := by omega
        have nn : n * n ≤ 65536 * 65536 := Nat.mul_le_mul (by omega) (by omega)
        have hw2 : wrap64 ((n : Int) * n) = ((n * n : Nat) : Int) := by rw [← Int.natCast_mul]; exact w64_id _ (by omega) (by omega)
        have e : plist n ++ [(n : Int)] = plist (n + 1) := by rw [plist_succ, if_pos hp]
        refine Ev.step (fun k => ?_) (primes_l1 (acc := plist (n + 1)) hu n2 c hp (fun B' hB' hI' => ih (n + 1) B' (by omega) (by omega) (by omega) hB' hI') (u + 1) (n * n) B (by omega) ⟨n, rfl⟩ (Nat.le_refl _) (by omega) hB fun j hj => ?_)
        · simp only [sieve_Primes.l0]
          rw [if_pos (by omega), if_pos (by omega), if_pos hl, hr, if_neg hb, if_pos h1, hw2, e]
        · rw [hI j hj]
          exact ⟨.inl, fun h => h.elim id fun h => by omega⟩
      · have hb : B.getD n false = true := key.2 hp
        have e : plist n = plist (n + 1) := by rw [plist_succ, if_neg hp]
        refine Ev.step (fun k => ?_) (ih (n + 1) B (by omega) (by omega) (by omega) hB fun j hj => ?_)
        · simp only [sieve_Primes.l0]
          rw [if_pos (by omega), if_pos (by omega), if_pos hl, hr, if_pos hb, hw, e]
        · rw [hI j hj, struck_succ]
          exact ⟨.inl, fun h => h.elim id fun h => absurd h.1 hp⟩

/-- As far as it looks. -/
def upTo (x : Int) : Nat := (min (max x 1) 65536).toNat

theorem Primes_ev (x : Int) : Ev (fun k => sieve_Primes.f k x) (plist (upTo x + 1)) := by
  have hu : upTo x ≤ 65536 ∧ 1 ≤ upTo x := by unfold upTo; omega
  have e : mn (mx x 1) 65536 = (upTo x : Int) := by unfold mn mx upTo; split <;> split <;> omega
  have e0 : plist 2 = [] := by
    rw [plist_succ, if_neg (fun h => by have := h.1; omega), plist_succ, if_neg (fun h => by have := h.1; omega)]
    rfl
  have L := primes_l0 hu.1 (upTo x + 1) 2 (List.replicate (upTo x + 1) false) (by omega) (by omega) (by omega) (by simp) (fun j hj => by
    have h1 : (List.replicate (upTo x + 1) false).getD j false = false := by
      rw [List.getD_eq_getElem?_getD, List.getElem?_replicate]
      split <;> rfl
    rw [h1]
    constructor
    · intro h; cases h
    · rintro ⟨q, a, b, _⟩
      have := a.1
      omega)
  rw [e0] at L
  refine Ev.congr (fun k => ?_) L
  simp only [sieve_Primes.f]
  rw [e, if_pos (by omega), if_pos (by omega), show ((upTo x : Int) + 1).toNat = upTo x + 1 by omega]
  rfl

end Go.Proofs.Ytcphlhphdpjnfaa.XS
