/- Primes lists just the primes: the plain law. -/
import Derived.Test.YtcphlhphdpjnfaaXS3
import Derived.Test.YtcphlhphdpjnfaaGen05
namespace Go.Proofs.Ytcphlhphdpjnfaa.Pure
open Go Go.RowKit Go.Proofs.Ytcphlhphdpjnfaa.XS Go.Proofs.YtcphlhphdpjnfaaW.PrintWords Go.Proofs.YtcphlhphdpjnfaaW.PrintLast Go.Proofs.YtcphlhphdpjnfaaW.PrintMore Go.Proofs.Ytcphlhphdpjnfaa.Given Go.Proofs.Ytcphlhphdpjnfaa.M Go.Proofs.Ytcphlhphdpjnfaa.Num

theorem rd_get {L : List Int} {i : Nat} (h : i < L.length) : rd L (i : Int) = L[i] := by
  unfold rd
  rw [Int.toNat_natCast, List.getD_eq_getElem?_getD, List.getElem?_eq_getElem h]; rfl

open Classical in
theorem primes_end {x0 x1 : Int} (L : List Int) (hx : -9223372036854775808 ≤ x1 ∧ x1 < 9223372036854775808) (hm : x1 ∈ L ↔ 0 ≤ x1 ∧ x1 < (upTo x0 + 1 : Nat) ∧ Prime x1.toNat) (i : Int) (hi : ¬ i < (L.length : Int)) :
    Ev (fun k => epicyclelaw05_SievePrimes.l0 k x0 x1 L (decide (x1 ∈ L)) L (L.length : Int) i) true := by
  refine Ev.step (f := fun k => if i < (L.length : Int) then (if 0 ≤ i then (if i < (L.length : Int) then (if i > 0 then (if 0 ≤ (wrap64 (i - 1)) then (if (wrap64 (i - 1)) < (L.length : Int) then (epicyclelaw05_SievePrimes.j1 k x0 x1 L (decide (x1 ∈ L)) (rd L i) L (L.length : Int) i (decide ((rd L (wrap64 (i - 1))) ≥ (rd L i)))) else (none)) else (none)) else (epicyclelaw05_SievePrimes.j1 k x0 x1 L (decide (x1 ∈ L)) (rd L i) L (L.length : Int) i false)) else (none)) else (none)) else (if x1 ≥ 2 then (if x1 ≤ x0 then (if x1 ≤ 65536 then ((epicycleref05_Prime.f k (IntKind.u64.wrap (x1))).bind fun t137 => (some (decide (x1 ∈ L) == t137))) else (some (decide (x1 ∈ L) == false))) else (some (decide (x1 ∈ L) == false))) else (some (decide (x1 ∈ L) == false)))) (fun k => by simp only [epicyclelaw05_SievePrimes.l0]) ?_
  refine evN hi ?_
  have ht : ∀ t : Bool, (x1 ∈ L ↔ t = true) → Ev (fun _ => some (decide (x1 ∈ L) == t)) true := fun t h => by
    have : (decide (x1 ∈ L) == t) = true := by
      rw [beq_iff_eq, Bool.eq_iff_iff, decide_eq_true_eq]; exact h
    rw [this]; exact Ev.now _
  have hf : ∀ c : Prop, ¬ c → (x1 ∈ L → c) → Ev (fun _ => some (decide (x1 ∈ L) == false)) true := fun c nc h => ht false ⟨fun a => absurd (h a) nc, fun a => by cases a⟩
  have hu : (upTo x0 : Int) ≤ 65536 ∧ ((upTo x0 : Int) ≤ x0 ∨ (upTo x0 : Int) = 1) := by unfold upTo; omega
  have u2 : 2 ≤ x1 → x1 ≤ x0 → x1 ≤ 65536 → x1 ≤ (upTo x0 : Int) := by unfold upTo; omega
  have p2 : x1 ∈ L → 2 ≤ x1 := fun h => by have := (hm.1 h).2.2.1; omega
  by_cases c1 : x1 ≥ 2
  · refine evP c1 ?_
    by_cases c2 : x1 ≤ x0
    · refine evP c2 ?_
      by_cases c3 : x1 ≤ 65536
      · refine evP c3 ?_
        have hw : IntKind.u64.wrap x1 = x1 := wu64_id _ (by omega) (by omega)
        rw [hw]
        refine Ev.bind (rPrime_ev x1) (ht _ ?_)
        rw [hm, decide_eq_true_eq]
        have := u2 c1 c2 c3
        exact ⟨fun h => ⟨by omega, h.2.2⟩, fun h => ⟨by omega, by omega, h.2⟩⟩
      · exact evN c3 (hf _ c3 fun h => by have := (hm.1 h).2.1; omega)
    · exact evN c2 (hf _ c2 fun h => by have := (hm.1 h).2.1; have := p2 h; omega)
  · exact evN c1 (hf _ c1 fun h => by have := p2 h; omega)

open Classical in
theorem primes_law {x0 x1 : Int} (L : List Int) (hx : -9223372036854775808 ≤ x1 ∧ x1 < 9223372036854775808) (hL : L.Pairwise (· < ·)) (hlen : L.length ≤ 65537) (hm : x1 ∈ L ↔ 0 ≤ x1 ∧ x1 < (upTo x0 + 1 : Nat) ∧ Prime x1.toNat) (M : Nat) :
    ∀ i : Nat, L.length - i ≤ M → i ≤ L.length → Ev (fun k => epicyclelaw05_SievePrimes.l0 k x0 x1 L (decide (x1 ∈ L.take i)) L (L.length : Int) (i : Int)) true := by
  induction M with
  | zero =>
    intro i h1 h2
    have : i = L.length := by omega
    subst this
    rw [List.take_length]
    exact primes_end L hx hm _ (by omega)
  | succ M ih =>
    intro i h1 h2
    by_cases c : i < L.length
    · have IH := ih (i + 1) (by omega) (by omega)
      have hr := rd_get c
      have hw2 : wrap64 ((i : Int) + 1) = ((i + 1 : Nat) : Int) := by rw [w64_id _ (by omega) (by omega)]; rfl
      have ht : x1 ∈ L.take (i + 1) ↔ x1 ∈ L.take i ∨ L[i] = x1 := by
        rw [List.take_succ_eq_append_getElem c, List.mem_append, List.mem_singleton]
        exact or_congr Iff.rfl ⟨fun h => h.symm, fun h => h.symm⟩
      have J : Ev (fun k => epicyclelaw05_SievePrimes.j1 k x0 x1 L (decide (x1 ∈ L.take i)) L[i] L (L.length : Int) (i : Int) false) true := by
        refine Ev.step (fun k => ?_) IH
        simp only [epicyclelaw05_SievePrimes.j1]
        rw [if_neg (by decide), hw2]
        by_cases hin : x1 ∈ L.take i
        · rw [if_pos (decide_eq_true hin), decide_eq_true (ht.2 (.inl hin))]
        · rw [if_neg (by rw [decide_eq_false hin]; decide)]
          have : (L[i] == x1) = decide (x1 ∈ L.take (i + 1)) := by
            rw [Bool.eq_iff_iff, beq_iff_eq, decide_eq_true_eq, ht]
            exact ⟨.inr, fun h => h.resolve_left hin⟩
          rw [this]
      have ci : (i : Int) < (L.length : Int) := by omega
      rcases Nat.eq_zero_or_pos i with i0 | i0
      · subst i0
        refine Ev.step (fun k => ?_) J
        simp only [epicyclelaw05_SievePrimes.l0]
        rw [if_pos ci, if_pos (by omega), if_pos ci, if_neg (by omega), hr]
      · have hw : wrap64 ((i : Int) - 1) = ((i - 1 : Nat) : Int) := by rw [w64_id _ (by omega) (by omega)]; omega
        have lt : L[i - 1]'(by omega) < L[i] := List.pairwise_iff_getElem.1 hL (i - 1) i (by omega) c (by omega)
        have hr1 : rd L ((i - 1 : Nat) : Int) = L[i - 1]'(by omega) := rd_get (by omega)
        have hd : decide (L[i - 1]'(by omega) ≥ L[i]) = false := decide_eq_false (by omega)
        refine Ev.step (fun k => ?_) J
        simp only [epicyclelaw05_SievePrimes.l0]
        rw [if_pos ci, if_pos (by omega), hw, if_pos (by omega), if_pos (by omega), if_pos (by omega), if_pos (by omega), hr1, hr, hd]
    · have : i = L.length := by omega
      subst this
      rw [List.take_length]
      exact primes_end L hx hm _ (by omega)

theorem SievePrimes : epicyclelaw05_SievePrimes.Pure := by
  intro x0 x1 _ h1
  refine Ev.rounds ?_
  have P := Primes_ev x0
  have hu : upTo x0 ≤ 65536 := by unfold upTo; omega
  have hl := plist_len (upTo x0 + 1)
  refine Ev.congr (fun k => rfl) (Ev.bind alive_ev (evP rfl (Ev.bind P ?_)))
  have := primes_law (x0 := x0) (x1 := x1) (plist (upTo x0 + 1)) (wf_I h1) (plist_rising _) (by omega) mem_plist (plist (upTo x0 + 1)).length 0 (by omega) (by omega)
  simpa using this

end Go.Proofs.Ytcphlhphdpjnfaa.Pure
