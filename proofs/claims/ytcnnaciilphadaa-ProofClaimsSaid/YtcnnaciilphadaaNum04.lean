/- Layer 4, plain: in a row that is right each P is a prime and each G's order is P - 1. -/
import Derived.Test.YtcnnaciilphadaaEv04b
import Derived.Test.YtcnnaciilphadaaPratt
namespace Go.Proofs.Ytcnnaciilphadaa.XP
open Go Go.RowKit Go.Proofs.YtcnnaciilphadaaW.PrintWords Go.Proofs.YtcnnaciilphadaaW.PrintLast Go.Proofs.YtcnnaciilphadaaW.PrintMore Go.Proofs.Ytcnnaciilphadaa.Given Go.Proofs.Ytcnnaciilphadaa.Given04 Go.Proofs.Ytcnnaciilphadaa.M Go.Proofs.Ytcnnaciilphadaa.Mont Go.Proofs.Ytcnnaciilphadaa.Num

def natL (l : List (Int × Int)) : List (Nat × Nat) := l.map fun x => (x.1.toNat, x.2.toNat)

theorem wr_prod {A : Int → Bool} {m : Int} : ∀ (l : List (Int × Int)) (q n : Int), 2 ≤ q → wr A m q l n = true → n * ((prod (natL l) : Nat) : Int) = m ∧ ∀ x ∈ l, A x.1 = true ∧ 2 ≤ x.1
  | [], q, n, _, h => by
    unfold wr at h
    rw [beq_iff_eq] at h
    refine ⟨?_, by simp⟩
    show n * ((1 : Nat) : Int) = m
    rw [Int.natCast_one, Int.mul_one, h]
  | y :: l, q, n, hq, h => by
    unfold wr at h
    simp only [Bool.and_eq_true, decide_eq_true_eq] at h
    obtain ⟨⟨_, h2, hA⟩, h3⟩ := h
    obtain ⟨e, hall⟩ := wr_prod l y.1 _ (by omega) h3
    refine ⟨?_, fun x hx => ?_⟩
    · show n * ((y.1.toNat ^ y.2.toNat * prod (natL l) : Nat) : Int) = m
      rw [Int.natCast_mul, Int.natCast_pow, Int.toNat_of_nonneg (by omega), ← Int.mul_assoc]
      exact e
    · rcases List.mem_cons.1 hx with rfl | hx
      · exact ⟨hA, by omega⟩
      · exact hall x hx

theorem whole_prod {A : Int → Bool} {P : Int} {l : List (Int × Int)} (h : wholeS A P l = true) : ((prod (natL l) : Nat) : Int) = P - 1 ∧ ∀ x ∈ l, (x.1 = 2 ∨ A x.1 = true) ∧ 2 ≤ x.1 := by
  match l, h with
  | y :: t, h =>
    rw [wholeS_cons] at h
    simp only [Bool.and_eq_true, decide_eq_true_eq, beq_iff_eq] at h
    obtain ⟨⟨⟨_, h2⟩, _⟩, h3⟩ := h
    obtain ⟨e, hall⟩ := wr_prod t 2 _ (by omega) h3
    refine ⟨?_, fun x hx => ?_⟩
    · show ((y.1.toNat ^ y.2.toNat * prod (natL t) : Nat) : Int) = P - 1
      rw [Int.natCast_mul, Int.natCast_pow, Int.toNat_of_nonneg (by omega), h2]
      exact e
    · rcases List.mem_cons.1 hx with rfl | hx
      · exact ⟨.inl h2, by omega⟩
      · exact ⟨.inr (hall x hx).1, (hall x hx).2⟩

theorem pow_cast (g p n : Nat) : ((g : Int) ^ n % (p : Int) = 1) ↔ g ^ n % p = 1 := by
  rw [← Int.natCast_pow, ← Int.natCast_emod]
  exact ⟨fun h => by exact_mod_cast h, fun h => by rw [h]; rfl⟩

/-- P is a prime, and just those powers of G are 1 whose exponent is a multiple of P - 1. -/
def Ordered (P G : Int) : Prop := 3 ≤ P ∧ ∀ x : Nat, G.toNat ^ x % P.toNat = 1 ↔ P.toNat - 1 ∣ x

theorem Ordered.prime {P G : Int} (h : Ordered P G) : Prime P.toNat := prime_of_order (by have := h.1; omega) h.2

theorem right_ordered {A : Int → Bool} {prev : Option Int} {P G : Int} {l : List (Int × Int)} (hA : ∀ q, A q = true → Prime q.toNat) (h : rightS A prev P G l = true) : Ordered P G := by
  unfold rightS at h
  simp only [Bool.and_eq_true, decide_eq_true_eq] at h
  obtain ⟨⟨hf, _⟩, hw, hu⟩ := h
  unfold fits at hf
  obtain ⟨hp, hall⟩ := whole_prod hw
  unfold fullS at hu
  simp only [Bool.and_eq_true, beq_iff_eq, Bool.not_eq_true', List.any_eq_false] at hu
  obtain ⟨hu1, hu2⟩ := hu
  obtain ⟨p, rfl⟩ := Int.eq_ofNat_of_zero_le (show 0 ≤ P by omega)
  obtain ⟨g, rfl⟩ := Int.eq_ofNat_of_zero_le (show 0 ≤ G by omega)
  have hpn : ((p : Int) - 1).toNat = p - 1 := by omega
  rw [hpn, pow_cast] at hu1
  refine ⟨by omega, fun x => ?_⟩
  rw [Int.toNat_natCast, Int.toNat_natCast]
  refine pratt (natL l) (by omega) hu1 (fun f hf' => ?_) (by omega) (fun f hf' => ?_) x
  · obtain ⟨y, hy, rfl⟩ := List.mem_map.1 hf'
    rcases (hall y hy).1 with e | e
    · show Prime y.1.toNat
      rw [e]; exact Prime.two
    · exact hA _ e
  · obtain ⟨y, hy, rfl⟩ := List.mem_map.1 hf'
    intro e
    have y2 := (hall y hy).2
    refine hu2 y hy ?_
    obtain ⟨q, hq⟩ := Int.eq_ofNat_of_zero_le (show 0 ≤ y.1 by omega)
    have e : g ^ ((p - 1) / y.1.toNat) % p = 1 := e
    rw [hq, Int.toNat_natCast] at e
    have hd : (((p : Int) - 1) / y.1).toNat = (p - 1) / q := by
      rw [hq, show (p : Int) - 1 = ((p - 1 : Nat) : Int) by omega, ← Int.natCast_ediv, Int.toNat_natCast]
    rw [hd, pow_cast]
    exact e

theorem all_ordered {L : List (Int × Int × List (Int × Int))} (n : Nat) : ∀ i, i < n → (∀ j, j ≤ i → rightAt L j = true) → ∀ e, L[i]? = some e → Ordered e.1 e.2.1 := by
  induction n with
  | zero => intro i hi; omega
  | succ n ih =>
    intro i hi hr e he
    have h := hr i (Nat.le_refl i)
    unfold rightAt at h
    rw [he] at h
    refine right_ordered (fun q hq => ?_) h
    have hq : ((L.take i).any fun a => a.1 == q) = true := hq
    rw [List.any_eq_true] at hq
    obtain ⟨a, ha, hb⟩ := hq
    rw [beq_iff_eq] at hb
    obtain ⟨j, hj, e'⟩ := List.mem_iff_getElem.1 ha
    have hji : j < i := by rw [List.length_take] at hj; omega
    have := ih j (by omega) (fun k hk => hr k (by omega)) a (by
      rw [List.getElem_take] at e'
      rw [← e']
      exact List.getElem?_eq_getElem _)
    rw [← hb]
    exact this.prime

theorem firstBad_ok {r : Nat → Bool} : ∀ (d i : Nat), (firstBad r d i).2 = 0 → ∀ j, i ≤ j → j < i + d → r j = true
  | 0, i, _, j, h1, h2 => by omega
  | d + 1, i, h, j, h1, h2 => by
    unfold firstBad at h
    cases hr : r i with
    | false => rw [hr, if_neg ft] at h; exact absurd h (show ¬ (3 : Int) = 0 by decide)
    | true =>
      rw [hr, if_pos rfl] at h
      rcases Nat.lt_or_ge i j with c | c
      · exact firstBad_ok d (i + 1) h j (by omega) (by omega)
      · have : j = i := by omega
        rw [this]; exact hr

theorem check_ordered {L : List (Int × Int × List (Int × Int))} (h : (checkS L).2 = 0) {i : Nat} {e : Int × Int × List (Int × Int)} (he : L[i]? = some e) : Ordered e.1 e.2.1 := by
  unfold checkS at h
  split at h
  · exact absurd h (by decide)
  have hi := (List.getElem?_eq_some_iff.1 he).1
  exact all_ordered (i + 1) i (by omega) (fun j hj => firstBad_ok _ 0 h j (by omega) (by omega)) e he

end Go.Proofs.Ytcnnaciilphadaa.XP
