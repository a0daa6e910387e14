/- Layer 4: the laws that speak of rows that are right. -/
import Derived.Test.YtcnnaciilphadaaEv04c
import Derived.Test.YtcnnaciilphadaaNum04
import Derived.Test.YtcnnaciilphadaaXP8
import Derived.Test.YtcnnaciilphadaaRef02P
namespace Go.Proofs.Ytcnnaciilphadaa.XP
open Go Go.RowKit Go.Proofs.YtcnnaciilphadaaW.PrintWords Go.Proofs.YtcnnaciilphadaaW.PrintLast Go.Proofs.YtcnnaciilphadaaW.PrintMore Go.Proofs.Ytcnnaciilphadaa.Given Go.Proofs.Ytcnnaciilphadaa.Given04 Go.Proofs.Ytcnnaciilphadaa.M Go.Proofs.Ytcnnaciilphadaa.Mont Go.Proofs.Ytcnnaciilphadaa.Num

/-- An entry that held tells is ordered. -/
theorem held_ordered {L : List S46} {a : Int} (h : (heldS L a).2.2.2 = true) : Ordered (heldS L a).1 (heldS L a).2.1 ∧ ∃ e ∈ L.map tri46, (heldS L a).1 = e.1 ∧ (heldS L a).2.1 = e.2.1 := by
  unfold heldS at h ⊢
  split at h
  · exact absurd h (by simp)
  rename_i c
  rw [if_neg c]
  have h : (checkS (L.map tri46)).2 = 0 := by simpa using h
  have hlt : a.toNat < L.length := by omega
  have hrd : rd_T46 L a = L[a.toNat] := by unfold rd_T46; simp [List.getD, List.getElem?_eq_getElem hlt]
  have he : (L.map tri46)[a.toNat]? = some (tri46 L[a.toNat]) := by rw [List.getElem?_map, List.getElem?_eq_getElem hlt]; rfl
  have := check_ordered h he
  refine ⟨?_, tri46 L[a.toNat], List.mem_map_of_mem (List.getElem_mem hlt), ?_, ?_⟩
  · rw [hrd]; exact this
  · rw [hrd]; rfl
  · rw [hrd]; rfl

theorem primes_ev {L : List S46} (hL : okRow L) (a d : Int) : Ev (fun k => epicyclelaw04_ProofPrimes.f k L a d) true := by
  refine Ev.bind alive_ev (congrE ⟨_, fun k => by rw [if_pos rfl], ?_⟩)
  refine Ev.bind (held_ev hL a) ?_
  cases hh : (heldS L a).2.2.2 with
  | false => exact evN ft (Ev.now _)
  | true =>
    obtain ⟨⟨h3, ho⟩, _⟩ := held_ordered hh
    have hp : Prime (heldS L a).1.toNat := Ordered.prime ⟨h3, ho⟩
    refine evP rfl ?_
    generalize (heldS L a).1 = P at *
    by_cases c1 : d < 2
    · exact evP c1 (Ev.now _)
    refine evN c1 ?_
    by_cases c2 : d ≥ P
    · exact evP c2 (Ev.now _)
    refine evN c2 (evN (by omega) (evR (Ev.now _) ?_))
    rw [tmod_pos (by omega)]
    have : ¬ P % d = 0 := fun h => by
      have dv : d.toNat ∣ P.toNat := by
        have := Int.dvd_of_emod_eq_zero h
        obtain ⟨c, hc⟩ := this
        refine Int.natCast_dvd_natCast.1 ?_
        rw [Int.toNat_of_nonneg (by omega), Int.toNat_of_nonneg (by omega)]
        exact ⟨c, hc⟩
      rcases hp.2 _ dv with e | e <;> omega
    simp [bne, this]

theorem cast_pow_mod {G P : Int} (hG : 0 ≤ G) (hP : 0 ≤ P) (n : Nat) : G ^ n % P = ((G.toNat ^ n % P.toNat : Nat) : Int) := by
  rw [Int.natCast_emod, Int.natCast_pow, Int.toNat_of_nonneg hG, Int.toNat_of_nonneg hP]

theorem order_ev {L : List S46} (hL : okRow L) (a x : Int) (ux : U x) : Ev (fun k => epicyclelaw04_ProofOrder.f k L a x) true := by
  refine Ev.bind alive_ev (congrE ⟨_, fun k => by rw [if_pos rfl], ?_⟩)
  refine Ev.bind (held_ev hL a) ?_
  cases hh : (heldS L a).2.2.2 with
  | false => exact evN ft (Ev.now _)
  | true =>
    obtain ⟨⟨h3, ho⟩, e, he, e1, e2⟩ := held_ordered hh
    have hoe := hL.2 e he
    have uP : U (heldS L a).1 := by rw [e1]; exact hoe.1
    have uG : U (heldS L a).2.1 := by rw [e2]; exact hoe.2.1
    clear e1 e2 he hoe
    refine evP rfl ?_
    generalize (heldS L a).1 = P at *
    generalize (heldS L a).2.1 = G at *
    refine Ev.bind (ref02_Pow_ev uG ux uP (by omega)) ?_
    have w : IntKind.u64.wrap (P - 1) = P - 1 := wu64_id _ (by omega) (by unfold U at uP; omega)
    refine evN (by omega) (evR (Ev.now _) ?_)
    rw [w, tmod_pos ux.1, cast_pow_mod uG.1 uP.1]
    have key := ho x.toNat
    have dv : (P.toNat - 1 ∣ x.toNat) ↔ x % (P - 1) = 0 := by
      rw [← Int.natCast_dvd_natCast, Int.toNat_of_nonneg ux.1, show ((P.toNat - 1 : Nat) : Int) = P - 1 by omega]
      exact Int.dvd_iff_emod_eq_zero
    by_cases c : x % (P - 1) = 0
    · have := key.2 (dv.2 c)
      rw [this, c]; rfl
    · have : ¬ G.toNat ^ x.toNat % P.toNat = 1 := fun h => c (dv.1 (key.1 h))
      have n1 : (((G.toNat ^ x.toNat % P.toNat : Nat) : Int) == 1) = false := beq_eq_false_iff_ne.mpr (by omega)
      rw [n1, beq_eq_false_iff_ne.mpr c]; rfl

theorem parts_ev {L : List S46} (hL : okRow L) (n : Int) (un : -9223372036854775808 ≤ n ∧ n < 9223372036854775808) : Ev (fun k => epicyclelaw04_ProofParts.f k L n) true := by
  have hT : Ev (fun k => epicyclelaw04_ProofParts.j0 k L n true) true := Ev.step (f := fun _ => some true) (fun k => by simp [epicyclelaw04_ProofParts.j0]) (Ev.now _)
  refine Ev.bind alive_ev (congrE ⟨_, fun k => by rw [if_pos rfl], ?_⟩)
  by_cases c1 : (L.length : Int) > 32
  · exact evP c1 hT
  refine evN c1 ?_
  by_cases c2 : n < 0
  · exact evP c2 hT
  refine evN c2 ?_
  by_cases c3 : n > (L.length : Int)
  · rw [decide_eq_true c3]; exact hT
  rw [decide_eq_false c3]
  refine stepE ⟨_, fun k => by simp only [epicyclelaw04_ProofParts.j0]; rw [if_neg ft], ?_⟩
  refine Ev.bind (rows_ev hL.1) (Ev.bind (rcheck_ev hL) ?_)
  refine evP (by omega) (evP (by simp; omega) ?_)
  have hL' : okRow (L.take n.toNat) := ⟨⟨by have := hL.1.1; simp; omega, fun e he => hL.1.2 e (List.mem_of_mem_take he)⟩, fun e he => hL.2 e (by rw [List.map_take] at he; exact List.mem_of_mem_take he)⟩
  have E2 := rcheck_ev hL'
  rw [List.map_take, List.map_take] at E2
  refine Ev.bind E2 ?_
  -- both sides are the first place that isn't right
  obtain ⟨m, hm⟩ : ∃ m : Nat, n = (m : Int) := Int.eq_ofNat_of_zero_le (by omega)
  subst hm
  rw [Int.toNat_natCast]
  obtain ⟨T, hT'⟩ : ∃ T, T = L.map tri46 := ⟨_, rfl⟩
  have hTl : T.length = L.length := by rw [hT']; simp
  rw [← hT']
  have hmT : m ≤ T.length := by omega
  have hsame : ∀ i, i < m → rightAt (T.take m) i = rightAt T i := fun i hi => by
    unfold rightAt
    rw [List.getElem?_take_of_lt hi, List.take_take, Nat.min_eq_left (Nat.le_of_lt hi)]
  have hlen : (T.take m).length = m := by rw [List.length_take]; omega
  have hA : checkS T = firstBad (rightAt T) T.length 0 := if_neg (by omega)
  have hB : checkS (T.take m) = firstBad (rightAt T) m 0 := by
    unfold checkS
    rw [hlen, if_neg (by omega)]
    suffices h : ∀ d i, i + d ≤ m → firstBad (rightAt (T.take m)) d i = firstBad (rightAt T) d i from h m 0 (by omega)
    intro d
    induction d with
    | zero => intro i _; rfl
    | succ d ih => intro i hi; unfold firstBad; rw [hsame i (by omega), ih (i + 1) (by omega)]
  rw [hA, hB]
  -- what a beginning tells
  have key : ∀ d d' i, d ≤ d' → (firstBad (rightAt T) d i = (0, 0) ∧ (firstBad (rightAt T) d' i = (0, 0) ∨ ∃ j : Nat, i + d ≤ j ∧ j < i + d' ∧ firstBad (rightAt T) d' i = ((j : Int), 3))) ∨ (∃ j : Nat, firstBad (rightAt T) d i = ((j : Int), 3) ∧ firstBad (rightAt T) d' i = ((j : Int), 3)) := by
    intro d
    induction d with
    | zero =>
      intro d' 
      induction d' with
      | zero => intro i _; exact .inl ⟨rfl, .inl rfl⟩
      | succ d' ih =>
        intro i _
        refine .inl ⟨rfl, ?_⟩
        unfold firstBad
        cases h : rightAt T i with
        | false => exact .inr ⟨i, by omega, by omega, rfl⟩
        | true =>
          rcases ih (i + 1) (Nat.zero_le _) with ⟨_, h | ⟨j, h1, h2, h3⟩⟩ | ⟨j, h1, h2⟩
          · exact .inl h
          · exact .inr ⟨j, by omega, by omega, h3⟩
          · exact absurd (congrArg Prod.snd h1) (show ¬ (0 : Int) = 3 by decide)
    | succ d ih =>
      intro d' i hd
      obtain ⟨e, rfl⟩ : ∃ e, d' = e + 1 := ⟨d' - 1, by omega⟩
      unfold firstBad
      cases h : rightAt T i with
      | false => exact .inr ⟨i, rfl, rfl⟩
      | true =>
        rcases ih e (i + 1) (by omega) with ⟨h0, h | ⟨j, h1, h2, h3⟩⟩ | ⟨j, h1, h2⟩
        · exact .inl ⟨h0, .inl h⟩
        · exact .inl ⟨h0, .inr ⟨j, by omega, by omega, h3⟩⟩
        · exact .inr ⟨j, h1, h2⟩
  rcases key m T.length 0 hmT with ⟨h0, h | ⟨j, h1, h2, h3⟩⟩ | ⟨j, h1, h2⟩
  · rw [h0, h]
    exact evP rfl (evP rfl (evP rfl (Ev.now _)))
  · rw [h0, h3]
    have h4 : ¬ (3 : Int) = 0 := by decide
    have h5 : (j : Int) ≥ (m : Int) := by omega
    have h6 : (j : Int) < (L.length : Int) := by omega
    refine evP rfl (evN h4 (evP rfl (evP h5 ?_)))
    rw [decide_eq_true h6]
    exact Ev.now _
  · rw [h1, h2]
    have h4 : ¬ (3 : Int) = 0 := by decide
    refine evN h4 (evP rfl (evR (Ev.now _) ?_))
    simp

theorem sq_one {p r : Nat} (hp : Prime p) (hr : r < p) (h : r * r % p = 1) : r = 1 ∨ r = p - 1 := by
  have p2 := hp.1
  have r0 : r ≠ 0 := by rintro rfl; simp at h
  have d : p ∣ (r - 1) * (r + 1) := by
    have e : r * r = (r - 1) * (r + 1) + 1 := by
      obtain ⟨s, rfl⟩ : ∃ s, r = s + 1 := ⟨r - 1, by omega⟩
      rw [Nat.add_sub_cancel]
      simp only [Nat.add_mul, Nat.mul_add]
      omega
    rw [e] at h
    generalize (r - 1) * (r + 1) = X at *
    have q := Nat.div_add_mod (X + 1) p
    rw [h] at q
    exact ⟨(X + 1) / p, by omega⟩
  rcases hp.euclid d with c | c
  · rcases Nat.eq_zero_or_pos (r - 1) with z | z
    · exact .inl (by omega)
    · have := Nat.le_of_dvd z c
      omega
  · have := Nat.le_of_dvd (by omega) c
    exact .inr (by omega)

theorem field_j1 {a P : Int} (ua : U a) (uP : U P) (h0 : P ≠ 0) (hS : a * a % P = 1 → a % P = 1 ∨ a % P = P - 1) : Ev (fun k => epicyclelaw04_ProofField.j1 k a P false) true := by
  have hPp : 0 < P := pos_of_U uP h0
  have w : IntKind.u64.wrap (P - 1) = P - 1 := wu64_id _ (by omega) (by unfold U at uP; omega)
  refine stepE ⟨_, fun k => by simp only [epicyclelaw04_ProofField.j1]; rw [if_neg ft], ?_⟩
  refine Ev.bind (ref02_Mul_ev ua ua uP h0) ?_
  by_cases c : a * a % P = 1
  · refine evP c (evN h0 ?_)
    rw [tmod_pos ua.1, w]
    by_cases c1 : a % P = 1
    · exact evP c1 (Ev.now _)
    · refine evN c1 (evR (Ev.now _) ?_)
      rcases hS c with e | e
      · exact absurd e c1
      · rw [e]; simp
  · exact evN c (Ev.now _)

theorem field_j0 {a P : Int} (ua : U a) (uP : U P) (h0 : P ≠ 0) (hF : a % P ≠ 0 → a ^ (P - 1).toNat % P = 1) (hS : a * a % P = 1 → a % P = 1 ∨ a % P = P - 1) : Ev (fun k => epicyclelaw04_ProofField.j0 k a P false) true := by
  have hPp : 0 < P := pos_of_U uP h0
  have w : IntKind.u64.wrap (P - 1) = P - 1 := wu64_id _ (by omega) (by unfold U at uP; omega)
  refine stepE ⟨_, fun k => by simp only [epicyclelaw04_ProofField.j0]; rw [if_neg ft], ?_⟩
  refine evN h0 ?_
  rw [tmod_pos ua.1, w]
  by_cases c : a % P = 0
  · exact evP c (field_j1 ua uP h0 hS)
  · refine evN c (Ev.bind (ref02_Pow_ev ua (by unfold U at *; omega) uP h0) ?_)
    rw [hF c]
    exact field_j1 ua uP h0 hS

theorem field_ev {L : List S46} (hL : okRow L) (i a b : Int) (ua : U a) (ub : U b) : Ev (fun k => epicyclelaw04_ProofField.f k L i a b) true := by
  refine Ev.bind alive_ev (congrE ⟨_, fun k => by rw [if_pos rfl], ?_⟩)
  refine Ev.bind (held_ev hL i) ?_
  cases hh : (heldS L i).2.2.2 with
  | false => exact evN ft (Ev.now _)
  | true =>
    obtain ⟨⟨h3, ho⟩, e, he, e1, _⟩ := held_ordered hh
    have hoe := hL.2 e he
    have uP : U (heldS L i).1 := by rw [e1]; exact hoe.1
    have hp : Prime (heldS L i).1.toNat := Ordered.prime ⟨h3, ho⟩
    clear e1 he hoe
    refine evP rfl ?_
    generalize (heldS L i).1 = P at *
    have h0 : P ≠ 0 := by omega
    obtain ⟨p, rfl⟩ := Int.eq_ofNat_of_zero_le uP.1
    obtain ⟨α, rfl⟩ := Int.eq_ofNat_of_zero_le ua.1
    obtain ⟨β, rfl⟩ := Int.eq_ofNat_of_zero_le ub.1
    rw [Int.toNat_natCast] at ho hp
    have hE : (α : Int) * (β : Int) % (p : Int) = 0 → (α : Int) % (p : Int) = 0 ∨ (β : Int) % (p : Int) = 0 := fun h => by
      rw [← Int.natCast_mul, ← Int.natCast_emod] at h
      have h' : α * β % p = 0 := by omega
      rcases hp.euclid (Nat.dvd_of_mod_eq_zero h') with c | c
      · exact .inl (by rw [← Int.natCast_emod, Nat.mod_eq_zero_of_dvd c]; rfl)
      · exact .inr (by rw [← Int.natCast_emod, Nat.mod_eq_zero_of_dvd c]; rfl)
    have hF : (α : Int) % (p : Int) ≠ 0 → (α : Int) ^ ((p : Int) - 1).toNat % (p : Int) = 1 := fun h => by
      rw [← Int.natCast_emod] at h
      rw [show ((p : Int) - 1).toNat = p - 1 by omega, ← Int.natCast_pow, ← Int.natCast_emod, fermat (by omega) ho (a := α) (by omega)]
      rfl
    have hS : (α : Int) * (α : Int) % (p : Int) = 1 → (α : Int) % (p : Int) = 1 ∨ (α : Int) % (p : Int) = (p : Int) - 1 := fun h => by
      rw [← Int.natCast_mul, ← Int.natCast_emod] at h
      have h' : α * α % p = 1 := by omega
      rw [Nat.mul_mod] at h'
      rw [← Int.natCast_emod]
      rcases sq_one hp (Nat.mod_lt _ (by omega)) h' with c | c <;> omega
    refine Ev.bind (ref02_Mul_ev ua ub uP h0) ?_
    by_cases c : (α : Int) * (β : Int) % (p : Int) = 0
    · refine evP c (evN h0 ?_)
      rw [tmod_pos ua.1, tmod_pos ub.1]
      by_cases c1 : (α : Int) % (p : Int) = 0
      · exact evP c1 (field_j0 ua uP h0 hF hS)
      · have c2 : (β : Int) % (p : Int) = 0 := (hE c).resolve_left c1
        refine evN c1 ?_
        rw [c2]
        exact field_j0 ua uP h0 hF hS
    · exact evN c (field_j0 ua uP h0 hF hS)

end Go.Proofs.Ytcnnaciilphadaa.XP
