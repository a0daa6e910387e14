/- Layer 15: CoprimePicks, in plain words. -/
import Derived.Test.YtlpbfhbfaphicaaCop15c
namespace Go.Proofs.Ytlpbfhbfaphicaa.D15
open Go Go.RowKit Go.Proofs.YtlpbfhbfaphicaaW.PrintWords Go.Proofs.YtlpbfhbfaphicaaW.PrintLast Go.Proofs.YtlpbfhbfaphicaaW.PrintMore Go.Proofs.Ytlpbfhbfaphicaa.M Go.Proofs.Ytlpbfhbfaphicaa.XC Go.Proofs.Ytlpbfhbfaphicaa.XE

set_option linter.unusedVariables false
theorem pick_core (a b t k : Nat) : ((b * (t / b) + a * (t % b)) % (a * b) * k) % (a * b) = (b * ((t / b) * (k % a)) + a * ((t % b) * (k % b))) % (a * b) := by
  have e1 : b * (t / b * k) % (a * b) = b * (t / b * (k % a)) % (a * b) := by
    rw [Nat.mul_comm a b, Nat.mul_mod_mul_left, Nat.mul_mod_mul_left, Nat.mul_mod (t / b) k, Nat.mul_mod (t / b) (k % a), Nat.mod_mod]
  have e2 : a * (t % b * k) % (a * b) = a * (t % b * (k % b)) % (a * b) := by
    rw [Nat.mul_mod_mul_left, Nat.mul_mod_mul_left, Nat.mul_mod (t % b) k, Nat.mul_mod (t % b) (k % b), Nat.mod_mod (k)]
  rw [Nat.mul_mod, Nat.mod_mod, ← Nat.mul_mod, Nat.add_mul, Nat.mul_assoc, Nat.mul_assoc, Nat.add_mod, e1, e2, ← Nat.add_mod]
theorem alive_ev : Ev (fun k => epicyclelaw15_alive.f k) true := Ev.of (g := fun k => epicyclelaw15_alive.f k) (fun k => epicyclelaw15_alive.mono k) (k := 60) (by kernel_rfl)
/-- A table: what the document says that there is. -/
def tableB (a b : Int) : Bool := decide (0 < a ∧ 0 < b ∧ a ≤ 1024 ∧ b ≤ 1024 ∧ a * b ≤ 1024) && fitB (a * b) a
theorem table_ev (a b : Int) : Ev (fun k => epicycleref15_Table.f k a b) (tableB a b) := by
  unfold tableB
  by_cases h1 : a > 0
  · by_cases h2 : b > 0
    · by_cases h3 : a ≤ 1024
      · by_cases h4 : b ≤ 1024
        · obtain ⟨a', rfl⟩ : ∃ x : Nat, a = x := ⟨a.toNat, by omega⟩
          obtain ⟨b', rfl⟩ : ∃ x : Nat, b = x := ⟨b.toNat, by omega⟩
          have hab : a' * b' ≤ 1024 * 1024 := Nat.mul_le_mul (by omega) (by omega)
          have hab1 : 1 ≤ a' * b' := Nat.mul_pos (by omega) (by omega)
          have w : wrap64 ((a' : Int) * (b' : Int)) = ((a' * b' : Nat) : Int) := by rw [← Int.natCast_mul]; exact w64n (Nat.le_trans hab (by decide))
          have em : (a' : Int) * (b' : Int) = ((a' * b' : Nat) : Int) := (Int.natCast_mul _ _).symm
          rw [em]
          by_cases h5 : ((a' * b' : Nat) : Int) ≤ 1024
          · rw [decide_eq_true ⟨h1, h2, h3, h4, h5⟩, Bool.true_and]
            refine Ev.congr (fun k => by unfold epicycleref15_Table.f; rw [if_pos h1, if_pos h2, if_pos h3, if_pos h4, w, if_pos h5]) (Ev.bind (rfits_ev (n := ((a' * b' : Nat) : Int)) (a := (a' : Int)) (by omega)) (Ev.now _))
          · rw [decide_eq_false (fun h => h5 h.2.2.2.2), Bool.false_and]
            exact Ev.congr (f := fun _ => some false) (fun k => by unfold epicycleref15_Table.f; rw [if_pos h1, if_pos h2, if_pos h3, if_pos h4, w, if_neg h5]) (Ev.now _)
        · rw [decide_eq_false (fun h => h4 h.2.2.2.1), Bool.false_and]
          exact Ev.congr (f := fun _ => some false) (fun k => by unfold epicycleref15_Table.f; rw [if_pos h1, if_pos h2, if_pos h3, if_neg h4]) (Ev.now _)
      · rw [decide_eq_false (fun h => h3 h.2.2.1), Bool.false_and]
        exact Ev.congr (f := fun _ => some false) (fun k => by unfold epicycleref15_Table.f; rw [if_pos h1, if_pos h2, if_neg h3]) (Ev.now _)
    · rw [decide_eq_false (fun h => h2 h.2.1), Bool.false_and]
      exact Ev.congr (f := fun _ => some false) (fun k => by unfold epicycleref15_Table.f; rw [if_pos h1, if_neg h2]) (Ev.now _)
  · rw [decide_eq_false (fun h => h1 h.1), Bool.false_and]
    exact Ev.congr (f := fun _ => some false) (fun k => by unfold epicycleref15_Table.f; rw [if_neg h1]) (Ev.now _)
/-- A table, in natural numbers. -/
theorem table_nat {a b : Int} (h : tableB a b = true) : ∃ x y : Nat, a = x ∧ b = y ∧ 2 ≤ x ∧ 2 ≤ y ∧ Nat.Coprime x y ∧ x * y ≤ 1024 := by
  unfold tableB at h
  rw [Bool.and_eq_true] at h
  obtain ⟨h1, h2⟩ := h
  obtain ⟨q1, q2, q3, q4, q5⟩ := of_decide_eq_true h1
  obtain ⟨a', rfl⟩ : ∃ x : Nat, a = x := ⟨a.toNat, by omega⟩
  obtain ⟨b', rfl⟩ : ∃ x : Nat, b = x := ⟨b.toNat, by omega⟩
  rw [← Int.natCast_mul] at h2 q5
  obtain ⟨x, y, e, en, hx, hy, hc⟩ := fit_nat h2
  obtain rfl : a' = x := Int.ofNat_inj.1 e
  have : b' = y := Nat.eq_of_mul_eq_mul_left (by omega) en
  subst this
  exact ⟨a', b', rfl, rfl, hx, hy, hc, Int.ofNat_le.1 q5⟩
theorem rd_inL {a b m t : Nat} (h : t < m) : rd (inL a b m) (t : Int) = ((inN a b t : Nat) : Int) := rd_map_range h
theorem rd_outL {a b m t : Nat} (h : t < m) : rd (outL a b m) (t : Int) = ((outN a b t : Nat) : Int) := rd_map_range h
theorem picks_ev (a b t k : Int) : Ev (fun n => epicyclelaw15_CoprimePicks.f n a b t k) true := by
  have J : Ev (fun n => epicyclelaw15_CoprimePicks.j0 n a b t k true) true := stepE ⟨_, fun n => by simp only [epicyclelaw15_CoprimePicks.j0]; rw [if_pos trivial], Ev.now _⟩
  refine Ev.congr (fun n => rfl) (Ev.bind alive_ev (evP rfl (Ev.bind (table_ev a b) ?_)))
  by_cases ht : tableB a b = true
  · refine evP ht ?_
    obtain ⟨x, y, rfl, rfl, hx, hy, hc, hxy⟩ := table_nat ht
    have w : wrap64 ((x : Int) * (y : Int)) = ((x * y : Nat) : Int) := by rw [← Int.natCast_mul]; exact w64n (by omega)
    rw [w]
    by_cases h1 : t < 0
    · exact evP h1 J
    by_cases h2 : t ≥ ((x * y : Nat) : Int)
    · exact evN h1 (evP h2 J)
    by_cases h3 : k < 0
    · exact evN h1 (evN h2 (evP h3 J))
    refine evN h1 (evN h2 (evN h3 ?_))
    by_cases h4 : k ≥ ((x * y : Nat) : Int)
    · rw [decide_eq_true h4]; exact J
    rw [decide_eq_false h4]
    obtain ⟨t', rfl⟩ : ∃ z : Nat, t = z := ⟨t.toNat, by omega⟩
    obtain ⟨k', rfl⟩ : ∃ z : Nat, k = z := ⟨k.toNat, by omega⟩
    have ht' : t' < x * y := by omega
    have hk' : k' < x * y := by omega
    have eL : (((outL x y (x * y)).length : Int) != ((x * y : Nat) : Int)) = false := by rw [outL_len]; exact bne_self_eq_false _
    refine stepE ⟨_, fun n => by simp only [epicyclelaw15_CoprimePicks.j0]; rw [if_neg Bool.false_ne_true, w], ?_⟩
    refine Ev.bind (in_ev hx hy hc hxy) (Ev.bind (out_ev hx hy hc hxy) (evP (by rw [inL_len]) ?_))
    rw [eL]
    have p1 : ¬ (y : Int) = 0 := by omega
    have p2 : (0 : Int) ≤ (k' : Int) := Int.natCast_nonneg _
    have p3 : (k' : Int) < ((outL x y (x * y)).length : Int) := by rw [outL_len]; exact Int.ofNat_lt.2 hk'
    have p4 : (0 : Int) ≤ (t' : Int) := Int.natCast_nonneg _
    have p5 : (t' : Int) < ((inL x y (x * y)).length : Int) := by rw [inL_len]; exact Int.ofNat_lt.2 ht'
    have p6 : ¬ ((x * y : Nat) : Int) = 0 := by omega
    have lt1 : k' % x < x := Nat.mod_lt _ (by omega)
    have lt2 : k' % y < y := Nat.mod_lt _ (by omega)
    have o1 : outN x y k' / y = k' % x := by
      unfold outN
      rw [Nat.mul_comm, Nat.mul_add_div (by omega), Nat.div_eq_of_lt lt2, Nat.add_zero]
    have o2 : outN x y k' % y = k' % y := by
      unfold outN
      rw [Nat.mul_comm, Nat.mul_add_mod, Nat.mod_mod]
    have bo : outN x y k' ≤ 1000000 := by
      have : k' % x * y ≤ x * y := Nat.mul_le_mul_right _ (Nat.le_of_lt lt1)
      have hy2 : 1 * y ≤ x * y := Nat.mul_le_mul_right _ (by omega)
      unfold outN
      omega
    have bi : inN x y t' < x * y := Nat.mod_lt _ (by omega)
    have d1 : ∀ {u : Nat}, u ≤ 1000000 → wrap64 (Int.tdiv (u : Int) (y : Int)) = ((u / y : Nat) : Int) := fun {u} hu => by
      rw [tdiv_pos (Int.natCast_nonneg _), ← Int.natCast_ediv]
      exact w64n (by have := Nat.div_le_self u y; omega)
    have m1 : ∀ {u : Nat} {v : Nat}, Int.tmod (u : Int) (v : Int) = ((u % v : Nat) : Int) := fun {u v} => by rw [tmod_pos (Int.natCast_nonneg _), Int.natCast_emod]
    have xl : x ≤ 1024 := by have : x * 1 ≤ x * y := Nat.mul_le_mul_left _ (by omega); omega
    have yl : y ≤ 1024 := by have : 1 * y ≤ x * y := Nat.mul_le_mul_right _ (by omega); omega
    have tl : t' / y ≤ 1024 := by have := Nat.div_le_self t' y; omega
    have tm : t' % y ≤ 1024 := by have := Nat.mod_lt t' (show 0 < y by omega); omega
    have kx : k' % x ≤ 1024 := by omega
    have ky : k' % y ≤ 1024 := by omega
    have c1 : wrap64 (((t' / y : Nat) : Int) * ((k' % x : Nat) : Int)) = ((t' / y * (k' % x) : Nat) : Int) := by rw [← Int.natCast_mul]; exact w64n (Nat.le_trans (Nat.mul_le_mul tl kx) (by decide))
    have c2 : wrap64 (((t' % y : Nat) : Int) * ((k' % y : Nat) : Int)) = ((t' % y * (k' % y) : Nat) : Int) := by rw [← Int.natCast_mul]; exact w64n (Nat.le_trans (Nat.mul_le_mul tm ky) (by decide))
    have b1 : y * (t' / y * (k' % x)) ≤ 1024 * (1024 * 1024) := Nat.mul_le_mul yl (Nat.mul_le_mul tl kx)
    have b2 : x * (t' % y * (k' % y)) ≤ 1024 * (1024 * 1024) := Nat.mul_le_mul xl (Nat.mul_le_mul tm ky)
    have c3 : wrap64 ((y : Int) * ((t' / y * (k' % x) : Nat) : Int)) = ((y * (t' / y * (k' % x)) : Nat) : Int) := by rw [← Int.natCast_mul]; exact w64n (Nat.le_trans b1 (by decide))
    have c4 : wrap64 ((x : Int) * ((t' % y * (k' % y) : Nat) : Int)) = ((x * (t' % y * (k' % y)) : Nat) : Int) := by rw [← Int.natCast_mul]; exact w64n (Nat.le_trans b2 (by decide))
    have c5 : wrap64 (((y * (t' / y * (k' % x)) : Nat) : Int) + ((x * (t' % y * (k' % y)) : Nat) : Int)) = ((y * (t' / y * (k' % x)) + x * (t' % y * (k' % y)) : Nat) : Int) := by
      rw [← Int.natCast_add]
      exact w64n (Nat.le_trans (Nat.add_le_add b1 b2) (by decide))
    have c6 : wrap64 (((inN x y t' : Nat) : Int) * (k' : Int)) = ((inN x y t' * k' : Nat) : Int) := by
      rw [← Int.natCast_mul]
      exact w64n (Nat.le_trans (Nat.mul_le_mul (Nat.le_trans (Nat.le_of_lt bi) hxy) (Nat.le_trans (Nat.le_of_lt hk') hxy)) (by decide))
    refine stepE ⟨_, fun n => by simp only [epicyclelaw15_CoprimePicks.j1]; rw [if_neg Bool.false_ne_true, if_neg p1, if_pos p2, if_pos p3, if_pos p4, if_pos p5, w, if_neg p6, rd_inL ht', rd_outL hk', d1 bo, o1, d1 (Nat.le_trans (Nat.le_of_lt ht') (Nat.le_trans hxy (by decide))), m1, m1, o2, c1, c2, c3, c4, c5, c6, m1, m1], ?_⟩
    have core : inN x y t' * k' % (x * y) = (y * (t' / y * (k' % x)) + x * (t' % y * (k' % y))) % (x * y) := pick_core x y t' k'
    rw [core, beq_self_eq_true]
    exact Ev.now _
  · exact evN ht J

end Go.Proofs.Ytlpbfhbfaphicaa.D15
