/- Factor and Prime answer what the document says; the factors multiplied are the number: the plain law. -/
import Derived.Test.YtcphlhphdpjnfaaXS4
import Derived.Test.YtcphlhphdpjnfaaGen05
namespace Go.Proofs.Ytcphlhphdpjnfaa.Pure
open Go Go.RowKit Go.Proofs.Ytcphlhphdpjnfaa.XS Go.Proofs.YtcphlhphdpjnfaaW.PrintWords Go.Proofs.YtcphlhphdpjnfaaW.PrintLast Go.Proofs.YtcphlhphdpjnfaaW.PrintMore Go.Proofs.Ytcphlhphdpjnfaa.Given Go.Proofs.Ytcphlhphdpjnfaa.M Go.Proofs.Ytcphlhphdpjnfaa.Num

/-- The inner loop multiplies e times. -/
theorem sf_l1 {x0 : Int} {W : List S34} {L : List S33} {len i : Int} {q : Nat} {e : Nat} (he : e < 4294967300) (M : Nat) :
    ∀ (c m : Nat), e - c ≤ M → c ≤ e → q ^ (e - c) * m ≤ 4294967296 → 1 ≤ q →
      Ev (fun k => epicyclelaw05_SieveFactors.l0 k x0 W ((q ^ (e - c) * m : Nat) : Int) L len (wrap64 (i + 1))) true →
      Ev (fun k => epicyclelaw05_SieveFactors.l1 k x0 W (m : Int) (c : Int) L len i (q : Int) (e : Int)) true := by
  induction M with
  | zero =>
    intro c m h1 h2 h3 q1 E
    have : c = e := by omega
    subst this
    rw [Nat.sub_self, Nat.pow_zero, Nat.one_mul] at E
    refine Ev.step (fun k => ?_) E
    simp only [epicyclelaw05_SieveFactors.l1]
    rw [if_neg (by omega)]
  | succ M ih =>
    intro c m h1 h2 h3 q1 E
    rcases Nat.lt_or_ge c e with h | h
    · have e1 : q ^ (e - c) * m = q ^ (e - (c + 1)) * (m * q) := by
        rw [show e - c = (e - (c + 1)) + 1 by omega, Nat.pow_succ, Nat.mul_assoc, Nat.mul_comm q m]
      have hle : m * q ≤ 4294967296 := by
        rw [e1] at h3
        exact Nat.le_trans (Nat.le_mul_of_pos_left _ (Nat.pow_pos q1)) h3
      have hw : IntKind.u64.wrap ((m : Int) * (q : Int)) = ((m * q : Nat) : Int) := by rw [← Int.natCast_mul]; exact wu64_id _ (by omega) (by omega)
      have hw2 : wrap64 ((c : Int) + 1) = ((c + 1 : Nat) : Int) := by rw [w64_id _ (by omega) (by omega)]; rfl
      rw [e1] at h3 E
      refine Ev.step (fun k => ?_) (ih (c + 1) (m * q) (by omega) (by omega) h3 q1 E)
      simp only [epicyclelaw05_SieveFactors.l1]
      rw [if_pos (by omega), hw, hw2]
    · have : c = e := by omega
      subst this
      rw [Nat.sub_self, Nat.pow_zero, Nat.one_mul] at E
      refine Ev.step (fun k => ?_) E
      simp only [epicyclelaw05_SieveFactors.l1]
      rw [if_neg (by omega)]

theorem rd33 {l : List (Nat × Nat)} {i : Nat} (h : i < l.length) : rd_T33 (m33 l) (i : Int) = ⟨(l[i].1 : Int), (l[i].2 : Int)⟩ := by
  unfold rd_T33 m33
  rw [Int.toNat_natCast, List.getD_eq_getElem?_getD, List.getElem?_map, List.getElem?_eq_getElem h]; rfl
theorem rd34 {l : List (Nat × Nat)} {i : Nat} (h : i < l.length) : rd_T34 (m34 l) (i : Int) = ⟨(l[i].1 : Int), (l[i].2 : Int)⟩ := by
  unfold rd_T34 m34
  rw [Int.toNat_natCast, List.getD_eq_getElem?_getD, List.getElem?_map, List.getElem?_eq_getElem h]; rfl

theorem prod_pos {l : List (Nat × Nat)} (h : ∀ x ∈ l, 1 ≤ x.1) : 1 ≤ prod l := by
  induction l with
  | nil => exact Nat.le_refl 1
  | cons x l ih => exact Nat.mul_pos (Nat.pow_pos (h x List.mem_cons_self)) (ih fun y hy => h y (List.mem_cons_of_mem _ hy))

theorem pow_ge {q : Nat} (h : 2 ≤ q) : ∀ e, e ≤ q ^ e
  | 0 => Nat.zero_le _
  | e + 1 => by
    have := pow_ge h e
    have h1 : 1 ≤ q ^ e := Nat.pow_pos (by omega)
    rw [Nat.pow_succ]
    have := Nat.mul_le_mul_left (q ^ e) h
    omega

theorem sf_l0 {n : Nat} (hn : n ≤ 4294967296) (l : List (Nat × Nat)) (hl : ∀ x ∈ l, 2 ≤ x.1) (hlen : l.length < 4294967300) (F : List (Nat × Nat)) :
    ∀ (i m : Nat), l.drop i = F → prod F * m = n → 1 ≤ m → Ev (fun k => epicyclelaw05_SieveFactors.l0 k (n : Int) (m34 l) (m : Int) (m33 l) ((m33 l).length : Int) (i : Int)) true := by
  have ll : (m33 l).length = l.length := by unfold m33; rw [List.length_map]
  have ll4 : (m34 l).length = l.length := by unfold m34; rw [List.length_map]
  induction F with
  | nil =>
    intro i m hd hp m1
    have hi : l.length ≤ i := List.drop_eq_nil_iff.1 hd
    have : m = n := by rw [show prod [] = 1 from rfl, Nat.one_mul] at hp; exact hp
    subst this
    refine Ev.step (f := fun _ => some true) (fun k => ?_) (Ev.now _)
    simp only [epicyclelaw05_SieveFactors.l0]
    rw [ll, if_neg (by omega), if_pos trivial]
  | cons x F ih =>
    intro i m hd hp m1
    have hi : i < l.length := by
      refine Nat.lt_of_not_le fun c => ?_
      rw [List.drop_eq_nil_iff.2 c] at hd; cases hd
    have hx : l[i] = x ∧ l.drop (i + 1) = F := by
      rw [List.drop_eq_getElem_cons hi] at hd
      exact ⟨(List.cons.inj hd).1, (List.cons.inj hd).2⟩
    have x2 : 2 ≤ x.1 := hl x (hx.1 ▸ List.getElem_mem hi)
    have hw : wrap64 ((i : Int) + 1) = ((i + 1 : Nat) : Int) := by rw [w64_id _ (by omega) (by omega)]; rfl
    have c1 : (i : Int) < ((m33 l).length : Int) := by omega
    have c2 : (0 : Int) ≤ (i : Int) := by omega
    have c4 : (i : Int) < ((m34 l).length : Int) := by omega
    have x1 : 1 ≤ x.1 := by omega
    have hF : 1 ≤ prod F := prod_pos fun y hy => by
      have : y ∈ l := List.mem_of_mem_drop (hx.2 ▸ hy : y ∈ l.drop (i + 1))
      have := hl y this
      omega
    have e1 : prod F * (x.1 ^ x.2 * m) = n := by
      rw [← hp]
      show _ = x.1 ^ x.2 * prod F * m
      rw [Nat.mul_comm (x.1 ^ x.2) (prod F), Nat.mul_assoc]
    have le1 : x.1 ^ x.2 * m ≤ 4294967296 := by
      refine Nat.le_trans ?_ hn
      rw [← e1]; exact Nat.le_mul_of_pos_left _ hF
    have px : 1 ≤ x.1 ^ x.2 := Nat.pow_pos x1
    have le2 : x.1 ^ x.2 ≤ 4294967296 := Nat.le_trans (Nat.le_mul_of_pos_right _ m1) le1
    have le3 : x.2 ≤ 4294967296 := Nat.le_trans (pow_ge x2 _) le2
    have pm : 1 ≤ x.1 ^ x.2 * m := Nat.mul_pos px m1
    have le4 : x.2 < 4294967300 := Nat.lt_of_le_of_lt le3 (by decide)
    have IH := ih (i + 1) (x.1 ^ x.2 * m) hx.2 e1 pm
    rw [← hw] at IH
    have I1 := sf_l1 (x0 := (n : Int)) (W := m34 l) (L := m33 l) (len := ((m33 l).length : Int)) (i := (i : Int)) (q := x.1) (e := x.2) le4 x.2 0 m (Nat.le_of_eq (Nat.sub_zero _)) (Nat.zero_le _) (by rw [Nat.sub_zero]; exact le1) x1 (by rw [Nat.sub_zero]; exact IH)
    have r3 := rd33 hi
    have r4 := rd34 hi
    rw [hx.1] at r3 r4
    refine Ev.step (f := fun k => epicyclelaw05_SieveFactors.j2 k (n : Int) (m34 l) (m : Int) (m33 l) ((m33 l).length : Int) (i : Int) false (x.1 : Int) (x.2 : Int)) (fun k => ?_) (Ev.step (fun k => ?_) I1)
    · simp only [epicyclelaw05_SieveFactors.l0]
      rw [r3, r4, if_pos c1, if_pos c2, if_pos c1, if_pos c4, if_pos (show ((⟨(x.1 : Int), (x.2 : Int)⟩ : S33).f0 = (⟨(x.1 : Int), (x.2 : Int)⟩ : S34).f0) from rfl)]
      show epicyclelaw05_SieveFactors.j2 k (n : Int) (m34 l) (m : Int) (m33 l) ((m33 l).length : Int) (i : Int) ((x.2 : Int) != (x.2 : Int)) (x.1 : Int) (x.2 : Int) = _
      rw [bne_self_eq_false]
    · simp only [epicyclelaw05_SieveFactors.j2]
      rw [if_neg (by decide)]
      rfl

theorem facs_len {d n : Nat} {l : List (Nat × Nat)} (h : Facs d n l) : l.length < n := by
  obtain ⟨h1, _, rfl⟩ := h
  have key : ∀ l : List (Nat × Nat), (∀ x ∈ l, 2 ≤ x.1 ∧ 1 ≤ x.2) → l.length < prod l := by
    intro l
    induction l with
    | nil => intro _; show 0 < 1; omega
    | cons x l ih =>
      intro h
      have a := ih fun y hy => h y (List.mem_cons_of_mem _ hy)
      obtain ⟨b, c⟩ := h x List.mem_cons_self
      have : 2 ≤ x.1 ^ x.2 := by
        have h1 := Nat.pow_le_pow_right (show 0 < x.1 by omega) c
        rw [Nat.pow_one] at h1
        omega
      have := Nat.mul_le_mul_right (prod l) this
      show l.length + 1 < x.1 ^ x.2 * prod l
      omega
  exact key l fun x hx => ⟨(h1 x hx).1.1, (h1 x hx).2.2⟩

open Classical in
theorem SieveFactors : epicyclelaw05_SieveFactors.Pure := by
  intro x0 h0
  have u0 := wf_U h0
  refine Ev.rounds ?_
  have P1 := sPrime_ev x0
  have P2 := rPrime_ev x0
  have fin : ∀ (L : List S33) (W : List S34), L.length = W.length → Ev (fun k => sieve_Factor.f k x0) L → Ev (fun k => epicycleref05_Factor.f k x0) W → Ev (fun k => epicyclelaw05_SieveFactors.l0 k x0 W 1 L (L.length : Int) 0) true → Ev (fun k => epicyclelaw05_SieveFactors.f k x0) true := by
    intro L W hl a b c
    refine Ev.congr (fun k => rfl) (Ev.bind alive_ev (evP rfl (Ev.bind a (Ev.bind b (evP (by omega) (Ev.bind P1 (Ev.bind P2 ?_)))))))
    refine Ev.step (fun k => ?_) c
    simp only [epicyclelaw05_SieveFactors.j0]
    rw [bne_self_eq_false, if_neg (by decide)]
  by_cases h : x0 < 2 ∨ 4294967296 < x0
  · refine fin [] [] rfl (Factor_none _ h).1 (Factor_none _ h).2 ?_
    refine Ev.step (f := fun _ => some true) (fun k => ?_) (Ev.now _)
    simp only [epicyclelaw05_SieveFactors.l0]
    rw [if_neg (by decide)]
    split
    · rfl
    · split
      · rfl
      · rw [decide_eq_true (by omega)]
  · obtain ⟨n, rfl⟩ : ∃ n : Nat, x0 = n := ⟨x0.toNat, by omega⟩
    obtain ⟨l, hl, a, b⟩ := Factor_both n (by omega) (by omega)
    have hlen := facs_len hl
    refine fin _ _ (by unfold m33 m34; rw [List.length_map, List.length_map]) a b ?_
    exact sf_l0 (by omega) l (fun x hx => (hl.1 x hx).1.1) (by omega) l 0 1 rfl (by rw [Nat.mul_one]; exact hl.2.2) (by omega)

end Go.Proofs.Ytcphlhphdpjnfaa.Pure
