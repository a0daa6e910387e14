/- Layer 4: what the document's side comes to; it is what the program's side comes to. -/
import Derived.Test.YtcnnaciilphadaaEv04r
import Derived.Test.YtcnnaciilphadaaRef02P
import Derived.Test.YtcnnaciilphadaaXP5
namespace Go.Proofs.Ytcnnaciilphadaa.XP
open Go Go.RowKit Go.Proofs.YtcnnaciilphadaaW.PrintWords Go.Proofs.YtcnnaciilphadaaW.PrintLast Go.Proofs.YtcnnaciilphadaaW.PrintMore Go.Proofs.Ytcnnaciilphadaa.Given Go.Proofs.Ytcnnaciilphadaa.Given04 Go.Proofs.Ytcnnaciilphadaa.M Go.Proofs.Ytcnnaciilphadaa.Mont

/-! #### Claimed -/
def has46 (L : List S46) (q : Int) : Bool := L.any fun e => e.f0 == q

theorem claimed_l0 {L : List S46} {q : Int} (hL : L.length ≤ 1000) (l : List S46) : ∀ i : Nat, L.drop i = l → Ev (fun k => epicycleref04_Claimed.l0 k q L (L.length : Int) i) (has46 l q) := by
  induction l with
  | nil =>
    intro i hd
    have : L.length ≤ i := by have := congrArg List.length hd; simp at this; omega
    have c : ¬ (i : Int) < (L.length : Int) := by omega
    refine Ev.step (f := fun _ => some false) (fun k => ?_) (Ev.now _)
    simp only [epicycleref04_Claimed.l0]
    rw [if_neg c]
  | cons x l ih =>
    intro i hd
    obtain ⟨hx, hlt, hd'⟩ := rd46_drop hd
    have c : (i : Int) < (L.length : Int) := by omega
    have c0 : 0 ≤ (i : Int) := by omega
    have w : wrap64 ((i : Int) + 1) = ((i + 1 : Nat) : Int) := by rw [w64_id _ (by omega) (by omega)]; omega
    have IH := ih (i + 1) hd'
    by_cases h : x.f0 = q
    · have e : has46 (x :: l) q = true := by unfold has46; rw [List.any_cons, beq_iff_eq.2 h, Bool.true_or]
      rw [e]
      refine Ev.step (f := fun _ => some true) (fun k => ?_) (Ev.now _)
      simp only [epicycleref04_Claimed.l0]
      rw [if_pos c, if_pos c0, if_pos c, hx, if_pos h]
    · have e : has46 (x :: l) q = has46 l q := by unfold has46; rw [List.any_cons, beq_eq_false_iff_ne.2 h, Bool.false_or]
      rw [e]
      refine Ev.step (fun k => ?_) IH
      simp only [epicycleref04_Claimed.l0]
      rw [if_pos c, if_pos c0, if_pos c, hx, if_neg h, w]

theorem claimed_ev {L : List S46} (q : Int) (hL : L.length ≤ 1000) : Ev (fun k => epicycleref04_Claimed.f k L q) (has46 L q) := by
  refine Ev.congr (fun k => ?_) (claimed_l0 hL L 0 rfl)
  unfold epicycleref04_Claimed.f
  rfl

/-! #### Product -/
def prodS (m : Int) : List (Int × Int) → Int → Int × Bool
  | [], n => (n, true)
  | x :: l, n => if x.2 < 1 ∨ x.2 > 62 ∨ x.1 < 2 then (0, false) else if n * x.1 ^ x.2.toNat > m then (0, false) else prodS m l (n * x.1 ^ x.2.toNat)

theorem prod_l1 {m i Q E len : Int} {L : List S60} {T : Int → Int × Bool} (um : U m) (hQ : 2 ≤ Q) (e2 : E ≤ 62)
    (hT : ∀ n, 1 ≤ n → n ≤ m → Ev (fun k => epicycleref04_Product.l0 k m n L len (wrap64 (i + 1))) (T n)) :
    ∀ (d : Nat) (c n : Int), 0 ≤ c → c + d = E → 1 ≤ n → n ≤ m → Ev (fun k => epicycleref04_Product.l1 k m n c L len i Q E) (if n * Q ^ d > m then (0, false) else T (n * Q ^ d))
  | 0, c, n, c0, cd, n1, nm => by
    have q : ¬ n > m := by omega
    have q2 : ¬ c < E := by omega
    rw [Int.pow_zero, Int.mul_one, if_neg q]
    refine Ev.step (fun k => ?_) (hT n n1 nm)
    simp only [epicycleref04_Product.l1]
    rw [if_neg q2]
  | d + 1, c, n, c0, cd, n1, nm => by
    have hQ0 : ¬ Q = 0 := by omega
    have q2 : c < E := by omega
    have hw : wrap64 (c + 1) = c + 1 := w64_id _ (by omega) (by omega)
    have e : n * Q ^ (d + 1) = n * Q * Q ^ d := by rw [Int.pow_succ, Int.mul_comm (Q ^ d) Q, Int.mul_assoc]
    have hp : n ≤ n * Q := mul_ge_left (by omega) (by omega)
    have hdv : IntKind.u64.wrap (Int.tdiv m Q) = m / Q := by
      have h0 : 0 ≤ m / Q := Int.ediv_nonneg um.1 (by omega)
      have h1 : m / Q ≤ m := Int.ediv_le_self _ um.1
      have h2 := um.2
      rw [tdiv_pos um.1, wu64_id _ h0 (by omega)]
    have hcmp : n > m / Q ↔ n * Q > m := by
      have := Int.le_ediv_iff_mul_le (a := n) (b := m) (c := Q) (by omega)
      omega
    by_cases hb : n > m / Q
    · have hb' : n * Q > m := hcmp.1 hb
      have : n * Q ^ (d + 1) > m := by
        rw [e]
        have := mul_ge_left (n := n * Q) (by omega) (pow_ge_one (q := Q) (by omega) d)
        omega
      rw [if_pos this]
      refine Ev.step (f := fun _ => some (0, false)) (fun k => ?_) (Ev.now _)
      simp only [epicycleref04_Product.l1]
      rw [if_pos q2, if_neg hQ0, hdv, if_pos hb]
    · have hb' : n * Q ≤ m := by have := fun h => hb (hcmp.2 h); omega
      have hwn : IntKind.u64.wrap (n * Q) = n * Q := wu64_id _ (by omega) (by have := um.2; omega)
      have IH := prod_l1 um hQ e2 hT d (c + 1) (n * Q) (by omega) (by omega) (by omega) hb'
      rw [e]
      refine Ev.step (fun k => ?_) IH
      simp only [epicycleref04_Product.l1]
      rw [if_pos q2, if_neg hQ0, hdv, if_neg hb, hwn, hw]

theorem prod_j1t {m n len i Q E : Int} {L : List S60} : Ev (fun k => epicycleref04_Product.j1 k m n L len i true Q E) (0, false) :=
  Ev.step (f := fun _ => some (0, false)) (fun k => by simp [epicycleref04_Product.j1]) (Ev.now _)

theorem prod_l0 {m : Int} {L : List S60} (um : U m) (hL : L.length ≤ 1000) (l : List S60) : ∀ (i : Nat) (n : Int), L.drop i = l → 1 ≤ n → n ≤ m →
    Ev (fun k => epicycleref04_Product.l0 k m n L (L.length : Int) i) (prodS m (l.map p60) n) := by
  induction l with
  | nil =>
    intro i n hd _ _
    have : L.length ≤ i := by have := congrArg List.length hd; simp at this; omega
    have c : ¬ (i : Int) < (L.length : Int) := by omega
    refine Ev.step (f := fun _ => some (n, true)) (fun k => ?_) (Ev.now _)
    simp only [epicycleref04_Product.l0]
    rw [if_neg c]
  | cons x l ih =>
    intro i n hd n1 nm
    obtain ⟨hx, hlt, hd'⟩ := rd60_drop hd
    have c : (i : Int) < (L.length : Int) := by omega
    have c0 : 0 ≤ (i : Int) := by omega
    have w : wrap64 ((i : Int) + 1) = ((i + 1 : Nat) : Int) := by rw [w64_id _ (by omega) (by omega)]; omega
    rw [List.map_cons]
    have hs : prodS m (p60 x :: l.map p60) n = if x.f1 < 1 ∨ x.f1 > 62 ∨ x.f0 < 2 then (0, false) else if n * x.f0 ^ x.f1.toNat > m then (0, false) else prodS m (l.map p60) (n * x.f0 ^ x.f1.toNat) := rfl
    rw [hs]
    have jT := prod_j1t (m := m) (n := n) (len := (L.length : Int)) (i := i) (Q := x.f0) (E := x.f1) (L := L)
    by_cases h1 : x.f1 < 1
    · rw [if_pos (.inl h1)]
      refine Ev.step (fun k => ?_) jT
      simp only [epicycleref04_Product.l0]
      rw [if_pos c, if_pos c0, if_pos c, hx, if_pos h1]
    by_cases h2 : x.f1 > 62
    · rw [if_pos (.inr (.inl h2))]
      refine Ev.step (fun k => ?_) jT
      simp only [epicycleref04_Product.l0]
      rw [if_pos c, if_pos c0, if_pos c, hx, if_neg h1, if_pos h2]
    by_cases h3 : x.f0 < 2
    · rw [if_pos (.inr (.inr h3))]
      refine Ev.step (fun k => ?_) jT
      simp only [epicycleref04_Product.l0]
      rw [if_pos c, if_pos c0, if_pos c, hx, if_neg h1, if_neg h2, decide_eq_true h3]
    have hno : ¬ (x.f1 < 1 ∨ x.f1 > 62 ∨ x.f0 < 2) := by omega
    have q2 : 2 ≤ x.f0 := by omega
    have e2 : x.f1 ≤ 62 := by omega
    have e3 : (0 : Int) + (x.f1.toNat : Nat) = x.f1 := by omega
    rw [if_neg hno]
    have L1 := prod_l1 (m := m) (i := i) (Q := x.f0) (E := x.f1) (len := (L.length : Int)) (L := L) (T := prodS m (l.map p60)) um q2 e2 (fun n n1 nm => by rw [w]; exact ih (i + 1) n hd' n1 nm) x.f1.toNat 0 n (Int.le_refl 0) e3 n1 nm
    refine Ev.step (f := fun k => epicycleref04_Product.j1 k m n L (L.length : Int) i false x.f0 x.f1) (fun k => ?_) (Ev.step (fun k => ?_) L1)
    · simp only [epicycleref04_Product.l0]
      rw [if_pos c, if_pos c0, if_pos c, hx, if_neg h1, if_neg h2, decide_eq_false h3]
    · simp only [epicycleref04_Product.j1]
      rw [if_neg ft]

theorem prod_ev {m : Int} {L : List S60} (um : U m) (h1 : 1 ≤ m) (hL : L.length ≤ 1000) : Ev (fun k => epicycleref04_Product.f k L m) (prodS m (L.map p60) 1) := by
  refine Ev.congr (fun k => ?_) (prod_l0 um hL L 0 1 rfl (Int.le_refl 1) h1)
  unfold epicycleref04_Product.f
  rfl

/-! #### both products are one -/
def chainS (A : Int → Bool) : Int → List (Int × Int) → Bool
  | _, [] => true
  | q, x :: l => (decide (q < x.1) && A x.1) && chainS A x.1 l

theorem wr_gt {A : Int → Bool} {m : Int} : ∀ (l : List (Int × Int)) (q n : Int), 2 ≤ q → m < n → 0 ≤ n → wr A m q l n = false
  | [], q, n, _, hn, _ => by unfold wr; exact beq_eq_false_iff_ne.mpr (by omega)
  | x :: l, q, n, hq, hn, h0 => by
    unfold wr
    by_cases h : q < x.1
    · have := mul_ge_left (n := n) h0 (pow_ge_one (q := x.1) (by omega) x.2.toNat)
      rw [wr_gt l x.1 _ (by omega) (by omega) (by omega), Bool.and_false]
    · rw [decide_eq_false h]; simp

theorem wr_split {A : Int → Bool} {m : Int} : ∀ (l : List (Int × Int)) (q n : Int), 2 ≤ q → 0 ≤ n → wr A m q l n = (chainS A q l && (prodS m l n == (m, true)))
  | [], q, n, _, _ => by
    unfold wr chainS prodS
    rw [Bool.true_and]
    by_cases h : n = m
    · rw [h]; simp
    · rw [beq_eq_false_iff_ne.mpr h, beq_eq_false_iff_ne.mpr (fun e => h (congrArg Prod.fst e))]
  | x :: l, q, n, hq, h0 => by
    unfold wr chainS prodS
    by_cases h : q < x.1
    · rw [decide_eq_true h]
      cases hA : A x.1 with
      | false => simp
      | true =>
        by_cases h1 : x.2 < 1
        · have c1 : ¬ 1 ≤ x.2 := by omega
          rw [if_pos (.inl h1), decide_eq_false c1]; simp
        by_cases h2 : x.2 > 62
        · have c2 : ¬ x.2 ≤ 62 := by omega
          rw [if_pos (.inr (.inl h2)), decide_eq_false c2]; simp
        have c1 : 1 ≤ x.2 := by omega
        have c2 : x.2 ≤ 62 := by omega
        have c3 : ¬ (x.2 < 1 ∨ x.2 > 62 ∨ x.1 < 2) := by omega
        have hge := mul_ge_left (n := n) h0 (pow_ge_one (q := x.1) (by omega) x.2.toNat)
        rw [if_neg c3, decide_eq_true c1, decide_eq_true c2]
        by_cases h4 : n * x.1 ^ x.2.toNat > m
        · rw [if_pos h4, wr_gt l x.1 _ (by omega) h4 (by omega)]; simp
        · rw [if_neg h4, wr_split l x.1 _ (by omega) (by omega)]; simp
    · rw [decide_eq_false h]; simp

theorem whole_split {A : Int → Bool} {P : Int} {x : Int × Int} {t : List (Int × Int)} : wholeS A P (x :: t) = ((decide ((x :: t).length ≤ 16) && (x.1 == 2)) && (chainS A x.1 t && (prodS (P - 1) (x :: t) 1 == (P - 1, true)))) := by
  rw [wholeS_cons]
  unfold prodS
  by_cases h : x.1 = 2
  · rw [h]
    by_cases h1 : x.2 < 1
    · have c1 : ¬ 1 ≤ x.2 := by omega
      rw [if_pos (.inl h1), decide_eq_false c1]; simp
    by_cases h2 : x.2 > 62
    · have c2 : ¬ x.2 ≤ 62 := by omega
      rw [if_pos (.inr (.inl h2)), decide_eq_false c2]; simp
    have c1 : 1 ≤ x.2 := by omega
    have c2 : x.2 ≤ 62 := by omega
    have c3 : ¬ (x.2 < 1 ∨ x.2 > 62 ∨ (2 : Int) < 2) := by omega
    have hge : 1 ≤ (2 : Int) ^ x.2.toNat := pow_ge_one (by omega) _
    rw [if_neg c3, decide_eq_true c1, decide_eq_true c2, Int.one_mul]
    by_cases h4 : (2 : Int) ^ x.2.toNat > P - 1
    · rw [if_pos h4, wr_gt t 2 _ (Int.le_refl 2) h4 (by omega)]; simp
    · rw [if_neg h4, wr_split t 2 _ (Int.le_refl 2) (by omega)]; simp
  · rw [show (x.1 == 2) = false from beq_eq_false_iff_ne.mpr h]; simp

end Go.Proofs.Ytcnnaciilphadaa.XP
