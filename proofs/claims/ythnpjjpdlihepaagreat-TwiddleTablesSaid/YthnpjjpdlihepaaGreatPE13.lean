/- Parts of this claim's texts, packed by wip/tools/prune.py: what the proof does not reach is left out. -/
import Derived.Test.YthnpjjpdlihepaaGreatPE12
section
namespace Go.Proofs.YthnpjjpdlihepaaGreat.XR
open Go.Proofs.YthnpjjpdlihepaaGreat.XS Go.Proofs.YthnpjjpdlihepaaGreat.XT
open Go Go.RowKit Go.Proofs.YthnpjjpdlihepaaGreatW.PrintWords Go.Proofs.YthnpjjpdlihepaaGreatW.PrintLast Go.Proofs.YthnpjjpdlihepaaGreatW.PrintMore Go.Proofs.YthnpjjpdlihepaaGreat.Given Go.Proofs.YthnpjjpdlihepaaGreat.Given04 Go.Proofs.YthnpjjpdlihepaaGreat.M Go.Proofs.YthnpjjpdlihepaaGreat.Mont
def has46 (L : List S71) (q : Int) : Bool := L.any fun e => e.f0 == q
theorem claimed_l0 {L : List S71} {q : Int} (hL : L.length ≤ 1000) (l : List S71) : ∀ i : Nat, L.drop i = l → Ev (fun k => epicycleref04_Claimed.l0 k q L (L.length : Int) i) (has46 l q) := by
  induction l with
  | nil =>
    intro i hd
    have : L.length ≤ i := by have := congrArg List.length hd; simp at this; omega
    have c : ¬ (i : Int) < (L.length : Int) := by omega
    refine Ev.step (f := fun _ => some false) (fun k => ?_) (Ev.now _)
    simp only [epicycleref04_Claimed.l0]
    rw [if_neg c]
  | cons x l ih =>
    intro i hd
    obtain ⟨hx, hlt, hd'⟩ := rd46_drop hd
    have c : (i : Int) < (L.length : Int) := by omega
    have c0 : 0 ≤ (i : Int) := by omega
    have w : wrap64 ((i : Int) + 1) = ((i + 1 : Nat) : Int) := by rw [w64_id _ (by omega) (by omega)]; omega
    have IH := ih (i + 1) hd'
    by_cases h : x.f0 = q
    · have e : has46 (x :: l) q = true := by unfold has46; rw [List.any_cons, beq_iff_eq.2 h, Bool.true_or]
      rw [e]
      refine Ev.step (f := fun _ => some true) (fun k => ?_) (Ev.now _)
      simp only [epicycleref04_Claimed.l0]
      rw [if_pos c, if_pos c0, if_pos c, hx, if_pos h]
    · have e : has46 (x :: l) q = has46 l q := by unfold has46; rw [List.any_cons, beq_eq_false_iff_ne.2 h, Bool.false_or]
      rw [e]
      refine Ev.step (fun k => ?_) IH
      simp only [epicycleref04_Claimed.l0]
      rw [if_pos c, if_pos c0, if_pos c, hx, if_neg h, w]
theorem claimed_ev {L : List S71} (q : Int) (hL : L.length ≤ 1000) : Ev (fun k => epicycleref04_Claimed.f k L q) (has46 L q) := by
  refine Ev.congr (fun k => ?_) (claimed_l0 hL L 0 rfl)
  unfold epicycleref04_Claimed.f
  rfl
def prodS (m : Int) : List (Int × Int) → Int → Int × Bool
  | [], n => (n, true)
  | x :: l, n => if x.2 < 1 ∨ x.2 > 62 ∨ x.1 < 2 then (0, false) else if n * x.1 ^ x.2.toNat > m then (0, false) else prodS m l (n * x.1 ^ x.2.toNat)
theorem prod_l1 {m i Q E len : Int} {L : List S83} {T : Int → Int × Bool} (um : U m) (hQ : 2 ≤ Q) (e2 : E ≤ 62)
    (hT : ∀ n, 1 ≤ n → n ≤ m → Ev (fun k => epicycleref04_Product.l0 k m n L len (wrap64 (i + 1))) (T n)) :
    ∀ (d : Nat) (c n : Int), 0 ≤ c → c + d = E → 1 ≤ n → n ≤ m → Ev (fun k => epicycleref04_Product.l1 k m n c L len i Q E) (if n * Q ^ d > m then (0, false) else T (n * Q ^ d))
  | 0, c, n, c0, cd, n1, nm => by
    have q : ¬ n > m := by omega
    have q2 : ¬ c < E := by omega
    rw [Int.pow_zero, Int.mul_one, if_neg q]
    refine Ev.step (fun k => ?_) (hT n n1 nm)
    simp only [epicycleref04_Product.l1]
    rw [if_neg q2]
  | d + 1, c, n, c0, cd, n1, nm => by
    have hQ0 : ¬ Q = 0 := by omega
    have q2 : c < E := by omega
    have hw : wrap64 (c + 1) = c + 1 := w64_id _ (by omega) (by omega)
    have e : n * Q ^ (d + 1) = n * Q * Q ^ d := by rw [Int.pow_succ, Int.mul_comm (Q ^ d) Q, Int.mul_assoc]
    have hp : n ≤ n * Q := mul_ge_left (by omega) (by omega)
    have hdv : IntKind.u64.wrap (Int.tdiv m Q) = m / Q := by
      have h0 : 0 ≤ m / Q := Int.ediv_nonneg um.1 (by omega)
      have h1 : m / Q ≤ m := Int.ediv_le_self _ um.1
      have h2 := um.2
      rw [tdiv_pos um.1, wu64_id _ h0 (by omega)]
    have hcmp : n > m / Q ↔ n * Q > m := by
      have := Int.le_ediv_iff_mul_le (a := n) (b := m) (c := Q) (by omega)
      omega
    by_cases hb : n > m / Q
    · have hb' : n * Q > m := hcmp.1 hb
      have : n * Q ^ (d + 1) > m := by
        rw [e]
        have := mul_ge_left (n := n * Q) (by omega) (pow_ge_one (q := Q) (by omega) d)
        omega
      rw [if_pos this]
      refine Ev.step (f := fun _ => some (0, false)) (fun k => ?_) (Ev.now _)
      simp only [epicycleref04_Product.l1]
      rw [if_pos q2, if_neg hQ0, hdv, if_pos hb]
    · have hb' : n * Q ≤ m := by have := fun h => hb (hcmp.2 h); omega
      have hwn : IntKind.u64.wrap (n * Q) = n * Q := wu64_id _ (by omega) (by have := um.2; omega)
      have IH := prod_l1 um hQ e2 hT d (c + 1) (n * Q) (by omega) (by omega) (by omega) hb'
      rw [e]
      refine Ev.step (fun k => ?_) IH
      simp only [epicycleref04_Product.l1]
      rw [if_pos q2, if_neg hQ0, hdv, if_neg hb, hwn, hw]
theorem prod_j1t {m n len i Q E : Int} {L : List S83} : Ev (fun k => epicycleref04_Product.j1 k m n L len i true Q E) (0, false) :=
  Ev.step (f := fun _ => some (0, false)) (fun k => by simp [epicycleref04_Product.j1]) (Ev.now _)
theorem prod_l0 {m : Int} {L : List S83} (um : U m) (hL : L.length ≤ 1000) (l : List S83) : ∀ (i : Nat) (n : Int), L.drop i = l → 1 ≤ n → n ≤ m →
    Ev (fun k => epicycleref04_Product.l0 k m n L (L.length : Int) i) (prodS m (l.map p60) n) := by
  induction l with
  | nil =>
    intro i n hd _ _
    have : L.length ≤ i := by have := congrArg List.length hd; simp at this; omega
    have c : ¬ (i : Int) < (L.length : Int) := by omega
    refine Ev.step (f := fun _ => some (n, true)) (fun k => ?_) (Ev.now _)
    simp only [epicycleref04_Product.l0]
    rw [if_neg c]
  | cons x l ih =>
    intro i n hd n1 nm
    obtain ⟨hx, hlt, hd'⟩ := rd60_drop hd
    have c : (i : Int) < (L.length : Int) := by omega
    have c0 : 0 ≤ (i : Int) := by omega
    have w : wrap64 ((i : Int) + 1) = ((i + 1 : Nat) : Int) := by rw [w64_id _ (by omega) (by omega)]; omega
    rw [List.map_cons]
    have hs : prodS m (p60 x :: l.map p60) n = if x.f1 < 1 ∨ x.f1 > 62 ∨ x.f0 < 2 then (0, false) else if n * x.f0 ^ x.f1.toNat > m then (0, false) else prodS m (l.map p60) (n * x.f0 ^ x.f1.toNat) := rfl
    rw [hs]
    have jT := prod_j1t (m := m) (n := n) (len := (L.length : Int)) (i := i) (Q := x.f0) (E := x.f1) (L := L)
    by_cases h1 : x.f1 < 1
    · rw [if_pos (.inl h1)]
      refine Ev.step (fun k => ?_) jT
      simp only [epicycleref04_Product.l0]
      rw [if_pos c, if_pos c0, if_pos c, hx, if_pos h1]
    by_cases h2 : x.f1 > 62
    · rw [if_pos (.inr (.inl h2))]
      refine Ev.step (fun k => ?_) jT
      simp only [epicycleref04_Product.l0]
      rw [if_pos c, if_pos c0, if_pos c, hx, if_neg h1, if_pos h2]
    by_cases h3 : x.f0 < 2
    · rw [if_pos (.inr (.inr h3))]
      refine Ev.step (fun k => ?_) jT
      simp only [epicycleref04_Product.l0]
      rw [if_pos c, if_pos c0, if_pos c, hx, if_neg h1, if_neg h2, decide_eq_true h3]
    have hno : ¬ (x.f1 < 1 ∨ x.f1 > 62 ∨ x.f0 < 2) := by omega
    have q2 : 2 ≤ x.f0 := by omega
    have e2 : x.f1 ≤ 62 := by omega
    have e3 : (0 : Int) + (x.f1.toNat : Nat) = x.f1 := by omega
    rw [if_neg hno]
    have L1 := prod_l1 (m := m) (i := i) (Q := x.f0) (E := x.f1) (len := (L.length : Int)) (L := L) (T := prodS m (l.map p60)) um q2 e2 (fun n n1 nm => by rw [w]; exact ih (i + 1) n hd' n1 nm) x.f1.toNat 0 n (Int.le_refl 0) e3 n1 nm
    refine Ev.step (f := fun k => epicycleref04_Product.j1 k m n L (L.length : Int) i false x.f0 x.f1) (fun k => ?_) (Ev.step (fun k => ?_) L1)
    · simp only [epicycleref04_Product.l0]
      rw [if_pos c, if_pos c0, if_pos c, hx, if_neg h1, if_neg h2, decide_eq_false h3]
    · simp only [epicycleref04_Product.j1]
      rw [if_neg ft]
theorem prod_ev {m : Int} {L : List S83} (um : U m) (h1 : 1 ≤ m) (hL : L.length ≤ 1000) : Ev (fun k => epicycleref04_Product.f k L m) (prodS m (L.map p60) 1) := by
  refine Ev.congr (fun k => ?_) (prod_l0 um hL L 0 1 rfl (Int.le_refl 1) h1)
  unfold epicycleref04_Product.f
  rfl
def chainS (A : Int → Bool) : Int → List (Int × Int) → Bool
  | _, [] => true
  | q, x :: l => (decide (q < x.1) && A x.1) && chainS A x.1 l
theorem wr_gt {A : Int → Bool} {m : Int} : ∀ (l : List (Int × Int)) (q n : Int), 2 ≤ q → m < n → 0 ≤ n → wr A m q l n = false
  | [], q, n, _, hn, _ => by unfold wr; exact beq_eq_false_iff_ne.mpr (by omega)
  | x :: l, q, n, hq, hn, h0 => by
    unfold wr
    by_cases h : q < x.1
    · have := mul_ge_left (n := n) h0 (pow_ge_one (q := x.1) (by omega) x.2.toNat)
      rw [wr_gt l x.1 _ (by omega) (by omega) (by omega), Bool.and_false]
    · rw [decide_eq_false h]; simp
theorem wr_split {A : Int → Bool} {m : Int} : ∀ (l : List (Int × Int)) (q n : Int), 2 ≤ q → 0 ≤ n → wr A m q l n = (chainS A q l && (prodS m l n == (m, true)))
  | [], q, n, _, _ => by
    unfold wr chainS prodS
    rw [Bool.true_and]
    by_cases h : n = m
    · rw [h]; simp
    · rw [beq_eq_false_iff_ne.mpr h, beq_eq_false_iff_ne.mpr (fun e => h (congrArg Prod.fst e))]
  | x :: l, q, n, hq, h0 => by
    unfold wr chainS prodS
    by_cases h : q < x.1
    · rw [decide_eq_true h]
      cases hA : A x.1 with
      | false => simp
      | true =>
        by_cases h1 : x.2 < 1
        · have c1 : ¬ 1 ≤ x.2 := by omega
          rw [if_pos (.inl h1), decide_eq_false c1]; simp
        by_cases h2 : x.2 > 62
        · have c2 : ¬ x.2 ≤ 62 := by omega
          rw [if_pos (.inr (.inl h2)), decide_eq_false c2]; simp
        have c1 : 1 ≤ x.2 := by omega
        have c2 : x.2 ≤ 62 := by omega
        have c3 : ¬ (x.2 < 1 ∨ x.2 > 62 ∨ x.1 < 2) := by omega
        have hge := mul_ge_left (n := n) h0 (pow_ge_one (q := x.1) (by omega) x.2.toNat)
        rw [if_neg c3, decide_eq_true c1, decide_eq_true c2]
        by_cases h4 : n * x.1 ^ x.2.toNat > m
        · rw [if_pos h4, wr_gt l x.1 _ (by omega) h4 (by omega)]; simp
        · rw [if_neg h4, wr_split l x.1 _ (by omega) (by omega)]; simp
    · rw [decide_eq_false h]; simp
theorem whole_split {A : Int → Bool} {P : Int} {x : Int × Int} {t : List (Int × Int)} : wholeS A P (x :: t) = ((decide ((x :: t).length ≤ 16) && (x.1 == 2)) && (chainS A x.1 t && (prodS (P - 1) (x :: t) 1 == (P - 1, true)))) := by
  rw [wholeS_cons]
  unfold prodS
  by_cases h : x.1 = 2
  · rw [h]
    by_cases h1 : x.2 < 1
    · have c1 : ¬ 1 ≤ x.2 := by omega
      rw [if_pos (.inl h1), decide_eq_false c1]; simp
    by_cases h2 : x.2 > 62
    · have c2 : ¬ x.2 ≤ 62 := by omega
      rw [if_pos (.inr (.inl h2)), decide_eq_false c2]; simp
    have c1 : 1 ≤ x.2 := by omega
    have c2 : x.2 ≤ 62 := by omega
    have c3 : ¬ (x.2 < 1 ∨ x.2 > 62 ∨ (2 : Int) < 2) := by omega
    have hge : 1 ≤ (2 : Int) ^ x.2.toNat := pow_ge_one (by omega) _
    rw [if_neg c3, decide_eq_true c1, decide_eq_true c2, Int.one_mul]
    by_cases h4 : (2 : Int) ^ x.2.toNat > P - 1
    · rw [if_pos h4, wr_gt t 2 _ (Int.le_refl 2) h4 (by omega)]; simp
    · rw [if_neg h4, wr_split t 2 _ (Int.le_refl 2) (by omega)]; simp
  · rw [show (x.1 == 2) = false from beq_eq_false_iff_ne.mpr h]; simp
end Go.Proofs.YthnpjjpdlihepaaGreat.XR
end
section
namespace Go.Proofs.YthnpjjpdlihepaaGreat.XR
open Go.Proofs.YthnpjjpdlihepaaGreat.XS Go.Proofs.YthnpjjpdlihepaaGreat.XT
open Go Go.RowKit Go.Proofs.YthnpjjpdlihepaaGreatW.PrintWords Go.Proofs.YthnpjjpdlihepaaGreatW.PrintLast Go.Proofs.YthnpjjpdlihepaaGreatW.PrintMore Go.Proofs.YthnpjjpdlihepaaGreat.Given Go.Proofs.YthnpjjpdlihepaaGreat.Given04 Go.Proofs.YthnpjjpdlihepaaGreat.M Go.Proofs.YthnpjjpdlihepaaGreat.Mont
section
variable {L : List S71} {a : Nat} {P G : Int} {F : List S83}
theorem rr_j1t {x1 : Int} : Ev (fun k => epicycleref04_Right.j1 k L x1 true P G F) false :=
  Ev.step (f := fun _ => some false) (fun k => by simp [epicycleref04_Right.j1]) (Ev.now _)
theorem rr_j3t {x1 x6 : Int} : Ev (fun k => epicycleref04_Right.j3 k L x1 x6 true P G F) false :=
  Ev.step (f := fun _ => some false) (fun k => by simp [epicycleref04_Right.j3]) (Ev.now _)
theorem rr_j4t : Ev (fun k => epicycleref04_Right.j4 k true P G F) false :=
  Ev.step (f := fun _ => some false) (fun k => by simp [epicycleref04_Right.j4]) (Ev.now _)
theorem rr_j0t {x1 : Int} : Ev (fun k => epicycleref04_Right.j0 k L x1 true P G F) false :=
  Ev.step (f := fun _ => some false) (fun k => by simp [epicycleref04_Right.j0]) (Ev.now _)
theorem rr_l1 (uP : U P) (uG : U G) (hP : 3 ≤ P) (h16 : F.length ≤ 16) (hok : okL (F.map p60)) (h2 : ∀ x ∈ F.map p60, 2 ≤ x.1) (l : List S83) : ∀ i : Nat, F.drop i = l →
    Ev (fun k => epicycleref04_Right.l1 k F (F.length : Int) i P G F) (!((l.map p60).any fun x => G ^ ((P - 1) / x.1).toNat % P == 1)) := by
  induction l with
  | nil =>
    intro i hd
    have : F.length ≤ i := by have := congrArg List.length hd; simp at this; omega
    have c : ¬ (i : Int) < (F.length : Int) := by omega
    refine Ev.step (f := fun _ => some true) (fun k => ?_) (Ev.now _)
    simp only [epicycleref04_Right.l1]
    rw [if_neg c]
  | cons x l ih =>
    intro i hd
    obtain ⟨hx, hlt, hd'⟩ := rd60_drop hd
    have hxm : p60 x ∈ F.map p60 := List.mem_map_of_mem (List.mem_of_mem_drop (show x ∈ F.drop i by rw [hd]; exact List.mem_cons_self))
    have hx2 : 2 ≤ x.f0 := h2 _ hxm
    have ux : U x.f0 := (hok _ hxm).1
    have c : (i : Int) < (F.length : Int) := by omega
    have c0 : 0 ≤ (i : Int) := by omega
    have cz : ¬ x.f0 = 0 := by omega
    have w : wrap64 ((i : Int) + 1) = ((i + 1 : Nat) : Int) := by rw [w64_id _ (by omega) (by omega)]; omega
    have wp : IntKind.u64.wrap (P - 1) = P - 1 := wu64_id _ (by omega) (by have := uP.2; omega)
    have hq0 : 0 ≤ (P - 1) / x.f0 := Int.ediv_nonneg (by omega) (by omega)
    have hq1 : (P - 1) / x.f0 ≤ P - 1 := Int.ediv_le_self _ (by omega)
    have hq2 : (P - 1) / x.f0 < 18446744073709551616 := by have := uP.2; omega
    have wd : IntKind.u64.wrap (Int.tdiv (P - 1) x.f0) = (P - 1) / x.f0 := by rw [tdiv_pos (by omega), wu64_id _ hq0 hq2]
    have hp := ref02_Pow_ev uG ⟨hq0, hq2⟩ uP (show P ≠ 0 by omega)
    have IH := ih (i + 1) hd'
    rw [List.map_cons, List.any_cons]
    have hg : G ^ ((P - 1) / (p60 x).1).toNat % P = G ^ ((P - 1) / x.f0).toNat % P := rfl
    rw [hg]
    by_cases h : G ^ ((P - 1) / x.f0).toNat % P = 1
    · rw [h, show ((1 : Int) == 1) = true from rfl, Bool.true_or]
      rw [h] at hp
      refine Ev.step (f := fun k => (epicycleref02_Pow.f k G ((P - 1) / x.f0) P).bind fun t177 => (if t177 = 1 then (some false) else (epicycleref04_Right.l1 k F (F.length : Int) ((i + 1 : Nat) : Int) P G F))) (fun k => ?_) (Ev.bind hp ?_)
      · simp only [epicycleref04_Right.l1]
        rw [if_pos c, if_pos c0, if_pos c, hx, if_neg cz, wp, wd, w]
      · exact evP rfl (Ev.now _)
    · rw [beq_eq_false_iff_ne.mpr h, Bool.false_or]
      refine Ev.step (f := fun k => (epicycleref02_Pow.f k G ((P - 1) / x.f0) P).bind fun t177 => (if t177 = 1 then (some false) else (epicycleref04_Right.l1 k F (F.length : Int) ((i + 1 : Nat) : Int) P G F))) (fun k => ?_) (Ev.bind hp ?_)
      · simp only [epicycleref04_Right.l1]
        rw [if_pos c, if_pos c0, if_pos c, hx, if_neg cz, wp, wd, w]
      · exact evN h IH
theorem prodS_two {m : Int} : ∀ (l : List (Int × Int)) (n : Int), (prodS m l n).2 = true → ∀ x ∈ l, 2 ≤ x.1
  | [], _, _ => by simp
  | y :: l, n, h => by
    unfold prodS at h
    by_cases c : y.2 < 1 ∨ y.2 > 62 ∨ y.1 < 2
    · rw [if_pos c] at h; exact absurd h ft
    rw [if_neg c] at h
    by_cases c2 : n * y.1 ^ y.2.toNat > m
    · rw [if_pos c2] at h; exact absurd h ft
    rw [if_neg c2] at h
    intro x hx
    rcases List.mem_cons.1 hx with rfl | hx
    · omega
    · exact prodS_two l _ h x hx
def tailS (P G : Int) (l : List (Int × Int)) : Bool := (prodS (P - 1) l 1 == (P - 1, true)) && (decide (2 ≤ G ∧ G < P) && fullS P G l)
theorem rr_tail {x1 : Int} (uP : U P) (uG : U G) (hP : 3 ≤ P) (h16 : F.length ≤ 16) (hok : okL (F.map p60)) : Ev (fun k => epicycleref04_Right.l0 k L x1 (F.length : Int) P G F) (tailS P G (F.map p60)) := by
  have wp : IntKind.u64.wrap (P - 1) = P - 1 := wu64_id _ (by omega) (by have := uP.2; omega)
  have um : U (P - 1) := by unfold U at *; omega
  have m1 : 1 ≤ P - 1 := by omega
  have hpr := prod_ev (L := F) um m1 (by omega)
  have hz : P ≠ 0 := by omega
  have hpw := ref02_Pow_ev uG um uP hz
  refine Ev.step (f := fun k => (epicycleref04_Product.f k F (P - 1)).bind fun bt172 => (if bt172.2 = true then (if bt172.1 = P - 1 then (if G < 2 then (epicycleref04_Right.j4 k true P G F) else (if G ≥ P then (epicycleref04_Right.j4 k true P G F) else ((epicycleref02_Pow.f k G (P - 1) P).bind fun t174 => (epicycleref04_Right.j4 k (t174 != 1) P G F)))) else (epicycleref04_Right.j4 k true P G F)) else (epicycleref04_Right.j4 k true P G F))) (fun k => ?_) (Ev.bind hpr ?_)
  · simp only [epicycleref04_Right.l0]
    rw [if_neg (Int.lt_irrefl _), wp]
  unfold tailS
  have h2 := prodS_two (m := P - 1) (F.map p60) 1
  generalize prodS (P - 1) (F.map p60) 1 = R at *
  obtain ⟨n, b⟩ := R
  cases b with
  | false =>
    have e : ((n, false) == (P - 1, true)) = false := beq_eq_false_iff_ne.mpr (fun e => ft (congrArg Prod.snd e))
    rw [e, Bool.false_and]
    exact evN ft rr_j4t
  | true =>
    refine evP rfl ?_
    by_cases hn : n = P - 1
    · subst hn
      rw [show ((P - 1, true) == (P - 1, true)) = true from beq_self_eq_true _, Bool.true_and]
      refine evP rfl ?_
      by_cases c1 : G < 2
      · have : ¬ (2 ≤ G ∧ G < P) := by omega
        rw [decide_eq_false this, Bool.false_and]
        exact evP c1 rr_j4t
      refine evN c1 ?_
      by_cases c2 : G ≥ P
      · have : ¬ (2 ≤ G ∧ G < P) := by omega
        rw [decide_eq_false this, Bool.false_and]
        exact evP c2 rr_j4t
      have c3 : 2 ≤ G ∧ G < P := by omega
      refine evN c2 ?_
      rw [decide_eq_true c3, Bool.true_and]
      refine Ev.bind hpw ?_
      unfold fullS
      by_cases c4 : G ^ (P - 1).toNat % P = 1
      · rw [c4, show ((1 : Int) == 1) = true from rfl, Bool.true_and]
        refine Ev.step (f := fun k => epicycleref04_Right.l1 k F (F.length : Int) 0 P G F) (fun k => ?_) (rr_l1 uP uG hP h16 hok (h2 rfl) F 0 rfl)
        simp only [epicycleref04_Right.j4]
        rw [if_neg (show ¬ ((1 : Int) != 1) = true by decide)]
      · rw [beq_eq_false_iff_ne.mpr c4, Bool.false_and, show (G ^ (P - 1).toNat % P != 1) = true by rw [bne, beq_eq_false_iff_ne.mpr c4]; rfl]
        exact rr_j4t
    · have e : ((n, true) == (P - 1, true)) = false := beq_eq_false_iff_ne.mpr (fun e => hn (congrArg Prod.fst e))
      rw [e, Bool.false_and]
      exact evN hn rr_j4t
theorem rr_l0 (ha : a ≤ L.length) (hL : L.length ≤ 1000) (uP : U P) (uG : U G) (hP : 3 ≤ P) (h16 : F.length ≤ 16) (hok : okL (F.map p60)) (l : List S83) : ∀ (i : Nat) (q : Int), F.drop i = l → 1 ≤ i → i ≤ F.length → (rd_T83 F ((i - 1 : Nat) : Int)).f0 = q →
    Ev (fun k => epicycleref04_Right.l0 k L (a : Int) i P G F) (chainS (has46 (L.take a)) q (l.map p60) && tailS P G (F.map p60)) := by
  induction l with
  | nil =>
    intro i q hd i1 il hq
    have : F.length ≤ i := by have := congrArg List.length hd; simp at this; omega
    have e : i = F.length := by omega
    subst e
    rw [List.map_nil, chainS, Bool.true_and]
    exact rr_tail uP uG hP h16 hok
  | cons x l ih =>
    intro i q hd i1 il hq
    obtain ⟨hx, hlt, hd'⟩ := rd60_drop hd
    have c : (i : Int) < (F.length : Int) := by omega
    have c0 : 0 ≤ (i : Int) := by omega
    have w1 : wrap64 ((i : Int) - 1) = ((i - 1 : Nat) : Int) := by rw [w64_id _ (by omega) (by omega)]; omega
    have p1 : 0 ≤ ((i - 1 : Nat) : Int) := by omega
    have p2 : ((i - 1 : Nat) : Int) < (F.length : Int) := by omega
    have w : wrap64 ((i : Int) + 1) = ((i + 1 : Nat) : Int) := by rw [w64_id _ (by omega) (by omega)]; omega
    have a0 : 0 ≤ (a : Int) := by omega
    have a1 : (a : Int) ≤ (L.length : Int) := by omega
    have lt : (L.take a).length ≤ 1000 := by simp; omega
    rw [List.map_cons, chainS]
    by_cases h3 : x.f0 ≤ q
    · have n3 : ¬ q < (p60 x).1 := by show ¬ q < x.f0; omega
      rw [decide_eq_false n3, Bool.false_and, Bool.false_and, Bool.false_and]
      refine Ev.step (fun k => ?_) (rr_j3t (L := L) (x1 := (a : Int)) (x6 := (i : Int)) (P := P) (G := G) (F := F))
      simp only [epicycleref04_Right.l0]
      rw [if_pos c, if_pos c0, w1, if_pos p1, if_pos p2, hx, hq, if_pos h3]
    have n3 : q < (p60 x).1 := by show q < x.f0; omega
    have hc := claimed_ev (L := L.take a) x.f0 lt
    have E : ∀ k, epicycleref04_Right.l0 (k + 1) L (a : Int) i P G F = (epicycleref04_Claimed.f k (L.take a) x.f0).bind fun t171 => (epicycleref04_Right.j3 k L (a : Int) i (!t171) P G F) := fun k => by
      simp only [epicycleref04_Right.l0]
      rw [if_pos c, if_pos c0, w1, if_pos p1, if_pos p2, hx, hq, if_neg h3, if_pos a0, if_pos a1, Int.toNat_natCast]
    refine Ev.step E (Ev.bind hc ?_)
    rw [decide_eq_true n3, Bool.true_and]
    have hA : has46 (L.take a) (p60 x).1 = has46 (L.take a) x.f0 := rfl
    rw [hA]
    cases has46 (L.take a) x.f0 with
    | false =>
      rw [Bool.false_and, Bool.false_and]
      exact rr_j3t
    | true =>
      rw [Bool.true_and]
      have hq' : (rd_T83 F ((i + 1 - 1 : Nat) : Int)).f0 = (p60 x).1 := by rw [show i + 1 - 1 = i from rfl, hx]; rfl
      have IH := ih (i + 1) (p60 x).1 hd' (by omega) (by omega) hq'
      refine Ev.step (fun k => ?_) IH
      simp only [epicycleref04_Right.j3]
      rw [if_neg (show ¬ (!true) = true by decide), w]
theorem rr_j0 (ha : a ≤ L.length) (hL : L.length ≤ 1000) (uP : U P) (uG : U G) (hP : 3 ≤ P) (hok : okL (F.map p60)) :
    Ev (fun k => epicycleref04_Right.j0 k L (a : Int) false P G F) (wholeS (has46 (L.take a)) P (F.map p60) && (decide (2 ≤ G ∧ G < P) && fullS P G (F.map p60))) := by
  match F, hok with
  | [], _ =>
    rw [List.map_nil, wholeS, Bool.false_and]
    refine Ev.step (fun k => ?_) (rr_j1t (L := L) (x1 := (a : Int)) (P := P) (G := G) (F := []))
    simp only [epicycleref04_Right.j0]
    rw [if_neg ft, if_pos (by simp)]
  | x :: t, hok =>
    obtain ⟨F, hF⟩ : ∃ F, F = x :: t := ⟨_, rfl⟩
    have hlen : F.length = t.length + 1 := by rw [hF]; rfl
    have h0 : rd_T83 F 0 = x := by rw [hF]; rfl
    have hd1 : F.drop 1 = t := by rw [hF]; rfl
    have hok' : okL (F.map p60) := by rw [hF]; exact hok
    clear hok
    rw [List.map_cons, whole_split, ← List.map_cons (f := p60) (a := x), ← hF]
    have n1 : ¬ (F.length : Int) < 1 := by omega
    have p0 : 0 < (F.length : Int) := by omega
    by_cases h16 : (F.length : Int) > 16
    · have c : ¬ (F.map p60).length ≤ 16 := by simp; omega
      rw [decide_eq_false c, Bool.false_and, Bool.false_and, Bool.false_and]
      refine Ev.step (fun k => ?_) (rr_j1t (L := L) (x1 := (a : Int)) (P := P) (G := G) (F := F))
      simp only [epicycleref04_Right.j0]
      rw [if_neg ft, if_neg n1, if_pos h16]
    have c : (F.map p60).length ≤ 16 := by simp; omega
    rw [decide_eq_true c, Bool.true_and]
    have hE : ∀ k, epicycleref04_Right.j0 (k + 1) L (a : Int) false P G F = epicycleref04_Right.j1 k L (a : Int) (x.f0 != 2) P G F := fun k => by
      simp only [epicycleref04_Right.j0]
      rw [if_neg ft, if_neg n1, if_neg h16, if_pos p0, h0]
    refine Ev.step hE ?_
    have hb : ((p60 x).1 == 2) = (x.f0 == 2) := rfl
    rw [hb]
    by_cases h2 : x.f0 = 2
    · rw [h2, show ((2 : Int) == 2) = true from rfl, Bool.true_and, show ((2 : Int) != 2) = false from rfl]
      have hq : (rd_T83 F ((1 - 1 : Nat) : Int)).f0 = (p60 x).1 := by rw [show ((1 - 1 : Nat) : Int) = 0 from rfl, h0]; rfl
      have h := rr_l0 (a := a) (L := L) (F := F) (P := P) (G := G) ha hL uP uG hP (by omega) hok' t 1 (p60 x).1 hd1 (Nat.le_refl 1) (by omega) hq
      have e : (chainS (has46 (L.take a)) (p60 x).1 (t.map p60) && tailS P G (F.map p60)) = (chainS (has46 (L.take a)) (p60 x).1 (t.map p60) && (prodS (P - 1) (F.map p60) 1 == (P - 1, true)) && (decide (2 ≤ G ∧ G < P) && fullS P G (F.map p60))) := by
        unfold tailS; rw [Bool.and_assoc]
      rw [e] at h
      refine Ev.step (fun k => ?_) h
      simp only [epicycleref04_Right.j1]
      rw [if_neg ft]
      rfl
    · rw [show (x.f0 == 2) = false from beq_eq_false_iff_ne.mpr h2, Bool.false_and, Bool.false_and, show (x.f0 != 2) = true by simp [bne, h2]]
      exact rr_j1t
end
theorem has46_tri (l : List S71) : has46 l = fun q => (l.map tri46).any fun a => a.1 == q := by
  funext q
  unfold has46
  rw [List.any_map]
  rfl
theorem rr_ev {L : List S71} (hok : ∀ e ∈ L.map tri46, okE e) (hL : L.length ≤ 1000) {i : Nat} (hi : i < L.length) : Ev (fun k => epicycleref04_Right.f k L (i : Int)) (rightAt (L.map tri46) i) := by
  have hrd : rd_T71 L (i : Int) = L[i] := by unfold rd_T71; simp [List.getD, List.getElem?_eq_getElem hi]
  have ho := hok (tri46 L[i]) (List.mem_map_of_mem (List.getElem_mem hi))
  have uP : U L[i].f0 := ho.1
  have uG : U L[i].f1 := ho.2.1
  have hF : okL (L[i].f2.map p60) := ho.2.2
  clear ho
  have q0 : 0 ≤ (i : Int) := by omega
  have q1 : (i : Int) < (L.length : Int) := by omega
  have w1 : wrap64 ((i : Int) - 1) = (i : Int) - 1 := w64_id _ (by omega) (by omega)
  have hr : rightAt (L.map tri46) i = rightS (has46 (L.take i)) ((L.take i).getLast?.map fun e => e.f0) L[i].f0 L[i].f1 (L[i].f2.map p60) := by
    unfold rightAt
    rw [List.getElem?_map, List.getElem?_eq_getElem hi, Option.map_some, has46_tri, ← List.map_take, List.getLast?_map, Option.map_map]
    rfl
  rw [hr]
  generalize hP : L[i].f0 = P at *
  generalize hG : L[i].f1 = G at *
  generalize hFF : L[i].f2 = F at *
  have jT := rr_j0t (L := L) (x1 := (i : Int)) (P := P) (G := G) (F := F)
  unfold rightS
  by_cases c1 : P % 2 = 0
  · have : ¬ fits P G := by unfold fits; omega
    rw [decide_eq_false this, Bool.false_and, Bool.false_and]
    refine Ev.congr (fun k => ?_) jT
    unfold epicycleref04_Right.f
    rw [if_pos q0, if_pos q1, hrd, hP, hG, hFF, tmod_pos uP.1, if_pos c1]
  by_cases c2 : P < 3
  · have : ¬ fits P G := by unfold fits; omega
    rw [decide_eq_false this, Bool.false_and, Bool.false_and]
    refine Ev.congr (fun k => ?_) jT
    unfold epicycleref04_Right.f
    rw [if_pos q0, if_pos q1, hrd, hP, hG, hFF, tmod_pos uP.1, if_neg c1, if_pos c2]
  by_cases c3 : P > 9223372036854775807
  · have : ¬ fits P G := by unfold fits; omega
    rw [decide_eq_false this, Bool.false_and, Bool.false_and]
    refine Ev.congr (fun k => ?_) jT
    unfold epicycleref04_Right.f
    rw [if_pos q0, if_pos q1, hrd, hP, hG, hFF, tmod_pos uP.1, if_neg c1, if_neg c2, if_pos c3]
  have hj := rr_j0 (L := L) (a := i) (P := P) (G := G) (F := F) (by omega) hL uP uG (by omega) hF
  have hfit : decide (fits P G) = decide (2 ≤ G ∧ G < P) := by
    apply decide_eq_decide.2
    unfold fits; omega
  have hcomm : ∀ b c d : Bool, (d && (b && c)) = ((b && true) && (d && c)) := fun b c d => by cases b <;> cases c <;> cases d <;> rfl
  rw [hfit]
  by_cases z : i = 0
  · subst z
    have : (L.take 0).getLast?.map (fun e => e.f0) = none := by simp
    rw [this]
    rw [hcomm] at hj
    refine Ev.congr (fun k => ?_) hj
    unfold epicycleref04_Right.f
    rw [if_pos q0, if_pos q1, hrd, hP, hG, hFF, tmod_pos uP.1, if_neg c1, if_neg c2, if_neg c3, if_neg (show ¬ ((0 : Nat) : Int) > 0 by decide)]
  · have hi1 : i - 1 < L.length := by omega
    have hlast : (L.take i).getLast?.map (fun e => e.f0) = some L[i - 1].f0 := by
      have hlen : (L.take i).length = i := by simp; omega
      rw [List.getLast?_eq_getElem?, hlen, List.getElem?_take_of_lt (by omega), List.getElem?_eq_getElem hi1]
      rfl
    have hrd1 : rd_T71 L ((i : Int) - 1) = L[i - 1] := by
      rw [show (i : Int) - 1 = ((i - 1 : Nat) : Int) by omega]
      unfold rd_T71; simp [List.getD, List.getElem?_eq_getElem hi1]
    have r0 : (i : Int) > 0 := by omega
    have r1 : 0 ≤ (i : Int) - 1 := by omega
    have r2 : (i : Int) - 1 < (L.length : Int) := by omega
    rw [hlast]
    show Ev (fun k => epicycleref04_Right.f k L (i : Int)) ((decide (2 ≤ G ∧ G < P) && decide (L[i - 1].f0 < P)) && (wholeS (has46 (L.take i)) P (F.map p60) && fullS P G (F.map p60)))
    by_cases c4 : L[i - 1].f0 ≥ P
    · have n4 : ¬ L[i - 1].f0 < P := by omega
      rw [decide_eq_false n4, Bool.and_false, Bool.false_and]
      refine Ev.congr (fun k => ?_) jT
      unfold epicycleref04_Right.f
      rw [if_pos q0, if_pos q1, hrd, hP, hG, hFF, tmod_pos uP.1, if_neg c1, if_neg c2, if_neg c3, if_pos r0, w1, if_pos r1, if_pos r2, hrd1, decide_eq_true c4]
    · have n4 : L[i - 1].f0 < P := by omega
      rw [decide_eq_true n4]
      rw [hcomm] at hj
      refine Ev.congr (fun k => ?_) hj
      unfold epicycleref04_Right.f
      rw [if_pos q0, if_pos q1, hrd, hP, hG, hFF, tmod_pos uP.1, if_neg c1, if_neg c2, if_neg c3, if_pos r0, w1, if_pos r1, if_pos r2, hrd1, decide_eq_false c4]
theorem refcheck_l0 {L : List S71} (hok : ∀ e ∈ L.map tri46, okE e) (hL : L.length ≤ 1000) : ∀ (d i : Nat), i + d = L.length → Ev (fun k => epicycleref04_Check.l0 k L (L.length : Int) i) (firstBad (rightAt (L.map tri46)) d i) := by
  intro d
  induction d with
  | zero =>
    intro i hi
    have c : ¬ (i : Int) < (L.length : Int) := by omega
    refine Ev.step (f := fun _ => some (0, 0)) (fun k => ?_) (Ev.now _)
    simp only [epicycleref04_Check.l0]
    rw [if_neg c]
  | succ d ih =>
    intro i hi
    have q1 : (i : Int) < (L.length : Int) := by omega
    have w : wrap64 ((i : Int) + 1) = ((i + 1 : Nat) : Int) := by rw [w64_id _ (by omega) (by omega)]; omega
    have E := rr_ev hok hL (i := i) (by omega)
    have IH := ih (i + 1) (by omega)
    refine Ev.step (f := fun k => (epicycleref04_Right.f k L (i : Int)).bind fun t178 => (if t178 = true then (epicycleref04_Check.l0 k L (L.length : Int) ((i + 1 : Nat) : Int)) else (some ((i : Int), 3)))) (fun k => ?_) (Ev.bind E ?_)
    · simp only [epicycleref04_Check.l0]
      rw [if_pos q1, w]
    · unfold firstBad
      cases rightAt (L.map tri46) i with
      | true => exact evP rfl IH
      | false => exact evN ft (Ev.now _)
theorem refcheck_ev {L : List S71} (hok : ∀ e ∈ L.map tri46, okE e) : Ev (fun k => epicycleref04_Check.f k L) (checkS (L.map tri46)) := by
  unfold checkS
  rw [List.length_map]
  by_cases h : (L.length : Int) > 32
  · rw [if_pos h]
    refine Ev.congr (fun k => ?_) (Ev.now _)
    unfold epicycleref04_Check.f
    rw [if_pos h]
  · rw [if_neg h]
    refine Ev.congr (fun k => ?_) (refcheck_l0 hok (by omega) L.length 0 (by omega))
    unfold epicycleref04_Check.f
    rw [if_neg h]
    rfl
end Go.Proofs.YthnpjjpdlihepaaGreat.XR
end
section
namespace Go.Proofs.YthnpjjpdlihepaaGreat.XK
open Go.RowKit Go.Proofs.YthnpjjpdlihepaaGreat.Given Go.Proofs.YthnpjjpdlihepaaGreat.Row05 Go.Proofs.YthnpjjpdlihepaaGreat.XS Go.Proofs.YthnpjjpdlihepaaGreat.XT Go.Proofs.YthnpjjpdlihepaaGreat.XR Go.Proofs.YthnpjjpdlihepaaGreat.F06 Go.Proofs.YthnpjjpdlihepaaGreatW.PrintWords Go.Proofs.YthnpjjpdlihepaaGreatW.PrintLast Go.Proofs.YthnpjjpdlihepaaGreatW.PrintMore
attribute [local go_sem] max2_int min2_int max_two min_two max_three min_three max_four min_four   -- for this text's walks alone
set_option linter.unusedVariables false
set_option linter.unusedSimpArgs false
noncomputable def field_Small.f (k : Nat) (a0 : Int) : Option ((List (Fld)) × Int) := (sieve_Row.f k a0).bind fun bt101 => (if bt101.2 = 0 then ((field_New.f k bt101.1 a0).bind fun bt105 => (some (bt105.1, bt105.2))) else (some (([] : List (Fld)), bt101.2)))
set_option maxHeartbeats 8000000 in
set_option maxRecDepth 100000 in
theorem field_Small.calls (k : Nat) (a0 : Int) (r1 : List (Fld)) (r2 : Int) (w : World) (h : field_Small.f k a0 = some (r1, r2)) :
  Calls Tryz.prog 28 #[.int .u64 a0] w fun e w' => ∃ v0_ : Value, e = .returned (.tuple #[toPtr v0_, .int .i64 r2]) ∧ Kd.R kFld 59 w' w.heap.size (fun _ => True) v0_ r1 ∧ Below w.heap.size w w' := by
 have HB := Aside0.mk (Below.refl w.heap.size w)
 have H := h; unfold field_Small.f at H
 clear h
 replace H := Option.bind_eq_some_iff.mp H
 obtain ⟨⟨t101, t102⟩, A20, H⟩ := H
 (try dsimp only at H)
 have A2 := Aside0.mk A20
 clear A20
 by_cases c3 : t102 = 0
 ·rw [if_pos c3] at H
  have c3b0 := beq_iff_eq.mpr c3
  have c3b1 := bne_eq_false_iff_eq.mpr c3
  clear c3
  replace H := Option.bind_eq_some_iff.mp H
  obtain ⟨⟨t105, t106⟩, A40, H⟩ := H
  (try dsimp only at H)
  have A4 := Aside0.mk A40
  clear A40
  simp only [Option.some.injEq, Prod.mk.injEq] at H
  obtain ⟨rfl, rfl⟩ := H
  go_enter Tryz.func28, Tryz.ntmps28
  go_wp2_with (first | ((with_reducible refine gate_callee (f := 47) rfl ?_); refine goesL_ (some 8) rfl rfl Tryz.func47 (by kernel_rfl) rfl #[.int .u64 a0] rfl (by (try simp only [List.map_toArray, List.map_cons, List.map_nil]); first | done | rfl | (simp only [List.length_drop, List.length_take]; rfl)) ?_; (with_reducible refine (sieve_Row.calls k a0 t101 t102 _ A2.out).mono ?_); rintro e w5 ⟨v103, rfl, ho0, hb⟩; refine ⟨_, rfl, ?_⟩; have n0_ := Aside0.mk (Kd.S_lower ho0 (below_size bel_)); have n1_ := Aside0.mk (below_step bel_ hb); clear HB; have HO104 := n0_; have HB := n1_; clear n0_ n1_; (try clear hb); (try clear hb2); (try clear hk); (try clear hi); (try clear ho0); obtain ⟨Ao6, co6, eo6⟩ := Kd.S_slice HO104.out; subst eo6) | ((with_reducible refine gate_callee (f := 33) rfl ?_); refine goesL_ (some 16) rfl rfl Tryz.func33 (by kernel_rfl) rfl #[.slice Ao6 t101.length co6, .int .u64 a0] rfl (by (try simp only [List.map_toArray, List.map_cons, List.map_nil]); first | done | rfl | (simp only [List.length_drop, List.length_take]; rfl)) ?_; (with_reducible refine (field_New.calls k _ _ t101 a0 t105 t106 _ ?side1 ?side2 A4.out).mono ?_); (case side1 => repeat (first | exact (Kd.S_reads' HO104.out).2.2 | (with_reducible refine Kd.C_alloc ?_ _) | (with_reducible refine Kd.C_drewN ?_ _) | (with_reducible refine Kd.C_drew ?_))); (case side2 => exact (Kd.S_reads' HO104.out).2.1); rintro e w7 ⟨v107, rfl, ho0, hb⟩; refine ⟨_, rfl, ?_⟩; have n0_ := Aside0.mk (Kd.S_below (by (with_reducible repeat (first | apply Kd.S_alloc | apply Kd.S_drewN | apply Kd.S_drew)); exact HO104.out) hb); have n1_ := Aside0.mk (Kd.R_lower ho0 (below_size bel_)); have n2_ := Aside0.mk (below_step bel_ hb); clear HO104; clear HB; have HO104 := n0_; have HO108 := n1_; have HB := n2_; clear n0_ n1_ n2_; (try clear hb); (try clear hb2); (try clear hk); (try clear hi); (try clear ho0)))
  go_ret2
  exact ⟨_, by first | rfl | (simp [errW_none, errW_some] <;> rfl) | (simp [*, errW_none, errW_some] <;> rfl), by (with_reducible repeat (first | apply Kd.R_alloc | apply Kd.R_drewN | apply Kd.R_drew)); exact HO108.out, bel_⟩
 ·rw [if_neg c3] at H
  have c3b0 := beq_eq_false_iff_ne.mpr c3
  have c3b1 := bne_iff_ne.mpr c3
  simp only [Option.some.injEq, Prod.mk.injEq] at H
  obtain ⟨rfl, rfl⟩ := H
  go_enter Tryz.func28, Tryz.ntmps28
  go_wp2_with (first | ((with_reducible refine gate_callee (f := 47) rfl ?_); refine goesL_ (some 8) rfl rfl Tryz.func47 (by kernel_rfl) rfl #[.int .u64 a0] rfl (by (try simp only [List.map_toArray, List.map_cons, List.map_nil]); first | done | rfl | (simp only [List.length_drop, List.length_take]; rfl)) ?_; (with_reducible refine (sieve_Row.calls k a0 t101 t102 _ A2.out).mono ?_); rintro e w8 ⟨v103, rfl, ho0, hb⟩; refine ⟨_, rfl, ?_⟩; have n0_ := Aside0.mk (Kd.S_lower ho0 (below_size bel_)); have n1_ := Aside0.mk (below_step bel_ hb); clear HB; have HO104 := n0_; have HB := n1_; clear n0_ n1_; (try clear hb); (try clear hb2); (try clear hk); (try clear hi); (try clear ho0)))
  go_ret2
  exact ⟨(.slice none 0 0), by first | rfl | (simp [errW_none, errW_some] <;> rfl) | (simp [*, errW_none, errW_some] <;> rfl), by first | exact Kd.R_nil _ _ _ _ _ | exact Kd.N_nil _ _ _ _ _ | exact Kd.V_nil _ _ _ _ _ | exact Kd.Q_nil _ _ _ _ _ | exact Kd.S_nil _ _ _ _ _, bel_⟩
noncomputable def field_Known.f (k : Nat) (a0 : Int) : Option ((List (Fld)) × Int) := (field_known.f a0).bind fun bt109 => (if bt109.2 = 0 then (some (([] : List (Fld)), 1)) else ((field_New.f k bt109.1 bt109.2).bind fun bt113 => (some (bt113.1, bt113.2))))
set_option maxHeartbeats 8000000 in
set_option maxRecDepth 100000 in
theorem field_Known.calls (k : Nat) (a0 : Int) (r1 : List (Fld)) (r2 : Int) (w : World) (h : field_Known.f k a0 = some (r1, r2)) :
  Calls Tryz.prog 32 #[.int .i64 a0] w fun e w' => ∃ v0_ : Value, e = .returned (.tuple #[toPtr v0_, .int .i64 r2]) ∧ Kd.R kFld 59 w' w.heap.size (fun _ => True) v0_ r1 ∧ Below w.heap.size w w' := by
 have HB := Aside0.mk (Below.refl w.heap.size w)
 have H := h; unfold field_Known.f at H
 clear h
 replace H := Option.bind_eq_some_iff.mp H
 obtain ⟨⟨t109, t110⟩, A20, H⟩ := H
 (try dsimp only at H)
 have A2 := Aside0.mk A20
 clear A20
 by_cases c3 : t110 = 0
 ·rw [if_pos c3] at H
  have c3b0 := beq_iff_eq.mpr c3
  have c3b1 := bne_eq_false_iff_eq.mpr c3
  clear c3
  simp only [Option.some.injEq, Prod.mk.injEq] at H
  obtain ⟨rfl, rfl⟩ := H
  go_enter Tryz.func32, Tryz.ntmps32
  go_wp2_with (first | ((with_reducible refine gate_callee (f := 52) rfl ?_); refine goesL_ (some 8) rfl rfl Tryz.func52 (by kernel_rfl) rfl #[.int .i64 a0] rfl (by (try simp only [List.map_toArray, List.map_cons, List.map_nil]); first | done | rfl | (simp only [List.length_drop, List.length_take]; rfl)) ?_; (with_reducible refine (field_known.calls a0 t109 t110 _ A2.out).mono ?_); rintro e w4 ⟨v111, rfl, ho0, hb⟩; refine ⟨_, rfl, ?_⟩; have n0_ := Aside0.mk (Kd.S_lower ho0 (below_size bel_)); have n1_ := Aside0.mk (below_step bel_ hb); clear HB; have HO112 := n0_; have HB := n1_; clear n0_ n1_; (try clear hb); (try clear hb2); (try clear hk); (try clear hi); (try clear ho0)))
  go_ret2
  exact ⟨(.slice none 0 0), by first | rfl | (simp [errW_none, errW_some] <;> rfl) | (simp [*, errW_none, errW_some] <;> rfl), by first | exact Kd.R_nil _ _ _ _ _ | exact Kd.N_nil _ _ _ _ _ | exact Kd.V_nil _ _ _ _ _ | exact Kd.Q_nil _ _ _ _ _ | exact Kd.S_nil _ _ _ _ _, bel_⟩
 ·rw [if_neg c3] at H
  have c3b0 := beq_eq_false_iff_ne.mpr c3
  have c3b1 := bne_iff_ne.mpr c3
  replace H := Option.bind_eq_some_iff.mp H
  obtain ⟨⟨t113, t114⟩, A50, H⟩ := H
  (try dsimp only at H)
  have A5 := Aside0.mk A50
  clear A50
  simp only [Option.some.injEq, Prod.mk.injEq] at H
  obtain ⟨rfl, rfl⟩ := H
  go_enter Tryz.func32, Tryz.ntmps32
  go_wp2_with (first | ((with_reducible refine gate_callee (f := 52) rfl ?_); refine goesL_ (some 8) rfl rfl Tryz.func52 (by kernel_rfl) rfl #[.int .i64 a0] rfl (by (try simp only [List.map_toArray, List.map_cons, List.map_nil]); first | done | rfl | (simp only [List.length_drop, List.length_take]; rfl)) ?_; (with_reducible refine (field_known.calls a0 t109 t110 _ A2.out).mono ?_); rintro e w6 ⟨v111, rfl, ho0, hb⟩; refine ⟨_, rfl, ?_⟩; have n0_ := Aside0.mk (Kd.S_lower ho0 (below_size bel_)); have n1_ := Aside0.mk (below_step bel_ hb); clear HB; have HO112 := n0_; have HB := n1_; clear n0_ n1_; (try clear hb); (try clear hb2); (try clear hk); (try clear hi); (try clear ho0); obtain ⟨Ao7, co7, eo7⟩ := Kd.S_slice HO112.out; subst eo7) | ((with_reducible refine gate_callee (f := 33) rfl ?_); refine goesL_ (some 15) rfl rfl Tryz.func33 (by kernel_rfl) rfl #[.slice Ao7 t109.length co7, .int .u64 t110] rfl (by (try simp only [List.map_toArray, List.map_cons, List.map_nil]); first | done | rfl | (simp only [List.length_drop, List.length_take]; rfl)) ?_; (with_reducible refine (field_New.calls k _ _ t109 t110 t113 t114 _ ?side1 ?side2 A5.out).mono ?_); (case side1 => repeat (first | exact (Kd.S_reads' HO112.out).2.2 | (with_reducible refine Kd.C_alloc ?_ _) | (with_reducible refine Kd.C_drewN ?_ _) | (with_reducible refine Kd.C_drew ?_))); (case side2 => exact (Kd.S_reads' HO112.out).2.1); rintro e w8 ⟨v115, rfl, ho0, hb⟩; refine ⟨_, rfl, ?_⟩; have n0_ := Aside0.mk (Kd.S_below (by (with_reducible repeat (first | apply Kd.S_alloc | apply Kd.S_drewN | apply Kd.S_drew)); exact HO112.out) hb); have n1_ := Aside0.mk (Kd.R_lower ho0 (below_size bel_)); have n2_ := Aside0.mk (below_step bel_ hb); clear HO112; clear HB; have HO112 := n0_; have HO116 := n1_; have HB := n2_; clear n0_ n1_ n2_; (try clear hb); (try clear hb2); (try clear hk); (try clear hi); (try clear ho0)))
  go_ret2
  exact ⟨_, by first | rfl | (simp [errW_none, errW_some] <;> rfl) | (simp [*, errW_none, errW_some] <;> rfl), by (with_reducible repeat (first | apply Kd.R_alloc | apply Kd.R_drewN | apply Kd.R_drew)); exact HO116.out, bel_⟩
end Go.Proofs.YthnpjjpdlihepaaGreat.XK
end
section
namespace Go.Proofs.YthnpjjpdlihepaaGreat.F06
open Go Go.RowKit Go.Proofs.YthnpjjpdlihepaaGreatW.PrintWords Go.Proofs.YthnpjjpdlihepaaGreatW.PrintLast Go.Proofs.YthnpjjpdlihepaaGreatW.PrintMore Go.Proofs.YthnpjjpdlihepaaGreat.Given Go.Proofs.YthnpjjpdlihepaaGreat.M Go.Proofs.YthnpjjpdlihepaaGreat.Mont Go.Proofs.YthnpjjpdlihepaaGreat.XS Go.Proofs.YthnpjjpdlihepaaGreat.XT Go.Proofs.YthnpjjpdlihepaaGreat.XR Go.Proofs.YthnpjjpdlihepaaGreat.Given04 Go.Proofs.YthnpjjpdlihepaaGreat.Given05 Go.Proofs.YthnpjjpdlihepaaGreat.Num
open Go.Proofs.YthnpjjpdlihepaaGreat.XK
open Go.Proofs.YthnpjjpdlihepaaGreat.Row05 (OddN gen facs entS row_ev row_not row_check row_okE gen_least)
abbrev PE := S57
abbrev RE := S71
def GoodFld (F : Fld) : Prop := ∃ (A : Int → Bool) (prev : Option Int), rightS A prev F.p F.g (F.l.map p59) = true ∧ Ordered F.p F.g ∧ okE (F.p, F.g, F.l.map p59)
theorem Ev.unique {α : Type} {g : Nat → Option α} {r s : α} (h : Ev g r) (h' : Ev g s) : r = s := by
  obtain ⟨K, h⟩ := h
  obtain ⟨K', h'⟩ := h'
  have h1 := h (max K K') (Nat.le_max_left _ _)
  have h2 := h' (max K K') (Nat.le_max_right _ _)
  rw [h1] at h2
  exact Option.some.inj h2
theorem rdE_drop {R : List PE} {i : Nat} {x : PE} {l : List PE} (h : R.drop i = x :: l) : rd_T57 R (i : Int) = x ∧ i < R.length ∧ R.drop (i + 1) = l := by
  have hlt : i < R.length := by
    refine Classical.byContradiction fun c => ?_
    rw [List.drop_of_length_le (by omega)] at h
    cases h
  rw [List.drop_eq_getElem_cons hlt] at h
  injection h with h1 h2
  refine ⟨?_, hlt, h2⟩
  unfold rd_T57
  simp [List.getD, List.getElem?_eq_getElem hlt, h1]
def foundP (R : List PE) (p : Int) : Int × Int × List S84 × Bool :=
  match R.find? (fun e => e.f0 == p) with
  | some e => (e.f0, e.f1, e.f2, true)
  | none => (0, 0, [], false)
theorem claimP_l0 {R : List PE} {p : Int} (hL : R.length ≤ 1000) (hs : ∀ e ∈ R, e.f2.length ≤ 1000000) (l : List PE) : ∀ i : Nat, R.drop i = l →
    Ev (fun k => proof_Claim.l0 k p R (R.length : Int) i) (foundP l p) := by
  induction l with
  | nil =>
    intro i hd
    have : R.length ≤ i := by have := congrArg List.length hd; simp at this; omega
    have c : ¬ (i : Int) < (R.length : Int) := by omega
    refine Ev.step (f := fun _ => some (0, 0, [], false)) (fun k => ?_) (Ev.now _)
    simp only [proof_Claim.l0]
    rw [if_neg c]
  | cons x l ih =>
    intro i hd
    obtain ⟨hx, hlt, hd'⟩ := rdE_drop hd
    have hxm : x ∈ R := List.mem_of_mem_drop (show x ∈ R.drop i by rw [hd]; exact List.mem_cons_self)
    have c : (i : Int) < (R.length : Int) := by omega
    have c0 : 0 ≤ (i : Int) := by omega
    have w : wrap64 ((i : Int) + 1) = ((i + 1 : Nat) : Int) := by rw [w64_id _ (by omega) (by omega)]; omega
    have hcl := hs x hxm
    by_cases h : x.f0 = p
    · have e : foundP (x :: l) p = (x.f0, x.f1, x.f2, true) := by unfold foundP; rw [List.find?_cons, beq_iff_eq.2 h]
      rw [e]
      refine Ev.step (f := fun _ => some (x.f0, x.f1, x.f2, true)) (fun k => ?_) (Ev.now _)
      simp only [proof_Claim.l0]
      rw [if_pos c, if_pos c0, if_pos c, hx, if_pos h, proof_Power.f, if_pos hcl, Option.bind_some]
    · have e : foundP (x :: l) p = foundP l p := by unfold foundP; rw [List.find?_cons, beq_eq_false_iff_ne.2 h]
      rw [e]
      refine Ev.step (fun k => ?_) (ih (i + 1) hd')
      simp only [proof_Claim.l0]
      rw [if_pos c, if_pos c0, if_pos c, hx, if_neg h, w]
theorem check_facts {R : List PE} (h : (checkS (R.map tri)).2 = 0) : (∀ j, j < R.length → rightAt (R.map tri) j = true) ∧ R.length ≤ 32 := by
  unfold checkS at h
  rw [List.length_map] at h
  split at h
  · exact absurd h (by decide)
  · exact ⟨fun j hj => firstBad_ok _ 0 h j (by omega) (by omega), by omega⟩
theorem whole_short {A : Int → Bool} {P : Int} {l : List (Int × Int)} (h : wholeS A P l = true) : l.length ≤ 16 := by
  cases l with
  | nil => simp
  | cons x t =>
    rw [wholeS_cons] at h
    simp only [Bool.and_eq_true, decide_eq_true_eq] at h
    exact h.1.1.1
theorem entry_good {R : List PE} (hok : ∀ e ∈ R.map tri, okE e) (h : (checkS (R.map tri)).2 = 0) {e : PE} (he : e ∈ R) : GoodFld ⟨e.f0, e.f1, e.f2⟩ := by
  obtain ⟨i, hi, rfl⟩ := List.mem_iff_getElem.1 he
  have hr := (check_facts h).1 i hi
  have hg : (R.map tri)[i]? = some (tri R[i]) := by rw [List.getElem?_map, List.getElem?_eq_getElem hi]; rfl
  unfold rightAt at hr
  rw [hg] at hr
  exact ⟨_, _, hr, check_ordered h hg, hok _ (List.mem_map_of_mem (List.getElem_mem hi))⟩
theorem GoodFld.fits {F : Fld} (h : GoodFld F) : fits F.p F.g := by
  obtain ⟨A, prev, h, _⟩ := h
  unfold rightS at h
  simp only [Bool.and_eq_true, decide_eq_true_eq] at h
  exact h.1.1
theorem GoodFld.m {F : Fld} (h : GoodFld F) : GoodM F.p := ⟨h.fits.1, h.fits.2.1, h.fits.2.2.1⟩
theorem GoodFld.ord {F : Fld} (h : GoodFld F) : Ordered F.p F.g := by
  obtain ⟨A, prev, _, h, _⟩ := h
  exact h
theorem GoodFld.whole {F : Fld} (h : GoodFld F) : ∃ A, wholeS A F.p (F.l.map p59) = true := by
  obtain ⟨A, prev, h, _⟩ := h
  unfold rightS at h
  simp only [Bool.and_eq_true] at h
  exact ⟨A, h.2.1⟩
theorem GoodFld.short {F : Fld} (h : GoodFld F) : F.l.length ≤ 16 := by
  obtain ⟨A, h⟩ := h.whole
  have := whole_short h
  rwa [List.length_map] at this
theorem GoodFld.uG {F : Fld} (h : GoodFld F) : U F.g := by
  obtain ⟨_, _, _, _, _, h, _⟩ := h
  exact h
def newS (R : List PE) (p : Int) : List Fld × Int :=
  if (checkS (R.map tri)).2 = 0 then (match R.find? (fun e => e.f0 == p) with | some e => ([⟨e.f0, e.f1, e.f2⟩], 0) | none => ([], 14)) else ([], (checkS (R.map tri)).2)
theorem new_ev {R : List PE} (hok : ∀ e ∈ R.map tri, okE e) (p : Int) : Ev (fun k => field_New.f k R p) (newS R p) := by
  have C := check_ev R hok
  refine Ev.congr (fun k => rfl) (Ev.bind C ?_)
  unfold newS
  by_cases hz : (checkS (R.map tri)).2 = 0
  · rw [if_pos hz]
    refine evP hz ?_
    obtain ⟨hr, hl⟩ := check_facts hz
    have hs : ∀ e ∈ R, e.f2.length ≤ 1000000 := fun e he => by
      have := (entry_good hok hz he).short
      have : e.f2.length ≤ 16 := this
      omega
    refine Ev.bind (Ev.congr (f := fun k => (proof_Check.f k R).bind fun c => if c.2 = 0 then proof_Claim.l0 k p R (R.length : Int) 0 else some (0, 0, [], false)) (fun k => rfl) (Ev.bind C (evP hz (claimP_l0 (by omega) hs R 0 rfl)))) ?_
    unfold foundP
    cases hf : R.find? (fun e => e.f0 == p) with
    | none => exact evN (by simp) (Ev.now _)
    | some e =>
      have he := List.mem_of_find?_eq_some hf
      have hp : e.f0 = p := by have := List.find?_some hf; simpa using this
      have hg := entry_good hok hz he
      refine evP rfl (evP ⟨hp, ?_, ?_⟩ (Ev.now _))
      · rw [← hp]; exact hg.m
      · exact hg.uG
  · rw [if_neg hz]
    exact evN hz (Ev.now _)
theorem newS_cases {R : List PE} (hok : ∀ e ∈ R.map tri, okE e) (p : Int) : (∃ e, e ≠ 0 ∧ newS R p = ([], e)) ∨ ∃ F, newS R p = ([F], 0) ∧ GoodFld F ∧ F.p = p := by
  unfold newS
  by_cases hz : (checkS (R.map tri)).2 = 0
  · rw [if_pos hz]
    cases hf : R.find? (fun e => e.f0 == p) with
    | none => exact .inl ⟨14, by decide, rfl⟩
    | some e =>
      have he := List.mem_of_find?_eq_some hf
      have hp : e.f0 = p := by have := List.find?_some hf; simpa using this
      exact .inr ⟨_, rfl, entry_good hok hz he, hp⟩
  · rw [if_neg hz]
    exact .inl ⟨_, hz, rfl⟩
theorem row_checkS {p : Nat} {ss : List Nat} (h : Row05.Rows p ss) : checkS ((ss.map entS).map tri) = (0, 0) :=
  Ev.unique (check_ev (ss.map entS) (row_okE h)) (row_check h)
theorem small_new {p : Nat} {ss : List Nat} (h : Row05.Rows p ss) : newS (ss.map entS) (p : Int) = ([⟨(p : Int), (gen p : Int), m33 (facs p)⟩], 0) := by
  unfold newS
  rw [row_checkS h, if_pos rfl]
  cases hf : (ss.map entS).find? (fun e => e.f0 == (p : Int)) with
  | none =>
    have := List.find?_eq_none.1 hf (entS p) (List.mem_map_of_mem h.mem)
    exact absurd (beq_self_eq_true ((p : Int))) this
  | some e =>
    have he := List.mem_of_find?_eq_some hf
    have hp := List.find?_some hf
    obtain ⟨q, hq, rfl⟩ := List.mem_map.1 he
    have hp : ((q : Int) == (p : Int)) = true := hp
    rw [beq_iff_eq] at hp
    obtain rfl : q = p := by omega
    rfl
open Classical in
theorem small_odd {x : Int} (h : OddP x) : ∃ F, Ev (fun k => field_Small.f k x) ([F], 0) ∧ Ev (fun k => epicycleref05_Generator.f k x) F.g ∧ F.p = x ∧ GoodFld F := by
  obtain ⟨p, rfl⟩ : ∃ p : Nat, x = p := ⟨x.toNat, by have := h.1; omega⟩
  have hn := OddN.of h
  obtain ⟨ss, hr, R⟩ := row_ev hn
  have hnew := small_new hr
  have E := new_ev (row_okE hr) (p : Int)
  rcases newS_cases (row_okE hr) (p : Int) with ⟨e, he, h1⟩ | ⟨F, h1, hg, hp⟩
  · rw [hnew] at h1; injection h1 with h1 _; cases h1
  · rw [h1] at hnew E
    injection hnew with h2 _
    injection h2 with h2 _
    refine ⟨F, Ev.congr (fun k => rfl) (Ev.bind R (evP rfl (Ev.bind E (Ev.now _)))), ?_, hp, hg⟩
    rw [h2]
    exact rGenerator_odd h (gen_least hn)
theorem small_not {x : Int} (h : ¬ OddP x) : Ev (fun k => field_Small.f k x) ([], 1) :=
  Ev.congr (fun k => rfl) (Ev.bind (row_not h) (evN (by decide) (Ev.now _)))
def powm (P : Nat) : Nat → Nat → Nat → Nat
  | 0, _, _ => 1 % P
  | n + 1, g, e => if e = 0 then 1 % P else if e % 2 = 1 then g * powm P n (g * g % P) (e / 2) % P else powm P n (g * g % P) (e / 2)
theorem powm_eq {P : Nat} (n : Nat) : ∀ g e, e < 2 ^ n → powm P n g e = g ^ e % P := by
  induction n with
  | zero => intro g e h; have : e = 0 := by simpa using h
            subst this; rfl
  | succ n ih =>
    intro g e h
    unfold powm
    have hq : e / 2 < 2 ^ n := by rw [Nat.pow_succ] at h; omega
    have hs : (g * g % P) ^ (e / 2) % P = g ^ (2 * (e / 2)) % P := by rw [← Nat.pow_mod, ← Nat.pow_two, ← Nat.pow_mul]
    split
    · next h0 => subst h0; rfl
    · split
      · next h1 =>
        rw [ih _ _ hq, hs, Nat.mul_mod, Nat.mod_mod, ← Nat.mul_mod, ← Nat.pow_succ', show (2 * (e / 2)).succ = e by omega]
      · next h1 => rw [ih _ _ hq, hs, show 2 * (e / 2) = e by omega]
def fullQ (P G : Nat) (l : List Nat) : Bool := (powm P 64 G (P - 1) == 1) && !(l.any fun x => powm P 64 G ((P - 1) / x) == 1)
theorem pow_castq {G P n : Nat} : (((G : Int) ^ n % (P : Int)) == 1) = (G ^ n % P == 1) := by
  rw [Bool.eq_iff_iff, beq_iff_eq, beq_iff_eq]
  exact pow_cast G P n
theorem fullQ_S {P G : Nat} {l : List (Nat × Nat)} (h1 : 1 ≤ P) (hP : P < 9223372036854775808) (h : fullQ P G (l.map (·.1)) = true) : fullS (P : Int) (G : Int) (l.map fun x => ((x.1 : Int), (x.2 : Int))) = true := by
  unfold fullQ at h
  unfold fullS
  have e1 : ((P : Int) - 1).toNat = P - 1 := by omega
  have c : (fun x : Nat × Nat => powm P 64 G ((P - 1) / x.1) == 1) = fun x : Nat × Nat => ((G : Int) ^ (((P : Int) - 1) / (x.1 : Int)).toNat % (P : Int) == 1) := by
    funext x
    have : ((P : Int) - 1) / (x.1 : Int) = (((P - 1) / x.1 : Nat) : Int) := by rw [Int.natCast_ediv]; congr 1; omega
    rw [this, Int.toNat_natCast, pow_castq, powm_eq 64 _ _ (Nat.lt_of_le_of_lt (Nat.div_le_self _ _) (by omega))]
  rw [List.any_map] at h
  rw [e1, pow_castq, List.any_map, ← powm_eq 64 _ _ (by omega)]
  simp only [Function.comp_def] at h ⊢
  rw [← c]
  exact h
def rightQ (L : List PE) (i : Nat) : Bool :=
  match L[i]? with
  | none => false
  | some e => (decide (fits e.f0 e.f1) && (match ((L.map tri).take i).getLast?.map fun a => a.1 with | none => true | some q => decide (q < e.f0))) && (wholeS (fun q => ((L.map tri).take i).any fun a => a.1 == q) e.f0 (e.f2.map p59) && (fullQ e.f0.toNat e.f1.toNat (e.f2.map fun x => x.f0.toNat) && decide (∀ x ∈ e.f2, 0 ≤ x.f0 ∧ 0 ≤ x.f1)))
theorem rightQ_S {L : List PE} {i : Nat} (h : rightQ L i = true) : rightAt (L.map tri) i = true := by
  unfold rightQ at h
  unfold rightAt
  rw [List.getElem?_map]
  cases he : L[i]? with
  | none => rw [he] at h; cases h
  | some e =>
    rw [he] at h
    simp only [Bool.and_eq_true] at h
    obtain ⟨⟨h1, h2⟩, h3, h4, h5⟩ := h
    have hf : fits e.f0 e.f1 := of_decide_eq_true h1
    unfold fits at hf
    have h5 := of_decide_eq_true h5
    show rightS _ _ e.f0 e.f1 (e.f2.map p59) = true
    unfold rightS
    rw [h1, h3, Bool.true_and, Bool.true_and]
    refine Bool.and_eq_true_iff.2 ⟨h2, ?_⟩
    have := fullQ_S (P := e.f0.toNat) (G := e.f1.toNat) (l := e.f2.map fun x => (x.f0.toNat, x.f1.toNat)) (by omega) (by omega) (by rw [List.map_map]; exact h4)
    rw [Int.toNat_of_nonneg (by omega), Int.toNat_of_nonneg (by omega), List.map_map] at this
    rw [← this]
    congr 1
    refine List.map_congr_left fun x hx => ?_
    obtain ⟨a, b⟩ := h5 x hx
    show (x.f0, x.f1) = (((x.f0.toNat : Nat) : Int), ((x.f1.toNat : Nat) : Int))
    rw [Int.toNat_of_nonneg a, Int.toNat_of_nonneg b]
theorem firstBad_all {r : Nat → Bool} : ∀ (d i : Nat), (∀ j, i ≤ j → j < i + d → r j = true) → firstBad r d i = (0, 0)
  | 0, _, _ => rfl
  | d + 1, i, h => by
    unfold firstBad
    rw [h i (by omega) (by omega), if_pos rfl]
    exact firstBad_all d (i + 1) fun j h1 h2 => h j (by omega) (by omega)
def okQ (e : PE) : Bool := decide (U e.f0) && (decide (U e.f1) && decide (∀ x ∈ e.f2, U x.f0 ∧ -9223372036854775808 ≤ x.f1 ∧ x.f1 < 9223372036854775808))
theorem okQ_E {L : List PE} (h : L.all okQ = true) : ∀ e ∈ L.map tri, okE e := by
  intro e he
  obtain ⟨x, hx, rfl⟩ := List.mem_map.1 he
  have := List.all_eq_true.1 h x hx
  unfold okQ at this
  simp only [Bool.and_eq_true, decide_eq_true_eq] at this
  refine ⟨this.1, this.2.1, fun y hy => ?_⟩
  obtain ⟨z, hz, rfl⟩ := List.mem_map.1 hy
  exact this.2.2 z hz
theorem known_at {L : List PE} {p g : Int} {l : List S84} (hn : L.length ≤ 32) (hr : (List.range L.length).all (rightQ L) = true) (hok : L.all okQ = true) (hf : L.find? (fun e => e.f0 == p) = some ⟨p, g, l⟩) :
    Ev (fun k => field_New.f k L p) ([⟨p, g, l⟩], 0) ∧ GoodFld ⟨p, g, l⟩ := by
  have hz : checkS (L.map tri) = (0, 0) := by
    unfold checkS
    rw [List.length_map, if_neg (by omega)]
    refine firstBad_all _ _ fun j _ hj => rightQ_S ?_
    exact List.all_eq_true.1 hr j (List.mem_range.2 (by omega))
  have e : newS L p = ([⟨p, g, l⟩], 0) := by
    unfold newS
    rw [hz, if_pos rfl, hf]
  have E := new_ev (okQ_E hok) p
  rw [e] at E
  exact ⟨E, entry_good (okQ_E hok) (by rw [hz]) (List.mem_of_find?_eq_some hf)⟩
theorem known_ev {i : Int} (h0 : 0 ≤ i) (h5 : i ≤ 5) : ∃ F, Ev (fun k => field_Known.f k i) ([F], 0) ∧ knownT i = (F.p, F.g, 0) ∧ GoodFld F := by
  have go : ∀ {L : List PE} {p g : Int} {l : List S84}, field_known.f i = some (L, p) → ¬ p = 0 → knownT i = (p, g, 0) → L.length ≤ 32 → (List.range L.length).all (rightQ L) = true → L.all okQ = true → L.find? (fun e => e.f0 == p) = some ⟨p, g, l⟩ → ∃ F, Ev (fun k => field_Known.f k i) ([F], 0) ∧ knownT i = (F.p, F.g, 0) ∧ GoodFld F := by
    intro L p g l hk hp hT hn hr hok hf
    obtain ⟨E, hg⟩ := known_at hn hr hok hf
    refine ⟨⟨p, g, l⟩, ?_, hT, hg⟩
    refine Ev.congr (f := fun k => (field_New.f k L p).bind fun r => some (r.1, r.2)) (fun k => ?_) (Ev.bind E (Ev.now _))
    unfold field_Known.f
    rw [hk]
    simp only [Option.bind_some]
    rw [if_neg hp]
  rcases (show i = 0 ∨ i = 1 ∨ i = 2 ∨ i = 3 ∨ i = 4 ∨ i = 5 by omega) with rfl | rfl | rfl | rfl | rfl | rfl
  · exact go (L := known0) (p := 4179340454199820289) (g := 3) (l := [⟨2, 57⟩, ⟨29, 1⟩]) rfl (by decide) rfl (by decide) (by decide +kernel) (by decide +kernel) rfl
  · exact go (L := known1) (p := 1945555039024054273) (g := 5) (l := [⟨2, 56⟩, ⟨3, 3⟩]) rfl (by decide) rfl (by decide) (by decide +kernel) (by decide +kernel) rfl
  · exact go (L := known2) (p := 180143985094819841) (g := 6) (l := [⟨2, 55⟩, ⟨5, 1⟩]) rfl (by decide) rfl (by decide) (by decide +kernel) (by decide +kernel) rfl
  · exact go (L := known3) (p := 754974721) (g := 11) (l := [⟨2, 24⟩, ⟨3, 2⟩, ⟨5, 1⟩]) rfl (by decide) rfl (by decide) (by decide +kernel) (by decide +kernel) rfl
  · exact go (L := known4) (p := 469762049) (g := 3) (l := [⟨2, 26⟩, ⟨7, 1⟩]) rfl (by decide) rfl (by decide) (by decide +kernel) (by decide +kernel) rfl
  · exact go (L := known5) (p := 167772161) (g := 3) (l := [⟨2, 25⟩, ⟨5, 1⟩]) rfl (by decide) rfl (by decide) (by decide +kernel) (by decide +kernel) rfl
theorem known_not {i : Int} (h : ¬ (0 ≤ i ∧ i ≤ 5)) : Ev (fun k => field_Known.f k i) ([], 1) := by
  have hk : field_known.f i = some ([], 0) := by
    unfold field_known.f
    rw [if_neg (by omega), if_neg (by omega), if_neg (by omega), if_neg (by omega), if_neg (by omega), if_neg (by omega)]
  refine Ev.congr (f := fun _ => some ([], 1)) (fun k => ?_) (Ev.now _)
  unfold field_Known.f
  rw [hk]
  rfl
def ofNew (L : List RE) (p : Int) : Int × Int × Int :=
  if (L.length : Int) > 40 then (0, 0, 13) else if (L.any fun e => decide ((e.f2.length : Int) > 20)) = true then (0, 0, 3) else
    if (checkS (L.map tri46)).2 = 0 then (match L.find? (fun e => e.f0 == p) with | some e => (e.f0, e.f1, 0) | none => (0, 0, 14)) else (0, 0, (checkS (L.map tri46)).2)
theorem of_l1 {L M : List RE} {p a b : Int} (hL : L.length ≤ 1000) (l : List RE) : ∀ i : Nat, L.drop i = l →
    Ev (fun k => XO.epicycleref06_Of.l1 k L (L.length : Int) i a b p M) (match l.find? (fun e => e.f0 == p) with | some e => (e.f0, e.f1, 0) | none => (0, 0, 14)) := by
  induction l with
  | nil =>
    intro i hd
    have : L.length ≤ i := by have := congrArg List.length hd; simp at this; omega
    have c : ¬ (i : Int) < (L.length : Int) := by omega
    refine Ev.step (f := fun _ => some (0, 0, 14)) (fun k => ?_) (Ev.now _)
    simp only [XO.epicycleref06_Of.l1]
    rw [if_neg c]
  | cons x l ih =>
    intro i hd
    obtain ⟨hx, hlt, hd'⟩ := rd46_drop hd
    have c : (i : Int) < (L.length : Int) := by omega
    have c0 : 0 ≤ (i : Int) := by omega
    have w : wrap64 ((i : Int) + 1) = ((i + 1 : Nat) : Int) := by rw [w64_id _ (by omega) (by omega)]; omega
    by_cases h : x.f0 = p
    · rw [List.find?_cons, beq_iff_eq.2 h]
      refine Ev.step (f := fun _ => some (x.f0, x.f1, 0)) (fun k => ?_) (Ev.now _)
      simp only [XO.epicycleref06_Of.l1]
      rw [if_pos c, if_pos c0, if_pos c, hx, if_pos h]
    · rw [List.find?_cons, beq_eq_false_iff_ne.2 h]
      refine Ev.step (fun k => ?_) (ih (i + 1) hd')
      simp only [XO.epicycleref06_Of.l1]
      rw [if_pos c, if_pos c0, if_pos c, hx, if_neg h, w]
theorem of_l0 {L M : List RE} {p a b : Int} {r : Int × Int × Int} (hL : L.length ≤ 1000) (E : Ev (fun k => (epicycleref04_Check.f k M).bind fun c => if c.2 = 0 then XO.epicycleref06_Of.l1 k M (M.length : Int) 0 a b p M else some (0, 0, c.2)) r) (l : List RE) : ∀ i : Nat, L.drop i = l →
    Ev (fun k => XO.epicycleref06_Of.l0 k L (L.length : Int) i a b p M) (if (l.any fun e => decide ((e.f2.length : Int) > 20)) = true then (0, 0, 3) else r) := by
  induction l with
  | nil =>
    intro i hd
    have : L.length ≤ i := by have := congrArg List.length hd; simp at this; omega
    have c : ¬ (i : Int) < (L.length : Int) := by omega
    rw [if_neg (by simp)]
    refine Ev.step (fun k => ?_) E
    simp only [XO.epicycleref06_Of.l0]
    rw [if_neg c]
  | cons x l ih =>
    intro i hd
    obtain ⟨hx, hlt, hd'⟩ := rd46_drop hd
    have c : (i : Int) < (L.length : Int) := by omega
    have c0 : 0 ≤ (i : Int) := by omega
    have w : wrap64 ((i : Int) + 1) = ((i + 1 : Nat) : Int) := by rw [w64_id _ (by omega) (by omega)]; omega
    by_cases h : (x.f2.length : Int) > 20
    · rw [List.any_cons, decide_eq_true h, Bool.true_or, if_pos rfl]
      refine Ev.step (f := fun _ => some (0, 0, 3)) (fun k => ?_) (Ev.now _)
      simp only [XO.epicycleref06_Of.l0]
      rw [if_pos c, if_pos c0, if_pos c, hx, if_pos h]
    · rw [List.any_cons, decide_eq_false h, Bool.false_or]
      refine Ev.step (fun k => ?_) (ih (i + 1) hd')
      simp only [XO.epicycleref06_Of.l0]
      rw [if_pos c, if_pos c0, if_pos c, hx, if_neg h, w]
theorem ofNew_ev {L : List RE} (hL : okRow L) {kind K p : Int} (h0 : ¬ kind = 0) (h1 : ¬ kind = 1) : Ev (fun k => epicycleref06_Of.f k kind K p L) (ofNew L p) := by
  have c : ¬ (kind = 1 ∧ 0 ≤ K ∧ K ≤ 5) := fun h => h1 h.1
  refine Ev.congr (f := fun k => if (L.length : Int) > 40 then some (0, 0, 13) else XO.epicycleref06_Of.l0 k L (L.length : Int) 0 kind K p L) (fun k => ?_) ?_
  · unfold epicycleref06_Of.f XO.epicycleref06_Of.f
    rw [if_neg c, if_neg h0, if_neg h1]
  unfold ofNew
  by_cases h : (L.length : Int) > 40
  · rw [if_pos h]; exact evP h (Ev.now _)
  · rw [if_neg h]
    refine evN h (of_l0 (by omega) ?_ L 0 rfl)
    refine Ev.bind (refcheck_ev hL.2) ?_
    by_cases hz : (checkS (L.map tri46)).2 = 0
    · rw [if_pos hz]; exact evP hz (of_l1 (by omega) L 0 rfl)
    · rw [if_neg hz]; exact evN hz (Ev.now _)
theorem new_of {L : List RE} (hL : okRow L) (p : Int) : (∃ e, e ≠ 0 ∧ newS (L.map cE) p = ([], e) ∧ ∃ e', e' ≠ 0 ∧ ofNew L p = (0, 0, e') ∧ ((L.length : Int) ≤ 40 → (∀ x ∈ L, (x.f2.length : Int) ≤ 20) → e' = e)) ∨ ∃ F, newS (L.map cE) p = ([F], 0) ∧ ofNew L p = (F.p, F.g, 0) ∧ GoodFld F ∧ (L.length : Int) ≤ 40 := by
  have hm := map_tri L
  have hok : ∀ e ∈ (L.map cE).map tri, okE e := by rw [hm]; exact hL.2
  have key : newS (L.map cE) p = if (checkS (L.map tri46)).2 = 0 then (match L.find? (fun e => e.f0 == p) with | some e => ([⟨e.f0, e.f1, e.f2.map cF⟩], 0) | none => ([], 14)) else ([], (checkS (L.map tri46)).2) := by
    unfold newS
    rw [hm, List.find?_map]
    have : ((fun e : PE => e.f0 == p) ∘ cE) = fun e : RE => e.f0 == p := rfl
    rw [this]
    cases L.find? (fun e => e.f0 == p) <;> rfl
  by_cases hz : (checkS (L.map tri46)).2 = 0
  · have hz' : (checkS ((L.map cE).map tri)).2 = 0 := by rw [hm]; exact hz
    have hl := (check_facts hz').2
    rw [List.length_map] at hl
    have hs : ∀ e ∈ L, (e.f2.length : Int) ≤ 20 := fun e he => by
      have := (entry_good hok hz' (List.mem_map_of_mem he)).short
      have : (e.f2.map cF).length ≤ 16 := this
      rw [List.length_map] at this
      omega
    have ho : ofNew L p = (match L.find? (fun e => e.f0 == p) with | some e => (e.f0, e.f1, 0) | none => (0, 0, 14)) := by
      unfold ofNew
      rw [if_neg (by omega), if_neg, if_pos hz]
      rw [Bool.not_eq_true, List.any_eq_false]
      intro e he
      have := hs e he
      simp only [decide_eq_true_eq]; omega
    rw [if_pos hz] at key
    cases hf : L.find? (fun e => e.f0 == p) with
    | none =>
      rw [hf] at ho key
      exact .inl ⟨14, by decide, key, 14, by decide, ho, fun _ _ => rfl⟩
    | some e =>
      rw [hf] at ho key
      exact .inr ⟨_, key, ho, entry_good hok hz' (List.mem_map_of_mem (List.mem_of_find?_eq_some hf)), by omega⟩
  · rw [if_neg hz] at key
    refine .inl ⟨_, hz, key, ?_⟩
    unfold ofNew
    split
    · next h => exact ⟨13, by decide, rfl, fun h' => absurd h' (by omega)⟩
    · split
      · next h =>
        refine ⟨3, by decide, rfl, fun _ h' => ?_⟩
        rw [List.any_eq_true] at h
        obtain ⟨x, hx, h⟩ := h
        have := h' x hx
        simp only [decide_eq_true_eq] at h
        omega
      · exact ⟨_, hz, rfl, fun _ _ => rfl⟩
open Classical in
theorem of_small {L : List RE} {K p : Int} : (OddP p → ∀ g, Ev (fun k => epicycleref05_Generator.f k p) g → Ev (fun k => epicycleref06_Of.f k 0 K p L) (p, g, 0)) ∧ (¬ OddP p → Ev (fun k => epicycleref06_Of.f k 0 K p L) (0, 0, 1)) := by
  have O := rOdd_ev p
  have e : ∀ k, epicycleref06_Of.f k 0 K p L = ((epicycleref05_Odd.f k p).bind fun t102 => (if t102 = true then ((epicycleref05_Generator.f k p).bind fun t103 => (some (p, t103, 0))) else (some (0, 0, 1)))) := fun k => by
    unfold epicycleref06_Of.f XO.epicycleref06_Of.f
    rw [if_neg (by omega), if_pos rfl]
  refine ⟨fun h g G => ?_, fun h => ?_⟩
  · rw [decide_eq_true h] at O
    exact Ev.congr e (Ev.bind O (evP rfl (Ev.bind G (Ev.now _))))
  · rw [decide_eq_false h] at O
    exact Ev.congr e (Ev.bind O (evN (by decide) (Ev.now _)))
theorem of_known {L : List RE} {K p : Int} : ((0 ≤ K ∧ K ≤ 5) → Ev (fun k => epicycleref06_Of.f k 1 K p L) (knownT K)) ∧ (¬ (0 ≤ K ∧ K ≤ 5) → Ev (fun k => epicycleref06_Of.f k 1 K p L) (0, 0, 1)) := by
  refine ⟨fun h => Ev.congr (fun k => by unfold epicycleref06_Of.f; rw [if_pos ⟨rfl, h⟩]) (Ev.now _), fun h => ?_⟩
  refine Ev.congr (f := fun k => XO.epicycleref06_Of.j0 k true) (fun k => ?_) (Ev.step (f := fun _ => some (0, 0, 1)) (fun k => ?_) (Ev.now _))
  · unfold epicycleref06_Of.f XO.epicycleref06_Of.f
    rw [if_neg (fun c => h c.2), if_neg (by decide), if_pos rfl]
    by_cases c : K < 0
    · rw [if_pos c]
    · rw [if_neg c, decide_eq_true (by omega)]
  · simp only [XO.epicycleref06_Of.j0]
    rw [if_pos trivial]
end Go.Proofs.YthnpjjpdlihepaaGreat.F06
end
section
namespace Go.Proofs.YthnpjjpdlihepaaGreat.F06
open Go Go.RowKit Go.Proofs.YthnpjjpdlihepaaGreatW.PrintWords Go.Proofs.YthnpjjpdlihepaaGreatW.PrintLast Go.Proofs.YthnpjjpdlihepaaGreatW.PrintMore Go.Proofs.YthnpjjpdlihepaaGreat.Given Go.Proofs.YthnpjjpdlihepaaGreat.M Go.Proofs.YthnpjjpdlihepaaGreat.Mont Go.Proofs.YthnpjjpdlihepaaGreat.XS Go.Proofs.YthnpjjpdlihepaaGreat.XT Go.Proofs.YthnpjjpdlihepaaGreat.XR Go.Proofs.YthnpjjpdlihepaaGreat.Num Go.Proofs.YthnpjjpdlihepaaGreat.XK
theorem evS {α : Type} {o : Option α} {r : α} (h : o = some r) : Ev (fun _ => o) r := ⟨0, fun _ _ => h⟩
theorem evB {α β : Type} {o : Option α} {f : Nat → α → Option β} {a : α} {r : β} (h : o = some a) (k : Ev (fun n => f n a) r) : Ev (fun n => o.bind (f n)) r := Ev.bind (evS h) k
variable {F : Fld}
theorem GoodFld.nat (h : GoodFld F) : ∃ P G : Nat, F.p = P ∧ F.g = G ∧ 3 ≤ P ∧ P < 9223372036854775808 ∧ P % 2 = 1 ∧ Prime P ∧ ∀ x, G ^ x % P = 1 ↔ P - 1 ∣ x := by
  have hf := h.fits
  unfold XR.fits at hf
  have ho := h.ord
  refine ⟨F.p.toNat, F.g.toNat, by omega, by omega, by omega, by omega, by omega, ho.prime, ho.2⟩
theorem GoodFld.lo (h : GoodFld F) : 3 ≤ F.p := h.m.2.1
theorem GoodFld.hi (h : GoodFld F) : F.p < 9223372036854775808 := h.m.2.2
theorem GoodFld.uP (h : GoodFld F) : U F.p := ⟨by have := h.lo; omega, by have := h.hi; omega⟩
theorem GoodFld.ne (h : GoodFld F) : F.p ≠ 0 := by have := h.lo; omega
theorem GoodFld.uE (h : GoodFld F) (x : Int) : U (x % F.p) := U_emod x h.uP h.ne
theorem GoodFld.one (h : GoodFld F) : (1 : Int) % F.p = 1 := Int.emod_eq_of_lt (by omega) (by have := h.lo; omega)
theorem ncast_pow_mod (G P n : Nat) : (G : Int) ^ n % (P : Int) = ((G ^ n % P : Nat) : Int) := by
  rw [Int.natCast_emod, Int.natCast_pow]
theorem GoodFld.ordI (h : GoodFld F) (x : Nat) : F.g ^ x % F.p = 1 ↔ (F.p - 1).toNat ∣ x := by
  obtain ⟨P, G, e1, e2, h3, _, _, _, ho⟩ := h.nat
  rw [e1, e2, ncast_pow_mod, show ((P : Int) - 1).toNat = P - 1 by omega, ← ho x]
  omega
theorem GoodFld.euclid (h : GoodFld F) {a b : Int} (e : a * b % F.p = 0) : a % F.p = 0 ∨ b % F.p = 0 := by
  obtain ⟨P, G, e1, _, _, _, _, hp, _⟩ := h.nat
  rw [e1] at e ⊢
  rcases hp.int (Int.dvd_of_emod_eq_zero e) with d | d
  · exact .inl (Int.emod_eq_zero_of_dvd d)
  · exact .inr (Int.emod_eq_zero_of_dvd d)
theorem GoodFld.fermat (h : GoodFld F) {a : Int} (ha : a % F.p ≠ 0) : a ^ (F.p - 1).toNat % F.p = 1 := by
  obtain ⟨P, G, e1, _, h3, _, _, hp, _⟩ := h.nat
  have hlo := h.lo
  rw [← emod_pow]
  obtain ⟨A, hA⟩ : ∃ A : Nat, a % F.p = A := ⟨(a % F.p).toNat, by have := Int.emod_nonneg a h.ne; omega⟩
  have hlt := Int.emod_lt_of_pos a (show 0 < F.p by omega)
  rw [hA] at ha hlt ⊢
  rw [e1] at hlt ⊢
  rw [show ((P : Int) - 1).toNat = P - 1 by omega, ncast_pow_mod, hp.fermat (by rw [Nat.mod_eq_of_lt (by omega)]; omega)]
  rfl
theorem GoodFld.inv (h : GoodFld F) {a : Int} (ha : a % F.p ≠ 0) : invF F.p a = a ^ (F.p - 2).toNat % F.p ∧ invF F.p a * a % F.p = 1 ∧ invF F.p a % F.p ≠ 0 ∧ 0 ≤ invF F.p a ∧ invF F.p a < F.p := by
  have hlo := h.lo
  have e : (F.p - 1).toNat = (F.p - 2).toNat + 1 := by omega
  have hf := h.fermat ha
  rw [e, Int.pow_succ] at hf
  have h0 := Int.emod_nonneg (a ^ (F.p - 2).toNat) h.ne
  have h1 := Int.emod_lt_of_pos (a ^ (F.p - 2).toNat) (show 0 < F.p by omega)
  have h2 : a ^ (F.p - 2).toNat % F.p * a % F.p = 1 := by rw [emod_mul_l]; exact hf
  have e1 := invF_eq (by omega) h0 h1 h2
  rw [e1]
  refine ⟨rfl, h2, fun c => ?_, h0, h1⟩
  rw [Int.emod_emod] at c
  rw [c, Int.zero_mul, Int.zero_emod] at h2
  omega
theorem GoodFld.inv0 (h : GoodFld F) {a : Int} (ha : a % F.p = 0) : invF F.p a = 0 := by
  have hlo := h.lo
  refine invF_none fun ⟨t, _, _, e⟩ => ?_
  rw [Int.mul_emod, ha, Int.mul_zero, Int.zero_emod] at e
  omega
theorem GoodFld.cancel (h : GoodFld F) {a b c : Int} (hc : c % F.p ≠ 0) (e : a * c % F.p = b * c % F.p) : a % F.p = b % F.p := by
  have : (a - b) * c % F.p = 0 := by rw [Int.sub_mul]; exact Int.emod_eq_zero_of_dvd (M.dvd_sub_of_emod e)
  rcases h.euclid this with d | d
  · exact M.emod_of_dvd_sub (Int.dvd_of_emod_eq_zero d)
  · exact absurd d hc
def rootI (F : Fld) (n : Int) : Int := F.g ^ ((F.p - 1) / n).toNat % F.p
theorem rootI_pow (F : Fld) (n : Int) (k : Nat) : rootI F n ^ k % F.p = F.g ^ (((F.p - 1) / n).toNat * k) % F.p := by
  unfold rootI
  rw [emod_pow, ← Int.pow_mul]
theorem div_parts {p n : Int} (hp : 3 ≤ p) (hn : 0 < n) (hd : (p - 1) % n = 0) : (p - 1).toNat = ((p - 1) / n).toNat * n.toNat ∧ 0 < ((p - 1) / n).toNat ∧ 0 < n.toNat := by
  have e := Int.mul_ediv_add_emod (p - 1) n
  rw [hd, Int.add_zero] at e
  have hq : 0 < (p - 1) / n := by
    refine Classical.byContradiction fun c => ?_
    have := Int.mul_nonpos_of_nonneg_of_nonpos (show 0 ≤ n by omega) (show (p - 1) / n ≤ 0 by omega)
    omega
  refine ⟨?_, by omega, by omega⟩
  have e' : ((p - 1).toNat : Int) = ((((p - 1) / n).toNat * n.toNat : Nat) : Int) := by
    rw [Int.natCast_mul, Int.toNat_of_nonneg (by omega), Int.toNat_of_nonneg (by omega), Int.toNat_of_nonneg (by omega), Int.mul_comm]
    exact e.symm
  omega
theorem GoodFld.root_ord (h : GoodFld F) {n : Int} (hn : 0 < n) (hd : (F.p - 1) % n = 0) (k : Nat) : rootI F n ^ k % F.p = 1 ↔ n.toNat ∣ k := by
  obtain ⟨e, h1, h2⟩ := div_parts h.lo hn hd
  rw [rootI_pow, h.ordI, e]
  exact Nat.mul_dvd_mul_iff_left h1
theorem GoodFld.uRoot (h : GoodFld F) (n : Int) : U (rootI F n) := h.uE _
theorem GoodFld.root_ne (h : GoodFld F) {n : Int} (hn : 0 < n) (hd : (F.p - 1) % n = 0) : rootI F n % F.p ≠ 0 := by
  intro c
  obtain ⟨_, _, h2⟩ := div_parts h.lo hn hd
  have := (h.root_ord hn hd n.toNat).2 (Nat.dvd_refl _)
  rw [← emod_pow, c, Int.zero_pow (by omega), Int.zero_emod] at this
  omega
theorem Root_at (F : Fld) {n : Int} (hb : n < 9223372036854775808) (hn : 0 < n) (hd : (F.p - 1) % n = 0) : field_Field_Root.f [F] n = some (rootI F n, 0) := by
  unfold field_Field_Root.f
  rw [if_pos hb]
  show some (if _ then _ else _) = _
  rw [if_pos ⟨hn, hd⟩]
  rfl
theorem Root_not (F : Fld) {n : Int} (hb : n < 9223372036854775808) (hn : ¬ (0 < n ∧ (F.p - 1) % n = 0)) : field_Field_Root.f [F] n = some (0, 4) := by
  unfold field_Field_Root.f
  rw [if_pos hb]
  show some (if _ then _ else _) = _
  rw [if_neg hn]
theorem gen17 {g : Int} (h : Ev (fun k => epicycleref05_Generator.f k 17) g) : g = 3 :=
  Ev.unique h (Ev.of (g := fun k => epicycleref05_Generator.f k 17) (fun k => epicycleref05_Generator.mono 17 k) (k := 60) (by kernel_rfl))
theorem prime17 : Prime 17 := ⟨by decide, fun d hd => by
  have := Nat.le_of_dvd (by decide) hd
  have : ∀ d : Nat, d ≤ 17 → d ∣ 17 → d = 1 ∨ d = 17 := by decide
  exact this d (by omega) hd⟩
theorem small17 : ∃ F, Ev (fun k => field_Small.f k 17) ([F], 0) ∧ F.p = 17 ∧ F.g = 3 ∧ GoodFld F := by
  obtain ⟨F, h1, h2, h3, h4⟩ := small_odd (x := 17) ⟨by decide, by decide, prime17⟩
  exact ⟨F, h1, h3, gen17 h2, h4⟩
end Go.Proofs.YthnpjjpdlihepaaGreat.F06
end
section
namespace Go.Proofs.YthnpjjpdlihepaaGreat.XW
open Go.RowKit Go.Proofs.YthnpjjpdlihepaaGreat.Given Go.Proofs.YthnpjjpdlihepaaGreat.Row05 Go.Proofs.YthnpjjpdlihepaaGreat.XS Go.Proofs.YthnpjjpdlihepaaGreat.XT Go.Proofs.YthnpjjpdlihepaaGreat.XR Go.Proofs.YthnpjjpdlihepaaGreat.F06 Go.Proofs.YthnpjjpdlihepaaGreat.XK Go.Proofs.YthnpjjpdlihepaaGreatW.PrintWords Go.Proofs.YthnpjjpdlihepaaGreatW.PrintLast Go.Proofs.YthnpjjpdlihepaaGreatW.PrintMore
attribute [local go_sem] max2_int min2_int max_two min_two max_three min_three max_four min_four   -- for this text's walks alone
set_option linter.unusedVariables false
set_option linter.unusedSimpArgs false
noncomputable def twiddle_Root.j0 : Nat → List (Fld) → Int → Int → Bool → Option (Int × Int)
 | 0, _, _, _, _ => none
 | k + 1, x0, x8, x9, x29 => if x29 = true then ((field_Field_Inv.f x0 x8).bind fun t103 => (some (t103, x9))) else (some (x8, x9))
noncomputable def twiddle_Root.f (k : Nat) (l0 : List (Fld)) (a1 : Int) (a2 : Bool) : Option (Int × Int) := if (l0.length : Int) = 0 then (some (0, 2)) else (if a1 < 1 then (some (0, 1)) else (if a1 > 4096 then (some (0, 13)) else ((field_Field_Root.f l0 a1).bind fun bt101 => (if bt101.2 = 0 then (twiddle_Root.j0 k l0 bt101.1 bt101.2 a2) else (twiddle_Root.j0 k l0 bt101.1 bt101.2 false)))))
set_option maxHeartbeats 8000000 in
set_option maxRecDepth 100000 in
theorem twiddle_Root.calls (k : Nat) (A0 : Option Addr) (c0 : Nat) (l0 : List (Fld)) (a1 : Int) (a2 : Bool) (r1 : Int) (r2 : Int) (w : World) (hr0 : Kd.C kFld w A0 l0.length l0) (hc0 : l0.length ≤ c0) (h : twiddle_Root.f k l0 a1 a2 = some (r1, r2)) :
  Calls Tryz.prog 23 #[toPtr (.slice A0 l0.length c0), .int .i64 a1, .bool a2] w fun e w' => e = .returned (.tuple #[.int .u64 r1, .int .i64 r2]) ∧ Drawn0 w w' := by
 have HR0 := Aside0.mk hr0
 have HC0 := Aside0.mk hc0
 clear hr0 hc0
 have H := h; unfold twiddle_Root.f at H
 clear h
 by_cases c4 : (l0.length : Int) = 0
 ·rw [if_pos c4] at H
  have c4b0 := beq_iff_eq.mpr c4
  have c4b1 := bne_eq_false_iff_eq.mpr c4
  have hT_HR0 := pf_none A0 c0 (show l0.length = 0 by omega)
  (try rw [hT_HR0])
  clear c4
  simp only [Option.some.injEq, Prod.mk.injEq] at H
  obtain ⟨rfl, rfl⟩ := H
  go_enter Tryz.func23, Tryz.ntmps23
  go_wp2
  go_ret2
  exact ⟨by first | rfl | (simp; done) | (simp [*]; done), by repeat (first | exact Drawn0.refl _ | apply Drawn0.step)⟩
 ·rw [if_neg c4] at H
  have c4b0 := beq_eq_false_iff_ne.mpr c4
  have c4b1 := bne_iff_ne.mpr c4
  have c4b2 : ¬ (l0 = []) := fun h_ => c4 (by rw [h_]; rfl)
  obtain ⟨aT_HR0, hT_HR0⟩ := pf_some A0 c0 (show ¬ (l0.length = 0) by omega)
  (try rw [hT_HR0])
  by_cases c5 : a1 < 1
  ·rw [if_pos c5] at H
   have c5b0 := decide_eq_true c5
   clear c5
   simp only [Option.some.injEq, Prod.mk.injEq] at H
   obtain ⟨rfl, rfl⟩ := H
   go_enter Tryz.func23, Tryz.ntmps23
   go_wp2
   go_ret2
   exact ⟨by first | rfl | (simp; done) | (simp [*]; done), by repeat (first | exact Drawn0.refl _ | apply Drawn0.step)⟩
  ·rw [if_neg c5] at H
   have c5b0 := decide_eq_false c5
   clear c5
   by_cases c6 : a1 > 4096
   ·rw [if_pos c6] at H
    have c6b0 := decide_eq_true c6
    clear c6
    simp only [Option.some.injEq, Prod.mk.injEq] at H
    obtain ⟨rfl, rfl⟩ := H
    go_enter Tryz.func23, Tryz.ntmps23
    go_wp2
    go_ret2
    exact ⟨by first | rfl | (simp; done) | (simp [*]; done), by repeat (first | exact Drawn0.refl _ | apply Drawn0.step)⟩
   ·rw [if_neg c6] at H
    have c6b0 := decide_eq_false c6
    clear c6
    replace H := Option.bind_eq_some_iff.mp H
    obtain ⟨⟨t101, t102⟩, A70, H⟩ := H
    (try dsimp only at H)
    have A7 := Aside0.mk A70
    clear A70
    have HC8 := Aside0.mk H
    clear H
    go_enter Tryz.func23, Tryz.ntmps23
    go_upto_region 8 with (first | ((with_reducible refine gate_callee (f := 29) rfl ?_); refine goesL_ (some 22) rfl rfl Tryz.func29 (by kernel_rfl) rfl #[toPtr (.slice A0 l0.length c0), .int .i64 a1] rfl (by (try simp only [List.map_toArray, List.map_cons, List.map_nil]); first | done | (rw [hT_HR0] <;> rfl) | rfl | (simp only [List.length_drop, List.length_take]; rfl)) ?_; (try rw [← hT_HR0]); (with_reducible refine (field_Field_Root.calls _ _ l0 a1 t101 t102 _ ?side1 ?side2 A7.out).mono ?_); (case side1 => repeat (first | exact HR0.out | (with_reducible refine Kd.C_alloc ?_ _) | (with_reducible refine Kd.C_drewN ?_ _) | (with_reducible refine Kd.C_drew ?_))); (case side2 => exact HC0.out); rintro e w' ⟨rfl, ⟨nd, rfl⟩⟩; refine ⟨_, rfl, ?_⟩))
    (try simp only [Act.put, List.setIfInBounds_toArray, List.set_cons_zero, List.set_cons_succ])
    go_cut [29] (fun v29 wc => ∃ (kq : Nat) (x29_7 : Bool), v29 = .bool x29_7 ∧ Aside0 (twiddle_Root.j0 kq l0 t101 t102 x29_7 = some (r1, r2)) ∧ Aside0 (kq ≤ k) ∧ Drawn0 w wc)
    case first =>
     have H := HC8.out
     clear HC8
     by_cases c9 : t102 = 0
     ·rw [if_pos c9] at H
      have c9b0 := beq_iff_eq.mpr c9
      have c9b1 := bne_eq_false_iff_eq.mpr c9
      clear c9
      (first | rw [c9b0] | (simp only [i64_w, i32_w]; rw [c9b0]) | skip)
      have H' := Aside0.mk H
      clear H
      go_wp2
      go_meet
      case rel => exact ⟨_, (a2), (by first | rfl | (simp; done) | (simp [*]; done)), H', ⟨by first | omega | exact Nat.le_refl _⟩, by repeat (first | exact Drawn0.refl _ | apply Drawn0.step)⟩
     ·rw [if_neg c9] at H
      have c9b0 := beq_eq_false_iff_ne.mpr c9
      have c9b1 := bne_iff_ne.mpr c9
      (first | rw [c9b0] | (simp only [i64_w, i32_w]; rw [c9b0]) | skip)
      have H' := Aside0.mk H
      clear H
      go_wp2
      go_meet
      case rel => exact ⟨_, (false), (by first | rfl | (simp; done) | (simp [*]; done)), H', ⟨by first | omega | exact Nat.le_refl _⟩, by repeat (first | exact Drawn0.refl _ | apply Drawn0.step)⟩
    case rest =>
     clear HC8
     try clear c2
     try clear p2
     try clear c4
     try clear c4b0
     try clear c4b1
     try clear c4b2
     try clear c5
     try clear c5b0
     try clear c6
     try clear c6b0
     try clear c9
     try clear c9b0
     try clear c9b1
     obtain ⟨kq, x29_7, rfl, HA, HJ7, ⟨mc7, rfl⟩⟩ := hcut
     cases kq with
     | zero => exact absurd HA.out (by simp [twiddle_Root.j0])
     | succ kj7 =>
      have H := HA.out
      clear HA
      simp only [twiddle_Root.j0] at H
      by_cases c10 : x29_7 = true
      ·subst c10
       have H1 := H; rw [if_pos rfl] at H1
       clear H
       have H := H1
       clear H1
       replace H := Option.bind_eq_some_iff.mp H
       obtain ⟨t103, A110, H⟩ := H
       (try dsimp only at H)
       have A11 := Aside0.mk A110
       clear A110
       simp only [Option.some.injEq, Prod.mk.injEq] at H
       obtain ⟨rfl, rfl⟩ := H
       go_wp2_with (first | ((with_reducible refine gate_callee (f := 17) rfl ?_); refine goesL_ (some 32) rfl rfl Tryz.func17 (by kernel_rfl) rfl #[toPtr (.slice A0 l0.length c0), .int .u64 t101] rfl (by (try simp only [List.map_toArray, List.map_cons, List.map_nil]); first | done | (rw [hT_HR0] <;> rfl) | rfl | (simp only [List.length_drop, List.length_take]; rfl)) ?_; (try rw [← hT_HR0]); (with_reducible refine (field_Field_Inv.calls _ _ l0 t101 t103 _ ?side1 ?side2 A11.out).mono ?_); (case side1 => repeat (first | exact HR0.out | (with_reducible refine Kd.C_alloc ?_ _) | (with_reducible refine Kd.C_drewN ?_ _) | (with_reducible refine Kd.C_drew ?_))); (case side2 => exact HC0.out); rintro e w' ⟨rfl, ⟨nd, rfl⟩⟩; refine ⟨_, rfl, ?_⟩))
       go_ret2
       exact ⟨by first | rfl | (simp; done) | (simp [*]; done), by repeat (first | exact Drawn0.refl _ | apply Drawn0.step)⟩
      ·replace c10 := Bool.eq_false_iff.mpr c10
       subst c10
       have H1 := H; rw [if_neg (show ¬ (false = true) by decide)] at H1
       clear H
       have H := H1
       clear H1
       simp only [Option.some.injEq, Prod.mk.injEq] at H
       obtain ⟨rfl, rfl⟩ := H
       go_wp2
       go_ret2
       exact ⟨by first | rfl | (simp; done) | (simp [*]; done), by repeat (first | exact Drawn0.refl _ | apply Drawn0.step)⟩
noncomputable def twiddle_Table.l0 : Nat → List (Fld) → Int → List Int → Int → Int → Int → Option (List Int × Int)
 | 0, _, _, _, _, _, _ => none
 | k + 1, x0, x10, x11, x12, x30, x31 => if x31 < x30 then (if 0 ≤ x31 then (if x31 < (x11.length : Int) then ((field_Field_Times.f x0 x10 x12).bind fun t111 => (twiddle_Table.l0 k x0 x10 (x11.set (x31 : Int).toNat x12) t111 x30 (wrap64 (x31 + 1)))) else (none)) else (none)) else (some (x11, 0))
noncomputable def twiddle_Table.f (k : Nat) (l0 : List (Fld)) (a1 : Int) (a2 : Bool) : Option (List Int × Int) := (twiddle_Root.f k l0 a1 a2).bind fun bt104 => (if bt104.2 = 0 then ((field_Field_Lift.f l0 bt104.1).bind fun t106 => (if 0 ≤ a1 then (if (a1 : Int).toNat ≤ 35184372088832 then ((some (List.replicate (a1 : Int).toNat 0 : List Int)).bind fun y107 => (twiddle_Table.l0 k l0 t106 y107 1 (y107.length : Int) 0)) else (none)) else (none))) else (some (([] : List Int), bt104.2)))
set_option maxHeartbeats 8000000 in
set_option maxRecDepth 100000 in
theorem twiddle_Table.calls (k : Nat) (A0 : Option Addr) (c0 : Nat) (l0 : List (Fld)) (a1 : Int) (a2 : Bool) (r1 : List Int) (r2 : Int) (w : World) (hr0 : Kd.C kFld w A0 l0.length l0) (hc0 : l0.length ≤ c0) (h : twiddle_Table.f k l0 a1 a2 = some (r1, r2)) :
  Calls Tryz.prog 25 #[toPtr (.slice A0 l0.length c0), .int .i64 a1, .bool a2] w fun e w' => ∃ v0_ : Value, e = .returned (.tuple #[v0_, .int .i64 r2]) ∧ Kd.R (Kd.int .u64) 22 w' w.heap.size (fun _ => True) v0_ r1 ∧ Below w.heap.size w w' := by
 have HR0 := Aside0.mk hr0
 have HC0 := Aside0.mk hc0
 clear hr0 hc0
 have HB := Aside0.mk (Below.refl w.heap.size w)
 have H := h; unfold twiddle_Table.f at H
 clear h
 replace H := Option.bind_eq_some_iff.mp H
 obtain ⟨⟨t104, t105⟩, A40, H⟩ := H
 (try dsimp only at H)
 have A4 := Aside0.mk A40
 clear A40
 by_cases c5 : t105 = 0
 ·rw [if_pos c5] at H
  have c5b0 := beq_iff_eq.mpr c5
  have c5b1 := bne_eq_false_iff_eq.mpr c5
  clear c5
  replace H := Option.bind_eq_some_iff.mp H
  obtain ⟨t106, A60, H⟩ := H
  (try dsimp only at H)
  have A6 := Aside0.mk A60
  clear A60
  by_cases c7 : 0 ≤ a1
  ·rw [if_pos c7] at H
   have c7b0 := eq_true c7
   have c7b1 := decide_eq_true c7
   clear c7
   by_cases c8 : (a1 : Int).toNat ≤ 35184372088832
   ·rw [if_pos c8] at H
    have c8b0 := eq_true c8
    have c8b1 := decide_eq_true c8
    clear c8
    obtain ⟨y107, hy107⟩ : ∃ y_ : List Int, y_ = (List.replicate (a1 : Int).toNat 0) := ⟨_, rfl⟩
    replace H : (twiddle_Table.l0 k l0 t106 y107 1 (y107.length : Int) 0) = some (r1, r2) := by first | (rw [hy107]; with_reducible exact H) | (have H2_ := (Option.bind_some _ _).symm.trans H; rw [hy107]; with_reducible exact H2_) | (have H2_ := (Option.bind_some _ _).symm.trans H; with_reducible exact H2_) | with_reducible exact H | (rw [hy107]; exact H) | exact H
    have Ny107 := Aside0.mk hy107
    clear hy107
    have H' := Aside0.mk H
    clear H
    go_enter Tryz.func25, Tryz.ntmps25
    go_wp2_with (first | ((with_reducible refine gate_callee (f := 23) rfl ?_); refine goesL_ (some 18) rfl rfl Tryz.func23 (by kernel_rfl) rfl #[toPtr (.slice A0 l0.length c0), .int .i64 a1, .bool a2] rfl (by (try simp only [List.map_toArray, List.map_cons, List.map_nil]); first | done | (rw [hT_HR0] <;> rfl) | rfl | (simp only [List.length_drop, List.length_take]; rfl)) ?_; (try rw [← hT_HR0]); (with_reducible refine (twiddle_Root.calls k _ _ l0 a1 a2 t104 t105 _ ?side1 ?side2 A4.out).mono ?_); (case side1 => repeat (first | exact HR0.out | (with_reducible refine Kd.C_alloc ?_ _) | (with_reducible refine Kd.C_drewN ?_ _) | (with_reducible refine Kd.C_drew ?_))); (case side2 => exact HC0.out); rintro e w' ⟨rfl, ⟨nd, rfl⟩⟩; refine ⟨_, rfl, ?_⟩) | ((with_reducible refine gate_callee (f := 18) rfl ?_); refine goesL_ (some 26) rfl rfl Tryz.func18 (by kernel_rfl) rfl #[toPtr (.slice A0 l0.length c0), .int .u64 t104] rfl (by (try simp only [List.map_toArray, List.map_cons, List.map_nil]); first | done | (rw [hT_HR0] <;> rfl) | rfl | (simp only [List.length_drop, List.length_take]; rfl)) ?_; (try rw [← hT_HR0]); (with_reducible refine (field_Field_Lift.calls _ _ l0 t104 t106 _ ?side1 ?side2 A6.out).mono ?_); (case side1 => repeat (first | exact HR0.out | (with_reducible refine Kd.C_alloc ?_ _) | (with_reducible refine Kd.C_drewN ?_ _) | (with_reducible refine Kd.C_drew ?_))); (case side2 => exact HC0.out); rintro e w' ⟨rfl, ⟨nd, rfl⟩⟩; refine ⟨_, rfl, ?_⟩) | ((with_reducible refine gate_dst (N := 28) rfl ?_); refine Kd.R_make (Kd.int .u64) _ 22 rfl (N := 28) rfl 39 _ _ rfl a1 rfl rfl Tryz.underlying39 (.int .u64 0) 8 info22 rfl (by decide) (by omega) 0 (ok := fun _ => True) (okp := fun _ => True) rfl (fun _ hk => hk) trivial (of_decide_eq_true (by assumption)) (Nat.le_trans (Nat.mul_le_mul_right _ (of_decide_eq_true (by assumption) : a1.toNat ≤ 35184372088832)) (by omega)) (Below.refl _ _) (Nat.le_refl _) ?_; intro v108 w9 ho10 hb hg_ hnew_; clear hg_ hnew_; (first | rw [← Ny107.out] at ho10 | (simp only [Int.reduceToNat] at ho10; rw [← Ny107.out] at ho10)); have n0_ := Aside0.mk (Kd.R_lower ho10 (below_size bel_)); have n1_ := Aside0.mk (below_step bel_ hb); clear HB; have HO109 := n0_; have HB := n1_; clear n0_ n1_; clear hb ho10; obtain ⟨Ao11, co11, eo11⟩ := Kd.R_slice HO109.out; subst eo11))
    go_loopg [12, 31] k (fun kq v12 v31 w' => ∃ (x11_1 : List Int) (x12_1 : Int) (x31_1 : Int), v12 = .int .u64 x12_1 ∧ v31 = .int .i64 x31_1 ∧ Aside0 (twiddle_Table.l0 kq l0 t106 x11_1 x12_1 (y107.length : Int) x31_1 = some (r1, r2)) ∧ Aside0 (kq ≤ k) ∧ Aside0 (Kd.R (Kd.int .u64) 22 w' w.heap.size (fun _ => True) (.slice Ao11 y107.length co11) x11_1) ∧ Aside0 (Below w.heap.size w w'))
    case atStart => exact ⟨(y107), (1), (0), (by first | rfl | (simp; done) | (simp [*]; done)), (by first | rfl | (simp; done) | (simp [*]; done)), H', ⟨Nat.le_refl _⟩, ⟨by (with_reducible repeat (first | apply Kd.R_alloc | apply Kd.R_drewN | apply Kd.R_drew)); exact HO109.out⟩, ⟨bel_⟩⟩
    case round =>
     clear H'
     try clear c1
     try clear c2
     try clear p2
     try clear c5
     try clear c5b0
     try clear c5b1
     try clear c7
     try clear c7b0
     try clear c7b1
     try clear c8
     try clear c8b0
     try clear c8b1
     obtain ⟨x11_1, x12_1, x31_1, rfl, rfl, HA, HK1, HO_11, HB⟩ := hrel
     have hl11_1 := (Kd.R_reads' HO_11.out).1
     rw [hl11_1] at HO_11
     (try simp only [hl11_1])
     cases gk with
     | zero => exact absurd HA.out (by simp [twiddle_Table.l0])
     | succ k1 =>
      have H := HA.out
      clear HA
      simp only [twiddle_Table.l0] at H
      by_cases c12 : x31_1 < (y107.length : Int)
      ·rw [if_pos c12] at H
       have c12b0 := decide_eq_true c12
       (try (have c12b0hl11_1 := c12b0; simp only [hl11_1] at c12b0hl11_1))
       clear c12
       by_cases c13 : 0 ≤ x31_1
       ·rw [if_pos c13] at H
        have c13b0 := decide_eq_true c13
        clear c13
        by_cases c14 : x31_1 < (x11_1.length : Int)
        ·rw [if_pos c14] at H
         have c14b0 := decide_eq_true c14
         (try (have c14b0hl11_1 := c14b0; simp only [hl11_1] at c14b0hl11_1))
         clear c14
         obtain ⟨y110, hy110⟩ : ∃ y_ : List Int, y_ = (x11_1.set (x31_1 : Int).toNat x12_1) := ⟨_, rfl⟩
         replace H : ((field_Field_Times.f l0 t106 x12_1).bind fun t111 => (twiddle_Table.l0 k1 l0 t106 y110 t111 (y107.length : Int) (wrap64 (x31_1 + 1)))) = some (r1, r2) := by first | (rw [hy110]; with_reducible exact H) | (have H2_ := (Option.bind_some _ _).symm.trans H; rw [hy110]; with_reducible exact H2_) | (have H2_ := (Option.bind_some _ _).symm.trans H; with_reducible exact H2_) | with_reducible exact H | (rw [hy110]; exact H) | exact H
         have Ny110 := Aside0.mk hy110
         clear hy110
         replace H := Option.bind_eq_some_iff.mp H
         obtain ⟨t111, A160, H⟩ := H
         (try dsimp only at H)
         have A16 := Aside0.mk A160
         clear A160
         have H' := Aside0.mk H
         clear H
         have p15 : 0 ≤ (x31_1 : Int) := of_decide_eq_true (by assumption)
         have q15 : (x31_1 : Int) < ((x11_1.length : Int) : Int) := of_decide_eq_true (by assumption)
         obtain ⟨go15, co15, eo15, gb15, gl15, cl15, HG15⟩ := Kd.R_form HO_11.out (by omega)
         (first | cases eo15 | (injection eo15 with ea_ en_ ec_; (first | subst ea_ | (injection ea_ with ea_; subst ea_)); subst ec_; clear en_))
         have GB15 := Aside0.mk gb15
         have GG15 := Aside0.mk HG15
         clear gb15 gl15 HG15
         obtain ⟨hx15_0, hf15_0⟩ := Kd.R_celln 0 HO_11.out (x31_1 : Int) p15 q15
         replace p15 := eq_true p15
         replace q15 := eq_true q15
         have HP17 := Kd.R_putg HO_11.out (x31_1 : Int) x12_1
         go_wp2_with (first | ((with_reducible refine gate_store (t := 22) (p := 37) rfl ?_); refine store_event (t := 22) (p := 37) (v := ?vo_w18) (w1 := (wr.setCell ⟨go15, (x31_1 : Int).toNat, none⟩ (.int .u64 x12_1))) ?hg ?ho ?hn ?hr ?_; (case ho => rfl); (case hg => rfl); (case hn => rfl); (case hr => first | (go_simp; done) | (go_simp; rfl)); intro w18 hw; have hg : wr.grownBy w18 (some go15) := (by rw [hw]; exact HP17.2); have hp_ : Kd.R (Kd.int .u64) 22 w18 w.heap.size (fun _ => True) (.slice (some ⟨go15, 0, none⟩) x11_1.length co11) y110 := (by rw [hw, Ny110.out]; exact HP17.1); clear HP17; have n0_ := Aside0.mk (hp_); have n1_ := Aside0.mk ((by rw [hw]; exact below_set (HB.out) GB15.out : Below w.heap.size w w18)); clear HO_11; clear HB; have HO_11 := n0_; have HB := n1_; clear n0_ n1_; clear hg hw hp_) | ((with_reducible refine gate_callee (f := 20) rfl ?_); refine goesL_ (some 41) rfl rfl Tryz.func20 (by kernel_rfl) rfl #[toPtr (.slice A0 l0.length c0), .int .u64 t106, .int .u64 x12_1] rfl (by (try simp only [List.map_toArray, List.map_cons, List.map_nil]); first | done | (rw [hT_HR0] <;> rfl) | rfl | (simp only [List.length_drop, List.length_take]; rfl)) ?_; (try rw [← hT_HR0]); (with_reducible refine (field_Field_Times.calls _ _ l0 t106 x12_1 t111 _ ?side1 ?side2 A16.out).mono ?_); (case side1 => repeat (first | exact (Kd.C_below HR0.out HB.out) | (with_reducible refine Kd.C_alloc ?_ _) | (with_reducible refine Kd.C_drewN ?_ _) | (with_reducible refine Kd.C_drew ?_))); (case side2 => exact HC0.out); rintro e w' ⟨rfl, ⟨nd, rfl⟩⟩; refine ⟨_, rfl, ?_⟩))
         (try simp only [← hl11_1])
         go_roundg k1
         case measure => have := HK1.out; omega
         case rel => exact ⟨(y110), (t111), (wrap64 (x31_1 + 1)), (by first | rfl | (simp; done) | (simp [*]; done)), (by first | rfl | (simp; done) | (simp [*]; done)), H', ⟨by have := HK1.out; omega⟩, ⟨by (try simp only [hl11_1]); (with_reducible repeat (first | apply Kd.R_alloc | apply Kd.R_drewN | apply Kd.R_drew)); exact HO_11.out⟩, ⟨bel_⟩⟩
        ·rw [if_neg c14] at H
         exact absurd H (by simp)
       ·rw [if_neg c13] at H
        exact absurd H (by simp)
      ·rw [if_neg c12] at H
       have c12b0 := decide_eq_false c12
       (try (have c12b0hl11_1 := c12b0; simp only [hl11_1] at c12b0hl11_1))
       clear c12
       simp only [Option.some.injEq, Prod.mk.injEq] at H
       obtain ⟨rfl, rfl⟩ := H
       go_wp2
       go_ret2
       exact ⟨_, by first | rfl | (simp [errW_none, errW_some] <;> rfl) | (simp [*, errW_none, errW_some] <;> rfl), by (with_reducible repeat (first | apply Kd.R_alloc | apply Kd.R_drewN | apply Kd.R_drew)); exact HO_11.out, bel_⟩
   ·rw [if_neg c8] at H
    exact absurd H (by simp)
  ·rw [if_neg c7] at H
   exact absurd H (by simp)
 ·rw [if_neg c5] at H
  have c5b0 := beq_eq_false_iff_ne.mpr c5
  have c5b1 := bne_iff_ne.mpr c5
  simp only [Option.some.injEq, Prod.mk.injEq] at H
  obtain ⟨rfl, rfl⟩ := H
  go_enter Tryz.func25, Tryz.ntmps25
  go_wp2_with (first | ((with_reducible refine gate_callee (f := 23) rfl ?_); refine goesL_ (some 18) rfl rfl Tryz.func23 (by kernel_rfl) rfl #[toPtr (.slice A0 l0.length c0), .int .i64 a1, .bool a2] rfl (by (try simp only [List.map_toArray, List.map_cons, List.map_nil]); first | done | (rw [hT_HR0] <;> rfl) | rfl | (simp only [List.length_drop, List.length_take]; rfl)) ?_; (try rw [← hT_HR0]); (with_reducible refine (twiddle_Root.calls k _ _ l0 a1 a2 t104 t105 _ ?side1 ?side2 A4.out).mono ?_); (case side1 => repeat (first | exact HR0.out | (with_reducible refine Kd.C_alloc ?_ _) | (with_reducible refine Kd.C_drewN ?_ _) | (with_reducible refine Kd.C_drew ?_))); (case side2 => exact HC0.out); rintro e w' ⟨rfl, ⟨nd, rfl⟩⟩; refine ⟨_, rfl, ?_⟩))
  go_ret2
  exact ⟨_, by first | rfl | (simp [errW_none, errW_some] <;> rfl) | (simp [*, errW_none, errW_some] <;> rfl), by first | exact Kd.R_nil _ _ _ _ _ | exact Kd.N_nil _ _ _ _ _ | exact Kd.V_nil _ _ _ _ _ | exact Kd.Q_nil _ _ _ _ _ | exact Kd.S_nil _ _ _ _ _, bel_⟩
end Go.Proofs.YthnpjjpdlihepaaGreat.XW
end
section
namespace Go.Proofs.YthnpjjpdlihepaaGreat.T10
open Go Go.RowKit Go.Proofs.YthnpjjpdlihepaaGreatW.PrintWords Go.Proofs.YthnpjjpdlihepaaGreatW.PrintLast Go.Proofs.YthnpjjpdlihepaaGreatW.PrintMore Go.Proofs.YthnpjjpdlihepaaGreat.Given Go.Proofs.YthnpjjpdlihepaaGreat.M Go.Proofs.YthnpjjpdlihepaaGreat.Mont Go.Proofs.YthnpjjpdlihepaaGreat.XS Go.Proofs.YthnpjjpdlihepaaGreat.XT Go.Proofs.YthnpjjpdlihepaaGreat.XR Go.Proofs.YthnpjjpdlihepaaGreat.Num Go.Proofs.YthnpjjpdlihepaaGreat.XK Go.Proofs.YthnpjjpdlihepaaGreat.F06 Go.Proofs.YthnpjjpdlihepaaGreat.XW
set_option linter.unusedVariables false
def I64 (x : Int) : Prop := -9223372036854775808 ≤ x ∧ x < 9223372036854775808
def powL (p w : Int) (n : Nat) : List Int := (List.range n).map fun i => w ^ i % p
theorem powL_len (p w : Int) (n : Nat) : (powL p w n).length = n := by unfold powL; rw [List.length_map, List.length_range]
theorem powL_at {p w : Int} {n i : Nat} (h : i < n) : (powL p w n)[i]? = some (w ^ i % p) := by
  unfold powL
  rw [List.getElem?_map, List.getElem?_range h]
  rfl
theorem rd_nat (l : List Int) (i : Nat) : rd l (i : Int) = l.getD i 0 := by unfold rd; rw [Int.toNat_natCast]
theorem rd_powL {p w : Int} {n i : Nat} (h : i < n) : rd (powL p w n) (i : Int) = w ^ i % p := by
  rw [rd_nat, List.getD_eq_getElem?_getD, powL_at h]
  rfl
theorem rd_mem {l : List Int} {i : Nat} (h : i < l.length) : rd l (i : Int) ∈ l := by
  rw [rd_nat, List.getD_eq_getElem?_getD, List.getElem?_eq_getElem h]
  exact List.getElem_mem h
theorem wrap_succ {i : Nat} (h : i ≤ 1000000000) : wrap64 ((i : Int) + 1) = ((i + 1 : Nat) : Int) := by rw [w64_id _ (by omega) (by omega)]; omega
noncomputable def trootI (F : Fld) (n : Int) (inv : Bool) : Int := if inv = true then invF F.p (rootI F n) else rootI F n
theorem rootI_range {F : Fld} (hg : GoodFld F) (n : Int) : 0 ≤ rootI F n ∧ rootI F n < F.p := ⟨Int.emod_nonneg _ hg.ne, Int.emod_lt_of_pos _ (by have := hg.lo; omega)⟩
theorem trootI_range {F : Fld} (hg : GoodFld F) (n : Int) (inv : Bool) : 0 ≤ trootI F n inv ∧ trootI F n inv < F.p := by
  have hlo := hg.lo
  unfold trootI
  split
  · by_cases h : rootI F n % F.p = 0
    · rw [hg.inv0 h]; omega
    · obtain ⟨_, _, _, h0, h1⟩ := hg.inv h
      exact ⟨h0, h1⟩
  · exact rootI_range hg n
theorem troot_U {F : Fld} (hg : GoodFld F) (n : Int) (inv : Bool) : U (trootI F n inv) := by
  have := trootI_range hg n inv
  have := hg.hi
  unfold U; omega
theorem pow_inv_one {F : Fld} (hg : GoodFld F) {u w : Int} (h : u * w % F.p = 1) (k : Nat) : u ^ k * w ^ k % F.p = 1 := by
  rw [← Int.mul_pow, ← emod_pow, h, Int.one_pow]
  exact hg.one
theorem troot_ord {F : Fld} (hg : GoodFld F) {n : Int} (hn : 0 < n) (hd : (F.p - 1) % n = 0) (inv : Bool) (k : Nat) : trootI F n inv ^ k % F.p = 1 ↔ n.toNat ∣ k := by
  cases inv with
  | false => exact hg.root_ord hn hd k
  | true =>
    rw [← hg.root_ord hn hd k]
    show invF F.p (rootI F n) ^ k % F.p = 1 ↔ _
    have h := pow_inv_one hg (hg.inv (hg.root_ne hn hd)).2.1 k
    constructor
    · intro e
      rw [← emod_mul_l, e, Int.one_mul] at h
      exact h
    · intro e
      rw [← emod_mul_r, e, Int.mul_one] at h
      exact h
noncomputable def trootS (F : Fld) (n : Int) (inv : Bool) : Int × Int := if n < 1 then (0, 1) else if n > 4096 then (0, 13) else if (F.p - 1) % n = 0 then (trootI F n inv, 0) else (0, 4)
theorem troot_ev {F : Fld} (hg : GoodFld F) {n : Int} (hn : I64 n) (inv : Bool) : Ev (fun k => twiddle_Root.f k [F] n inv) (trootS F n inv) := by
  refine Ev.congr (f := fun k => if n < 1 then some (0, 1) else (if n > 4096 then some (0, 13) else ((field_Field_Root.f [F] n).bind fun bt113 => (if bt113.2 = 0 then (twiddle_Root.j0 k [F] bt113.1 bt113.2 inv) else (twiddle_Root.j0 k [F] bt113.1 bt113.2 false))))) (fun k => by unfold twiddle_Root.f; rw [if_neg (by simp)]) ?_
  unfold trootS
  by_cases h1 : n < 1
  · rw [if_pos h1]; exact evP h1 (Ev.now _)
  rw [if_neg h1]
  refine evN h1 ?_
  by_cases h2 : n > 4096
  · rw [if_pos h2]; exact evP h2 (Ev.now _)
  rw [if_neg h2]
  refine evN h2 ?_
  have hj : ∀ w e, Ev (fun k => twiddle_Root.j0 k [F] w e false) (w, e) := fun w e => stepE ⟨_, fun k => by simp only [twiddle_Root.j0]; rw [if_neg (by decide)], Ev.now _⟩
  by_cases hd : (F.p - 1) % n = 0
  · rw [if_pos hd]
    refine evB (Root_at F hn.2 (by omega) hd) (evP rfl ?_)
    cases inv with
    | false => exact hj _ _
    | true => exact stepE ⟨_, fun k => by simp only [twiddle_Root.j0]; rw [if_pos trivial], evB (field_Field_Inv.at_ (hg.uRoot n)) (Ev.now _)⟩
  · rw [if_neg hd]
    refine evB (Root_not F hn.2 (fun h => hd h.2)) (evN (by decide) (hj _ _))
theorem table_l0 {F : Fld} (hg : GoodFld F) {w : Int} {n : Nat} (hn : n ≤ 4096) (d : Nat) : ∀ (i : Nat) (l : List Int), i + d = n → l.length = n → (∀ j, j < i → l[j]? = some (w ^ j % F.p)) →
    Ev (fun k => twiddle_Table.l0 k [F] (mIn F.p w) l (w ^ i % F.p) (n : Int) (i : Int)) (powL F.p w n, 0) := by
  induction d with
  | zero =>
    intro i l hi hl hj
    refine stepE ⟨_, fun k => by simp only [twiddle_Table.l0]; rw [if_neg (by omega)], evR (Ev.now _) ?_⟩
    congr 1
    refine List.ext_getElem? fun j => ?_
    by_cases c : j < n
    · rw [hj j (by omega), powL_at c]
    · rw [List.getElem?_eq_none (by omega), List.getElem?_eq_none (by rw [powL_len]; omega)]
  | succ d ih =>
    intro i l hi hl hj
    have T := field_Field_Times.at_ (F := F) (l := []) ⟨show U (mIn F.p w) from hg.uE _, hg.uE (w ^ i)⟩
    rw [mul_in hg.m, emod_mul_r, Int.mul_comm, ← Int.pow_succ] at T
    refine stepE ⟨_, fun k => by simp only [twiddle_Table.l0]; rw [if_pos (by omega), if_pos (by omega), if_pos (by omega), wrap_succ (by omega), Int.toNat_natCast], ?_⟩
    refine evB T (ih (i + 1) (l.set i (w ^ i % F.p)) (by omega) (by rw [List.length_set]; exact hl) fun j hj' => ?_)
    by_cases c : j = i
    · subst c
      rw [List.getElem?_set_self (by omega)]
    · rw [List.getElem?_set_ne (by omega)]
      exact hj j (by omega)
theorem table_ev {F : Fld} (hg : GoodFld F) {n : Int} (h1 : 1 ≤ n) (h2 : n ≤ 4096) (hd : (F.p - 1) % n = 0) (inv : Bool) : Ev (fun k => twiddle_Table.f k [F] n inv) (powL F.p (trootI F n inv) n.toNat, 0) := by
  have R := troot_ev hg (n := n) ⟨by omega, by omega⟩ inv
  have e : trootS F n inv = (trootI F n inv, 0) := by unfold trootS; rw [if_neg (by omega), if_neg (by omega), if_pos hd]
  rw [e] at R
  refine Ev.congr (fun k => rfl) (Ev.bind R (evP rfl (evB (field_Field_Lift.at_ (F := F) (l := []) (troot_U hg n inv)) (evP (by omega) (evP (by omega) ?_)))))
  have T := table_l0 hg (w := trootI F n inv) (n := n.toNat) (by omega) n.toNat 0 (List.replicate n.toNat 0) (by omega) (List.length_replicate) (fun j hj => by omega)
  rw [Int.pow_zero, hg.one] at T
  refine Ev.congr (fun k => ?_) T
  simp only [Option.bind_some, List.length_replicate]
  rfl
theorem table_err {F : Fld} (hg : GoodFld F) {n : Int} (hn : I64 n) (h : ¬ (1 ≤ n ∧ n ≤ 4096 ∧ (F.p - 1) % n = 0)) (inv : Bool) : ∃ e, trootS F n inv = (0, e) ∧ e ≠ 0 ∧ Ev (fun k => twiddle_Table.f k [F] n inv) ([], e) := by
  have R := troot_ev hg hn inv
  have : ∃ e, trootS F n inv = (0, e) ∧ e ≠ 0 := by
    unfold trootS
    by_cases h1 : n < 1
    · rw [if_pos h1]; exact ⟨1, rfl, by decide⟩
    rw [if_neg h1]
    by_cases h2 : n > 4096
    · rw [if_pos h2]; exact ⟨13, rfl, by decide⟩
    rw [if_neg h2, if_neg (fun h3 => h ⟨by omega, by omega, h3⟩)]
    exact ⟨4, rfl, by decide⟩
  obtain ⟨e, he, h0⟩ := this
  rw [he] at R
  exact ⟨e, he, h0, Ev.congr (fun k => rfl) (Ev.bind R (evN h0 (Ev.now _)))⟩
end Go.Proofs.YthnpjjpdlihepaaGreat.T10
end
section
namespace Go.Proofs.YthnpjjpdlihepaaGreat.XW
open Go.RowKit Go.Proofs.YthnpjjpdlihepaaGreat.Given Go.Proofs.YthnpjjpdlihepaaGreat.Row05 Go.Proofs.YthnpjjpdlihepaaGreat.XS Go.Proofs.YthnpjjpdlihepaaGreat.XT Go.Proofs.YthnpjjpdlihepaaGreat.XR Go.Proofs.YthnpjjpdlihepaaGreat.F06 Go.Proofs.YthnpjjpdlihepaaGreat.XK Go.Proofs.YthnpjjpdlihepaaGreatW.PrintWords Go.Proofs.YthnpjjpdlihepaaGreatW.PrintLast Go.Proofs.YthnpjjpdlihepaaGreatW.PrintMore
attribute [local go_sem] max2_int min2_int max_two min_two max_three min_three max_four min_four   -- for this text's walks alone
set_option linter.unusedVariables false
set_option linter.unusedSimpArgs false
mutual
noncomputable def twiddle_Verify.j0 : Nat → List (Fld) → List Int → Int → Bool → Option (Bool)
 | 0, _, _, _, _ => none
 | k + 1, x0, x1, x5, x28 => if x28 = true then (some false) else (if x5 > 1 then (if 1 < (x1.length : Int) then (twiddle_Verify.j1 k x0 x1 x5 (rd x1 1)) else (none)) else (twiddle_Verify.j1 k x0 x1 x5 1))
noncomputable def twiddle_Verify.j1 : Nat → List (Fld) → List Int → Int → Int → Option (Bool)
 | 0, _, _, _, _ => none
 | k + 1, x0, x1, x5, x6 => twiddle_Verify.l0 k x0 x1 x5 x6 x1 (x1.length : Int) 0
noncomputable def twiddle_Verify.l0 : Nat → List (Fld) → List Int → Int → Int → List Int → Int → Int → Option (Bool)
 | 0, _, _, _, _, _, _, _ => none
 | k + 1, x0, x1, x5, x6, x34, x35, x36 => if x36 < x35 then (if 0 ≤ x36 then (if x36 < (x34.length : Int) then ((field_Field_Good.f x0 (rd x34 x36)).bind fun t115 => (if t115 = true then ((field_Field_Mul.f x0 (rd x34 x36) x6).bind fun t116 => (if x5 = 0 then (none) else (if 0 ≤ (Int.tmod (wrap64 (x36 + 1)) x5) then (if (Int.tmod (wrap64 (x36 + 1)) x5) < (x1.length : Int) then (twiddle_Verify.j3 k x0 x1 x5 x6 x34 x35 x36 (t116 != (rd x1 (Int.tmod (wrap64 (x36 + 1)) x5)))) else (none)) else (none)))) else (twiddle_Verify.j3 k x0 x1 x5 x6 x34 x35 x36 true))) else (none)) else (none)) else ((sieve_Factor.f k (IntKind.u64.wrap (x5))).bind fun t118 => (twiddle_Verify.l1 k x1 x5 t118 (t118.length : Int) 0))
noncomputable def twiddle_Verify.j3 : Nat → List (Fld) → List Int → Int → Int → List Int → Int → Int → Bool → Option (Bool)
 | 0, _, _, _, _, _, _, _, _ => none
 | k + 1, x0, x1, x5, x6, x34, x35, x36, x58 => if x58 = true then (some false) else (twiddle_Verify.l0 k x0 x1 x5 x6 x34 x35 (wrap64 (x36 + 1)))
noncomputable def twiddle_Verify.l1 : Nat → List Int → Int → List (S84) → Int → Int → Option (Bool)
 | 0, _, _, _, _, _ => none
 | k + 1, x1, x5, x62, x63, x64 => if x64 < x63 then (if 0 ≤ x64 then (if x64 < (x62.length : Int) then (if (wrap64 ((rd_T84 x62 x64).f0)) = 0 then (none) else (if 0 ≤ (wrap64 (Int.tdiv x5 (wrap64 ((rd_T84 x62 x64).f0)))) then (if (wrap64 (Int.tdiv x5 (wrap64 ((rd_T84 x62 x64).f0)))) < (x1.length : Int) then (if (rd x1 (wrap64 (Int.tdiv x5 (wrap64 ((rd_T84 x62 x64).f0))))) = 1 then (some false) else (twiddle_Verify.l1 k x1 x5 x62 x63 (wrap64 (x64 + 1)))) else (none)) else (none))) else (none)) else (none)) else (some true)
end
noncomputable def twiddle_Verify.f (k : Nat) (l0 : List (Fld)) (l1 : List Int) : Option (Bool) := if (l0.length : Int) = 0 then (some false) else (if (l1.length : Int) = 0 then (twiddle_Verify.j0 k l0 l1 (l1.length : Int) true) else (if (l1.length : Int) > 4096 then (twiddle_Verify.j0 k l0 l1 (l1.length : Int) true) else (if 0 < (l1.length : Int) then (twiddle_Verify.j0 k l0 l1 (l1.length : Int) ((rd l1 0) != 1)) else (none))))
set_option maxHeartbeats 8000000 in
set_option maxRecDepth 100000 in
theorem twiddle_Verify.calls (k : Nat) (A0 : Option Addr) (c0 : Nat) (l0 : List (Fld)) (A1 : Option Addr) (c1 : Nat) (l1 : List Int) (r : Bool) (w : World) (hr0 : Kd.C kFld w A0 l0.length l0) (hc0 : l0.length ≤ c0) (hr1 : Kd.C (Kd.int .u64) w A1 l1.length l1) (hc1 : l1.length ≤ c1) (h : twiddle_Verify.f k l0 l1 = some r) :
  Calls Tryz.prog 44 #[toPtr (.slice A0 l0.length c0), .slice A1 l1.length c1] w fun e w' => e = .returned (.bool r) ∧ Below w.heap.size w w' := by
 have hu84 := Tryz.underlying84
 have HR0 := Aside0.mk hr0
 have HC0 := Aside0.mk hc0
 clear hr0 hc0
 have HR1 := Aside0.mk hr1
 have HC1 := Aside0.mk hc1
 clear hr1 hc1
 have HB := Aside0.mk (Below.refl w.heap.size w)
 have H := h; unfold twiddle_Verify.f at H
 clear h
 by_cases c3 : (l0.length : Int) = 0
 ·rw [if_pos c3] at H
  have c3b0 := beq_iff_eq.mpr c3
  have c3b1 := bne_eq_false_iff_eq.mpr c3
  have hT_HR0 := pf_none A0 c0 (show l0.length = 0 by omega)
  (try rw [hT_HR0])
  clear c3
  obtain rfl := Option.some.inj H
  go_enter Tryz.func44, Tryz.ntmps44
  go_wp2
  go_ret
  exact ⟨by first | rfl | (simp [errW_none, errW_some] <;> rfl) | (simp [*, errW_none, errW_some] <;> rfl), bel_⟩
 ·rw [if_neg c3] at H
  have c3b0 := beq_eq_false_iff_ne.mpr c3
  have c3b1 := bne_iff_ne.mpr c3
  have c3b2 : ¬ (l0 = []) := fun h_ => c3 (by rw [h_]; rfl)
  obtain ⟨aT_HR0, hT_HR0⟩ := pf_some A0 c0 (show ¬ (l0.length = 0) by omega)
  (try rw [hT_HR0])
  have HC4 := Aside0.mk H
  clear H
  go_enter Tryz.func44, Tryz.ntmps44
  go_upto_region 2 with (fail)
  go_cut [28] (fun v28 wc => ∃ (kq : Nat) (x28_3 : Bool), v28 = .bool x28_3 ∧ Aside0 (twiddle_Verify.j0 kq l0 l1 (l1.length : Int) x28_3 = some r) ∧ Aside0 (kq ≤ k) ∧ Aside0 (Below w.heap.size w wc))
  case first =>
   have H := HC4.out
   clear HC4
   by_cases c5 : (l1.length : Int) = 0
   ·rw [if_pos c5] at H
    have c5b0 := beq_iff_eq.mpr c5
    have c5b1 := bne_eq_false_iff_eq.mpr c5
    clear c5
    (first | rw [c5b0] | (simp only [i64_w, i32_w]; rw [c5b0]) | skip)
    have H' := Aside0.mk H
    clear H
    go_wp2
    go_meet
    case rel => exact ⟨_, (true), (by first | rfl | (simp; done) | (simp [*]; done)), H', ⟨by first | omega | exact Nat.le_refl _⟩, ⟨bel_⟩⟩
   ·rw [if_neg c5] at H
    have c5b0 := beq_eq_false_iff_ne.mpr c5
    have c5b1 := bne_iff_ne.mpr c5
    have c5b2 : ¬ (l1 = []) := fun h_ => c5 (by rw [h_]; rfl)
    (first | rw [c5b0] | (simp only [i64_w, i32_w]; rw [c5b0]) | skip)
    by_cases c6 : (l1.length : Int) > 4096
    ·rw [if_pos c6] at H
     have c6b0 := decide_eq_true c6
     have c6b1 : decide (4096 < l1.length) = true := decide_eq_true (by omega)
     clear c6
     have H' := Aside0.mk H
     clear H
     go_wp2
     go_meet
     case rel => exact ⟨_, (true), (by first | rfl | (simp; done) | (simp [*]; done)), H', ⟨by first | omega | exact Nat.le_refl _⟩, ⟨bel_⟩⟩
    ·rw [if_neg c6] at H
     have c6b0 := decide_eq_false c6
     have c6b1 : decide (4096 < l1.length) = false := decide_eq_false (by omega)
     clear c6
     by_cases c7 : 0 < (l1.length : Int)
     ·rw [if_pos c7] at H
      have c7b0 := decide_eq_true c7
      have c7b1 : decide (0 < l1.length) = true := decide_eq_true (by omega)
      clear c7
      have H' := Aside0.mk H
      clear H
      have p112 : 0 ≤ (0 : Int) := (by omega)
      have q112 : 0 < (l1.length : Int) := of_decide_eq_true (by assumption)
      obtain ⟨ad112, e112, hx112_0⟩ := Kd.at_int HR1.out 0 p112 q112
      cases e112
      have qi112 : (0 < l1.length) = True := eq_true (by omega)
      (try rw [show ((0 : Int)).toNat = 0 from rfl] at hx112_0)
      (try rw [Addr.add_zero'] at hx112_0)
      replace hx112_0 := (HB.out.cell (World.block_lt_of_cell? w _ hx112_0)).trans hx112_0
      replace p112 := eq_true p112
      replace q112 := eq_true q112
      go_wp2
      go_meet
      case rel => exact ⟨_, (((rd l1 0) != 1)), (by first | rfl | (simp; done) | (simp [*]; done)), H', ⟨by first | omega | exact Nat.le_refl _⟩, ⟨bel_⟩⟩
     ·rw [if_neg c7] at H
      exact absurd H (by simp)
  case rest =>
   clear HC4
   try clear c1
   try clear p1
   try clear q1
   try clear hx1
   try clear qi1
   try clear p2
   try clear c3
   try clear c3b0
   try clear c3b1
   try clear c3b2
   try clear c4
   try clear c5
   try clear c5b0
   try clear c5b1
   try clear c5b2
   try clear c6
   try clear c6b0
   try clear c6b1
   try clear c7
   try clear c7b0
   try clear c7b1
   try clear hx112_0
   try clear p112
   try clear q112
   obtain ⟨kq, x28_3, rfl, HA, HJ3, HB⟩ := hcut
   cases kq with
   | zero => exact absurd HA.out (by simp [twiddle_Verify.j0])
   | succ kj3 =>
    have H := HA.out
    clear HA
    simp only [twiddle_Verify.j0] at H
    by_cases c8 : x28_3 = true
    ·subst c8
     have H1 := H; rw [if_pos rfl] at H1
     clear H
     have H := H1
     clear H1
     obtain rfl := Option.some.inj H
     go_wp2
     go_ret
     exact ⟨by first | rfl | (simp [errW_none, errW_some] <;> rfl) | (simp [*, errW_none, errW_some] <;> rfl), bel_⟩
    ·replace c8 := Bool.eq_false_iff.mpr c8
     subst c8
     have H1 := H; rw [if_neg (show ¬ (false = true) by decide)] at H1
     clear H
     have H := H1
     clear H1
     have HC9 := Aside0.mk H
     clear H
     go_upto_if 30 with (fail)
     go_cut [6] (fun v6 wc => ∃ (kq : Nat) (x6_8 : Int), v6 = .int .u64 x6_8 ∧ Aside0 (twiddle_Verify.j1 kq l0 l1 (l1.length : Int) x6_8 = some r) ∧ Aside0 (kq ≤ kj3) ∧ Aside0 (Below w.heap.size w wc))
     case first =>
      have H := HC9.out
      clear HC9
      by_cases c10 : (l1.length : Int) > 1
      ·rw [if_pos c10] at H
       have c10b0 := decide_eq_true c10
       have c10b1 : decide (1 < l1.length) = true := decide_eq_true (by omega)
       clear c10
       (first | rw [c10b0] | (simp only [i64_w, i32_w]; rw [c10b0]) | skip)
       by_cases c11 : 1 < (l1.length : Int)
       ·rw [if_pos c11] at H
        have c11b0 := decide_eq_true c11
        have c11b1 : decide (1 < l1.length) = true := decide_eq_true (by omega)
        clear c11
        have H' := Aside0.mk H
        clear H
        have p113 : 0 ≤ (1 : Int) := (by omega)
        have q113 : 1 < (l1.length : Int) := of_decide_eq_true (by assumption)
        obtain ⟨ad113, e113, hx113_0⟩ := Kd.at_int HR1.out 1 p113 q113
        cases e113
        (try simp only [show (1 : Int).toNat = 1 from rfl, Nat.reduceMul, Nat.reduceEqDiff, Go.Addr.add, ↓reduceIte] at hx113_0)
        have qi113 : (1 < l1.length) = True := eq_true (by omega)
        (try rw [show ((1 : Int)).toNat = 1 from rfl] at hx113_0)
        replace hx113_0 := (HB.out.cell (World.block_lt_of_cell? w _ hx113_0)).trans hx113_0
        replace p113 := eq_true p113
        replace q113 := eq_true q113
        go_wp2
        go_meet
        case rel => exact ⟨_, (rd l1 1), (by first | rfl | (simp; done) | (simp [*]; done)), H', ⟨by have := HJ3.out; first | omega | exact Nat.le_refl _⟩, ⟨bel_⟩⟩
       ·rw [if_neg c11] at H
        exact absurd H (by simp)
      ·rw [if_neg c10] at H
       have c10b0 := decide_eq_false c10
       have c10b1 : decide (1 < l1.length) = false := decide_eq_false (by omega)
       clear c10
       (first | rw [c10b0] | (simp only [i64_w, i32_w]; rw [c10b0]) | skip)
       have H' := Aside0.mk H
       clear H
       go_wp2
       go_meet
       case rel => exact ⟨_, (1), (by first | rfl | (simp; done) | (simp [*]; done)), H', ⟨by have := HJ3.out; first | omega | exact Nat.le_refl _⟩, ⟨bel_⟩⟩
     case rest =>
      clear HC9
      try clear c1
      try clear p1
      try clear q1
      try clear hx1
      try clear qi1
      try clear p2
      try clear c3
      try clear c3b0
      try clear c3b1
      try clear c3b2
      try clear c4
      try clear c5
      try clear c5b0
      try clear c5b1
      try clear c5b2
      try clear c6
      try clear c6b0
      try clear c6b1
      try clear c7
      try clear c7b0
      try clear c7b1
      try clear c8
      try clear c10
      try clear c10b0
      try clear c10b1
      try clear c11
      try clear c11b0
      try clear c11b1
      try clear p11
      try clear q11
      try clear hx11
      try clear qi11
      try clear hx112_0
      try clear hx113_0
      try clear p1
      try clear p112
      try clear p113
      try clear p2
      try clear q1
      try clear q112
      try clear q113
      obtain ⟨kq, x6_8, rfl, HA, HJ8, HB⟩ := hcut
      cases kq with
      | zero => exact absurd HA.out (by simp [twiddle_Verify.j1])
      | succ kj8 =>
       have H := HA.out
       clear HA
       simp only [twiddle_Verify.j1] at H
       have H' := Aside0.mk H
       clear H
       go_wp2
       go_loopg [36] kj8 (fun kq v36 w' => ∃ (x36_3 : Int), v36 = .int .i64 x36_3 ∧ Aside0 (twiddle_Verify.l0 kq l0 l1 (l1.length : Int) x6_8 l1 (l1.length : Int) x36_3 = some r) ∧ Aside0 (kq ≤ kj8) ∧ Aside0 (Below w.heap.size w w'))
       case atStart => exact ⟨(0), (by first | rfl | (simp; done) | (simp [*]; done)), H', ⟨Nat.le_refl _⟩, ⟨bel_⟩⟩
       case round =>
        clear H'
        try clear c1
        try clear p1
        try clear q1
        try clear hx1
        try clear qi1
        try clear p2
        try clear c3
        try clear c3b0
        try clear c3b1
        try clear c3b2
        try clear c4
        try clear c5
        try clear c5b0
        try clear c5b1
        try clear c5b2
        try clear c6
        try clear c6b0
        try clear c6b1
        try clear c7
        try clear c7b0
        try clear c7b1
        try clear c8
        try clear c10
        try clear c10b0
        try clear c10b1
        try clear c11
        try clear c11b0
        try clear c11b1
        try clear p11
        try clear q11
        try clear hx11
        try clear qi11
        try clear hx112_0
        try clear hx113_0
        try clear p1
        try clear p11
        try clear p112
        try clear p113
        try clear p2
        try clear q1
        try clear q11
        try clear q112
        try clear q113
        obtain ⟨x36_3, rfl, HA, HK3, HB⟩ := hrel
        cases gk with
        | zero => exact absurd HA.out (by simp [twiddle_Verify.l0])
        | succ k3 =>
         have H := HA.out
         clear HA
         simp only [twiddle_Verify.l0] at H
         by_cases c12 : x36_3 < (l1.length : Int)
         ·rw [if_pos c12] at H
          have c12b0 := decide_eq_true c12
          clear c12
          by_cases c13 : 0 ≤ x36_3
          ·rw [if_pos c13] at H
           have c13b0 := decide_eq_true c13
           clear c13
           by_cases c14 : x36_3 < (l1.length : Int)
           ·rw [if_pos c14] at H
            have c14b0 := decide_eq_true c14
            clear c14
            have HC15 := Aside0.mk H
            clear H
            have p114 : 0 ≤ (x36_3 : Int) := of_decide_eq_true (by assumption)
            have q114 : x36_3 < (l1.length : Int) := of_decide_eq_true (by assumption)
            obtain ⟨ad114, e114, hx114_0⟩ := Kd.at_int HR1.out x36_3 p114 q114
            cases e114
            replace hx114_0 := (HB.out.cell (World.block_lt_of_cell? w _ hx114_0)).trans hx114_0
            replace p114 := eq_true p114
            replace q114 := eq_true q114
            go_upto_region 10 with (fail)
            go_cut [58] (fun v58 wc => ∃ (kq : Nat) (x58_14 : Bool), v58 = .bool x58_14 ∧ Aside0 (twiddle_Verify.j3 kq l0 l1 (l1.length : Int) x6_8 l1 (l1.length : Int) x36_3 x58_14 = some r) ∧ Aside0 (kq ≤ k3) ∧ Aside0 (Below w.heap.size w wc))
            case first =>
             have H := HC15.out
             clear HC15
             replace H := Option.bind_eq_some_iff.mp H
             obtain ⟨t115, A160, H⟩ := H
             (try dsimp only at H)
             have A16 := Aside0.mk A160
             clear A160
             by_cases c17 : t115 = true
             ·subst c17
              have H1 := H; rw [if_pos rfl] at H1
              clear H
              have H := H1
              clear H1
              replace H := Option.bind_eq_some_iff.mp H
              obtain ⟨t116, A180, H⟩ := H
              (try dsimp only at H)
              have A18 := Aside0.mk A180
              clear A180
              by_cases c19 : (l1.length : Int) = 0
              ·rw [if_pos c19] at H
               exact absurd H (by simp)
              ·rw [if_neg c19] at H
               have c19b0 := beq_eq_false_iff_ne.mpr c19
               have c19b1 := bne_iff_ne.mpr c19
               have c19b2 : ¬ (l1 = []) := fun h_ => c19 (by rw [h_]; rfl)
               (first | rw [c19b0] | (simp only [i64_w, i32_w]; rw [c19b0]) | skip)
               obtain ⟨ji20, hji20⟩ : ∃ j_ : Int, (Int.tmod (wrap64 (x36_3 + 1)) (l1.length : Int)) = j_ := ⟨_, rfl⟩
               (first | rw [hji20] at H | simp only [hji20] at H)
               (try rw [hji20] at A16)
               (try rw [hji20] at A18)
               have hji20v : (Int.tmod (IntKind.i64.wrap (x36_3 + 1)) (l1.length : Int)) = ji20 := by simp only [i64_w]; exact hji20
               by_cases c21 : 0 ≤ (ji20)
               ·rw [if_pos c21] at H
                have c21b0 := decide_eq_true c21
                clear c21
                by_cases c22 : (ji20) < (l1.length : Int)
                ·rw [if_pos c22] at H
                 have c22b0 := decide_eq_true c22
                 clear c22
                 have H' := Aside0.mk H
                 clear H
                 go_wp2_with (first | (go_at_call 61; (try rw [← hT_HR0]); (with_reducible refine (field_Field_Good.calls _ _ l0 (rd l1 x36_3) true _ ?side1 ?side2 A16.out).mono ?_); (case side1 => repeat (first | exact (Kd.C_below HR0.out HB.out) | (with_reducible refine Kd.C_alloc ?_ _) | (with_reducible refine Kd.C_drewN ?_ _) | (with_reducible refine Kd.C_drew ?_))); (case side2 => exact HC0.out); rintro e w' ⟨rfl, ⟨nd, rfl⟩⟩; (try first | exact ⟨rfl, _, World.drewN_drewN _ _ _⟩ | exact ⟨rfl, _, Eq.trans (World.drewN_drewN _ _ _) (congrArg (World.drewN _) (Nat.add_assoc _ _ _))⟩)) | (go_at_call 13; (try rw [← hT_HR0]); (with_reducible refine (field_Field_Mul.calls _ _ l0 (rd l1 x36_3) x6_8 t116 _ ?side1 ?side2 A18.out).mono ?_); (case side1 => repeat (first | exact (Kd.C_below HR0.out bel_) | (with_reducible refine Kd.C_alloc ?_ _) | (with_reducible refine Kd.C_drewN ?_ _) | (with_reducible refine Kd.C_drew ?_))); (case side2 => exact HC0.out); rintro e w' ⟨rfl, ⟨nd, rfl⟩⟩; (try first | exact ⟨rfl, _, World.drewN_drewN _ _ _⟩ | exact ⟨rfl, _, Eq.trans (World.drewN_drewN _ _ _) (congrArg (World.drewN _) (Nat.add_assoc _ _ _))⟩); have p117 : 0 ≤ ((ji20) : Int) := of_decide_eq_true (by assumption); have q117 : (ji20) < (l1.length : Int) := of_decide_eq_true (by assumption); obtain ⟨ad117, e117, hx117_0⟩ := Kd.at_int HR1.out (ji20) p117 q117; obtain rfl : ad114 = ad117 := (by injection e117); replace hx117_0 := (HB.out.cell (World.block_lt_of_cell? w _ hx117_0)).trans hx117_0; replace p117 := eq_true p117; replace q117 := eq_true q117))
                 repeat (go_quiet (first | (go_at_call 61; (try rw [← hT_HR0]); (with_reducible refine (field_Field_Good.calls _ _ l0 (rd l1 x36_3) true _ ?side1 ?side2 A16.out).mono ?_); (case side1 => repeat (first | exact (Kd.C_below HR0.out HB.out) | (with_reducible refine Kd.C_alloc ?_ _) | (with_reducible refine Kd.C_drewN ?_ _) | (with_reducible refine Kd.C_drew ?_))); (case side2 => exact HC0.out); rintro e w' ⟨rfl, ⟨nd, rfl⟩⟩; (try first | exact ⟨rfl, _, World.drewN_drewN _ _ _⟩ | exact ⟨rfl, _, Eq.trans (World.drewN_drewN _ _ _) (congrArg (World.drewN _) (Nat.add_assoc _ _ _))⟩)) | (go_at_call 13; (try rw [← hT_HR0]); (with_reducible refine (field_Field_Mul.calls _ _ l0 (rd l1 x36_3) x6_8 t116 _ ?side1 ?side2 A18.out).mono ?_); (case side1 => repeat (first | exact (Kd.C_below HR0.out bel_) | (with_reducible refine Kd.C_alloc ?_ _) | (with_reducible refine Kd.C_drewN ?_ _) | (with_reducible refine Kd.C_drew ?_))); (case side2 => exact HC0.out); rintro e w' ⟨rfl, ⟨nd, rfl⟩⟩; (try first | exact ⟨rfl, _, World.drewN_drewN _ _ _⟩ | exact ⟨rfl, _, Eq.trans (World.drewN_drewN _ _ _) (congrArg (World.drewN _) (Nat.add_assoc _ _ _))⟩); have p117 : 0 ≤ ((ji20) : Int) := of_decide_eq_true (by assumption); have q117 : (ji20) < (l1.length : Int) := of_decide_eq_true (by assumption); obtain ⟨ad117, e117, hx117_0⟩ := Kd.at_int HR1.out (ji20) p117 q117; obtain rfl : ad114 = ad117 := (by injection e117); replace hx117_0 := (HB.out.cell (World.block_lt_of_cell? w _ hx117_0)).trans hx117_0; replace p117 := eq_true p117; replace q117 := eq_true q117)); try go_wp2_with (first | (go_at_call 61; (try rw [← hT_HR0]); (with_reducible refine (field_Field_Good.calls _ _ l0 (rd l1 x36_3) true _ ?side1 ?side2 A16.out).mono ?_); (case side1 => repeat (first | exact (Kd.C_below HR0.out HB.out) | (with_reducible refine Kd.C_alloc ?_ _) | (with_reducible refine Kd.C_drewN ?_ _) | (with_reducible refine Kd.C_drew ?_))); (case side2 => exact HC0.out); rintro e w' ⟨rfl, ⟨nd, rfl⟩⟩; (try first | exact ⟨rfl, _, World.drewN_drewN _ _ _⟩ | exact ⟨rfl, _, Eq.trans (World.drewN_drewN _ _ _) (congrArg (World.drewN _) (Nat.add_assoc _ _ _))⟩)) | (go_at_call 13; (try rw [← hT_HR0]); (with_reducible refine (field_Field_Mul.calls _ _ l0 (rd l1 x36_3) x6_8 t116 _ ?side1 ?side2 A18.out).mono ?_); (case side1 => repeat (first | exact (Kd.C_below HR0.out bel_) | (with_reducible refine Kd.C_alloc ?_ _) | (with_reducible refine Kd.C_drewN ?_ _) | (with_reducible refine Kd.C_drew ?_))); (case side2 => exact HC0.out); rintro e w' ⟨rfl, ⟨nd, rfl⟩⟩; (try first | exact ⟨rfl, _, World.drewN_drewN _ _ _⟩ | exact ⟨rfl, _, Eq.trans (World.drewN_drewN _ _ _) (congrArg (World.drewN _) (Nat.add_assoc _ _ _))⟩); have p117 : 0 ≤ ((ji20) : Int) := of_decide_eq_true (by assumption); have q117 : (ji20) < (l1.length : Int) := of_decide_eq_true (by assumption); obtain ⟨ad117, e117, hx117_0⟩ := Kd.at_int HR1.out (ji20) p117 q117; obtain rfl : ad114 = ad117 := (by injection e117); replace hx117_0 := (HB.out.cell (World.block_lt_of_cell? w _ hx117_0)).trans hx117_0; replace p117 := eq_true p117; replace q117 := eq_true q117)))
                 go_meet
                 case rel => exact ⟨_, ((t116 != (rd l1 (ji20)))), (by first | rfl | (simp; done) | (simp only [← hji20] <;> (first | rfl | simp)) | (simp [*]; done)), H', ⟨by have := HJ3.out; have := HJ8.out; have := HK3.out; first | omega | exact Nat.le_refl _⟩, ⟨bel_⟩⟩
                ·rw [if_neg c22] at H
                 exact absurd H (by simp)
               ·rw [if_neg c21] at H
                exact absurd H (by simp)
             ·replace c17 := Bool.eq_false_iff.mpr c17
              subst c17
              have H1 := H; rw [if_neg (show ¬ (false = true) by decide)] at H1
              clear H
              have H := H1
              clear H1
              have H' := Aside0.mk H
              clear H
              go_wp2_with (first | (go_at_call 61; (try rw [← hT_HR0]); (with_reducible refine (field_Field_Good.calls _ _ l0 (rd l1 x36_3) false _ ?side1 ?side2 A16.out).mono ?_); (case side1 => repeat (first | exact (Kd.C_below HR0.out HB.out) | (with_reducible refine Kd.C_alloc ?_ _) | (with_reducible refine Kd.C_drewN ?_ _) | (with_reducible refine Kd.C_drew ?_))); (case side2 => exact HC0.out); rintro e w' ⟨rfl, ⟨nd, rfl⟩⟩; (try first | exact ⟨rfl, _, World.drewN_drewN _ _ _⟩ | exact ⟨rfl, _, Eq.trans (World.drewN_drewN _ _ _) (congrArg (World.drewN _) (Nat.add_assoc _ _ _))⟩)))
              repeat (go_quiet (first | (go_at_call 61; (try rw [← hT_HR0]); (with_reducible refine (field_Field_Good.calls _ _ l0 (rd l1 x36_3) false _ ?side1 ?side2 A16.out).mono ?_); (case side1 => repeat (first | exact (Kd.C_below HR0.out HB.out) | (with_reducible refine Kd.C_alloc ?_ _) | (with_reducible refine Kd.C_drewN ?_ _) | (with_reducible refine Kd.C_drew ?_))); (case side2 => exact HC0.out); rintro e w' ⟨rfl, ⟨nd, rfl⟩⟩; (try first | exact ⟨rfl, _, World.drewN_drewN _ _ _⟩ | exact ⟨rfl, _, Eq.trans (World.drewN_drewN _ _ _) (congrArg (World.drewN _) (Nat.add_assoc _ _ _))⟩))); try go_wp2_with (first | (go_at_call 61; (try rw [← hT_HR0]); (with_reducible refine (field_Field_Good.calls _ _ l0 (rd l1 x36_3) false _ ?side1 ?side2 A16.out).mono ?_); (case side1 => repeat (first | exact (Kd.C_below HR0.out HB.out) | (with_reducible refine Kd.C_alloc ?_ _) | (with_reducible refine Kd.C_drewN ?_ _) | (with_reducible refine Kd.C_drew ?_))); (case side2 => exact HC0.out); rintro e w' ⟨rfl, ⟨nd, rfl⟩⟩; (try first | exact ⟨rfl, _, World.drewN_drewN _ _ _⟩ | exact ⟨rfl, _, Eq.trans (World.drewN_drewN _ _ _) (congrArg (World.drewN _) (Nat.add_assoc _ _ _))⟩))))
              go_meet
              case rel => exact ⟨_, (true), (by first | rfl | (simp; done) | (simp [*]; done)), H', ⟨by have := HJ3.out; have := HJ8.out; have := HK3.out; first | omega | exact Nat.le_refl _⟩, ⟨bel_⟩⟩
            case rest =>
             clear HC15
             try clear c1
             try clear p1
             try clear q1
             try clear hx1
             try clear qi1
             try clear c2
             try clear p2
             try clear c3
             try clear c3b0
             try clear c3b1
             try clear c3b2
             try clear c4
             try clear c5
             try clear c5b0
             try clear c5b1
             try clear c5b2
             try clear c6
             try clear c6b0
             try clear c6b1
             try clear p6
             try clear c7
             try clear c7b0
             try clear c7b1
             try clear c8
             try clear c10
             try clear c10b0
             try clear c10b1
             try clear c11
             try clear c11b0
             try clear c11b1
             try clear p11
             try clear q11
             try clear hx11
             try clear qi11
             try clear c12
             try clear c12b0
             try clear c13
             try clear c13b0
             try clear c14
             try clear c14b0
             try clear c17
             try clear c19
             try clear c19b0
             try clear c19b1
             try clear c19b2
             try clear c21
             try clear c21b0
             try clear c22
             try clear c22b0
             try clear hx112_0
             try clear hx113_0
             try clear hx114_0
             try clear hx117_0
             try clear p1
             try clear p11
             try clear p112
             try clear p113
             try clear p114
             try clear p117
             try clear p2
             try clear q1
             try clear q11
             try clear q112
             try clear q113
             try clear q114
             try clear q117
             obtain ⟨kq, x58_14, rfl, HA, HJ14, HB⟩ := hcut
             cases kq with
             | zero => exact absurd HA.out (by simp [twiddle_Verify.j3])
             | succ kj14 =>
              have H := HA.out
              clear HA
              simp only [twiddle_Verify.j3] at H
              by_cases c23 : x58_14 = true
              ·subst c23
               have H1 := H; rw [if_pos rfl] at H1
               clear H
               have H := H1
               clear H1
               obtain rfl := Option.some.inj H
               go_wp2
               go_ret
               exact ⟨by first | rfl | (simp [errW_none, errW_some] <;> rfl) | (simp [*, errW_none, errW_some] <;> rfl), bel_⟩
              ·replace c23 := Bool.eq_false_iff.mpr c23
               subst c23
               have H1 := H; rw [if_neg (show ¬ (false = true) by decide)] at H1
               clear H
               have H := H1
               clear H1
               have H' := Aside0.mk H
               clear H
               go_wp2
               go_roundg kj14
               case measure => have := HJ3.out; have := HJ8.out; have := HK3.out; have := HJ14.out; omega
               case rel => exact ⟨(wrap64 (x36_3 + 1)), (by first | rfl | (simp; done) | (simp [*]; done)), H', ⟨by have := HJ3.out; have := HJ8.out; have := HK3.out; have := HJ14.out; omega⟩, ⟨bel_⟩⟩
           ·rw [if_neg c14] at H
            exact absurd H (by simp)
          ·rw [if_neg c13] at H
           exact absurd H (by simp)
         ·rw [if_neg c12] at H
          have c12b0 := decide_eq_false c12
          clear c12
          replace H := Option.bind_eq_some_iff.mp H
          obtain ⟨t118, A240, H⟩ := H
          (try dsimp only at H)
          have A24 := Aside0.mk A240
          clear A240
          have H' := Aside0.mk H
          clear H
          go_wp2_with (first | (go_at_call 62; (with_reducible refine (sieve_Factor.calls k3 (IntKind.u64.wrap ((l1.length : Int))) t118 _ A24.out).mono ?_); rintro e w25 ⟨v119, rfl, ho0, hb⟩; have n0_ := Aside0.mk (Kd.R_lower ho0 (below_size bel_)); have n1_ := Aside0.mk (below_step bel_ hb); clear HB; have HO120 := n0_; have HB := n1_; clear n0_ n1_; (try clear hb); (try clear hb2); (try clear hk); (try clear hi); (try clear ho0); obtain ⟨Ao26, co26, eo26⟩ := Kd.R_slice HO120.out; subst eo26))
          go_loopg [64] k3 (fun kq v64 w' => ∃ (x64_4 : Int), v64 = .int .i64 x64_4 ∧ Aside0 (twiddle_Verify.l1 kq l1 (l1.length : Int) t118 (t118.length : Int) x64_4 = some r) ∧ Aside0 (kq ≤ k3) ∧ Aside0 (Kd.R k84 84 w' w.heap.size (fun _ => True) (.slice Ao26 t118.length co26) t118) ∧ Aside0 (Below w.heap.size w w'))
          case atStart => exact ⟨(0), (by first | rfl | (simp; done) | (simp [*]; done)), H', ⟨Nat.le_refl _⟩, ⟨by (with_reducible repeat (first | apply Kd.R_alloc | apply Kd.R_drewN | apply Kd.R_drew)); exact HO120.out⟩, ⟨bel_⟩⟩
          case round =>
           clear H'
           try clear c1
           try clear p1
           try clear q1
           try clear hx1
           try clear qi1
           try clear c2
           try clear p2
           try clear c3
           try clear c3b0
           try clear c3b1
           try clear c3b2
           try clear c4
           try clear c5
           try clear c5b0
           try clear c5b1
           try clear c5b2
           try clear c6
           try clear c6b0
           try clear c6b1
           try clear p6
           try clear c7
           try clear c7b0
           try clear c7b1
           try clear c8
           try clear c10
           try clear c10b0
           try clear c10b1
           try clear c11
           try clear c11b0
           try clear c11b1
           try clear p11
           try clear q11
           try clear hx11
           try clear qi11
           try clear c12
           try clear c12b0
           try clear c13
           try clear c13b0
           try clear c14
           try clear c14b0
           try clear c17
           try clear c19
           try clear c19b0
           try clear c19b1
           try clear c19b2
           try clear c21
           try clear c21b0
           try clear c22
           try clear c22b0
           try clear c23
           try clear hx112_0
           try clear hx113_0
           try clear hx114_0
           try clear hx117_0
           try clear p1
           try clear p11
           try clear p112
           try clear p113
           try clear p114
           try clear p117
           try clear p2
           try clear p6
           try clear q1
           try clear q11
           try clear q112
           try clear q113
           try clear q114
           try clear q117
           obtain ⟨x64_4, rfl, HA, HK4, HO_62, HB⟩ := hrel
           cases gk with
           | zero => exact absurd HA.out (by simp [twiddle_Verify.l1])
           | succ k4 =>
            have H := HA.out
            clear HA
            simp only [twiddle_Verify.l1] at H
            by_cases c27 : x64_4 < (t118.length : Int)
            ·rw [if_pos c27] at H
             have c27b0 := decide_eq_true c27
             clear c27
             by_cases c28 : 0 ≤ x64_4
             ·rw [if_pos c28] at H
              have c28b0 := decide_eq_true c28
              clear c28
              by_cases c29 : x64_4 < (t118.length : Int)
              ·rw [if_pos c29] at H
               have c29b0 := decide_eq_true c29
               clear c29
               by_cases c30 : (wrap64 ((rd_T84 t118 x64_4).f0)) = 0
               ·rw [if_pos c30] at H
                exact absurd H (by simp)
               ·rw [if_neg c30] at H
                have c30b0 := beq_eq_false_iff_ne.mpr c30
                have c30b1 := bne_iff_ne.mpr c30
                obtain ⟨ji31, hji31⟩ : ∃ j_ : Int, (wrap64 (Int.tdiv (l1.length : Int) (wrap64 ((rd_T84 t118 x64_4).f0)))) = j_ := ⟨_, rfl⟩
                (first | rw [hji31] at H | simp only [hji31] at H)
                (try have hji31q_ : (wrap64 ((l1.length : Int) / (wrap64 ((rd_T84 t118 x64_4).f0)))) = ji31 := by rw [← Int.tdiv_eq_ediv_of_nonneg (by omega)]; exact hji31)
                have hji31v : (IntKind.i64.wrap (Int.tdiv (l1.length : Int) (IntKind.i64.wrap ((rd_T84 t118 x64_4).f0)))) = ji31 := by simp only [i64_w]; exact hji31
                have hji31w : (IntKind.i64.wrap (Int.tdiv (l1.length : Int) (wrap64 ((rd_T84 t118 x64_4).f0)))) = ji31 := (i64_w _).trans hji31
                by_cases c32 : 0 ≤ (ji31)
                ·rw [if_pos c32] at H
                 have c32b0 := decide_eq_true c32
                 clear c32
                 by_cases c33 : (ji31) < (l1.length : Int)
                 ·rw [if_pos c33] at H
                  have c33b0 := decide_eq_true c33
                  clear c33
                  by_cases c34 : (rd l1 (ji31)) = 1
                  ·rw [if_pos c34] at H
                   have c34b0 := beq_iff_eq.mpr c34
                   have c34b1 := bne_eq_false_iff_eq.mpr c34
                   clear c34
                   obtain rfl := Option.some.inj H
                   have p121 : 0 ≤ (x64_4 : Int) := of_decide_eq_true (by assumption)
                   have q121 : x64_4 < (t118.length : Int) := of_decide_eq_true (by assumption)
                   obtain ⟨ad121, e121, hx121_0, hx121_1⟩ := at_T84 (Kd.R_reads' HO_62.out).2.2 x64_4 p121 q121
                   cases e121
                   replace p121 := eq_true p121
                   replace q121 := eq_true q121
                   go_wp2_with (first | ((with_reducible refine gate_dst (N := 10) rfl ?_); refine box_event ?hg (N := 10) ?hd (cs := #[.int .u64 0, .int .i64 0]) (t := 84) ?hr ?_; (case hd => rfl); (case hg => rfl); (case hr => first | (go_simp; done) | (go_simp; rfl)); intro gb122 hg w35 hbox hb; have n0_ := Aside0.mk (Kd.R_below (Kd.R_elderB (by (with_reducible repeat (first | apply Kd.R_alloc | apply Kd.R_drewN | apply Kd.R_drew)); exact HO_62.out) gb122 (Nat.le_of_eq hg.symm)) hb); have n1_ := Aside0.mk (below_step bel_ hb); have n2_ := Aside0.mk (hbox); have n3_ := Aside0.mk ((by rw [hg]; exact (below_size bel_) : w.heap.size ≤ gb122)); have n4_ := Aside0.mk ((by rw [hg]; exact (below_size bel_) : w.heap.size ≤ gb122)); clear HO_62; clear HB; have HO_62 := n0_; have HB := n1_; have BK122 := n2_; have GW122 := n3_; have GE122 := n4_; clear n0_ n1_ n2_ n3_ n4_; clear hb hbox hg; have hcz36_0 : w35.cell? ⟨gb122, 0, none⟩ = some (.int .u64 0) := (blk_cell BK122.out 0).trans rfl; have hcz36_1 : w35.cell? ⟨gb122, 1, none⟩ = some (.int .i64 0) := (blk_cell BK122.out 1).trans rfl; have hfz36_0 := blk_frozen BK122.out 0; have hfz36_1 := blk_frozen BK122.out 1; have p123 : 0 ≤ ((ji31) : Int) := of_decide_eq_true (by assumption); have q123 : (ji31) < (l1.length : Int) := of_decide_eq_true (by assumption); obtain ⟨ad123, e123, hx123_0⟩ := Kd.at_int HR1.out (ji31) p123 q123; cases e123; have hn123_0 : ad123.block ≠ gb122 := Nat.ne_of_lt (Nat.lt_of_lt_of_le (by have := World.block_lt_of_cell? _ _ hx123_0; first | rwa [add_block] at this | exact this) GW122.out); have hn123_1 : ad123.block ≠ gb122 := Nat.ne_of_lt (Nat.lt_of_lt_of_le (by have := World.block_lt_of_cell? _ _ hx123_0; first | rwa [add_block] at this | exact this) GW122.out); replace hx123_0 := (HB.out.cell (World.block_lt_of_cell? w _ hx123_0)).trans hx123_0; replace hx123_0 := (cell_far (p := ⟨gb122, 0, none⟩) (by first | (rw [add_block]; exact hn123_0) | (show (Addr.add _ _).block ≠ _; rw [add_block]; exact hn123_0) | exact hn123_0) (.int .u64 ((rd_T84 t118 x64_4).f0))).trans hx123_0; replace hx123_0 := (cell_far (p := ⟨gb122, 1, none⟩) (by first | (rw [add_block]; exact hn123_1) | (show (Addr.add _ _).block ≠ _; rw [add_block]; exact hn123_1) | exact hn123_1) (.int .i64 ((rd_T84 t118 x64_4).f1))).trans hx123_0; (try have hy123_0 := fun (n_ : Nat) => (show ((((w35.drewN n_).setCell ⟨gb122, 0, none⟩ (.int .u64 ((rd_T84 t118 x64_4).f0))).setCell ⟨gb122, 1, none⟩ (.int .i64 ((rd_T84 t118 x64_4).f1)))).cell? _ = some _ from hx123_0)); clear hn123_0; clear hn123_1; replace p123 := eq_true p123; replace q123 := eq_true q123))
                   go_ret
                   exact ⟨by first | rfl | (simp [errW_none, errW_some] <;> rfl) | (simp only [← hji31]; first | rfl | (simp [errW_none, errW_some] <;> rfl)) | (simp [*, errW_none, errW_some] <;> rfl), bel_⟩
                  ·rw [if_neg c34] at H
                   have c34b0 := beq_eq_false_iff_ne.mpr c34
                   have c34b1 := bne_iff_ne.mpr c34
                   have H' := Aside0.mk H
                   clear H
                   have p121 : 0 ≤ (x64_4 : Int) := of_decide_eq_true (by assumption)
                   have q121 : x64_4 < (t118.length : Int) := of_decide_eq_true (by assumption)
                   obtain ⟨ad121, e121, hx121_0, hx121_1⟩ := at_T84 (Kd.R_reads' HO_62.out).2.2 x64_4 p121 q121
                   cases e121
                   replace p121 := eq_true p121
                   replace q121 := eq_true q121
                   go_wp2_with (first | ((with_reducible refine gate_dst (N := 10) rfl ?_); refine box_event ?hg (N := 10) ?hd (cs := #[.int .u64 0, .int .i64 0]) (t := 84) ?hr ?_; (case hd => rfl); (case hg => rfl); (case hr => first | (go_simp; done) | (go_simp; rfl)); intro gb122 hg w37 hbox hb; have n0_ := Aside0.mk (Kd.R_below (Kd.R_elderB (by (with_reducible repeat (first | apply Kd.R_alloc | apply Kd.R_drewN | apply Kd.R_drew)); exact HO_62.out) gb122 (Nat.le_of_eq hg.symm)) hb); have n1_ := Aside0.mk (below_step bel_ hb); have n2_ := Aside0.mk (hbox); have n3_ := Aside0.mk ((by rw [hg]; exact (below_size bel_) : w.heap.size ≤ gb122)); have n4_ := Aside0.mk ((by rw [hg]; exact (below_size bel_) : w.heap.size ≤ gb122)); clear HO_62; clear HB; have HO_62 := n0_; have HB := n1_; have BK122 := n2_; have GW122 := n3_; have GE122 := n4_; clear n0_ n1_ n2_ n3_ n4_; clear hb hbox hg; have hcz38_0 : w37.cell? ⟨gb122, 0, none⟩ = some (.int .u64 0) := (blk_cell BK122.out 0).trans rfl; have hcz38_1 : w37.cell? ⟨gb122, 1, none⟩ = some (.int .i64 0) := (blk_cell BK122.out 1).trans rfl; have hfz38_0 := blk_frozen BK122.out 0; have hfz38_1 := blk_frozen BK122.out 1; have p123 : 0 ≤ ((ji31) : Int) := of_decide_eq_true (by assumption); have q123 : (ji31) < (l1.length : Int) := of_decide_eq_true (by assumption); obtain ⟨ad123, e123, hx123_0⟩ := Kd.at_int HR1.out (ji31) p123 q123; cases e123; have hn123_0 : ad123.block ≠ gb122 := Nat.ne_of_lt (Nat.lt_of_lt_of_le (by have := World.block_lt_of_cell? _ _ hx123_0; first | rwa [add_block] at this | exact this) GW122.out); have hn123_1 : ad123.block ≠ gb122 := Nat.ne_of_lt (Nat.lt_of_lt_of_le (by have := World.block_lt_of_cell? _ _ hx123_0; first | rwa [add_block] at this | exact this) GW122.out); replace hx123_0 := (HB.out.cell (World.block_lt_of_cell? w _ hx123_0)).trans hx123_0; replace hx123_0 := (cell_far (p := ⟨gb122, 0, none⟩) (by first | (rw [add_block]; exact hn123_0) | (show (Addr.add _ _).block ≠ _; rw [add_block]; exact hn123_0) | exact hn123_0) (.int .u64 ((rd_T84 t118 x64_4).f0))).trans hx123_0; replace hx123_0 := (cell_far (p := ⟨gb122, 1, none⟩) (by first | (rw [add_block]; exact hn123_1) | (show (Addr.add _ _).block ≠ _; rw [add_block]; exact hn123_1) | exact hn123_1) (.int .i64 ((rd_T84 t118 x64_4).f1))).trans hx123_0; (try have hy123_0 := fun (n_ : Nat) => (show ((((w37.drewN n_).setCell ⟨gb122, 0, none⟩ (.int .u64 ((rd_T84 t118 x64_4).f0))).setCell ⟨gb122, 1, none⟩ (.int .i64 ((rd_T84 t118 x64_4).f1)))).cell? _ = some _ from hx123_0)); clear hn123_0; clear hn123_1; replace p123 := eq_true p123; replace q123 := eq_true q123))
                   go_roundg k4
                   case measure => have := HJ3.out; have := HJ8.out; have := HK3.out; have := HK4.out; omega
                   case rel => exact ⟨(wrap64 (x64_4 + 1)), (by first | rfl | (simp; done) | (simp [*]; done)), H', ⟨by have := HJ3.out; have := HJ8.out; have := HK3.out; have := HK4.out; omega⟩, ⟨by (with_reducible repeat (first | apply Kd.R_alloc | apply Kd.R_drewN | apply Kd.R_drew)); exact Kd.R_mono (Kd.R_far (p := ⟨gb122, 1, none⟩) (Kd.R_far (p := ⟨gb122, 0, none⟩) (Kd.R_mono HO_62.out (fun k_ hk => (⟨hk, hk.2⟩ : _ ∧ k_ ≠ gb122))) (fun _ hk => hk.2) (.int .u64 ((rd_T84 t118 x64_4).f0))) (fun _ hk => hk.2) (.int .i64 ((rd_T84 t118 x64_4).f1))) (fun _ hk => trivial)⟩, ⟨bel_⟩⟩
                 ·rw [if_neg c33] at H
                  exact absurd H (by simp)
                ·rw [if_neg c32] at H
                 exact absurd H (by simp)
              ·rw [if_neg c29] at H
               exact absurd H (by simp)
             ·rw [if_neg c28] at H
              exact absurd H (by simp)
            ·rw [if_neg c27] at H
             have c27b0 := decide_eq_false c27
             clear c27
             obtain rfl := Option.some.inj H
             go_wp2
             go_ret
             exact ⟨by first | rfl | (simp [errW_none, errW_some] <;> rfl) | (simp [*, errW_none, errW_some] <;> rfl), bel_⟩
end Go.Proofs.YthnpjjpdlihepaaGreat.XW
end
section
namespace Go.Proofs.YthnpjjpdlihepaaGreat.T10
open Go Go.RowKit Go.Proofs.YthnpjjpdlihepaaGreatW.PrintWords Go.Proofs.YthnpjjpdlihepaaGreatW.PrintLast Go.Proofs.YthnpjjpdlihepaaGreatW.PrintMore Go.Proofs.YthnpjjpdlihepaaGreat.Given Go.Proofs.YthnpjjpdlihepaaGreat.M Go.Proofs.YthnpjjpdlihepaaGreat.Mont Go.Proofs.YthnpjjpdlihepaaGreat.XS Go.Proofs.YthnpjjpdlihepaaGreat.XT Go.Proofs.YthnpjjpdlihepaaGreat.XR Go.Proofs.YthnpjjpdlihepaaGreat.Num Go.Proofs.YthnpjjpdlihepaaGreat.XK Go.Proofs.YthnpjjpdlihepaaGreat.F06 Go.Proofs.YthnpjjpdlihepaaGreat.XW
set_option linter.unusedVariables false
def snd (l : List Int) : Int := rd l ((1 % l.length : Nat) : Int)
def TabP (p : Int) (l : List Int) : Prop := 1 ≤ l.length ∧ l.length ≤ 4096 ∧ rd l 0 = 1 ∧ (∀ j, 0 ≤ j → j < l.length → rd l (j : Int) = snd l ^ j % p ∧ (0 < j → snd l ^ j % p ≠ 1)) ∧ snd l ^ l.length % p = 1
theorem iff_of_true_ {b : Bool} {P : Prop} (hb : b = true) (hp : P) : (b = true ↔ P) := ⟨fun _ => hp, fun _ => hb⟩
theorem iff_of_false_ {b : Bool} {P : Prop} (hb : b = false) (hp : ¬ P) : (b = true ↔ P) := ⟨fun h => absurd (hb.symm.trans h) Bool.false_ne_true, fun h => absurd h hp⟩
theorem snd_U {l : List Int} (hu : ∀ x ∈ l, U x) (h : 1 ≤ l.length) : U (snd l) := hu _ (rd_mem (Nat.mod_lt _ (by omega)))
theorem rd_m33 {fs : List (Nat × Nat)} {i : Nat} (h : i < fs.length) : rd_T84 (m33 fs) (i : Int) = ⟨(fs[i].1 : Int), (fs[i].2 : Int)⟩ := by
  unfold rd_T84 m33
  rw [Int.toNat_natCast, List.getD_eq_getElem?_getD, List.getElem?_map, List.getElem?_eq_getElem h]
  rfl
theorem verify_l1 {l : List Int} {n : Nat} (hn : 1 ≤ n) (h4 : n ≤ 4096) (hl : l.length = n) {fs : List (Nat × Nat)} (hf : ∀ x ∈ fs, 2 ≤ x.1 ∧ x.1 ≤ n) (hm : fs.length ≤ 1000000) (d : Nat) : ∀ i : Nat, i + d = fs.length →
    ∃ b, Ev (fun k => twiddle_Verify.l1 k l (n : Int) (m33 fs) (fs.length : Int) (i : Int)) b ∧ (b = true ↔ ∀ j, i ≤ j → ∀ h : j < fs.length, rd l ((n / fs[j].1 : Nat) : Int) ≠ 1) := by
  have lm : (m33 fs).length = fs.length := List.length_map _
  induction d with
  | zero =>
    intro i hi
    exact ⟨true, stepE ⟨_, fun k => by simp only [twiddle_Verify.l1]; rw [if_neg (by omega)], Ev.now _⟩, iff_of_true_ rfl fun j h1 h2 => by omega⟩
  | succ d ih =>
    intro i hi
    have hlt : i < fs.length := by omega
    obtain ⟨b, hb, hbi⟩ := ih (i + 1) (by omega)
    obtain ⟨f2, fn⟩ := hf _ (List.getElem_mem hlt)
    have e1 : wrap64 (fs[i].1 : Int) = (fs[i].1 : Int) := w64_id _ (by omega) (by omega)
    have hdiv : n / fs[i].1 < n := Nat.div_lt_self (by omega) (by omega)
    have hd0 : (0 : Int) ≤ ((n / fs[i].1 : Nat) : Int) := Int.natCast_nonneg _
    have e2 : wrap64 (Int.tdiv (n : Int) (fs[i].1 : Int)) = ((n / fs[i].1 : Nat) : Int) := by
      rw [tdiv_pos (by omega), ← Int.natCast_ediv]
      exact w64_id _ (by omega) (by omega)
    have S : ∀ k, twiddle_Verify.l1 (k + 1) l (n : Int) (m33 fs) (fs.length : Int) (i : Int) = if rd l ((n / fs[i].1 : Nat) : Int) = 1 then some false else twiddle_Verify.l1 k l (n : Int) (m33 fs) (fs.length : Int) ((i + 1 : Nat) : Int) := fun k => by
      simp only [twiddle_Verify.l1]
      rw [if_pos (by omega), if_pos (by omega), if_pos (by omega), rd_m33 hlt]
      dsimp only
      rw [e1, if_neg (by omega), e2, if_pos (by omega), if_pos (by omega), wrap_succ (by omega)]
    by_cases c : rd l ((n / fs[i].1 : Nat) : Int) = 1
    · exact ⟨false, stepE ⟨_, fun k => by rw [S k, if_pos c], Ev.now _⟩, iff_of_false_ rfl fun h => h i (Nat.le_refl _) hlt c⟩
    · refine ⟨b, stepE ⟨_, fun k => by rw [S k, if_neg c], hb⟩, hbi.trans ⟨fun h j h1 h2 => ?_, fun h j h1 h2 => h j (by omega) h2⟩⟩
      by_cases e : j = i
      · subst e; exact c
      · exact h j (by omega) h2
theorem facs_len {d n : Nat} {l : List (Nat × Nat)} (h : Facs d n l) : l.length < n := by
  obtain ⟨h1, _, rfl⟩ := h
  have key : ∀ l : List (Nat × Nat), (∀ x ∈ l, 2 ≤ x.1 ∧ 1 ≤ x.2) → l.length < prod l := by
    intro l
    induction l with
    | nil => intro _; show 0 < 1; omega
    | cons x l ih =>
      intro h
      have a := ih fun y hy => h y (List.mem_cons_of_mem _ hy)
      obtain ⟨b, c⟩ := h x List.mem_cons_self
      have : 2 ≤ x.1 ^ x.2 := by
        have h1 := Nat.pow_le_pow_right (show 0 < x.1 by omega) c
        rw [Nat.pow_one] at h1
        omega
      have := Nat.mul_le_mul_right (prod l) this
      show l.length + 1 < x.1 ^ x.2 * prod l
      omega
  exact key l fun x hx => ⟨(h1 x hx).1.1, (h1 x hx).2.2⟩
theorem factor_ev {n : Nat} (h1 : 1 ≤ n) (h4 : n ≤ 4096) : ∃ fs : List (Nat × Nat), Ev (fun k => sieve_Factor.f k (n : Int)) (m33 fs) ∧ (∀ x ∈ fs, 2 ≤ x.1 ∧ x.1 ≤ n ∧ Prime x.1 ∧ x.1 ∣ n) ∧ (∀ q, Prime q → q ∣ n → ∃ x ∈ fs, x.1 = q) ∧ fs.length ≤ 1000000 := by
  by_cases h2 : 2 ≤ n
  · obtain ⟨fs, hf, E, _⟩ := Factor_both n h2 (by omega)
    refine ⟨fs, E, fun x hx => ?_, fun q hq hd => ?_, ?_⟩
    · have hd := hf.le (by omega) hx
      exact ⟨(hf.1 x hx).1.1, Nat.le_of_dvd (by omega) hd, (hf.1 x hx).1, hd⟩
    · rw [← hf.2.2] at hd
      obtain ⟨x, hx, hdx⟩ := hq.dvd_prod fs hd
      refine ⟨x, hx, ?_⟩
      rcases (hf.1 x hx).1.2 q hdx with e | e
      · have := hq.1; omega
      · exact e.symm
    · have := facs_len hf
      omega
  · obtain rfl : n = 1 := by omega
    refine ⟨[], (Factor_none 1 (.inl (by omega))).1, fun x hx => absurd hx (by simp), fun q hq hd => ?_, by simp⟩
    have := Nat.le_of_dvd (by omega) hd
    have := hq.1
    omega
def Goes (p w : Int) (l : List Int) (n j : Nat) : Prop := rd l (j : Int) < p ∧ rd l (j : Int) * w % p = rd l (((j + 1) % n : Nat) : Int)
theorem verify_l0 {F : Fld} (hg : GoodFld F) {w : Int} (uw : U w) {l : List Int} (hu : ∀ x ∈ l, U x) {n : Nat} (h1 : 1 ≤ n) (hn : n ≤ 4096) (hl : l.length = n) (d : Nat) : ∀ i : Nat, i + d = n →
    ∃ b, Ev (fun k => twiddle_Verify.l0 k [F] l (n : Int) w l (n : Int) (i : Int)) b ∧ (b = true ↔ (∀ j, i ≤ j → j < n → Goes F.p w l n j) ∧ ∀ q, Prime q → q ∣ n → rd l ((n / q : Nat) : Int) ≠ 1) := by
  induction d with
  | zero =>
    intro i hi
    obtain ⟨fs, E, f1, f2, f3⟩ := factor_ev h1 hn
    obtain ⟨b, hb, hbi⟩ := verify_l1 h1 hn hl (fs := fs) (fun x hx => ⟨(f1 x hx).1, (f1 x hx).2.1⟩) f3 fs.length 0 (by omega)
    have lm : (m33 fs).length = fs.length := List.length_map _
    refine ⟨b, stepE ⟨_, fun k => by simp only [twiddle_Verify.l0]; rw [if_neg (by omega), wu64_id _ (by omega) (by omega)], Ev.bind E (by rw [lm]; exact hb)⟩, hbi.trans ⟨fun h => ⟨fun j a c => by omega, fun q hq hd => ?_⟩, fun h j _ hj => ?_⟩⟩
    · obtain ⟨x, hx, rfl⟩ := f2 q hq hd
      obtain ⟨j, hj, rfl⟩ := List.mem_iff_getElem.1 hx
      exact h j (Nat.zero_le _) hj
    · obtain ⟨_, _, hq, hd⟩ := f1 _ (List.getElem_mem hj)
      exact h.2 _ hq hd
  | succ d ih =>
    intro i hi
    obtain ⟨b, hb, hbi⟩ := ih (i + 1) (by omega)
    have J1 : Ev (fun k => twiddle_Verify.j3 k [F] l (n : Int) w l (n : Int) (i : Int) true) false :=
      stepE ⟨_, fun k => by simp only [twiddle_Verify.j3]; rw [if_pos trivial], Ev.now _⟩
    have J2 : Ev (fun k => twiddle_Verify.j3 k [F] l (n : Int) w l (n : Int) (i : Int) false) b :=
      stepE ⟨_, fun k => by simp only [twiddle_Verify.j3]; rw [if_neg (by decide), wrap_succ (by omega)], hb⟩
    have ui := hu _ (rd_mem (l := l) (i := i) (by omega))
    have em : Int.tmod (wrap64 ((i : Int) + 1)) (n : Int) = (((i + 1) % n : Nat) : Int) := by rw [wrap_succ (by omega), tmod_pos (by omega), ← Int.natCast_emod]
    have hm : (i + 1) % n < n := Nat.mod_lt _ (by omega)
    have hc1 : 0 ≤ Int.tmod (wrap64 ((i : Int) + 1)) (n : Int) := by rw [em]; exact Int.natCast_nonneg _
    have hc2 : Int.tmod (wrap64 ((i : Int) + 1)) (n : Int) < (l.length : Int) := by rw [em]; omega
    have hG : field_Field_Good.f [F] (rd l (i : Int)) = some (decide (rd l (i : Int) < F.p)) := rfl
    by_cases c1 : rd l (i : Int) < F.p
    · rw [decide_eq_true c1] at hG
      have S : Ev (fun k => twiddle_Verify.j3 k [F] l (n : Int) w l (n : Int) (i : Int) (rd l (i : Int) * w % F.p != rd l (((i + 1) % n : Nat) : Int))) (if rd l (i : Int) * w % F.p = rd l (((i + 1) % n : Nat) : Int) then b else false) := by
        by_cases c2 : rd l (i : Int) * w % F.p = rd l (((i + 1) % n : Nat) : Int)
        · rw [if_pos c2, bne_eq_false_iff_eq.2 c2]; exact J2
        · rw [if_neg c2, bne_iff_ne.2 c2]; exact J1
      refine ⟨if rd l (i : Int) * w % F.p = rd l (((i + 1) % n : Nat) : Int) then b else false, stepE ⟨_, fun k => by simp only [twiddle_Verify.l0]; rw [if_pos (by omega), if_pos (by omega), if_pos (by omega)], ?_⟩, ?_⟩
      · refine evB hG (evP rfl (evB (field_Field_Mul.at_ (F := F) (l := []) ⟨ui, uw⟩) (evN (by omega) (evP hc1 (evP hc2 ?_)))))
        rw [em]
        exact S
      by_cases c2 : rd l (i : Int) * w % F.p = rd l (((i + 1) % n : Nat) : Int)
      · rw [if_pos c2]
        refine hbi.trans ⟨fun h => ⟨fun j a c => ?_, h.2⟩, fun h => ⟨fun j a c => h.1 j (by omega) c, h.2⟩⟩
        by_cases e : j = i
        · subst e; exact ⟨c1, c2⟩
        · exact h.1 j (by omega) c
      · rw [if_neg c2]
        exact iff_of_false_ rfl fun h => c2 (h.1 i (Nat.le_refl _) (by omega)).2
    · rw [decide_eq_false c1] at hG
      refine ⟨false, stepE ⟨_, fun k => by simp only [twiddle_Verify.l0]; rw [if_pos (by omega), if_pos (by omega), if_pos (by omega)], ?_⟩, iff_of_false_ rfl fun h => c1 (h.1 i (Nat.le_refl _) (by omega)).1⟩
      exact evB hG (evN (by decide) J1)
theorem tab_iff {F : Fld} (hg : GoodFld F) {l : List Int} {n : Nat} (h1 : 1 ≤ n) (hl : l.length = n) (hu : ∀ x ∈ l, U x) (hz : rd l 0 = 1) :
    ((∀ j, 0 ≤ j → j < n → Goes F.p (snd l) l n j) ∧ ∀ q, Prime q → q ∣ n → rd l ((n / q : Nat) : Int) ≠ 1) ↔ ((∀ j, 0 ≤ j → j < n → rd l (j : Int) = snd l ^ j % F.p ∧ (0 < j → snd l ^ j % F.p ≠ 1)) ∧ snd l ^ n % F.p = 1) := by
  have uw : U (snd l) := snd_U hu (by omega)
  generalize snd l = w at *
  have hlo := hg.lo
  have divlt : ∀ q, Prime q → q ∣ n → 0 < n / q ∧ n / q < n := fun q hq hd => ⟨Nat.div_pos (Nat.le_of_dvd (by omega) hd) (by have := hq.1; omega), Nat.div_lt_self (by omega) hq.1⟩
  constructor
  · rintro ⟨hA, hB⟩
    have hp : ∀ j, j < n → rd l (j : Int) = w ^ j % F.p := by
      intro j
      induction j with
      | zero => intro _; rw [Int.pow_zero, hg.one]; exact hz
      | succ j ih =>
        intro hj
        have h := (hA j (Nat.zero_le _) (by omega)).2
        rw [ih (by omega), emod_mul_l, ← Int.pow_succ, Nat.mod_eq_of_lt hj] at h
        exact h.symm
    have hn : w ^ n % F.p = 1 := by
      have h := (hA (n - 1) (Nat.zero_le _) (by omega)).2
      rw [hp (n - 1) (by omega), emod_mul_l, ← Int.pow_succ, show n - 1 + 1 = n by omega, Nat.mod_self] at h
      rw [show (n - 1).succ = n by omega] at h
      rw [h]; exact hz
    refine ⟨fun j _ hj => ⟨hp j hj, fun h0 e => ?_⟩, hn⟩
    obtain ⟨P, G, e1, _, h3, _, _, hpr, _⟩ := hg.nat
    obtain ⟨a, rfl⟩ : ∃ a : Nat, w = a := ⟨w.toNat, by have := uw.1; omega⟩
    rw [e1] at hn e hp
    have toN : ∀ x : Nat, ((a : Int) ^ x % (P : Int) = 1 ↔ a ^ x % P = 1) := fun x => pow_cast a P x
    obtain ⟨m, hm, hmin⟩ := least (p := fun m => 0 < m ∧ a ^ m % P = 1) j ⟨h0, (toN j).1 e⟩
    have ord := order (P := P) (G := a) (d := m) (by omega) hm.1 hm.2 (fun k k0 km h => hmin k km ⟨k0, h⟩)
    have hmn : m ∣ n := (ord n).1 ((toN n).1 hn)
    have hmj : m ≤ j := Nat.le_of_not_lt fun c => hmin j c ⟨h0, (toN j).1 e⟩
    obtain ⟨c, hc⟩ := hmn
    have hc2 : 2 ≤ c := by
      refine Nat.le_of_not_lt fun h => ?_
      have : c = 0 ∨ c = 1 := by omega
      rcases this with rfl | rfl
      · omega
      · omega
    obtain ⟨q, hq, hqc⟩ := exists_prime c hc2
    have hqn : q ∣ n := Nat.dvd_trans hqc (by rw [hc]; exact Nat.dvd_mul_left _ _)
    obtain ⟨_, dl⟩ := divlt q hq hqn
    refine hB q hq hqn ?_
    rw [hp _ dl]
    refine (toN _).2 ((ord _).2 ?_)
    obtain ⟨c', hc'⟩ := hqc
    rw [hc, hc', show m * (q * c') = q * (m * c') by rw [Nat.mul_left_comm], Nat.mul_div_cancel_left _ (by have := hq.1; omega)]
    exact Nat.dvd_mul_right _ _
  · rintro ⟨hA, hn⟩
    refine ⟨fun j _ hj => ⟨?_, ?_⟩, fun q hq hd => ?_⟩
    · rw [(hA j (Nat.zero_le _) hj).1]
      exact Int.emod_lt_of_pos _ (by omega)
    · rw [(hA j (Nat.zero_le _) hj).1, emod_mul_l, ← Int.pow_succ]
      by_cases c : j + 1 < n
      · rw [Nat.mod_eq_of_lt c, (hA (j + 1) (Nat.zero_le _) c).1]
      · have e : j.succ = n := by omega
        rw [e, show j + 1 = n from e, Nat.mod_self, hn]
        exact hz.symm
    · obtain ⟨d0, dl⟩ := divlt q hq hd
      obtain ⟨e, h⟩ := hA _ (Nat.zero_le _) dl
      rw [e]
      exact h d0
theorem verify_ev {F : Fld} (hg : GoodFld F) {l : List Int} (hu : ∀ x ∈ l, U x) : ∃ b, Ev (fun k => twiddle_Verify.f k [F] l) b ∧ (b = true ↔ TabP F.p l) := by
  have J1 : ∀ m : Int, Ev (fun k => twiddle_Verify.j0 k [F] l m true) false := fun m =>
    stepE ⟨_, fun k => by simp only [twiddle_Verify.j0]; rw [if_pos trivial], Ev.now _⟩
  have c0 : ¬ ((([F] : List Fld).length : Int) = 0) := by simp
  by_cases h1 : (l.length : Int) = 0
  · refine ⟨false, Ev.congr (fun k => rfl) (evN c0 (evP h1 (J1 _))), iff_of_false_ rfl fun h => ?_⟩
    have := h.1; omega
  by_cases h2 : (l.length : Int) > 4096
  · refine ⟨false, Ev.congr (fun k => rfl) (evN c0 (evN h1 (evP h2 (J1 _)))), iff_of_false_ rfl fun h => ?_⟩
    have := h.2.1; omega
  by_cases h3 : rd l 0 = 1
  · obtain ⟨b, hb, hbi⟩ := verify_l0 hg (snd_U hu (by omega)) hu (n := l.length) (by omega) (by omega) rfl l.length 0 (by omega)
    refine ⟨b, Ev.congr (fun k => rfl) (evN c0 (evN h1 (evN h2 (evP (by omega) ?_)))), (hbi.trans (tab_iff hg (by omega) rfl hu h3)).trans ⟨fun h => ⟨by omega, by omega, h3, h.1, h.2⟩, fun h => ⟨h.2.2.2.1, h.2.2.2.2⟩⟩⟩
    have e0 : (rd l 0 != 1) = false := by rw [h3]; rfl
    rw [e0]
    have J : Ev (fun k => twiddle_Verify.j1 k [F] l (l.length : Int) (snd l)) b := Ev.step (fun k => by simp only [twiddle_Verify.j1]; rfl) hb
    by_cases c : 1 < l.length
    · have e1 : snd l = rd l 1 := by unfold snd; rw [Nat.mod_eq_of_lt c]; rfl
      rw [e1] at J
      exact stepE ⟨_, fun k => by simp only [twiddle_Verify.j0]; rw [if_neg (by decide), if_pos (by omega), if_pos (by omega)], J⟩
    · have e1 : snd l = 1 := by
        unfold snd
        rw [show l.length = 1 by omega]
        exact h3
      rw [e1] at J
      exact stepE ⟨_, fun k => by simp only [twiddle_Verify.j0]; rw [if_neg (by decide), if_neg (by omega)], J⟩
  · refine ⟨false, Ev.congr (fun k => rfl) (evN c0 (evN h1 (evN h2 (evP (by omega) ?_)))), iff_of_false_ rfl fun h => h3 h.2.2.1⟩
    have e0 : (rd l 0 != 1) = true := bne_iff_ne.2 h3
    rw [e0]
    exact J1 _
theorem powL_tab {p w : Int} {n : Nat} (hp : 3 ≤ p) (h1 : 1 ≤ n) (h4 : n ≤ 4096) (h0 : 0 ≤ w) (hw : w < p) (ord : ∀ k, w ^ k % p = 1 ↔ n ∣ k) : TabP p (powL p w n) := by
  have hs : snd (powL p w n) = w := by
    unfold snd
    rw [powL_len, rd_powL (Nat.mod_lt _ (by omega))]
    by_cases c : 1 < n
    · rw [Nat.mod_eq_of_lt c, Int.pow_succ, Int.pow_zero, Int.one_mul, Int.emod_eq_of_lt h0 hw]
    · have e := (ord 1).2 (by rw [show n = 1 by omega]; exact Nat.dvd_refl _)
      rw [Int.pow_succ, Int.pow_zero, Int.one_mul, Int.emod_eq_of_lt h0 hw] at e
      rw [show n = 1 by omega, Nat.mod_self, Int.pow_zero, e, Int.emod_eq_of_lt (by omega) (by omega)]
  unfold TabP
  rw [hs, powL_len]
  refine ⟨h1, h4, ?_, fun j _ hj => ⟨rd_powL hj, fun j0 e => ?_⟩, (ord n).2 (Nat.dvd_refl _)⟩
  · have := rd_powL (p := p) (w := w) (n := n) (i := 0) (by omega)
    rw [Int.pow_zero, Int.emod_eq_of_lt (by omega) (by omega)] at this
    exact this
  · have := Nat.le_of_dvd j0 ((ord j).1 e)
    omega
end Go.Proofs.YthnpjjpdlihepaaGreat.T10
end
section
namespace Go.Proofs.YthnpjjpdlihepaaGreat.XW
open Go Go.RowKit Go.Proofs.YthnpjjpdlihepaaGreatW.PrintWords Go.Proofs.YthnpjjpdlihepaaGreatW.PrintLast Go.Proofs.YthnpjjpdlihepaaGreatW.PrintMore Go.Proofs.YthnpjjpdlihepaaGreat.Given Go.Proofs.YthnpjjpdlihepaaGreat.M Go.Proofs.YthnpjjpdlihepaaGreat.Mont Go.Proofs.YthnpjjpdlihepaaGreat.XS Go.Proofs.YthnpjjpdlihepaaGreat.XT Go.Proofs.YthnpjjpdlihepaaGreat.XR Go.Proofs.YthnpjjpdlihepaaGreat.F06
def liftV (l0 : List Fld) (x : Int) : Int := match l0 with
  | [] => 0
  | F :: _ => mIn F.p x
theorem liftV_f {l0 : List Fld} {x : Int} (h : U x) : field_Field_Lift.f l0 x = some (liftV l0 x) := by
  unfold field_Field_Lift.f liftV
  rw [if_pos h]
  cases l0 <;> rfl
noncomputable def twiddle_Lifted.f (k : Nat) (l0 : List Fld) (a1 : Int) (a2 : Bool) : Option (List Int × Int) :=
  (twiddle_Table.f k l0 a1 a2).bind fun t => if (∀ x ∈ t.1, U x) ∧ t.1.length ≤ 1000000 then some (t.1.map (liftV l0), t.2) else none
def mixL (l0 : List Fld) (t : List Int) (i : Nat) : List Int := (t.take i).map (liftV l0) ++ t.drop i
theorem mix_len (l0 : List Fld) {t : List Int} {i : Nat} (h : i ≤ t.length) : (mixL l0 t i).length = t.length := by
  unfold mixL
  rw [List.length_append, List.length_map, List.length_take, List.length_drop]
  omega
theorem mix_rd (l0 : List Fld) {t : List Int} {i : Nat} (h : i < t.length) : (mixL l0 t i).getD i 0 = t[i] := by
  unfold mixL
  have hl : ((t.take i).map (liftV l0)).length = i := by rw [List.length_map, List.length_take]; omega
  rw [List.getD_eq_getElem?_getD, List.getElem?_append_right (by omega), hl, Nat.sub_self, List.getElem?_drop, Nat.add_zero, List.getElem?_eq_getElem h]
  rfl
theorem mix_set (l0 : List Fld) {t : List Int} {i : Nat} (h : i < t.length) : (mixL l0 t i).set i (liftV l0 t[i]) = mixL l0 t (i + 1) := by
  unfold mixL
  have hl : ((t.take i).map (liftV l0)).length = i := by rw [List.length_map, List.length_take]; omega
  rw [List.set_append_right _ _ (by omega), hl, Nat.sub_self, List.drop_eq_getElem_cons h, List.set_cons_zero, List.take_succ_eq_append_getElem h, List.map_append, List.append_assoc]
  rfl
set_option maxHeartbeats 4000000 in
set_option maxRecDepth 100000 in
theorem twiddle_Lifted.calls (k : Nat) (A0 : Option Addr) (c0 : Nat) (l0 : List (Fld)) (a1 : Int) (a2 : Bool) (r1 : List Int) (r2 : Int) (w : World) (hr0 : Kd.C kFld w A0 l0.length l0) (hc0 : l0.length ≤ c0) (h : twiddle_Lifted.f k l0 a1 a2 = some (r1, r2)) :
    Calls Tryz.prog 26 #[toPtr (.slice A0 l0.length c0), .int .i64 a1, .bool a2] w fun e w' => ∃ v0_ : Value, e = .returned (.tuple #[v0_, .int .i64 r2]) ∧ Kd.R (Kd.int .u64) 22 w' w.heap.size (fun _ => True) v0_ r1 ∧ Below w.heap.size w w' := by
  unfold twiddle_Lifted.f at h
  obtain ⟨⟨t1, t2⟩, hA, h⟩ := Option.bind_eq_some_iff.1 h
  simp only at h
  split at h
  case isFalse => cases h
  rename_i hu
  obtain ⟨rfl, rfl⟩ := Prod.mk.inj (Option.some.inj h)
  obtain ⟨hu, hn⟩ := hu
  have HA := Aside0.mk hA
  have HR0 := Aside0.mk hr0
  have HC0 := Aside0.mk hc0
  have HU := Aside0.mk hu
  have HN := Aside0.mk hn
  clear hA hr0 hc0 hu hn h
  go_enter Tryz.func26, Tryz.ntmps26
  go_wp2_with (first
    | (go_at_call 25; (with_reducible refine (twiddle_Table.calls k A0 c0 l0 a1 a2 t1 t2 _ HR0.out HC0.out HA.out).mono ?_); rintro e w1 ⟨v1, rfl, ho, hb⟩; obtain ⟨A1, c1, rfl⟩ := Kd.R_slice ho; have HO1 := Aside0.mk ho; have HB1 := Aside0.mk hb; clear ho hb))
  clear HA
  go_loopw [21] (fun v21 wr => ∃ (x : Int), v21 = .int .i64 x ∧ 0 ≤ x ∧ x ≤ (t1.length : Int) ∧ Aside0 (Kd.R (Kd.int .u64) 22 wr w.heap.size (fun _ => True) (.slice A1 t1.length c1) (mixL l0 t1 x.toNat)) ∧ Aside0 (Below w.heap.size w wr)) (fun v21 _ => t1.length - (intOf v21).toNat)
  case atStart => exact ⟨0, rfl, Int.le_refl _, Int.natCast_nonneg _, ⟨HO1.out⟩, ⟨HB1.out⟩⟩
  case round =>
    clear HO1 HB1
    obtain ⟨x, rfl, h0, hx, HO, HB⟩ := hrel
    by_cases hlt : x < (t1.length : Int)
    · have c1b0 : decide (x < (t1.length : Int)) = true := decide_eq_true hlt
      have hi : x.toNat < t1.length := by omega
      obtain ⟨y, hy⟩ : ∃ y, y = t1[x.toNat] := ⟨_, rfl⟩
      have hL := liftV_f (l0 := l0) (HU.out y (by rw [hy]; exact List.getElem_mem hi))
      have hset := mix_set l0 hi
      have hrd := mix_rd l0 hi
      rw [← hy] at hset hrd
      have HL := Aside0.mk hL
      have HS := Aside0.mk hset
      have ml := mix_len l0 (t := t1) (i := x.toNat) (by omega)
      obtain ⟨g, cap, eo, gb, gl, HG⟩ := Kd.R_form HO.out (by omega)
      injection eo with ea en ec
      subst ea
      have GB := Aside0.mk gb
      obtain ⟨hx_0, hf_0⟩ := Kd.R_celln 0 HO.out x h0 hlt
      have erd : rdOf 0 (mixL l0 t1 x.toNat) x = y := hrd
      rw [erd] at hx_0
      have p1 := eq_true h0
      have q1 := eq_true hlt
      have HLT := Aside0.mk hlt
      have H0 := Aside0.mk h0
      clear hL hset hrd ml en ec gb gl HG erd hy hi hlt hx h0
      go_wp2_with (first
        | (go_at_call 18; (with_reducible refine (field_Field_Lift.calls A0 c0 l0 y (liftV l0 y) _ (Kd.C_below HR0.out HB.out) HC0.out HL.out).mono ?_); rintro e w2 ⟨rfl, ⟨nd, hnd⟩⟩; have HO2 : Aside0 (Kd.R (Kd.int .u64) 22 w2 w.heap.size (fun _ => True) (.slice (some ⟨g, 0, none⟩) t1.length c1) (mixL l0 t1 x.toNat)) := ⟨by rw [hnd]; exact Kd.R_drewN HO.out nd⟩; have HB2 : Aside0 (Below w.heap.size w w2) := ⟨by rw [hnd]; exact pw_below_drewN HB.out nd⟩; have hf2 : w2.frozen? ⟨g, x.toNat, none⟩ = false := (by rw [hnd]; exact hf_0); have hx2 : w2.cell? ⟨g, x.toNat, none⟩ = some (.int .u64 y) := (by rw [hnd]; exact hx_0); clear hnd))
      go_roundw
      case rel =>
        have := HLT.out
        have := H0.out
        have hn := HN.out
        exact ⟨x + 1, congrArg (Value.int .i64) (w64_id (x + 1) (by omega) (by omega)), by omega, by omega, ⟨by rw [show (x + 1).toNat = x.toNat + 1 by omega, ← HS.out]; exact (Kd.R_putg HO2.out x (liftV l0 y)).1⟩, ⟨below_set HB2.out GB.out⟩⟩
      case measure =>
        have := HLT.out
        have := H0.out
        have hn := HN.out
        rw [w64_id (x + 1) (by omega) (by omega)]
        simp [intOf]; omega
    · have c1b0 : decide (x < (t1.length : Int)) = false := decide_eq_false hlt
      have hm : mixL l0 t1 x.toNat = t1.map (liftV l0) := by
        unfold mixL
        rw [List.take_of_length_le (by omega), List.drop_eq_nil_of_le (by omega), List.append_nil]
      have HM := Aside0.mk hm
      clear hm hlt hx h0
      go_wp2
      go_ret2
      exact ⟨_, by first | rfl | (simp; done), by rw [← HM.out]; exact HO.out, HB.out⟩
end Go.Proofs.YthnpjjpdlihepaaGreat.XW
end
section
namespace Go.Proofs.YthnpjjpdlihepaaGreat.XL
open Go.RowKit Go.Proofs.YthnpjjpdlihepaaGreat.Given Go.Proofs.YthnpjjpdlihepaaGreat.Row05 Go.Proofs.YthnpjjpdlihepaaGreat.XS Go.Proofs.YthnpjjpdlihepaaGreat.XT Go.Proofs.YthnpjjpdlihepaaGreat.XR Go.Proofs.YthnpjjpdlihepaaGreat.F06 Go.Proofs.YthnpjjpdlihepaaGreat.XK Go.Proofs.YthnpjjpdlihepaaGreat.XW Go.Proofs.YthnpjjpdlihepaaGreatW.PrintWords Go.Proofs.YthnpjjpdlihepaaGreatW.PrintLast Go.Proofs.YthnpjjpdlihepaaGreatW.PrintMore
attribute [local go_sem] max2_int min2_int max_two min_two max_three min_three max_four min_four   -- for this text's walks alone
set_option linter.unusedVariables false
set_option linter.unusedSimpArgs false
noncomputable def epicyclelaw10_alive.f (k : Nat)  : Option (Bool) := (field_Small.f k 17).bind fun bt101 => ((twiddle_Table.f k bt101.1 4 false).bind fun bt105 => (if bt105.2 = 0 then (if (bt105.1.length : Int) = 4 then (if 1 < (bt105.1.length : Int) then (if (rd bt105.1 1) = 13 then (if 3 < (bt105.1.length : Int) then (if (rd bt105.1 3) = 4 then ((twiddle_Verify.f k bt101.1 bt105.1).bind fun t111 => (some t111)) else (some false)) else (none)) else (some false)) else (none)) else (some false)) else (some false)))
set_option maxHeartbeats 8000000 in
set_option maxRecDepth 100000 in
theorem epicyclelaw10_alive.calls (k : Nat)  (r : Bool) (w : World) (h : epicyclelaw10_alive.f k  = some r) :
  Calls Tryz.prog 21 #[] w fun e w' => e = .returned (.bool r) ∧ Below w.heap.size w w' := by
 have HB := Aside0.mk (Below.refl w.heap.size w)
 have H := h; unfold epicyclelaw10_alive.f at H
 clear h
 replace H := Option.bind_eq_some_iff.mp H
 obtain ⟨⟨t101, t102⟩, A10, H⟩ := H
 (try dsimp only at H)
 have A1 := Aside0.mk A10
 clear A10
 replace H := Option.bind_eq_some_iff.mp H
 obtain ⟨⟨t105, t106⟩, A20, H⟩ := H
 (try dsimp only at H)
 have A2 := Aside0.mk A20
 clear A20
 by_cases c3 : t106 = 0
 ·rw [if_pos c3] at H
  have c3b0 := beq_iff_eq.mpr c3
  have c3b1 := bne_eq_false_iff_eq.mpr c3
  clear c3
  by_cases c4 : (t105.length : Int) = 4
  ·rw [if_pos c4] at H
   have c4b0 := beq_iff_eq.mpr c4
   have c4b1 := bne_eq_false_iff_eq.mpr c4
   clear c4
   by_cases c5 : 1 < (t105.length : Int)
   ·rw [if_pos c5] at H
    have c5b0 := decide_eq_true c5
    have c5b1 : decide (1 < t105.length) = true := decide_eq_true (by omega)
    clear c5
    by_cases c6 : (rd t105 1) = 13
    ·rw [if_pos c6] at H
     have c6b0 := beq_iff_eq.mpr c6
     have c6b1 := bne_eq_false_iff_eq.mpr c6
     clear c6
     by_cases c7 : 3 < (t105.length : Int)
     ·rw [if_pos c7] at H
      have c7b0 := decide_eq_true c7
      have c7b1 : decide (3 < t105.length) = true := decide_eq_true (by omega)
      clear c7
      by_cases c8 : (rd t105 3) = 4
      ·rw [if_pos c8] at H
       have c8b0 := beq_iff_eq.mpr c8
       have c8b1 := bne_eq_false_iff_eq.mpr c8
       clear c8
       replace H := Option.bind_eq_some_iff.mp H
       obtain ⟨t111, A90, H⟩ := H
       (try dsimp only at H)
       have A9 := Aside0.mk A90
       clear A90
       obtain rfl := Option.some.inj H
       go_enter Tryz.func21, Tryz.ntmps21
       go_wp2_with (first | ((with_reducible refine gate_callee (f := 28) rfl ?_); refine goesL_ (some 6) rfl rfl Tryz.func28 (by kernel_rfl) rfl #[.int .u64 17] rfl (by (try simp only [List.map_toArray, List.map_cons, List.map_nil]); first | done | rfl | (simp only [List.length_drop, List.length_take]; rfl)) ?_; (with_reducible refine (field_Small.calls k 17 t101 t102 _ A1.out).mono ?_); rintro e w10 ⟨v103, rfl, ho0, hb⟩; refine ⟨_, rfl, ?_⟩; have n0_ := Aside0.mk (Kd.R_lower ho0 (below_size bel_)); have n1_ := Aside0.mk (below_step bel_ hb); clear HB; have HO104 := n0_; have HB := n1_; clear n0_ n1_; (try clear hb); (try clear hb2); (try clear hk); (try clear hi); (try clear ho0); obtain ⟨Ao11, co11, eo11⟩ := Kd.R_slice HO104.out; subst eo11) | ((with_reducible refine gate_callee (f := 25) rfl ?_); refine goesL_ (some 11) rfl rfl Tryz.func25 (by kernel_rfl) rfl #[toPtr (.slice Ao11 t101.length co11), .int .i64 4, .bool false] rfl (by (try simp only [List.map_toArray, List.map_cons, List.map_nil]); first | done | (rw [hT_HO104] <;> rfl) | rfl | (simp only [List.length_drop, List.length_take]; rfl)) ?_; (try rw [← hT_HO104]); (with_reducible refine (twiddle_Table.calls k _ _ t101 4 false t105 t106 _ ?side1 ?side2 A2.out).mono ?_); (case side1 => repeat (first | exact (Kd.R_reads' HO104.out).2.2 | (with_reducible refine Kd.C_alloc ?_ _) | (with_reducible refine Kd.C_drewN ?_ _) | (with_reducible refine Kd.C_drew ?_))); (case side2 => exact (Kd.R_reads' HO104.out).2.1); rintro e w12 ⟨v107, rfl, ho0, hb⟩; refine ⟨_, rfl, ?_⟩; have n0_ := Aside0.mk (Kd.R_below (by (with_reducible repeat (first | apply Kd.R_alloc | apply Kd.R_drewN | apply Kd.R_drew)); exact HO104.out) hb); have n1_ := Aside0.mk (Kd.R_lower ho0 (below_size bel_)); have n2_ := Aside0.mk (below_step bel_ hb); clear HO104; clear HB; have HO104 := n0_; have HO108 := n1_; have HB := n2_; clear n0_ n1_ n2_; (try clear hb); (try clear hb2); (try clear hk); (try clear hi); (try clear ho0); obtain ⟨Ao13, co13, eo13⟩ := Kd.R_slice HO108.out; subst eo13; have p109 : 0 ≤ (1 : Int) := (by omega); have q109 : 1 < (t105.length : Int) := of_decide_eq_true (by assumption); obtain ⟨ad109, e109, hx109_0⟩ := Kd.at_int (Kd.R_reads' HO108.out).2.2 1 p109 q109; cases e109; (try simp only [show (1 : Int).toNat = 1 from rfl, Nat.reduceMul, Nat.reduceEqDiff, Go.Addr.add, ↓reduceIte] at hx109_0); have qi109 : (1 < t105.length) = True := eq_true (by omega); (try rw [show ((1 : Int)).toNat = 1 from rfl] at hx109_0); replace p109 := eq_true p109; replace q109 := eq_true q109; have p110 : 0 ≤ (3 : Int) := (by omega); have q110 : 3 < (t105.length : Int) := of_decide_eq_true (by assumption); obtain ⟨ad110, e110, hx110_0⟩ := Kd.at_int (Kd.R_reads' HO108.out).2.2 3 p110 q110; obtain rfl : ad109 = ad110 := (by injection e110); (try simp only [show (3 : Int).toNat = 3 from rfl, Nat.reduceMul, Nat.reduceEqDiff, Go.Addr.add, ↓reduceIte] at hx110_0); have qi110 : (3 < t105.length) = True := eq_true (by omega); (try rw [show ((3 : Int)).toNat = 3 from rfl] at hx110_0); replace p110 := eq_true p110; replace q110 := eq_true q110) | (go_at_call 44; (try rw [← hT_HO104]); (with_reducible refine (twiddle_Verify.calls k _ _ t101 _ _ t105 t111 _ ?side1 ?side2 ?side3 ?side4 A9.out).mono ?_); (case side1 => repeat (first | exact (Kd.R_reads' HO104.out).2.2 | (with_reducible refine Kd.C_alloc ?_ _) | (with_reducible refine Kd.C_drewN ?_ _) | (with_reducible refine Kd.C_drew ?_))); (case side2 => exact (Kd.R_reads' HO104.out).2.1); (case side3 => repeat (first | exact (Kd.R_reads' HO108.out).2.2 | (with_reducible refine Kd.C_alloc ?_ _) | (with_reducible refine Kd.C_drewN ?_ _) | (with_reducible refine Kd.C_drew ?_))); (case side4 => exact (Kd.R_reads' HO108.out).2.1); rintro e w14 ⟨rfl, hb⟩; have n0_ := Aside0.mk (Kd.R_below (by (with_reducible repeat (first | apply Kd.R_alloc | apply Kd.R_drewN | apply Kd.R_drew)); exact HO104.out) hb); have n1_ := Aside0.mk (Kd.R_below (by (with_reducible repeat (first | apply Kd.R_alloc | apply Kd.R_drewN | apply Kd.R_drew)); exact HO108.out) hb); have n2_ := Aside0.mk (below_step bel_ hb); clear HO104; clear HO108; clear HB; have HO104 := n0_; have HO108 := n1_; have HB := n2_; clear n0_ n1_ n2_; (try clear hb); (try clear hb2); (try clear hk); (try clear hi)))
       go_ret
       exact ⟨by first | rfl | (simp [errW_none, errW_some] <;> rfl) | (simp [*, errW_none, errW_some] <;> rfl), bel_⟩
      ·rw [if_neg c8] at H
       have c8b0 := beq_eq_false_iff_ne.mpr c8
       have c8b1 := bne_iff_ne.mpr c8
       obtain rfl := Option.some.inj H
       go_enter Tryz.func21, Tryz.ntmps21
       go_wp2_with (first | ((with_reducible refine gate_callee (f := 28) rfl ?_); refine goesL_ (some 6) rfl rfl Tryz.func28 (by kernel_rfl) rfl #[.int .u64 17] rfl (by (try simp only [List.map_toArray, List.map_cons, List.map_nil]); first | done | rfl | (simp only [List.length_drop, List.length_take]; rfl)) ?_; (with_reducible refine (field_Small.calls k 17 t101 t102 _ A1.out).mono ?_); rintro e w15 ⟨v103, rfl, ho0, hb⟩; refine ⟨_, rfl, ?_⟩; have n0_ := Aside0.mk (Kd.R_lower ho0 (below_size bel_)); have n1_ := Aside0.mk (below_step bel_ hb); clear HB; have HO104 := n0_; have HB := n1_; clear n0_ n1_; (try clear hb); (try clear hb2); (try clear hk); (try clear hi); (try clear ho0); obtain ⟨Ao16, co16, eo16⟩ := Kd.R_slice HO104.out; subst eo16) | ((with_reducible refine gate_callee (f := 25) rfl ?_); refine goesL_ (some 11) rfl rfl Tryz.func25 (by kernel_rfl) rfl #[toPtr (.slice Ao16 t101.length co16), .int .i64 4, .bool false] rfl (by (try simp only [List.map_toArray, List.map_cons, List.map_nil]); first | done | (rw [hT_HO104] <;> rfl) | rfl | (simp only [List.length_drop, List.length_take]; rfl)) ?_; (try rw [← hT_HO104]); (with_reducible refine (twiddle_Table.calls k _ _ t101 4 false t105 t106 _ ?side1 ?side2 A2.out).mono ?_); (case side1 => repeat (first | exact (Kd.R_reads' HO104.out).2.2 | (with_reducible refine Kd.C_alloc ?_ _) | (with_reducible refine Kd.C_drewN ?_ _) | (with_reducible refine Kd.C_drew ?_))); (case side2 => exact (Kd.R_reads' HO104.out).2.1); rintro e w17 ⟨v107, rfl, ho0, hb⟩; refine ⟨_, rfl, ?_⟩; have n0_ := Aside0.mk (Kd.R_below (by (with_reducible repeat (first | apply Kd.R_alloc | apply Kd.R_drewN | apply Kd.R_drew)); exact HO104.out) hb); have n1_ := Aside0.mk (Kd.R_lower ho0 (below_size bel_)); have n2_ := Aside0.mk (below_step bel_ hb); clear HO104; clear HB; have HO104 := n0_; have HO108 := n1_; have HB := n2_; clear n0_ n1_ n2_; (try clear hb); (try clear hb2); (try clear hk); (try clear hi); (try clear ho0); obtain ⟨Ao18, co18, eo18⟩ := Kd.R_slice HO108.out; subst eo18; have p109 : 0 ≤ (1 : Int) := (by omega); have q109 : 1 < (t105.length : Int) := of_decide_eq_true (by assumption); obtain ⟨ad109, e109, hx109_0⟩ := Kd.at_int (Kd.R_reads' HO108.out).2.2 1 p109 q109; cases e109; (try simp only [show (1 : Int).toNat = 1 from rfl, Nat.reduceMul, Nat.reduceEqDiff, Go.Addr.add, ↓reduceIte] at hx109_0); have qi109 : (1 < t105.length) = True := eq_true (by omega); (try rw [show ((1 : Int)).toNat = 1 from rfl] at hx109_0); replace p109 := eq_true p109; replace q109 := eq_true q109; have p110 : 0 ≤ (3 : Int) := (by omega); have q110 : 3 < (t105.length : Int) := of_decide_eq_true (by assumption); obtain ⟨ad110, e110, hx110_0⟩ := Kd.at_int (Kd.R_reads' HO108.out).2.2 3 p110 q110; obtain rfl : ad109 = ad110 := (by injection e110); (try simp only [show (3 : Int).toNat = 3 from rfl, Nat.reduceMul, Nat.reduceEqDiff, Go.Addr.add, ↓reduceIte] at hx110_0); have qi110 : (3 < t105.length) = True := eq_true (by omega); (try rw [show ((3 : Int)).toNat = 3 from rfl] at hx110_0); replace p110 := eq_true p110; replace q110 := eq_true q110))
       go_ret
       exact ⟨by first | rfl | (simp [errW_none, errW_some] <;> rfl) | (simp [*, errW_none, errW_some] <;> rfl), bel_⟩
     ·rw [if_neg c7] at H
      exact absurd H (by simp)
    ·rw [if_neg c6] at H
     have c6b0 := beq_eq_false_iff_ne.mpr c6
     have c6b1 := bne_iff_ne.mpr c6
     obtain rfl := Option.some.inj H
     go_enter Tryz.func21, Tryz.ntmps21
     go_wp2_with (first | ((with_reducible refine gate_callee (f := 28) rfl ?_); refine goesL_ (some 6) rfl rfl Tryz.func28 (by kernel_rfl) rfl #[.int .u64 17] rfl (by (try simp only [List.map_toArray, List.map_cons, List.map_nil]); first | done | rfl | (simp only [List.length_drop, List.length_take]; rfl)) ?_; (with_reducible refine (field_Small.calls k 17 t101 t102 _ A1.out).mono ?_); rintro e w19 ⟨v103, rfl, ho0, hb⟩; refine ⟨_, rfl, ?_⟩; have n0_ := Aside0.mk (Kd.R_lower ho0 (below_size bel_)); have n1_ := Aside0.mk (below_step bel_ hb); clear HB; have HO104 := n0_; have HB := n1_; clear n0_ n1_; (try clear hb); (try clear hb2); (try clear hk); (try clear hi); (try clear ho0); obtain ⟨Ao20, co20, eo20⟩ := Kd.R_slice HO104.out; subst eo20) | ((with_reducible refine gate_callee (f := 25) rfl ?_); refine goesL_ (some 11) rfl rfl Tryz.func25 (by kernel_rfl) rfl #[toPtr (.slice Ao20 t101.length co20), .int .i64 4, .bool false] rfl (by (try simp only [List.map_toArray, List.map_cons, List.map_nil]); first | done | (rw [hT_HO104] <;> rfl) | rfl | (simp only [List.length_drop, List.length_take]; rfl)) ?_; (try rw [← hT_HO104]); (with_reducible refine (twiddle_Table.calls k _ _ t101 4 false t105 t106 _ ?side1 ?side2 A2.out).mono ?_); (case side1 => repeat (first | exact (Kd.R_reads' HO104.out).2.2 | (with_reducible refine Kd.C_alloc ?_ _) | (with_reducible refine Kd.C_drewN ?_ _) | (with_reducible refine Kd.C_drew ?_))); (case side2 => exact (Kd.R_reads' HO104.out).2.1); rintro e w21 ⟨v107, rfl, ho0, hb⟩; refine ⟨_, rfl, ?_⟩; have n0_ := Aside0.mk (Kd.R_below (by (with_reducible repeat (first | apply Kd.R_alloc | apply Kd.R_drewN | apply Kd.R_drew)); exact HO104.out) hb); have n1_ := Aside0.mk (Kd.R_lower ho0 (below_size bel_)); have n2_ := Aside0.mk (below_step bel_ hb); clear HO104; clear HB; have HO104 := n0_; have HO108 := n1_; have HB := n2_; clear n0_ n1_ n2_; (try clear hb); (try clear hb2); (try clear hk); (try clear hi); (try clear ho0); obtain ⟨Ao22, co22, eo22⟩ := Kd.R_slice HO108.out; subst eo22; have p109 : 0 ≤ (1 : Int) := (by omega); have q109 : 1 < (t105.length : Int) := of_decide_eq_true (by assumption); obtain ⟨ad109, e109, hx109_0⟩ := Kd.at_int (Kd.R_reads' HO108.out).2.2 1 p109 q109; cases e109; (try simp only [show (1 : Int).toNat = 1 from rfl, Nat.reduceMul, Nat.reduceEqDiff, Go.Addr.add, ↓reduceIte] at hx109_0); have qi109 : (1 < t105.length) = True := eq_true (by omega); (try rw [show ((1 : Int)).toNat = 1 from rfl] at hx109_0); replace p109 := eq_true p109; replace q109 := eq_true q109))
     go_ret
     exact ⟨by first | rfl | (simp [errW_none, errW_some] <;> rfl) | (simp [*, errW_none, errW_some] <;> rfl), bel_⟩
   ·rw [if_neg c5] at H
    exact absurd H (by simp)
  ·rw [if_neg c4] at H
   have c4b0 := beq_eq_false_iff_ne.mpr c4
   have c4b1 := bne_iff_ne.mpr c4
   obtain rfl := Option.some.inj H
   go_enter Tryz.func21, Tryz.ntmps21
   go_wp2_with (first | ((with_reducible refine gate_callee (f := 28) rfl ?_); refine goesL_ (some 6) rfl rfl Tryz.func28 (by kernel_rfl) rfl #[.int .u64 17] rfl (by (try simp only [List.map_toArray, List.map_cons, List.map_nil]); first | done | rfl | (simp only [List.length_drop, List.length_take]; rfl)) ?_; (with_reducible refine (field_Small.calls k 17 t101 t102 _ A1.out).mono ?_); rintro e w23 ⟨v103, rfl, ho0, hb⟩; refine ⟨_, rfl, ?_⟩; have n0_ := Aside0.mk (Kd.R_lower ho0 (below_size bel_)); have n1_ := Aside0.mk (below_step bel_ hb); clear HB; have HO104 := n0_; have HB := n1_; clear n0_ n1_; (try clear hb); (try clear hb2); (try clear hk); (try clear hi); (try clear ho0); obtain ⟨Ao24, co24, eo24⟩ := Kd.R_slice HO104.out; subst eo24) | ((with_reducible refine gate_callee (f := 25) rfl ?_); refine goesL_ (some 11) rfl rfl Tryz.func25 (by kernel_rfl) rfl #[toPtr (.slice Ao24 t101.length co24), .int .i64 4, .bool false] rfl (by (try simp only [List.map_toArray, List.map_cons, List.map_nil]); first | done | (rw [hT_HO104] <;> rfl) | rfl | (simp only [List.length_drop, List.length_take]; rfl)) ?_; (try rw [← hT_HO104]); (with_reducible refine (twiddle_Table.calls k _ _ t101 4 false t105 t106 _ ?side1 ?side2 A2.out).mono ?_); (case side1 => repeat (first | exact (Kd.R_reads' HO104.out).2.2 | (with_reducible refine Kd.C_alloc ?_ _) | (with_reducible refine Kd.C_drewN ?_ _) | (with_reducible refine Kd.C_drew ?_))); (case side2 => exact (Kd.R_reads' HO104.out).2.1); rintro e w25 ⟨v107, rfl, ho0, hb⟩; refine ⟨_, rfl, ?_⟩; have n0_ := Aside0.mk (Kd.R_below (by (with_reducible repeat (first | apply Kd.R_alloc | apply Kd.R_drewN | apply Kd.R_drew)); exact HO104.out) hb); have n1_ := Aside0.mk (Kd.R_lower ho0 (below_size bel_)); have n2_ := Aside0.mk (below_step bel_ hb); clear HO104; clear HB; have HO104 := n0_; have HO108 := n1_; have HB := n2_; clear n0_ n1_ n2_; (try clear hb); (try clear hb2); (try clear hk); (try clear hi); (try clear ho0); obtain ⟨Ao26, co26, eo26⟩ := Kd.R_slice HO108.out; subst eo26))
   go_ret
   exact ⟨by first | rfl | (simp [errW_none, errW_some] <;> rfl) | (simp [*, errW_none, errW_some] <;> rfl), bel_⟩
 ·rw [if_neg c3] at H
  have c3b0 := beq_eq_false_iff_ne.mpr c3
  have c3b1 := bne_iff_ne.mpr c3
  obtain rfl := Option.some.inj H
  go_enter Tryz.func21, Tryz.ntmps21
  go_wp2_with (first | ((with_reducible refine gate_callee (f := 28) rfl ?_); refine goesL_ (some 6) rfl rfl Tryz.func28 (by kernel_rfl) rfl #[.int .u64 17] rfl (by (try simp only [List.map_toArray, List.map_cons, List.map_nil]); first | done | rfl | (simp only [List.length_drop, List.length_take]; rfl)) ?_; (with_reducible refine (field_Small.calls k 17 t101 t102 _ A1.out).mono ?_); rintro e w27 ⟨v103, rfl, ho0, hb⟩; refine ⟨_, rfl, ?_⟩; have n0_ := Aside0.mk (Kd.R_lower ho0 (below_size bel_)); have n1_ := Aside0.mk (below_step bel_ hb); clear HB; have HO104 := n0_; have HB := n1_; clear n0_ n1_; (try clear hb); (try clear hb2); (try clear hk); (try clear hi); (try clear ho0); obtain ⟨Ao28, co28, eo28⟩ := Kd.R_slice HO104.out; subst eo28) | ((with_reducible refine gate_callee (f := 25) rfl ?_); refine goesL_ (some 11) rfl rfl Tryz.func25 (by kernel_rfl) rfl #[toPtr (.slice Ao28 t101.length co28), .int .i64 4, .bool false] rfl (by (try simp only [List.map_toArray, List.map_cons, List.map_nil]); first | done | (rw [hT_HO104] <;> rfl) | rfl | (simp only [List.length_drop, List.length_take]; rfl)) ?_; (try rw [← hT_HO104]); (with_reducible refine (twiddle_Table.calls k _ _ t101 4 false t105 t106 _ ?side1 ?side2 A2.out).mono ?_); (case side1 => repeat (first | exact (Kd.R_reads' HO104.out).2.2 | (with_reducible refine Kd.C_alloc ?_ _) | (with_reducible refine Kd.C_drewN ?_ _) | (with_reducible refine Kd.C_drew ?_))); (case side2 => exact (Kd.R_reads' HO104.out).2.1); rintro e w29 ⟨v107, rfl, ho0, hb⟩; refine ⟨_, rfl, ?_⟩; have n0_ := Aside0.mk (Kd.R_below (by (with_reducible repeat (first | apply Kd.R_alloc | apply Kd.R_drewN | apply Kd.R_drew)); exact HO104.out) hb); have n1_ := Aside0.mk (Kd.R_lower ho0 (below_size bel_)); have n2_ := Aside0.mk (below_step bel_ hb); clear HO104; clear HB; have HO104 := n0_; have HO108 := n1_; have HB := n2_; clear n0_ n1_ n2_; (try clear hb); (try clear hb2); (try clear hk); (try clear hi); (try clear ho0)))
  go_ret
  exact ⟨by first | rfl | (simp [errW_none, errW_some] <;> rfl) | (simp [*, errW_none, errW_some] <;> rfl), bel_⟩
mutual
noncomputable def epicyclelaw10_rows.l0 : Nat → List (S57) → List (S71) → Int → Int → Option ((List (S57)))
 | 0, _, _, _, _ => none
 | k + 1, x3, x9, x10, x11 => if x11 < x10 then (if 0 ≤ x11 then (if x11 < (x9.length : Int) then (epicyclelaw10_rows.l1 k x3 ([] : List (S84)) x9 x10 x11 ((rd_T71 x9 x11).f2) (((rd_T71 x9 x11).f2).length : Int) 0 ((rd_T71 x9 x11).f0) ((rd_T71 x9 x11).f1) ((rd_T71 x9 x11).f2)) else (none)) else (none)) else (some x3)
noncomputable def epicyclelaw10_rows.l1 : Nat → List (S57) → List (S84) → List (S71) → Int → Int → List (S83) → Int → Int → Int → Int → List (S83) → Option ((List (S57)))
 | 0, _, _, _, _, _, _, _, _, _, _, _ => none
 | k + 1, x3, x6, x9, x10, x11, x16, x17, x18, x114000, x114001, x114002 => if x18 < x17 then (if 0 ≤ x18 then (if x18 < (x16.length : Int) then (if x6.length < 8796093022208 then (epicyclelaw10_rows.l1 k x3 (x6 ++ [(⟨(rd_T83 x16 x18).f0, (rd_T83 x16 x18).f1⟩ : S84)]) x9 x10 x11 x16 x17 (wrap64 (x18 + 1)) x114000 x114001 x114002) else (none)) else (none)) else (none)) else (if x3.length < 3518437208883 then (epicyclelaw10_rows.l0 k (x3 ++ [(⟨x114000, x114001, x6⟩ : S57)]) x9 x10 (wrap64 (x11 + 1))) else (none))
end
noncomputable def epicyclelaw10_rows.f (k : Nat) (l0 : List (S71)) : Option ((List (S57))) := epicyclelaw10_rows.l0 k ([] : List (S57)) l0 (l0.length : Int) 0
set_option maxHeartbeats 8000000 in
set_option maxRecDepth 100000 in
theorem epicyclelaw10_rows.calls (k : Nat) (A0 : Option Addr) (c0 : Nat) (l0 : List (S71)) (r : List (S57)) (w : World) (hr0 : Kd.C k71 w A0 l0.length l0) (hc0 : l0.length ≤ c0) (h : epicyclelaw10_rows.f k l0 = some r) :
  Calls Tryz.prog 45 #[.slice A0 l0.length c0] w fun e w' => ∃ v0_ : Value, e = .returned (v0_) ∧ Kd.S k57 57 w' w.heap.size (fun _ => True) v0_ r ∧ Below w.heap.size w w' := by
 have hu71 := Tryz.underlying71
 have hu83 := Tryz.underlying83
 have hu57 := Tryz.underlying57
 have HR0 := Aside0.mk hr0
 have HC0 := Aside0.mk hc0
 clear hr0 hc0
 have HB := Aside0.mk (Below.refl w.heap.size w)
 have H := h; unfold epicyclelaw10_rows.f at H
 clear h
 have H' := Aside0.mk H
 clear H
 go_enter Tryz.func45, Tryz.ntmps45
 go_wp2
 go_loopg [3, 11] k (fun kq v3 v11 w' => ∃ (x3_1 : List (S57)) (x11_1 : Int), v11 = .int .i64 x11_1 ∧ Aside0 (epicyclelaw10_rows.l0 kq x3_1 l0 (l0.length : Int) x11_1 = some r) ∧ Aside0 (kq ≤ k) ∧ Aside0 (Kd.S k57 57 w' w.heap.size (fun _ => True) v3 x3_1) ∧ Aside0 (Below w.heap.size w w'))
 case atStart => exact ⟨(([] : List (S57))), (0), (by first | rfl | (simp; done) | (simp [*]; done)), H', ⟨Nat.le_refl _⟩, ⟨by first | exact Kd.S_nil _ _ _ _ _ | exact Kd.N_nil _ _ _ _ _ | exact Kd.V_nil _ _ _ _ _ | exact Kd.Q_nil _ _ _ _ _ | exact Kd.R_nil _ _ _ _ _⟩, ⟨bel_⟩⟩
 case round =>
  clear H'
  obtain ⟨x3_1, x11_1, rfl, HA, HK1, HO_3, HB⟩ := hrel
  cases gk with
  | zero => exact absurd HA.out (by simp [epicyclelaw10_rows.l0])
  | succ k1 =>
   have H := HA.out
   clear HA
   simp only [epicyclelaw10_rows.l0] at H
   by_cases c2 : x11_1 < (l0.length : Int)
   ·rw [if_pos c2] at H
    have c2b0 := decide_eq_true c2
    clear c2
    by_cases c3 : 0 ≤ x11_1
    ·rw [if_pos c3] at H
     have c3b0 := decide_eq_true c3
     clear c3
     by_cases c4 : x11_1 < (l0.length : Int)
     ·rw [if_pos c4] at H
      have c4b0 := decide_eq_true c4
      clear c4
      have H' := Aside0.mk H
      clear H
      have p112 : 0 ≤ (x11_1 : Int) := of_decide_eq_true (by assumption)
      have q112 : x11_1 < (l0.length : Int) := of_decide_eq_true (by assumption)
      obtain ⟨ad112, A112_2, c112_2, e112, hx112_0, hx112_1, hx112_2, hl112_2, hi112_2⟩ := at_T71 HR0.out x11_1 p112 q112
      cases e112
      replace hx112_0 := (HB.out.cell (World.block_lt_of_cell? w _ hx112_0)).trans hx112_0
      replace hx112_1 := (HB.out.cell (World.block_lt_of_cell? w _ hx112_1)).trans hx112_1
      replace hx112_2 := (HB.out.cell (World.block_lt_of_cell? w _ hx112_2)).trans hx112_2
      have HR112_2 := Aside0.mk hi112_2
      have HC112_2 := Aside0.mk hl112_2
      clear hi112_2 hl112_2
      replace p112 := eq_true p112
      replace q112 := eq_true q112
      go_wp2_with (first | ((with_reducible refine gate_dst (N := 5) rfl ?_); refine box_event ?hg (N := 5) ?hd (cs := #[.int .u64 0, .int .u64 0, .slice none 0 0]) (t := 71) ?hr ?_; (case hd => rfl); (case hg => rfl); (case hr => first | (go_simp; done) | (go_simp; rfl)); intro gb113 hg w5 hbox hb; have n0_ := Aside0.mk (Kd.S_below (by (with_reducible repeat (first | apply Kd.S_alloc | apply Kd.S_drewN | apply Kd.S_drew)); exact HO_3.out) hb); have n1_ := Aside0.mk (below_step bel_ hb); have n2_ := Aside0.mk (hbox); have n3_ := Aside0.mk ((by rw [hg]; exact (below_size bel_) : w.heap.size ≤ gb113)); have n4_ := Aside0.mk ((by rw [hg]; exact (below_size bel_) : w.heap.size ≤ gb113)); clear HO_3; clear HB; have HO_3 := n0_; have HB := n1_; have BK113 := n2_; have GW113 := n3_; have GE113 := n4_; clear n0_ n1_ n2_ n3_ n4_; clear hb hbox hg; have hcz6_0 : w5.cell? ⟨gb113, 0, none⟩ = some (.int .u64 0) := (blk_cell BK113.out 0).trans rfl; have hcz6_1 : w5.cell? ⟨gb113, 1, none⟩ = some (.int .u64 0) := (blk_cell BK113.out 1).trans rfl; have hcz6_2 : w5.cell? ⟨gb113, 2, none⟩ = some (.slice none 0 0) := (blk_cell BK113.out 2).trans rfl; have hfz6_0 := blk_frozen BK113.out 0; have hfz6_1 := blk_frozen BK113.out 1; have hfz6_2 := blk_frozen BK113.out 2))
      go_loopg [6, 18] k1 (fun kq v6 v18 w' => ∃ (x6_2 : List (S84)) (x18_2 : Int), v18 = .int .i64 x18_2 ∧ Aside0 (epicyclelaw10_rows.l1 kq x3_1 x6_2 l0 (l0.length : Int) x11_1 ((rd_T71 l0 x11_1).f2) (((rd_T71 l0 x11_1).f2).length : Int) x18_2 ((rd_T71 l0 x11_1).f0) ((rd_T71 l0 x11_1).f1) ((rd_T71 l0 x11_1).f2) = some r) ∧ Aside0 (kq ≤ k1) ∧ Aside0 (Kd.S k57 57 w' w.heap.size (fun k_ => some k_ ≠ (v6 : Value).ownBlock) u3 x3_1) ∧ Aside0 (Kd.R k84 84 w' w.heap.size (fun _ => True) v6 x6_2) ∧ Aside0 (w'.heap[gb113]? = some (.cells #[.int .u64 ((rd_T71 l0 x11_1).f0), .int .u64 ((rd_T71 l0 x11_1).f1), (.slice A112_2 ((rd_T71 l0 x11_1).f2).length c112_2)] 71 (0, 0))) ∧ Aside0 (Below w.heap.size w w'))
      case atStart => exact ⟨(([] : List (S84))), (0), (by first | rfl | (simp; done) | (simp [*]; done)), H', ⟨Nat.le_refl _⟩, ⟨by (with_reducible repeat (first | apply Kd.S_alloc | apply Kd.S_drewN | apply Kd.S_drew)); exact Kd.S_mono (Kd.S_far (p := ⟨gb113, 2, none⟩) (Kd.S_far (p := ⟨gb113, 1, none⟩) (Kd.S_far (p := ⟨gb113, 0, none⟩) (Kd.S_types HO_3.out BK113.out (by decide)) (fun _ hk => hk.2) (.int .u64 ((rd_T71 l0 x11_1).f0))) (fun _ hk => hk.2) (.int .u64 ((rd_T71 l0 x11_1).f1))) (fun _ hk => hk.2) (.slice A112_2 ((rd_T71 l0 x11_1).f2).length c112_2)) (fun _ hk => (by simp [Value.ownBlock]))⟩, ⟨by first | exact Kd.R_nil _ _ _ _ _ | exact Kd.N_nil _ _ _ _ _ | exact Kd.V_nil _ _ _ _ _ | exact Kd.Q_nil _ _ _ _ _ | exact Kd.S_nil _ _ _ _ _⟩, ⟨by (with_reducible repeat (first | refine blk_drewN ?_ _ | refine blk_drew ?_ | refine blk_alloc ?_ _)); refine blk_put (cs := #[.int .u64 ((rd_T71 l0 x11_1).f0), .int .u64 ((rd_T71 l0 x11_1).f1), .slice none 0 0]) ?_ 2 _ rfl; (with_reducible repeat (first | refine blk_drewN ?_ _ | refine blk_drew ?_ | refine blk_alloc ?_ _)); refine blk_put (cs := #[.int .u64 ((rd_T71 l0 x11_1).f0), .int .u64 0, .slice none 0 0]) ?_ 1 _ rfl; (with_reducible repeat (first | refine blk_drewN ?_ _ | refine blk_drew ?_ | refine blk_alloc ?_ _)); refine blk_put (cs := #[.int .u64 0, .int .u64 0, .slice none 0 0]) ?_ 0 _ rfl; (with_reducible repeat (first | refine blk_drewN ?_ _ | refine blk_drew ?_ | refine blk_alloc ?_ _)); exact BK113.out⟩, ⟨bel_⟩⟩
      case round =>
       clear H'
       try clear c1
       try clear p1
       try clear q1
       try clear hx1
       try clear c2
       try clear c2b0
       try clear p2
       try clear c3
       try clear c3b0
       try clear c4
       try clear c4b0
       try clear hcz6_0
       try clear hcz6_1
       try clear hcz6_2
       try clear hfz6_0
       try clear hfz6_1
       try clear hfz6_2
       try clear hx112_0
       try clear hx112_1
       try clear hx112_2
       try clear p112
       try clear q112
       obtain ⟨x6_2, x18_2, rfl, HA, HK2, HO_3, HO_6, BK113, HB⟩ := hrel
       cases gk with
       | zero => exact absurd HA.out (by simp [epicyclelaw10_rows.l1])
       | succ k2 =>
        have H := HA.out
        clear HA
        simp only [epicyclelaw10_rows.l1] at H
        by_cases c7 : x18_2 < (((rd_T71 l0 x11_1).f2).length : Int)
        ·rw [if_pos c7] at H
         have c7b0 := decide_eq_true c7
         clear c7
         by_cases c8 : 0 ≤ x18_2
         ·rw [if_pos c8] at H
          have c8b0 := decide_eq_true c8
          clear c8
          by_cases c9 : x18_2 < (((rd_T71 l0 x11_1).f2).length : Int)
          ·rw [if_pos c9] at H
           have c9b0 := decide_eq_true c9
           clear c9
           by_cases c10 : x6_2.length < 8796093022208
           ·rw [if_pos c10] at H
            have LMc10 := Aside0.mk c10
            clear c10
            obtain ⟨y116, hy116⟩ : ∃ y_ : List (S84), y_ = (x6_2 ++ [(⟨(rd_T83 ((rd_T71 l0 x11_1).f2) x18_2).f0, (rd_T83 ((rd_T71 l0 x11_1).f2) x18_2).f1⟩ : S84)]) := ⟨_, rfl⟩
            replace H : (epicyclelaw10_rows.l1 k2 x3_1 y116 l0 (l0.length : Int) x11_1 ((rd_T71 l0 x11_1).f2) (((rd_T71 l0 x11_1).f2).length : Int) (wrap64 (x18_2 + 1)) ((rd_T71 l0 x11_1).f0) ((rd_T71 l0 x11_1).f1) ((rd_T71 l0 x11_1).f2)) = some r := by first | (rw [hy116]; with_reducible exact H) | (have H2_ := (Option.bind_some _ _).symm.trans H; rw [hy116]; with_reducible exact H2_) | (have H2_ := (Option.bind_some _ _).symm.trans H; with_reducible exact H2_) | with_reducible exact H | (rw [hy116]; exact H) | exact H
            have Ny116 := Aside0.mk hy116
            clear hy116
            have H' := Aside0.mk H
            clear H
            have p114 : 0 ≤ (x18_2 : Int) := of_decide_eq_true (by assumption)
            have q114 : x18_2 < (((rd_T71 l0 x11_1).f2).length : Int) := of_decide_eq_true (by assumption)
            obtain ⟨ad114, e114, hx114_0, hx114_1⟩ := at_T83 HR112_2.out x18_2 p114 q114
            cases e114
            replace hx114_0 := (HB.out.cell (World.block_lt_of_cell? w _ hx114_0)).trans hx114_0
            replace hx114_1 := (HB.out.cell (World.block_lt_of_cell? w _ hx114_1)).trans hx114_1
            replace p114 := eq_true p114
            replace q114 := eq_true q114
            go_wp2_with (first | ((with_reducible refine gate_dst (N := 8) rfl ?_); refine box_event ?hg (N := 8) ?hd (cs := #[.int .u64 0, .int .i64 0]) (t := 83) ?hr ?_; (case hd => rfl); (case hg => rfl); (case hr => first | (go_simp; done) | (go_simp; rfl)); intro gb115 hg w11 hbox hb; have n0_ := Aside0.mk (Kd.S_below (by (with_reducible repeat (first | apply Kd.S_alloc | apply Kd.S_drewN | apply Kd.S_drew)); exact HO_3.out) hb); have n1_ := Aside0.mk (Kd.R_below (by (with_reducible repeat (first | apply Kd.R_alloc | apply Kd.R_drewN | apply Kd.R_drew)); exact HO_6.out) hb); have n2_ := Aside0.mk (blk_below (g := gb113) (o := .cells #[.int .u64 ((rd_T71 l0 x11_1).f0), .int .u64 ((rd_T71 l0 x11_1).f1), .slice (some ad114) ((rd_T71 l0 x11_1).f2).length c112_2] 71 (0, 0)) (by (with_reducible repeat (first | refine blk_drewN ?_ _ | refine blk_drew ?_ | refine blk_alloc ?_ _)); exact BK113.out) hb); have n3_ := Aside0.mk (below_step bel_ hb); have n4_ := Aside0.mk (hbox); have n5_ := Aside0.mk ((by rw [hg]; exact (below_size bel_) : w.heap.size ≤ gb115)); have n6_ := Aside0.mk ((by rw [hg]; exact (below_size bel_) : w.heap.size ≤ gb115)); have n7_ := Aside0.mk ((by rw [hg]; exact Nat.ne_of_lt (blk_lt (g := gb113) (o := .cells #[.int .u64 ((rd_T71 l0 x11_1).f0), .int .u64 ((rd_T71 l0 x11_1).f1), .slice (some ad114) ((rd_T71 l0 x11_1).f2).length c112_2] 71 (0, 0)) (by (with_reducible repeat (first | refine blk_drewN ?_ _ | refine blk_drew ?_ | refine blk_alloc ?_ _)); exact BK113.out)) : gb113 ≠ gb115)); have n8_ := Aside0.mk ((by rw [hg]; exact Nat.ne_of_gt (blk_lt (g := gb113) (o := .cells #[.int .u64 ((rd_T71 l0 x11_1).f0), .int .u64 ((rd_T71 l0 x11_1).f1), .slice (some ad114) ((rd_T71 l0 x11_1).f2).length c112_2] 71 (0, 0)) (by (with_reducible repeat (first | refine blk_drewN ?_ _ | refine blk_drew ?_ | refine blk_alloc ?_ _)); exact BK113.out)) : gb115 ≠ gb113)); clear HO_3; clear HO_6; clear BK113; clear HB; have HO_3 := n0_; have HO_6 := n1_; have BK113 := n2_; have HB := n3_; have BK115 := n4_; have GW115 := n5_; have GE115 := n6_; have NB113_115 := n7_; have NB115_113 := n8_; clear n0_ n1_ n2_ n3_ n4_ n5_ n6_ n7_ n8_; clear hb hbox hg; have hnb12 := NB115_113.out; have hnc12 := NB113_115.out; have hcz13_0 : w11.cell? ⟨gb115, 0, none⟩ = some (.int .u64 0) := (blk_cell BK115.out 0).trans rfl; have hcz13_1 : w11.cell? ⟨gb115, 1, none⟩ = some (.int .i64 0) := (blk_cell BK115.out 1).trans rfl; have hfz13_0 := blk_frozen BK115.out 0; have hfz13_1 := blk_frozen BK115.out 1) | ((with_reducible refine gate_builtin (b := .append) (xs := #[.tmp 22, .tmp 24]) rfl ?_); at_builtin; refine Kd.R_append k84 (w0 := w) w.heap.size rfl (.tmp 22) (.tmp 24) 55 84 (.agg #[(.int .u64 0), (.int .i64 0)]) 16 rfl Tryz.underlying55 info84 rfl (by decide) (by omega) u6 x6_2 (⟨(rd_T83 ((rd_T71 l0 x11_1).f2) x18_2).f0, (rd_T83 ((rd_T71 l0 x11_1).f2) x18_2).f1⟩ : S84) [.int .u64 ((rd_T83 ((rd_T71 l0 x11_1).f2) x18_2).f0), .int .i64 ((rd_T83 ((rd_T71 l0 x11_1).f2) x18_2).f1)] (fun _ => True) (fun _ => False) rfl (by first | (go_simp; done) | (go_simp; rfl)) ?aP (fun _ hk => hk.elim) ?aF ?aO ?aB ?aS ?aL ?_; (case aP => exact k84_mkM _ _ _ (⟨(rd_T83 ((rd_T71 l0 x11_1).f2) x18_2).f0, (rd_T83 ((rd_T71 l0 x11_1).f2) x18_2).f1⟩ : S84)); (case aB => exact bel_); (case aF => exact (fun _ _ => trivial)); (case aO => exact (by (with_reducible repeat (first | apply Kd.R_alloc | apply Kd.R_drewN | apply Kd.R_drew)); exact Kd.R_mono (Kd.R_far (p := ⟨gb115, 1, none⟩) (Kd.R_far (p := ⟨gb115, 0, none⟩) (Kd.R_types HO_6.out BK115.out (by decide)) (fun _ hk => hk.2) (.int .u64 ((rd_T83 ((rd_T71 l0 x11_1).f2) x18_2).f0))) (fun _ hk => hk.2) (.int .i64 ((rd_T83 ((rd_T71 l0 x11_1).f2) x18_2).f1))) (fun _ hk => trivial))); (case aS => exact (below_size bel_)); (case aL => have := LMc10.out; omega); intro v117 w14 ho hb hg hat; rw [← Ny116.out] at ho; have n0_ := Aside0.mk (Kd.S_after (ok := (fun _ => True)) (by (with_reducible repeat (first | apply Kd.S_alloc | apply Kd.S_drewN | apply Kd.S_drew)); exact Kd.S_mono (Kd.S_far (p := ⟨gb115, 1, none⟩) (Kd.S_far (p := ⟨gb115, 0, none⟩) (Kd.S_types HO_3.out BK115.out (by decide)) (fun _ hk => hk.2) (.int .u64 ((rd_T83 ((rd_T71 l0 x11_1).f2) x18_2).f0))) (fun _ hk => hk.2) (.int .i64 ((rd_T83 ((rd_T71 l0 x11_1).f2) x18_2).f1))) (fun _ hk => ⟨trivial, hk.1⟩)) hg hat); have n1_ := Aside0.mk (blk_grown (g := gb113) (o := .cells #[.int .u64 ((rd_T71 l0 x11_1).f0), .int .u64 ((rd_T71 l0 x11_1).f1), .slice (some ad114) ((rd_T71 l0 x11_1).f2).length c112_2] 71 (0, 0)) (by (with_reducible repeat (first | refine blk_drewN ?_ _ | refine blk_drew ?_ | refine blk_alloc ?_ _)); refine blk_far ?_ NB113_115.out _; (with_reducible repeat (first | refine blk_drewN ?_ _ | refine blk_drew ?_ | refine blk_alloc ?_ _)); refine blk_far ?_ NB113_115.out _; (with_reducible repeat (first | refine blk_drewN ?_ _ | refine blk_drew ?_ | refine blk_alloc ?_ _)); exact BK113.out) hg (Kd.R_ne HO_6.out BK113.out (by decide))); have n2_ := Aside0.mk (blk_grown (g := gb115) (o := .cells #[.int .u64 ((rd_T83 ((rd_T71 l0 x11_1).f2) x18_2).f0), .int .i64 ((rd_T83 ((rd_T71 l0 x11_1).f2) x18_2).f1)] 83 (0, 0)) (by (with_reducible repeat (first | refine blk_drewN ?_ _ | refine blk_drew ?_ | refine blk_alloc ?_ _)); refine blk_put (cs := #[.int .u64 ((rd_T83 ((rd_T71 l0 x11_1).f2) x18_2).f0), .int .i64 0]) ?_ 1 _ rfl; (with_reducible repeat (first | refine blk_drewN ?_ _ | refine blk_drew ?_ | refine blk_alloc ?_ _)); refine blk_put (cs := #[.int .u64 0, .int .i64 0]) ?_ 0 _ rfl; (with_reducible repeat (first | refine blk_drewN ?_ _ | refine blk_drew ?_ | refine blk_alloc ?_ _)); exact BK115.out) hg (Kd.R_ne HO_6.out BK115.out (by decide))); have n3_ := Aside0.mk (hb); have n4_ := Aside0.mk (ho); clear HO_3; clear BK113; clear BK115; clear HB; clear HO_6; have HO_3 := n0_; have BK113 := n1_; have BK115 := n2_; have HB := n3_; have HO118 := n4_; clear n0_ n1_ n2_ n3_ n4_; clear ho hb hg hat))
            go_roundg k2
            case measure => have := HK1.out; have := HK2.out; omega
            case rel => exact ⟨(y116), (wrap64 (x18_2 + 1)), (by first | rfl | (simp; done) | (simp [*]; done)), H', ⟨by have := HK1.out; have := HK2.out; omega⟩, ⟨by (with_reducible repeat (first | apply Kd.S_alloc | apply Kd.S_drewN | apply Kd.S_drew)); exact Kd.S_mono HO_3.out (fun _ hk => hk.2)⟩, ⟨by (with_reducible repeat (first | apply Kd.R_alloc | apply Kd.R_drewN | apply Kd.R_drew)); exact HO118.out⟩, ⟨by (with_reducible repeat (first | refine blk_drewN ?_ _ | refine blk_drew ?_ | refine blk_alloc ?_ _)); exact BK113.out⟩, ⟨bel_⟩⟩
           ·rw [if_neg c10] at H
            exact absurd H (by simp)
          ·rw [if_neg c9] at H
           exact absurd H (by simp)
         ·rw [if_neg c8] at H
          exact absurd H (by simp)
        ·rw [if_neg c7] at H
         have c7b0 := decide_eq_false c7
         clear c7
         by_cases c15 : x3_1.length < 3518437208883
         ·rw [if_pos c15] at H
          have LMc15 := Aside0.mk c15
          clear c15
          obtain ⟨y119, hy119⟩ : ∃ y_ : List (S57), y_ = (x3_1 ++ [(⟨((rd_T71 l0 x11_1).f0), ((rd_T71 l0 x11_1).f1), x6_2⟩ : S57)]) := ⟨_, rfl⟩
          replace H : (epicyclelaw10_rows.l0 k2 y119 l0 (l0.length : Int) (wrap64 (x11_1 + 1))) = some r := by first | (rw [hy119]; with_reducible exact H) | (have H2_ := (Option.bind_some _ _).symm.trans H; rw [hy119]; with_reducible exact H2_) | (have H2_ := (Option.bind_some _ _).symm.trans H; with_reducible exact H2_) | with_reducible exact H | (rw [hy119]; exact H) | exact H
          have Ny119 := Aside0.mk hy119
          clear hy119
          have H' := Aside0.mk H
          clear H
          have hcz16_0 : wr.cell? ⟨gb113, 0, none⟩ = some (.int .u64 ((rd_T71 l0 x11_1).f0)) := (blk_cell BK113.out 0).trans rfl
          have hcz16_1 : wr.cell? ⟨gb113, 1, none⟩ = some (.int .u64 ((rd_T71 l0 x11_1).f1)) := (blk_cell BK113.out 1).trans rfl
          have hcz16_2 : wr.cell? ⟨gb113, 2, none⟩ = some (.slice A112_2 ((rd_T71 l0 x11_1).f2).length c112_2) := (blk_cell BK113.out 2).trans rfl
          have hfz16_0 := blk_frozen BK113.out 0
          have hfz16_1 := blk_frozen BK113.out 1
          have hfz16_2 := blk_frozen BK113.out 2
          obtain ⟨Ao17, co17, eo17⟩ := Kd.R_slice HO_6.out
          subst eo17
          go_wp2_with (first | ((with_reducible refine gate_builtin (b := .append) (xs := #[.tmp 27, .tmp 34]) rfl ?_); at_builtin; refine Kd.S_append k57 (w0 := w) w.heap.size rfl (.tmp 27) (.tmp 34) 52 57 (.agg #[(.int .u64 0), (.int .u64 0), (.slice none 0 0)]) 40 rfl Tryz.underlying52 info57 rfl (by decide) (by omega) u3 x3_1 (⟨((rd_T71 l0 x11_1).f0), ((rd_T71 l0 x11_1).f1), x6_2⟩ : S57) [.int .u64 ((rd_T71 l0 x11_1).f0), .int .u64 ((rd_T71 l0 x11_1).f1), .slice Ao17 x6_2.length co17] (fun _ => True) (fun k_ => some k_ = (.slice Ao17 x6_2.length co17 : Value).ownBlock) rfl rfl ?aP (fun k_ hk_ => ((Kd.R_mono (ok' := fun k_ => ((fun _ => True)) k_ ∧ some k_ ≠ (u3 : Value).ownBlock) (Kd.R_apart' (HO_6.out) (Kd.S_typed HO_3.out) (by decide)) (fun k_ hk => ⟨trivial, hk.2⟩))).1 k_ hk_.symm) ?aF ?aO ?aB ?aS ?aL ?_; (case aP => exact k57_mkM _ _ _ (⟨((rd_T71 l0 x11_1).f0), ((rd_T71 l0 x11_1).f1), x6_2⟩ : S57) (Kd.R_mono (Kd.R_tight rfl (Kd.R_mono (ok' := fun k_ => ((fun _ => True)) k_ ∧ some k_ ≠ (u3 : Value).ownBlock) (Kd.R_apart' (HO_6.out) (Kd.S_typed HO_3.out) (by decide)) (fun k_ hk => ⟨trivial, hk.2⟩))) (fun _ h_ => h_))); (case aB => exact bel_); (case aF => exact (fun _ _ => trivial)); (case aO => exact (by (with_reducible repeat (first | apply Kd.S_alloc | apply Kd.S_drewN | apply Kd.S_drew)); exact Kd.S_mono HO_3.out (fun k_ hk => ⟨trivial, fun e_ => hk e_⟩))); (case aS => exact (below_size bel_)); (case aL => have := LMc15.out; omega); intro v120 w18 ho hb hg hat; rw [← Ny119.out] at ho; have n0_ := Aside0.mk (blk_grown (g := gb113) (o := .cells #[.int .u64 ((rd_T71 l0 x11_1).f0), .int .u64 ((rd_T71 l0 x11_1).f1), .slice A112_2 ((rd_T71 l0 x11_1).f2).length c112_2] 71 (0, 0)) (by (with_reducible repeat (first | refine blk_drewN ?_ _ | refine blk_drew ?_ | refine blk_alloc ?_ _)); exact BK113.out) hg (Kd.S_ne HO_3.out BK113.out (by decide))); have n1_ := Aside0.mk (hb); have n2_ := Aside0.mk (ho); clear BK113; clear HB; clear HO_3; clear HO_6; have BK113 := n0_; have HB := n1_; have HO121 := n2_; clear n0_ n1_ n2_; clear ho hb hg hat))
          go_roundg k2
          case measure => have := HK1.out; have := HK2.out; omega
          case rel => exact ⟨(y119), (wrap64 (x11_1 + 1)), (by first | rfl | (simp; done) | (simp [*]; done)), H', ⟨by have := HK1.out; have := HK2.out; omega⟩, ⟨by (with_reducible repeat (first | apply Kd.S_alloc | apply Kd.S_drewN | apply Kd.S_drew)); exact HO121.out⟩, ⟨bel_⟩⟩
         ·rw [if_neg c15] at H
          exact absurd H (by simp)
     ·rw [if_neg c4] at H
      exact absurd H (by simp)
    ·rw [if_neg c3] at H
     exact absurd H (by simp)
   ·rw [if_neg c2] at H
    have c2b0 := decide_eq_false c2
    clear c2
    obtain rfl := Option.some.inj H
    go_wp2
    go_ret
    exact ⟨_, by first | rfl | (simp [errW_none, errW_some] <;> rfl) | (simp [*, errW_none, errW_some] <;> rfl), by (with_reducible repeat (first | apply Kd.S_alloc | apply Kd.S_drewN | apply Kd.S_drew)); exact HO_3.out, bel_⟩
noncomputable def epicyclelaw10_made.f (k : Nat) (a0_0 : Int) (a0_1 : Int) (a0_2 : Int) (l0_3 : List (S71)) : Option ((List (Fld)) × Int × Int) := (epicycleref06_Of.f k a0_0 a0_1 a0_2 l0_3).bind fun bt123 => (if a0_0 = 0 then ((field_Small.f k a0_2).bind fun bt126 => (some (bt126.1, bt123.1, bt123.2.1))) else (if a0_0 = 1 then ((field_Known.f k a0_1).bind fun bt130 => (some (bt130.1, bt123.1, bt123.2.1))) else (if (l0_3.length : Int) ≤ 40 then ((epicyclelaw10_rows.f k l0_3).bind fun t134 => ((field_New.f k t134 a0_2).bind fun bt137 => (some (bt137.1, bt123.1, bt123.2.1)))) else (some (([] : List (Fld)), bt123.1, bt123.2.1)))))
def epicyclelaw10_made.T5 : Bool × List (List Nat × List Nat) := (true, [([], []), ([0], [0]), ([1], [1]), ([], []), ([3], [3]), ([2, 4, 2], [2, 4]), ([5], [5]), ([6], [6]), ([6], [6]), ([7, 5, 0, 1, 2, 3, 4, 5, 6, 7], [7])])
def epicyclelaw10_made.B5 : List Nat := [0, 1, 3, 0, 8, 31, 63, 127, 127, 255]
theorem epicyclelaw10_made.tab5 : rtab .any (opsOf Tryz.f22 5) = epicyclelaw10_made.T5 := by kernel_rfl
theorem epicyclelaw10_made.bits5 : waitsOk epicyclelaw10_made.T5.2 epicyclelaw10_made.B5 = true := by kernel_rfl
set_option maxHeartbeats 8000000 in
set_option maxRecDepth 100000 in
theorem epicyclelaw10_made.calls (k : Nat) (a0_0 : Int) (a0_1 : Int) (a0_2 : Int) (A0_3 : Option Addr) (c0_3 : Nat) (l0_3 : List (S71)) (r1 : List (Fld)) (r2 : Int) (r3 : Int) (w : World) (hr0_3 : Kd.C k71 w A0_3 l0_3.length l0_3) (hc0_3 : l0_3.length ≤ c0_3) (h : epicyclelaw10_made.f k a0_0 a0_1 a0_2 l0_3 = some (r1, r2, r3)) :
  Calls Tryz.prog 22 #[.agg #[.int .i64 a0_0, .int .i64 a0_1, .int .u64 a0_2, .slice A0_3 l0_3.length c0_3]] w fun e w' => ∃ v0_ : Value, e = .returned (.tuple #[toPtr v0_, .int .u64 r2, .int .u64 r3]) ∧ Kd.R kFld 59 w' w.heap.size (fun _ => True) v0_ r1 ∧ Below w.heap.size w w' := by
 have hu25 := Tryz.underlying25
 have HR0_3 := Aside0.mk hr0_3
 have HC0_3 := Aside0.mk hc0_3
 clear hr0_3 hc0_3
 have HB := Aside0.mk (Below.refl w.heap.size w)
 have H := h; unfold epicyclelaw10_made.f at H
 clear h
 replace H := Option.bind_eq_some_iff.mp H
 obtain ⟨⟨t123, t124, t125⟩, A20, H⟩ := H
 (try dsimp only at H)
 have A2 := Aside0.mk A20
 clear A20
 by_cases c3 : a0_0 = 0
 ·rw [if_pos c3] at H
  have c3b0 := beq_iff_eq.mpr c3
  have c3b1 := bne_eq_false_iff_eq.mpr c3
  clear c3
  replace H := Option.bind_eq_some_iff.mp H
  obtain ⟨⟨t126, t127⟩, A40, H⟩ := H
  (try dsimp only at H)
  have A4 := Aside0.mk A40
  clear A40
  simp only [Option.some.injEq, Prod.mk.injEq] at H
  obtain ⟨rfl, rfl, rfl⟩ := H
  go_enter Tryz.func22, Tryz.ntmps22
  go_wp2_with (first | ((with_reducible refine gate_dst (N := 1) rfl ?_); refine box_event ?hg (N := 1) ?hd (cs := #[.int .i64 a0_0, .int .i64 a0_1, .int .u64 a0_2, .slice A0_3 l0_3.length c0_3]) (t := 25) ?hr ?_; (case hd => rfl); (case hg => rfl); (case hr => first | (go_simp; done) | (go_simp; rfl)); intro gb122 hg w5 hbox hb; have n0_ := Aside0.mk (below_step bel_ hb); have n1_ := Aside0.mk (hbox); have n2_ := Aside0.mk ((by rw [hg]; exact (below_size bel_) : w.heap.size ≤ gb122)); have n3_ := Aside0.mk ((by rw [hg]; exact (below_size bel_) : w.heap.size ≤ gb122)); clear HB; have HB := n0_; have BK122 := n1_; have GW122 := n2_; have GE122 := n3_; clear n0_ n1_ n2_ n3_; clear hb hbox hg; have hcz6_0 : w5.cell? ⟨gb122, 0, none⟩ = some (.int .i64 a0_0) := (blk_cell BK122.out 0).trans rfl; have hcz6_1 : w5.cell? ⟨gb122, 1, none⟩ = some (.int .i64 a0_1) := (blk_cell BK122.out 1).trans rfl; have hcz6_2 : w5.cell? ⟨gb122, 2, none⟩ = some (.int .u64 a0_2) := (blk_cell BK122.out 2).trans rfl; have hcz6_3 : w5.cell? ⟨gb122, 3, none⟩ = some (.slice A0_3 l0_3.length c0_3) := (blk_cell BK122.out 3).trans rfl; have hfz6_0 := blk_frozen BK122.out 0; have hfz6_1 := blk_frozen BK122.out 1; have hfz6_2 := blk_frozen BK122.out 2; have hfz6_3 := blk_frozen BK122.out 3) | ((with_reducible refine gate_callee (f := 31) rfl ?_); refine goesL_ (some 11) rfl rfl Tryz.func31 (by kernel_rfl) rfl #[.agg #[.int .i64 a0_0, .int .i64 a0_1, .int .u64 a0_2, .slice A0_3 l0_3.length c0_3]] rfl (by (try simp only [List.map_toArray, List.map_cons, List.map_nil]); first | done | rfl | (simp only [List.length_drop, List.length_take]; rfl)) ?_; (with_reducible refine (epicycleref06_Of.calls k a0_0 a0_1 a0_2 _ _ l0_3 t123 t124 t125 _ ?side1 ?side2 A2.out).mono ?_); (case side1 => repeat (first | exact (Kd.C_below HR0_3.out HB.out) | (with_reducible refine Kd.C_alloc ?_ _) | (with_reducible refine Kd.C_drewN ?_ _) | (with_reducible refine Kd.C_drew ?_))); (case side2 => exact HC0_3.out); rintro e w7 ⟨rfl, hb⟩; refine ⟨_, rfl, ?_⟩; have n0_ := Aside0.mk (blk_below (g := gb122) (o := .cells #[.int .i64 a0_0, .int .i64 a0_1, .int .u64 a0_2, .slice A0_3 l0_3.length c0_3] 25 (0, 0)) (by (with_reducible repeat (first | refine blk_drewN ?_ _ | refine blk_drew ?_ | refine blk_alloc ?_ _)); exact BK122.out) hb); have n1_ := Aside0.mk (below_step bel_ hb); clear BK122; clear HB; have BK122 := n0_; have HB := n1_; clear n0_ n1_; (try clear hb); (try clear hb2); (try clear hk); (try clear hi); have hcz8_0 : w7.cell? ⟨gb122, 0, none⟩ = some (.int .i64 a0_0) := (blk_cell BK122.out 0).trans rfl; have hcz8_1 : w7.cell? ⟨gb122, 1, none⟩ = some (.int .i64 a0_1) := (blk_cell BK122.out 1).trans rfl; have hcz8_2 : w7.cell? ⟨gb122, 2, none⟩ = some (.int .u64 a0_2) := (blk_cell BK122.out 2).trans rfl; have hcz8_3 : w7.cell? ⟨gb122, 3, none⟩ = some (.slice A0_3 l0_3.length c0_3) := (blk_cell BK122.out 3).trans rfl; have hfz8_0 := blk_frozen BK122.out 0; have hfz8_1 := blk_frozen BK122.out 1; have hfz8_2 := blk_frozen BK122.out 2; have hfz8_3 := blk_frozen BK122.out 3) | ((with_reducible refine gate_callee (f := 28) rfl ?_); refine goesL_ (some 35) rfl rfl Tryz.func28 (by kernel_rfl) rfl #[.int .u64 a0_2] rfl (by (try simp only [List.map_toArray, List.map_cons, List.map_nil]); first | done | rfl | (simp only [List.length_drop, List.length_take]; rfl)) ?_; (with_reducible refine (field_Small.calls k a0_2 t126 t127 _ A4.out).mono ?_); rintro e w9 ⟨v128, rfl, ho0, hb⟩; refine ⟨_, rfl, ?_⟩; have n0_ := Aside0.mk (Kd.R_lower ho0 (below_size bel_)); have n1_ := Aside0.mk (blk_below (g := gb122) (o := .cells #[.int .i64 a0_0, .int .i64 a0_1, .int .u64 a0_2, .slice A0_3 l0_3.length c0_3] 25 (0, 0)) (by (with_reducible repeat (first | refine blk_drewN ?_ _ | refine blk_drew ?_ | refine blk_alloc ?_ _)); exact BK122.out) hb); have n2_ := Aside0.mk (below_step bel_ hb); clear BK122; clear HB; have HO129 := n0_; have BK122 := n1_; have HB := n2_; clear n0_ n1_ n2_; (try clear hb); (try clear hb2); (try clear hk); (try clear hi); (try clear ho0)))
  go_ret3
  exact ⟨_, by first | rfl | (simp [errW_none, errW_some] <;> rfl) | (simp [*, errW_none, errW_some] <;> rfl), by (with_reducible repeat (first | apply Kd.R_alloc | apply Kd.R_drewN | apply Kd.R_drew)); exact HO129.out, bel_⟩
 ·rw [if_neg c3] at H
  have c3b0 := beq_eq_false_iff_ne.mpr c3
  have c3b1 := bne_iff_ne.mpr c3
  by_cases c10 : a0_0 = 1
  ·rw [if_pos c10] at H
   have c10b0 := beq_iff_eq.mpr c10
   have c10b1 := bne_eq_false_iff_eq.mpr c10
   clear c10
   replace H := Option.bind_eq_some_iff.mp H
   obtain ⟨⟨t130, t131⟩, A110, H⟩ := H
   (try dsimp only at H)
   have A11 := Aside0.mk A110
   clear A110
   simp only [Option.some.injEq, Prod.mk.injEq] at H
   obtain ⟨rfl, rfl, rfl⟩ := H
   go_enter Tryz.func22, Tryz.ntmps22
   go_wp2_with (first | ((with_reducible refine gate_dst (N := 1) rfl ?_); refine box_event ?hg (N := 1) ?hd (cs := #[.int .i64 a0_0, .int .i64 a0_1, .int .u64 a0_2, .slice A0_3 l0_3.length c0_3]) (t := 25) ?hr ?_; (case hd => rfl); (case hg => rfl); (case hr => first | (go_simp; done) | (go_simp; rfl)); intro gb122 hg w12 hbox hb; have n0_ := Aside0.mk (below_step bel_ hb); have n1_ := Aside0.mk (hbox); have n2_ := Aside0.mk ((by rw [hg]; exact (below_size bel_) : w.heap.size ≤ gb122)); have n3_ := Aside0.mk ((by rw [hg]; exact (below_size bel_) : w.heap.size ≤ gb122)); clear HB; have HB := n0_; have BK122 := n1_; have GW122 := n2_; have GE122 := n3_; clear n0_ n1_ n2_ n3_; clear hb hbox hg; have hcz13_0 : w12.cell? ⟨gb122, 0, none⟩ = some (.int .i64 a0_0) := (blk_cell BK122.out 0).trans rfl; have hcz13_1 : w12.cell? ⟨gb122, 1, none⟩ = some (.int .i64 a0_1) := (blk_cell BK122.out 1).trans rfl; have hcz13_2 : w12.cell? ⟨gb122, 2, none⟩ = some (.int .u64 a0_2) := (blk_cell BK122.out 2).trans rfl; have hcz13_3 : w12.cell? ⟨gb122, 3, none⟩ = some (.slice A0_3 l0_3.length c0_3) := (blk_cell BK122.out 3).trans rfl; have hfz13_0 := blk_frozen BK122.out 0; have hfz13_1 := blk_frozen BK122.out 1; have hfz13_2 := blk_frozen BK122.out 2; have hfz13_3 := blk_frozen BK122.out 3) | ((with_reducible refine gate_callee (f := 31) rfl ?_); refine goesL_ (some 11) rfl rfl Tryz.func31 (by kernel_rfl) rfl #[.agg #[.int .i64 a0_0, .int .i64 a0_1, .int .u64 a0_2, .slice A0_3 l0_3.length c0_3]] rfl (by (try simp only [List.map_toArray, List.map_cons, List.map_nil]); first | done | rfl | (simp only [List.length_drop, List.length_take]; rfl)) ?_; (with_reducible refine (epicycleref06_Of.calls k a0_0 a0_1 a0_2 _ _ l0_3 t123 t124 t125 _ ?side1 ?side2 A2.out).mono ?_); (case side1 => repeat (first | exact (Kd.C_below HR0_3.out HB.out) | (with_reducible refine Kd.C_alloc ?_ _) | (with_reducible refine Kd.C_drewN ?_ _) | (with_reducible refine Kd.C_drew ?_))); (case side2 => exact HC0_3.out); rintro e w14 ⟨rfl, hb⟩; refine ⟨_, rfl, ?_⟩; have n0_ := Aside0.mk (blk_below (g := gb122) (o := .cells #[.int .i64 a0_0, .int .i64 a0_1, .int .u64 a0_2, .slice A0_3 l0_3.length c0_3] 25 (0, 0)) (by (with_reducible repeat (first | refine blk_drewN ?_ _ | refine blk_drew ?_ | refine blk_alloc ?_ _)); exact BK122.out) hb); have n1_ := Aside0.mk (below_step bel_ hb); clear BK122; clear HB; have BK122 := n0_; have HB := n1_; clear n0_ n1_; (try clear hb); (try clear hb2); (try clear hk); (try clear hi); have hcz15_0 : w14.cell? ⟨gb122, 0, none⟩ = some (.int .i64 a0_0) := (blk_cell BK122.out 0).trans rfl; have hcz15_1 : w14.cell? ⟨gb122, 1, none⟩ = some (.int .i64 a0_1) := (blk_cell BK122.out 1).trans rfl; have hcz15_2 : w14.cell? ⟨gb122, 2, none⟩ = some (.int .u64 a0_2) := (blk_cell BK122.out 2).trans rfl; have hcz15_3 : w14.cell? ⟨gb122, 3, none⟩ = some (.slice A0_3 l0_3.length c0_3) := (blk_cell BK122.out 3).trans rfl; have hfz15_0 := blk_frozen BK122.out 0; have hfz15_1 := blk_frozen BK122.out 1; have hfz15_2 := blk_frozen BK122.out 2; have hfz15_3 := blk_frozen BK122.out 3) | ((with_reducible refine gate_callee (f := 32) rfl ?_); refine goesL_ (some 43) rfl rfl Tryz.func32 (by kernel_rfl) rfl #[.int .i64 a0_1] rfl (by (try simp only [List.map_toArray, List.map_cons, List.map_nil]); first | done | rfl | (simp only [List.length_drop, List.length_take]; rfl)) ?_; (with_reducible refine (field_Known.calls k a0_1 t130 t131 _ A11.out).mono ?_); rintro e w16 ⟨v132, rfl, ho0, hb⟩; refine ⟨_, rfl, ?_⟩; have n0_ := Aside0.mk (Kd.R_lower ho0 (below_size bel_)); have n1_ := Aside0.mk (blk_below (g := gb122) (o := .cells #[.int .i64 a0_0, .int .i64 a0_1, .int .u64 a0_2, .slice A0_3 l0_3.length c0_3] 25 (0, 0)) (by (with_reducible repeat (first | refine blk_drewN ?_ _ | refine blk_drew ?_ | refine blk_alloc ?_ _)); exact BK122.out) hb); have n2_ := Aside0.mk (below_step bel_ hb); clear BK122; clear HB; have HO133 := n0_; have BK122 := n1_; have HB := n2_; clear n0_ n1_ n2_; (try clear hb); (try clear hb2); (try clear hk); (try clear hi); (try clear ho0)))
   go_ret3
   exact ⟨_, by first | rfl | (simp [errW_none, errW_some] <;> rfl) | (simp [*, errW_none, errW_some] <;> rfl), by (with_reducible repeat (first | apply Kd.R_alloc | apply Kd.R_drewN | apply Kd.R_drew)); exact HO133.out, bel_⟩
  ·rw [if_neg c10] at H
   have c10b0 := beq_eq_false_iff_ne.mpr c10
   have c10b1 := bne_iff_ne.mpr c10
   by_cases c17 : (l0_3.length : Int) ≤ 40
   ·rw [if_pos c17] at H
    have c17b0 := decide_eq_true c17
    have c17b1 : decide (l0_3.length ≤ 40) = true := decide_eq_true (by omega)
    clear c17
    replace H := Option.bind_eq_some_iff.mp H
    obtain ⟨t134, A180, H⟩ := H
    (try dsimp only at H)
    have A18 := Aside0.mk A180
    clear A180
    replace H := Option.bind_eq_some_iff.mp H
    obtain ⟨⟨t137, t138⟩, A190, H⟩ := H
    (try dsimp only at H)
    have A19 := Aside0.mk A190
    clear A190
    simp only [Option.some.injEq, Prod.mk.injEq] at H
    obtain ⟨rfl, rfl, rfl⟩ := H
    go_enter Tryz.func22, Tryz.ntmps22
    try go_wp2_with (first | ((with_reducible refine gate_dst (N := 1) rfl ?_); refine box_event ?hg (N := 1) ?hd (cs := #[.int .i64 a0_0, .int .i64 a0_1, .int .u64 a0_2, .slice A0_3 l0_3.length c0_3]) (t := 25) ?hr ?_; (case hd => rfl); (case hg => rfl); (case hr => first | (go_simp; done) | (go_simp; rfl)); intro gb122 hg w20 hbox hb; have n0_ := Aside0.mk (below_step bel_ hb); have n1_ := Aside0.mk (hbox); have n2_ := Aside0.mk ((by rw [hg]; exact (below_size bel_) : w.heap.size ≤ gb122)); have n3_ := Aside0.mk ((by rw [hg]; exact (below_size bel_) : w.heap.size ≤ gb122)); clear HB; have HB := n0_; have BK122 := n1_; have GW122 := n2_; have GE122 := n3_; clear n0_ n1_ n2_ n3_; clear hb hbox hg; have hcz21_0 : w20.cell? ⟨gb122, 0, none⟩ = some (.int .i64 a0_0) := (blk_cell BK122.out 0).trans rfl; have hcz21_1 : w20.cell? ⟨gb122, 1, none⟩ = some (.int .i64 a0_1) := (blk_cell BK122.out 1).trans rfl; have hcz21_2 : w20.cell? ⟨gb122, 2, none⟩ = some (.int .u64 a0_2) := (blk_cell BK122.out 2).trans rfl; have hcz21_3 : w20.cell? ⟨gb122, 3, none⟩ = some (.slice A0_3 l0_3.length c0_3) := (blk_cell BK122.out 3).trans rfl; have hfz21_0 := blk_frozen BK122.out 0; have hfz21_1 := blk_frozen BK122.out 1; have hfz21_2 := blk_frozen BK122.out 2; have hfz21_3 := blk_frozen BK122.out 3) | ((with_reducible refine gate_callee (f := 31) rfl ?_); refine goesL_ (some 11) rfl rfl Tryz.func31 (by kernel_rfl) rfl #[.agg #[.int .i64 a0_0, .int .i64 a0_1, .int .u64 a0_2, .slice A0_3 l0_3.length c0_3]] rfl (by (try simp only [List.map_toArray, List.map_cons, List.map_nil]); first | done | rfl | (simp only [List.length_drop, List.length_take]; rfl)) ?_; (with_reducible refine (epicycleref06_Of.calls k a0_0 a0_1 a0_2 _ _ l0_3 t123 t124 t125 _ ?side1 ?side2 A2.out).mono ?_); (case side1 => repeat (first | exact (Kd.C_below HR0_3.out HB.out) | (with_reducible refine Kd.C_alloc ?_ _) | (with_reducible refine Kd.C_drewN ?_ _) | (with_reducible refine Kd.C_drew ?_))); (case side2 => exact HC0_3.out); rintro e w22 ⟨rfl, hb⟩; refine ⟨_, rfl, ?_⟩; have n0_ := Aside0.mk (blk_below (g := gb122) (o := .cells #[.int .i64 a0_0, .int .i64 a0_1, .int .u64 a0_2, .slice A0_3 l0_3.length c0_3] 25 (0, 0)) (by (with_reducible repeat (first | refine blk_drewN ?_ _ | refine blk_drew ?_ | refine blk_alloc ?_ _)); exact BK122.out) hb); have n1_ := Aside0.mk (below_step bel_ hb); clear BK122; clear HB; have BK122 := n0_; have HB := n1_; clear n0_ n1_; (try clear hb); (try clear hb2); (try clear hk); (try clear hi); have hcz23_0 : w22.cell? ⟨gb122, 0, none⟩ = some (.int .i64 a0_0) := (blk_cell BK122.out 0).trans rfl; have hcz23_1 : w22.cell? ⟨gb122, 1, none⟩ = some (.int .i64 a0_1) := (blk_cell BK122.out 1).trans rfl; have hcz23_2 : w22.cell? ⟨gb122, 2, none⟩ = some (.int .u64 a0_2) := (blk_cell BK122.out 2).trans rfl; have hcz23_3 : w22.cell? ⟨gb122, 3, none⟩ = some (.slice A0_3 l0_3.length c0_3) := (blk_cell BK122.out 3).trans rfl; have hfz23_0 := blk_frozen BK122.out 0; have hfz23_1 := blk_frozen BK122.out 1; have hfz23_2 := blk_frozen BK122.out 2; have hfz23_3 := blk_frozen BK122.out 3))
    have n0_ := Aside0.mk (blk_drew BK122.out)
    have n1_ := Aside0.mk (below_drew1 HB.out)
    clear BK122
    clear HB
    have BK122 := n0_
    have HB := n1_
    clear n0_ n1_
    refine start_ (n := 10) (S := fun w' => w'.cell? ⟨gb122, 0, none⟩ = some (.int .i64 a0_0) ∧ w'.cell? ⟨gb122, 1, none⟩ = some (.int .i64 a0_1) ∧ w'.cell? ⟨gb122, 2, none⟩ = some (.int .u64 a0_2) ∧ w'.cell? ⟨gb122, 3, none⟩ = some (.slice A0_3 l0_3.length c0_3)) (ds := []) #[false, false, false, false, false, false, false, false, false, false] (by kernel_rfl) rfl rfl ⟨(blk_cell BK122.out 0).trans rfl, (blk_cell BK122.out 1).trans rfl, (blk_cell BK122.out 2).trans rfl, (blk_cell BK122.out 3).trans rfl⟩ (fun hHeld => ?_); refine with_tabW epicyclelaw10_made.tab5 epicyclelaw10_made.bits5 (fun HT_ HW_ => ?_)
    generalize w22.drew = w24 at BK122 HB hHeld ⊢
    refine pure_ (i := 0) (N := some 22) (v := ?_) (a' := ?_) #[true, false, false, false, false, false, false, false, false, false] rfl rfl (any_of HT_.out (by kernel_rfl)) (fun _ _ _ h => h) (Or.inl ⟨by rfl, ?_⟩) ?_ ?_
    rotate_left
    ·intro w'
     go_simp
     with_reducible rfl
    rotate_left
    ·simp only [Act.put, List.setIfInBounds_toArray, List.set_cons_zero, List.set_cons_succ, i64_w, i32_w]
     rfl
    refine pure_ (i := 3) (N := some 25) (v := ?_) (a' := ?_) #[true, false, false, true, false, false, false, false, false, false] rfl rfl (any_of HT_.out (by kernel_rfl)) (fun _ _ _ h => h) (Or.inl ⟨by rfl, ?_⟩) ?_ ?_
    rotate_left
    ·intro w'
     go_simp
     with_reducible rfl
    rotate_left
    ·simp only [Act.put, List.setIfInBounds_toArray, List.set_cons_zero, List.set_cons_succ, i64_w, i32_w]
     rfl
    refine take_ (i := 1) (N := some 23) (v := ?_) (a' := ?_) #[true, true, false, true, false, false, false, false, false, false] rfl rfl (take_ofW HT_.out HW_.out (by kernel_rfl)) (fun _ _ _ h => h) (Or.inl ⟨by rfl, ?_⟩) hHeld ?_ ?_
    rotate_left
    ·rintro w' ⟨s0, s1, s2, s3⟩
     go_simp
     with_reducible rfl
    rotate_left
    ·simp only [Act.put, List.setIfInBounds_toArray, List.set_cons_zero, List.set_cons_succ, i64_w, i32_w]
     rfl
    refine take_ (i := 4) (N := some 26) (v := ?_) (a' := ?_) #[true, true, false, true, true, false, false, false, false, false] rfl rfl (take_ofW HT_.out HW_.out (by kernel_rfl)) (fun _ _ _ h => h) (Or.inl ⟨by rfl, ?_⟩) hHeld ?_ ?_
    rotate_left
    ·rintro w' ⟨s0, s1, s2, s3⟩
     go_simp
     with_reducible rfl
    rotate_left
    ·simp only [Act.put, List.setIfInBounds_toArray, List.set_cons_zero, List.set_cons_succ, i64_w, i32_w]
     rfl
    refine one_ (i := 2) (N := some 24) #[true, true, true, true, true, false, false, false, false, false] rfl rfl (one_of HT_.out (by kernel_rfl)) (by decide) (fun K hK => ?_)
    refine goes_ Tryz.func45 (by kernel_rfl) rfl #[.slice A0_3 l0_3.length c0_3] (by rfl) rfl rfl (by (try simp only [List.map_toArray, List.map_cons, List.map_nil]); first | done | rfl | (simp only [List.length_drop, List.length_take]; rfl)) ?_
    with_reducible refine (epicyclelaw10_rows.calls k _ _ l0_3 t134 _ ?side1 ?side2 A18.out).mono ?_
    (case side1 => repeat (first | exact (Kd.C_below HR0_3.out HB.out) | (with_reducible refine Kd.C_alloc ?_ _) | (with_reducible refine Kd.C_drewN ?_ _) | (with_reducible refine Kd.C_drew ?_)))
    (case side2 => exact HC0_3.out)
    rintro e w25 ⟨v135, rfl, ho0, hb⟩
    refine ⟨_, rfl, ?_⟩
    have n0_ := Aside0.mk (Kd.S_lower ho0 (below_size bel_))
    have n1_ := Aside0.mk (blk_below (g := gb122) (o := .cells #[.int .i64 a0_0, .int .i64 a0_1, .int .u64 a0_2, .slice A0_3 l0_3.length c0_3] 25 (0, 0)) (by (with_reducible repeat (first | refine blk_drewN ?_ _ | refine blk_drew ?_ | refine blk_alloc ?_ _)); exact BK122.out) hb)
    have n2_ := Aside0.mk (below_step bel_ hb)
    clear BK122
    clear HB
    have HO136 := n0_
    have BK122 := n1_
    have HB := n2_
    clear n0_ n1_ n2_
    (try clear hb)
    (try clear hb2)
    (try clear hk)
    (try clear hi)
    (try clear ho0)
    obtain ⟨Ao26, co26, eo26⟩ := Kd.S_slice HO136.out
    (first | subst eo26 | (injection eo26 with f1_ f2_ f3_; have f4_ := f1_.symm; have f5_ := f3_.symm; clear f1_ f2_ f3_; subst f4_; subst f5_))
    refine hK.out _ _ ⟨(blk_cell BK122.out 0).trans rfl, (blk_cell BK122.out 1).trans rfl, (blk_cell BK122.out 2).trans rfl, (blk_cell BK122.out 3).trans rfl⟩ (fun hHeld => ?_)
    clear hK K
    refine norm_ (a' := ?_) ?_ ?_
    rotate_left
    ·show Act.put _ (some 24) _ = _
     simp only [Act.put, List.setIfInBounds_toArray, List.set_cons_zero, List.set_cons_succ, i64_w, i32_w]
     rfl
    refine one_ (i := 5) (N := some 27) #[true, true, true, true, true, true, false, false, false, false] rfl rfl (one_of HT_.out (by kernel_rfl)) (by decide) (fun K hK => ?_)
    refine goes_ Tryz.func33 (by kernel_rfl) rfl #[.slice Ao26 t134.length co26, .int .u64 a0_2] (by rfl) rfl rfl (by (try simp only [List.map_toArray, List.map_cons, List.map_nil]); first | done | rfl | (simp only [List.length_drop, List.length_take]; rfl)) ?_
    with_reducible refine (field_New.calls k _ _ t134 a0_2 t137 t138 _ ?side1 ?side2 A19.out).mono ?_
    (case side1 => repeat (first | exact (Kd.S_reads' HO136.out).2.2 | (with_reducible refine Kd.C_alloc ?_ _) | (with_reducible refine Kd.C_drewN ?_ _) | (with_reducible refine Kd.C_drew ?_)))
    (case side2 => exact (Kd.S_reads' HO136.out).2.1)
    rintro e w27 ⟨v139, rfl, ho0, hb⟩
    refine ⟨_, rfl, ?_⟩
    have n0_ := Aside0.mk (Kd.S_below (by (with_reducible repeat (first | apply Kd.S_alloc | apply Kd.S_drewN | apply Kd.S_drew)); exact HO136.out) hb)
    have n1_ := Aside0.mk (Kd.R_lower ho0 (below_size bel_))
    have n2_ := Aside0.mk (blk_below (g := gb122) (o := .cells #[.int .i64 a0_0, .int .i64 a0_1, .int .u64 a0_2, .slice A0_3 l0_3.length c0_3] 25 (0, 0)) (by (with_reducible repeat (first | refine blk_drewN ?_ _ | refine blk_drew ?_ | refine blk_alloc ?_ _)); exact BK122.out) hb)
    have n3_ := Aside0.mk (below_step bel_ hb)
    clear HO136
    clear BK122
    clear HB
    have HO136 := n0_
    have HO140 := n1_
    have BK122 := n2_
    have HB := n3_
    clear n0_ n1_ n2_ n3_
    (try clear hb)
    (try clear hb2)
    (try clear hk)
    (try clear hi)
    (try clear ho0)
    refine hK.out _ _ ⟨(blk_cell BK122.out 0).trans rfl, (blk_cell BK122.out 1).trans rfl, (blk_cell BK122.out 2).trans rfl, (blk_cell BK122.out 3).trans rfl⟩ (fun hHeld => ?_)
    clear hK K
    refine norm_ (a' := ?_) ?_ ?_
    rotate_left
    ·show Act.put _ (some 27) _ = _
     simp only [Act.put, List.setIfInBounds_toArray, List.set_cons_zero, List.set_cons_succ, i64_w, i32_w]
     rfl
    refine pure_ (i := 6) (N := some 21) (v := ?_) (a' := ?_) #[true, true, true, true, true, true, true, false, false, false] rfl rfl (any_of HT_.out (by kernel_rfl)) (fun _ _ _ h => h) (Or.inl ⟨by rfl, ?_⟩) ?_ ?_
    rotate_left
    ·intro w'
     go_simp
     with_reducible rfl
    rotate_left
    ·simp only [Act.put, List.setIfInBounds_toArray, List.set_cons_zero, List.set_cons_succ, i64_w, i32_w]
     rfl
    refine pure_ (i := 7) (N := some 28) (v := ?_) (a' := ?_) #[true, true, true, true, true, true, true, true, false, false] rfl rfl (any_of HT_.out (by kernel_rfl)) (fun _ _ _ h => h) (Or.inl ⟨by rfl, ?_⟩) ?_ ?_
    rotate_left
    ·intro w'
     go_simp
     with_reducible rfl
    rotate_left
    ·simp only [Act.put, List.setIfInBounds_toArray, List.set_cons_zero, List.set_cons_succ, i64_w, i32_w]
     rfl
    refine pure_ (i := 8) (N := some 29) (v := ?_) (a' := ?_) #[true, true, true, true, true, true, true, true, true, false] rfl rfl (any_of HT_.out (by kernel_rfl)) (fun _ _ _ h => h) (Or.inl ⟨by rfl, ?_⟩) ?_ ?_
    rotate_left
    ·intro w'
     go_simp
     with_reducible rfl
    rotate_left
    ·simp only [Act.put, List.setIfInBounds_toArray, List.set_cons_zero, List.set_cons_succ, i64_w, i32_w]
     rfl
    refine pure_ (i := 9) (N := some 8) (v := ?_) (a' := ?_) #[true, true, true, true, true, true, true, true, true, true] rfl rfl (any_of HT_.out (by kernel_rfl)) (fun _ _ _ h => h) (Or.inl ⟨by rfl, ?_⟩) ?_ ?_
    rotate_left
    ·intro w'
     go_simp
     with_reducible rfl
    rotate_left
    ·simp only [Act.put, List.setIfInBounds_toArray, List.set_cons_zero, List.set_cons_succ, i64_w, i32_w]
     rfl
    refine done_ (done_of HT_.out (by kernel_rfl)) ?_
    try go_wp2
    go_ret3
    exact ⟨_, by first | rfl | (simp [errW_none, errW_some] <;> rfl) | (simp [*, errW_none, errW_some] <;> rfl), by (with_reducible repeat (first | apply Kd.R_alloc | apply Kd.R_drewN | apply Kd.R_drew)); exact HO140.out, bel_⟩
   ·rw [if_neg c17] at H
    have c17b0 := decide_eq_false c17
    have c17b1 : decide (l0_3.length ≤ 40) = false := decide_eq_false (by omega)
    clear c17
    simp only [Option.some.injEq, Prod.mk.injEq] at H
    obtain ⟨rfl, rfl, rfl⟩ := H
    go_enter Tryz.func22, Tryz.ntmps22
    go_wp2_with (first | ((with_reducible refine gate_dst (N := 1) rfl ?_); refine box_event ?hg (N := 1) ?hd (cs := #[.int .i64 a0_0, .int .i64 a0_1, .int .u64 a0_2, .slice A0_3 l0_3.length c0_3]) (t := 25) ?hr ?_; (case hd => rfl); (case hg => rfl); (case hr => first | (go_simp; done) | (go_simp; rfl)); intro gb122 hg w28 hbox hb; have n0_ := Aside0.mk (below_step bel_ hb); have n1_ := Aside0.mk (hbox); have n2_ := Aside0.mk ((by rw [hg]; exact (below_size bel_) : w.heap.size ≤ gb122)); have n3_ := Aside0.mk ((by rw [hg]; exact (below_size bel_) : w.heap.size ≤ gb122)); clear HB; have HB := n0_; have BK122 := n1_; have GW122 := n2_; have GE122 := n3_; clear n0_ n1_ n2_ n3_; clear hb hbox hg; have hcz29_0 : w28.cell? ⟨gb122, 0, none⟩ = some (.int .i64 a0_0) := (blk_cell BK122.out 0).trans rfl; have hcz29_1 : w28.cell? ⟨gb122, 1, none⟩ = some (.int .i64 a0_1) := (blk_cell BK122.out 1).trans rfl; have hcz29_2 : w28.cell? ⟨gb122, 2, none⟩ = some (.int .u64 a0_2) := (blk_cell BK122.out 2).trans rfl; have hcz29_3 : w28.cell? ⟨gb122, 3, none⟩ = some (.slice A0_3 l0_3.length c0_3) := (blk_cell BK122.out 3).trans rfl; have hfz29_0 := blk_frozen BK122.out 0; have hfz29_1 := blk_frozen BK122.out 1; have hfz29_2 := blk_frozen BK122.out 2; have hfz29_3 := blk_frozen BK122.out 3) | ((with_reducible refine gate_callee (f := 31) rfl ?_); refine goesL_ (some 11) rfl rfl Tryz.func31 (by kernel_rfl) rfl #[.agg #[.int .i64 a0_0, .int .i64 a0_1, .int .u64 a0_2, .slice A0_3 l0_3.length c0_3]] rfl (by (try simp only [List.map_toArray, List.map_cons, List.map_nil]); first | done | rfl | (simp only [List.length_drop, List.length_take]; rfl)) ?_; (with_reducible refine (epicycleref06_Of.calls k a0_0 a0_1 a0_2 _ _ l0_3 t123 t124 t125 _ ?side1 ?side2 A2.out).mono ?_); (case side1 => repeat (first | exact (Kd.C_below HR0_3.out HB.out) | (with_reducible refine Kd.C_alloc ?_ _) | (with_reducible refine Kd.C_drewN ?_ _) | (with_reducible refine Kd.C_drew ?_))); (case side2 => exact HC0_3.out); rintro e w30 ⟨rfl, hb⟩; refine ⟨_, rfl, ?_⟩; have n0_ := Aside0.mk (blk_below (g := gb122) (o := .cells #[.int .i64 a0_0, .int .i64 a0_1, .int .u64 a0_2, .slice A0_3 l0_3.length c0_3] 25 (0, 0)) (by (with_reducible repeat (first | refine blk_drewN ?_ _ | refine blk_drew ?_ | refine blk_alloc ?_ _)); exact BK122.out) hb); have n1_ := Aside0.mk (below_step bel_ hb); clear BK122; clear HB; have BK122 := n0_; have HB := n1_; clear n0_ n1_; (try clear hb); (try clear hb2); (try clear hk); (try clear hi); have hcz31_0 : w30.cell? ⟨gb122, 0, none⟩ = some (.int .i64 a0_0) := (blk_cell BK122.out 0).trans rfl; have hcz31_1 : w30.cell? ⟨gb122, 1, none⟩ = some (.int .i64 a0_1) := (blk_cell BK122.out 1).trans rfl; have hcz31_2 : w30.cell? ⟨gb122, 2, none⟩ = some (.int .u64 a0_2) := (blk_cell BK122.out 2).trans rfl; have hcz31_3 : w30.cell? ⟨gb122, 3, none⟩ = some (.slice A0_3 l0_3.length c0_3) := (blk_cell BK122.out 3).trans rfl; have hfz31_0 := blk_frozen BK122.out 0; have hfz31_1 := blk_frozen BK122.out 1; have hfz31_2 := blk_frozen BK122.out 2; have hfz31_3 := blk_frozen BK122.out 3))
    go_ret3
    exact ⟨(.slice none 0 0), by first | rfl | (simp [errW_none, errW_some] <;> rfl) | (simp [*, errW_none, errW_some] <;> rfl), by first | exact Kd.R_nil _ _ _ _ _ | exact Kd.N_nil _ _ _ _ _ | exact Kd.V_nil _ _ _ _ _ | exact Kd.Q_nil _ _ _ _ _ | exact Kd.S_nil _ _ _ _ _, bel_⟩
noncomputable def epicycleref06_Root.j0 : Nat → Int → Int → Int → Bool → Option (Int)
 | 0, _, _, _, _ => none
 | k + 1, x0, x1, x2, x16 => if x16 = true then (some 0) else (if (IntKind.u64.wrap (x2)) = 0 then (none) else ((epicycleref02_Pow.f k x1 (IntKind.u64.wrap (Int.tdiv (IntKind.u64.wrap (x0 - 1)) (IntKind.u64.wrap (x2)))) x0).bind fun t141 => (some t141)))
noncomputable def epicycleref06_Root.f (k : Nat) (a0 : Int) (a1 : Int) (a2 : Int) : Option (Int) := if a2 < 1 then (epicycleref06_Root.j0 k a0 a1 a2 true) else (if (IntKind.u64.wrap (a2)) = 0 then (none) else (epicycleref06_Root.j0 k a0 a1 a2 ((Int.tmod (IntKind.u64.wrap (a0 - 1)) (IntKind.u64.wrap (a2))) != 0)))
set_option maxHeartbeats 8000000 in
set_option maxRecDepth 100000 in
theorem epicycleref06_Root.calls (k : Nat) (a0 : Int) (a1 : Int) (a2 : Int) (r : Int) (w : World) (h : epicycleref06_Root.f k a0 a1 a2 = some r) :
  Calls Tryz.prog 46 #[.int .u64 a0, .int .u64 a1, .int .i64 a2] w fun e w' => e = .returned (.int .u64 r) ∧ Drawn0 w w' := by
 have H := h; unfold epicycleref06_Root.f at H
 clear h
 have HC4 := Aside0.mk H
 clear H
 go_enter Tryz.func46, Tryz.ntmps46
 go_upto_region 1 with (fail)
 go_cut [16] (fun v16 wc => ∃ (kq : Nat) (x16_3 : Bool), v16 = .bool x16_3 ∧ Aside0 (epicycleref06_Root.j0 kq a0 a1 a2 x16_3 = some r) ∧ Aside0 (kq ≤ k) ∧ Drawn0 w wc)
 case first =>
  have H := HC4.out
  clear HC4
  by_cases c5 : a2 < 1
  ·rw [if_pos c5] at H
   have c5b0 := decide_eq_true c5
   clear c5
   (first | rw [c5b0] | (simp only [i64_w, i32_w]; rw [c5b0]) | skip)
   have H' := Aside0.mk H
   clear H
   go_wp2
   go_meet
   case rel => exact ⟨_, (true), (by first | rfl | (simp; done) | (simp [*]; done)), H', ⟨by first | omega | exact Nat.le_refl _⟩, by repeat (first | exact Drawn0.refl _ | apply Drawn0.step)⟩
  ·rw [if_neg c5] at H
   have c5b0 := decide_eq_false c5
   clear c5
   (first | rw [c5b0] | (simp only [i64_w, i32_w]; rw [c5b0]) | skip)
   by_cases c6 : (IntKind.u64.wrap (a2)) = 0
   ·rw [if_pos c6] at H
    exact absurd H (by simp)
   ·rw [if_neg c6] at H
    have c6b0 := beq_eq_false_iff_ne.mpr c6
    have c6b1 := bne_iff_ne.mpr c6
    have H' := Aside0.mk H
    clear H
    go_wp2
    go_meet
    case rel => exact ⟨_, (((Int.tmod (IntKind.u64.wrap (a0 - 1)) (IntKind.u64.wrap (a2))) != 0)), (by first | rfl | (simp; done) | (simp [*]; done)), H', ⟨by first | omega | exact Nat.le_refl _⟩, by repeat (first | exact Drawn0.refl _ | apply Drawn0.step)⟩
 case rest =>
  clear HC4
  try clear p2
  try clear c4
  try clear c5
  try clear c5b0
  try clear c6
  try clear c6b0
  try clear c6b1
  obtain ⟨kq, x16_3, rfl, HA, HJ3, ⟨mc3, rfl⟩⟩ := hcut
  cases kq with
  | zero => exact absurd HA.out (by simp [epicycleref06_Root.j0])
  | succ kj3 =>
   have H := HA.out
   clear HA
   simp only [epicycleref06_Root.j0] at H
   by_cases c7 : x16_3 = true
   ·subst c7
    have H1 := H; rw [if_pos rfl] at H1
    clear H
    have H := H1
    clear H1
    obtain rfl := Option.some.inj H
    go_wp2
    go_ret
    exact ⟨by first | rfl | (simp; done) | (simp [*]; done), by repeat (first | exact Drawn0.refl _ | apply Drawn0.step)⟩
   ·replace c7 := Bool.eq_false_iff.mpr c7
    subst c7
    have H1 := H; rw [if_neg (show ¬ (false = true) by decide)] at H1
    clear H
    have H := H1
    clear H1
    by_cases c8 : (IntKind.u64.wrap (a2)) = 0
    ·rw [if_pos c8] at H
     exact absurd H (by simp)
    ·rw [if_neg c8] at H
     have c8b0 := beq_eq_false_iff_ne.mpr c8
     have c8b1 := bne_iff_ne.mpr c8
     replace H := Option.bind_eq_some_iff.mp H
     obtain ⟨t141, A90, H⟩ := H
     (try dsimp only at H)
     have A9 := Aside0.mk A90
     clear A90
     obtain rfl := Option.some.inj H
     go_wp2_with (first | ((with_reducible refine gate_callee (f := 16) rfl ?_); refine goesL_ (some 24) rfl rfl Tryz.func16 (by kernel_rfl) rfl #[.int .u64 a1, .int .u64 (IntKind.u64.wrap (Int.tdiv (IntKind.u64.wrap (a0 - 1)) (IntKind.u64.wrap (a2)))), .int .u64 a0] rfl (by (try simp only [List.map_toArray, List.map_cons, List.map_nil]); first | done | rfl | (simp only [List.length_drop, List.length_take]; rfl)) ?_; (with_reducible refine (epicycleref02_Pow.calls kj3 a1 (IntKind.u64.wrap (Int.tdiv (IntKind.u64.wrap (a0 - 1)) (IntKind.u64.wrap (a2)))) a0 t141 _ A9.out).mono ?_); rintro e w' ⟨rfl, ⟨nd, rfl⟩⟩; refine ⟨_, rfl, ?_⟩))
     go_ret
     exact ⟨by first | rfl | (simp; done) | (simp [*]; done), by repeat (first | exact Drawn0.refl _ | apply Drawn0.step)⟩
noncomputable def epicycleref10_Root.f (k : Nat) (a0 : Int) (a1 : Int) (a2 : Int) (a3 : Bool) : Option (Int × Int) := if a2 < 1 then (some (0, 1)) else (if a2 > 4096 then (some (0, 13)) else (if (IntKind.u64.wrap (a2)) = 0 then (none) else (if (Int.tmod (IntKind.u64.wrap (a0 - 1)) (IntKind.u64.wrap (a2))) = 0 then ((epicycleref06_Root.f k a0 a1 a2).bind fun t142 => (if a3 = true then ((epicycleref02_Pow.f k t142 (IntKind.u64.wrap (wrap64 (a2 - 1))) a0).bind fun t143 => (some (t143, 0))) else (some (t142, 0)))) else (some (0, 4)))))
set_option maxHeartbeats 8000000 in
set_option maxRecDepth 100000 in
theorem epicycleref10_Root.calls (k : Nat) (a0 : Int) (a1 : Int) (a2 : Int) (a3 : Bool) (r1 : Int) (r2 : Int) (w : World) (h : epicycleref10_Root.f k a0 a1 a2 a3 = some (r1, r2)) :
  Calls Tryz.prog 24 #[.int .u64 a0, .int .u64 a1, .int .i64 a2, .bool a3] w fun e w' => e = .returned (.tuple #[.int .u64 r1, .int .i64 r2]) ∧ Drawn0 w w' := by
 have H := h; unfold epicycleref10_Root.f at H
 clear h
 by_cases c5 : a2 < 1
 ·rw [if_pos c5] at H
  have c5b0 := decide_eq_true c5
  clear c5
  simp only [Option.some.injEq, Prod.mk.injEq] at H
  obtain ⟨rfl, rfl⟩ := H
  go_enter Tryz.func24, Tryz.ntmps24
  go_wp2
  go_ret2
  exact ⟨by first | rfl | (simp; done) | (simp [*]; done), by repeat (first | exact Drawn0.refl _ | apply Drawn0.step)⟩
 ·rw [if_neg c5] at H
  have c5b0 := decide_eq_false c5
  clear c5
  by_cases c6 : a2 > 4096
  ·rw [if_pos c6] at H
   have c6b0 := decide_eq_true c6
   clear c6
   simp only [Option.some.injEq, Prod.mk.injEq] at H
   obtain ⟨rfl, rfl⟩ := H
   go_enter Tryz.func24, Tryz.ntmps24
   go_wp2
   go_ret2
   exact ⟨by first | rfl | (simp; done) | (simp [*]; done), by repeat (first | exact Drawn0.refl _ | apply Drawn0.step)⟩
  ·rw [if_neg c6] at H
   have c6b0 := decide_eq_false c6
   clear c6
   by_cases c7 : (IntKind.u64.wrap (a2)) = 0
   ·rw [if_pos c7] at H
    exact absurd H (by simp)
   ·rw [if_neg c7] at H
    have c7b0 := beq_eq_false_iff_ne.mpr c7
    have c7b1 := bne_iff_ne.mpr c7
    by_cases c8 : (Int.tmod (IntKind.u64.wrap (a0 - 1)) (IntKind.u64.wrap (a2))) = 0
    ·rw [if_pos c8] at H
     have c8b0 := beq_iff_eq.mpr c8
     have c8b1 := bne_eq_false_iff_eq.mpr c8
     clear c8
     replace H := Option.bind_eq_some_iff.mp H
     obtain ⟨t142, A90, H⟩ := H
     (try dsimp only at H)
     have A9 := Aside0.mk A90
     clear A90
     by_cases c10 : a3 = true
     ·subst c10
      have H1 := H; rw [if_pos rfl] at H1
      clear H
      have H := H1
      clear H1
      replace H := Option.bind_eq_some_iff.mp H
      obtain ⟨t143, A110, H⟩ := H
      (try dsimp only at H)
      have A11 := Aside0.mk A110
      clear A110
      simp only [Option.some.injEq, Prod.mk.injEq] at H
      obtain ⟨rfl, rfl⟩ := H
      go_enter Tryz.func24, Tryz.ntmps24
      go_wp2_with (first | ((with_reducible refine gate_callee (f := 46) rfl ?_); refine goesL_ (some 24) rfl rfl Tryz.func46 (by kernel_rfl) rfl #[.int .u64 a0, .int .u64 a1, .int .i64 a2] rfl (by (try simp only [List.map_toArray, List.map_cons, List.map_nil]); first | done | rfl | (simp only [List.length_drop, List.length_take]; rfl)) ?_; (with_reducible refine (epicycleref06_Root.calls k a0 a1 a2 t142 _ A9.out).mono ?_); rintro e w' ⟨rfl, ⟨nd, rfl⟩⟩; refine ⟨_, rfl, ?_⟩) | ((with_reducible refine gate_callee (f := 16) rfl ?_); refine goesL_ (some 31) rfl rfl Tryz.func16 (by kernel_rfl) rfl #[.int .u64 t142, .int .u64 (IntKind.u64.wrap (wrap64 (a2 - 1))), .int .u64 a0] rfl (by (try simp only [List.map_toArray, List.map_cons, List.map_nil]); first | done | rfl | (simp only [List.length_drop, List.length_take]; rfl)) ?_; (with_reducible refine (epicycleref02_Pow.calls k t142 (IntKind.u64.wrap (wrap64 (a2 - 1))) a0 t143 _ A11.out).mono ?_); rintro e w' ⟨rfl, ⟨nd, rfl⟩⟩; refine ⟨_, rfl, ?_⟩))
      go_ret2
      exact ⟨by first | rfl | (simp; done) | (simp [*]; done), by repeat (first | exact Drawn0.refl _ | apply Drawn0.step)⟩
     ·replace c10 := Bool.eq_false_iff.mpr c10
      subst c10
      have H1 := H; rw [if_neg (show ¬ (false = true) by decide)] at H1
      clear H
      have H := H1
      clear H1
      simp only [Option.some.injEq, Prod.mk.injEq] at H
      obtain ⟨rfl, rfl⟩ := H
      go_enter Tryz.func24, Tryz.ntmps24
      go_wp2_with (first | ((with_reducible refine gate_callee (f := 46) rfl ?_); refine goesL_ (some 24) rfl rfl Tryz.func46 (by kernel_rfl) rfl #[.int .u64 a0, .int .u64 a1, .int .i64 a2] rfl (by (try simp only [List.map_toArray, List.map_cons, List.map_nil]); first | done | rfl | (simp only [List.length_drop, List.length_take]; rfl)) ?_; (with_reducible refine (epicycleref06_Root.calls k a0 a1 a2 t142 _ A9.out).mono ?_); rintro e w' ⟨rfl, ⟨nd, rfl⟩⟩; refine ⟨_, rfl, ?_⟩))
      go_ret2
      exact ⟨by first | rfl | (simp; done) | (simp [*]; done), by repeat (first | exact Drawn0.refl _ | apply Drawn0.step)⟩
    ·rw [if_neg c8] at H
     have c8b0 := beq_eq_false_iff_ne.mpr c8
     have c8b1 := bne_iff_ne.mpr c8
     simp only [Option.some.injEq, Prod.mk.injEq] at H
     obtain ⟨rfl, rfl⟩ := H
     go_enter Tryz.func24, Tryz.ntmps24
     go_wp2
     go_ret2
     exact ⟨by first | rfl | (simp; done) | (simp [*]; done), by repeat (first | exact Drawn0.refl _ | apply Drawn0.step)⟩
end Go.Proofs.YthnpjjpdlihepaaGreat.XL
end
section
namespace Go.Proofs.YthnpjjpdlihepaaGreat.F06.XL
open Go Go.RowKit Go.Proofs.YthnpjjpdlihepaaGreat.XS Go.Proofs.YthnpjjpdlihepaaGreat.XT Go.Proofs.YthnpjjpdlihepaaGreat.XR Go.Proofs.YthnpjjpdlihepaaGreatW.PrintWords Go.Proofs.YthnpjjpdlihepaaGreatW.PrintLast Go.Proofs.YthnpjjpdlihepaaGreatW.PrintMore Go.Proofs.YthnpjjpdlihepaaGreat.Given Go.Proofs.YthnpjjpdlihepaaGreat.Given04 Go.Proofs.YthnpjjpdlihepaaGreat.M Go.Proofs.YthnpjjpdlihepaaGreat.Mont Go.Proofs.YthnpjjpdlihepaaGreat.XL
theorem rows_l1 {x3 : List S57} {L : List S71} {len i P G : Int} {F : List S83} {R : List S57} (hF : F.length < 8796093022208) (h3 : x3.length < 3518437208883)
    (E : Ev (fun k => epicyclelaw10_rows.l0 k (x3 ++ [⟨P, G, F.map cF⟩]) L len (wrap64 (i + 1))) R) (l : List S83) :
    ∀ j : Nat, F.drop j = l → j ≤ F.length → Ev (fun k => epicyclelaw10_rows.l1 k x3 ((F.take j).map cF) L len i F (F.length : Int) j P G F) R := by
  induction l with
  | nil =>
    intro j hd hj
    have : F.length ≤ j := by have := congrArg List.length hd; simp at this; omega
    have q : ¬ (j : Int) < (F.length : Int) := by omega
    rw [List.take_of_length_le this]
    refine Ev.step (fun k => ?_) E
    simp only [epicyclelaw10_rows.l1]
    rw [if_neg q, if_pos h3]
  | cons x l ih =>
    intro j hd hj
    obtain ⟨hx, hlt, hd'⟩ := rd60_drop hd
    have q : (j : Int) < (F.length : Int) := by omega
    have q0 : 0 ≤ (j : Int) := by omega
    have w : wrap64 ((j : Int) + 1) = ((j + 1 : Nat) : Int) := by rw [w64_id _ (by omega) (by omega)]; omega
    have ql : ((F.take j).map cF).length < 8796093022208 := by simp; omega
    have IH := ih (j + 1) hd' (by omega)
    have e : (F.take (j + 1)).map cF = (F.take j).map cF ++ [⟨x.f0, x.f1⟩] := by
      have hg : F[j] = x := by
        rw [List.drop_eq_getElem_cons hlt] at hd
        injection hd
      rw [List.take_succ_eq_append_getElem hlt, hg, List.map_append]
      rfl
    rw [e] at IH
    refine Ev.step (fun k => ?_) IH
    simp only [epicyclelaw10_rows.l1]
    rw [if_pos q, if_pos q0, if_pos q, if_pos ql, hx, w]
theorem rows_l0 {L : List S71} (hL : okLen L) (l : List S71) : ∀ i : Nat, L.drop i = l → i ≤ L.length → Ev (fun k => epicyclelaw10_rows.l0 k ((L.take i).map cE) L (L.length : Int) i) (L.map cE) := by
  have h1 := hL.1
  induction l with
  | nil =>
    intro i hd hi
    have : L.length ≤ i := by have := congrArg List.length hd; simp at this; omega
    have q : ¬ (i : Int) < (L.length : Int) := by omega
    rw [List.take_of_length_le this]
    refine Ev.step (fun k => ?_) (Ev.now _)
    simp only [epicyclelaw10_rows.l0]
    rw [if_neg q]
  | cons x l ih =>
    intro i hd hi
    obtain ⟨hx, hlt, hd'⟩ := rd46_drop hd
    have hxm : x ∈ L := List.mem_of_mem_drop (show x ∈ L.drop i by rw [hd]; exact List.mem_cons_self)
    have q : (i : Int) < (L.length : Int) := by omega
    have q0 : 0 ≤ (i : Int) := by omega
    have w : wrap64 ((i : Int) + 1) = ((i + 1 : Nat) : Int) := by rw [w64_id _ (by omega) (by omega)]; omega
    have ql : ((L.take i).map cE).length < 3518437208883 := by simp; omega
    have IH := ih (i + 1) hd' (by omega)
    have e : (L.take (i + 1)).map cE = (L.take i).map cE ++ [⟨x.f0, x.f1, x.f2.map cF⟩] := by
      have hg : L[i] = x := by
        rw [List.drop_eq_getElem_cons hlt] at hd
        injection hd
      rw [List.take_succ_eq_append_getElem hlt, hg, List.map_append]
      rfl
    rw [e, ← w] at IH
    have L1 := rows_l1 (L := L) (len := (L.length : Int)) (i := (i : Int)) (hL.2 x hxm) ql IH x.f2 0 rfl (Nat.zero_le _)
    refine Ev.step (fun k => ?_) L1
    simp only [epicyclelaw10_rows.l0]
    rw [if_pos q, if_pos q0, if_pos q, hx]
    rfl
theorem rows_ev {L : List S71} (hL : okLen L) : Ev (fun k => epicyclelaw10_rows.f k L) (L.map cE) := by
  refine Ev.congr (fun k => ?_) (rows_l0 hL L 0 rfl (Nat.zero_le _))
  unfold epicyclelaw10_rows.f
  rfl
end Go.Proofs.YthnpjjpdlihepaaGreat.F06.XL
end
section
namespace Go.Proofs.YthnpjjpdlihepaaGreat.F06.XL
open Go Go.RowKit Go.Proofs.YthnpjjpdlihepaaGreatW.PrintWords Go.Proofs.YthnpjjpdlihepaaGreatW.PrintLast Go.Proofs.YthnpjjpdlihepaaGreatW.PrintMore Go.Proofs.YthnpjjpdlihepaaGreat.Given Go.Proofs.YthnpjjpdlihepaaGreat.M Go.Proofs.YthnpjjpdlihepaaGreat.Mont Go.Proofs.YthnpjjpdlihepaaGreat.XS Go.Proofs.YthnpjjpdlihepaaGreat.XT Go.Proofs.YthnpjjpdlihepaaGreat.XR Go.Proofs.YthnpjjpdlihepaaGreat.Num Go.Proofs.YthnpjjpdlihepaaGreat.XK Go.Proofs.YthnpjjpdlihepaaGreat.XL
theorem made_ev {L : List RE} (hL : okRow L) (kind K p : Int) : Ev (fun k => epicyclelaw10_made.f k kind K p L) ([], 0, 0) ∨ ∃ F, Ev (fun k => epicyclelaw10_made.f k kind K p L) ([F], F.p, F.g) ∧ GoodFld F := by
  by_cases h0 : kind = 0
  · subst h0
    by_cases hp : OddP p
    · obtain ⟨F, E, G, e, hg⟩ := small_odd hp
      refine .inr ⟨F, ?_, hg⟩
      rw [e]
      exact Ev.congr (fun k => rfl) (Ev.bind ((of_small (L := L) (K := K)).1 hp _ G) (evP rfl (Ev.bind E (Ev.now _))))
    · exact .inl (Ev.congr (fun k => rfl) (Ev.bind ((of_small (L := L) (K := K)).2 hp) (evP rfl (Ev.bind (small_not hp) (Ev.now _)))))
  by_cases h1 : kind = 1
  · subst h1
    by_cases hK : 0 ≤ K ∧ K ≤ 5
    · obtain ⟨F, E, e, hg⟩ := known_ev hK.1 hK.2
      refine .inr ⟨F, ?_, hg⟩
      have O := (of_known (L := L) (p := p)).1 hK
      rw [e] at O
      exact Ev.congr (fun k => rfl) (Ev.bind O (evN h0 (evP rfl (Ev.bind E (Ev.now _)))))
    · exact .inl (Ev.congr (fun k => rfl) (Ev.bind ((of_known (L := L) (p := p)).2 hK) (evN h0 (evP rfl (Ev.bind (known_not hK) (Ev.now _))))))
  have O := ofNew_ev hL (K := K) (p := p) h0 h1
  have R := rows_ev hL.1
  have E := new_ev (R := L.map cE) (by rw [map_tri]; exact hL.2) p
  rcases new_of hL p with ⟨e, _, hn, e', _, ho, _⟩ | ⟨F, hn, ho, hg, hl⟩
  · rw [hn] at E
    rw [ho] at O
    refine .inl (Ev.congr (fun k => rfl) (Ev.bind O (evN h0 (evN h1 ?_))))
    by_cases hl : (L.length : Int) ≤ 40
    · exact evP hl (Ev.bind R (Ev.bind E (Ev.now _)))
    · exact evN hl (Ev.now _)
  · rw [hn] at E
    rw [ho] at O
    exact .inr ⟨F, Ev.congr (fun k => rfl) (Ev.bind O (evN h0 (evN h1 (evP hl (Ev.bind R (Ev.bind E (Ev.now _))))))), hg⟩
end Go.Proofs.YthnpjjpdlihepaaGreat.F06.XL
end
section
namespace Go.Proofs.YthnpjjpdlihepaaGreat.XL
open Go.RowKit Go.Proofs.YthnpjjpdlihepaaGreat.Given Go.Proofs.YthnpjjpdlihepaaGreat.Row05 Go.Proofs.YthnpjjpdlihepaaGreat.XS Go.Proofs.YthnpjjpdlihepaaGreat.XT Go.Proofs.YthnpjjpdlihepaaGreat.XR Go.Proofs.YthnpjjpdlihepaaGreat.F06 Go.Proofs.YthnpjjpdlihepaaGreat.XK Go.Proofs.YthnpjjpdlihepaaGreat.XW Go.Proofs.YthnpjjpdlihepaaGreatW.PrintWords Go.Proofs.YthnpjjpdlihepaaGreatW.PrintLast Go.Proofs.YthnpjjpdlihepaaGreatW.PrintMore
attribute [local go_sem] max2_int min2_int max_two min_two max_three min_three max_four min_four   -- for this text's walks alone
set_option linter.unusedVariables false
set_option linter.unusedSimpArgs false
noncomputable def epicycleref10_Table.l0 : Nat → Int → Int → Int → List Int → Int → Int → Option (List Int)
 | 0, _, _, _, _, _, _ => none
 | k + 1, x0, x1, x2, x7, x8, x9 => if x9 < x2 then (if x7.length < 17592186044416 then ((epicycleref02_Mul.f k x8 x1 x0).bind fun t147 => (epicycleref10_Table.l0 k x0 x1 x2 (x7 ++ [x8]) t147 (wrap64 (x9 + 1)))) else (none)) else (some x7)
noncomputable def epicycleref10_Table.f (k : Nat) (a0 : Int) (a1 : Int) (a2 : Int) : Option (List Int) := epicycleref10_Table.l0 k a0 a1 a2 ([] : List Int) 1 0
set_option maxHeartbeats 8000000 in
set_option maxRecDepth 100000 in
theorem epicycleref10_Table.calls (k : Nat) (a0 : Int) (a1 : Int) (a2 : Int) (r : List Int) (w : World) (h : epicycleref10_Table.f k a0 a1 a2 = some r) :
  Calls Tryz.prog 27 #[.int .u64 a0, .int .u64 a1, .int .i64 a2] w fun e w' => ∃ v0_ : Value, e = .returned (v0_) ∧ Kd.R (Kd.int .u64) 22 w' w.heap.size (fun _ => True) v0_ r ∧ Below w.heap.size w w' := by
 have HB := Aside0.mk (Below.refl w.heap.size w)
 have H : (epicycleref10_Table.l0 k a0 a1 a2 ([] : List Int) 1 0) = some r := h
 clear h
 have H' := Aside0.mk H
 clear H
 go_enter Tryz.func27, Tryz.ntmps27
 go_wp2
 go_loopg [7, 8, 9] k (fun kq v7 v8 v9 w' => ∃ (x7_1 : List Int) (x8_1 : Int) (x9_1 : Int), v8 = .int .u64 x8_1 ∧ v9 = .int .i64 x9_1 ∧ Aside0 (epicycleref10_Table.l0 kq a0 a1 a2 x7_1 x8_1 x9_1 = some r) ∧ Aside0 (kq ≤ k) ∧ Aside0 (Kd.R (Kd.int .u64) 22 w' w.heap.size (fun _ => True) v7 x7_1) ∧ Aside0 (Below w.heap.size w w'))
 case atStart => exact ⟨(([] : List Int)), (1), (0), (by first | rfl | (simp; done) | (simp [*]; done)), (by first | rfl | (simp; done) | (simp [*]; done)), H', ⟨Nat.le_refl _⟩, ⟨by first | exact Kd.R_nil _ _ _ _ _ | exact Kd.N_nil _ _ _ _ _ | exact Kd.V_nil _ _ _ _ _ | exact Kd.Q_nil _ _ _ _ _ | exact Kd.S_nil _ _ _ _ _⟩, ⟨by repeat (first | (with_reducible first | exact HB.out | apply below_alloc | apply pw_below_drewN | apply below_drew1) | exact HB.out)⟩⟩
 case round =>
  clear H'
  try clear c2
  try clear p2
  obtain ⟨x7_1, x8_1, x9_1, rfl, rfl, HA, HK1, HO_7, HB⟩ := hrel
  cases gk with
  | zero => exact absurd HA.out (by simp [epicycleref10_Table.l0])
  | succ k1 =>
   have H := HA.out
   clear HA
   simp only [epicycleref10_Table.l0] at H
   by_cases c4 : x9_1 < a2
   ·rw [if_pos c4] at H
    have c4b0 : decide (x9_1 < a2) = true := decide_eq_true c4
    clear c4
    by_cases c5 : x7_1.length < 17592186044416
    ·rw [if_pos c5] at H
     have LMc5 := Aside0.mk c5
     clear c5
     obtain ⟨y144, hy144⟩ : ∃ y_ : List Int, y_ = (x7_1 ++ [x8_1]) := ⟨_, rfl⟩
     replace H : ((epicycleref02_Mul.f k1 x8_1 a1 a0).bind fun t147 => (epicycleref10_Table.l0 k1 a0 a1 a2 y144 t147 (wrap64 (x9_1 + 1)))) = some r := by first | (rw [hy144]; with_reducible exact H) | (have H2_ := (Option.bind_some _ _).symm.trans H; rw [hy144]; with_reducible exact H2_) | (have H2_ := (Option.bind_some _ _).symm.trans H; with_reducible exact H2_) | with_reducible exact H | (rw [hy144]; exact H) | exact H
     have Ny144 := Aside0.mk hy144
     clear hy144
     replace H := Option.bind_eq_some_iff.mp H
     obtain ⟨t147, A60, H⟩ := H
     replace H : (epicycleref10_Table.l0 k1 a0 a1 a2 y144 t147 (wrap64 (x9_1 + 1))) = some r := H
     have A6 := Aside0.mk A60
     clear A60
     have H' := Aside0.mk H
     clear H
     go_wp2_with (first | ((with_reducible refine gate_builtin (b := .append) (xs := #[.tmp 15, .tmp 17]) rfl ?_); at_builtin; refine Kd.R_append (Kd.int .u64) (w0 := w) w.heap.size rfl (.tmp 15) (.tmp 17) 39 22 (.int .u64 0) 8 rfl Tryz.underlying39 info22 rfl (by decide) (by omega) u7 x7_1 x8_1 [.int .u64 x8_1] (fun _ => True) (fun _ => False) rfl rfl ?aP (fun _ hk => hk.elim) ?aF ?aO ?aB ?aS ?aL ?_; (case aP => exact rfl); (case aB => exact (by repeat (first | (with_reducible first | exact HB.out | apply below_alloc | apply pw_below_drewN | apply below_drew1) | exact HB.out))); (case aF => exact (fun _ _ => trivial)); (case aO => exact (by (with_reducible repeat (first | apply Kd.R_alloc | apply Kd.R_drewN | apply Kd.R_drew)); exact HO_7.out)); (case aS => exact (below_size (by repeat (first | (with_reducible first | exact HB.out | apply below_alloc | apply pw_below_drewN | apply below_drew1) | exact HB.out)))); (case aL => have := LMc5.out; omega); intro v145 w7 ho hb hg hat; rw [← Ny144.out] at ho; have n0_ := Aside0.mk (hb); have n1_ := Aside0.mk (ho); clear HB; clear HO_7; have HB := n0_; have HO146 := n1_; clear n0_ n1_; clear ho hb hg hat) | ((with_reducible refine gate_callee (f := 14) rfl ?_); refine goesL_ (some 22) rfl rfl Tryz.func14 (by kernel_rfl) rfl #[.int .u64 x8_1, .int .u64 a1, .int .u64 a0] rfl (by (try simp only [List.map_toArray, List.map_cons, List.map_nil]); first | done | rfl | (simp only [List.length_drop, List.length_take]; rfl)) ?_; (with_reducible refine (epicycleref02_Mul.calls k1 x8_1 a1 a0 t147 _ A6.out).mono ?_); rintro e w' ⟨rfl, ⟨nd, rfl⟩⟩; refine ⟨_, rfl, ?_⟩))
     go_roundg k1
     case measure => have := HK1.out; omega
     case rel => exact ⟨(y144), (t147), (wrap64 (x9_1 + 1)), (by first | rfl | (simp; done) | (simp [*]; done)), (by first | rfl | (simp; done) | (simp [*]; done)), H', ⟨by have := HK1.out; omega⟩, ⟨by (with_reducible repeat (first | apply Kd.R_alloc | apply Kd.R_drewN | apply Kd.R_drew)); exact HO146.out⟩, ⟨by repeat (first | (with_reducible first | exact HB.out | apply below_alloc | apply pw_below_drewN | apply below_drew1) | exact HB.out)⟩⟩
    ·rw [if_neg c5] at H
     exact absurd H (by simp)
   ·rw [if_neg c4] at H
    have c4b0 : decide (x9_1 < a2) = false := decide_eq_false c4
    clear c4
    obtain rfl := Option.some.inj H
    go_wp2
    go_ret
    exact ⟨_, by first | rfl | (simp [errW_none, errW_some] <;> rfl) | (simp [*, errW_none, errW_some] <;> rfl), by (with_reducible repeat (first | apply Kd.R_alloc | apply Kd.R_drewN | apply Kd.R_drew)); exact HO_7.out, by repeat (first | (with_reducible first | exact HB.out | apply below_alloc | apply pw_below_drewN | apply below_drew1) | exact HB.out)⟩
end Go.Proofs.YthnpjjpdlihepaaGreat.XL
end
