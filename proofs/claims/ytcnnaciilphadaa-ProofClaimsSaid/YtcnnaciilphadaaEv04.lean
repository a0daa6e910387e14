/- Layer 4: what the program's side comes to, in plain words. -/
import Derived.Test.YtcnnaciilphadaaXP3
import Derived.Test.YtcnnaciilphadaaNt
namespace Go.Proofs.Ytcnnaciilphadaa.XP
open Go Go.RowKit Go.Proofs.YtcnnaciilphadaaW.PrintWords Go.Proofs.YtcnnaciilphadaaW.PrintLast Go.Proofs.YtcnnaciilphadaaW.PrintMore Go.Proofs.Ytcnnaciilphadaa.Given Go.Proofs.Ytcnnaciilphadaa.Given04 Go.Proofs.Ytcnnaciilphadaa.M Go.Proofs.Ytcnnaciilphadaa.Mont

def p59 (x : S59) : Int × Int := (x.f0, x.f1)
def okP (x : Int × Int) : Prop := U x.1 ∧ -9223372036854775808 ≤ x.2 ∧ x.2 < 9223372036854775808
def okL (l : List (Int × Int)) : Prop := ∀ x ∈ l, okP x

/-- Every factor is greater than the one ahead of it, and claimed; each stands there 1 to 62 times; the product is m. -/
def wr (A : Int → Bool) (m : Int) : Int → List (Int × Int) → Int → Bool
  | _, [], n => n == m
  | q, x :: l, n => (decide (1 ≤ x.2) && decide (x.2 ≤ 62)) && (decide (q < x.1) && A x.1) && wr A m x.1 l (n * x.1 ^ x.2.toNat)

theorem pow_ge_one {q : Int} (h : 1 ≤ q) : ∀ n : Nat, 1 ≤ q ^ n
  | 0 => by simp
  | n + 1 => by
    rw [Int.pow_succ]
    have := Int.mul_le_mul (pow_ge_one h n) h (by omega) (by have := pow_ge_one h n; omega)
    simpa using this

theorem mul_ge_left {n a : Int} (hn : 0 ≤ n) (ha : 1 ≤ a) : n ≤ n * a := by
  have := Int.mul_le_mul_of_nonneg_left ha hn
  simpa using this

theorem wr_big {A : Int → Bool} {m : Int} (hm : m < 18446744073709551616) : ∀ (l : List (Int × Int)) (q n : Int), 2 ≤ q → 18446744073709551616 ≤ n → wr A m q l n = false
  | [], q, n, _, hn => by unfold wr; exact beq_eq_false_iff_ne.mpr (by omega)
  | x :: l, q, n, hq, hn => by
    unfold wr
    by_cases h : q < x.1
    · rw [wr_big hm l x.1 _ (by omega) (by have := mul_ge_left (n := n) (by omega) (pow_ge_one (q := x.1) (by omega) x.2.toNat); omega), Bool.and_false]
    · rw [decide_eq_false h]; simp

theorem mul64_f {x y : Int} (hx : U x) (hy : U y) : bits_Mul64.f x y = some (x * y / 18446744073709551616, x * y % 18446744073709551616) := by
  unfold bits_Mul64.f
  rw [if_pos ⟨hx.1, hx.2, hy.1, hy.2⟩]

section
variable {ahead : List S54} {F : List S59} {P G len : Int}

theorem whole_l1 {i Q E : Int} {l : List (Int × Int)} (hm : P - 1 < 18446744073709551616) (hQ : 2 ≤ Q) (uQ : U Q) (e1 : 1 ≤ E) (e2 : E ≤ 62)
    (hT : ∀ n, 1 ≤ n → U n → Ev (fun k => proof_whole.l0 k ahead n F len (wrap64 (i + 1)) P G F) (wr (hasP ahead) (P - 1) Q l n)) :
    ∀ (d : Nat) (c n : Int), 0 ≤ c → c + d = E → 1 ≤ n → U n → Ev (fun k => proof_whole.l1 k ahead n F len i E c P G F Q E) (wr (hasP ahead) (P - 1) Q l (n * Q ^ d))
  | 0, c, n, c0, cd, n1, un => by
    rw [Int.pow_zero, Int.mul_one]
    refine Ev.step (fun k => ?_) (hT n n1 un)
    simp only [proof_whole.l1]
    rw [if_neg (by omega)]
  | d + 1, c, n, c0, cd, n1, un => by
    have hp : n ≤ n * Q := mul_ge_left (by omega) (by omega)
    have hw : wrap64 (c + 1) = c + 1 := w64_id _ (by omega) (by omega)
    have e : n * Q ^ (d + 1) = n * Q * Q ^ d := by rw [Int.pow_succ, Int.mul_comm (Q ^ d) Q, Int.mul_assoc]
    by_cases hb : n * Q / 18446744073709551616 > 0
    · have : wr (hasP ahead) (P - 1) Q l (n * Q ^ (d + 1)) = false := by
        rw [e]
        refine wr_big hm _ _ _ hQ ?_
        have := mul_ge_left (n := n * Q) (by omega) (pow_ge_one (q := Q) (by omega) d)
        omega
      rw [this]
      refine Ev.step (f := fun _ => some false) (fun k => ?_) (Ev.now _)
      simp only [proof_whole.l1]
      rw [if_pos (by omega), mul64_f un uQ, Option.bind_some, if_pos hb]
    · have lt : n * Q < 18446744073709551616 := by omega
      have IH := whole_l1 hm hQ uQ e1 e2 hT d (c + 1) (n * Q) (by omega) (by omega) (by omega) (by unfold U; omega)
      rw [e]
      refine Ev.step (fun k => ?_) IH
      simp only [proof_whole.l1]
      rw [if_pos (by omega), mul64_f un uQ, Option.bind_some, if_neg hb, hw, Int.emod_eq_of_lt (by omega) lt]

theorem whole_j2t {n i len i2 Q E : Int} : Ev (fun k => proof_whole.j2 k ahead n i F len i2 true P G F Q E) false :=
  Ev.step (f := fun _ => some false) (fun k => by simp [proof_whole.j2]) (Ev.now _)
theorem whole_j3t {n len i2 Q E : Int} : Ev (fun k => proof_whole.j3 k ahead n F len i2 true P G F Q E) false :=
  Ev.step (f := fun _ => some false) (fun k => by simp [proof_whole.j3]) (Ev.now _)

theorem rd_drop {F : List S59} {i : Nat} {x : S59} {l : List S59} (h : F.drop i = x :: l) : rd_T59 F (i : Int) = x ∧ i < F.length ∧ F.drop (i + 1) = l := by
  have hlt : i < F.length := by
    refine Classical.byContradiction fun c => ?_
    rw [List.drop_of_length_le (by omega)] at h
    cases h
  rw [List.drop_eq_getElem_cons hlt] at h
  injection h with h1 h2
  refine ⟨?_, hlt, h2⟩
  unfold rd_T59
  simp [List.getD, List.getElem?_eq_getElem hlt, h1]

theorem whole_step (hF : F.length ≤ 16) (hok : okL (F.map p59)) (hlen : len = (F.length : Int)) (hP : P - 1 < 18446744073709551616)
    (x : S59) (l : List S59) (i : Nat) (q n : Int) (hx : rd_T59 F (i : Int) = x) (hi : i < F.length) (hxm : x ∈ F) (i1 : 1 ≤ i) (hq : (rd_T59 F ((i - 1 : Nat) : Int)).f0 = q) (q2 : 2 ≤ q) (n1 : 1 ≤ n) (un : U n)
    (IH : 2 ≤ x.f0 → ∀ n, 1 ≤ n → U n → Ev (fun k => proof_whole.l0 k ahead n F len ((i + 1 : Nat) : Int) P G F) (wr (hasP ahead) (P - 1) x.f0 (l.map p59) n)) :
    Ev (fun k => proof_whole.l0 k ahead n F len i P G F) (wr (hasP ahead) (P - 1) q ((x :: l).map p59) n) := by
  have p0 : (i : Int) > 0 := by omega
  have p1 : 0 ≤ ((i - 1 : Nat) : Int) := by omega
  have p2 : ((i - 1 : Nat) : Int) < (F.length : Int) := by omega
  have p3 : (i : Int) < len := by omega
  have p4 : 0 ≤ (i : Int) := by omega
  have p5 : (i : Int) < (F.length : Int) := by omega
  have hxo : okP (p59 x) := hok _ (List.mem_map_of_mem hxm)
  have ux : U x.f0 := hxo.1
  rw [List.map_cons]
  by_cases h1 : x.f1 < 1
  · have e : wr (hasP ahead) (P - 1) q (p59 x :: l.map p59) n = false := by
      unfold wr p59; rw [decide_eq_false (show ¬ 1 ≤ x.f1 by omega)]; simp
    rw [e]
    refine Ev.step (fun k => ?_) (whole_j2t (ahead := ahead) (F := F) (P := P) (G := G) (n := n) (i := i) (len := len) (i2 := i) (Q := x.f0) (E := x.f1))
    simp only [proof_whole.l0]
    rw [if_pos p3, if_pos p4, if_pos p5, hx, if_pos h1]
  by_cases h2 : x.f1 > 62
  · have e : wr (hasP ahead) (P - 1) q (p59 x :: l.map p59) n = false := by
      unfold wr p59; rw [decide_eq_false (show ¬ x.f1 ≤ 62 by omega)]; simp
    rw [e]
    refine Ev.step (fun k => ?_) (whole_j2t (ahead := ahead) (F := F) (P := P) (G := G) (n := n) (i := i) (len := len) (i2 := i) (Q := x.f0) (E := x.f1))
    simp only [proof_whole.l0]
    rw [if_pos p3, if_pos p4, if_pos p5, hx, if_neg h1, decide_eq_true h2]
  have w1 : wrap64 ((i : Int) - 1) = ((i - 1 : Nat) : Int) := by rw [w64_id _ (by omega) (by omega)]; omega
  -- what stands behind the first check
  suffices hj : Ev (fun k => proof_whole.j2 k ahead n i F len i false P G F x.f0 x.f1) (wr (hasP ahead) (P - 1) q (p59 x :: l.map p59) n) by
    refine Ev.step (fun k => ?_) hj
    simp only [proof_whole.l0]
    rw [if_pos p3, if_pos p4, if_pos p5, hx, if_neg h1, decide_eq_false h2]
  by_cases h3 : x.f0 ≤ q
  · have e : wr (hasP ahead) (P - 1) q (p59 x :: l.map p59) n = false := by
      unfold wr p59; rw [decide_eq_false (show ¬ q < x.f0 by omega)]; simp
    rw [e]
    refine Ev.step (fun k => ?_) (whole_j3t (ahead := ahead) (F := F) (P := P) (G := G) (n := n) (len := len) (i2 := i) (Q := x.f0) (E := x.f1))
    simp only [proof_whole.j2]
    rw [if_neg (show ¬ (false = true) from Bool.false_ne_true), if_pos p0, w1, if_pos p1, if_pos p2, hq, if_pos h3]
  cases h4 : hasP ahead x.f0 with
  | false =>
    have e : wr (hasP ahead) (P - 1) q (p59 x :: l.map p59) n = false := by
      unfold wr p59; simp only [h4]; simp
    rw [e]
    refine Ev.step (fun k => ?_) (whole_j3t (ahead := ahead) (F := F) (P := P) (G := G) (n := n) (len := len) (i2 := i) (Q := x.f0) (E := x.f1))
    simp only [proof_whole.j2]
    rw [if_neg (show ¬ (false = true) from Bool.false_ne_true), if_pos p0, w1, if_pos p1, if_pos p2, hq, if_neg h3, proof_claimed.f, Option.bind_some, h4]
    rfl
  | true =>
    have w2 : wrap64 ((i : Int) + 1) = ((i + 1 : Nat) : Int) := by rw [w64_id _ (by omega) (by omega)]; omega
    have L1 := whole_l1 (ahead := ahead) (F := F) (P := P) (G := G) (len := len) (i := i) (Q := x.f0) (E := x.f1) (l := l.map p59) (by omega) (by omega) ux (by omega) (by omega)
      (fun n n1 un => by rw [w2]; exact IH (by omega) n n1 un) x.f1.toNat 0 n (by omega) (by omega) n1 un
    have e : wr (hasP ahead) (P - 1) q (p59 x :: l.map p59) n = wr (hasP ahead) (P - 1) x.f0 (l.map p59) (n * x.f0 ^ x.f1.toNat) := by
      have a1 : 1 ≤ x.f1 := by omega
      have a2 : x.f1 ≤ 62 := by omega
      have a3 : q < x.f0 := by omega
      rw [wr]; simp [p59, h4, a1, a2, a3]
    rw [e]
    refine Ev.step (f := fun k => proof_whole.j3 k ahead n F len i false P G F x.f0 x.f1) (fun k => ?_) (Ev.step (fun k => ?_) L1)
    · simp only [proof_whole.j2]
      rw [if_neg (show ¬ (false = true) from Bool.false_ne_true), if_pos p0, w1, if_pos p1, if_pos p2, hq, if_neg h3, proof_claimed.f, Option.bind_some, h4]
      rfl
    · simp only [proof_whole.j3]
      rw [if_neg (show ¬ (false = true) from Bool.false_ne_true)]

theorem whole_l0 (hF : F.length ≤ 16) (hok : okL (F.map p59)) (hP : 1 ≤ P) (hP2 : P < 18446744073709551616) (hlen : len = (F.length : Int)) (l : List S59) :
    ∀ (i : Nat) (q n : Int), F.drop i = l → 1 ≤ i → (rd_T59 F ((i - 1 : Nat) : Int)).f0 = q → 2 ≤ q → 1 ≤ n → U n →
      Ev (fun k => proof_whole.l0 k ahead n F len i P G F) (wr (hasP ahead) (P - 1) q (l.map p59) n) := by
  induction l with
  | nil =>
    intro i q n hd i1 hq q2 n1 un
    have : F.length ≤ i := by have := congrArg List.length hd; simp at this; omega
    refine Ev.step (f := fun _ => some (n == P - 1)) (fun k => ?_) (Ev.now _)
    simp only [proof_whole.l0]
    rw [if_neg (by omega), wu64_id _ (by omega) (by omega)]
  | cons x l ih =>
    intro i q n hd i1 hq q2 n1 un
    obtain ⟨hx, hi, hd'⟩ := rd_drop hd
    have hxm : x ∈ F := List.mem_of_mem_drop (show x ∈ F.drop i by rw [hd]; exact List.mem_cons_self)
    exact whole_step hF hok hlen (by omega) x l i q n hx hi hxm i1 hq q2 n1 un (fun h2 n n1 un => ih (i + 1) x.f0 n hd' (by omega) (by rw [show i + 1 - 1 = i from rfl, hx]) h2 n1 un)

end
end Go.Proofs.Ytcnnaciilphadaa.XP
