/- Layer 5: the factors by trials, the program's and the document's. -/
import Derived.Test.YtcphlhphdpjnfaaXS3
import Derived.Test.YtcphlhphdpjnfaaNt
import Derived.Test.YtcphlhphdpjnfaaRoot
namespace Go.Proofs.Ytcphlhphdpjnfaa.XS
open Go Go.RowKit Go.Proofs.YtcphlhphdpjnfaaW.PrintWords Go.Proofs.YtcphlhphdpjnfaaW.PrintLast Go.Proofs.YtcphlhphdpjnfaaW.PrintMore Go.Proofs.Ytcphlhphdpjnfaa.Given Go.Proofs.Ytcphlhphdpjnfaa.M Go.Proofs.Ytcphlhphdpjnfaa.Num

def m33 (l : List (Nat × Nat)) : List S33 := l.map fun x => ⟨(x.1 : Int), (x.2 : Int)⟩
def m34 (l : List (Nat × Nat)) : List S34 := l.map fun x => ⟨(x.1 : Int), (x.2 : Int)⟩

theorem fac_l1_end {acc : List S33} {d : Int} {R : List S33} (hd : 2 ≤ d) (hd2 : d < 4294967300) (hacc : acc.length < 8796093022208) {n c : Int} (hn : 0 ≤ n) (hm : ¬ n % d = 0)
    (E : Ev (fun k => sieve_Factor.l0 k n (if c > 0 then acc ++ [⟨d, c⟩] else acc) (d + 1)) R) : Ev (fun k => sieve_Factor.l1 k n acc d c) R := by
  have h0 : ¬ d = 0 := by omega
  have h1 : ¬ Int.tmod n d = 0 := by rw [tmod_pos hn]; exact hm
  have hw : IntKind.u64.wrap (d + 1) = d + 1 := wu64_id _ (by omega) (by omega)
  by_cases c1 : c > 0
  · rw [if_pos c1] at E
    refine Ev.step (fun k => ?_) E
    simp only [sieve_Factor.l1]
    rw [if_neg h0, if_neg h1, if_pos c1, if_pos hacc, hw]
  · rw [if_neg c1] at E
    refine Ev.step (fun k => ?_) E
    simp only [sieve_Factor.l1]
    rw [if_neg h0, if_neg h1, if_neg c1, hw]

theorem fac_l1_step {acc : List S33} {d : Int} {R : List S33} (hd : 2 ≤ d) {n q c : Int} (hq : 0 ≤ q) (hq2 : q < 4294967300) (hn : n = d * q) (hn0 : 0 ≤ n) (hc0 : 0 ≤ c) (hc : c < 8589934600)
    (E : Ev (fun k => sieve_Factor.l1 k q acc d (c + 1)) R) : Ev (fun k => sieve_Factor.l1 k n acc d c) R := by
  have h0 : ¬ d = 0 := by omega
  have h1 : Int.tmod n d = 0 := by rw [tmod_pos hn0, hn, Int.mul_emod_right]
  have h2 : IntKind.u64.wrap (Int.tdiv n d) = q := by rw [tdiv_pos hn0, hn, Int.mul_ediv_cancel_left _ h0, wu64_id _ hq (by omega)]
  have hw : wrap64 (c + 1) = c + 1 := w64_id _ (by omega) (by omega)
  refine Ev.step (fun k => ?_) E
  simp only [sieve_Factor.l1]
  rw [if_neg h0, if_pos h1, h2, hw]

theorem fac_l1 {acc : List S33} {d m : Nat} {R : List S33} (hd : 2 ≤ d) (hd2 : d < 4294967300) (hacc : acc.length < 8796093022208) (hm : ¬ d ∣ m) (hm0 : 0 < m) (e : Nat) : ∀ (c n : Nat), c + e < 8589934600 → n < 4294967300 → n = d ^ e * m →
    Ev (fun k => sieve_Factor.l0 k (m : Int) (if ((c + e : Nat) : Int) > 0 then acc ++ [⟨(d : Int), ((c + e : Nat) : Int)⟩] else acc) ((d : Int) + 1)) R → Ev (fun k => sieve_Factor.l1 k (n : Int) acc (d : Int) (c : Int)) R := by
  induction e with
  | zero =>
    intro c n _ _ hn E
    rw [Nat.pow_zero, Nat.one_mul] at hn
    subst hn
    rw [Nat.add_zero] at E
    refine fac_l1_end (by omega) (by omega) hacc (by omega) (fun h => hm ?_) E
    rw [← Int.natCast_emod] at h
    exact Nat.dvd_of_mod_eq_zero (by omega)
  | succ e ih =>
    intro c n hc hn hp E
    have hmul : n = d * (d ^ e * m) := by rw [hp, Nat.pow_succ, Nat.mul_comm (d ^ e) d, Nat.mul_assoc]
    have hle : d ^ e * m ≤ n := by rw [hmul]; exact Nat.le_mul_of_pos_left _ (by omega)
    have IH := ih (c + 1) (d ^ e * m) (by omega) (Nat.lt_of_le_of_lt hle hn) rfl (by rw [show c + 1 + e = c + (e + 1) by omega]; exact E)
    generalize d ^ e * m = q at *
    refine fac_l1_step (q := (q : Int)) (by omega) (by omega) (by omega) (by rw [hmul]; simp) (by omega) (by omega) (by omega) (by rw [show (c : Int) + 1 = ((c + 1 : Nat) : Int) by omega]; exact IH)

/-! #### the document's -/
theorem rfac_l1_end {acc : List S34} {d : Int} {R : List S34} (hd : 2 ≤ d) (hd2 : d < 4294967300) (hacc : acc.length < 8796093022208) {n c : Int} (hn : 0 ≤ n) (hm : ¬ n % d = 0)
    (E : Ev (fun k => epicycleref05_Factor.l0 k n (if c > 0 then acc ++ [⟨d, c⟩] else acc) (d + 1)) R) : Ev (fun k => epicycleref05_Factor.l1 k n acc d c) R := by
  have h0 : ¬ d = 0 := by omega
  have h1 : ¬ Int.tmod n d = 0 := by rw [tmod_pos hn]; exact hm
  have hw : IntKind.u64.wrap (d + 1) = d + 1 := wu64_id _ (by omega) (by omega)
  by_cases c1 : c > 0
  · rw [if_pos c1] at E
    refine Ev.step (fun k => ?_) E
    simp only [epicycleref05_Factor.l1]
    rw [if_neg h0, if_neg h1, if_pos c1, if_pos hacc, hw]
  · rw [if_neg c1] at E
    refine Ev.step (fun k => ?_) E
    simp only [epicycleref05_Factor.l1]
    rw [if_neg h0, if_neg h1, if_neg c1, hw]

theorem rfac_l1_step {acc : List S34} {d : Int} {R : List S34} (hd : 2 ≤ d) {n q c : Int} (hq : 0 ≤ q) (hq2 : q < 4294967300) (hn : n = d * q) (hn0 : 0 ≤ n) (hc0 : 0 ≤ c) (hc : c < 8589934600)
    (E : Ev (fun k => epicycleref05_Factor.l1 k q acc d (c + 1)) R) : Ev (fun k => epicycleref05_Factor.l1 k n acc d c) R := by
  have h0 : ¬ d = 0 := by omega
  have h1 : Int.tmod n d = 0 := by rw [tmod_pos hn0, hn, Int.mul_emod_right]
  have h2 : IntKind.u64.wrap (Int.tdiv n d) = q := by rw [tdiv_pos hn0, hn, Int.mul_ediv_cancel_left _ h0, wu64_id _ hq (by omega)]
  have hw : wrap64 (c + 1) = c + 1 := w64_id _ (by omega) (by omega)
  refine Ev.step (fun k => ?_) E
  simp only [epicycleref05_Factor.l1]
  rw [if_neg h0, if_pos h1, h2, hw]

theorem rfac_l1 {acc : List S34} {d m : Nat} {R : List S34} (hd : 2 ≤ d) (hd2 : d < 4294967300) (hacc : acc.length < 8796093022208) (hm : ¬ d ∣ m) (hm0 : 0 < m) (e : Nat) : ∀ (c n : Nat), c + e < 8589934600 → n < 4294967300 → n = d ^ e * m →
    Ev (fun k => epicycleref05_Factor.l0 k (m : Int) (if ((c + e : Nat) : Int) > 0 then acc ++ [⟨(d : Int), ((c + e : Nat) : Int)⟩] else acc) ((d : Int) + 1)) R → Ev (fun k => epicycleref05_Factor.l1 k (n : Int) acc (d : Int) (c : Int)) R := by
  induction e with
  | zero =>
    intro c n _ _ hn E
    rw [Nat.pow_zero, Nat.one_mul] at hn
    subst hn
    rw [Nat.add_zero] at E
    refine rfac_l1_end (by omega) (by omega) hacc (by omega) (fun h => hm ?_) E
    rw [← Int.natCast_emod] at h
    exact Nat.dvd_of_mod_eq_zero (by omega)
  | succ e ih =>
    intro c n hc hn hp E
    have hmul : n = d * (d ^ e * m) := by rw [hp, Nat.pow_succ, Nat.mul_comm (d ^ e) d, Nat.mul_assoc]
    have hle : d ^ e * m ≤ n := by rw [hmul]; exact Nat.le_mul_of_pos_left _ (by omega)
    have IH := ih (c + 1) (d ^ e * m) (by omega) (Nat.lt_of_le_of_lt hle hn) rfl (by rw [show c + 1 + e = c + (e + 1) by omega]; exact E)
    generalize d ^ e * m = q at *
    refine rfac_l1_step (q := (q : Int)) (by omega) (by omega) (by omega) (by rw [hmul]; simp) (by omega) (by omega) (by omega) (by rw [show (c : Int) + 1 = ((c + 1 : Nat) : Int) by omega]; exact IH)

end Go.Proofs.Ytcphlhphdpjnfaa.XS
