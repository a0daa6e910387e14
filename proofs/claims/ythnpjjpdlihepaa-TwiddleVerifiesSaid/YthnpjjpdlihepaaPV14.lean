/- Parts of this claim's texts, packed by wip/tools/prune.py: what the proof does not reach is left out. -/
import Derived.Test.YthnpjjpdlihepaaPV13
section
namespace Go.Proofs.Ythnpjjpdlihepaa.T10
open Go Go.RowKit Go.Proofs.YthnpjjpdlihepaaW.PrintWords Go.Proofs.YthnpjjpdlihepaaW.PrintLast Go.Proofs.YthnpjjpdlihepaaW.PrintMore Go.Proofs.Ythnpjjpdlihepaa.Given Go.Proofs.Ythnpjjpdlihepaa.M Go.Proofs.Ythnpjjpdlihepaa.Mont Go.Proofs.Ythnpjjpdlihepaa.XS Go.Proofs.Ythnpjjpdlihepaa.XT Go.Proofs.Ythnpjjpdlihepaa.XR Go.Proofs.Ythnpjjpdlihepaa.Num Go.Proofs.Ythnpjjpdlihepaa.XK Go.Proofs.Ythnpjjpdlihepaa.F06 Go.Proofs.Ythnpjjpdlihepaa.XW
set_option linter.unusedVariables false
def I64 (x : Int) : Prop := -9223372036854775808 ≤ x ∧ x < 9223372036854775808
def powL (p w : Int) (n : Nat) : List Int := (List.range n).map fun i => w ^ i % p
theorem powL_len (p w : Int) (n : Nat) : (powL p w n).length = n := by unfold powL; rw [List.length_map, List.length_range]
theorem powL_at {p w : Int} {n i : Nat} (h : i < n) : (powL p w n)[i]? = some (w ^ i % p) := by
  unfold powL
  rw [List.getElem?_map, List.getElem?_range h]
  rfl
theorem rd_nat (l : List Int) (i : Nat) : rd l (i : Int) = l.getD i 0 := by unfold rd; rw [Int.toNat_natCast]
theorem rd_powL {p w : Int} {n i : Nat} (h : i < n) : rd (powL p w n) (i : Int) = w ^ i % p := by
  rw [rd_nat, List.getD_eq_getElem?_getD, powL_at h]
  rfl
theorem rd_mem {l : List Int} {i : Nat} (h : i < l.length) : rd l (i : Int) ∈ l := by
  rw [rd_nat, List.getD_eq_getElem?_getD, List.getElem?_eq_getElem h]
  exact List.getElem_mem h
theorem wrap_succ {i : Nat} (h : i ≤ 1000000000) : wrap64 ((i : Int) + 1) = ((i + 1 : Nat) : Int) := by rw [w64_id _ (by omega) (by omega)]; omega
noncomputable def trootI (F : Fld) (n : Int) (inv : Bool) : Int := if inv = true then invF F.p (rootI F n) else rootI F n
theorem rootI_range {F : Fld} (hg : GoodFld F) (n : Int) : 0 ≤ rootI F n ∧ rootI F n < F.p := ⟨Int.emod_nonneg _ hg.ne, Int.emod_lt_of_pos _ (by have := hg.lo; omega)⟩
theorem trootI_range {F : Fld} (hg : GoodFld F) (n : Int) (inv : Bool) : 0 ≤ trootI F n inv ∧ trootI F n inv < F.p := by
  have hlo := hg.lo
  unfold trootI
  split
  · by_cases h : rootI F n % F.p = 0
    · rw [hg.inv0 h]; omega
    · obtain ⟨_, _, _, h0, h1⟩ := hg.inv h
      exact ⟨h0, h1⟩
  · exact rootI_range hg n
theorem troot_U {F : Fld} (hg : GoodFld F) (n : Int) (inv : Bool) : U (trootI F n inv) := by
  have := trootI_range hg n inv
  have := hg.hi
  unfold U; omega
theorem pow_inv_one {F : Fld} (hg : GoodFld F) {u w : Int} (h : u * w % F.p = 1) (k : Nat) : u ^ k * w ^ k % F.p = 1 := by
  rw [← Int.mul_pow, ← emod_pow, h, Int.one_pow]
  exact hg.one
theorem troot_ord {F : Fld} (hg : GoodFld F) {n : Int} (hn : 0 < n) (hd : (F.p - 1) % n = 0) (inv : Bool) (k : Nat) : trootI F n inv ^ k % F.p = 1 ↔ n.toNat ∣ k := by
  cases inv with
  | false => exact hg.root_ord hn hd k
  | true =>
    rw [← hg.root_ord hn hd k]
    show invF F.p (rootI F n) ^ k % F.p = 1 ↔ _
    have h := pow_inv_one hg (hg.inv (hg.root_ne hn hd)).2.1 k
    constructor
    · intro e
      rw [← emod_mul_l, e, Int.one_mul] at h
      exact h
    · intro e
      rw [← emod_mul_r, e, Int.mul_one] at h
      exact h
noncomputable def trootS (F : Fld) (n : Int) (inv : Bool) : Int × Int := if n < 1 then (0, 1) else if n > 4096 then (0, 13) else if (F.p - 1) % n = 0 then (trootI F n inv, 0) else (0, 4)
theorem troot_ev {F : Fld} (hg : GoodFld F) {n : Int} (hn : I64 n) (inv : Bool) : Ev (fun k => twiddle_Root.f k [F] n inv) (trootS F n inv) := by
  refine Ev.congr (f := fun k => if n < 1 then some (0, 1) else (if n > 4096 then some (0, 13) else ((field_Field_Root.f [F] n).bind fun bt113 => (if bt113.2 = 0 then (twiddle_Root.j0 k [F] bt113.1 bt113.2 inv) else (twiddle_Root.j0 k [F] bt113.1 bt113.2 false))))) (fun k => by unfold twiddle_Root.f; rw [if_neg (by simp)]) ?_
  unfold trootS
  by_cases h1 : n < 1
  · rw [if_pos h1]; exact evP h1 (Ev.now _)
  rw [if_neg h1]
  refine evN h1 ?_
  by_cases h2 : n > 4096
  · rw [if_pos h2]; exact evP h2 (Ev.now _)
  rw [if_neg h2]
  refine evN h2 ?_
  have hj : ∀ w e, Ev (fun k => twiddle_Root.j0 k [F] w e false) (w, e) := fun w e => stepE ⟨_, fun k => by simp only [twiddle_Root.j0]; rw [if_neg (by decide)], Ev.now _⟩
  by_cases hd : (F.p - 1) % n = 0
  · rw [if_pos hd]
    refine evB (Root_at F hn.2 (by omega) hd) (evP rfl ?_)
    cases inv with
    | false => exact hj _ _
    | true => exact stepE ⟨_, fun k => by simp only [twiddle_Root.j0]; rw [if_pos trivial], evB (field_Field_Inv.at_ (hg.uRoot n)) (Ev.now _)⟩
  · rw [if_neg hd]
    refine evB (Root_not F hn.2 (fun h => hd h.2)) (evN (by decide) (hj _ _))
theorem table_l0 {F : Fld} (hg : GoodFld F) {w : Int} {n : Nat} (hn : n ≤ 4096) (d : Nat) : ∀ (i : Nat) (l : List Int), i + d = n → l.length = n → (∀ j, j < i → l[j]? = some (w ^ j % F.p)) →
    Ev (fun k => twiddle_Table.l0 k [F] (mIn F.p w) l (w ^ i % F.p) (n : Int) (i : Int)) (powL F.p w n, 0) := by
  induction d with
  | zero =>
    intro i l hi hl hj
    refine stepE ⟨_, fun k => by simp only [twiddle_Table.l0]; rw [if_neg (by omega)], evR (Ev.now _) ?_⟩
    congr 1
    refine List.ext_getElem? fun j => ?_
    by_cases c : j < n
    · rw [hj j (by omega), powL_at c]
    · rw [List.getElem?_eq_none (by omega), List.getElem?_eq_none (by rw [powL_len]; omega)]
  | succ d ih =>
    intro i l hi hl hj
    have T := field_Field_Times.at_ (F := F) (l := []) ⟨show U (mIn F.p w) from hg.uE _, hg.uE (w ^ i)⟩
    rw [mul_in hg.m, emod_mul_r, Int.mul_comm, ← Int.pow_succ] at T
    refine stepE ⟨_, fun k => by simp only [twiddle_Table.l0]; rw [if_pos (by omega), if_pos (by omega), if_pos (by omega), wrap_succ (by omega), Int.toNat_natCast], ?_⟩
    refine evB T (ih (i + 1) (l.set i (w ^ i % F.p)) (by omega) (by rw [List.length_set]; exact hl) fun j hj' => ?_)
    by_cases c : j = i
    · subst c
      rw [List.getElem?_set_self (by omega)]
    · rw [List.getElem?_set_ne (by omega)]
      exact hj j (by omega)
theorem table_ev {F : Fld} (hg : GoodFld F) {n : Int} (h1 : 1 ≤ n) (h2 : n ≤ 4096) (hd : (F.p - 1) % n = 0) (inv : Bool) : Ev (fun k => twiddle_Table.f k [F] n inv) (powL F.p (trootI F n inv) n.toNat, 0) := by
  have R := troot_ev hg (n := n) ⟨by omega, by omega⟩ inv
  have e : trootS F n inv = (trootI F n inv, 0) := by unfold trootS; rw [if_neg (by omega), if_neg (by omega), if_pos hd]
  rw [e] at R
  refine Ev.congr (fun k => rfl) (Ev.bind R (evP rfl (evB (field_Field_Lift.at_ (F := F) (l := []) (troot_U hg n inv)) (evP (by omega) (evP (by omega) ?_)))))
  have T := table_l0 hg (w := trootI F n inv) (n := n.toNat) (by omega) n.toNat 0 (List.replicate n.toNat 0) (by omega) (List.length_replicate) (fun j hj => by omega)
  rw [Int.pow_zero, hg.one] at T
  refine Ev.congr (fun k => ?_) T
  simp only [Option.bind_some, List.length_replicate]
  rfl
def snd (l : List Int) : Int := rd l ((1 % l.length : Nat) : Int)
def TabP (p : Int) (l : List Int) : Prop := 1 ≤ l.length ∧ l.length ≤ 4096 ∧ rd l 0 = 1 ∧ (∀ j, 0 ≤ j → j < l.length → rd l (j : Int) = snd l ^ j % p ∧ (0 < j → snd l ^ j % p ≠ 1)) ∧ snd l ^ l.length % p = 1
theorem iff_of_true_ {b : Bool} {P : Prop} (hb : b = true) (hp : P) : (b = true ↔ P) := ⟨fun _ => hp, fun _ => hb⟩
theorem iff_of_false_ {b : Bool} {P : Prop} (hb : b = false) (hp : ¬ P) : (b = true ↔ P) := ⟨fun h => absurd (hb.symm.trans h) Bool.false_ne_true, fun h => absurd h hp⟩
theorem right_l0 {p w : Int} (up : U p) (h0 : p ≠ 0) (uw : U w) {l : List Int} {n : Nat} (hn : n ≤ 4096) (hl : l.length = n) (d : Nat) : ∀ i : Nat, i + d = n →
    ∃ b, Ev (fun k => epicycleref10_Right.l0 k p l (n : Int) (w ^ i % p) w (i : Int)) b ∧ (b = true ↔ (∀ j, i ≤ j → j < n → rd l (j : Int) = w ^ j % p ∧ (0 < j → w ^ j % p ≠ 1)) ∧ w ^ n % p = 1) := by
  induction d with
  | zero =>
    intro i hi
    refine ⟨(w ^ i % p == 1), stepE ⟨_, fun k => by simp only [epicycleref10_Right.l0]; rw [if_neg (by omega)], Ev.now _⟩, ?_⟩
    rw [beq_iff_eq, show i = n by omega]
    exact ⟨fun h => ⟨fun j h1 h2 => by omega, h⟩, fun h => h.2⟩
  | succ d ih =>
    intro i hi
    have J1 : Ev (fun k => epicycleref10_Right.j2 k p l (n : Int) (w ^ i % p) w (i : Int) true) false :=
      stepE ⟨_, fun k => by simp only [epicycleref10_Right.j2]; rw [if_pos trivial], Ev.now _⟩
    obtain ⟨b, hb, hbi⟩ := ih (i + 1) (by omega)
    have J2 : Ev (fun k => epicycleref10_Right.j2 k p l (n : Int) (w ^ i % p) w (i : Int) false) b := by
      refine stepE ⟨_, fun k => by simp only [epicycleref10_Right.j2]; rw [if_neg (by decide), wrap_succ (by omega)], ?_⟩
      have Mu := ref02_Mul_ev (U_emod (w ^ i) up h0) uw up h0
      rw [emod_mul_l, ← Int.pow_succ] at Mu
      exact Ev.bind Mu hb
    by_cases h1 : rd l (i : Int) = w ^ i % p
    · by_cases h2 : 0 < i
      · by_cases h3 : w ^ i % p = 1
        · refine ⟨false, stepE ⟨_, fun k => by simp only [epicycleref10_Right.l0]; rw [if_pos (by omega), if_pos (by omega), if_pos (by omega), if_pos h1, if_pos (by omega), beq_iff_eq.2 h3], J1⟩, iff_of_false_ rfl fun h => (h.1 i (Nat.le_refl _) (by omega)).2 h2 h3⟩
        · refine ⟨b, stepE ⟨_, fun k => by simp only [epicycleref10_Right.l0]; rw [if_pos (by omega), if_pos (by omega), if_pos (by omega), if_pos h1, if_pos (by omega), beq_eq_false_iff_ne.2 h3], J2⟩, hbi.trans ⟨fun h => ⟨fun j a c => ?_, h.2⟩, fun h => ⟨fun j a c => h.1 j (by omega) c, h.2⟩⟩⟩
          by_cases e : j = i
          · subst e; exact ⟨h1, fun _ => h3⟩
          · exact h.1 j (by omega) c
      · refine ⟨b, stepE ⟨_, fun k => by simp only [epicycleref10_Right.l0]; rw [if_pos (by omega), if_pos (by omega), if_pos (by omega), if_pos h1, if_neg (by omega)], J2⟩, hbi.trans ⟨fun h => ⟨fun j a c => ?_, h.2⟩, fun h => ⟨fun j a c => h.1 j (by omega) c, h.2⟩⟩⟩
        by_cases e : j = i
        · subst e; exact ⟨h1, fun h' => absurd h' h2⟩
        · exact h.1 j (by omega) c
    · refine ⟨false, stepE ⟨_, fun k => by simp only [epicycleref10_Right.l0]; rw [if_pos (by omega), if_pos (by omega), if_pos (by omega), if_neg h1], J1⟩, iff_of_false_ rfl fun h => h1 (h.1 i (Nat.le_refl _) (by omega)).1⟩
theorem snd_U {l : List Int} (hu : ∀ x ∈ l, U x) (h : 1 ≤ l.length) : U (snd l) := hu _ (rd_mem (Nat.mod_lt _ (by omega)))
theorem right_ev {p : Int} (hp : 3 ≤ p) (up : U p) {l : List Int} (hu : ∀ x ∈ l, U x) : ∃ b, Ev (fun k => epicycleref10_Right.f k p l) b ∧ (b = true ↔ TabP p l) := by
  have J1 : ∀ m : Int, Ev (fun k => epicycleref10_Right.j0 k p l m true) false := fun m =>
    stepE ⟨_, fun k => by simp only [epicycleref10_Right.j0]; rw [if_pos trivial], Ev.now _⟩
  by_cases h1 : (l.length : Int) < 1
  · refine ⟨false, Ev.congr (fun k => rfl) (evP h1 (J1 _)), iff_of_false_ rfl fun h => ?_⟩
    have := h.1; omega
  by_cases h2 : (l.length : Int) > 4096
  · refine ⟨false, Ev.congr (fun k => rfl) (evN h1 (evP h2 (J1 _))), iff_of_false_ rfl fun h => ?_⟩
    have := h.2.1; omega
  by_cases h3 : rd l 0 = 1
  · obtain ⟨b, hb, hbi⟩ := right_l0 up (by omega) (snd_U hu (by omega)) (l := l) (n := l.length) (by omega) rfl l.length 0 (by omega)
    refine ⟨b, Ev.congr (fun k => rfl) (evN h1 (evN h2 (evP (by omega) ?_))), hbi.trans ⟨fun h => ⟨by omega, by omega, h3, h.1, h.2⟩, fun h => ⟨h.2.2.2.1, h.2.2.2.2⟩⟩⟩
    have e0 : (rd l 0 != 1) = false := by rw [h3]; rfl
    rw [e0]
    have em : (1 : Int) % (l.length : Int) = ((1 % l.length : Nat) : Int) := (Int.natCast_emod 1 l.length).symm
    have hm : 1 % l.length < l.length := Nat.mod_lt _ (by omega)
    refine stepE ⟨_, fun k => by simp only [epicycleref10_Right.j0]; rw [if_neg (by decide), if_neg (by omega), em, if_pos (by omega), if_pos (by omega)], ?_⟩
    have e1 : snd l ^ 0 % p = 1 := by rw [Int.pow_zero]; exact Int.emod_eq_of_lt (by omega) (by omega)
    rw [e1] at hb
    exact hb
  · refine ⟨false, Ev.congr (fun k => rfl) (evN h1 (evN h2 (evP (by omega) ?_))), iff_of_false_ rfl fun h => h3 h.2.2.1⟩
    have e0 : (rd l 0 != 1) = true := bne_iff_ne.2 h3
    rw [e0]
    exact J1 _
theorem rd_m33 {fs : List (Nat × Nat)} {i : Nat} (h : i < fs.length) : rd_T65 (m33 fs) (i : Int) = ⟨(fs[i].1 : Int), (fs[i].2 : Int)⟩ := by
  unfold rd_T65 m33
  rw [Int.toNat_natCast, List.getD_eq_getElem?_getD, List.getElem?_map, List.getElem?_eq_getElem h]
  rfl
theorem verify_l1 {l : List Int} {n : Nat} (hn : 1 ≤ n) (h4 : n ≤ 4096) (hl : l.length = n) {fs : List (Nat × Nat)} (hf : ∀ x ∈ fs, 2 ≤ x.1 ∧ x.1 ≤ n) (hm : fs.length ≤ 1000000) (d : Nat) : ∀ i : Nat, i + d = fs.length →
    ∃ b, Ev (fun k => twiddle_Verify.l1 k l (n : Int) (m33 fs) (fs.length : Int) (i : Int)) b ∧ (b = true ↔ ∀ j, i ≤ j → ∀ h : j < fs.length, rd l ((n / fs[j].1 : Nat) : Int) ≠ 1) := by
  have lm : (m33 fs).length = fs.length := List.length_map _
  induction d with
  | zero =>
    intro i hi
    exact ⟨true, stepE ⟨_, fun k => by simp only [twiddle_Verify.l1]; rw [if_neg (by omega)], Ev.now _⟩, iff_of_true_ rfl fun j h1 h2 => by omega⟩
  | succ d ih =>
    intro i hi
    have hlt : i < fs.length := by omega
    obtain ⟨b, hb, hbi⟩ := ih (i + 1) (by omega)
    obtain ⟨f2, fn⟩ := hf _ (List.getElem_mem hlt)
    have e1 : wrap64 (fs[i].1 : Int) = (fs[i].1 : Int) := w64_id _ (by omega) (by omega)
    have hdiv : n / fs[i].1 < n := Nat.div_lt_self (by omega) (by omega)
    have hd0 : (0 : Int) ≤ ((n / fs[i].1 : Nat) : Int) := Int.natCast_nonneg _
    have e2 : wrap64 (Int.tdiv (n : Int) (fs[i].1 : Int)) = ((n / fs[i].1 : Nat) : Int) := by
      rw [tdiv_pos (by omega), ← Int.natCast_ediv]
      exact w64_id _ (by omega) (by omega)
    have S : ∀ k, twiddle_Verify.l1 (k + 1) l (n : Int) (m33 fs) (fs.length : Int) (i : Int) = if rd l ((n / fs[i].1 : Nat) : Int) = 1 then some false else twiddle_Verify.l1 k l (n : Int) (m33 fs) (fs.length : Int) ((i + 1 : Nat) : Int) := fun k => by
      simp only [twiddle_Verify.l1]
      rw [if_pos (by omega), if_pos (by omega), if_pos (by omega), rd_m33 hlt]
      dsimp only
      rw [e1, if_neg (by omega), e2, if_pos (by omega), if_pos (by omega), wrap_succ (by omega)]
    by_cases c : rd l ((n / fs[i].1 : Nat) : Int) = 1
    · exact ⟨false, stepE ⟨_, fun k => by rw [S k, if_pos c], Ev.now _⟩, iff_of_false_ rfl fun h => h i (Nat.le_refl _) hlt c⟩
    · refine ⟨b, stepE ⟨_, fun k => by rw [S k, if_neg c], hb⟩, hbi.trans ⟨fun h j h1 h2 => ?_, fun h j h1 h2 => h j (by omega) h2⟩⟩
      by_cases e : j = i
      · subst e; exact c
      · exact h j (by omega) h2
theorem facs_len {d n : Nat} {l : List (Nat × Nat)} (h : Facs d n l) : l.length < n := by
  obtain ⟨h1, _, rfl⟩ := h
  have key : ∀ l : List (Nat × Nat), (∀ x ∈ l, 2 ≤ x.1 ∧ 1 ≤ x.2) → l.length < prod l := by
    intro l
    induction l with
    | nil => intro _; show 0 < 1; omega
    | cons x l ih =>
      intro h
      have a := ih fun y hy => h y (List.mem_cons_of_mem _ hy)
      obtain ⟨b, c⟩ := h x List.mem_cons_self
      have : 2 ≤ x.1 ^ x.2 := by
        have h1 := Nat.pow_le_pow_right (show 0 < x.1 by omega) c
        rw [Nat.pow_one] at h1
        omega
      have := Nat.mul_le_mul_right (prod l) this
      show l.length + 1 < x.1 ^ x.2 * prod l
      omega
  exact key l fun x hx => ⟨(h1 x hx).1.1, (h1 x hx).2.2⟩
theorem factor_ev {n : Nat} (h1 : 1 ≤ n) (h4 : n ≤ 4096) : ∃ fs : List (Nat × Nat), Ev (fun k => sieve_Factor.f k (n : Int)) (m33 fs) ∧ (∀ x ∈ fs, 2 ≤ x.1 ∧ x.1 ≤ n ∧ Prime x.1 ∧ x.1 ∣ n) ∧ (∀ q, Prime q → q ∣ n → ∃ x ∈ fs, x.1 = q) ∧ fs.length ≤ 1000000 := by
  by_cases h2 : 2 ≤ n
  · obtain ⟨fs, hf, E, _⟩ := Factor_both n h2 (by omega)
    refine ⟨fs, E, fun x hx => ?_, fun q hq hd => ?_, ?_⟩
    · have hd := hf.le (by omega) hx
      exact ⟨(hf.1 x hx).1.1, Nat.le_of_dvd (by omega) hd, (hf.1 x hx).1, hd⟩
    · rw [← hf.2.2] at hd
      obtain ⟨x, hx, hdx⟩ := hq.dvd_prod fs hd
      refine ⟨x, hx, ?_⟩
      rcases (hf.1 x hx).1.2 q hdx with e | e
      · have := hq.1; omega
      · exact e.symm
    · have := facs_len hf
      omega
  · obtain rfl : n = 1 := by omega
    refine ⟨[], (Factor_none 1 (.inl (by omega))).1, fun x hx => absurd hx (by simp), fun q hq hd => ?_, by simp⟩
    have := Nat.le_of_dvd (by omega) hd
    have := hq.1
    omega
def Goes (p w : Int) (l : List Int) (n j : Nat) : Prop := rd l (j : Int) < p ∧ rd l (j : Int) * w % p = rd l (((j + 1) % n : Nat) : Int)
theorem verify_l0 {F : Fld} (hg : GoodFld F) {w : Int} (uw : U w) {l : List Int} (hu : ∀ x ∈ l, U x) {n : Nat} (h1 : 1 ≤ n) (hn : n ≤ 4096) (hl : l.length = n) (d : Nat) : ∀ i : Nat, i + d = n →
    ∃ b, Ev (fun k => twiddle_Verify.l0 k [F] l (n : Int) w l (n : Int) (i : Int)) b ∧ (b = true ↔ (∀ j, i ≤ j → j < n → Goes F.p w l n j) ∧ ∀ q, Prime q → q ∣ n → rd l ((n / q : Nat) : Int) ≠ 1) := by
  induction d with
  | zero =>
    intro i hi
    obtain ⟨fs, E, f1, f2, f3⟩ := factor_ev h1 hn
    obtain ⟨b, hb, hbi⟩ := verify_l1 h1 hn hl (fs := fs) (fun x hx => ⟨(f1 x hx).1, (f1 x hx).2.1⟩) f3 fs.length 0 (by omega)
    have lm : (m33 fs).length = fs.length := List.length_map _
    refine ⟨b, stepE ⟨_, fun k => by simp only [twiddle_Verify.l0]; rw [if_neg (by omega), wu64_id _ (by omega) (by omega)], Ev.bind E (by rw [lm]; exact hb)⟩, hbi.trans ⟨fun h => ⟨fun j a c => by omega, fun q hq hd => ?_⟩, fun h j _ hj => ?_⟩⟩
    · obtain ⟨x, hx, rfl⟩ := f2 q hq hd
      obtain ⟨j, hj, rfl⟩ := List.mem_iff_getElem.1 hx
      exact h j (Nat.zero_le _) hj
    · obtain ⟨_, _, hq, hd⟩ := f1 _ (List.getElem_mem hj)
      exact h.2 _ hq hd
  | succ d ih =>
    intro i hi
    obtain ⟨b, hb, hbi⟩ := ih (i + 1) (by omega)
    have J1 : Ev (fun k => twiddle_Verify.j3 k [F] l (n : Int) w l (n : Int) (i : Int) true) false :=
      stepE ⟨_, fun k => by simp only [twiddle_Verify.j3]; rw [if_pos trivial], Ev.now _⟩
    have J2 : Ev (fun k => twiddle_Verify.j3 k [F] l (n : Int) w l (n : Int) (i : Int) false) b :=
      stepE ⟨_, fun k => by simp only [twiddle_Verify.j3]; rw [if_neg (by decide), wrap_succ (by omega)], hb⟩
    have ui := hu _ (rd_mem (l := l) (i := i) (by omega))
    have em : Int.tmod (wrap64 ((i : Int) + 1)) (n : Int) = (((i + 1) % n : Nat) : Int) := by rw [wrap_succ (by omega), tmod_pos (by omega), ← Int.natCast_emod]
    have hm : (i + 1) % n < n := Nat.mod_lt _ (by omega)
    have hc1 : 0 ≤ Int.tmod (wrap64 ((i : Int) + 1)) (n : Int) := by rw [em]; exact Int.natCast_nonneg _
    have hc2 : Int.tmod (wrap64 ((i : Int) + 1)) (n : Int) < (l.length : Int) := by rw [em]; omega
    have hG : field_Field_Good.f [F] (rd l (i : Int)) = some (decide (rd l (i : Int) < F.p)) := rfl
    by_cases c1 : rd l (i : Int) < F.p
    · rw [decide_eq_true c1] at hG
      have S : Ev (fun k => twiddle_Verify.j3 k [F] l (n : Int) w l (n : Int) (i : Int) (rd l (i : Int) * w % F.p != rd l (((i + 1) % n : Nat) : Int))) (if rd l (i : Int) * w % F.p = rd l (((i + 1) % n : Nat) : Int) then b else false) := by
        by_cases c2 : rd l (i : Int) * w % F.p = rd l (((i + 1) % n : Nat) : Int)
        · rw [if_pos c2, bne_eq_false_iff_eq.2 c2]; exact J2
        · rw [if_neg c2, bne_iff_ne.2 c2]; exact J1
      refine ⟨if rd l (i : Int) * w % F.p = rd l (((i + 1) % n : Nat) : Int) then b else false, stepE ⟨_, fun k => by simp only [twiddle_Verify.l0]; rw [if_pos (by omega), if_pos (by omega), if_pos (by omega)], ?_⟩, ?_⟩
      · refine evB hG (evP rfl (evB (field_Field_Mul.at_ (F := F) (l := []) ⟨ui, uw⟩) (evN (by omega) (evP hc1 (evP hc2 ?_)))))
        rw [em]
        exact S
      by_cases c2 : rd l (i : Int) * w % F.p = rd l (((i + 1) % n : Nat) : Int)
      · rw [if_pos c2]
        refine hbi.trans ⟨fun h => ⟨fun j a c => ?_, h.2⟩, fun h => ⟨fun j a c => h.1 j (by omega) c, h.2⟩⟩
        by_cases e : j = i
        · subst e; exact ⟨c1, c2⟩
        · exact h.1 j (by omega) c
      · rw [if_neg c2]
        exact iff_of_false_ rfl fun h => c2 (h.1 i (Nat.le_refl _) (by omega)).2
    · rw [decide_eq_false c1] at hG
      refine ⟨false, stepE ⟨_, fun k => by simp only [twiddle_Verify.l0]; rw [if_pos (by omega), if_pos (by omega), if_pos (by omega)], ?_⟩, iff_of_false_ rfl fun h => c1 (h.1 i (Nat.le_refl _) (by omega)).1⟩
      exact evB hG (evN (by decide) J1)
theorem tab_iff {F : Fld} (hg : GoodFld F) {l : List Int} {n : Nat} (h1 : 1 ≤ n) (hl : l.length = n) (hu : ∀ x ∈ l, U x) (hz : rd l 0 = 1) :
    ((∀ j, 0 ≤ j → j < n → Goes F.p (snd l) l n j) ∧ ∀ q, Prime q → q ∣ n → rd l ((n / q : Nat) : Int) ≠ 1) ↔ ((∀ j, 0 ≤ j → j < n → rd l (j : Int) = snd l ^ j % F.p ∧ (0 < j → snd l ^ j % F.p ≠ 1)) ∧ snd l ^ n % F.p = 1) := by
  have uw : U (snd l) := snd_U hu (by omega)
  generalize snd l = w at *
  have hlo := hg.lo
  have divlt : ∀ q, Prime q → q ∣ n → 0 < n / q ∧ n / q < n := fun q hq hd => ⟨Nat.div_pos (Nat.le_of_dvd (by omega) hd) (by have := hq.1; omega), Nat.div_lt_self (by omega) hq.1⟩
  constructor
  · rintro ⟨hA, hB⟩
    have hp : ∀ j, j < n → rd l (j : Int) = w ^ j % F.p := by
      intro j
      induction j with
      | zero => intro _; rw [Int.pow_zero, hg.one]; exact hz
      | succ j ih =>
        intro hj
        have h := (hA j (Nat.zero_le _) (by omega)).2
        rw [ih (by omega), emod_mul_l, ← Int.pow_succ, Nat.mod_eq_of_lt hj] at h
        exact h.symm
    have hn : w ^ n % F.p = 1 := by
      have h := (hA (n - 1) (Nat.zero_le _) (by omega)).2
      rw [hp (n - 1) (by omega), emod_mul_l, ← Int.pow_succ, show n - 1 + 1 = n by omega, Nat.mod_self] at h
      rw [show (n - 1).succ = n by omega] at h
      rw [h]; exact hz
    refine ⟨fun j _ hj => ⟨hp j hj, fun h0 e => ?_⟩, hn⟩
    obtain ⟨P, G, e1, _, h3, _, _, hpr, _⟩ := hg.nat
    obtain ⟨a, rfl⟩ : ∃ a : Nat, w = a := ⟨w.toNat, by have := uw.1; omega⟩
    rw [e1] at hn e hp
    have toN : ∀ x : Nat, ((a : Int) ^ x % (P : Int) = 1 ↔ a ^ x % P = 1) := fun x => pow_cast a P x
    obtain ⟨m, hm, hmin⟩ := least (p := fun m => 0 < m ∧ a ^ m % P = 1) j ⟨h0, (toN j).1 e⟩
    have ord := order (P := P) (G := a) (d := m) (by omega) hm.1 hm.2 (fun k k0 km h => hmin k km ⟨k0, h⟩)
    have hmn : m ∣ n := (ord n).1 ((toN n).1 hn)
    have hmj : m ≤ j := Nat.le_of_not_lt fun c => hmin j c ⟨h0, (toN j).1 e⟩
    obtain ⟨c, hc⟩ := hmn
    have hc2 : 2 ≤ c := by
      refine Nat.le_of_not_lt fun h => ?_
      have : c = 0 ∨ c = 1 := by omega
      rcases this with rfl | rfl
      · omega
      · omega
    obtain ⟨q, hq, hqc⟩ := exists_prime c hc2
    have hqn : q ∣ n := Nat.dvd_trans hqc (by rw [hc]; exact Nat.dvd_mul_left _ _)
    obtain ⟨_, dl⟩ := divlt q hq hqn
    refine hB q hq hqn ?_
    rw [hp _ dl]
    refine (toN _).2 ((ord _).2 ?_)
    obtain ⟨c', hc'⟩ := hqc
    rw [hc, hc', show m * (q * c') = q * (m * c') by rw [Nat.mul_left_comm], Nat.mul_div_cancel_left _ (by have := hq.1; omega)]
    exact Nat.dvd_mul_right _ _
  · rintro ⟨hA, hn⟩
    refine ⟨fun j _ hj => ⟨?_, ?_⟩, fun q hq hd => ?_⟩
    · rw [(hA j (Nat.zero_le _) hj).1]
      exact Int.emod_lt_of_pos _ (by omega)
    · rw [(hA j (Nat.zero_le _) hj).1, emod_mul_l, ← Int.pow_succ]
      by_cases c : j + 1 < n
      · rw [Nat.mod_eq_of_lt c, (hA (j + 1) (Nat.zero_le _) c).1]
      · have e : j.succ = n := by omega
        rw [e, show j + 1 = n from e, Nat.mod_self, hn]
        exact hz.symm
    · obtain ⟨d0, dl⟩ := divlt q hq hd
      obtain ⟨e, h⟩ := hA _ (Nat.zero_le _) dl
      rw [e]
      exact h d0
theorem verify_ev {F : Fld} (hg : GoodFld F) {l : List Int} (hu : ∀ x ∈ l, U x) : ∃ b, Ev (fun k => twiddle_Verify.f k [F] l) b ∧ (b = true ↔ TabP F.p l) := by
  have J1 : ∀ m : Int, Ev (fun k => twiddle_Verify.j0 k [F] l m true) false := fun m =>
    stepE ⟨_, fun k => by simp only [twiddle_Verify.j0]; rw [if_pos trivial], Ev.now _⟩
  have c0 : ¬ ((([F] : List Fld).length : Int) = 0) := by simp
  by_cases h1 : (l.length : Int) = 0
  · refine ⟨false, Ev.congr (fun k => rfl) (evN c0 (evP h1 (J1 _))), iff_of_false_ rfl fun h => ?_⟩
    have := h.1; omega
  by_cases h2 : (l.length : Int) > 4096
  · refine ⟨false, Ev.congr (fun k => rfl) (evN c0 (evN h1 (evP h2 (J1 _)))), iff_of_false_ rfl fun h => ?_⟩
    have := h.2.1; omega
  by_cases h3 : rd l 0 = 1
  · obtain ⟨b, hb, hbi⟩ := verify_l0 hg (snd_U hu (by omega)) hu (n := l.length) (by omega) (by omega) rfl l.length 0 (by omega)
    refine ⟨b, Ev.congr (fun k => rfl) (evN c0 (evN h1 (evN h2 (evP (by omega) ?_)))), (hbi.trans (tab_iff hg (by omega) rfl hu h3)).trans ⟨fun h => ⟨by omega, by omega, h3, h.1, h.2⟩, fun h => ⟨h.2.2.2.1, h.2.2.2.2⟩⟩⟩
    have e0 : (rd l 0 != 1) = false := by rw [h3]; rfl
    rw [e0]
    have J : Ev (fun k => twiddle_Verify.j1 k [F] l (l.length : Int) (snd l)) b := Ev.step (fun k => by simp only [twiddle_Verify.j1]; rfl) hb
    by_cases c : 1 < l.length
    · have e1 : snd l = rd l 1 := by unfold snd; rw [Nat.mod_eq_of_lt c]; rfl
      rw [e1] at J
      exact stepE ⟨_, fun k => by simp only [twiddle_Verify.j0]; rw [if_neg (by decide), if_pos (by omega), if_pos (by omega)], J⟩
    · have e1 : snd l = 1 := by
        unfold snd
        rw [show l.length = 1 by omega]
        exact h3
      rw [e1] at J
      exact stepE ⟨_, fun k => by simp only [twiddle_Verify.j0]; rw [if_neg (by decide), if_neg (by omega)], J⟩
  · refine ⟨false, Ev.congr (fun k => rfl) (evN c0 (evN h1 (evN h2 (evP (by omega) ?_)))), iff_of_false_ rfl fun h => h3 h.2.2.1⟩
    have e0 : (rd l 0 != 1) = true := bne_iff_ne.2 h3
    rw [e0]
    exact J1 _
theorem verify_nil (l : List Int) : Ev (fun k => twiddle_Verify.f k [] l) false := Ev.congr (fun k => by unfold twiddle_Verify.f; rw [if_pos (show ((([] : List Fld).length : Int) = 0) from rfl)]) (Ev.now _)
theorem powL_tab {p w : Int} {n : Nat} (hp : 3 ≤ p) (h1 : 1 ≤ n) (h4 : n ≤ 4096) (h0 : 0 ≤ w) (hw : w < p) (ord : ∀ k, w ^ k % p = 1 ↔ n ∣ k) : TabP p (powL p w n) := by
  have hs : snd (powL p w n) = w := by
    unfold snd
    rw [powL_len, rd_powL (Nat.mod_lt _ (by omega))]
    by_cases c : 1 < n
    · rw [Nat.mod_eq_of_lt c, Int.pow_succ, Int.pow_zero, Int.one_mul, Int.emod_eq_of_lt h0 hw]
    · have e := (ord 1).2 (by rw [show n = 1 by omega]; exact Nat.dvd_refl _)
      rw [Int.pow_succ, Int.pow_zero, Int.one_mul, Int.emod_eq_of_lt h0 hw] at e
      rw [show n = 1 by omega, Nat.mod_self, Int.pow_zero, e, Int.emod_eq_of_lt (by omega) (by omega)]
  unfold TabP
  rw [hs, powL_len]
  refine ⟨h1, h4, ?_, fun j _ hj => ⟨rd_powL hj, fun j0 e => ?_⟩, (ord n).2 (Nat.dvd_refl _)⟩
  · have := rd_powL (p := p) (w := w) (n := n) (i := 0) (by omega)
    rw [Int.pow_zero, Int.emod_eq_of_lt (by omega) (by omega)] at this
    exact this
  · have := Nat.le_of_dvd j0 ((ord j).1 e)
    omega
end Go.Proofs.Ythnpjjpdlihepaa.T10
end
section
namespace Go.Proofs.Ythnpjjpdlihepaa.F06.XW
open Go Go.RowKit Go.Proofs.Ythnpjjpdlihepaa.XS Go.Proofs.Ythnpjjpdlihepaa.XT Go.Proofs.Ythnpjjpdlihepaa.XR Go.Proofs.YthnpjjpdlihepaaW.PrintWords Go.Proofs.YthnpjjpdlihepaaW.PrintLast Go.Proofs.YthnpjjpdlihepaaW.PrintMore Go.Proofs.Ythnpjjpdlihepaa.Given Go.Proofs.Ythnpjjpdlihepaa.Given04 Go.Proofs.Ythnpjjpdlihepaa.M Go.Proofs.Ythnpjjpdlihepaa.Mont Go.Proofs.Ythnpjjpdlihepaa.XW
theorem rows_l1 {x3 : List S67} {L : List S52} {len i P G : Int} {F : List S89} {R : List S67} (hF : F.length < 8796093022208) (h3 : x3.length < 3518437208883)
    (E : Ev (fun k => epicyclelaw10_rows.l0 k (x3 ++ [⟨P, G, F.map cF⟩]) L len (wrap64 (i + 1))) R) (l : List S89) :
    ∀ j : Nat, F.drop j = l → j ≤ F.length → Ev (fun k => epicyclelaw10_rows.l1 k x3 ((F.take j).map cF) L len i F (F.length : Int) j P G F) R := by
  induction l with
  | nil =>
    intro j hd hj
    have : F.length ≤ j := by have := congrArg List.length hd; simp at this; omega
    have q : ¬ (j : Int) < (F.length : Int) := by omega
    rw [List.take_of_length_le this]
    refine Ev.step (fun k => ?_) E
    simp only [epicyclelaw10_rows.l1]
    rw [if_neg q, if_pos h3]
  | cons x l ih =>
    intro j hd hj
    obtain ⟨hx, hlt, hd'⟩ := rd60_drop hd
    have q : (j : Int) < (F.length : Int) := by omega
    have q0 : 0 ≤ (j : Int) := by omega
    have w : wrap64 ((j : Int) + 1) = ((j + 1 : Nat) : Int) := by rw [w64_id _ (by omega) (by omega)]; omega
    have ql : ((F.take j).map cF).length < 8796093022208 := by simp; omega
    have IH := ih (j + 1) hd' (by omega)
    have e : (F.take (j + 1)).map cF = (F.take j).map cF ++ [⟨x.f0, x.f1⟩] := by
      have hg : F[j] = x := by
        rw [List.drop_eq_getElem_cons hlt] at hd
        injection hd
      rw [List.take_succ_eq_append_getElem hlt, hg, List.map_append]
      rfl
    rw [e] at IH
    refine Ev.step (fun k => ?_) IH
    simp only [epicyclelaw10_rows.l1]
    rw [if_pos q, if_pos q0, if_pos q, if_pos ql, hx, w]
theorem rows_l0 {L : List S52} (hL : okLen L) (l : List S52) : ∀ i : Nat, L.drop i = l → i ≤ L.length → Ev (fun k => epicyclelaw10_rows.l0 k ((L.take i).map cE) L (L.length : Int) i) (L.map cE) := by
  have h1 := hL.1
  induction l with
  | nil =>
    intro i hd hi
    have : L.length ≤ i := by have := congrArg List.length hd; simp at this; omega
    have q : ¬ (i : Int) < (L.length : Int) := by omega
    rw [List.take_of_length_le this]
    refine Ev.step (fun k => ?_) (Ev.now _)
    simp only [epicyclelaw10_rows.l0]
    rw [if_neg q]
  | cons x l ih =>
    intro i hd hi
    obtain ⟨hx, hlt, hd'⟩ := rd46_drop hd
    have hxm : x ∈ L := List.mem_of_mem_drop (show x ∈ L.drop i by rw [hd]; exact List.mem_cons_self)
    have q : (i : Int) < (L.length : Int) := by omega
    have q0 : 0 ≤ (i : Int) := by omega
    have w : wrap64 ((i : Int) + 1) = ((i + 1 : Nat) : Int) := by rw [w64_id _ (by omega) (by omega)]; omega
    have ql : ((L.take i).map cE).length < 3518437208883 := by simp; omega
    have IH := ih (i + 1) hd' (by omega)
    have e : (L.take (i + 1)).map cE = (L.take i).map cE ++ [⟨x.f0, x.f1, x.f2.map cF⟩] := by
      have hg : L[i] = x := by
        rw [List.drop_eq_getElem_cons hlt] at hd
        injection hd
      rw [List.take_succ_eq_append_getElem hlt, hg, List.map_append]
      rfl
    rw [e, ← w] at IH
    have L1 := rows_l1 (L := L) (len := (L.length : Int)) (i := (i : Int)) (hL.2 x hxm) ql IH x.f2 0 rfl (Nat.zero_le _)
    refine Ev.step (fun k => ?_) L1
    simp only [epicyclelaw10_rows.l0]
    rw [if_pos q, if_pos q0, if_pos q, hx]
    rfl
theorem rows_ev {L : List S52} (hL : okLen L) : Ev (fun k => epicyclelaw10_rows.f k L) (L.map cE) := by
  refine Ev.congr (fun k => ?_) (rows_l0 hL L 0 rfl (Nat.zero_le _))
  unfold epicyclelaw10_rows.f
  rfl
end Go.Proofs.Ythnpjjpdlihepaa.F06.XW
end
section
namespace Go.Proofs.Ythnpjjpdlihepaa.F06.XW
open Go Go.RowKit Go.Proofs.YthnpjjpdlihepaaW.PrintWords Go.Proofs.YthnpjjpdlihepaaW.PrintLast Go.Proofs.YthnpjjpdlihepaaW.PrintMore Go.Proofs.Ythnpjjpdlihepaa.Given Go.Proofs.Ythnpjjpdlihepaa.M Go.Proofs.Ythnpjjpdlihepaa.Mont Go.Proofs.Ythnpjjpdlihepaa.XS Go.Proofs.Ythnpjjpdlihepaa.XT Go.Proofs.Ythnpjjpdlihepaa.XR Go.Proofs.Ythnpjjpdlihepaa.Num Go.Proofs.Ythnpjjpdlihepaa.XK Go.Proofs.Ythnpjjpdlihepaa.XW
theorem made_ev {L : List RE} (hL : okRow L) (kind K p : Int) : Ev (fun k => epicyclelaw10_made.f k kind K p L) ([], 0, 0) ∨ ∃ F, Ev (fun k => epicyclelaw10_made.f k kind K p L) ([F], F.p, F.g) ∧ GoodFld F := by
  by_cases h0 : kind = 0
  · subst h0
    by_cases hp : OddP p
    · obtain ⟨F, E, G, e, hg⟩ := small_odd hp
      refine .inr ⟨F, ?_, hg⟩
      rw [e]
      exact Ev.congr (fun k => rfl) (Ev.bind ((of_small (L := L) (K := K)).1 hp _ G) (evP rfl (Ev.bind E (Ev.now _))))
    · exact .inl (Ev.congr (fun k => rfl) (Ev.bind ((of_small (L := L) (K := K)).2 hp) (evP rfl (Ev.bind (small_not hp) (Ev.now _)))))
  by_cases h1 : kind = 1
  · subst h1
    by_cases hK : 0 ≤ K ∧ K ≤ 5
    · obtain ⟨F, E, e, hg⟩ := known_ev hK.1 hK.2
      refine .inr ⟨F, ?_, hg⟩
      have O := (of_known (L := L) (p := p)).1 hK
      rw [e] at O
      exact Ev.congr (fun k => rfl) (Ev.bind O (evN h0 (evP rfl (Ev.bind E (Ev.now _)))))
    · exact .inl (Ev.congr (fun k => rfl) (Ev.bind ((of_known (L := L) (p := p)).2 hK) (evN h0 (evP rfl (Ev.bind (known_not hK) (Ev.now _))))))
  have O := ofNew_ev hL (K := K) (p := p) h0 h1
  have R := rows_ev hL.1
  have E := new_ev (R := L.map cE) (by rw [map_tri]; exact hL.2) p
  rcases new_of hL p with ⟨e, _, hn, e', _, ho, _⟩ | ⟨F, hn, ho, hg, hl⟩
  · rw [hn] at E
    rw [ho] at O
    refine .inl (Ev.congr (fun k => rfl) (Ev.bind O (evN h0 (evN h1 ?_))))
    by_cases hl : (L.length : Int) ≤ 40
    · exact evP hl (Ev.bind R (Ev.bind E (Ev.now _)))
    · exact evN hl (Ev.now _)
  · rw [hn] at E
    rw [ho] at O
    exact .inr ⟨F, Ev.congr (fun k => rfl) (Ev.bind O (evN h0 (evN h1 (evP hl (Ev.bind R (Ev.bind E (Ev.now _))))))), hg⟩
end Go.Proofs.Ythnpjjpdlihepaa.F06.XW
end
section
namespace Go.Proofs.Ythnpjjpdlihepaa.XW
open Go.RowKit Go.Proofs.Ythnpjjpdlihepaa.Given Go.Proofs.Ythnpjjpdlihepaa.Row05 Go.Proofs.Ythnpjjpdlihepaa.XS Go.Proofs.Ythnpjjpdlihepaa.XT Go.Proofs.Ythnpjjpdlihepaa.XR Go.Proofs.Ythnpjjpdlihepaa.F06 Go.Proofs.Ythnpjjpdlihepaa.XK Go.Proofs.YthnpjjpdlihepaaW.PrintWords Go.Proofs.YthnpjjpdlihepaaW.PrintLast Go.Proofs.YthnpjjpdlihepaaW.PrintMore
attribute [local go_sem] max2_int min2_int max_two min_two max_three min_three max_four min_four   -- for this text's walks alone
set_option linter.unusedVariables false
set_option linter.unusedSimpArgs false
end Go.Proofs.Ythnpjjpdlihepaa.XW
end
section
namespace Go.Proofs.Ythnpjjpdlihepaa.XW
open Go.RowKit Go.Proofs.Ythnpjjpdlihepaa.Given Go.Proofs.Ythnpjjpdlihepaa.Row05 Go.Proofs.Ythnpjjpdlihepaa.XS Go.Proofs.Ythnpjjpdlihepaa.XT Go.Proofs.Ythnpjjpdlihepaa.XR Go.Proofs.Ythnpjjpdlihepaa.F06 Go.Proofs.Ythnpjjpdlihepaa.XK Go.Proofs.YthnpjjpdlihepaaW.PrintWords Go.Proofs.YthnpjjpdlihepaaW.PrintLast Go.Proofs.YthnpjjpdlihepaaW.PrintMore
attribute [local go_sem] max2_int min2_int max_two min_two max_three min_three max_four min_four   -- for this text's walks alone
set_option linter.unusedVariables false
set_option linter.unusedSimpArgs false
end Go.Proofs.Ythnpjjpdlihepaa.XW
end
