/- Parts of this claim's texts, packed by wip/tools/prune.py: what the proof does not reach is left out. -/
import Derived.Test.YtndkmnjbjlfeaaaGreatPI13
section
namespace Go.Proofs.YtndkmnjbjlfeaaaGreat.D11
open Go Go.RowKit Go.Proofs.YtndkmnjbjlfeaaaGreatW.PrintWords Go.Proofs.YtndkmnjbjlfeaaaGreatW.PrintLast Go.Proofs.YtndkmnjbjlfeaaaGreatW.PrintMore Go.Proofs.YtndkmnjbjlfeaaaGreat.Given Go.Proofs.YtndkmnjbjlfeaaaGreat.M Go.Proofs.YtndkmnjbjlfeaaaGreat.Mont Go.Proofs.YtndkmnjbjlfeaaaGreat.XS Go.Proofs.YtndkmnjbjlfeaaaGreat.XT Go.Proofs.YtndkmnjbjlfeaaaGreat.XR Go.Proofs.YtndkmnjbjlfeaaaGreat.Num Go.Proofs.YtndkmnjbjlfeaaaGreat.XK Go.Proofs.YtndkmnjbjlfeaaaGreat.F06 Go.Proofs.YtndkmnjbjlfeaaaGreat.T10 Go.Proofs.YtndkmnjbjlfeaaaGreat.XW Go.Proofs.YtndkmnjbjlfeaaaGreat.XG
set_option linter.unusedVariables false
theorem rd_at {l : List Int} {i : Nat} (h : i < l.length) : rd l (i : Int) = l[i] := by
  rw [rd_nat, List.getD_eq_getElem?_getD, List.getElem?_eq_getElem h]
  rfl
theorem take_set1 {α : Type} {y : List α} {i : Nat} (v : α) (h : i < y.length) : (y.set i v).take (i + 1) = y.take i ++ [v] := by
  have hl : (y.take i).length = i := by rw [List.length_take]; omega
  rw [List.take_set, List.take_succ_eq_append_getElem h, List.set_append_right _ _ (by omega), hl, Nat.sub_self, List.set_cons_zero]
theorem rd_set {y : List Int} {i : Nat} (v : Int) (h : i < y.length) : rd (y.set i v) (i : Int) = v := by
  rw [rd_at (by rw [List.length_set]; exact h), List.getElem_set_self]
theorem rd_set_ne {y : List Int} {i j : Nat} (v : Int) (h : i ≠ j) : rd (y.set i v) (j : Int) = rd y (j : Int) := by
  rw [rd_nat, rd_nat, List.getD_eq_getElem?_getD, List.getD_eq_getElem?_getD, List.getElem?_set_ne h]
theorem rd_rep (n : Nat) (j : Nat) : rd (List.replicate n 0) (j : Int) = 0 := by
  rw [rd_nat, List.getD_eq_getElem?_getD, List.getElem?_replicate]
  split <;> rfl
theorem rd_map_range {f : Nat → Int} {n i : Nat} (h : i < n) : rd ((List.range n).map f) (i : Int) = f i := by
  rw [rd_at (by rw [List.length_map, List.length_range]; exact h), List.getElem_map, List.getElem_range]
def chk (p n most : Int) : Int := if n < 1 then 1 else if n > most then 13 else if (p - 1) % n = 0 then 0 else 4
theorem check_at {F : Fld} {n most : Int} (hn : I64 n) : dft_Check.f [F] n most = some (chk F.p n most) := by
  unfold dft_Check.f chk
  rw [if_neg (by simp)]
  by_cases h1 : n < 1
  · rw [if_pos h1, if_pos h1]
  rw [if_neg h1, if_neg h1]
  by_cases h2 : n > most
  · rw [if_pos h2, if_pos h2]
  rw [if_neg h2, if_neg h2, Divides_at F hn.2]
  by_cases h3 : (F.p - 1) % n = 0
  · rw [if_pos h3, decide_eq_true ⟨by omega, h3⟩]; rfl
  · rw [if_neg h3, decide_eq_false (fun h => h3 h.2)]; rfl
theorem check_nil (n most : Int) : dft_Check.f [] n most = some 2 := by unfold dft_Check.f; rw [if_pos (show ((([] : List Fld).length : Int) = 0) from rfl)]
theorem rcheck_at {p n most : Int} (hp : 3 ≤ p) (hp' : p < 9223372036854775808) (hn : I64 n) : epicycleref11_Check.f p n most = some (chk p n most) := by
  have hn2 := hn.2
  unfold epicycleref11_Check.f chk
  by_cases h1 : n < 1
  · rw [if_pos h1, if_pos h1]
  rw [if_neg h1, if_neg h1]
  by_cases h2 : n > most
  · rw [if_pos h2, if_pos h2]
  have wn : IntKind.u64.wrap n = n := wu64_id _ (by omega) (by omega)
  have w1 : IntKind.u64.wrap (p - 1) = p - 1 := wu64_id _ (by omega) (by omega)
  rw [if_neg h2, if_neg h2, wn, w1, if_neg (by omega), tmod_pos (by omega)]
  by_cases h3 : (p - 1) % n = 0
  · rw [if_pos h3, if_pos h3]
  · rw [if_neg h3, if_neg h3]
theorem chk_0 {p n most : Int} (h : chk p n most = 0) : 1 ≤ n ∧ n ≤ most ∧ (p - 1) % n = 0 := by
  unfold chk at h
  split at h
  · omega
  split at h
  · omega
  split at h
  · rename_i h3; exact ⟨by omega, by omega, h3⟩
  · omega
theorem chk_of {p n most : Int} (h1 : 1 ≤ n) (h2 : n ≤ most) (h3 : (p - 1) % n = 0) : chk p n most = 0 := by
  unfold chk
  rw [if_neg (by omega), if_neg (by omega), if_pos h3]
def allB (p : Int) (l : List Int) : Bool := decide (∀ x ∈ l, x < p)
theorem allB_cons (p x : Int) (l : List Int) : allB p (x :: l) = (decide (x < p) && allB p l) := by
  unfold allB
  rw [Bool.eq_iff_iff]
  simp
theorem allB_nil (p : Int) : allB p [] = true := by unfold allB; simp
theorem good_l0 {F : Fld} {l : List Int} (hn : l.length ≤ 1000000) (d : Nat) : ∀ i : Nat, i + d = l.length → Ev (fun k => dft_Good.l0 k [F] l (l.length : Int) (i : Int)) (allB F.p (l.drop i)) := by
  induction d with
  | zero =>
    intro i hi
    refine stepE ⟨_, fun k => by simp only [dft_Good.l0]; rw [if_neg (by omega), if_neg (by simp)], evR (Ev.now _) ?_⟩
    rw [List.drop_eq_nil_of_le (by omega), allB_nil]
  | succ d ih =>
    intro i hi
    have hlt : i < l.length := by omega
    have G : field_Field_Good.f [F] (rd l (i : Int)) = some (decide (rd l (i : Int) < F.p)) := rfl
    have hr := rd_at hlt
    rw [List.drop_eq_getElem_cons hlt, allB_cons, ← hr]
    refine stepE ⟨_, fun k => by simp only [dft_Good.l0]; rw [if_pos (by omega), if_pos (by omega), if_pos (by omega), wrap_succ (by omega)], evB G ?_⟩
    by_cases c : rd l (i : Int) < F.p
    · rw [decide_eq_true c, Bool.true_and]
      exact evP rfl (ih (i + 1) (by omega))
    · rw [decide_eq_false c, Bool.false_and]
      exact evN (by decide) (Ev.now _)
theorem good_ev {F : Fld} {l : List Int} (hn : l.length ≤ 1000000) : Ev (fun k => dft_Good.f k [F] l) (allB F.p l) := by
  have h := good_l0 (F := F) hn l.length 0 (by omega)
  rw [List.drop_zero] at h
  exact Ev.congr (fun k => by unfold dft_Good.f; rw [if_neg (by simp)]; rfl) h
theorem rgood_l0 {p : Int} {l : List Int} (hn : l.length ≤ 1000000) (d : Nat) : ∀ i : Nat, i + d = l.length → Ev (fun k => epicycleref11_Good.l0 k p l (l.length : Int) (i : Int)) (allB p (l.drop i)) := by
  induction d with
  | zero =>
    intro i hi
    refine stepE ⟨_, fun k => by simp only [epicycleref11_Good.l0]; rw [if_neg (by omega)], evR (Ev.now _) ?_⟩
    rw [List.drop_eq_nil_of_le (by omega), allB_nil]
  | succ d ih =>
    intro i hi
    have hlt : i < l.length := by omega
    have hr := rd_at hlt
    rw [List.drop_eq_getElem_cons hlt, allB_cons, ← hr]
    refine stepE ⟨_, fun k => by simp only [epicycleref11_Good.l0]; rw [if_pos (by omega), if_pos (by omega), if_pos (by omega), wrap_succ (by omega)], ?_⟩
    by_cases c : rd l (i : Int) < p
    · rw [decide_eq_true c, Bool.true_and]
      exact evN (by omega) (ih (i + 1) (by omega))
    · rw [decide_eq_false c, Bool.false_and]
      exact evP (by omega) (Ev.now _)
theorem rgood_ev {p : Int} {l : List Int} (hn : l.length ≤ 1000000) : Ev (fun k => epicycleref11_Good.f k p l) (allB p l) := by
  have h := rgood_l0 (p := p) hn l.length 0 (by omega)
  rw [List.drop_zero] at h
  exact Ev.congr (fun k => rfl) h
theorem scale_l0 {L : List Fld} {c : Int} {T : Int → Int} {l : List Int} (hn : l.length ≤ 1000000) (hT : ∀ x ∈ l, field_Field_Times.f L c x = some (T x)) (d : Nat) : ∀ (i : Nat) (y : List Int), i + d = l.length → y.length = l.length →
    Ev (fun k => dft_Scale.l0 k L c y l (l.length : Int) (i : Int)) (y.take i ++ (l.drop i).map T) := by
  induction d with
  | zero =>
    intro i y hi hy
    exact stepE ⟨_, fun k => by simp only [dft_Scale.l0]; rw [if_neg (by omega)], evR (Ev.now _) (by rw [List.drop_eq_nil_of_le (by omega), List.map_nil, List.append_nil, List.take_of_length_le (by omega)])⟩
  | succ d ih =>
    intro i y hi hy
    have hlt : i < l.length := by omega
    have G := hT l[i] (List.getElem_mem hlt)
    have hr := rd_at hlt
    have e : (y.set i (T l[i])).take (i + 1) ++ (l.drop (i + 1)).map T = y.take i ++ (l.drop i).map T := by
      rw [take_set1 _ (by omega), List.drop_eq_getElem_cons hlt, List.map_cons, List.append_assoc]
      rfl
    have IH := ih (i + 1) (y.set i (T l[i])) (by omega) (by rw [List.length_set]; exact hy)
    rw [e] at IH
    have hy2 : (i : Int) < (y.length : Int) := by omega
    refine stepE ⟨_, fun k => by simp only [dft_Scale.l0]; rw [if_pos (by omega), if_pos (by omega), if_pos (by omega), wrap_succ (by omega), Int.toNat_natCast, hr], ?_⟩
    refine evB G ?_
    exact evP hy2 IH
theorem scale_ev {F : Fld} (hg : GoodFld F) {l : List Int} (hn : l.length ≤ 1000000) (hu : ∀ x ∈ l, U x) : Ev (fun k => dft_Scale.f k [F] l) (l.map fun x => invF F.p (l.length : Int) * x % F.p) := by
  have wn : IntKind.u64.wrap (l.length : Int) = l.length := wu64_id _ (by omega) (by omega)
  have I := field_Field_Inv.at_ (F := F) (l := []) (a1 := (l.length : Int)) ⟨by omega, by omega⟩
  have Li := field_Field_Lift.at_ (F := F) (l := []) (hg.uInv (l.length : Int))
  have S := scale_l0 (L := [F]) (c := mIn F.p (invF F.p l.length)) (T := fun x => invF F.p l.length * x % F.p) hn (fun x hx => by
    rw [field_Field_Times.at_ ⟨show U (mIn F.p (invF F.p l.length)) from hg.uE _, hu x hx⟩, mul_in hg.m]) l.length 0 (List.replicate l.length 0) (by omega) List.length_replicate
  rw [List.take_zero, List.nil_append, List.drop_zero] at S
  refine Ev.congr (fun k => rfl) (evB (by rw [wn]; exact I) (evB Li (evP (by omega) (evP (by omega) (Ev.congr (fun k => ?_) S)))))
  rw [Int.toNat_natCast]
  rfl
theorem sums_l1 {F : Fld} (hg : GoodFld F) {l : List Int} {n : Nat} (hn : l.length = n) (n1 : 1 ≤ n) (n2 : n ≤ 1024) (hu : ∀ x ∈ l, U x) {w : Int} {tab : List Int} (ht : tab.length = n) (hT : ∀ j, j < n → rd tab (j : Int) = mIn F.p (w ^ j % F.p)) (hw : ∀ a, w ^ a % F.p = w ^ (a % n) % F.p) {r : List Int} {i : Nat} (hi : i < n) (d : Nat) : ∀ (j : Nat) (y : List Int), j + d = n → y.length = n → rd y (i : Int) = dftA w (fun t => rd l (t : Int)) j i % F.p →
    Ev (fun k => dft_sums.l0 k [F] l (n : Int) tab (y.set i (dftA w (fun t => rd l (t : Int)) n i % F.p)) (n : Int) (wrap64 ((i : Int) + 1))) r →
    Ev (fun k => dft_sums.l1 k [F] l (n : Int) tab y (i : Int) ((i * j % n : Nat) : Int) (n : Int) (i : Int) l (l.length : Int) (j : Int)) r := by
  induction d with
  | zero =>
    intro j y hj hy hr E
    obtain rfl : j = n := by omega
    have e : y.set i (dftA w (fun t => rd l (t : Int)) j i % F.p) = y := by rw [← hr, rd_at (by omega), List.set_getElem_self]
    rw [e] at E
    exact stepE ⟨_, fun k => by simp only [dft_sums.l1]; rw [if_neg (by omega)], E⟩
  | succ d ih =>
    intro j y hj hy hr E
    have hjn : j < n := by omega
    have hq : i * j % n < n := Nat.mod_lt _ (by omega)
    have ut := hu _ (rd_mem (l := l) (i := j) (by omega))
    have T := field_Field_Times.at_ (F := F) (l := []) ⟨show U (mIn F.p (w ^ (i * j % n) % F.p)) from hg.uE _, ut⟩
    rw [mul_in hg.m, ← hT _ hq] at T
    have A := field_Field_Add.at_ (F := F) (l := []) ⟨show U (dftA w (fun t => rd l (t : Int)) j i % F.p) from hg.uE _, hg.uE (w ^ (i * j % n) % F.p * rd l (j : Int))⟩
    have ev : (dftA w (fun t => rd l (t : Int)) j i % F.p + w ^ (i * j % n) % F.p * rd l (j : Int) % F.p) % F.p = dftA w (fun t => rd l (t : Int)) (j + 1) i % F.p := by
      have e1 : dftA w (fun t => rd l (t : Int)) (j + 1) i = dftA w (fun t => rd l (t : Int)) j i + w ^ (i * j) * rd l (j : Int) := rfl
      rw [e1]
      exact add_cong (Int.emod_emod _ _) (by rw [Int.emod_emod, ← hw, emod_mul_l])
    rw [ev, ← hr] at A
    have em : Int.tmod (wrap64 (((i * j % n : Nat) : Int) + (i : Int))) (n : Int) = ((i * (j + 1) % n : Nat) : Int) := by
      rw [w64_id _ (by omega) (by omega), tmod_pos (by omega), Nat.mul_succ, ← Nat.mod_add_mod, Int.natCast_emod (i * j % n + i) n]
      rfl
    have IH := ih (j + 1) (y.set i (dftA w (fun t => rd l (t : Int)) (j + 1) i % F.p)) (by omega) (by rw [List.length_set]; exact hy) (rd_set _ (by omega)) (by rw [List.set_set]; exact E)
    have q0 : (0 : Int) ≤ ((i * j % n : Nat) : Int) := Int.natCast_nonneg _
    have q1 : ((i * j % n : Nat) : Int) < (tab.length : Int) := by omega
    have p1 : (j : Int) < (l.length : Int) := by omega
    have p2 : (0 : Int) ≤ (j : Int) := Int.natCast_nonneg _
    have p3 : (0 : Int) ≤ (i : Int) := Int.natCast_nonneg _
    have p4 : (i : Int) < (y.length : Int) := by omega
    have ws : wrap64 ((j : Int) + 1) = ((j + 1 : Nat) : Int) := wrap_succ (by omega)
    have n0 : ¬ (n : Int) = 0 := by omega
    refine stepE ⟨_, fun k => by simp only [dft_sums.l1]; rw [if_pos p1, if_pos p2, if_pos p1, if_pos p3, if_pos p4, if_pos q0, if_pos q1, ws, Int.toNat_natCast, em], ?_⟩
    refine evB T ?_
    refine evB A ?_
    exact evN n0 IH
theorem sums_l0 {F : Fld} (hg : GoodFld F) {l : List Int} {n : Nat} (hn : l.length = n) (n1 : 1 ≤ n) (n2 : n ≤ 1024) (hu : ∀ x ∈ l, U x) {w : Int} {tab : List Int} (ht : tab.length = n) (hT : ∀ j, j < n → rd tab (j : Int) = mIn F.p (w ^ j % F.p)) (hw : ∀ a, w ^ a % F.p = w ^ (a % n) % F.p) (d : Nat) : ∀ (i : Nat) (y : List Int), i + d = n → y.length = n → (∀ t : Nat, i ≤ t → t < n → rd y (t : Int) = 0) →
    Ev (fun k => dft_sums.l0 k [F] l (n : Int) tab y (n : Int) (i : Int)) (y.take i ++ ((List.range n).drop i).map fun i => dftA w (fun t => rd l (t : Int)) n i % F.p) := by
  induction d with
  | zero =>
    intro i y hi hy hz
    exact stepE ⟨_, fun k => by simp only [dft_sums.l0]; rw [if_neg (by omega)], evR (Ev.now _) (by rw [List.drop_eq_nil_of_le (by rw [List.length_range]; omega), List.map_nil, List.append_nil, List.take_of_length_le (by omega)])⟩
  | succ d ih =>
    intro i y hi hy hz
    have hin : i < n := by omega
    have hr : i < (List.range n).length := by rw [List.length_range]; exact hin
    have e : (y.set i (dftA w (fun t => rd l (t : Int)) n i % F.p)).take (i + 1) ++ ((List.range n).drop (i + 1)).map (fun i => dftA w (fun t => rd l (t : Int)) n i % F.p) = y.take i ++ ((List.range n).drop i).map fun i => dftA w (fun t => rd l (t : Int)) n i % F.p := by
      rw [take_set1 _ (by omega), List.drop_eq_getElem_cons hr, List.getElem_range, List.map_cons, List.append_assoc]
      rfl
    have IH := ih (i + 1) (y.set i (dftA w (fun t => rd l (t : Int)) n i % F.p)) (by omega) (by rw [List.length_set]; exact hy) (fun t h1 h2 => by rw [rd_set_ne _ (by omega)]; exact hz t (by omega) h2)
    rw [e, ← wrap_succ (by omega)] at IH
    have L1 := sums_l1 hg hn n1 n2 hu ht hT hw hin n 0 y (by omega) hy (by rw [hz i (Nat.le_refl _) hin]; exact (Int.zero_emod _).symm) IH
    rw [Nat.mul_zero, Nat.zero_mod] at L1
    refine stepE ⟨_, fun k => by simp only [dft_sums.l0]; rw [if_pos (by omega)], ?_⟩
    exact L1
theorem roots {F : Fld} (hg : GoodFld F) {n : Nat} (n1 : 1 ≤ n) (hd : (F.p - 1) % (n : Int) = 0) (inv : Bool) : Roots F n (trootI F n inv) (trootI F n (!inv)) := by
  have hlo := hg.lo
  have one := (hg.inv (hg.root_ne (n := (n : Int)) (by omega) hd)).2.1
  refine ⟨hg, n1, ?_, fun k => troot_ord hg (by omega) hd inv k, fun k => troot_ord hg (by omega) hd (!inv) k, ?_⟩
  · have := Int.le_of_dvd (show 0 < F.p - 1 by omega) (Int.dvd_of_emod_eq_zero hd)
    omega
  · cases inv with
    | false => show rootI F n * invF F.p (rootI F n) % F.p = 1; rw [Int.mul_comm]; exact one
    | true => exact one
theorem sums_ev {F : Fld} (hg : GoodFld F) {l : List Int} (n1 : 1 ≤ l.length) (n2 : l.length ≤ 1024) (hd : (F.p - 1) % (l.length : Int) = 0) (hu : ∀ x ∈ l, U x) (inv : Bool) :
    Ev (fun k => dft_sums.f k [F] l inv) ((List.range l.length).map fun i => dftA (trootI F l.length inv) (fun t => rd l (t : Int)) l.length i % F.p) := by
  have R := roots hg n1 hd inv
  have lt : ((powL F.p (trootI F l.length inv) (l.length : Int).toNat).map (mIn F.p)).length = l.length := by rw [List.length_map, powL_len, Int.toNat_natCast]
  have S := sums_l0 hg (l := l) rfl n1 n2 hu lt (fun j hj => by rw [rd_at (by omega), List.getElem_map]; congr 1; have := rd_powL (p := F.p) (w := trootI F l.length inv) (n := (l.length : Int).toNat) (i := j) (by omega); rw [rd_at (by rw [powL_len]; omega)] at this; exact this) R.expo l.length 0 (List.replicate l.length 0) (by omega) List.length_replicate (fun t _ _ => rd_rep _ _)
  rw [List.take_zero, List.nil_append, List.drop_zero] at S
  refine Ev.congr (fun k => rfl) (Ev.bind (lifted_ev hg (n := (l.length : Int)) (by omega) (by omega) hd inv) (evP (by omega) (evP (by omega) (Ev.congr (fun k => ?_) S))))
  simp only [Option.bind_some, List.length_replicate, Int.toNat_natCast]
  rfl
noncomputable def cO (F : Fld) (n : Nat) (inv : Bool) : Int := if inv = true then invF F.p (n : Int) else 1
noncomputable def runL (F : Fld) (l : List Int) (inv : Bool) : List Int := (List.range l.length).map fun i => cO F l.length inv * dftA (trootI F l.length inv) (fun t => rd l (t : Int)) l.length i % F.p
theorem runL_len (F : Fld) (l : List Int) (inv : Bool) : (runL F l inv).length = l.length := by unfold runL; rw [List.length_map, List.length_range]
theorem runL_at {F : Fld} {l : List Int} {inv : Bool} {i : Nat} (h : i < l.length) : rd (runL F l inv) (i : Int) = cO F l.length inv * dftA (trootI F l.length inv) (fun t => rd l (t : Int)) l.length i % F.p := rd_map_range h
structure FitL (F : Fld) (l : List Int) : Prop where
  pos : 1 ≤ l.length
  top : l.length ≤ 1024
  div : (F.p - 1) % (l.length : Int) = 0
  res : ∀ x ∈ l, 0 ≤ x ∧ x < F.p
theorem FitL.u {F : Fld} {l : List Int} (hg : GoodFld F) (h : FitL F l) : ∀ x ∈ l, U x := fun x hx => by
  have := h.res x hx
  have := hg.hi
  unfold U; omega
theorem FitL.all {F : Fld} {l : List Int} (h : FitL F l) : allB F.p l = true := decide_eq_true fun x hx => (h.res x hx).2
theorem len_I {l : List Int} (h : l.length ≤ 1000000) : I64 (l.length : Int) := ⟨by omega, by omega⟩
theorem run_ev {F : Fld} (hg : GoodFld F) {l : List Int} (h : FitL F l) (inv : Bool) : Ev (fun k => dft_Run.f k [F] l inv) (runL F l inv, 0) := by
  have h1 := h.pos
  have h2 := h.top
  have C := check_at (F := F) (most := 1024) (len_I (l := l) (by omega))
  rw [chk_of (by omega) (by omega) h.div] at C
  have G := good_ev (F := F) (l := l) (by omega)
  rw [h.all] at G
  have S := sums_ev hg h1 h2 h.div (h.u hg) inv
  refine Ev.congr (fun k => rfl) (evB C (evP rfl (Ev.bind G (evP rfl (Ev.bind S ?_)))))
  cases inv with
  | false =>
    refine evN (by decide) (evR (Ev.now _) ?_)
    congr 1
    unfold runL
    refine List.map_congr_left fun i _ => ?_
    show _ = 1 * dftA (trootI F l.length false) (fun t => rd l (t : Int)) l.length i % F.p
    rw [Int.one_mul]
  | true =>
    have ln : ((List.range l.length).map fun i => dftA (trootI F l.length true) (fun t => rd l (t : Int)) l.length i % F.p).length = l.length := by rw [List.length_map, List.length_range]
    have Sc := scale_ev hg (l := (List.range l.length).map fun i => dftA (trootI F l.length true) (fun t => rd l (t : Int)) l.length i % F.p) (by omega) (fun x hx => by
      obtain ⟨i, _, rfl⟩ := List.mem_map.1 hx
      exact hg.uE _)
    refine evP rfl (Ev.bind Sc (evR (Ev.now _) ?_))
    congr 1
    rw [ln, List.map_map]
    unfold runL
    refine List.map_congr_left fun i _ => ?_
    show invF F.p l.length * (dftA (trootI F l.length true) (fun t => rd l (t : Int)) l.length i % F.p) % F.p = invF F.p l.length * dftA (trootI F l.length true) (fun t => rd l (t : Int)) l.length i % F.p
    rw [emod_mul_r]
theorem run_nil (l : List Int) (inv : Bool) : Ev (fun k => dft_Run.f k [] l inv) ([], 2) := Ev.congr (fun k => rfl) (evB (check_nil _ _) (evN (by decide) (Ev.now _)))
theorem run_chk {F : Fld} {l : List Int} (hn : l.length ≤ 1000000) (inv : Bool) (h : chk F.p l.length 1024 ≠ 0) : Ev (fun k => dft_Run.f k [F] l inv) ([], chk F.p l.length 1024) :=
  Ev.congr (fun k => rfl) (evB (check_at (len_I hn)) (evN h (Ev.now _)))
theorem run_bad {F : Fld} {l : List Int} (hn : l.length ≤ 1000000) (inv : Bool) (h : chk F.p l.length 1024 = 0) (hb : allB F.p l = false) : Ev (fun k => dft_Run.f k [F] l inv) ([], 9) := by
  have C := check_at (F := F) (most := 1024) (len_I hn)
  rw [h] at C
  have G := good_ev (F := F) hn
  rw [hb] at G
  exact Ev.congr (fun k => rfl) (evB C (evP rfl (Ev.bind G (evN (by decide) (Ev.now _)))))
theorem rsum_l0 {F : Fld} (hg : GoodFld F) {l : List Int} {n : Nat} (hn : l.length = n) (n1 : 1 ≤ n) (n2 : n ≤ 1024) (hu : ∀ x ∈ l, U x) {w : Int} {tab : List Int} (ht : tab.length = n) (hT : ∀ j, j < n → rd tab (j : Int) = w ^ j % F.p) (hw : ∀ a, w ^ a % F.p = w ^ (a % n) % F.p) {i : Nat} (hi : i < n) (d : Nat) : ∀ j : Nat, j + d = n →
    Ev (fun k => epicycleref11_Sum.l0 k F.p tab l (i : Int) (dftA w (fun t => rd l (t : Int)) j i % F.p) l (l.length : Int) (j : Int)) (dftA w (fun t => rd l (t : Int)) n i % F.p) := by
  induction d with
  | zero =>
    intro j hj
    obtain rfl : j = n := by omega
    exact stepE ⟨_, fun k => by simp only [epicycleref11_Sum.l0]; rw [if_neg (by omega)], Ev.now _⟩
  | succ d ih =>
    intro j hj
    have hjn : j < n := by omega
    have p1 : (j : Int) < (l.length : Int) := by omega
    have p2 : (0 : Int) ≤ (j : Int) := Int.natCast_nonneg _
    have ws : wrap64 ((j : Int) + 1) = ((j + 1 : Nat) : Int) := wrap_succ (by omega)
    have n0 : ¬ (l.length : Int) = 0 := by omega
    have IH := ih (j + 1) (by omega)
    have hq : i * j % n < n := Nat.mod_lt _ (by omega)
    have hij : i * j ≤ 1048576 := Nat.le_trans (Nat.mul_le_mul (show i ≤ 1024 by omega) (show j ≤ 1024 by omega)) (by decide)
    have ut := hu _ (rd_mem (l := l) (i := j) (by omega))
    have em : Int.tmod (wrap64 ((i : Int) * (j : Int))) (l.length : Int) = ((i * j % n : Nat) : Int) := by
      clear ih hT hw hu
      generalize hm : i * j = m at *
      rw [← Int.natCast_mul, hm, w64_id _ (by omega) (by omega), tmod_pos (Int.natCast_nonneg _), hn]
      rfl
    have M := ref02_Mul_ev ut (hg.uE (w ^ (i * j % n))) hg.uP hg.ne
    rw [← hT _ hq] at M
    have A := ref02_Add_eq (hg.uE (dftA w (fun t => rd l (t : Int)) j i)) (hg.uE (rd l (j : Int) * rd tab ((i * j % n : Nat) : Int))) hg.uP hg.ne
    have ev : (dftA w (fun t => rd l (t : Int)) j i % F.p + rd l (j : Int) * rd tab ((i * j % n : Nat) : Int) % F.p) % F.p = dftA w (fun t => rd l (t : Int)) (j + 1) i % F.p := by
      have e1 : dftA w (fun t => rd l (t : Int)) (j + 1) i = dftA w (fun t => rd l (t : Int)) j i + w ^ (i * j) * rd l (j : Int) := rfl
      rw [e1]
      exact add_cong (Int.emod_emod _ _) (by rw [Int.emod_emod, hT _ hq, ← hw, emod_mul_r, Int.mul_comm])
    rw [ev] at A
    have q0 : (0 : Int) ≤ ((i * j % n : Nat) : Int) := Int.natCast_nonneg _
    have q1 : ((i * j % n : Nat) : Int) < (tab.length : Int) := by rw [ht]; exact Int.ofNat_lt.2 hq
    refine stepE ⟨_, fun k => by simp only [epicycleref11_Sum.l0]; rw [if_pos p1, if_pos p2, if_pos p1, if_neg n0, em, if_pos q0, if_pos q1, ws], ?_⟩
    exact Ev.bind M (evB A IH)
theorem rrun_l0 {F : Fld} (hg : GoodFld F) {l : List Int} (h : FitL F l) (inv : Bool) (d : Nat) : ∀ i : Nat, i + d = l.length →
    Ev (fun k => epicycleref11_Run.l0 k F.p l inv (powL F.p (trootI F l.length inv) l.length) ((runL F l inv).take i) (l.length : Int) (i : Int)) (runL F l inv) := by
  have h1 := h.pos
  have h2 := h.top
  have lr := runL_len F l inv
  have R := roots hg h1 h.div inv
  have hn0 : (l.length : Int) % F.p ≠ 0 := R.n_ne
  induction d with
  | zero =>
    intro i hi
    exact stepE ⟨_, fun k => by simp only [epicycleref11_Run.l0]; rw [if_neg (by omega)], evR (Ev.now _) (List.take_of_length_le (by omega))⟩
  | succ d ih =>
    intro i hi
    have hlt : i < l.length := by omega
    have S0 := rsum_l0 hg (l := l) rfl h1 h2 (h.u hg) (powL_len F.p (trootI F l.length inv) l.length) (fun j hj => rd_powL hj) R.expo hlt l.length 0 (by omega)
    have S : Ev (fun k => epicycleref11_Sum.f k F.p (powL F.p (trootI F l.length inv) l.length) l (i : Int)) (dftA (trootI F l.length inv) (fun t => rd l (t : Int)) l.length i % F.p) := by
      refine Ev.congr (fun k => ?_) S0
      unfold epicycleref11_Sum.f dftA
      rw [show sumN (fun j => trootI F l.length inv ^ (i * j) * rd l (j : Int)) 0 = 0 from rfl, Int.zero_emod]
      rfl
    have IH := ih (i + 1) (by omega)
    have et : (runL F l inv).take (i + 1) = (runL F l inv).take i ++ [rd (runL F l inv) (i : Int)] := by rw [List.take_succ_eq_append_getElem (by omega), rd_at (by omega)]
    rw [et, runL_at hlt] at IH
    have lt : ((runL F l inv).take i).length < 17592186044416 := by rw [List.length_take]; omega
    refine stepE ⟨_, fun k => by simp only [epicycleref11_Run.l0]; rw [if_pos (by omega), wrap_succ (by omega)], Ev.bind S ?_⟩
    cases inv with
    | false =>
      refine evN (by decide) (evP lt ?_)
      rw [show cO F l.length false = 1 from rfl, Int.one_mul] at IH
      exact IH
    | true =>
      have wn : IntKind.u64.wrap (l.length : Int) = l.length := wu64_id _ (by omega) (by omega)
      have hlo := hg.lo
      have hhi := hg.hi
      have w2 : IntKind.u64.wrap (F.p - 2) = F.p - 2 := wu64_id _ (by omega) (by omega)
      have P := ref02_Pow_ev (a := (l.length : Int)) ⟨by omega, by omega⟩ (e := F.p - 2) ⟨by omega, by omega⟩ hg.uP hg.ne
      rw [← (hg.inv hn0).1] at P
      have I : Ev (fun k => epicycleref06_Inv.f k (IntKind.u64.wrap (l.length : Int)) F.p) (invF F.p (l.length : Int)) := by
        rw [wn]
        refine Ev.congr (fun k => by unfold epicycleref06_Inv.f; rw [w2]) (Ev.bind P (Ev.now _))
      have M := ref02_Mul_ev (hg.uE (dftA (trootI F l.length true) (fun t => rd l (t : Int)) l.length i)) (hg.uInv (l.length : Int)) hg.uP hg.ne
      rw [emod_mul_l, Int.mul_comm] at M
      exact evP rfl (Ev.bind I (Ev.bind M (evP lt IH)))
theorem rrun_ev {F : Fld} (hg : GoodFld F) {l : List Int} (h : FitL F l) (inv : Bool) : Ev (fun k => epicycleref11_Run.f k F.p F.g l inv) (runL F l inv) := by
  have h1 := h.pos
  have h2 := h.top
  have R := rroot_ev hg (len_I (l := l) (by omega)) inv
  have e : trootS F (l.length : Int) inv = (trootI F l.length inv, 0) := by unfold trootS; rw [if_neg (by omega), if_neg (by omega), if_pos h.div]
  rw [e] at R
  have T := rtable_ev hg (troot_U hg (l.length : Int) inv) (n := l.length) (by omega)
  have L0 := rrun_l0 hg h inv l.length 0 (by omega)
  rw [List.take_zero] at L0
  exact Ev.congr (fun k => rfl) (Ev.bind R (Ev.bind T L0))
end Go.Proofs.YtndkmnjbjlfeaaaGreat.D11
end
section
namespace Go.Proofs.YtndkmnjbjlfeaaaGreat.F06.XG
open Go Go.RowKit Go.Proofs.YtndkmnjbjlfeaaaGreat.XS Go.Proofs.YtndkmnjbjlfeaaaGreat.XT Go.Proofs.YtndkmnjbjlfeaaaGreat.XR Go.Proofs.YtndkmnjbjlfeaaaGreatW.PrintWords Go.Proofs.YtndkmnjbjlfeaaaGreatW.PrintLast Go.Proofs.YtndkmnjbjlfeaaaGreatW.PrintMore Go.Proofs.YtndkmnjbjlfeaaaGreat.Given Go.Proofs.YtndkmnjbjlfeaaaGreat.Given04 Go.Proofs.YtndkmnjbjlfeaaaGreat.M Go.Proofs.YtndkmnjbjlfeaaaGreat.Mont Go.Proofs.YtndkmnjbjlfeaaaGreat.XG
theorem rows_l1 {x3 : List S94} {L : List S134} {len i P G : Int} {F : List S146} {R : List S94} (hF : F.length < 8796093022208) (h3 : x3.length < 3518437208883)
    (E : Ev (fun k => epicyclelaw11_rows.l0 k (x3 ++ [⟨P, G, F.map cF⟩]) L len (wrap64 (i + 1))) R) (l : List S146) :
    ∀ j : Nat, F.drop j = l → j ≤ F.length → Ev (fun k => epicyclelaw11_rows.l1 k x3 ((F.take j).map cF) L len i F (F.length : Int) j P G F) R := by
  induction l with
  | nil =>
    intro j hd hj
    have : F.length ≤ j := by have := congrArg List.length hd; simp at this; omega
    have q : ¬ (j : Int) < (F.length : Int) := by omega
    rw [List.take_of_length_le this]
    refine Ev.step (fun k => ?_) E
    simp only [epicyclelaw11_rows.l1]
    rw [if_neg q, if_pos h3]
  | cons x l ih =>
    intro j hd hj
    obtain ⟨hx, hlt, hd'⟩ := rd60_drop hd
    have q : (j : Int) < (F.length : Int) := by omega
    have q0 : 0 ≤ (j : Int) := by omega
    have w : wrap64 ((j : Int) + 1) = ((j + 1 : Nat) : Int) := by rw [w64_id _ (by omega) (by omega)]; omega
    have ql : ((F.take j).map cF).length < 8796093022208 := by simp; omega
    have IH := ih (j + 1) hd' (by omega)
    have e : (F.take (j + 1)).map cF = (F.take j).map cF ++ [⟨x.f0, x.f1⟩] := by
      have hg : F[j] = x := by
        rw [List.drop_eq_getElem_cons hlt] at hd
        injection hd
      rw [List.take_succ_eq_append_getElem hlt, hg, List.map_append]
      rfl
    rw [e] at IH
    refine Ev.step (fun k => ?_) IH
    simp only [epicyclelaw11_rows.l1]
    rw [if_pos q, if_pos q0, if_pos q, if_pos ql, hx, w]
theorem rows_l0 {L : List S134} (hL : okLen L) (l : List S134) : ∀ i : Nat, L.drop i = l → i ≤ L.length → Ev (fun k => epicyclelaw11_rows.l0 k ((L.take i).map cE) L (L.length : Int) i) (L.map cE) := by
  have h1 := hL.1
  induction l with
  | nil =>
    intro i hd hi
    have : L.length ≤ i := by have := congrArg List.length hd; simp at this; omega
    have q : ¬ (i : Int) < (L.length : Int) := by omega
    rw [List.take_of_length_le this]
    refine Ev.step (fun k => ?_) (Ev.now _)
    simp only [epicyclelaw11_rows.l0]
    rw [if_neg q]
  | cons x l ih =>
    intro i hd hi
    obtain ⟨hx, hlt, hd'⟩ := rd46_drop hd
    have hxm : x ∈ L := List.mem_of_mem_drop (show x ∈ L.drop i by rw [hd]; exact List.mem_cons_self)
    have q : (i : Int) < (L.length : Int) := by omega
    have q0 : 0 ≤ (i : Int) := by omega
    have w : wrap64 ((i : Int) + 1) = ((i + 1 : Nat) : Int) := by rw [w64_id _ (by omega) (by omega)]; omega
    have ql : ((L.take i).map cE).length < 3518437208883 := by simp; omega
    have IH := ih (i + 1) hd' (by omega)
    have e : (L.take (i + 1)).map cE = (L.take i).map cE ++ [⟨x.f0, x.f1, x.f2.map cF⟩] := by
      have hg : L[i] = x := by
        rw [List.drop_eq_getElem_cons hlt] at hd
        injection hd
      rw [List.take_succ_eq_append_getElem hlt, hg, List.map_append]
      rfl
    rw [e, ← w] at IH
    have L1 := rows_l1 (L := L) (len := (L.length : Int)) (i := (i : Int)) (hL.2 x hxm) ql IH x.f2 0 rfl (Nat.zero_le _)
    refine Ev.step (fun k => ?_) L1
    simp only [epicyclelaw11_rows.l0]
    rw [if_pos q, if_pos q0, if_pos q, hx]
    rfl
theorem rows_ev {L : List S134} (hL : okLen L) : Ev (fun k => epicyclelaw11_rows.f k L) (L.map cE) := by
  refine Ev.congr (fun k => ?_) (rows_l0 hL L 0 rfl (Nat.zero_le _))
  unfold epicyclelaw11_rows.f
  rfl
end Go.Proofs.YtndkmnjbjlfeaaaGreat.F06.XG
end
section
namespace Go.Proofs.YtndkmnjbjlfeaaaGreat.F06.XG
open Go Go.RowKit Go.Proofs.YtndkmnjbjlfeaaaGreatW.PrintWords Go.Proofs.YtndkmnjbjlfeaaaGreatW.PrintLast Go.Proofs.YtndkmnjbjlfeaaaGreatW.PrintMore Go.Proofs.YtndkmnjbjlfeaaaGreat.Given Go.Proofs.YtndkmnjbjlfeaaaGreat.M Go.Proofs.YtndkmnjbjlfeaaaGreat.Mont Go.Proofs.YtndkmnjbjlfeaaaGreat.XS Go.Proofs.YtndkmnjbjlfeaaaGreat.XT Go.Proofs.YtndkmnjbjlfeaaaGreat.XR Go.Proofs.YtndkmnjbjlfeaaaGreat.Num Go.Proofs.YtndkmnjbjlfeaaaGreat.XK Go.Proofs.YtndkmnjbjlfeaaaGreat.XG
theorem made_ev {L : List RE} (hL : okRow L) (kind K p : Int) : Ev (fun k => epicyclelaw11_made.f k kind K p L) ([], 0, 0) ∨ ∃ F, Ev (fun k => epicyclelaw11_made.f k kind K p L) ([F], F.p, F.g) ∧ GoodFld F := by
  by_cases h0 : kind = 0
  · subst h0
    by_cases hp : OddP p
    · obtain ⟨F, E, G, e, hg⟩ := small_odd hp
      refine .inr ⟨F, ?_, hg⟩
      rw [e]
      exact Ev.congr (fun k => rfl) (Ev.bind ((of_small (L := L) (K := K)).1 hp _ G) (evP rfl (Ev.bind E (Ev.now _))))
    · exact .inl (Ev.congr (fun k => rfl) (Ev.bind ((of_small (L := L) (K := K)).2 hp) (evP rfl (Ev.bind (small_not hp) (Ev.now _)))))
  by_cases h1 : kind = 1
  · subst h1
    by_cases hK : 0 ≤ K ∧ K ≤ 5
    · obtain ⟨F, E, e, hg⟩ := known_ev hK.1 hK.2
      refine .inr ⟨F, ?_, hg⟩
      have O := (of_known (L := L) (p := p)).1 hK
      rw [e] at O
      exact Ev.congr (fun k => rfl) (Ev.bind O (evN h0 (evP rfl (Ev.bind E (Ev.now _)))))
    · exact .inl (Ev.congr (fun k => rfl) (Ev.bind ((of_known (L := L) (p := p)).2 hK) (evN h0 (evP rfl (Ev.bind (known_not hK) (Ev.now _))))))
  have O := ofNew_ev hL (K := K) (p := p) h0 h1
  have R := rows_ev hL.1
  have E := new_ev (R := L.map cE) (by rw [map_tri]; exact hL.2) p
  rcases new_of hL p with ⟨e, _, hn, e', _, ho, _⟩ | ⟨F, hn, ho, hg, hl⟩
  · rw [hn] at E
    rw [ho] at O
    refine .inl (Ev.congr (fun k => rfl) (Ev.bind O (evN h0 (evN h1 ?_))))
    by_cases hl : (L.length : Int) ≤ 40
    · exact evP hl (Ev.bind R (Ev.bind E (Ev.now _)))
    · exact evN hl (Ev.now _)
  · rw [hn] at E
    rw [ho] at O
    exact .inr ⟨F, Ev.congr (fun k => rfl) (Ev.bind O (evN h0 (evN h1 (evP hl (Ev.bind R (Ev.bind E (Ev.now _))))))), hg⟩
end Go.Proofs.YtndkmnjbjlfeaaaGreat.F06.XG
end
section
namespace Go.Proofs.YtndkmnjbjlfeaaaGreat.F06.XG
open Go Go.RowKit Go.Proofs.YtndkmnjbjlfeaaaGreatW.PrintWords Go.Proofs.YtndkmnjbjlfeaaaGreatW.PrintLast Go.Proofs.YtndkmnjbjlfeaaaGreatW.PrintMore Go.Proofs.YtndkmnjbjlfeaaaGreat.Given Go.Proofs.YtndkmnjbjlfeaaaGreat.M Go.Proofs.YtndkmnjbjlfeaaaGreat.Mont Go.Proofs.YtndkmnjbjlfeaaaGreat.XS Go.Proofs.YtndkmnjbjlfeaaaGreat.XT Go.Proofs.YtndkmnjbjlfeaaaGreat.XR Go.Proofs.YtndkmnjbjlfeaaaGreat.Num Go.Proofs.YtndkmnjbjlfeaaaGreat.XK Go.Proofs.YtndkmnjbjlfeaaaGreat.T10 Go.Proofs.YtndkmnjbjlfeaaaGreat.D11 Go.Proofs.YtndkmnjbjlfeaaaGreat.XW Go.Proofs.YtndkmnjbjlfeaaaGreat.XG
theorem same_l0 {l : List Int} (hn : l.length ≤ 1000000) (d : Nat) : ∀ i : Nat, i + d = l.length → Ev (fun k => epicyclelaw11_same.l0 k l l (l.length : Int) (i : Int)) true := by
  induction d with
  | zero =>
    intro i hi
    exact stepE ⟨_, fun k => by simp only [epicyclelaw11_same.l0]; rw [if_neg (by omega)], Ev.now _⟩
  | succ d ih =>
    intro i hi
    have p1 : (i : Int) < (l.length : Int) := by omega
    have p2 : (0 : Int) ≤ (i : Int) := Int.natCast_nonneg _
    exact stepE ⟨_, fun k => by simp only [epicyclelaw11_same.l0]; rw [if_pos p1, if_pos p2, if_pos p1, if_pos p1, if_pos trivial, wrap_succ (by omega)], ih (i + 1) (by omega)⟩
theorem same_ev {l : List Int} (hn : l.length ≤ 1000000) : Ev (fun k => epicyclelaw11_same.f k l l) true := by
  have h := same_l0 hn l.length 0 (by omega)
  exact Ev.congr (fun k => by unfold epicyclelaw11_same.f; rw [if_pos rfl]; rfl) h
end Go.Proofs.YtndkmnjbjlfeaaaGreat.F06.XG
end
section
namespace Go.Proofs.YtndkmnjbjlfeaaaGreat.XG
open Go.RowKit Go.Proofs.YtndkmnjbjlfeaaaGreat.Given Go.Proofs.YtndkmnjbjlfeaaaGreat.Row05 Go.Proofs.YtndkmnjbjlfeaaaGreat.XS Go.Proofs.YtndkmnjbjlfeaaaGreat.XT Go.Proofs.YtndkmnjbjlfeaaaGreat.XR Go.Proofs.YtndkmnjbjlfeaaaGreat.F06 Go.Proofs.YtndkmnjbjlfeaaaGreat.XK Go.Proofs.YtndkmnjbjlfeaaaGreat.XW Go.Proofs.YtndkmnjbjlfeaaaGreatW.PrintWords Go.Proofs.YtndkmnjbjlfeaaaGreatW.PrintLast Go.Proofs.YtndkmnjbjlfeaaaGreatW.PrintMore
attribute [local go_sem] max2_int min2_int max_two min_two max_three min_three max_four min_four   -- for this text's walks alone
set_option linter.unusedVariables false
set_option linter.unusedSimpArgs false
mutual
noncomputable def epicyclelaw11_DftIs.j0 : Nat → List Int → Bool → Int → Int → List Int → Int → Int → Bool → Option (Bool)
 | 0, _, _, _, _, _, _, _, _ => none
 | k + 1, x1, x2, x8, x9, x11, x12, x13, x63 => if x63 = true then (epicyclelaw11_DftIs.j1 k x1 x2 x8 x9 x11 x12 9) else (epicyclelaw11_DftIs.j1 k x1 x2 x8 x9 x11 x12 x13)
noncomputable def epicyclelaw11_DftIs.j1 : Nat → List Int → Bool → Int → Int → List Int → Int → Int → Option (Bool)
 | 0, _, _, _, _, _, _, _ => none
 | k + 1, x1, x2, x8, x9, x11, x12, x13 => if x13 = 0 then (if (x1.length : Int) > 40 then (if x12 = 0 then (some ((x11.length : Int) == (x1.length : Int))) else (some false)) else (if x12 = 0 then ((epicycleref11_Run.f k x8 x9 x1 x2).bind fun t226 => ((epicyclelaw11_same.f k x11 t226).bind fun t229 => (some t229))) else (some false))) else (if (x11.length : Int) = 0 then (some (x12 == x13)) else (some false))
end
noncomputable def epicyclelaw11_DftIs.f (k : Nat) (a0_0 : Int) (a0_1 : Int) (a0_2 : Int) (l0_3 : List (S134)) (l1 : List Int) (a2 : Bool) : Option (Bool) := (epicyclelaw11_alive.f k).bind fun t207 => (if t207 = true then (if (l1.length : Int) > 1100 then (some true) else ((epicyclelaw11_made.f k a0_0 a0_1 a0_2 l0_3).bind fun bt208 => ((some (([] : List Int) : List Int)).bind fun y213 => (if y213.length + l1.length < 17592186044416 then ((some (y213 ++ l1 : List Int)).bind fun y216 => ((dft_Run.f k bt208.1 y216 a2).bind fun bt219 => ((epicyclelaw11_same.f k y216 l1).bind fun t223 => (if t223 = true then (if bt208.2.1 = 0 then (if (bt208.1.length : Int) = 0 then (if (bt219.1.length : Int) = 0 then (some (bt219.2 == 2)) else (some false)) else (some false)) else ((epicycleref11_Check.f bt208.2.1 (l1.length : Int) 1024).bind fun t224 => (if t224 = 0 then ((epicycleref11_Good.f k bt208.2.1 l1).bind fun t225 => (epicyclelaw11_DftIs.j0 k l1 a2 bt208.2.1 bt208.2.2 bt219.1 bt219.2 t224 (!t225))) else (epicyclelaw11_DftIs.j0 k l1 a2 bt208.2.1 bt208.2.2 bt219.1 bt219.2 t224 false)))) else (some false))))) else (none))))) else (some false))
set_option maxHeartbeats 8000000 in
set_option maxRecDepth 100000 in
theorem epicyclelaw11_DftIs.calls (k : Nat) (a0_0 : Int) (a0_1 : Int) (a0_2 : Int) (A0_3 : Option Addr) (c0_3 : Nat) (l0_3 : List (S134)) (A1 : Option Addr) (c1 : Nat) (l1 : List Int) (a2 : Bool) (w : World) (hr0_3 : Kd.C k134 w A0_3 l0_3.length l0_3) (hc0_3 : l0_3.length ≤ c0_3) (hr1 : Kd.C (Kd.int .u64) w A1 l1.length l1) (hc1 : l1.length ≤ c1) (h : epicyclelaw11_DftIs.f k a0_0 a0_1 a0_2 l0_3 l1 a2 = some true) :
  Calls Tryz.prog 3 #[.agg #[.int .i64 a0_0, .int .i64 a0_1, .int .u64 a0_2, .slice A0_3 l0_3.length c0_3], .slice A1 l1.length c1, .bool a2] w fun e w' => e = .returned (.bool true) ∧ Below w.heap.size w w' := by
 have hu25 := Tryz.underlying25
 have HR0_3 := Aside0.mk hr0_3
 have HC0_3 := Aside0.mk hc0_3
 clear hr0_3 hc0_3
 have HR1 := Aside0.mk hr1
 have HC1 := Aside0.mk hc1
 clear hr1 hc1
 have HB := Aside0.mk (Below.refl w.heap.size w)
 have H := h; unfold epicyclelaw11_DftIs.f at H
 clear h
 replace H := Option.bind_eq_some_iff.mp H
 obtain ⟨t207, A40, H⟩ := H
 (try dsimp only at H)
 have A4 := Aside0.mk A40
 clear A40
 by_cases c5 : t207 = true
 ·subst c5
  have H1 := H; rw [if_pos rfl] at H1
  clear H
  have H := H1
  clear H1
  by_cases c6 : (l1.length : Int) > 1100
  ·rw [if_pos c6] at H
   have c6b0 := decide_eq_true c6
   have c6b1 : decide (1100 < l1.length) = true := decide_eq_true (by omega)
   clear c6
   clear H
   go_enter Tryz.func3, Tryz.ntmps3
   go_wp2_with (first | ((with_reducible refine gate_dst (N := 3) rfl ?_); (try (refine gate_guard (by rfl) ?_; dsimp only)); refine box_event ?hg (N := 3) ?hd (cs := #[.int .i64 a0_0, .int .i64 a0_1, .int .u64 a0_2, .slice A0_3 l0_3.length c0_3]) (t := 25) ?hr ?_; (case hd => rfl); (case hg => rfl); (case hr => first | (go_simp; done) | (go_simp; rfl)); intro gb206 hg w7 hbox hb; have n0_ := Aside0.mk (below_step bel_ hb); have n1_ := Aside0.mk (hbox); have n2_ := Aside0.mk ((by rw [hg]; exact (below_size bel_) : w.heap.size ≤ gb206)); have n3_ := Aside0.mk ((by rw [hg]; exact (below_size bel_) : w.heap.size ≤ gb206)); clear HB; have HB := n0_; have BK206 := n1_; have GW206 := n2_; have GE206 := n3_; clear n0_ n1_ n2_ n3_; clear hb hbox hg) | ((with_reducible refine gate_callee (f := 16) rfl ?_); refine goesL_ (some 14) rfl rfl Tryz.func16 (by kernel_rfl) rfl #[] rfl (by (try simp only [List.map_toArray, List.map_cons, List.map_nil]); first | done | rfl | (simp only [List.length_drop, List.length_take]; rfl)) ?_; (with_reducible refine (epicyclelaw11_alive.calls k  true _ A4.out).mono ?_); rintro e w8 ⟨rfl, hb⟩; refine ⟨_, rfl, ?_⟩; have n0_ := Aside0.mk (blk_below (g := gb206) (o := .cells #[.int .i64 a0_0, .int .i64 a0_1, .int .u64 a0_2, .slice A0_3 l0_3.length c0_3] 25 (0, 0)) (by (with_reducible repeat (first | refine blk_drewN ?_ _ | refine blk_drew ?_ | refine blk_alloc ?_ _)); exact BK206.out) hb); have n1_ := Aside0.mk (below_step bel_ hb); clear BK206; clear HB; have BK206 := n0_; have HB := n1_; clear n0_ n1_; (try clear hb); (try clear hb2); (try clear hk); (try clear hi)))
   go_ret
   exact ⟨by first | rfl | (simp [errW_none, errW_some] <;> rfl) | (simp [*, errW_none, errW_some] <;> rfl), bel_⟩
  ·rw [if_neg c6] at H
   have c6b0 := decide_eq_false c6
   have c6b1 : decide (1100 < l1.length) = false := decide_eq_false (by omega)
   clear c6
   replace H := Option.bind_eq_some_iff.mp H
   obtain ⟨⟨t208, t211, t212⟩, A90, H⟩ := H
   (try dsimp only at H)
   have A9 := Aside0.mk A90
   clear A90
   obtain ⟨y213, hy213⟩ : ∃ y_ : List Int, y_ = (([] : List Int)) := ⟨_, rfl⟩
   replace H : (if y213.length + l1.length < 17592186044416 then ((some (y213 ++ l1 : List Int)).bind fun y216 => ((dft_Run.f k t208 y216 a2).bind fun bt219 => ((epicyclelaw11_same.f k y216 l1).bind fun t223 => (if t223 = true then (if t211 = 0 then (if (t208.length : Int) = 0 then (if (bt219.1.length : Int) = 0 then (some (bt219.2 == 2)) else (some false)) else (some false)) else ((epicycleref11_Check.f t211 (l1.length : Int) 1024).bind fun t224 => (if t224 = 0 then ((epicycleref11_Good.f k t211 l1).bind fun t225 => (epicyclelaw11_DftIs.j0 k l1 a2 t211 t212 bt219.1 bt219.2 t224 (!t225))) else (epicyclelaw11_DftIs.j0 k l1 a2 t211 t212 bt219.1 bt219.2 t224 false)))) else (some false))))) else (none)) = some true := by first | (rw [hy213]; with_reducible exact H) | (have H2_ := (Option.bind_some _ _).symm.trans H; rw [hy213]; with_reducible exact H2_) | (have H2_ := (Option.bind_some _ _).symm.trans H; with_reducible exact H2_) | with_reducible exact H | (rw [hy213]; exact H) | exact H
   have Ny213 := Aside0.mk hy213
   clear hy213
   by_cases c10 : y213.length + l1.length < 17592186044416
   ·rw [if_pos c10] at H
    have LMc10 := Aside0.mk c10
    clear c10
    obtain ⟨y216, hy216⟩ : ∃ y_ : List Int, y_ = (y213 ++ l1) := ⟨_, rfl⟩
    replace H : ((dft_Run.f k t208 y216 a2).bind fun bt219 => ((epicyclelaw11_same.f k y216 l1).bind fun t223 => (if t223 = true then (if t211 = 0 then (if (t208.length : Int) = 0 then (if (bt219.1.length : Int) = 0 then (some (bt219.2 == 2)) else (some false)) else (some false)) else ((epicycleref11_Check.f t211 (l1.length : Int) 1024).bind fun t224 => (if t224 = 0 then ((epicycleref11_Good.f k t211 l1).bind fun t225 => (epicyclelaw11_DftIs.j0 k l1 a2 t211 t212 bt219.1 bt219.2 t224 (!t225))) else (epicyclelaw11_DftIs.j0 k l1 a2 t211 t212 bt219.1 bt219.2 t224 false)))) else (some false)))) = some true := by first | (rw [hy216]; with_reducible exact H) | (have H2_ := (Option.bind_some _ _).symm.trans H; rw [hy216]; with_reducible exact H2_) | (have H2_ := (Option.bind_some _ _).symm.trans H; with_reducible exact H2_) | with_reducible exact H | (rw [hy216]; exact H) | exact H
    have Ny216 := Aside0.mk hy216
    clear hy216
    replace H := Option.bind_eq_some_iff.mp H
    obtain ⟨⟨t219, t220⟩, A110, H⟩ := H
    (try dsimp only at H)
    have A11 := Aside0.mk A110
    clear A110
    replace H := Option.bind_eq_some_iff.mp H
    obtain ⟨t223, A120, H⟩ := H
    (try dsimp only at H)
    have A12 := Aside0.mk A120
    clear A120
    by_cases c13 : t223 = true
    ·subst c13
     have H1 := H; rw [if_pos rfl] at H1
     clear H
     have H := H1
     clear H1
     by_cases c14 : t211 = 0
     ·rw [if_pos c14] at H
      have c14b0 := beq_iff_eq.mpr c14
      have c14b1 := bne_eq_false_iff_eq.mpr c14
      clear c14
      by_cases c15 : (t208.length : Int) = 0
      ·rw [if_pos c15] at H
       have c15b0 := beq_iff_eq.mpr c15
       have c15b1 := bne_eq_false_iff_eq.mpr c15
       have hTl_t208 := Aside0.mk (show t208.length = 0 by omega)
       clear c15
       by_cases c16 : (t219.length : Int) = 0
       ·rw [if_pos c16] at H
        have c16b0 := beq_iff_eq.mpr c16
        have c16b1 := bne_eq_false_iff_eq.mpr c16
        clear c16
        have hR_ := Option.some.inj H
        go_enter Tryz.func3, Tryz.ntmps3
        go_wp2_with (first | ((with_reducible refine gate_dst (N := 3) rfl ?_); (try (refine gate_guard (by rfl) ?_; dsimp only)); refine box_event ?hg (N := 3) ?hd (cs := #[.int .i64 a0_0, .int .i64 a0_1, .int .u64 a0_2, .slice A0_3 l0_3.length c0_3]) (t := 25) ?hr ?_; (case hd => rfl); (case hg => rfl); (case hr => first | (go_simp; done) | (go_simp; rfl)); intro gb206 hg w17 hbox hb; have n0_ := Aside0.mk (below_step bel_ hb); have n1_ := Aside0.mk (hbox); have n2_ := Aside0.mk ((by rw [hg]; exact (below_size bel_) : w.heap.size ≤ gb206)); have n3_ := Aside0.mk ((by rw [hg]; exact (below_size bel_) : w.heap.size ≤ gb206)); clear HB; have HB := n0_; have BK206 := n1_; have GW206 := n2_; have GE206 := n3_; clear n0_ n1_ n2_ n3_; clear hb hbox hg) | ((with_reducible refine gate_callee (f := 16) rfl ?_); refine goesL_ (some 14) rfl rfl Tryz.func16 (by kernel_rfl) rfl #[] rfl (by (try simp only [List.map_toArray, List.map_cons, List.map_nil]); first | done | rfl | (simp only [List.length_drop, List.length_take]; rfl)) ?_; (with_reducible refine (epicyclelaw11_alive.calls k  true _ A4.out).mono ?_); rintro e w18 ⟨rfl, hb⟩; refine ⟨_, rfl, ?_⟩; have n0_ := Aside0.mk (blk_below (g := gb206) (o := .cells #[.int .i64 a0_0, .int .i64 a0_1, .int .u64 a0_2, .slice A0_3 l0_3.length c0_3] 25 (0, 0)) (by (with_reducible repeat (first | refine blk_drewN ?_ _ | refine blk_drew ?_ | refine blk_alloc ?_ _)); exact BK206.out) hb); have n1_ := Aside0.mk (below_step bel_ hb); clear BK206; clear HB; have BK206 := n0_; have HB := n1_; clear n0_ n1_; (try clear hb); (try clear hb2); (try clear hk); (try clear hi); have hcz19_0 : w18.cell? ⟨gb206, 0, none⟩ = some (.int .i64 a0_0) := (blk_cell BK206.out 0).trans rfl; have hcz19_1 : w18.cell? ⟨gb206, 1, none⟩ = some (.int .i64 a0_1) := (blk_cell BK206.out 1).trans rfl; have hcz19_2 : w18.cell? ⟨gb206, 2, none⟩ = some (.int .u64 a0_2) := (blk_cell BK206.out 2).trans rfl; have hcz19_3 : w18.cell? ⟨gb206, 3, none⟩ = some (.slice A0_3 l0_3.length c0_3) := (blk_cell BK206.out 3).trans rfl; have hfz19_0 := blk_frozen BK206.out 0; have hfz19_1 := blk_frozen BK206.out 1; have hfz19_2 := blk_frozen BK206.out 2; have hfz19_3 := blk_frozen BK206.out 3) | ((with_reducible refine gate_callee (f := 17) rfl ?_); refine goesL_ (some 21) rfl rfl Tryz.func17 (by kernel_rfl) rfl #[.agg #[.int .i64 a0_0, .int .i64 a0_1, .int .u64 a0_2, .slice A0_3 l0_3.length c0_3]] rfl (by (try simp only [List.map_toArray, List.map_cons, List.map_nil]); first | done | rfl | (simp only [List.length_drop, List.length_take]; rfl)) ?_; (with_reducible refine (epicyclelaw11_made.calls k a0_0 a0_1 a0_2 _ _ l0_3 t208 t211 t212 _ ?side1 ?side2 A9.out).mono ?_); (case side1 => repeat (first | exact (Kd.C_below HR0_3.out HB.out) | (with_reducible refine Kd.C_alloc ?_ _) | (with_reducible refine Kd.C_drewN ?_ _) | (with_reducible refine Kd.C_drew ?_))); (case side2 => exact HC0_3.out); rintro e w20 ⟨v209, rfl, ho0, hb⟩; refine ⟨_, rfl, ?_⟩; have n0_ := Aside0.mk (Kd.R_lower ho0 (below_size bel_)); have n1_ := Aside0.mk (blk_below (g := gb206) (o := .cells #[.int .i64 a0_0, .int .i64 a0_1, .int .u64 a0_2, .slice A0_3 l0_3.length c0_3] 25 (0, 0)) (by (with_reducible repeat (first | refine blk_drewN ?_ _ | refine blk_drew ?_ | refine blk_alloc ?_ _)); exact BK206.out) hb); have n2_ := Aside0.mk (below_step bel_ hb); clear BK206; clear HB; have HO210 := n0_; have BK206 := n1_; have HB := n2_; clear n0_ n1_ n2_; (try clear hb); (try clear hb2); (try clear hk); (try clear hi); (try clear ho0); have hT_HO210 := pf_none_own HO210.out hTl_t208.out) | ((with_reducible refine gate_dst (N := 25) rfl ?_); (try (refine gate_guard (by rfl) ?_; dsimp only)); refine Kd.R_lit (Kd.int .u64) _ 22 ?hg (N := 25) ?hd (xs := ([] : List Int)) (inner := []) (ok := fun _ => True) (okp := fun _ => True) ?hr ?hp (fun _ hk => hk) trivial (Below.refl _ _) (Nat.le_refl _) (by simp) ?_; (case hd => rfl); (case hg => rfl); (case hr => first | (go_simp; done) | (go_simp; rfl)); (case hp => exact (Reps.none _ _)); intro v214 w21 ho22 hb hg_ hnew_; clear hg_ hnew_; (first | rw [← Ny213.out] at ho22 | (simp only [Int.reduceToNat] at ho22; rw [← Ny213.out] at ho22)); have n0_ := Aside0.mk (Kd.R_below (by (with_reducible repeat (first | apply Kd.R_alloc | apply Kd.R_drewN | apply Kd.R_drew)); exact HO210.out) hb); have n1_ := Aside0.mk (Kd.R_lower ho22 (below_size bel_)); have n2_ := Aside0.mk (blk_below (g := gb206) (o := .cells #[.int .i64 a0_0, .int .i64 a0_1, .int .u64 a0_2, .slice A0_3 l0_3.length c0_3] 25 (0, 0)) (by (with_reducible repeat (first | refine blk_drewN ?_ _ | refine blk_drew ?_ | refine blk_alloc ?_ _)); exact BK206.out) hb); have n3_ := Aside0.mk (below_step bel_ hb); clear HO210; clear BK206; clear HB; have HO210 := n0_; have HO215 := n1_; have BK206 := n2_; have HB := n3_; clear n0_ n1_ n2_ n3_; clear hb ho22) | ((with_reducible refine gate_builtin (b := .append) (xs := #[.tmp 25, .tmp 26]) rfl ?_); (try (refine gate_guard (by rfl) ?_; dsimp only)); at_builtin; refine Kd.R_append_rows (Kd.int .u64) (w0 := w) w.heap.size rfl (.tmp 25) (.tmp 26) 26 22 (.int .u64 0) 8 rfl Tryz.underlying26 info22 rfl (by decide) (by omega) v214 y213 l1 _ _ _ (fun _ => True) (fun _ => False) rfl rfl ?aO ?aR (fun _ _ h => h) (fun _ h => h.elim) ?aF ?aB ?aS ?aL ?_; (case aR => repeat (first | exact (Kd.C_below HR1.out HB.out) | (with_reducible refine Kd.C_alloc ?_ _) | (with_reducible refine Kd.C_drewN ?_ _) | (with_reducible refine Kd.C_drew ?_))); (case aB => exact bel_); (case aF => exact (fun _ _ => trivial)); (case aO => exact (by (with_reducible repeat (first | apply Kd.R_alloc | apply Kd.R_drewN | apply Kd.R_drew)); exact HO215.out)); (case aS => exact (below_size bel_)); (case aL => have := LMc10.out; omega); intro v217 w23 ho hb hg hat; rw [← Ny216.out] at ho; have n0_ := Aside0.mk (blk_grown (g := gb206) (o := .cells #[.int .i64 a0_0, .int .i64 a0_1, .int .u64 a0_2, .slice A0_3 l0_3.length c0_3] 25 (0, 0)) (by (with_reducible repeat (first | refine blk_drewN ?_ _ | refine blk_drew ?_ | refine blk_alloc ?_ _)); exact BK206.out) hg (Kd.R_ne HO215.out BK206.out (by decide))); have n1_ := Aside0.mk (Kd.R_over' (by (with_reducible repeat (first | apply Kd.R_alloc | apply Kd.R_drewN | apply Kd.R_drew)); exact HO210.out) (Kd.R_typed (by (with_reducible repeat (first | apply Kd.R_alloc | apply Kd.R_drewN | apply Kd.R_drew)); exact HO215.out)) (by decide) hg); have n2_ := Aside0.mk (hb); have n3_ := Aside0.mk (ho); clear BK206; clear HO210; clear HB; clear HO215; have BK206 := n0_; have HO210 := n1_; have HB := n2_; have HO218 := n3_; clear n0_ n1_ n2_ n3_; clear ho hb hg hat; obtain ⟨Ao24, co24, eo24⟩ := Kd.R_slice HO210.out; subst eo24; obtain ⟨Ao25, co25, eo25⟩ := Kd.R_slice HO218.out; subst eo25) | ((with_reducible refine gate_callee (f := 18) rfl ?_); refine goesL_ (some 32) rfl rfl Tryz.func18 (by kernel_rfl) rfl #[toPtr (.slice Ao24 t208.length co24), .slice Ao25 y216.length co25, .bool a2] rfl (by (try simp only [List.map_toArray, List.map_cons, List.map_nil]); first | done | (rw [hT_HO210] <;> rfl) | rfl | (simp only [List.length_drop, List.length_take]; rfl)) ?_; (try rw [← hT_HO210]); (with_reducible refine (dft_Run.calls k _ _ t208 _ _ y216 a2 t219 t220 _ ?side1 ?side2 ?side3 ?side4 A11.out).mono ?_); (case side1 => repeat (first | exact (Kd.R_reads' HO210.out).2.2 | (with_reducible refine Kd.C_alloc ?_ _) | (with_reducible refine Kd.C_drewN ?_ _) | (with_reducible refine Kd.C_drew ?_))); (case side2 => exact (Kd.R_reads' HO210.out).2.1); (case side3 => repeat (first | exact (Kd.R_reads' HO218.out).2.2 | (with_reducible refine Kd.C_alloc ?_ _) | (with_reducible refine Kd.C_drewN ?_ _) | (with_reducible refine Kd.C_drew ?_))); (case side4 => exact (Kd.R_reads' HO218.out).2.1); rintro e w26 ⟨v221, rfl, ho0, hb⟩; refine ⟨_, rfl, ?_⟩; have n0_ := Aside0.mk (Kd.R_below (by (with_reducible repeat (first | apply Kd.R_alloc | apply Kd.R_drewN | apply Kd.R_drew)); exact HO210.out) hb); have n1_ := Aside0.mk (Kd.R_elder' (by (with_reducible repeat (first | apply Kd.R_alloc | apply Kd.R_drewN | apply Kd.R_drew)); exact HO218.out) (Kd.R_base ho0) hb); have n2_ := Aside0.mk (Kd.R_lower (Kd.R_new' ho0 (Kd.R_lt (by (with_reducible repeat (first | apply Kd.R_alloc | apply Kd.R_drewN | apply Kd.R_drew)); exact HO218.out))) (below_size bel_)); have n3_ := Aside0.mk (blk_below (g := gb206) (o := .cells #[.int .i64 a0_0, .int .i64 a0_1, .int .u64 a0_2, .slice A0_3 l0_3.length c0_3] 25 (0, 0)) (by (with_reducible repeat (first | refine blk_drewN ?_ _ | refine blk_drew ?_ | refine blk_alloc ?_ _)); exact BK206.out) hb); have n4_ := Aside0.mk (below_step bel_ hb); clear HO210; clear HO218; clear BK206; clear HB; have HO210 := n0_; have HO218 := n1_; have HO222 := n2_; have BK206 := n3_; have HB := n4_; clear n0_ n1_ n2_ n3_ n4_; (try clear hb); (try clear hb2); (try clear hk); (try clear hi); (try clear ho0); have hT_HO210 := pf_none_own HO210.out hTl_t208.out) | ((with_reducible refine gate_callee (f := 19) rfl ?_); refine goesL_ (some 37) rfl rfl Tryz.func19 (by kernel_rfl) rfl #[.slice Ao25 y216.length co25, .slice A1 l1.length c1] rfl (by (try simp only [List.map_toArray, List.map_cons, List.map_nil]); first | done | rfl | (simp only [List.length_drop, List.length_take]; rfl)) ?_; (with_reducible refine (epicyclelaw11_same.calls k _ _ y216 _ _ l1 true _ ?side1 ?side2 ?side3 ?side4 A12.out).mono ?_); (case side1 => repeat (first | exact (Kd.R_reads' HO218.out).2.2 | (with_reducible refine Kd.C_alloc ?_ _) | (with_reducible refine Kd.C_drewN ?_ _) | (with_reducible refine Kd.C_drew ?_))); (case side2 => exact (Kd.R_reads' HO218.out).2.1); (case side3 => repeat (first | exact (Kd.C_below HR1.out HB.out) | (with_reducible refine Kd.C_alloc ?_ _) | (with_reducible refine Kd.C_drewN ?_ _) | (with_reducible refine Kd.C_drew ?_))); (case side4 => exact HC1.out); rintro e w' ⟨rfl, ⟨nd, rfl⟩⟩; refine ⟨_, rfl, ?_⟩; obtain ⟨Ao27, co27, eo27⟩ := Kd.R_slice HO222.out; subst eo27))
        go_ret
        exact ⟨by first | rfl | (simp [errW_none, errW_some] <;> rfl) | (simp [*, errW_none, errW_some] <;> rfl), bel_⟩
       ·rw [if_neg c16] at H
        have c16b0 := beq_eq_false_iff_ne.mpr c16
        have c16b1 := bne_iff_ne.mpr c16
        have c16b2 : ¬ (t219 = []) := fun h_ => c16 (by rw [h_]; rfl)
        exact absurd H (by simp)
      ·rw [if_neg c15] at H
       have c15b0 := beq_eq_false_iff_ne.mpr c15
       have c15b1 := bne_iff_ne.mpr c15
       have c15b2 : ¬ (t208 = []) := fun h_ => c15 (by rw [h_]; rfl)
       have hTl_t208 := Aside0.mk (show ¬ (t208.length = 0) by omega)
       exact absurd H (by simp)
     ·rw [if_neg c14] at H
      have c14b0 := beq_eq_false_iff_ne.mpr c14
      have c14b1 := bne_iff_ne.mpr c14
      replace H := Option.bind_eq_some_iff.mp H
      obtain ⟨t224, A280, H⟩ := H
      (try dsimp only at H)
      have A28 := Aside0.mk A280
      clear A280
      have HC29 := Aside0.mk H
      clear H
      go_enter Tryz.func3, Tryz.ntmps3
      go_upto_region 13 with (first | ((with_reducible refine gate_dst (N := 3) rfl ?_); (try (refine gate_guard (by rfl) ?_; dsimp only)); refine box_event ?hg (N := 3) ?hd (cs := #[.int .i64 a0_0, .int .i64 a0_1, .int .u64 a0_2, .slice A0_3 l0_3.length c0_3]) (t := 25) ?hr ?_; (case hd => rfl); (case hg => rfl); (case hr => first | (go_simp; done) | (go_simp; rfl)); intro gb206 hg w30 hbox hb; have n0_ := Aside0.mk (below_step bel_ hb); have n1_ := Aside0.mk (hbox); have n2_ := Aside0.mk ((by rw [hg]; exact (below_size bel_) : w.heap.size ≤ gb206)); have n3_ := Aside0.mk ((by rw [hg]; exact (below_size bel_) : w.heap.size ≤ gb206)); clear HB; have HB := n0_; have BK206 := n1_; have GW206 := n2_; have GE206 := n3_; clear n0_ n1_ n2_ n3_; clear hb hbox hg) | ((with_reducible refine gate_callee (f := 16) rfl ?_); refine goesL_ (some 14) rfl rfl Tryz.func16 (by kernel_rfl) rfl #[] rfl (by (try simp only [List.map_toArray, List.map_cons, List.map_nil]); first | done | rfl | (simp only [List.length_drop, List.length_take]; rfl)) ?_; (with_reducible refine (epicyclelaw11_alive.calls k  true _ A4.out).mono ?_); rintro e w31 ⟨rfl, hb⟩; refine ⟨_, rfl, ?_⟩; have n0_ := Aside0.mk (blk_below (g := gb206) (o := .cells #[.int .i64 a0_0, .int .i64 a0_1, .int .u64 a0_2, .slice A0_3 l0_3.length c0_3] 25 (0, 0)) (by (with_reducible repeat (first | refine blk_drewN ?_ _ | refine blk_drew ?_ | refine blk_alloc ?_ _)); exact BK206.out) hb); have n1_ := Aside0.mk (below_step bel_ hb); clear BK206; clear HB; have BK206 := n0_; have HB := n1_; clear n0_ n1_; (try clear hb); (try clear hb2); (try clear hk); (try clear hi); have hcz32_0 : w31.cell? ⟨gb206, 0, none⟩ = some (.int .i64 a0_0) := (blk_cell BK206.out 0).trans rfl; have hcz32_1 : w31.cell? ⟨gb206, 1, none⟩ = some (.int .i64 a0_1) := (blk_cell BK206.out 1).trans rfl; have hcz32_2 : w31.cell? ⟨gb206, 2, none⟩ = some (.int .u64 a0_2) := (blk_cell BK206.out 2).trans rfl; have hcz32_3 : w31.cell? ⟨gb206, 3, none⟩ = some (.slice A0_3 l0_3.length c0_3) := (blk_cell BK206.out 3).trans rfl; have hfz32_0 := blk_frozen BK206.out 0; have hfz32_1 := blk_frozen BK206.out 1; have hfz32_2 := blk_frozen BK206.out 2; have hfz32_3 := blk_frozen BK206.out 3) | ((with_reducible refine gate_callee (f := 17) rfl ?_); refine goesL_ (some 21) rfl rfl Tryz.func17 (by kernel_rfl) rfl #[.agg #[.int .i64 a0_0, .int .i64 a0_1, .int .u64 a0_2, .slice A0_3 l0_3.length c0_3]] rfl (by (try simp only [List.map_toArray, List.map_cons, List.map_nil]); first | done | rfl | (simp only [List.length_drop, List.length_take]; rfl)) ?_; (with_reducible refine (epicyclelaw11_made.calls k a0_0 a0_1 a0_2 _ _ l0_3 t208 t211 t212 _ ?side1 ?side2 A9.out).mono ?_); (case side1 => repeat (first | exact (Kd.C_below HR0_3.out HB.out) | (with_reducible refine Kd.C_alloc ?_ _) | (with_reducible refine Kd.C_drewN ?_ _) | (with_reducible refine Kd.C_drew ?_))); (case side2 => exact HC0_3.out); rintro e w33 ⟨v209, rfl, ho0, hb⟩; refine ⟨_, rfl, ?_⟩; have n0_ := Aside0.mk (Kd.R_lower ho0 (below_size bel_)); have n1_ := Aside0.mk (blk_below (g := gb206) (o := .cells #[.int .i64 a0_0, .int .i64 a0_1, .int .u64 a0_2, .slice A0_3 l0_3.length c0_3] 25 (0, 0)) (by (with_reducible repeat (first | refine blk_drewN ?_ _ | refine blk_drew ?_ | refine blk_alloc ?_ _)); exact BK206.out) hb); have n2_ := Aside0.mk (below_step bel_ hb); clear BK206; clear HB; have HO210 := n0_; have BK206 := n1_; have HB := n2_; clear n0_ n1_ n2_; (try clear hb); (try clear hb2); (try clear hk); (try clear hi); (try clear ho0)) | ((with_reducible refine gate_dst (N := 25) rfl ?_); (try (refine gate_guard (by rfl) ?_; dsimp only)); refine Kd.R_lit (Kd.int .u64) _ 22 ?hg (N := 25) ?hd (xs := ([] : List Int)) (inner := []) (ok := fun _ => True) (okp := fun _ => True) ?hr ?hp (fun _ hk => hk) trivial (Below.refl _ _) (Nat.le_refl _) (by simp) ?_; (case hd => rfl); (case hg => rfl); (case hr => first | (go_simp; done) | (go_simp; rfl)); (case hp => exact (Reps.none _ _)); intro v214 w34 ho35 hb hg_ hnew_; clear hg_ hnew_; (first | rw [← Ny213.out] at ho35 | (simp only [Int.reduceToNat] at ho35; rw [← Ny213.out] at ho35)); have n0_ := Aside0.mk (Kd.R_below (by (with_reducible repeat (first | apply Kd.R_alloc | apply Kd.R_drewN | apply Kd.R_drew)); exact HO210.out) hb); have n1_ := Aside0.mk (Kd.R_lower ho35 (below_size bel_)); have n2_ := Aside0.mk (blk_below (g := gb206) (o := .cells #[.int .i64 a0_0, .int .i64 a0_1, .int .u64 a0_2, .slice A0_3 l0_3.length c0_3] 25 (0, 0)) (by (with_reducible repeat (first | refine blk_drewN ?_ _ | refine blk_drew ?_ | refine blk_alloc ?_ _)); exact BK206.out) hb); have n3_ := Aside0.mk (below_step bel_ hb); clear HO210; clear BK206; clear HB; have HO210 := n0_; have HO215 := n1_; have BK206 := n2_; have HB := n3_; clear n0_ n1_ n2_ n3_; clear hb ho35) | ((with_reducible refine gate_builtin (b := .append) (xs := #[.tmp 25, .tmp 26]) rfl ?_); (try (refine gate_guard (by rfl) ?_; dsimp only)); at_builtin; refine Kd.R_append_rows (Kd.int .u64) (w0 := w) w.heap.size rfl (.tmp 25) (.tmp 26) 26 22 (.int .u64 0) 8 rfl Tryz.underlying26 info22 rfl (by decide) (by omega) v214 y213 l1 _ _ _ (fun _ => True) (fun _ => False) rfl rfl ?aO ?aR (fun _ _ h => h) (fun _ h => h.elim) ?aF ?aB ?aS ?aL ?_; (case aR => repeat (first | exact (Kd.C_below HR1.out HB.out) | (with_reducible refine Kd.C_alloc ?_ _) | (with_reducible refine Kd.C_drewN ?_ _) | (with_reducible refine Kd.C_drew ?_))); (case aB => exact bel_); (case aF => exact (fun _ _ => trivial)); (case aO => exact (by (with_reducible repeat (first | apply Kd.R_alloc | apply Kd.R_drewN | apply Kd.R_drew)); exact HO215.out)); (case aS => exact (below_size bel_)); (case aL => have := LMc10.out; omega); intro v217 w36 ho hb hg hat; rw [← Ny216.out] at ho; have n0_ := Aside0.mk (blk_grown (g := gb206) (o := .cells #[.int .i64 a0_0, .int .i64 a0_1, .int .u64 a0_2, .slice A0_3 l0_3.length c0_3] 25 (0, 0)) (by (with_reducible repeat (first | refine blk_drewN ?_ _ | refine blk_drew ?_ | refine blk_alloc ?_ _)); exact BK206.out) hg (Kd.R_ne HO215.out BK206.out (by decide))); have n1_ := Aside0.mk (Kd.R_over' (by (with_reducible repeat (first | apply Kd.R_alloc | apply Kd.R_drewN | apply Kd.R_drew)); exact HO210.out) (Kd.R_typed (by (with_reducible repeat (first | apply Kd.R_alloc | apply Kd.R_drewN | apply Kd.R_drew)); exact HO215.out)) (by decide) hg); have n2_ := Aside0.mk (hb); have n3_ := Aside0.mk (ho); clear BK206; clear HO210; clear HB; clear HO215; have BK206 := n0_; have HO210 := n1_; have HB := n2_; have HO218 := n3_; clear n0_ n1_ n2_ n3_; clear ho hb hg hat; obtain ⟨Ao37, co37, eo37⟩ := Kd.R_slice HO210.out; subst eo37; obtain ⟨Ao38, co38, eo38⟩ := Kd.R_slice HO218.out; subst eo38) | ((with_reducible refine gate_callee (f := 18) rfl ?_); refine goesL_ (some 32) rfl rfl Tryz.func18 (by kernel_rfl) rfl #[toPtr (.slice Ao37 t208.length co37), .slice Ao38 y216.length co38, .bool a2] rfl (by (try simp only [List.map_toArray, List.map_cons, List.map_nil]); first | done | (rw [hT_HO210] <;> rfl) | rfl | (simp only [List.length_drop, List.length_take]; rfl)) ?_; (try rw [← hT_HO210]); (with_reducible refine (dft_Run.calls k _ _ t208 _ _ y216 a2 t219 t220 _ ?side1 ?side2 ?side3 ?side4 A11.out).mono ?_); (case side1 => repeat (first | exact (Kd.R_reads' HO210.out).2.2 | (with_reducible refine Kd.C_alloc ?_ _) | (with_reducible refine Kd.C_drewN ?_ _) | (with_reducible refine Kd.C_drew ?_))); (case side2 => exact (Kd.R_reads' HO210.out).2.1); (case side3 => repeat (first | exact (Kd.R_reads' HO218.out).2.2 | (with_reducible refine Kd.C_alloc ?_ _) | (with_reducible refine Kd.C_drewN ?_ _) | (with_reducible refine Kd.C_drew ?_))); (case side4 => exact (Kd.R_reads' HO218.out).2.1); rintro e w39 ⟨v221, rfl, ho0, hb⟩; refine ⟨_, rfl, ?_⟩; have n0_ := Aside0.mk (Kd.R_below (by (with_reducible repeat (first | apply Kd.R_alloc | apply Kd.R_drewN | apply Kd.R_drew)); exact HO210.out) hb); have n1_ := Aside0.mk (Kd.R_elder' (by (with_reducible repeat (first | apply Kd.R_alloc | apply Kd.R_drewN | apply Kd.R_drew)); exact HO218.out) (Kd.R_base ho0) hb); have n2_ := Aside0.mk (Kd.R_lower (Kd.R_new' ho0 (Kd.R_lt (by (with_reducible repeat (first | apply Kd.R_alloc | apply Kd.R_drewN | apply Kd.R_drew)); exact HO218.out))) (below_size bel_)); have n3_ := Aside0.mk (blk_below (g := gb206) (o := .cells #[.int .i64 a0_0, .int .i64 a0_1, .int .u64 a0_2, .slice A0_3 l0_3.length c0_3] 25 (0, 0)) (by (with_reducible repeat (first | refine blk_drewN ?_ _ | refine blk_drew ?_ | refine blk_alloc ?_ _)); exact BK206.out) hb); have n4_ := Aside0.mk (below_step bel_ hb); clear HO210; clear HO218; clear BK206; clear HB; have HO210 := n0_; have HO218 := n1_; have HO222 := n2_; have BK206 := n3_; have HB := n4_; clear n0_ n1_ n2_ n3_ n4_; (try clear hb); (try clear hb2); (try clear hk); (try clear hi); (try clear ho0)) | ((with_reducible refine gate_callee (f := 19) rfl ?_); refine goesL_ (some 37) rfl rfl Tryz.func19 (by kernel_rfl) rfl #[.slice Ao38 y216.length co38, .slice A1 l1.length c1] rfl (by (try simp only [List.map_toArray, List.map_cons, List.map_nil]); first | done | rfl | (simp only [List.length_drop, List.length_take]; rfl)) ?_; (with_reducible refine (epicyclelaw11_same.calls k _ _ y216 _ _ l1 true _ ?side1 ?side2 ?side3 ?side4 A12.out).mono ?_); (case side1 => repeat (first | exact (Kd.R_reads' HO218.out).2.2 | (with_reducible refine Kd.C_alloc ?_ _) | (with_reducible refine Kd.C_drewN ?_ _) | (with_reducible refine Kd.C_drew ?_))); (case side2 => exact (Kd.R_reads' HO218.out).2.1); (case side3 => repeat (first | exact (Kd.C_below HR1.out HB.out) | (with_reducible refine Kd.C_alloc ?_ _) | (with_reducible refine Kd.C_drewN ?_ _) | (with_reducible refine Kd.C_drew ?_))); (case side4 => exact HC1.out); rintro e w' ⟨rfl, ⟨nd, rfl⟩⟩; refine ⟨_, rfl, ?_⟩) | ((with_reducible refine gate_callee (f := 20) rfl ?_); refine goesL_ (some 55) rfl rfl Tryz.func20 (by kernel_rfl) rfl #[.int .u64 t211, .int .i64 (l1.length : Int), .int .i64 1024] rfl (by (try simp only [List.map_toArray, List.map_cons, List.map_nil]); first | done | rfl | (simp only [List.length_drop, List.length_take]; rfl)) ?_; (with_reducible refine (epicycleref11_Check.calls t211 (l1.length : Int) 1024 t224 _ A28.out).mono ?_); rintro e w' ⟨rfl, ⟨nd, rfl⟩⟩; refine ⟨_, rfl, ?_⟩))
      (try simp only [Act.put, List.setIfInBounds_toArray, List.set_cons_zero, List.set_cons_succ])
      go_cut [63] (fun v63 wc => ∃ (kq : Nat) (x63_28 : Bool), v63 = .bool x63_28 ∧ Aside0 (epicyclelaw11_DftIs.j0 kq l1 a2 t211 t212 t219 t220 t224 x63_28 = some true) ∧ Aside0 (kq ≤ k) ∧ Aside0 (Kd.R (Kd.int .u64) 22 wc w.heap.size (fun _ => True) v221 t219) ∧ Aside0 (wc.heap[gb206]? = some (.cells #[.int .i64 a0_0, .int .i64 a0_1, .int .u64 a0_2, (.slice A0_3 l0_3.length c0_3)] 25 (0, 0))) ∧ Aside0 (Below w.heap.size w wc))
      case first =>
       have H := HC29.out
       clear HC29
       by_cases c40 : t224 = 0
       ·rw [if_pos c40] at H
        have c40b0 := beq_iff_eq.mpr c40
        have c40b1 := bne_eq_false_iff_eq.mpr c40
        clear c40
        (first | rw [c40b0] | (simp only [i64_w, i32_w]; rw [c40b0]) | skip)
        replace H := Option.bind_eq_some_iff.mp H
        obtain ⟨t225, A410, H⟩ := H
        (try dsimp only at H)
        have A41 := Aside0.mk A410
        clear A410
        have H' := Aside0.mk H
        clear H
        go_wp2_with (first | (go_at_call 21; (with_reducible refine (epicycleref11_Good.calls k t211 _ _ l1 t225 _ ?side1 ?side2 A41.out).mono ?_); (case side1 => repeat (first | exact (Kd.C_below HR1.out HB.out) | (with_reducible refine Kd.C_alloc ?_ _) | (with_reducible refine Kd.C_drewN ?_ _) | (with_reducible refine Kd.C_drew ?_))); (case side2 => exact HC1.out); rintro e w' ⟨rfl, ⟨nd, rfl⟩⟩))
        go_meet
        case rel => exact ⟨_, (!t225), (by first | rfl | (simp; done) | (simp [*]; done)), H', ⟨by first | omega | exact Nat.le_refl _⟩, ⟨by (with_reducible repeat (first | apply Kd.R_alloc | apply Kd.R_drewN | apply Kd.R_drew)); exact Kd.R_mono HO222.out (fun _ hk => trivial)⟩, ⟨by (with_reducible repeat (first | refine blk_drewN ?_ _ | refine blk_drew ?_ | refine blk_alloc ?_ _)); exact BK206.out⟩, ⟨bel_⟩⟩
       ·rw [if_neg c40] at H
        have c40b0 := beq_eq_false_iff_ne.mpr c40
        have c40b1 := bne_iff_ne.mpr c40
        (first | rw [c40b0] | (simp only [i64_w, i32_w]; rw [c40b0]) | skip)
        have H' := Aside0.mk H
        clear H
        go_wp2
        go_meet
        case rel => exact ⟨_, (false), (by first | rfl | (simp; done) | (simp [*]; done)), H', ⟨by first | omega | exact Nat.le_refl _⟩, ⟨by (with_reducible repeat (first | apply Kd.R_alloc | apply Kd.R_drewN | apply Kd.R_drew)); exact Kd.R_mono HO222.out (fun _ hk => trivial)⟩, ⟨by (with_reducible repeat (first | refine blk_drewN ?_ _ | refine blk_drew ?_ | refine blk_alloc ?_ _)); exact BK206.out⟩, ⟨bel_⟩⟩
      case rest =>
       clear HC29
       try clear c1
       try clear c2
       try clear p2
       try clear c3
       try clear c4
       try clear c5
       try clear c6
       try clear c6b0
       try clear c6b1
       try clear c10
       try clear c13
       try clear c14
       try clear c14b0
       try clear c14b1
       try clear c15
       try clear c15b0
       try clear c15b1
       try clear c15b2
       try clear c16
       try clear c16b0
       try clear c16b1
       try clear c16b2
       try clear c17
       try clear c18
       try clear c19
       try clear c20
       try clear c40
       try clear c40b0
       try clear c40b1
       try clear hcz19_0
       try clear hcz19_1
       try clear hcz19_2
       try clear hcz19_3
       try clear hcz32_0
       try clear hcz32_1
       try clear hcz32_2
       try clear hcz32_3
       try clear hfz19_0
       try clear hfz19_1
       try clear hfz19_2
       try clear hfz19_3
       try clear hfz32_0
       try clear hfz32_1
       try clear hfz32_2
       try clear hfz32_3
       obtain ⟨kq, x63_28, rfl, HA, HJ28, HO_11, BK206, HB⟩ := hcut
       cases kq with
       | zero => exact absurd HA.out (by simp [epicyclelaw11_DftIs.j0])
       | succ kj28 =>
        have H := HA.out
        clear HA
        simp only [epicyclelaw11_DftIs.j0] at H
        have HC42 := Aside0.mk H
        clear H
        go_upto_if 63 with (fail)
        go_cut [13] (fun v13 wc => ∃ (kq : Nat) (x13_41 : Int), v13 = .int .i64 x13_41 ∧ Aside0 (epicyclelaw11_DftIs.j1 kq l1 a2 t211 t212 t219 t220 x13_41 = some true) ∧ Aside0 (kq ≤ kj28) ∧ Aside0 (Kd.R (Kd.int .u64) 22 wc w.heap.size (fun _ => True) v221 t219) ∧ Aside0 (wc.heap[gb206]? = some (.cells #[.int .i64 a0_0, .int .i64 a0_1, .int .u64 a0_2, (.slice A0_3 l0_3.length c0_3)] 25 (0, 0))) ∧ Aside0 (Below w.heap.size w wc))
        case first =>
         have H := HC42.out
         clear HC42
         by_cases c43 : x63_28 = true
         ·subst c43
          have H1 := H; rw [if_pos rfl] at H1
          clear H
          have H := H1
          clear H1
          have H' := Aside0.mk H
          clear H
          go_wp2
          go_meet
          case rel => exact ⟨_, (9), (by first | rfl | (simp; done) | (simp [*]; done)), H', ⟨by have := HJ28.out; first | omega | exact Nat.le_refl _⟩, ⟨by (with_reducible repeat (first | apply Kd.R_alloc | apply Kd.R_drewN | apply Kd.R_drew)); exact HO_11.out⟩, ⟨by (with_reducible repeat (first | refine blk_drewN ?_ _ | refine blk_drew ?_ | refine blk_alloc ?_ _)); exact BK206.out⟩, ⟨bel_⟩⟩
         ·replace c43 := Bool.eq_false_iff.mpr c43
          subst c43
          have H1 := H; rw [if_neg (show ¬ (false = true) by decide)] at H1
          clear H
          have H := H1
          clear H1
          have H' := Aside0.mk H
          clear H
          go_wp2
          go_meet
          case rel => exact ⟨_, (t224), (by first | rfl | (simp; done) | (simp [*]; done)), H', ⟨by have := HJ28.out; first | omega | exact Nat.le_refl _⟩, ⟨by (with_reducible repeat (first | apply Kd.R_alloc | apply Kd.R_drewN | apply Kd.R_drew)); exact HO_11.out⟩, ⟨by (with_reducible repeat (first | refine blk_drewN ?_ _ | refine blk_drew ?_ | refine blk_alloc ?_ _)); exact BK206.out⟩, ⟨bel_⟩⟩
        case rest =>
         clear HC42
         try clear c1
         try clear c2
         try clear p2
         try clear c3
         try clear c4
         try clear c5
         try clear c6
         try clear c6b0
         try clear c6b1
         try clear c10
         try clear c13
         try clear c14
         try clear c14b0
         try clear c14b1
         try clear c15
         try clear c15b0
         try clear c15b1
         try clear c15b2
         try clear c16
         try clear c16b0
         try clear c16b1
         try clear c16b2
         try clear c17
         try clear c18
         try clear c19
         try clear c20
         try clear c40
         try clear c40b0
         try clear c40b1
         try clear c43
         try clear hcz19_0
         try clear hcz19_1
         try clear hcz19_2
         try clear hcz19_3
         try clear hcz32_0
         try clear hcz32_1
         try clear hcz32_2
         try clear hcz32_3
         try clear hfz19_0
         try clear hfz19_1
         try clear hfz19_2
         try clear hfz19_3
         try clear hfz32_0
         try clear hfz32_1
         try clear hfz32_2
         try clear hfz32_3
         try clear p2
         obtain ⟨kq, x13_41, rfl, HA, HJ41, HO_11, BK206, HB⟩ := hcut
         cases kq with
         | zero => exact absurd HA.out (by simp [epicyclelaw11_DftIs.j1])
         | succ kj41 =>
          have H := HA.out
          clear HA
          simp only [epicyclelaw11_DftIs.j1] at H
          by_cases c44 : x13_41 = 0
          ·rw [if_pos c44] at H
           have c44b0 := beq_iff_eq.mpr c44
           have c44b1 := bne_eq_false_iff_eq.mpr c44
           clear c44
           by_cases c45 : (l1.length : Int) > 40
           ·rw [if_pos c45] at H
            have c45b0 := decide_eq_true c45
            have c45b1 : decide (40 < l1.length) = true := decide_eq_true (by omega)
            clear c45
            by_cases c46 : t220 = 0
            ·rw [if_pos c46] at H
             have c46b0 := beq_iff_eq.mpr c46
             have c46b1 := bne_eq_false_iff_eq.mpr c46
             clear c46
             have hR_ := Option.some.inj H
             obtain ⟨Ao47, co47, eo47⟩ := Kd.R_slice HO_11.out
             subst eo47
             go_wp2
             go_ret
             exact ⟨by first | rfl | (simp [errW_none, errW_some] <;> rfl) | (simp [*, errW_none, errW_some] <;> rfl), bel_⟩
            ·rw [if_neg c46] at H
             have c46b0 := beq_eq_false_iff_ne.mpr c46
             have c46b1 := bne_iff_ne.mpr c46
             exact absurd H (by simp)
           ·rw [if_neg c45] at H
            have c45b0 := decide_eq_false c45
            have c45b1 : decide (40 < l1.length) = false := decide_eq_false (by omega)
            clear c45
            by_cases c48 : t220 = 0
            ·rw [if_pos c48] at H
             have c48b0 := beq_iff_eq.mpr c48
             have c48b1 := bne_eq_false_iff_eq.mpr c48
             clear c48
             replace H := Option.bind_eq_some_iff.mp H
             obtain ⟨t226, A490, H⟩ := H
             (try dsimp only at H)
             have A49 := Aside0.mk A490
             clear A490
             replace H := Option.bind_eq_some_iff.mp H
             obtain ⟨t229, A500, H⟩ := H
             (try dsimp only at H)
             have A50 := Aside0.mk A500
             clear A500
             have hR_ := Option.some.inj H
             go_wp2_with (first | (go_at_call 22; (with_reducible refine (epicycleref11_Run.calls kj41 t211 t212 _ _ l1 a2 t226 _ ?side1 ?side2 A49.out).mono ?_); (case side1 => repeat (first | exact (Kd.C_below HR1.out HB.out) | (with_reducible refine Kd.C_alloc ?_ _) | (with_reducible refine Kd.C_drewN ?_ _) | (with_reducible refine Kd.C_drew ?_))); (case side2 => exact HC1.out); rintro e w51 ⟨v227, rfl, ho0, hb⟩; have n0_ := Aside0.mk (Kd.R_elder' (by (with_reducible repeat (first | apply Kd.R_alloc | apply Kd.R_drewN | apply Kd.R_drew)); exact HO_11.out) (Kd.R_base ho0) hb); have n1_ := Aside0.mk (Kd.R_lower (Kd.R_new' ho0 (Kd.R_lt (by (with_reducible repeat (first | apply Kd.R_alloc | apply Kd.R_drewN | apply Kd.R_drew)); exact HO_11.out))) (below_size bel_)); have n2_ := Aside0.mk (blk_below (g := gb206) (o := .cells #[.int .i64 a0_0, .int .i64 a0_1, .int .u64 a0_2, .slice A0_3 l0_3.length c0_3] 25 (0, 0)) (by (with_reducible repeat (first | refine blk_drewN ?_ _ | refine blk_drew ?_ | refine blk_alloc ?_ _)); exact BK206.out) hb); have n3_ := Aside0.mk (below_step bel_ hb); clear HO_11; clear BK206; clear HB; have HO_11 := n0_; have HO228 := n1_; have BK206 := n2_; have HB := n3_; clear n0_ n1_ n2_ n3_; (try clear hb); (try clear hb2); (try clear hk); (try clear hi); (try clear ho0); obtain ⟨Ao52, co52, eo52⟩ := Kd.R_slice HO_11.out; subst eo52; obtain ⟨Ao53, co53, eo53⟩ := Kd.R_slice HO228.out; subst eo53) | (go_at_call 19; (with_reducible refine (epicyclelaw11_same.calls kj41 _ _ t219 _ _ t226 t229 _ ?side1 ?side2 ?side3 ?side4 A50.out).mono ?_); (case side1 => repeat (first | exact (Kd.R_reads' HO_11.out).2.2 | (with_reducible refine Kd.C_alloc ?_ _) | (with_reducible refine Kd.C_drewN ?_ _) | (with_reducible refine Kd.C_drew ?_))); (case side2 => exact (Kd.R_reads' HO_11.out).2.1); (case side3 => repeat (first | exact (Kd.R_reads' HO228.out).2.2 | (with_reducible refine Kd.C_alloc ?_ _) | (with_reducible refine Kd.C_drewN ?_ _) | (with_reducible refine Kd.C_drew ?_))); (case side4 => exact (Kd.R_reads' HO228.out).2.1); rintro e w' ⟨rfl, ⟨nd, rfl⟩⟩))
             go_ret
             exact ⟨by first | rfl | (simp [errW_none, errW_some] <;> rfl) | (simp [*, errW_none, errW_some] <;> rfl), bel_⟩
            ·rw [if_neg c48] at H
             have c48b0 := beq_eq_false_iff_ne.mpr c48
             have c48b1 := bne_iff_ne.mpr c48
             exact absurd H (by simp)
          ·rw [if_neg c44] at H
           have c44b0 := beq_eq_false_iff_ne.mpr c44
           have c44b1 := bne_iff_ne.mpr c44
           by_cases c54 : (t219.length : Int) = 0
           ·rw [if_pos c54] at H
            have c54b0 := beq_iff_eq.mpr c54
            have c54b1 := bne_eq_false_iff_eq.mpr c54
            clear c54
            have hR_ := Option.some.inj H
            obtain ⟨Ao55, co55, eo55⟩ := Kd.R_slice HO_11.out
            subst eo55
            go_wp2
            go_ret
            exact ⟨by first | rfl | (simp [errW_none, errW_some] <;> rfl) | (simp [*, errW_none, errW_some] <;> rfl), bel_⟩
           ·rw [if_neg c54] at H
            have c54b0 := beq_eq_false_iff_ne.mpr c54
            have c54b1 := bne_iff_ne.mpr c54
            have c54b2 : ¬ (t219 = []) := fun h_ => c54 (by rw [h_]; rfl)
            exact absurd H (by simp)
    ·replace c13 := Bool.eq_false_iff.mpr c13
     subst c13
     have H1 := H; rw [if_neg (show ¬ (false = true) by decide)] at H1
     clear H
     have H := H1
     clear H1
     exact absurd H (by simp)
   ·rw [if_neg c10] at H
    exact absurd H (by simp)
 ·replace c5 := Bool.eq_false_iff.mpr c5
  subst c5
  have H1 := H; rw [if_neg (show ¬ (false = true) by decide)] at H1
  clear H
  have H := H1
  clear H1
  exact absurd H (by simp)
end Go.Proofs.YtndkmnjbjlfeaaaGreat.XG
end
section
namespace Go.Proofs.YtndkmnjbjlfeaaaGreat.XG
open Go.RowKit Go.Proofs.YtndkmnjbjlfeaaaGreat.Given Go.Proofs.YtndkmnjbjlfeaaaGreat.Row05 Go.Proofs.YtndkmnjbjlfeaaaGreat.XS Go.Proofs.YtndkmnjbjlfeaaaGreat.XT Go.Proofs.YtndkmnjbjlfeaaaGreat.XR Go.Proofs.YtndkmnjbjlfeaaaGreat.F06 Go.Proofs.YtndkmnjbjlfeaaaGreat.XK Go.Proofs.YtndkmnjbjlfeaaaGreat.XW Go.Proofs.YtndkmnjbjlfeaaaGreatW.PrintWords Go.Proofs.YtndkmnjbjlfeaaaGreatW.PrintLast Go.Proofs.YtndkmnjbjlfeaaaGreatW.PrintMore
attribute [local go_sem] max2_int min2_int max_two min_two max_three min_three max_four min_four   -- for this text's walks alone
set_option linter.unusedVariables false
set_option linter.unusedSimpArgs false
end Go.Proofs.YtndkmnjbjlfeaaaGreat.XG
end
section
namespace Go.Proofs.YtndkmnjbjlfeaaaGreat.XG
open Go.RowKit Go.Proofs.YtndkmnjbjlfeaaaGreat.Given Go.Proofs.YtndkmnjbjlfeaaaGreat.Row05 Go.Proofs.YtndkmnjbjlfeaaaGreat.XS Go.Proofs.YtndkmnjbjlfeaaaGreat.XT Go.Proofs.YtndkmnjbjlfeaaaGreat.XR Go.Proofs.YtndkmnjbjlfeaaaGreat.F06 Go.Proofs.YtndkmnjbjlfeaaaGreat.XK Go.Proofs.YtndkmnjbjlfeaaaGreat.XW Go.Proofs.YtndkmnjbjlfeaaaGreatW.PrintWords Go.Proofs.YtndkmnjbjlfeaaaGreatW.PrintLast Go.Proofs.YtndkmnjbjlfeaaaGreatW.PrintMore
attribute [local go_sem] max2_int min2_int max_two min_two max_three min_three max_four min_four   -- for this text's walks alone
set_option linter.unusedVariables false
set_option linter.unusedSimpArgs false
end Go.Proofs.YtndkmnjbjlfeaaaGreat.XG
end
section
namespace Go.Proofs.YtndkmnjbjlfeaaaGreat.XG
open Go.RowKit Go.Proofs.YtndkmnjbjlfeaaaGreat.Given Go.Proofs.YtndkmnjbjlfeaaaGreat.Row05 Go.Proofs.YtndkmnjbjlfeaaaGreat.XS Go.Proofs.YtndkmnjbjlfeaaaGreat.XT Go.Proofs.YtndkmnjbjlfeaaaGreat.XR Go.Proofs.YtndkmnjbjlfeaaaGreat.F06 Go.Proofs.YtndkmnjbjlfeaaaGreat.XK Go.Proofs.YtndkmnjbjlfeaaaGreat.XW Go.Proofs.YtndkmnjbjlfeaaaGreatW.PrintWords Go.Proofs.YtndkmnjbjlfeaaaGreatW.PrintLast Go.Proofs.YtndkmnjbjlfeaaaGreatW.PrintMore
attribute [local go_sem] max2_int min2_int max_two min_two max_three min_three max_four min_four   -- for this text's walks alone
set_option linter.unusedVariables false
set_option linter.unusedSimpArgs false
end Go.Proofs.YtndkmnjbjlfeaaaGreat.XG
end
section
namespace Go.Proofs.YtndkmnjbjlfeaaaGreat.XG
open Go.RowKit Go.Proofs.YtndkmnjbjlfeaaaGreat.Given Go.Proofs.YtndkmnjbjlfeaaaGreat.Row05 Go.Proofs.YtndkmnjbjlfeaaaGreat.XS Go.Proofs.YtndkmnjbjlfeaaaGreat.XT Go.Proofs.YtndkmnjbjlfeaaaGreat.XR Go.Proofs.YtndkmnjbjlfeaaaGreat.F06 Go.Proofs.YtndkmnjbjlfeaaaGreat.XK Go.Proofs.YtndkmnjbjlfeaaaGreat.XW Go.Proofs.YtndkmnjbjlfeaaaGreatW.PrintWords Go.Proofs.YtndkmnjbjlfeaaaGreatW.PrintLast Go.Proofs.YtndkmnjbjlfeaaaGreatW.PrintMore
attribute [local go_sem] max2_int min2_int max_two min_two max_three min_three max_four min_four   -- for this text's walks alone
set_option linter.unusedVariables false
set_option linter.unusedSimpArgs false
end Go.Proofs.YtndkmnjbjlfeaaaGreat.XG
end
section
namespace Go.Proofs.YtndkmnjbjlfeaaaGreat.XG
open Go.RowKit Go.Proofs.YtndkmnjbjlfeaaaGreat.Given Go.Proofs.YtndkmnjbjlfeaaaGreat.Row05 Go.Proofs.YtndkmnjbjlfeaaaGreat.XS Go.Proofs.YtndkmnjbjlfeaaaGreat.XT Go.Proofs.YtndkmnjbjlfeaaaGreat.XR Go.Proofs.YtndkmnjbjlfeaaaGreat.F06 Go.Proofs.YtndkmnjbjlfeaaaGreat.XK Go.Proofs.YtndkmnjbjlfeaaaGreat.XW Go.Proofs.YtndkmnjbjlfeaaaGreatW.PrintWords Go.Proofs.YtndkmnjbjlfeaaaGreatW.PrintLast Go.Proofs.YtndkmnjbjlfeaaaGreatW.PrintMore
attribute [local go_sem] max2_int min2_int max_two min_two max_three min_three max_four min_four   -- for this text's walks alone
set_option linter.unusedVariables false
set_option linter.unusedSimpArgs false
end Go.Proofs.YtndkmnjbjlfeaaaGreat.XG
end
section
namespace Go.Proofs.YtndkmnjbjlfeaaaGreat.XG
open Go.RowKit Go.Proofs.YtndkmnjbjlfeaaaGreat.Given Go.Proofs.YtndkmnjbjlfeaaaGreat.Row05 Go.Proofs.YtndkmnjbjlfeaaaGreat.XS Go.Proofs.YtndkmnjbjlfeaaaGreat.XT Go.Proofs.YtndkmnjbjlfeaaaGreat.XR Go.Proofs.YtndkmnjbjlfeaaaGreat.F06 Go.Proofs.YtndkmnjbjlfeaaaGreat.XK Go.Proofs.YtndkmnjbjlfeaaaGreat.XW Go.Proofs.YtndkmnjbjlfeaaaGreatW.PrintWords Go.Proofs.YtndkmnjbjlfeaaaGreatW.PrintLast Go.Proofs.YtndkmnjbjlfeaaaGreatW.PrintMore
attribute [local go_sem] max2_int min2_int max_two min_two max_three min_three max_four min_four   -- for this text's walks alone
set_option linter.unusedVariables false
set_option linter.unusedSimpArgs false
end Go.Proofs.YtndkmnjbjlfeaaaGreat.XG
end
