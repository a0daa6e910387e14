/- Layer 4: what the program's side comes to: whole, right, Check. -/
import Derived.Test.YtcnnaciilphadaaEv04
namespace Go.Proofs.Ytcnnaciilphadaa.XP
open Go Go.RowKit Go.Proofs.YtcnnaciilphadaaW.PrintWords Go.Proofs.YtcnnaciilphadaaW.PrintLast Go.Proofs.YtcnnaciilphadaaW.PrintMore Go.Proofs.Ytcnnaciilphadaa.Given Go.Proofs.Ytcnnaciilphadaa.Given04 Go.Proofs.Ytcnnaciilphadaa.M Go.Proofs.Ytcnnaciilphadaa.Mont

/-- A row of factors is all of P - 1's, and can be. -/
def wholeS (A : Int → Bool) (P : Int) : List (Int × Int) → Bool
  | [] => false
  | x :: t => (decide ((x :: t).length ≤ 16) && (x.1 == 2)) && (decide (1 ≤ x.2) && decide (x.2 ≤ 62)) && wr A (P - 1) 2 t (2 ^ x.2.toNat)

theorem wholeS_cons {A : Int → Bool} {P : Int} {x : Int × Int} {t : List (Int × Int)} : wholeS A P (x :: t) = ((decide ((x :: t).length ≤ 16) && (x.1 == 2)) && (decide (1 ≤ x.2) && decide (x.2 ≤ 62)) && wr A (P - 1) 2 t (2 ^ x.2.toNat)) := rfl

theorem ft : ¬ (false = true) := Bool.false_ne_true

section
variable {ahead : List S54} {F : List S59} {P G : Int}

theorem whole_j0t : Ev (fun k => proof_whole.j0 k ahead true P G F) false :=
  Ev.step (f := fun _ => some false) (fun k => by simp [proof_whole.j0]) (Ev.now _)

theorem whole_ev (hok : okL (F.map p59)) (hP : 1 ≤ P) (hP2 : P < 18446744073709551616) : Ev (fun k => proof_whole.f k ahead P G F) (wholeS (hasP ahead) P (F.map p59)) := by
  match F, hok with
  | [], _ =>
    refine Ev.congr (fun k => ?_) (whole_j0t (ahead := ahead) (F := []) (P := P) (G := G))
    unfold proof_whole.f
    rw [if_pos (by simp)]
  | x :: t, hok =>
    obtain ⟨F, hF⟩ : ∃ F, F = x :: t := ⟨_, rfl⟩
    have hlen : F.length = t.length + 1 := by rw [hF]; rfl
    by_cases h16 : F.length > 16
    · have e : wholeS (hasP ahead) P ((x :: t).map p59) = false := by
        have : ¬ ((x :: t).map p59).length ≤ 16 := by rw [← hF]; simp; omega
        rw [List.map_cons] at this ⊢
        rw [wholeS_cons, decide_eq_false this]
        simp
      rw [e, ← hF]
      have p : (F.length : Int) > 16 := by omega
      have p' : ¬ (F.length : Int) = 0 := by omega
      refine Ev.congr (fun k => ?_) (whole_j0t (ahead := ahead) (F := F) (P := P) (G := G))
      unfold proof_whole.f
      rw [if_neg p', if_pos p]
    have p : ¬ (F.length : Int) > 16 := by omega
    have p' : ¬ (F.length : Int) = 0 := by omega
    have p0 : 0 < (F.length : Int) := by omega
    have p16 : F.length ≤ 16 := by omega
    have l16 : ((x :: t).map p59).length ≤ 16 := by rw [← hF]; simpa using p16
    have h0 : rd_T59 F 0 = x := by rw [hF]; rfl
    have hxo : okP (p59 x) := hok _ (by simp)
    have ux : U x.f0 := hxo.1
    have hok' : okL (F.map p59) := by rw [hF]; exact hok
    clear hlen
    by_cases h2 : x.f0 = 2
    · have L0 : Ev (fun k => proof_whole.l0 k ahead 1 F (F.length : Int) 0 P G F) (wholeS (hasP ahead) P ((x :: t).map p59)) := by
        by_cases h1 : x.f1 < 1
        · have e : wholeS (hasP ahead) P ((x :: t).map p59) = false := by
            rw [List.map_cons, wholeS_cons, decide_eq_false (show ¬ 1 ≤ (p59 x).2 by show ¬ 1 ≤ x.f1; omega)]; simp
          rw [e]
          refine Ev.step (fun k => ?_) (whole_j2t (ahead := ahead) (F := F) (P := P) (G := G) (n := 1) (i := 0) (len := (F.length : Int)) (i2 := 0) (Q := x.f0) (E := x.f1))
          simp only [proof_whole.l0]
          rw [if_pos p0, if_pos (Int.le_refl 0), if_pos p0, h0, if_pos h1]
        by_cases h3 : x.f1 > 62
        · have e : wholeS (hasP ahead) P ((x :: t).map p59) = false := by
            rw [List.map_cons, wholeS_cons, decide_eq_false (show ¬ (p59 x).2 ≤ 62 by show ¬ x.f1 ≤ 62; omega)]; simp
          rw [e]
          refine Ev.step (fun k => ?_) (whole_j2t (ahead := ahead) (F := F) (P := P) (G := G) (n := 1) (i := 0) (len := (F.length : Int)) (i2 := 0) (Q := x.f0) (E := x.f1))
          simp only [proof_whole.l0]
          rw [if_pos p0, if_pos (Int.le_refl 0), if_pos p0, h0, if_neg h1, decide_eq_true h3]
        have hm : P - 1 < 18446744073709551616 := by omega
        have e1 : 1 ≤ x.f1 := by omega
        have e2 : x.f1 ≤ 62 := by omega
        have e3 : (0 : Int) + (x.f1.toNat : Nat) = x.f1 := by omega
        have q2 : 2 ≤ x.f0 := by omega
        have w2 : wrap64 ((0 : Int) + 1) = ((1 : Nat) : Int) := by rw [w64_id _ (by omega) (by omega)]; rfl
        have hd : F.drop 1 = t := by rw [hF]; rfl
        have hr : (rd_T59 F ((1 - 1 : Nat) : Int)).f0 = x.f0 := by rw [← h0]; rfl
        have L1 := whole_l1 (ahead := ahead) (F := F) (P := P) (G := G) (len := (F.length : Int)) (i := 0) (Q := x.f0) (E := x.f1) (l := t.map p59) hm q2 ux e1 e2
          (fun n n1 un => by rw [w2]; exact whole_l0 p16 hok' hP hP2 rfl t 1 x.f0 n hd (Nat.le_refl 1) hr q2 n1 un) x.f1.toNat 0 1 (Int.le_refl 0) e3 (Int.le_refl 1) (by unfold U; omega)
        have e : wholeS (hasP ahead) P ((x :: t).map p59) = wr (hasP ahead) (P - 1) x.f0 (t.map p59) (1 * x.f0 ^ x.f1.toNat) := by
          rw [List.map_cons] at l16 ⊢
          rw [wholeS_cons, decide_eq_true l16]
          simp [p59, h2, e1, e2]
        rw [e]
        refine Ev.step (f := fun k => proof_whole.j2 k ahead 1 0 F (F.length : Int) 0 false P G F x.f0 x.f1) (fun k => ?_) (Ev.step (f := fun k => proof_whole.j3 k ahead 1 F (F.length : Int) 0 false P G F x.f0 x.f1) (fun k => ?_) (Ev.step (fun k => ?_) L1))
        · simp only [proof_whole.l0]
          rw [if_pos p0, if_pos (Int.le_refl 0), if_pos p0, h0, if_neg h1, decide_eq_false h3]
        · simp only [proof_whole.j2]
          rw [if_neg ft, if_neg (Int.lt_irrefl 0)]
        · simp only [proof_whole.j3]
          rw [if_neg ft]
      rw [hF] at L0 p p' p0 h0
      refine Ev.congr (fun k => ?_) (Ev.step (g := fun k => proof_whole.j0 k ahead false P G (x :: t)) (fun k => ?_) L0)
      · unfold proof_whole.f
        rw [if_neg p', if_neg p, if_pos p0, h0, h2]
        rfl
      · simp only [proof_whole.j0]
        rw [if_neg ft]
    · have e : wholeS (hasP ahead) P ((x :: t).map p59) = false := by
        rw [List.map_cons, wholeS_cons, show ((p59 x).1 == 2) = false from beq_eq_false_iff_ne.mpr h2]; simp
      rw [e, ← hF]
      refine Ev.congr (fun k => ?_) (whole_j0t (ahead := ahead) (F := F) (P := P) (G := G))
      unfold proof_whole.f
      rw [if_neg p', if_neg p, if_pos p0, h0, show (x.f0 != 2) = true by simp [bne, h2]]

/-! #### right -/

/-- P - 1 is the least power of G that is 1. -/
def fullS (P G : Int) (l : List (Int × Int)) : Bool := (G ^ (P - 1).toNat % P == 1) && !(l.any fun x => G ^ ((P - 1) / x.1).toNat % P == 1)

def fits (P G : Int) : Prop := P % 2 = 1 ∧ 3 ≤ P ∧ P < 9223372036854775808 ∧ 2 ≤ G ∧ G < P
instance : Decidable (fits P G) := by unfold fits; infer_instance

/-- An entry is right, behind those ahead of it: A tells whether a prime is claimed there, prev is the last one's P. -/
def rightS (A : Int → Bool) (prev : Option Int) (P G : Int) (l : List (Int × Int)) : Bool :=
  (decide (fits P G) && (match prev with | none => true | some q => decide (q < P))) && (wholeS A P l && fullS P G l)

theorem wr_two {A : Int → Bool} {m : Int} : ∀ (l : List (Int × Int)) (q n : Int), 2 ≤ q → wr A m q l n = true → ∀ x ∈ l, 2 ≤ x.1
  | [], _, _, _, _ => by simp
  | y :: l, q, n, hq, h => by
    unfold wr at h
    simp only [Bool.and_eq_true, decide_eq_true_eq] at h
    obtain ⟨⟨_, h2, _⟩, h3⟩ := h
    intro x hx
    rcases List.mem_cons.1 hx with rfl | hx
    · omega
    · exact wr_two l y.1 _ (by omega) h3 x hx

theorem wholeS_two {A : Int → Bool} {P : Int} {l : List (Int × Int)} (h : wholeS A P l = true) : ∀ x ∈ l, 2 ≤ x.1 := by
  match l, h with
  | y :: t, h =>
    unfold wholeS at h
    simp only [Bool.and_eq_true, decide_eq_true_eq, beq_iff_eq] at h
    obtain ⟨⟨⟨_, h2⟩, _⟩, h3⟩ := h
    intro x hx
    rcases List.mem_cons.1 hx with rfl | hx
    · omega
    · exact wr_two t 2 _ (by omega) h3 x hx

theorem full_eq (hf : fits P G) (hw : wholeS (hasP ahead) P (F.map p59) = true) (hok : okL (F.map p59)) : proof_full.f P G F = some (fullS P G (F.map p59)) := by
  unfold proof_full.f
  rw [if_pos]
  · unfold fullS
    rw [List.any_map]
    rfl
  · unfold fits at hf
    refine ⟨⟨hf.1, hf.2.1, hf.2.2.1⟩, by unfold U; omega, fun x hx => ?_⟩
    have h2 := wholeS_two hw (p59 x) (List.mem_map_of_mem hx)
    have hx2 : 2 ≤ x.f0 := h2
    exact ⟨by omega, (hok (p59 x) (List.mem_map_of_mem hx)).1⟩

theorem right_j0t : Ev (fun k => proof_right.j0 k ahead true P G F) false :=
  Ev.step (f := fun _ => some false) (fun k => by simp [proof_right.j0]) (Ev.now _)
theorem right_j1t : Ev (fun k => proof_right.j1 k ahead true P G F) false :=
  Ev.step (f := fun _ => some false) (fun k => by simp [proof_right.j1]) (Ev.now _)

/-- The last one's P. -/
def lastP (l : List S54) : Option Int := l.getLast?.map fun e => e.f0

theorem last_rd {l : List S54} (h : l ≠ []) : lastP l = some (rd_T54 l ((l.length - 1 : Nat) : Int)).f0 := by
  unfold lastP rd_T54
  have hlt : l.length - 1 < l.length := by have := List.length_pos_iff.2 h; omega
  rw [List.getLast?_eq_getElem?, List.getElem?_eq_getElem hlt]
  simp [List.getD, List.getElem?_eq_getElem hlt]

theorem right_ev (hok : okL (F.map p59)) (uP : U P) (hl : ahead.length ≤ 1000) : Ev (fun k => proof_right.f k ahead P G F) (rightS (hasP ahead) (lastP ahead) P G (F.map p59)) := by
  by_cases hf : fits P G
  · -- the last one's check
    have hP1 : 1 ≤ P := by unfold fits at hf; omega
    have hb : Ev (fun k => proof_right.j1 k ahead false P G F) (wholeS (hasP ahead) P (F.map p59) && fullS P G (F.map p59)) := by
      have hw := whole_ev (ahead := ahead) (F := F) (P := P) (G := G) hok hP1 uP.2
      cases h : wholeS (hasP ahead) P (F.map p59) with
      | false =>
        rw [h] at hw
        refine Ev.step (f := fun k => (proof_whole.f k ahead P G F).bind fun t111 => (if t111 = true then ((proof_full.f P G F).bind fun t112 => (some t112)) else (some false))) (fun k => ?_) (Ev.bind hw ?_)
        · simp only [proof_right.j1]; rw [if_neg ft]
        · exact evN ft (Ev.now _)
      | true =>
        have e := full_eq (ahead := ahead) hf h hok
        rw [h] at hw
        rw [Bool.true_and]
        refine Ev.step (f := fun k => (proof_whole.f k ahead P G F).bind fun t111 => (if t111 = true then ((proof_full.f P G F).bind fun t112 => (some t112)) else (some false))) (fun k => ?_) (Ev.bind hw ?_)
        · simp only [proof_right.j1]; rw [if_neg ft]
        · refine evP rfl ?_
          rw [e]
          exact Ev.now _
    have hj : Ev (fun k => proof_right.j0 k ahead false P G F) (rightS (hasP ahead) (lastP ahead) P G (F.map p59)) := by
      unfold rightS
      rw [decide_eq_true hf, Bool.true_and]
      by_cases hz : ahead = []
      · have hl0 : ¬ (ahead.length : Int) > 0 := by rw [hz]; simp
        have : lastP ahead = none := by rw [hz]; rfl
        rw [this, Bool.true_and]
        refine Ev.step (fun k => ?_) hb
        simp only [proof_right.j0]
        rw [if_neg ft, if_neg hl0]
      · have hp := List.length_pos_iff.2 hz
        have q0 : (ahead.length : Int) > 0 := by omega
        have w : wrap64 ((ahead.length : Int) - 1) = ((ahead.length - 1 : Nat) : Int) := by rw [w64_id _ (by omega) (by omega)]; omega
        have q1 : 0 ≤ ((ahead.length - 1 : Nat) : Int) := by omega
        have q2 : ((ahead.length - 1 : Nat) : Int) < (ahead.length : Int) := by omega
        rw [last_rd hz]
        by_cases c : (rd_T54 ahead ((ahead.length - 1 : Nat) : Int)).f0 ≥ P
        · rw [show (match some (rd_T54 ahead ((ahead.length - 1 : Nat) : Int)).f0 with | none => true | some q => decide (q < P)) = false from decide_eq_false (by omega), Bool.false_and]
          refine Ev.step (fun k => ?_) (right_j1t (ahead := ahead) (F := F) (P := P) (G := G))
          simp only [proof_right.j0]
          rw [if_neg ft, if_pos q0, w, if_pos q1, if_pos q2, decide_eq_true c]
        · rw [show (match some (rd_T54 ahead ((ahead.length - 1 : Nat) : Int)).f0 with | none => true | some q => decide (q < P)) = true from decide_eq_true (by omega), Bool.true_and]
          refine Ev.step (fun k => ?_) hb
          simp only [proof_right.j0]
          rw [if_neg ft, if_pos q0, w, if_pos q1, if_pos q2, decide_eq_false c]
    refine Ev.congr (fun k => ?_) hj
    unfold fits at hf
    have c1 : ¬ P % 2 = 0 := by omega
    have c2 : ¬ P < 3 := by omega
    have c3 : ¬ P ≥ 9223372036854775808 := by omega
    have c4 : ¬ G < 2 := by omega
    have c5 : ¬ G ≥ P := by omega
    unfold proof_right.f
    rw [and1 P uP, if_neg c1, if_neg c2, if_neg c3, if_neg c4, decide_eq_false c5]
  · have e : rightS (hasP ahead) (lastP ahead) P G (F.map p59) = false := by
      unfold rightS; rw [decide_eq_false hf, Bool.false_and, Bool.false_and]
    rw [e]
    refine Ev.congr (fun k => ?_) (right_j0t (ahead := ahead) (F := F) (P := P) (G := G))
    unfold proof_right.f
    rw [and1 P uP]
    by_cases c1 : P % 2 = 0
    · rw [if_pos c1]
    by_cases c2 : P < 3
    · rw [if_neg c1, if_pos c2]
    by_cases c3 : P ≥ 9223372036854775808
    · rw [if_neg c1, if_neg c2, if_pos c3]
    by_cases c4 : G < 2
    · rw [if_neg c1, if_neg c2, if_neg c3, if_pos c4]
    have c5 : G ≥ P := by unfold fits at hf; omega
    rw [if_neg c1, if_neg c2, if_neg c3, if_neg c4, decide_eq_true c5]
end

/-! #### Check -/

/-- The first place that isn't right. -/
def firstBad (r : Nat → Bool) : Nat → Nat → Int × Int
  | 0, _ => (0, 0)
  | d + 1, i => if r i then firstBad r d (i + 1) else ((i : Int), 3)

/-- A row of triples. -/
def Row := List (Int × Int × List (Int × Int))
def tri (e : S54) : Int × Int × List (Int × Int) := (e.f0, e.f1, e.f2.map p59)

def okE (e : Int × Int × List (Int × Int)) : Prop := U e.1 ∧ U e.2.1 ∧ okL e.2.2

/-- The i-th entry is right. -/
def rightAt (L : List (Int × Int × List (Int × Int))) (i : Nat) : Bool :=
  match L[i]? with
  | none => false
  | some e => rightS (fun q => (L.take i).any fun a => a.1 == q) ((L.take i).getLast?.map fun a => a.1) e.1 e.2.1 e.2.2

theorem hasP_tri (l : List S54) : hasP l = fun q => (l.map tri).any fun a => a.1 == q := by
  funext q
  unfold hasP
  rw [List.any_map]
  rfl
theorem lastP_tri (l : List S54) : lastP l = (l.map tri).getLast?.map fun a => a.1 := by
  unfold lastP
  rw [List.getLast?_map, Option.map_map]
  rfl

theorem check_l0 (L : List S54) (hok : ∀ e ∈ L.map tri, okE e) (hl : L.length ≤ 1000) : ∀ (d i : Nat), i + d = L.length → Ev (fun k => proof_Check.l0 k L L (L.length : Int) i) (firstBad (rightAt (L.map tri)) d i) := by
  intro d
  induction d with
  | zero =>
    intro i hi
    refine Ev.step (f := fun _ => some (0, 0)) (fun k => ?_) (Ev.now _)
    simp only [proof_Check.l0]
    rw [if_neg (by omega)]
  | succ d ih =>
    intro i hi
    have hlt : i < L.length := by omega
    have q1 : (i : Int) < (L.length : Int) := by omega
    have q2 : 0 ≤ (i : Int) := by omega
    have q3 : (i : Int) ≤ (L.length : Int) := by omega
    have w : wrap64 ((i : Int) + 1) = ((i + 1 : Nat) : Int) := by rw [w64_id _ (by omega) (by omega)]; omega
    have hrd : rd_T54 L (i : Int) = L[i] := by unfold rd_T54; simp [List.getD, List.getElem?_eq_getElem hlt]
    have hmem : tri L[i] ∈ L.map tri := List.mem_map_of_mem (List.getElem_mem hlt)
    have ho := hok _ hmem
    have E := right_ev (ahead := L.take i) (F := L[i].f2) (P := L[i].f0) (G := L[i].f1) ho.2.2 ho.1 (by simp; omega)
    have hr : rightS (hasP (L.take i)) (lastP (L.take i)) L[i].f0 L[i].f1 (L[i].f2.map p59) = rightAt (L.map tri) i := by
      unfold rightAt
      rw [List.getElem?_map, List.getElem?_eq_getElem hlt, Option.map_some, hasP_tri, lastP_tri, List.map_take]
      rfl
    rw [hr] at E
    have IH := ih (i + 1) (by omega)
    refine Ev.step (f := fun k => (proof_right.f k (L.take i) L[i].f0 L[i].f1 L[i].f2).bind fun t119 => (if t119 = true then (proof_Check.l0 k L L (L.length : Int) ((i + 1 : Nat) : Int)) else (some ((i : Int), 3)))) (fun k => ?_) (Ev.bind E ?_)
    · simp only [proof_Check.l0]
      rw [if_pos q1, if_pos q2, if_pos q1, if_pos q3, hrd, w, Int.toNat_natCast]
    · unfold firstBad
      cases rightAt (L.map tri) i with
      | true => exact evP rfl IH
      | false => exact evN ft (Ev.now _)

/-- What Check answers. -/
def checkS (L : List (Int × Int × List (Int × Int))) : Int × Int := if (L.length : Int) > 32 then (0, 13) else firstBad (rightAt L) L.length 0

theorem check_ev (L : List S54) (hok : ∀ e ∈ L.map tri, okE e) : Ev (fun k => proof_Check.f k L) (checkS (L.map tri)) := by
  unfold checkS
  rw [List.length_map]
  by_cases h : (L.length : Int) > 32
  · rw [if_pos h]
    refine Ev.congr (fun k => ?_) (Ev.now _)
    unfold proof_Check.f
    rw [if_pos h]
  · rw [if_neg h]
    refine Ev.congr (fun k => ?_) (check_l0 L hok (by omega) L.length 0 (by omega))
    unfold proof_Check.f
    rw [if_neg h]
    rfl

end Go.Proofs.Ytcnnaciilphadaa.XP
