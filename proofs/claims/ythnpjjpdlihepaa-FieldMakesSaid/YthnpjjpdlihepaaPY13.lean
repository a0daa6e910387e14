/- Parts of this claim's texts, packed by wip/tools/prune.py: what the proof does not reach is left out. -/
import Derived.Test.YthnpjjpdlihepaaPY12
section
namespace Go.Proofs.Ythnpjjpdlihepaa.XR
open Go.Proofs.Ythnpjjpdlihepaa.XS Go.Proofs.Ythnpjjpdlihepaa.XT
open Go Go.RowKit Go.Proofs.YthnpjjpdlihepaaW.PrintWords Go.Proofs.YthnpjjpdlihepaaW.PrintLast Go.Proofs.YthnpjjpdlihepaaW.PrintMore Go.Proofs.Ythnpjjpdlihepaa.Given Go.Proofs.Ythnpjjpdlihepaa.Given04 Go.Proofs.Ythnpjjpdlihepaa.M Go.Proofs.Ythnpjjpdlihepaa.Mont
section
variable {L : List S52} {a : Nat} {P G : Int} {F : List S89}
theorem rr_j1t {x1 : Int} : Ev (fun k => epicycleref04_Right.j1 k L x1 true P G F) false :=
  Ev.step (f := fun _ => some false) (fun k => by simp [epicycleref04_Right.j1]) (Ev.now _)
theorem rr_j3t {x1 x6 : Int} : Ev (fun k => epicycleref04_Right.j3 k L x1 x6 true P G F) false :=
  Ev.step (f := fun _ => some false) (fun k => by simp [epicycleref04_Right.j3]) (Ev.now _)
theorem rr_j4t : Ev (fun k => epicycleref04_Right.j4 k true P G F) false :=
  Ev.step (f := fun _ => some false) (fun k => by simp [epicycleref04_Right.j4]) (Ev.now _)
theorem rr_j0t {x1 : Int} : Ev (fun k => epicycleref04_Right.j0 k L x1 true P G F) false :=
  Ev.step (f := fun _ => some false) (fun k => by simp [epicycleref04_Right.j0]) (Ev.now _)
theorem rr_l1 (uP : U P) (uG : U G) (hP : 3 ≤ P) (h16 : F.length ≤ 16) (hok : okL (F.map p60)) (h2 : ∀ x ∈ F.map p60, 2 ≤ x.1) (l : List S89) : ∀ i : Nat, F.drop i = l →
    Ev (fun k => epicycleref04_Right.l1 k F (F.length : Int) i P G F) (!((l.map p60).any fun x => G ^ ((P - 1) / x.1).toNat % P == 1)) := by
  induction l with
  | nil =>
    intro i hd
    have : F.length ≤ i := by have := congrArg List.length hd; simp at this; omega
    have c : ¬ (i : Int) < (F.length : Int) := by omega
    refine Ev.step (f := fun _ => some true) (fun k => ?_) (Ev.now _)
    simp only [epicycleref04_Right.l1]
    rw [if_neg c]
  | cons x l ih =>
    intro i hd
    obtain ⟨hx, hlt, hd'⟩ := rd60_drop hd
    have hxm : p60 x ∈ F.map p60 := List.mem_map_of_mem (List.mem_of_mem_drop (show x ∈ F.drop i by rw [hd]; exact List.mem_cons_self))
    have hx2 : 2 ≤ x.f0 := h2 _ hxm
    have ux : U x.f0 := (hok _ hxm).1
    have c : (i : Int) < (F.length : Int) := by omega
    have c0 : 0 ≤ (i : Int) := by omega
    have cz : ¬ x.f0 = 0 := by omega
    have w : wrap64 ((i : Int) + 1) = ((i + 1 : Nat) : Int) := by rw [w64_id _ (by omega) (by omega)]; omega
    have wp : IntKind.u64.wrap (P - 1) = P - 1 := wu64_id _ (by omega) (by have := uP.2; omega)
    have hq0 : 0 ≤ (P - 1) / x.f0 := Int.ediv_nonneg (by omega) (by omega)
    have hq1 : (P - 1) / x.f0 ≤ P - 1 := Int.ediv_le_self _ (by omega)
    have hq2 : (P - 1) / x.f0 < 18446744073709551616 := by have := uP.2; omega
    have wd : IntKind.u64.wrap (Int.tdiv (P - 1) x.f0) = (P - 1) / x.f0 := by rw [tdiv_pos (by omega), wu64_id _ hq0 hq2]
    have hp := ref02_Pow_ev uG ⟨hq0, hq2⟩ uP (show P ≠ 0 by omega)
    have IH := ih (i + 1) hd'
    rw [List.map_cons, List.any_cons]
    have hg : G ^ ((P - 1) / (p60 x).1).toNat % P = G ^ ((P - 1) / x.f0).toNat % P := rfl
    rw [hg]
    by_cases h : G ^ ((P - 1) / x.f0).toNat % P = 1
    · rw [h, show ((1 : Int) == 1) = true from rfl, Bool.true_or]
      rw [h] at hp
      refine Ev.step (f := fun k => (epicycleref02_Pow.f k G ((P - 1) / x.f0) P).bind fun t177 => (if t177 = 1 then (some false) else (epicycleref04_Right.l1 k F (F.length : Int) ((i + 1 : Nat) : Int) P G F))) (fun k => ?_) (Ev.bind hp ?_)
      · simp only [epicycleref04_Right.l1]
        rw [if_pos c, if_pos c0, if_pos c, hx, if_neg cz, wp, wd, w]
      · exact evP rfl (Ev.now _)
    · rw [beq_eq_false_iff_ne.mpr h, Bool.false_or]
      refine Ev.step (f := fun k => (epicycleref02_Pow.f k G ((P - 1) / x.f0) P).bind fun t177 => (if t177 = 1 then (some false) else (epicycleref04_Right.l1 k F (F.length : Int) ((i + 1 : Nat) : Int) P G F))) (fun k => ?_) (Ev.bind hp ?_)
      · simp only [epicycleref04_Right.l1]
        rw [if_pos c, if_pos c0, if_pos c, hx, if_neg cz, wp, wd, w]
      · exact evN h IH
theorem prodS_two {m : Int} : ∀ (l : List (Int × Int)) (n : Int), (prodS m l n).2 = true → ∀ x ∈ l, 2 ≤ x.1
  | [], _, _ => by simp
  | y :: l, n, h => by
    unfold prodS at h
    by_cases c : y.2 < 1 ∨ y.2 > 62 ∨ y.1 < 2
    · rw [if_pos c] at h; exact absurd h ft
    rw [if_neg c] at h
    by_cases c2 : n * y.1 ^ y.2.toNat > m
    · rw [if_pos c2] at h; exact absurd h ft
    rw [if_neg c2] at h
    intro x hx
    rcases List.mem_cons.1 hx with rfl | hx
    · omega
    · exact prodS_two l _ h x hx
def tailS (P G : Int) (l : List (Int × Int)) : Bool := (prodS (P - 1) l 1 == (P - 1, true)) && (decide (2 ≤ G ∧ G < P) && fullS P G l)
theorem rr_tail {x1 : Int} (uP : U P) (uG : U G) (hP : 3 ≤ P) (h16 : F.length ≤ 16) (hok : okL (F.map p60)) : Ev (fun k => epicycleref04_Right.l0 k L x1 (F.length : Int) P G F) (tailS P G (F.map p60)) := by
  have wp : IntKind.u64.wrap (P - 1) = P - 1 := wu64_id _ (by omega) (by have := uP.2; omega)
  have um : U (P - 1) := by unfold U at *; omega
  have m1 : 1 ≤ P - 1 := by omega
  have hpr := prod_ev (L := F) um m1 (by omega)
  have hz : P ≠ 0 := by omega
  have hpw := ref02_Pow_ev uG um uP hz
  refine Ev.step (f := fun k => (epicycleref04_Product.f k F (P - 1)).bind fun bt172 => (if bt172.2 = true then (if bt172.1 = P - 1 then (if G < 2 then (epicycleref04_Right.j4 k true P G F) else (if G ≥ P then (epicycleref04_Right.j4 k true P G F) else ((epicycleref02_Pow.f k G (P - 1) P).bind fun t174 => (epicycleref04_Right.j4 k (t174 != 1) P G F)))) else (epicycleref04_Right.j4 k true P G F)) else (epicycleref04_Right.j4 k true P G F))) (fun k => ?_) (Ev.bind hpr ?_)
  · simp only [epicycleref04_Right.l0]
    rw [if_neg (Int.lt_irrefl _), wp]
  unfold tailS
  have h2 := prodS_two (m := P - 1) (F.map p60) 1
  generalize prodS (P - 1) (F.map p60) 1 = R at *
  obtain ⟨n, b⟩ := R
  cases b with
  | false =>
    have e : ((n, false) == (P - 1, true)) = false := beq_eq_false_iff_ne.mpr (fun e => ft (congrArg Prod.snd e))
    rw [e, Bool.false_and]
    exact evN ft rr_j4t
  | true =>
    refine evP rfl ?_
    by_cases hn : n = P - 1
    · subst hn
      rw [show ((P - 1, true) == (P - 1, true)) = true from beq_self_eq_true _, Bool.true_and]
      refine evP rfl ?_
      by_cases c1 : G < 2
      · have : ¬ (2 ≤ G ∧ G < P) := by omega
        rw [decide_eq_false this, Bool.false_and]
        exact evP c1 rr_j4t
      refine evN c1 ?_
      by_cases c2 : G ≥ P
      · have : ¬ (2 ≤ G ∧ G < P) := by omega
        rw [decide_eq_false this, Bool.false_and]
        exact evP c2 rr_j4t
      have c3 : 2 ≤ G ∧ G < P := by omega
      refine evN c2 ?_
      rw [decide_eq_true c3, Bool.true_and]
      refine Ev.bind hpw ?_
      unfold fullS
      by_cases c4 : G ^ (P - 1).toNat % P = 1
      · rw [c4, show ((1 : Int) == 1) = true from rfl, Bool.true_and]
        refine Ev.step (f := fun k => epicycleref04_Right.l1 k F (F.length : Int) 0 P G F) (fun k => ?_) (rr_l1 uP uG hP h16 hok (h2 rfl) F 0 rfl)
        simp only [epicycleref04_Right.j4]
        rw [if_neg (show ¬ ((1 : Int) != 1) = true by decide)]
      · rw [beq_eq_false_iff_ne.mpr c4, Bool.false_and, show (G ^ (P - 1).toNat % P != 1) = true by rw [bne, beq_eq_false_iff_ne.mpr c4]; rfl]
        exact rr_j4t
    · have e : ((n, true) == (P - 1, true)) = false := beq_eq_false_iff_ne.mpr (fun e => hn (congrArg Prod.fst e))
      rw [e, Bool.false_and]
      exact evN hn rr_j4t
theorem rr_l0 (ha : a ≤ L.length) (hL : L.length ≤ 1000) (uP : U P) (uG : U G) (hP : 3 ≤ P) (h16 : F.length ≤ 16) (hok : okL (F.map p60)) (l : List S89) : ∀ (i : Nat) (q : Int), F.drop i = l → 1 ≤ i → i ≤ F.length → (rd_T89 F ((i - 1 : Nat) : Int)).f0 = q →
    Ev (fun k => epicycleref04_Right.l0 k L (a : Int) i P G F) (chainS (has46 (L.take a)) q (l.map p60) && tailS P G (F.map p60)) := by
  induction l with
  | nil =>
    intro i q hd i1 il hq
    have : F.length ≤ i := by have := congrArg List.length hd; simp at this; omega
    have e : i = F.length := by omega
    subst e
    rw [List.map_nil, chainS, Bool.true_and]
    exact rr_tail uP uG hP h16 hok
  | cons x l ih =>
    intro i q hd i1 il hq
    obtain ⟨hx, hlt, hd'⟩ := rd60_drop hd
    have c : (i : Int) < (F.length : Int) := by omega
    have c0 : 0 ≤ (i : Int) := by omega
    have w1 : wrap64 ((i : Int) - 1) = ((i - 1 : Nat) : Int) := by rw [w64_id _ (by omega) (by omega)]; omega
    have p1 : 0 ≤ ((i - 1 : Nat) : Int) := by omega
    have p2 : ((i - 1 : Nat) : Int) < (F.length : Int) := by omega
    have w : wrap64 ((i : Int) + 1) = ((i + 1 : Nat) : Int) := by rw [w64_id _ (by omega) (by omega)]; omega
    have a0 : 0 ≤ (a : Int) := by omega
    have a1 : (a : Int) ≤ (L.length : Int) := by omega
    have lt : (L.take a).length ≤ 1000 := by simp; omega
    rw [List.map_cons, chainS]
    by_cases h3 : x.f0 ≤ q
    · have n3 : ¬ q < (p60 x).1 := by show ¬ q < x.f0; omega
      rw [decide_eq_false n3, Bool.false_and, Bool.false_and, Bool.false_and]
      refine Ev.step (fun k => ?_) (rr_j3t (L := L) (x1 := (a : Int)) (x6 := (i : Int)) (P := P) (G := G) (F := F))
      simp only [epicycleref04_Right.l0]
      rw [if_pos c, if_pos c0, w1, if_pos p1, if_pos p2, hx, hq, if_pos h3]
    have n3 : q < (p60 x).1 := by show q < x.f0; omega
    have hc := claimed_ev (L := L.take a) x.f0 lt
    have E : ∀ k, epicycleref04_Right.l0 (k + 1) L (a : Int) i P G F = (epicycleref04_Claimed.f k (L.take a) x.f0).bind fun t171 => (epicycleref04_Right.j3 k L (a : Int) i (!t171) P G F) := fun k => by
      simp only [epicycleref04_Right.l0]
      rw [if_pos c, if_pos c0, w1, if_pos p1, if_pos p2, hx, hq, if_neg h3, if_pos a0, if_pos a1, Int.toNat_natCast]
    refine Ev.step E (Ev.bind hc ?_)
    rw [decide_eq_true n3, Bool.true_and]
    have hA : has46 (L.take a) (p60 x).1 = has46 (L.take a) x.f0 := rfl
    rw [hA]
    cases has46 (L.take a) x.f0 with
    | false =>
      rw [Bool.false_and, Bool.false_and]
      exact rr_j3t
    | true =>
      rw [Bool.true_and]
      have hq' : (rd_T89 F ((i + 1 - 1 : Nat) : Int)).f0 = (p60 x).1 := by rw [show i + 1 - 1 = i from rfl, hx]; rfl
      have IH := ih (i + 1) (p60 x).1 hd' (by omega) (by omega) hq'
      refine Ev.step (fun k => ?_) IH
      simp only [epicycleref04_Right.j3]
      rw [if_neg (show ¬ (!true) = true by decide), w]
theorem rr_j0 (ha : a ≤ L.length) (hL : L.length ≤ 1000) (uP : U P) (uG : U G) (hP : 3 ≤ P) (hok : okL (F.map p60)) :
    Ev (fun k => epicycleref04_Right.j0 k L (a : Int) false P G F) (wholeS (has46 (L.take a)) P (F.map p60) && (decide (2 ≤ G ∧ G < P) && fullS P G (F.map p60))) := by
  match F, hok with
  | [], _ =>
    rw [List.map_nil, wholeS, Bool.false_and]
    refine Ev.step (fun k => ?_) (rr_j1t (L := L) (x1 := (a : Int)) (P := P) (G := G) (F := []))
    simp only [epicycleref04_Right.j0]
    rw [if_neg ft, if_pos (by simp)]
  | x :: t, hok =>
    obtain ⟨F, hF⟩ : ∃ F, F = x :: t := ⟨_, rfl⟩
    have hlen : F.length = t.length + 1 := by rw [hF]; rfl
    have h0 : rd_T89 F 0 = x := by rw [hF]; rfl
    have hd1 : F.drop 1 = t := by rw [hF]; rfl
    have hok' : okL (F.map p60) := by rw [hF]; exact hok
    clear hok
    rw [List.map_cons, whole_split, ← List.map_cons (f := p60) (a := x), ← hF]
    have n1 : ¬ (F.length : Int) < 1 := by omega
    have p0 : 0 < (F.length : Int) := by omega
    by_cases h16 : (F.length : Int) > 16
    · have c : ¬ (F.map p60).length ≤ 16 := by simp; omega
      rw [decide_eq_false c, Bool.false_and, Bool.false_and, Bool.false_and]
      refine Ev.step (fun k => ?_) (rr_j1t (L := L) (x1 := (a : Int)) (P := P) (G := G) (F := F))
      simp only [epicycleref04_Right.j0]
      rw [if_neg ft, if_neg n1, if_pos h16]
    have c : (F.map p60).length ≤ 16 := by simp; omega
    rw [decide_eq_true c, Bool.true_and]
    have hE : ∀ k, epicycleref04_Right.j0 (k + 1) L (a : Int) false P G F = epicycleref04_Right.j1 k L (a : Int) (x.f0 != 2) P G F := fun k => by
      simp only [epicycleref04_Right.j0]
      rw [if_neg ft, if_neg n1, if_neg h16, if_pos p0, h0]
    refine Ev.step hE ?_
    have hb : ((p60 x).1 == 2) = (x.f0 == 2) := rfl
    rw [hb]
    by_cases h2 : x.f0 = 2
    · rw [h2, show ((2 : Int) == 2) = true from rfl, Bool.true_and, show ((2 : Int) != 2) = false from rfl]
      have hq : (rd_T89 F ((1 - 1 : Nat) : Int)).f0 = (p60 x).1 := by rw [show ((1 - 1 : Nat) : Int) = 0 from rfl, h0]; rfl
      have h := rr_l0 (a := a) (L := L) (F := F) (P := P) (G := G) ha hL uP uG hP (by omega) hok' t 1 (p60 x).1 hd1 (Nat.le_refl 1) (by omega) hq
      have e : (chainS (has46 (L.take a)) (p60 x).1 (t.map p60) && tailS P G (F.map p60)) = (chainS (has46 (L.take a)) (p60 x).1 (t.map p60) && (prodS (P - 1) (F.map p60) 1 == (P - 1, true)) && (decide (2 ≤ G ∧ G < P) && fullS P G (F.map p60))) := by
        unfold tailS; rw [Bool.and_assoc]
      rw [e] at h
      refine Ev.step (fun k => ?_) h
      simp only [epicycleref04_Right.j1]
      rw [if_neg ft]
      rfl
    · rw [show (x.f0 == 2) = false from beq_eq_false_iff_ne.mpr h2, Bool.false_and, Bool.false_and, show (x.f0 != 2) = true by simp [bne, h2]]
      exact rr_j1t
end
theorem has46_tri (l : List S52) : has46 l = fun q => (l.map tri46).any fun a => a.1 == q := by
  funext q
  unfold has46
  rw [List.any_map]
  rfl
theorem rr_ev {L : List S52} (hok : ∀ e ∈ L.map tri46, okE e) (hL : L.length ≤ 1000) {i : Nat} (hi : i < L.length) : Ev (fun k => epicycleref04_Right.f k L (i : Int)) (rightAt (L.map tri46) i) := by
  have hrd : rd_T52 L (i : Int) = L[i] := by unfold rd_T52; simp [List.getD, List.getElem?_eq_getElem hi]
  have ho := hok (tri46 L[i]) (List.mem_map_of_mem (List.getElem_mem hi))
  have uP : U L[i].f0 := ho.1
  have uG : U L[i].f1 := ho.2.1
  have hF : okL (L[i].f2.map p60) := ho.2.2
  clear ho
  have q0 : 0 ≤ (i : Int) := by omega
  have q1 : (i : Int) < (L.length : Int) := by omega
  have w1 : wrap64 ((i : Int) - 1) = (i : Int) - 1 := w64_id _ (by omega) (by omega)
  have hr : rightAt (L.map tri46) i = rightS (has46 (L.take i)) ((L.take i).getLast?.map fun e => e.f0) L[i].f0 L[i].f1 (L[i].f2.map p60) := by
    unfold rightAt
    rw [List.getElem?_map, List.getElem?_eq_getElem hi, Option.map_some, has46_tri, ← List.map_take, List.getLast?_map, Option.map_map]
    rfl
  rw [hr]
  generalize hP : L[i].f0 = P at *
  generalize hG : L[i].f1 = G at *
  generalize hFF : L[i].f2 = F at *
  have jT := rr_j0t (L := L) (x1 := (i : Int)) (P := P) (G := G) (F := F)
  unfold rightS
  by_cases c1 : P % 2 = 0
  · have : ¬ fits P G := by unfold fits; omega
    rw [decide_eq_false this, Bool.false_and, Bool.false_and]
    refine Ev.congr (fun k => ?_) jT
    unfold epicycleref04_Right.f
    rw [if_pos q0, if_pos q1, hrd, hP, hG, hFF, tmod_pos uP.1, if_pos c1]
  by_cases c2 : P < 3
  · have : ¬ fits P G := by unfold fits; omega
    rw [decide_eq_false this, Bool.false_and, Bool.false_and]
    refine Ev.congr (fun k => ?_) jT
    unfold epicycleref04_Right.f
    rw [if_pos q0, if_pos q1, hrd, hP, hG, hFF, tmod_pos uP.1, if_neg c1, if_pos c2]
  by_cases c3 : P > 9223372036854775807
  · have : ¬ fits P G := by unfold fits; omega
    rw [decide_eq_false this, Bool.false_and, Bool.false_and]
    refine Ev.congr (fun k => ?_) jT
    unfold epicycleref04_Right.f
    rw [if_pos q0, if_pos q1, hrd, hP, hG, hFF, tmod_pos uP.1, if_neg c1, if_neg c2, if_pos c3]
  have hj := rr_j0 (L := L) (a := i) (P := P) (G := G) (F := F) (by omega) hL uP uG (by omega) hF
  have hfit : decide (fits P G) = decide (2 ≤ G ∧ G < P) := by
    apply decide_eq_decide.2
    unfold fits; omega
  have hcomm : ∀ b c d : Bool, (d && (b && c)) = ((b && true) && (d && c)) := fun b c d => by cases b <;> cases c <;> cases d <;> rfl
  rw [hfit]
  by_cases z : i = 0
  · subst z
    have : (L.take 0).getLast?.map (fun e => e.f0) = none := by simp
    rw [this]
    rw [hcomm] at hj
    refine Ev.congr (fun k => ?_) hj
    unfold epicycleref04_Right.f
    rw [if_pos q0, if_pos q1, hrd, hP, hG, hFF, tmod_pos uP.1, if_neg c1, if_neg c2, if_neg c3, if_neg (show ¬ ((0 : Nat) : Int) > 0 by decide)]
  · have hi1 : i - 1 < L.length := by omega
    have hlast : (L.take i).getLast?.map (fun e => e.f0) = some L[i - 1].f0 := by
      have hlen : (L.take i).length = i := by simp; omega
      rw [List.getLast?_eq_getElem?, hlen, List.getElem?_take_of_lt (by omega), List.getElem?_eq_getElem hi1]
      rfl
    have hrd1 : rd_T52 L ((i : Int) - 1) = L[i - 1] := by
      rw [show (i : Int) - 1 = ((i - 1 : Nat) : Int) by omega]
      unfold rd_T52; simp [List.getD, List.getElem?_eq_getElem hi1]
    have r0 : (i : Int) > 0 := by omega
    have r1 : 0 ≤ (i : Int) - 1 := by omega
    have r2 : (i : Int) - 1 < (L.length : Int) := by omega
    rw [hlast]
    show Ev (fun k => epicycleref04_Right.f k L (i : Int)) ((decide (2 ≤ G ∧ G < P) && decide (L[i - 1].f0 < P)) && (wholeS (has46 (L.take i)) P (F.map p60) && fullS P G (F.map p60)))
    by_cases c4 : L[i - 1].f0 ≥ P
    · have n4 : ¬ L[i - 1].f0 < P := by omega
      rw [decide_eq_false n4, Bool.and_false, Bool.false_and]
      refine Ev.congr (fun k => ?_) jT
      unfold epicycleref04_Right.f
      rw [if_pos q0, if_pos q1, hrd, hP, hG, hFF, tmod_pos uP.1, if_neg c1, if_neg c2, if_neg c3, if_pos r0, w1, if_pos r1, if_pos r2, hrd1, decide_eq_true c4]
    · have n4 : L[i - 1].f0 < P := by omega
      rw [decide_eq_true n4]
      rw [hcomm] at hj
      refine Ev.congr (fun k => ?_) hj
      unfold epicycleref04_Right.f
      rw [if_pos q0, if_pos q1, hrd, hP, hG, hFF, tmod_pos uP.1, if_neg c1, if_neg c2, if_neg c3, if_pos r0, w1, if_pos r1, if_pos r2, hrd1, decide_eq_false c4]
theorem refcheck_l0 {L : List S52} (hok : ∀ e ∈ L.map tri46, okE e) (hL : L.length ≤ 1000) : ∀ (d i : Nat), i + d = L.length → Ev (fun k => epicycleref04_Check.l0 k L (L.length : Int) i) (firstBad (rightAt (L.map tri46)) d i) := by
  intro d
  induction d with
  | zero =>
    intro i hi
    have c : ¬ (i : Int) < (L.length : Int) := by omega
    refine Ev.step (f := fun _ => some (0, 0)) (fun k => ?_) (Ev.now _)
    simp only [epicycleref04_Check.l0]
    rw [if_neg c]
  | succ d ih =>
    intro i hi
    have q1 : (i : Int) < (L.length : Int) := by omega
    have w : wrap64 ((i : Int) + 1) = ((i + 1 : Nat) : Int) := by rw [w64_id _ (by omega) (by omega)]; omega
    have E := rr_ev hok hL (i := i) (by omega)
    have IH := ih (i + 1) (by omega)
    refine Ev.step (f := fun k => (epicycleref04_Right.f k L (i : Int)).bind fun t178 => (if t178 = true then (epicycleref04_Check.l0 k L (L.length : Int) ((i + 1 : Nat) : Int)) else (some ((i : Int), 3)))) (fun k => ?_) (Ev.bind E ?_)
    · simp only [epicycleref04_Check.l0]
      rw [if_pos q1, w]
    · unfold firstBad
      cases rightAt (L.map tri46) i with
      | true => exact evP rfl IH
      | false => exact evN ft (Ev.now _)
theorem refcheck_ev {L : List S52} (hok : ∀ e ∈ L.map tri46, okE e) : Ev (fun k => epicycleref04_Check.f k L) (checkS (L.map tri46)) := by
  unfold checkS
  rw [List.length_map]
  by_cases h : (L.length : Int) > 32
  · rw [if_pos h]
    refine Ev.congr (fun k => ?_) (Ev.now _)
    unfold epicycleref04_Check.f
    rw [if_pos h]
  · rw [if_neg h]
    refine Ev.congr (fun k => ?_) (refcheck_l0 hok (by omega) L.length 0 (by omega))
    unfold epicycleref04_Check.f
    rw [if_neg h]
    rfl
end Go.Proofs.Ythnpjjpdlihepaa.XR
end
section
namespace Go.Proofs.Ythnpjjpdlihepaa.XK
open Go.RowKit Go.Proofs.Ythnpjjpdlihepaa.Given Go.Proofs.Ythnpjjpdlihepaa.Row05 Go.Proofs.Ythnpjjpdlihepaa.XS Go.Proofs.Ythnpjjpdlihepaa.XT Go.Proofs.Ythnpjjpdlihepaa.XR Go.Proofs.Ythnpjjpdlihepaa.F06 Go.Proofs.YthnpjjpdlihepaaW.PrintWords Go.Proofs.YthnpjjpdlihepaaW.PrintLast Go.Proofs.YthnpjjpdlihepaaW.PrintMore
attribute [local go_sem] max2_int min2_int max_two min_two max_three min_three max_four min_four   -- for this text's walks alone
set_option linter.unusedVariables false
set_option linter.unusedSimpArgs false
noncomputable def field_Small.f (k : Nat) (a0 : Int) : Option ((List (Fld)) × Int) := (sieve_Row.f k a0).bind fun bt101 => (if bt101.2 = 0 then ((field_New.f k bt101.1 a0).bind fun bt105 => (some (bt105.1, bt105.2))) else (some (([] : List (Fld)), bt101.2)))
set_option maxHeartbeats 8000000 in
set_option maxRecDepth 100000 in
theorem field_Small.calls (k : Nat) (a0 : Int) (r1 : List (Fld)) (r2 : Int) (w : World) (h : field_Small.f k a0 = some (r1, r2)) :
  Calls Try.prog 29 #[.int .u64 a0] w fun e w' => ∃ v0_ : Value, e = .returned (.tuple #[toPtr v0_, .int .i64 r2]) ∧ Kd.R kFld 70 w' w.heap.size (fun _ => True) v0_ r1 ∧ Below w.heap.size w w' := by
 have HB := Aside0.mk (Below.refl w.heap.size w)
 have H := h; unfold field_Small.f at H
 clear h
 replace H := Option.bind_eq_some_iff.mp H
 obtain ⟨⟨t101, t102⟩, A20, H⟩ := H
 (try dsimp only at H)
 have A2 := Aside0.mk A20
 clear A20
 by_cases c3 : t102 = 0
 ·rw [if_pos c3] at H
  have c3b0 := beq_iff_eq.mpr c3
  have c3b1 := bne_eq_false_iff_eq.mpr c3
  clear c3
  replace H := Option.bind_eq_some_iff.mp H
  obtain ⟨⟨t105, t106⟩, A40, H⟩ := H
  (try dsimp only at H)
  have A4 := Aside0.mk A40
  clear A40
  simp only [Option.some.injEq, Prod.mk.injEq] at H
  obtain ⟨rfl, rfl⟩ := H
  go_enter Try.func29, Try.ntmps29
  go_wp2_with (first | ((with_reducible refine gate_callee (f := 54) rfl ?_); refine goesL_ (some 8) rfl rfl Try.func54 (by kernel_rfl) rfl #[.int .u64 a0] rfl (by (try simp only [List.map_toArray, List.map_cons, List.map_nil]); first | done | rfl | (simp only [List.length_drop, List.length_take]; rfl)) ?_; (with_reducible refine (sieve_Row.calls k a0 t101 t102 _ A2.out).mono ?_); rintro e w5 ⟨v103, rfl, ho0, hb⟩; refine ⟨_, rfl, ?_⟩; have n0_ := Aside0.mk (Kd.S_lower ho0 (below_size bel_)); have n1_ := Aside0.mk (below_step bel_ hb); clear HB; have HO104 := n0_; have HB := n1_; clear n0_ n1_; (try clear hb); (try clear hb2); (try clear hk); (try clear hi); (try clear ho0); obtain ⟨Ao6, co6, eo6⟩ := Kd.S_slice HO104.out; subst eo6) | ((with_reducible refine gate_callee (f := 31) rfl ?_); refine goesL_ (some 16) rfl rfl Try.func31 (by kernel_rfl) rfl #[.slice Ao6 t101.length co6, .int .u64 a0] rfl (by (try simp only [List.map_toArray, List.map_cons, List.map_nil]); first | done | rfl | (simp only [List.length_drop, List.length_take]; rfl)) ?_; (with_reducible refine (field_New.calls k _ _ t101 a0 t105 t106 _ ?side1 ?side2 A4.out).mono ?_); (case side1 => repeat (first | exact (Kd.S_reads' HO104.out).2.2 | (with_reducible refine Kd.C_alloc ?_ _) | (with_reducible refine Kd.C_drewN ?_ _) | (with_reducible refine Kd.C_drew ?_))); (case side2 => exact (Kd.S_reads' HO104.out).2.1); rintro e w7 ⟨v107, rfl, ho0, hb⟩; refine ⟨_, rfl, ?_⟩; have n0_ := Aside0.mk (Kd.S_below (by (with_reducible repeat (first | apply Kd.S_alloc | apply Kd.S_drewN | apply Kd.S_drew)); exact HO104.out) hb); have n1_ := Aside0.mk (Kd.R_lower ho0 (below_size bel_)); have n2_ := Aside0.mk (below_step bel_ hb); clear HO104; clear HB; have HO104 := n0_; have HO108 := n1_; have HB := n2_; clear n0_ n1_ n2_; (try clear hb); (try clear hb2); (try clear hk); (try clear hi); (try clear ho0)))
  go_ret2
  exact ⟨_, by first | rfl | (simp [errW_none, errW_some] <;> rfl) | (simp [*, errW_none, errW_some] <;> rfl), by (with_reducible repeat (first | apply Kd.R_alloc | apply Kd.R_drewN | apply Kd.R_drew)); exact HO108.out, bel_⟩
 ·rw [if_neg c3] at H
  have c3b0 := beq_eq_false_iff_ne.mpr c3
  have c3b1 := bne_iff_ne.mpr c3
  simp only [Option.some.injEq, Prod.mk.injEq] at H
  obtain ⟨rfl, rfl⟩ := H
  go_enter Try.func29, Try.ntmps29
  go_wp2_with (first | ((with_reducible refine gate_callee (f := 54) rfl ?_); refine goesL_ (some 8) rfl rfl Try.func54 (by kernel_rfl) rfl #[.int .u64 a0] rfl (by (try simp only [List.map_toArray, List.map_cons, List.map_nil]); first | done | rfl | (simp only [List.length_drop, List.length_take]; rfl)) ?_; (with_reducible refine (sieve_Row.calls k a0 t101 t102 _ A2.out).mono ?_); rintro e w8 ⟨v103, rfl, ho0, hb⟩; refine ⟨_, rfl, ?_⟩; have n0_ := Aside0.mk (Kd.S_lower ho0 (below_size bel_)); have n1_ := Aside0.mk (below_step bel_ hb); clear HB; have HO104 := n0_; have HB := n1_; clear n0_ n1_; (try clear hb); (try clear hb2); (try clear hk); (try clear hi); (try clear ho0)))
  go_ret2
  exact ⟨(.slice none 0 0), by first | rfl | (simp [errW_none, errW_some] <;> rfl) | (simp [*, errW_none, errW_some] <;> rfl), by first | exact Kd.R_nil _ _ _ _ _ | exact Kd.N_nil _ _ _ _ _ | exact Kd.V_nil _ _ _ _ _ | exact Kd.Q_nil _ _ _ _ _ | exact Kd.S_nil _ _ _ _ _, bel_⟩
noncomputable def field_Known.f (k : Nat) (a0 : Int) : Option ((List (Fld)) × Int) := (field_known.f a0).bind fun bt109 => (if bt109.2 = 0 then (some (([] : List (Fld)), 1)) else ((field_New.f k bt109.1 bt109.2).bind fun bt113 => (some (bt113.1, bt113.2))))
set_option maxHeartbeats 8000000 in
set_option maxRecDepth 100000 in
theorem field_Known.calls (k : Nat) (a0 : Int) (r1 : List (Fld)) (r2 : Int) (w : World) (h : field_Known.f k a0 = some (r1, r2)) :
  Calls Try.prog 30 #[.int .i64 a0] w fun e w' => ∃ v0_ : Value, e = .returned (.tuple #[toPtr v0_, .int .i64 r2]) ∧ Kd.R kFld 70 w' w.heap.size (fun _ => True) v0_ r1 ∧ Below w.heap.size w w' := by
 have HB := Aside0.mk (Below.refl w.heap.size w)
 have H := h; unfold field_Known.f at H
 clear h
 replace H := Option.bind_eq_some_iff.mp H
 obtain ⟨⟨t109, t110⟩, A20, H⟩ := H
 (try dsimp only at H)
 have A2 := Aside0.mk A20
 clear A20
 by_cases c3 : t110 = 0
 ·rw [if_pos c3] at H
  have c3b0 := beq_iff_eq.mpr c3
  have c3b1 := bne_eq_false_iff_eq.mpr c3
  clear c3
  simp only [Option.some.injEq, Prod.mk.injEq] at H
  obtain ⟨rfl, rfl⟩ := H
  go_enter Try.func30, Try.ntmps30
  go_wp2_with (first | ((with_reducible refine gate_callee (f := 55) rfl ?_); refine goesL_ (some 8) rfl rfl Try.func55 (by kernel_rfl) rfl #[.int .i64 a0] rfl (by (try simp only [List.map_toArray, List.map_cons, List.map_nil]); first | done | rfl | (simp only [List.length_drop, List.length_take]; rfl)) ?_; (with_reducible refine (field_known.calls a0 t109 t110 _ A2.out).mono ?_); rintro e w4 ⟨v111, rfl, ho0, hb⟩; refine ⟨_, rfl, ?_⟩; have n0_ := Aside0.mk (Kd.S_lower ho0 (below_size bel_)); have n1_ := Aside0.mk (below_step bel_ hb); clear HB; have HO112 := n0_; have HB := n1_; clear n0_ n1_; (try clear hb); (try clear hb2); (try clear hk); (try clear hi); (try clear ho0)))
  go_ret2
  exact ⟨(.slice none 0 0), by first | rfl | (simp [errW_none, errW_some] <;> rfl) | (simp [*, errW_none, errW_some] <;> rfl), by first | exact Kd.R_nil _ _ _ _ _ | exact Kd.N_nil _ _ _ _ _ | exact Kd.V_nil _ _ _ _ _ | exact Kd.Q_nil _ _ _ _ _ | exact Kd.S_nil _ _ _ _ _, bel_⟩
 ·rw [if_neg c3] at H
  have c3b0 := beq_eq_false_iff_ne.mpr c3
  have c3b1 := bne_iff_ne.mpr c3
  replace H := Option.bind_eq_some_iff.mp H
  obtain ⟨⟨t113, t114⟩, A50, H⟩ := H
  (try dsimp only at H)
  have A5 := Aside0.mk A50
  clear A50
  simp only [Option.some.injEq, Prod.mk.injEq] at H
  obtain ⟨rfl, rfl⟩ := H
  go_enter Try.func30, Try.ntmps30
  go_wp2_with (first | ((with_reducible refine gate_callee (f := 55) rfl ?_); refine goesL_ (some 8) rfl rfl Try.func55 (by kernel_rfl) rfl #[.int .i64 a0] rfl (by (try simp only [List.map_toArray, List.map_cons, List.map_nil]); first | done | rfl | (simp only [List.length_drop, List.length_take]; rfl)) ?_; (with_reducible refine (field_known.calls a0 t109 t110 _ A2.out).mono ?_); rintro e w6 ⟨v111, rfl, ho0, hb⟩; refine ⟨_, rfl, ?_⟩; have n0_ := Aside0.mk (Kd.S_lower ho0 (below_size bel_)); have n1_ := Aside0.mk (below_step bel_ hb); clear HB; have HO112 := n0_; have HB := n1_; clear n0_ n1_; (try clear hb); (try clear hb2); (try clear hk); (try clear hi); (try clear ho0); obtain ⟨Ao7, co7, eo7⟩ := Kd.S_slice HO112.out; subst eo7) | ((with_reducible refine gate_callee (f := 31) rfl ?_); refine goesL_ (some 15) rfl rfl Try.func31 (by kernel_rfl) rfl #[.slice Ao7 t109.length co7, .int .u64 t110] rfl (by (try simp only [List.map_toArray, List.map_cons, List.map_nil]); first | done | rfl | (simp only [List.length_drop, List.length_take]; rfl)) ?_; (with_reducible refine (field_New.calls k _ _ t109 t110 t113 t114 _ ?side1 ?side2 A5.out).mono ?_); (case side1 => repeat (first | exact (Kd.S_reads' HO112.out).2.2 | (with_reducible refine Kd.C_alloc ?_ _) | (with_reducible refine Kd.C_drewN ?_ _) | (with_reducible refine Kd.C_drew ?_))); (case side2 => exact (Kd.S_reads' HO112.out).2.1); rintro e w8 ⟨v115, rfl, ho0, hb⟩; refine ⟨_, rfl, ?_⟩; have n0_ := Aside0.mk (Kd.S_below (by (with_reducible repeat (first | apply Kd.S_alloc | apply Kd.S_drewN | apply Kd.S_drew)); exact HO112.out) hb); have n1_ := Aside0.mk (Kd.R_lower ho0 (below_size bel_)); have n2_ := Aside0.mk (below_step bel_ hb); clear HO112; clear HB; have HO112 := n0_; have HO116 := n1_; have HB := n2_; clear n0_ n1_ n2_; (try clear hb); (try clear hb2); (try clear hk); (try clear hi); (try clear ho0)))
  go_ret2
  exact ⟨_, by first | rfl | (simp [errW_none, errW_some] <;> rfl) | (simp [*, errW_none, errW_some] <;> rfl), by (with_reducible repeat (first | apply Kd.R_alloc | apply Kd.R_drewN | apply Kd.R_drew)); exact HO116.out, bel_⟩
end Go.Proofs.Ythnpjjpdlihepaa.XK
end
section
namespace Go.Proofs.Ythnpjjpdlihepaa.F06
open Go Go.RowKit Go.Proofs.YthnpjjpdlihepaaW.PrintWords Go.Proofs.YthnpjjpdlihepaaW.PrintLast Go.Proofs.YthnpjjpdlihepaaW.PrintMore Go.Proofs.Ythnpjjpdlihepaa.Given Go.Proofs.Ythnpjjpdlihepaa.M Go.Proofs.Ythnpjjpdlihepaa.Mont Go.Proofs.Ythnpjjpdlihepaa.XS Go.Proofs.Ythnpjjpdlihepaa.XT Go.Proofs.Ythnpjjpdlihepaa.XR Go.Proofs.Ythnpjjpdlihepaa.Given04 Go.Proofs.Ythnpjjpdlihepaa.Given05 Go.Proofs.Ythnpjjpdlihepaa.Num
open Go.Proofs.Ythnpjjpdlihepaa.XK
open Go.Proofs.Ythnpjjpdlihepaa.Row05 (OddN gen facs entS row_ev row_not row_check row_okE gen_least)
abbrev PE := S67
abbrev RE := S52
def GoodFld (F : Fld) : Prop := ∃ (A : Int → Bool) (prev : Option Int), rightS A prev F.p F.g (F.l.map p59) = true ∧ Ordered F.p F.g ∧ okE (F.p, F.g, F.l.map p59)
theorem Ev.unique {α : Type} {g : Nat → Option α} {r s : α} (h : Ev g r) (h' : Ev g s) : r = s := by
  obtain ⟨K, h⟩ := h
  obtain ⟨K', h'⟩ := h'
  have h1 := h (max K K') (Nat.le_max_left _ _)
  have h2 := h' (max K K') (Nat.le_max_right _ _)
  rw [h1] at h2
  exact Option.some.inj h2
theorem rdE_drop {R : List PE} {i : Nat} {x : PE} {l : List PE} (h : R.drop i = x :: l) : rd_T67 R (i : Int) = x ∧ i < R.length ∧ R.drop (i + 1) = l := by
  have hlt : i < R.length := by
    refine Classical.byContradiction fun c => ?_
    rw [List.drop_of_length_le (by omega)] at h
    cases h
  rw [List.drop_eq_getElem_cons hlt] at h
  injection h with h1 h2
  refine ⟨?_, hlt, h2⟩
  unfold rd_T67
  simp [List.getD, List.getElem?_eq_getElem hlt, h1]
def foundP (R : List PE) (p : Int) : Int × Int × List S65 × Bool :=
  match R.find? (fun e => e.f0 == p) with
  | some e => (e.f0, e.f1, e.f2, true)
  | none => (0, 0, [], false)
theorem claimP_l0 {R : List PE} {p : Int} (hL : R.length ≤ 1000) (hs : ∀ e ∈ R, e.f2.length ≤ 1000000) (l : List PE) : ∀ i : Nat, R.drop i = l →
    Ev (fun k => proof_Claim.l0 k p R (R.length : Int) i) (foundP l p) := by
  induction l with
  | nil =>
    intro i hd
    have : R.length ≤ i := by have := congrArg List.length hd; simp at this; omega
    have c : ¬ (i : Int) < (R.length : Int) := by omega
    refine Ev.step (f := fun _ => some (0, 0, [], false)) (fun k => ?_) (Ev.now _)
    simp only [proof_Claim.l0]
    rw [if_neg c]
  | cons x l ih =>
    intro i hd
    obtain ⟨hx, hlt, hd'⟩ := rdE_drop hd
    have hxm : x ∈ R := List.mem_of_mem_drop (show x ∈ R.drop i by rw [hd]; exact List.mem_cons_self)
    have c : (i : Int) < (R.length : Int) := by omega
    have c0 : 0 ≤ (i : Int) := by omega
    have w : wrap64 ((i : Int) + 1) = ((i + 1 : Nat) : Int) := by rw [w64_id _ (by omega) (by omega)]; omega
    have hcl := hs x hxm
    by_cases h : x.f0 = p
    · have e : foundP (x :: l) p = (x.f0, x.f1, x.f2, true) := by unfold foundP; rw [List.find?_cons, beq_iff_eq.2 h]
      rw [e]
      refine Ev.step (f := fun _ => some (x.f0, x.f1, x.f2, true)) (fun k => ?_) (Ev.now _)
      simp only [proof_Claim.l0]
      rw [if_pos c, if_pos c0, if_pos c, hx, if_pos h, proof_Power.f, if_pos hcl, Option.bind_some]
    · have e : foundP (x :: l) p = foundP l p := by unfold foundP; rw [List.find?_cons, beq_eq_false_iff_ne.2 h]
      rw [e]
      refine Ev.step (fun k => ?_) (ih (i + 1) hd')
      simp only [proof_Claim.l0]
      rw [if_pos c, if_pos c0, if_pos c, hx, if_neg h, w]
theorem check_facts {R : List PE} (h : (checkS (R.map tri)).2 = 0) : (∀ j, j < R.length → rightAt (R.map tri) j = true) ∧ R.length ≤ 32 := by
  unfold checkS at h
  rw [List.length_map] at h
  split at h
  · exact absurd h (by decide)
  · exact ⟨fun j hj => firstBad_ok _ 0 h j (by omega) (by omega), by omega⟩
theorem whole_short {A : Int → Bool} {P : Int} {l : List (Int × Int)} (h : wholeS A P l = true) : l.length ≤ 16 := by
  cases l with
  | nil => simp
  | cons x t =>
    rw [wholeS_cons] at h
    simp only [Bool.and_eq_true, decide_eq_true_eq] at h
    exact h.1.1.1
theorem entry_good {R : List PE} (hok : ∀ e ∈ R.map tri, okE e) (h : (checkS (R.map tri)).2 = 0) {e : PE} (he : e ∈ R) : GoodFld ⟨e.f0, e.f1, e.f2⟩ := by
  obtain ⟨i, hi, rfl⟩ := List.mem_iff_getElem.1 he
  have hr := (check_facts h).1 i hi
  have hg : (R.map tri)[i]? = some (tri R[i]) := by rw [List.getElem?_map, List.getElem?_eq_getElem hi]; rfl
  unfold rightAt at hr
  rw [hg] at hr
  exact ⟨_, _, hr, check_ordered h hg, hok _ (List.mem_map_of_mem (List.getElem_mem hi))⟩
theorem GoodFld.fits {F : Fld} (h : GoodFld F) : fits F.p F.g := by
  obtain ⟨A, prev, h, _⟩ := h
  unfold rightS at h
  simp only [Bool.and_eq_true, decide_eq_true_eq] at h
  exact h.1.1
theorem GoodFld.m {F : Fld} (h : GoodFld F) : GoodM F.p := ⟨h.fits.1, h.fits.2.1, h.fits.2.2.1⟩
theorem GoodFld.ord {F : Fld} (h : GoodFld F) : Ordered F.p F.g := by
  obtain ⟨A, prev, _, h, _⟩ := h
  exact h
theorem GoodFld.whole {F : Fld} (h : GoodFld F) : ∃ A, wholeS A F.p (F.l.map p59) = true := by
  obtain ⟨A, prev, h, _⟩ := h
  unfold rightS at h
  simp only [Bool.and_eq_true] at h
  exact ⟨A, h.2.1⟩
theorem GoodFld.short {F : Fld} (h : GoodFld F) : F.l.length ≤ 16 := by
  obtain ⟨A, h⟩ := h.whole
  have := whole_short h
  rwa [List.length_map] at this
theorem GoodFld.uG {F : Fld} (h : GoodFld F) : U F.g := by
  obtain ⟨_, _, _, _, _, h, _⟩ := h
  exact h
def newS (R : List PE) (p : Int) : List Fld × Int :=
  if (checkS (R.map tri)).2 = 0 then (match R.find? (fun e => e.f0 == p) with | some e => ([⟨e.f0, e.f1, e.f2⟩], 0) | none => ([], 14)) else ([], (checkS (R.map tri)).2)
theorem new_ev {R : List PE} (hok : ∀ e ∈ R.map tri, okE e) (p : Int) : Ev (fun k => field_New.f k R p) (newS R p) := by
  have C := check_ev R hok
  refine Ev.congr (fun k => rfl) (Ev.bind C ?_)
  unfold newS
  by_cases hz : (checkS (R.map tri)).2 = 0
  · rw [if_pos hz]
    refine evP hz ?_
    obtain ⟨hr, hl⟩ := check_facts hz
    have hs : ∀ e ∈ R, e.f2.length ≤ 1000000 := fun e he => by
      have := (entry_good hok hz he).short
      have : e.f2.length ≤ 16 := this
      omega
    refine Ev.bind (Ev.congr (f := fun k => (proof_Check.f k R).bind fun c => if c.2 = 0 then proof_Claim.l0 k p R (R.length : Int) 0 else some (0, 0, [], false)) (fun k => rfl) (Ev.bind C (evP hz (claimP_l0 (by omega) hs R 0 rfl)))) ?_
    unfold foundP
    cases hf : R.find? (fun e => e.f0 == p) with
    | none => exact evN (by simp) (Ev.now _)
    | some e =>
      have he := List.mem_of_find?_eq_some hf
      have hp : e.f0 = p := by have := List.find?_some hf; simpa using this
      have hg := entry_good hok hz he
      refine evP rfl (evP ⟨hp, ?_, ?_⟩ (Ev.now _))
      · rw [← hp]; exact hg.m
      · exact hg.uG
  · rw [if_neg hz]
    exact evN hz (Ev.now _)
theorem newS_cases {R : List PE} (hok : ∀ e ∈ R.map tri, okE e) (p : Int) : (∃ e, e ≠ 0 ∧ newS R p = ([], e)) ∨ ∃ F, newS R p = ([F], 0) ∧ GoodFld F ∧ F.p = p := by
  unfold newS
  by_cases hz : (checkS (R.map tri)).2 = 0
  · rw [if_pos hz]
    cases hf : R.find? (fun e => e.f0 == p) with
    | none => exact .inl ⟨14, by decide, rfl⟩
    | some e =>
      have he := List.mem_of_find?_eq_some hf
      have hp : e.f0 = p := by have := List.find?_some hf; simpa using this
      exact .inr ⟨_, rfl, entry_good hok hz he, hp⟩
  · rw [if_neg hz]
    exact .inl ⟨_, hz, rfl⟩
theorem row_checkS {p : Nat} {ss : List Nat} (h : Row05.Rows p ss) : checkS ((ss.map entS).map tri) = (0, 0) :=
  Ev.unique (check_ev (ss.map entS) (row_okE h)) (row_check h)
theorem small_new {p : Nat} {ss : List Nat} (h : Row05.Rows p ss) : newS (ss.map entS) (p : Int) = ([⟨(p : Int), (gen p : Int), m33 (facs p)⟩], 0) := by
  unfold newS
  rw [row_checkS h, if_pos rfl]
  cases hf : (ss.map entS).find? (fun e => e.f0 == (p : Int)) with
  | none =>
    have := List.find?_eq_none.1 hf (entS p) (List.mem_map_of_mem h.mem)
    exact absurd (beq_self_eq_true ((p : Int))) this
  | some e =>
    have he := List.mem_of_find?_eq_some hf
    have hp := List.find?_some hf
    obtain ⟨q, hq, rfl⟩ := List.mem_map.1 he
    have hp : ((q : Int) == (p : Int)) = true := hp
    rw [beq_iff_eq] at hp
    obtain rfl : q = p := by omega
    rfl
open Classical in
theorem small_odd {x : Int} (h : OddP x) : ∃ F, Ev (fun k => field_Small.f k x) ([F], 0) ∧ Ev (fun k => epicycleref05_Generator.f k x) F.g ∧ F.p = x ∧ GoodFld F := by
  obtain ⟨p, rfl⟩ : ∃ p : Nat, x = p := ⟨x.toNat, by have := h.1; omega⟩
  have hn := OddN.of h
  obtain ⟨ss, hr, R⟩ := row_ev hn
  have hnew := small_new hr
  have E := new_ev (row_okE hr) (p : Int)
  rcases newS_cases (row_okE hr) (p : Int) with ⟨e, he, h1⟩ | ⟨F, h1, hg, hp⟩
  · rw [hnew] at h1; injection h1 with h1 _; cases h1
  · rw [h1] at hnew E
    injection hnew with h2 _
    injection h2 with h2 _
    refine ⟨F, Ev.congr (fun k => rfl) (Ev.bind R (evP rfl (Ev.bind E (Ev.now _)))), ?_, hp, hg⟩
    rw [h2]
    exact rGenerator_odd h (gen_least hn)
theorem small_not {x : Int} (h : ¬ OddP x) : Ev (fun k => field_Small.f k x) ([], 1) :=
  Ev.congr (fun k => rfl) (Ev.bind (row_not h) (evN (by decide) (Ev.now _)))
def powm (P : Nat) : Nat → Nat → Nat → Nat
  | 0, _, _ => 1 % P
  | n + 1, g, e => if e = 0 then 1 % P else if e % 2 = 1 then g * powm P n (g * g % P) (e / 2) % P else powm P n (g * g % P) (e / 2)
theorem powm_eq {P : Nat} (n : Nat) : ∀ g e, e < 2 ^ n → powm P n g e = g ^ e % P := by
  induction n with
  | zero => intro g e h; have : e = 0 := by simpa using h
            subst this; rfl
  | succ n ih =>
    intro g e h
    unfold powm
    have hq : e / 2 < 2 ^ n := by rw [Nat.pow_succ] at h; omega
    have hs : (g * g % P) ^ (e / 2) % P = g ^ (2 * (e / 2)) % P := by rw [← Nat.pow_mod, ← Nat.pow_two, ← Nat.pow_mul]
    split
    · next h0 => subst h0; rfl
    · split
      · next h1 =>
        rw [ih _ _ hq, hs, Nat.mul_mod, Nat.mod_mod, ← Nat.mul_mod, ← Nat.pow_succ', show (2 * (e / 2)).succ = e by omega]
      · next h1 => rw [ih _ _ hq, hs, show 2 * (e / 2) = e by omega]
def fullQ (P G : Nat) (l : List Nat) : Bool := (powm P 64 G (P - 1) == 1) && !(l.any fun x => powm P 64 G ((P - 1) / x) == 1)
theorem pow_castq {G P n : Nat} : (((G : Int) ^ n % (P : Int)) == 1) = (G ^ n % P == 1) := by
  rw [Bool.eq_iff_iff, beq_iff_eq, beq_iff_eq]
  exact pow_cast G P n
theorem fullQ_S {P G : Nat} {l : List (Nat × Nat)} (h1 : 1 ≤ P) (hP : P < 9223372036854775808) (h : fullQ P G (l.map (·.1)) = true) : fullS (P : Int) (G : Int) (l.map fun x => ((x.1 : Int), (x.2 : Int))) = true := by
  unfold fullQ at h
  unfold fullS
  have e1 : ((P : Int) - 1).toNat = P - 1 := by omega
  have c : (fun x : Nat × Nat => powm P 64 G ((P - 1) / x.1) == 1) = fun x : Nat × Nat => ((G : Int) ^ (((P : Int) - 1) / (x.1 : Int)).toNat % (P : Int) == 1) := by
    funext x
    have : ((P : Int) - 1) / (x.1 : Int) = (((P - 1) / x.1 : Nat) : Int) := by rw [Int.natCast_ediv]; congr 1; omega
    rw [this, Int.toNat_natCast, pow_castq, powm_eq 64 _ _ (Nat.lt_of_le_of_lt (Nat.div_le_self _ _) (by omega))]
  rw [List.any_map] at h
  rw [e1, pow_castq, List.any_map, ← powm_eq 64 _ _ (by omega)]
  simp only [Function.comp_def] at h ⊢
  rw [← c]
  exact h
def rightQ (L : List PE) (i : Nat) : Bool :=
  match L[i]? with
  | none => false
  | some e => (decide (fits e.f0 e.f1) && (match ((L.map tri).take i).getLast?.map fun a => a.1 with | none => true | some q => decide (q < e.f0))) && (wholeS (fun q => ((L.map tri).take i).any fun a => a.1 == q) e.f0 (e.f2.map p59) && (fullQ e.f0.toNat e.f1.toNat (e.f2.map fun x => x.f0.toNat) && decide (∀ x ∈ e.f2, 0 ≤ x.f0 ∧ 0 ≤ x.f1)))
theorem rightQ_S {L : List PE} {i : Nat} (h : rightQ L i = true) : rightAt (L.map tri) i = true := by
  unfold rightQ at h
  unfold rightAt
  rw [List.getElem?_map]
  cases he : L[i]? with
  | none => rw [he] at h; cases h
  | some e =>
    rw [he] at h
    simp only [Bool.and_eq_true] at h
    obtain ⟨⟨h1, h2⟩, h3, h4, h5⟩ := h
    have hf : fits e.f0 e.f1 := of_decide_eq_true h1
    unfold fits at hf
    have h5 := of_decide_eq_true h5
    show rightS _ _ e.f0 e.f1 (e.f2.map p59) = true
    unfold rightS
    rw [h1, h3, Bool.true_and, Bool.true_and]
    refine Bool.and_eq_true_iff.2 ⟨h2, ?_⟩
    have := fullQ_S (P := e.f0.toNat) (G := e.f1.toNat) (l := e.f2.map fun x => (x.f0.toNat, x.f1.toNat)) (by omega) (by omega) (by rw [List.map_map]; exact h4)
    rw [Int.toNat_of_nonneg (by omega), Int.toNat_of_nonneg (by omega), List.map_map] at this
    rw [← this]
    congr 1
    refine List.map_congr_left fun x hx => ?_
    obtain ⟨a, b⟩ := h5 x hx
    show (x.f0, x.f1) = (((x.f0.toNat : Nat) : Int), ((x.f1.toNat : Nat) : Int))
    rw [Int.toNat_of_nonneg a, Int.toNat_of_nonneg b]
theorem firstBad_all {r : Nat → Bool} : ∀ (d i : Nat), (∀ j, i ≤ j → j < i + d → r j = true) → firstBad r d i = (0, 0)
  | 0, _, _ => rfl
  | d + 1, i, h => by
    unfold firstBad
    rw [h i (by omega) (by omega), if_pos rfl]
    exact firstBad_all d (i + 1) fun j h1 h2 => h j (by omega) (by omega)
def okQ (e : PE) : Bool := decide (U e.f0) && (decide (U e.f1) && decide (∀ x ∈ e.f2, U x.f0 ∧ -9223372036854775808 ≤ x.f1 ∧ x.f1 < 9223372036854775808))
theorem okQ_E {L : List PE} (h : L.all okQ = true) : ∀ e ∈ L.map tri, okE e := by
  intro e he
  obtain ⟨x, hx, rfl⟩ := List.mem_map.1 he
  have := List.all_eq_true.1 h x hx
  unfold okQ at this
  simp only [Bool.and_eq_true, decide_eq_true_eq] at this
  refine ⟨this.1, this.2.1, fun y hy => ?_⟩
  obtain ⟨z, hz, rfl⟩ := List.mem_map.1 hy
  exact this.2.2 z hz
theorem known_at {L : List PE} {p g : Int} {l : List S65} (hn : L.length ≤ 32) (hr : (List.range L.length).all (rightQ L) = true) (hok : L.all okQ = true) (hf : L.find? (fun e => e.f0 == p) = some ⟨p, g, l⟩) :
    Ev (fun k => field_New.f k L p) ([⟨p, g, l⟩], 0) ∧ GoodFld ⟨p, g, l⟩ := by
  have hz : checkS (L.map tri) = (0, 0) := by
    unfold checkS
    rw [List.length_map, if_neg (by omega)]
    refine firstBad_all _ _ fun j _ hj => rightQ_S ?_
    exact List.all_eq_true.1 hr j (List.mem_range.2 (by omega))
  have e : newS L p = ([⟨p, g, l⟩], 0) := by
    unfold newS
    rw [hz, if_pos rfl, hf]
  have E := new_ev (okQ_E hok) p
  rw [e] at E
  exact ⟨E, entry_good (okQ_E hok) (by rw [hz]) (List.mem_of_find?_eq_some hf)⟩
theorem known_ev {i : Int} (h0 : 0 ≤ i) (h5 : i ≤ 5) : ∃ F, Ev (fun k => field_Known.f k i) ([F], 0) ∧ knownT i = (F.p, F.g, 0) ∧ GoodFld F := by
  have go : ∀ {L : List PE} {p g : Int} {l : List S65}, field_known.f i = some (L, p) → ¬ p = 0 → knownT i = (p, g, 0) → L.length ≤ 32 → (List.range L.length).all (rightQ L) = true → L.all okQ = true → L.find? (fun e => e.f0 == p) = some ⟨p, g, l⟩ → ∃ F, Ev (fun k => field_Known.f k i) ([F], 0) ∧ knownT i = (F.p, F.g, 0) ∧ GoodFld F := by
    intro L p g l hk hp hT hn hr hok hf
    obtain ⟨E, hg⟩ := known_at hn hr hok hf
    refine ⟨⟨p, g, l⟩, ?_, hT, hg⟩
    refine Ev.congr (f := fun k => (field_New.f k L p).bind fun r => some (r.1, r.2)) (fun k => ?_) (Ev.bind E (Ev.now _))
    unfold field_Known.f
    rw [hk]
    simp only [Option.bind_some]
    rw [if_neg hp]
  rcases (show i = 0 ∨ i = 1 ∨ i = 2 ∨ i = 3 ∨ i = 4 ∨ i = 5 by omega) with rfl | rfl | rfl | rfl | rfl | rfl
  · exact go (L := known0) (p := 4179340454199820289) (g := 3) (l := [⟨2, 57⟩, ⟨29, 1⟩]) rfl (by decide) rfl (by decide) (by decide +kernel) (by decide +kernel) rfl
  · exact go (L := known1) (p := 1945555039024054273) (g := 5) (l := [⟨2, 56⟩, ⟨3, 3⟩]) rfl (by decide) rfl (by decide) (by decide +kernel) (by decide +kernel) rfl
  · exact go (L := known2) (p := 180143985094819841) (g := 6) (l := [⟨2, 55⟩, ⟨5, 1⟩]) rfl (by decide) rfl (by decide) (by decide +kernel) (by decide +kernel) rfl
  · exact go (L := known3) (p := 754974721) (g := 11) (l := [⟨2, 24⟩, ⟨3, 2⟩, ⟨5, 1⟩]) rfl (by decide) rfl (by decide) (by decide +kernel) (by decide +kernel) rfl
  · exact go (L := known4) (p := 469762049) (g := 3) (l := [⟨2, 26⟩, ⟨7, 1⟩]) rfl (by decide) rfl (by decide) (by decide +kernel) (by decide +kernel) rfl
  · exact go (L := known5) (p := 167772161) (g := 3) (l := [⟨2, 25⟩, ⟨5, 1⟩]) rfl (by decide) rfl (by decide) (by decide +kernel) (by decide +kernel) rfl
theorem known_not {i : Int} (h : ¬ (0 ≤ i ∧ i ≤ 5)) : Ev (fun k => field_Known.f k i) ([], 1) := by
  have hk : field_known.f i = some ([], 0) := by
    unfold field_known.f
    rw [if_neg (by omega), if_neg (by omega), if_neg (by omega), if_neg (by omega), if_neg (by omega), if_neg (by omega)]
  refine Ev.congr (f := fun _ => some ([], 1)) (fun k => ?_) (Ev.now _)
  unfold field_Known.f
  rw [hk]
  rfl
def ofNew (L : List RE) (p : Int) : Int × Int × Int :=
  if (L.length : Int) > 40 then (0, 0, 13) else if (L.any fun e => decide ((e.f2.length : Int) > 20)) = true then (0, 0, 3) else
    if (checkS (L.map tri46)).2 = 0 then (match L.find? (fun e => e.f0 == p) with | some e => (e.f0, e.f1, 0) | none => (0, 0, 14)) else (0, 0, (checkS (L.map tri46)).2)
theorem of_l1 {L M : List RE} {p a b : Int} (hL : L.length ≤ 1000) (l : List RE) : ∀ i : Nat, L.drop i = l →
    Ev (fun k => XO.epicycleref06_Of.l1 k L (L.length : Int) i a b p M) (match l.find? (fun e => e.f0 == p) with | some e => (e.f0, e.f1, 0) | none => (0, 0, 14)) := by
  induction l with
  | nil =>
    intro i hd
    have : L.length ≤ i := by have := congrArg List.length hd; simp at this; omega
    have c : ¬ (i : Int) < (L.length : Int) := by omega
    refine Ev.step (f := fun _ => some (0, 0, 14)) (fun k => ?_) (Ev.now _)
    simp only [XO.epicycleref06_Of.l1]
    rw [if_neg c]
  | cons x l ih =>
    intro i hd
    obtain ⟨hx, hlt, hd'⟩ := rd46_drop hd
    have c : (i : Int) < (L.length : Int) := by omega
    have c0 : 0 ≤ (i : Int) := by omega
    have w : wrap64 ((i : Int) + 1) = ((i + 1 : Nat) : Int) := by rw [w64_id _ (by omega) (by omega)]; omega
    by_cases h : x.f0 = p
    · rw [List.find?_cons, beq_iff_eq.2 h]
      refine Ev.step (f := fun _ => some (x.f0, x.f1, 0)) (fun k => ?_) (Ev.now _)
      simp only [XO.epicycleref06_Of.l1]
      rw [if_pos c, if_pos c0, if_pos c, hx, if_pos h]
    · rw [List.find?_cons, beq_eq_false_iff_ne.2 h]
      refine Ev.step (fun k => ?_) (ih (i + 1) hd')
      simp only [XO.epicycleref06_Of.l1]
      rw [if_pos c, if_pos c0, if_pos c, hx, if_neg h, w]
theorem of_l0 {L M : List RE} {p a b : Int} {r : Int × Int × Int} (hL : L.length ≤ 1000) (E : Ev (fun k => (epicycleref04_Check.f k M).bind fun c => if c.2 = 0 then XO.epicycleref06_Of.l1 k M (M.length : Int) 0 a b p M else some (0, 0, c.2)) r) (l : List RE) : ∀ i : Nat, L.drop i = l →
    Ev (fun k => XO.epicycleref06_Of.l0 k L (L.length : Int) i a b p M) (if (l.any fun e => decide ((e.f2.length : Int) > 20)) = true then (0, 0, 3) else r) := by
  induction l with
  | nil =>
    intro i hd
    have : L.length ≤ i := by have := congrArg List.length hd; simp at this; omega
    have c : ¬ (i : Int) < (L.length : Int) := by omega
    rw [if_neg (by simp)]
    refine Ev.step (fun k => ?_) E
    simp only [XO.epicycleref06_Of.l0]
    rw [if_neg c]
  | cons x l ih =>
    intro i hd
    obtain ⟨hx, hlt, hd'⟩ := rd46_drop hd
    have c : (i : Int) < (L.length : Int) := by omega
    have c0 : 0 ≤ (i : Int) := by omega
    have w : wrap64 ((i : Int) + 1) = ((i + 1 : Nat) : Int) := by rw [w64_id _ (by omega) (by omega)]; omega
    by_cases h : (x.f2.length : Int) > 20
    · rw [List.any_cons, decide_eq_true h, Bool.true_or, if_pos rfl]
      refine Ev.step (f := fun _ => some (0, 0, 3)) (fun k => ?_) (Ev.now _)
      simp only [XO.epicycleref06_Of.l0]
      rw [if_pos c, if_pos c0, if_pos c, hx, if_pos h]
    · rw [List.any_cons, decide_eq_false h, Bool.false_or]
      refine Ev.step (fun k => ?_) (ih (i + 1) hd')
      simp only [XO.epicycleref06_Of.l0]
      rw [if_pos c, if_pos c0, if_pos c, hx, if_neg h, w]
theorem ofNew_ev {L : List RE} (hL : okRow L) {kind K p : Int} (h0 : ¬ kind = 0) (h1 : ¬ kind = 1) : Ev (fun k => epicycleref06_Of.f k kind K p L) (ofNew L p) := by
  have c : ¬ (kind = 1 ∧ 0 ≤ K ∧ K ≤ 5) := fun h => h1 h.1
  refine Ev.congr (f := fun k => if (L.length : Int) > 40 then some (0, 0, 13) else XO.epicycleref06_Of.l0 k L (L.length : Int) 0 kind K p L) (fun k => ?_) ?_
  · unfold epicycleref06_Of.f XO.epicycleref06_Of.f
    rw [if_neg c, if_neg h0, if_neg h1]
  unfold ofNew
  by_cases h : (L.length : Int) > 40
  · rw [if_pos h]; exact evP h (Ev.now _)
  · rw [if_neg h]
    refine evN h (of_l0 (by omega) ?_ L 0 rfl)
    refine Ev.bind (refcheck_ev hL.2) ?_
    by_cases hz : (checkS (L.map tri46)).2 = 0
    · rw [if_pos hz]; exact evP hz (of_l1 (by omega) L 0 rfl)
    · rw [if_neg hz]; exact evN hz (Ev.now _)
theorem new_of {L : List RE} (hL : okRow L) (p : Int) : (∃ e, e ≠ 0 ∧ newS (L.map cE) p = ([], e) ∧ ∃ e', e' ≠ 0 ∧ ofNew L p = (0, 0, e') ∧ ((L.length : Int) ≤ 40 → (∀ x ∈ L, (x.f2.length : Int) ≤ 20) → e' = e)) ∨ ∃ F, newS (L.map cE) p = ([F], 0) ∧ ofNew L p = (F.p, F.g, 0) ∧ GoodFld F ∧ (L.length : Int) ≤ 40 := by
  have hm := map_tri L
  have hok : ∀ e ∈ (L.map cE).map tri, okE e := by rw [hm]; exact hL.2
  have key : newS (L.map cE) p = if (checkS (L.map tri46)).2 = 0 then (match L.find? (fun e => e.f0 == p) with | some e => ([⟨e.f0, e.f1, e.f2.map cF⟩], 0) | none => ([], 14)) else ([], (checkS (L.map tri46)).2) := by
    unfold newS
    rw [hm, List.find?_map]
    have : ((fun e : PE => e.f0 == p) ∘ cE) = fun e : RE => e.f0 == p := rfl
    rw [this]
    cases L.find? (fun e => e.f0 == p) <;> rfl
  by_cases hz : (checkS (L.map tri46)).2 = 0
  · have hz' : (checkS ((L.map cE).map tri)).2 = 0 := by rw [hm]; exact hz
    have hl := (check_facts hz').2
    rw [List.length_map] at hl
    have hs : ∀ e ∈ L, (e.f2.length : Int) ≤ 20 := fun e he => by
      have := (entry_good hok hz' (List.mem_map_of_mem he)).short
      have : (e.f2.map cF).length ≤ 16 := this
      rw [List.length_map] at this
      omega
    have ho : ofNew L p = (match L.find? (fun e => e.f0 == p) with | some e => (e.f0, e.f1, 0) | none => (0, 0, 14)) := by
      unfold ofNew
      rw [if_neg (by omega), if_neg, if_pos hz]
      rw [Bool.not_eq_true, List.any_eq_false]
      intro e he
      have := hs e he
      simp only [decide_eq_true_eq]; omega
    rw [if_pos hz] at key
    cases hf : L.find? (fun e => e.f0 == p) with
    | none =>
      rw [hf] at ho key
      exact .inl ⟨14, by decide, key, 14, by decide, ho, fun _ _ => rfl⟩
    | some e =>
      rw [hf] at ho key
      exact .inr ⟨_, key, ho, entry_good hok hz' (List.mem_map_of_mem (List.mem_of_find?_eq_some hf)), by omega⟩
  · rw [if_neg hz] at key
    refine .inl ⟨_, hz, key, ?_⟩
    unfold ofNew
    split
    · next h => exact ⟨13, by decide, rfl, fun h' => absurd h' (by omega)⟩
    · split
      · next h =>
        refine ⟨3, by decide, rfl, fun _ h' => ?_⟩
        rw [List.any_eq_true] at h
        obtain ⟨x, hx, h⟩ := h
        have := h' x hx
        simp only [decide_eq_true_eq] at h
        omega
      · exact ⟨_, hz, rfl, fun _ _ => rfl⟩
open Classical in
theorem of_small {L : List RE} {K p : Int} : (OddP p → ∀ g, Ev (fun k => epicycleref05_Generator.f k p) g → Ev (fun k => epicycleref06_Of.f k 0 K p L) (p, g, 0)) ∧ (¬ OddP p → Ev (fun k => epicycleref06_Of.f k 0 K p L) (0, 0, 1)) := by
  have O := rOdd_ev p
  have e : ∀ k, epicycleref06_Of.f k 0 K p L = ((epicycleref05_Odd.f k p).bind fun t102 => (if t102 = true then ((epicycleref05_Generator.f k p).bind fun t103 => (some (p, t103, 0))) else (some (0, 0, 1)))) := fun k => by
    unfold epicycleref06_Of.f XO.epicycleref06_Of.f
    rw [if_neg (by omega), if_pos rfl]
  refine ⟨fun h g G => ?_, fun h => ?_⟩
  · rw [decide_eq_true h] at O
    exact Ev.congr e (Ev.bind O (evP rfl (Ev.bind G (Ev.now _))))
  · rw [decide_eq_false h] at O
    exact Ev.congr e (Ev.bind O (evN (by decide) (Ev.now _)))
theorem of_known {L : List RE} {K p : Int} : ((0 ≤ K ∧ K ≤ 5) → Ev (fun k => epicycleref06_Of.f k 1 K p L) (knownT K)) ∧ (¬ (0 ≤ K ∧ K ≤ 5) → Ev (fun k => epicycleref06_Of.f k 1 K p L) (0, 0, 1)) := by
  refine ⟨fun h => Ev.congr (fun k => by unfold epicycleref06_Of.f; rw [if_pos ⟨rfl, h⟩]) (Ev.now _), fun h => ?_⟩
  refine Ev.congr (f := fun k => XO.epicycleref06_Of.j0 k true) (fun k => ?_) (Ev.step (f := fun _ => some (0, 0, 1)) (fun k => ?_) (Ev.now _))
  · unfold epicycleref06_Of.f XO.epicycleref06_Of.f
    rw [if_neg (fun c => h c.2), if_neg (by decide), if_pos rfl]
    by_cases c : K < 0
    · rw [if_pos c]
    · rw [if_neg c, decide_eq_true (by omega)]
  · simp only [XO.epicycleref06_Of.j0]
    rw [if_pos trivial]
end Go.Proofs.Ythnpjjpdlihepaa.F06
end
section
namespace Go.Proofs.Ythnpjjpdlihepaa.F06
open Go Go.RowKit Go.Proofs.YthnpjjpdlihepaaW.PrintWords Go.Proofs.YthnpjjpdlihepaaW.PrintLast Go.Proofs.YthnpjjpdlihepaaW.PrintMore Go.Proofs.Ythnpjjpdlihepaa.Given Go.Proofs.Ythnpjjpdlihepaa.M Go.Proofs.Ythnpjjpdlihepaa.Mont Go.Proofs.Ythnpjjpdlihepaa.XS Go.Proofs.Ythnpjjpdlihepaa.XT Go.Proofs.Ythnpjjpdlihepaa.XR Go.Proofs.Ythnpjjpdlihepaa.Num Go.Proofs.Ythnpjjpdlihepaa.XK
theorem evS {α : Type} {o : Option α} {r : α} (h : o = some r) : Ev (fun _ => o) r := ⟨0, fun _ _ => h⟩
theorem evB {α β : Type} {o : Option α} {f : Nat → α → Option β} {a : α} {r : β} (h : o = some a) (k : Ev (fun n => f n a) r) : Ev (fun n => o.bind (f n)) r := Ev.bind (evS h) k
variable {F : Fld}
theorem GoodFld.nat (h : GoodFld F) : ∃ P G : Nat, F.p = P ∧ F.g = G ∧ 3 ≤ P ∧ P < 9223372036854775808 ∧ P % 2 = 1 ∧ Prime P ∧ ∀ x, G ^ x % P = 1 ↔ P - 1 ∣ x := by
  have hf := h.fits
  unfold XR.fits at hf
  have ho := h.ord
  refine ⟨F.p.toNat, F.g.toNat, by omega, by omega, by omega, by omega, by omega, ho.prime, ho.2⟩
theorem GoodFld.lo (h : GoodFld F) : 3 ≤ F.p := h.m.2.1
theorem GoodFld.hi (h : GoodFld F) : F.p < 9223372036854775808 := h.m.2.2
theorem GoodFld.uP (h : GoodFld F) : U F.p := ⟨by have := h.lo; omega, by have := h.hi; omega⟩
theorem GoodFld.ne (h : GoodFld F) : F.p ≠ 0 := by have := h.lo; omega
theorem GoodFld.uE (h : GoodFld F) (x : Int) : U (x % F.p) := U_emod x h.uP h.ne
theorem GoodFld.one (h : GoodFld F) : (1 : Int) % F.p = 1 := Int.emod_eq_of_lt (by omega) (by have := h.lo; omega)
theorem ncast_pow_mod (G P n : Nat) : (G : Int) ^ n % (P : Int) = ((G ^ n % P : Nat) : Int) := by
  rw [Int.natCast_emod, Int.natCast_pow]
theorem GoodFld.euclid (h : GoodFld F) {a b : Int} (e : a * b % F.p = 0) : a % F.p = 0 ∨ b % F.p = 0 := by
  obtain ⟨P, G, e1, _, _, _, _, hp, _⟩ := h.nat
  rw [e1] at e ⊢
  rcases hp.int (Int.dvd_of_emod_eq_zero e) with d | d
  · exact .inl (Int.emod_eq_zero_of_dvd d)
  · exact .inr (Int.emod_eq_zero_of_dvd d)
theorem GoodFld.fermat (h : GoodFld F) {a : Int} (ha : a % F.p ≠ 0) : a ^ (F.p - 1).toNat % F.p = 1 := by
  obtain ⟨P, G, e1, _, h3, _, _, hp, _⟩ := h.nat
  have hlo := h.lo
  rw [← emod_pow]
  obtain ⟨A, hA⟩ : ∃ A : Nat, a % F.p = A := ⟨(a % F.p).toNat, by have := Int.emod_nonneg a h.ne; omega⟩
  have hlt := Int.emod_lt_of_pos a (show 0 < F.p by omega)
  rw [hA] at ha hlt ⊢
  rw [e1] at hlt ⊢
  rw [show ((P : Int) - 1).toNat = P - 1 by omega, ncast_pow_mod, hp.fermat (by rw [Nat.mod_eq_of_lt (by omega)]; omega)]
  rfl
def rootI (F : Fld) (n : Int) : Int := F.g ^ ((F.p - 1) / n).toNat % F.p
theorem Root_at (F : Fld) {n : Int} (hb : n < 9223372036854775808) (hn : 0 < n) (hd : (F.p - 1) % n = 0) : field_Field_Root.f [F] n = some (rootI F n, 0) := by
  unfold field_Field_Root.f
  rw [if_pos hb]
  show some (if _ then _ else _) = _
  rw [if_pos ⟨hn, hd⟩]
  rfl
theorem gen17 {g : Int} (h : Ev (fun k => epicycleref05_Generator.f k 17) g) : g = 3 :=
  Ev.unique h (Ev.of (g := fun k => epicycleref05_Generator.f k 17) (fun k => epicycleref05_Generator.mono 17 k) (k := 60) (by kernel_rfl))
theorem prime17 : Prime 17 := ⟨by decide, fun d hd => by
  have := Nat.le_of_dvd (by decide) hd
  have : ∀ d : Nat, d ≤ 17 → d ∣ 17 → d = 1 ∨ d = 17 := by decide
  exact this d (by omega) hd⟩
theorem small17 : ∃ F, Ev (fun k => field_Small.f k 17) ([F], 0) ∧ F.p = 17 ∧ F.g = 3 ∧ GoodFld F := by
  obtain ⟨F, h1, h2, h3, h4⟩ := small_odd (x := 17) ⟨by decide, by decide, prime17⟩
  exact ⟨F, h1, h3, gen17 h2, h4⟩
end Go.Proofs.Ythnpjjpdlihepaa.F06
end
section
namespace Go.Proofs.Ythnpjjpdlihepaa.XF
open Go.RowKit Go.Proofs.Ythnpjjpdlihepaa.Given Go.Proofs.Ythnpjjpdlihepaa.Row05 Go.Proofs.Ythnpjjpdlihepaa.XS Go.Proofs.Ythnpjjpdlihepaa.XT Go.Proofs.Ythnpjjpdlihepaa.XR Go.Proofs.Ythnpjjpdlihepaa.F06 Go.Proofs.Ythnpjjpdlihepaa.XK Go.Proofs.YthnpjjpdlihepaaW.PrintWords Go.Proofs.YthnpjjpdlihepaaW.PrintLast Go.Proofs.YthnpjjpdlihepaaW.PrintMore
attribute [local go_sem] max2_int min2_int max_two min_two max_three min_three max_four min_four   -- for this text's walks alone
set_option linter.unusedVariables false
set_option linter.unusedSimpArgs false
noncomputable def epicyclelaw06_alive.f (k : Nat)  : Option (Bool) := (field_Small.f k 17).bind fun bt101 => ((field_Field_Root.f bt101.1 4).bind fun bt105 => (if bt101.2 = 0 then (if bt105.2 = 0 then ((field_Field_G.f bt101.1).bind fun t107 => (if t107 = 3 then (if bt105.1 = 13 then ((field_Field_Mul.f bt101.1 bt105.1 bt105.1).bind fun t108 => (some (t108 == 16))) else (some false)) else (some false))) else (some false)) else (some false)))
set_option maxHeartbeats 8000000 in
set_option maxRecDepth 100000 in
theorem epicyclelaw06_alive.calls (k : Nat)  (r : Bool) (w : World) (h : epicyclelaw06_alive.f k  = some r) :
  Calls Try.prog 12 #[] w fun e w' => e = .returned (.bool r) ∧ Below w.heap.size w w' := by
 have HB := Aside0.mk (Below.refl w.heap.size w)
 have H : ((field_Small.f k 17).bind fun bt101 => ((field_Field_Root.f bt101.1 4).bind fun bt105 => (if bt101.2 = 0 then (if bt105.2 = 0 then ((field_Field_G.f bt101.1).bind fun t107 => (if t107 = 3 then (if bt105.1 = 13 then ((field_Field_Mul.f bt101.1 bt105.1 bt105.1).bind fun t108 => (some (t108 == 16))) else (some false)) else (some false))) else (some false)) else (some false)))) = some r := h
 clear h
 replace H := Option.bind_eq_some_iff.mp H
 obtain ⟨⟨t101, t102⟩, A10, H⟩ := H
 replace H : ((field_Field_Root.f t101 4).bind fun bt105 => (if t102 = 0 then (if bt105.2 = 0 then ((field_Field_G.f t101).bind fun t107 => (if t107 = 3 then (if bt105.1 = 13 then ((field_Field_Mul.f t101 bt105.1 bt105.1).bind fun t108 => (some (t108 == 16))) else (some false)) else (some false))) else (some false)) else (some false))) = some r := H
 have A1 := Aside0.mk A10
 clear A10
 replace H := Option.bind_eq_some_iff.mp H
 obtain ⟨⟨t105, t106⟩, A20, H⟩ := H
 replace H : (if t102 = 0 then (if t106 = 0 then ((field_Field_G.f t101).bind fun t107 => (if t107 = 3 then (if t105 = 13 then ((field_Field_Mul.f t101 t105 t105).bind fun t108 => (some (t108 == 16))) else (some false)) else (some false))) else (some false)) else (some false)) = some r := H
 have A2 := Aside0.mk A20
 clear A20
 by_cases c3 : t102 = 0
 ·rw [if_pos c3] at H
  have c3b0 : (t102 == 0) = true := beq_iff_eq.mpr c3
  have c3b1 : (t102 != 0) = false := bne_eq_false_iff_eq.mpr c3
  clear c3
  by_cases c4 : t106 = 0
  ·rw [if_pos c4] at H
   have c4b0 : (t106 == 0) = true := beq_iff_eq.mpr c4
   have c4b1 : (t106 != 0) = false := bne_eq_false_iff_eq.mpr c4
   clear c4
   replace H := Option.bind_eq_some_iff.mp H
   obtain ⟨t107, A50, H⟩ := H
   replace H : (if t107 = 3 then (if t105 = 13 then ((field_Field_Mul.f t101 t105 t105).bind fun t108 => (some (t108 == 16))) else (some false)) else (some false)) = some r := H
   have A5 := Aside0.mk A50
   clear A50
   by_cases c6 : t107 = 3
   ·rw [if_pos c6] at H
    have c6b0 : (t107 == 3) = true := beq_iff_eq.mpr c6
    have c6b1 : (t107 != 3) = false := bne_eq_false_iff_eq.mpr c6
    clear c6
    by_cases c7 : t105 = 13
    ·rw [if_pos c7] at H
     have c7b0 : (t105 == 13) = true := beq_iff_eq.mpr c7
     have c7b1 : (t105 != 13) = false := bne_eq_false_iff_eq.mpr c7
     clear c7
     replace H := Option.bind_eq_some_iff.mp H
     obtain ⟨t108, A80, H⟩ := H
     replace H : (some (t108 == 16)) = some r := H
     have A8 := Aside0.mk A80
     clear A80
     obtain rfl := Option.some.inj H
     go_enter Try.func12, Try.ntmps12
     go_wp2_with (first | ((with_reducible refine gate_callee (f := 29) rfl ?_); refine goesL_ (some 6) rfl rfl Try.func29 (by kernel_rfl) rfl #[.int .u64 17] rfl (by (try simp only [List.map_toArray, List.map_cons, List.map_nil]); first | done | rfl | (simp only [List.length_drop, List.length_take]; rfl)) ?_; (with_reducible refine (field_Small.calls k 17 t101 t102 _ A1.out).mono ?_); rintro e w9 ⟨v103, rfl, ho0, hb⟩; refine ⟨_, rfl, ?_⟩; have n0_ := Aside0.mk (Kd.R_lower ho0 (below_size (by repeat (first | (with_reducible first | exact HB.out | apply below_alloc | apply pw_below_drewN | apply below_drew1) | exact HB.out)))); have n1_ := Aside0.mk (below_step (by repeat (first | (with_reducible first | exact HB.out | apply below_alloc | apply pw_below_drewN | apply below_drew1) | exact HB.out)) hb); clear HB; have HO104 := n0_; have HB := n1_; clear n0_ n1_; (try clear hb); (try clear hb2); (try clear hk); (try clear hi); (try clear ho0); obtain ⟨Ao10, co10, eo10⟩ := Kd.R_slice HO104.out; subst eo10) | ((with_reducible refine gate_callee (f := 14) rfl ?_); refine goesL_ (some 11) rfl rfl Try.func14 (by kernel_rfl) rfl #[toPtr (.slice Ao10 t101.length co10), .int .i64 4] rfl (by (try simp only [List.map_toArray, List.map_cons, List.map_nil]); first | done | (rw [hT_HO104] <;> rfl) | rfl | (simp only [List.length_drop, List.length_take]; rfl)) ?_; (with_reducible refine (field_Field_Root.calls _ _ t101 4 t105 t106 _ ?side1 ?side2 A2.out).mono ?_); (case side1 => repeat (first | exact (Kd.R_reads' HO104.out).2.2 | (with_reducible refine Kd.C_alloc ?_ _) | (with_reducible refine Kd.C_drewN ?_ _) | (with_reducible refine Kd.C_drew ?_))); (case side2 => exact (Kd.R_reads' HO104.out).2.1); rintro e w' ⟨rfl, ⟨nd, rfl⟩⟩; refine ⟨_, rfl, ?_⟩) | (go_at_call 20; (with_reducible refine (field_Field_G.calls _ _ t101 t107 _ ?side1 ?side2 A5.out).mono ?_); (case side1 => repeat (first | exact (Kd.R_reads' HO104.out).2.2 | (with_reducible refine Kd.C_alloc ?_ _) | (with_reducible refine Kd.C_drewN ?_ _) | (with_reducible refine Kd.C_drew ?_))); (case side2 => exact (Kd.R_reads' HO104.out).2.1); rintro e w' ⟨rfl, ⟨nd, rfl⟩⟩) | (go_at_call 19; (with_reducible refine (field_Field_Mul.calls _ _ t101 t105 t105 t108 _ ?side1 ?side2 A8.out).mono ?_); (case side1 => repeat (first | exact (Kd.R_reads' HO104.out).2.2 | (with_reducible refine Kd.C_alloc ?_ _) | (with_reducible refine Kd.C_drewN ?_ _) | (with_reducible refine Kd.C_drew ?_))); (case side2 => exact (Kd.R_reads' HO104.out).2.1); rintro e w' ⟨rfl, ⟨nd, rfl⟩⟩))
     go_ret
     exact ⟨by first | rfl | (simp [errW_none, errW_some] <;> rfl) | (simp [*, errW_none, errW_some] <;> rfl), by repeat (first | (with_reducible first | exact HB.out | apply below_alloc | apply pw_below_drewN | apply below_drew1) | exact HB.out)⟩
    ·rw [if_neg c7] at H
     have c7b0 : (t105 == 13) = false := beq_eq_false_iff_ne.mpr c7
     have c7b1 : (t105 != 13) = true := bne_iff_ne.mpr c7
     obtain rfl := Option.some.inj H
     go_enter Try.func12, Try.ntmps12
     go_wp2_with (first | ((with_reducible refine gate_callee (f := 29) rfl ?_); refine goesL_ (some 6) rfl rfl Try.func29 (by kernel_rfl) rfl #[.int .u64 17] rfl (by (try simp only [List.map_toArray, List.map_cons, List.map_nil]); first | done | rfl | (simp only [List.length_drop, List.length_take]; rfl)) ?_; (with_reducible refine (field_Small.calls k 17 t101 t102 _ A1.out).mono ?_); rintro e w11 ⟨v103, rfl, ho0, hb⟩; refine ⟨_, rfl, ?_⟩; have n0_ := Aside0.mk (Kd.R_lower ho0 (below_size (by repeat (first | (with_reducible first | exact HB.out | apply below_alloc | apply pw_below_drewN | apply below_drew1) | exact HB.out)))); have n1_ := Aside0.mk (below_step (by repeat (first | (with_reducible first | exact HB.out | apply below_alloc | apply pw_below_drewN | apply below_drew1) | exact HB.out)) hb); clear HB; have HO104 := n0_; have HB := n1_; clear n0_ n1_; (try clear hb); (try clear hb2); (try clear hk); (try clear hi); (try clear ho0); obtain ⟨Ao12, co12, eo12⟩ := Kd.R_slice HO104.out; subst eo12) | ((with_reducible refine gate_callee (f := 14) rfl ?_); refine goesL_ (some 11) rfl rfl Try.func14 (by kernel_rfl) rfl #[toPtr (.slice Ao12 t101.length co12), .int .i64 4] rfl (by (try simp only [List.map_toArray, List.map_cons, List.map_nil]); first | done | (rw [hT_HO104] <;> rfl) | rfl | (simp only [List.length_drop, List.length_take]; rfl)) ?_; (with_reducible refine (field_Field_Root.calls _ _ t101 4 t105 t106 _ ?side1 ?side2 A2.out).mono ?_); (case side1 => repeat (first | exact (Kd.R_reads' HO104.out).2.2 | (with_reducible refine Kd.C_alloc ?_ _) | (with_reducible refine Kd.C_drewN ?_ _) | (with_reducible refine Kd.C_drew ?_))); (case side2 => exact (Kd.R_reads' HO104.out).2.1); rintro e w' ⟨rfl, ⟨nd, rfl⟩⟩; refine ⟨_, rfl, ?_⟩) | (go_at_call 20; (with_reducible refine (field_Field_G.calls _ _ t101 t107 _ ?side1 ?side2 A5.out).mono ?_); (case side1 => repeat (first | exact (Kd.R_reads' HO104.out).2.2 | (with_reducible refine Kd.C_alloc ?_ _) | (with_reducible refine Kd.C_drewN ?_ _) | (with_reducible refine Kd.C_drew ?_))); (case side2 => exact (Kd.R_reads' HO104.out).2.1); rintro e w' ⟨rfl, ⟨nd, rfl⟩⟩))
     go_ret
     exact ⟨by first | rfl | (simp [errW_none, errW_some] <;> rfl) | (simp [*, errW_none, errW_some] <;> rfl), by repeat (first | (with_reducible first | exact HB.out | apply below_alloc | apply pw_below_drewN | apply below_drew1) | exact HB.out)⟩
   ·rw [if_neg c6] at H
    have c6b0 : (t107 == 3) = false := beq_eq_false_iff_ne.mpr c6
    have c6b1 : (t107 != 3) = true := bne_iff_ne.mpr c6
    obtain rfl := Option.some.inj H
    go_enter Try.func12, Try.ntmps12
    go_wp2_with (first | ((with_reducible refine gate_callee (f := 29) rfl ?_); refine goesL_ (some 6) rfl rfl Try.func29 (by kernel_rfl) rfl #[.int .u64 17] rfl (by (try simp only [List.map_toArray, List.map_cons, List.map_nil]); first | done | rfl | (simp only [List.length_drop, List.length_take]; rfl)) ?_; (with_reducible refine (field_Small.calls k 17 t101 t102 _ A1.out).mono ?_); rintro e w13 ⟨v103, rfl, ho0, hb⟩; refine ⟨_, rfl, ?_⟩; have n0_ := Aside0.mk (Kd.R_lower ho0 (below_size (by repeat (first | (with_reducible first | exact HB.out | apply below_alloc | apply pw_below_drewN | apply below_drew1) | exact HB.out)))); have n1_ := Aside0.mk (below_step (by repeat (first | (with_reducible first | exact HB.out | apply below_alloc | apply pw_below_drewN | apply below_drew1) | exact HB.out)) hb); clear HB; have HO104 := n0_; have HB := n1_; clear n0_ n1_; (try clear hb); (try clear hb2); (try clear hk); (try clear hi); (try clear ho0); obtain ⟨Ao14, co14, eo14⟩ := Kd.R_slice HO104.out; subst eo14) | ((with_reducible refine gate_callee (f := 14) rfl ?_); refine goesL_ (some 11) rfl rfl Try.func14 (by kernel_rfl) rfl #[toPtr (.slice Ao14 t101.length co14), .int .i64 4] rfl (by (try simp only [List.map_toArray, List.map_cons, List.map_nil]); first | done | (rw [hT_HO104] <;> rfl) | rfl | (simp only [List.length_drop, List.length_take]; rfl)) ?_; (with_reducible refine (field_Field_Root.calls _ _ t101 4 t105 t106 _ ?side1 ?side2 A2.out).mono ?_); (case side1 => repeat (first | exact (Kd.R_reads' HO104.out).2.2 | (with_reducible refine Kd.C_alloc ?_ _) | (with_reducible refine Kd.C_drewN ?_ _) | (with_reducible refine Kd.C_drew ?_))); (case side2 => exact (Kd.R_reads' HO104.out).2.1); rintro e w' ⟨rfl, ⟨nd, rfl⟩⟩; refine ⟨_, rfl, ?_⟩) | (go_at_call 20; (with_reducible refine (field_Field_G.calls _ _ t101 t107 _ ?side1 ?side2 A5.out).mono ?_); (case side1 => repeat (first | exact (Kd.R_reads' HO104.out).2.2 | (with_reducible refine Kd.C_alloc ?_ _) | (with_reducible refine Kd.C_drewN ?_ _) | (with_reducible refine Kd.C_drew ?_))); (case side2 => exact (Kd.R_reads' HO104.out).2.1); rintro e w' ⟨rfl, ⟨nd, rfl⟩⟩))
    go_ret
    exact ⟨by first | rfl | (simp [errW_none, errW_some] <;> rfl) | (simp [*, errW_none, errW_some] <;> rfl), by repeat (first | (with_reducible first | exact HB.out | apply below_alloc | apply pw_below_drewN | apply below_drew1) | exact HB.out)⟩
  ·rw [if_neg c4] at H
   have c4b0 : (t106 == 0) = false := beq_eq_false_iff_ne.mpr c4
   have c4b1 : (t106 != 0) = true := bne_iff_ne.mpr c4
   obtain rfl := Option.some.inj H
   go_enter Try.func12, Try.ntmps12
   go_wp2_with (first | ((with_reducible refine gate_callee (f := 29) rfl ?_); refine goesL_ (some 6) rfl rfl Try.func29 (by kernel_rfl) rfl #[.int .u64 17] rfl (by (try simp only [List.map_toArray, List.map_cons, List.map_nil]); first | done | rfl | (simp only [List.length_drop, List.length_take]; rfl)) ?_; (with_reducible refine (field_Small.calls k 17 t101 t102 _ A1.out).mono ?_); rintro e w15 ⟨v103, rfl, ho0, hb⟩; refine ⟨_, rfl, ?_⟩; have n0_ := Aside0.mk (Kd.R_lower ho0 (below_size (by repeat (first | (with_reducible first | exact HB.out | apply below_alloc | apply pw_below_drewN | apply below_drew1) | exact HB.out)))); have n1_ := Aside0.mk (below_step (by repeat (first | (with_reducible first | exact HB.out | apply below_alloc | apply pw_below_drewN | apply below_drew1) | exact HB.out)) hb); clear HB; have HO104 := n0_; have HB := n1_; clear n0_ n1_; (try clear hb); (try clear hb2); (try clear hk); (try clear hi); (try clear ho0); obtain ⟨Ao16, co16, eo16⟩ := Kd.R_slice HO104.out; subst eo16) | ((with_reducible refine gate_callee (f := 14) rfl ?_); refine goesL_ (some 11) rfl rfl Try.func14 (by kernel_rfl) rfl #[toPtr (.slice Ao16 t101.length co16), .int .i64 4] rfl (by (try simp only [List.map_toArray, List.map_cons, List.map_nil]); first | done | (rw [hT_HO104] <;> rfl) | rfl | (simp only [List.length_drop, List.length_take]; rfl)) ?_; (with_reducible refine (field_Field_Root.calls _ _ t101 4 t105 t106 _ ?side1 ?side2 A2.out).mono ?_); (case side1 => repeat (first | exact (Kd.R_reads' HO104.out).2.2 | (with_reducible refine Kd.C_alloc ?_ _) | (with_reducible refine Kd.C_drewN ?_ _) | (with_reducible refine Kd.C_drew ?_))); (case side2 => exact (Kd.R_reads' HO104.out).2.1); rintro e w' ⟨rfl, ⟨nd, rfl⟩⟩; refine ⟨_, rfl, ?_⟩))
   go_ret
   exact ⟨by first | rfl | (simp [errW_none, errW_some] <;> rfl) | (simp [*, errW_none, errW_some] <;> rfl), by repeat (first | (with_reducible first | exact HB.out | apply below_alloc | apply pw_below_drewN | apply below_drew1) | exact HB.out)⟩
 ·rw [if_neg c3] at H
  have c3b0 : (t102 == 0) = false := beq_eq_false_iff_ne.mpr c3
  have c3b1 : (t102 != 0) = true := bne_iff_ne.mpr c3
  obtain rfl := Option.some.inj H
  go_enter Try.func12, Try.ntmps12
  go_wp2_with (first | ((with_reducible refine gate_callee (f := 29) rfl ?_); refine goesL_ (some 6) rfl rfl Try.func29 (by kernel_rfl) rfl #[.int .u64 17] rfl (by (try simp only [List.map_toArray, List.map_cons, List.map_nil]); first | done | rfl | (simp only [List.length_drop, List.length_take]; rfl)) ?_; (with_reducible refine (field_Small.calls k 17 t101 t102 _ A1.out).mono ?_); rintro e w17 ⟨v103, rfl, ho0, hb⟩; refine ⟨_, rfl, ?_⟩; have n0_ := Aside0.mk (Kd.R_lower ho0 (below_size (by repeat (first | (with_reducible first | exact HB.out | apply below_alloc | apply pw_below_drewN | apply below_drew1) | exact HB.out)))); have n1_ := Aside0.mk (below_step (by repeat (first | (with_reducible first | exact HB.out | apply below_alloc | apply pw_below_drewN | apply below_drew1) | exact HB.out)) hb); clear HB; have HO104 := n0_; have HB := n1_; clear n0_ n1_; (try clear hb); (try clear hb2); (try clear hk); (try clear hi); (try clear ho0); obtain ⟨Ao18, co18, eo18⟩ := Kd.R_slice HO104.out; subst eo18) | ((with_reducible refine gate_callee (f := 14) rfl ?_); refine goesL_ (some 11) rfl rfl Try.func14 (by kernel_rfl) rfl #[toPtr (.slice Ao18 t101.length co18), .int .i64 4] rfl (by (try simp only [List.map_toArray, List.map_cons, List.map_nil]); first | done | (rw [hT_HO104] <;> rfl) | rfl | (simp only [List.length_drop, List.length_take]; rfl)) ?_; (with_reducible refine (field_Field_Root.calls _ _ t101 4 t105 t106 _ ?side1 ?side2 A2.out).mono ?_); (case side1 => repeat (first | exact (Kd.R_reads' HO104.out).2.2 | (with_reducible refine Kd.C_alloc ?_ _) | (with_reducible refine Kd.C_drewN ?_ _) | (with_reducible refine Kd.C_drew ?_))); (case side2 => exact (Kd.R_reads' HO104.out).2.1); rintro e w' ⟨rfl, ⟨nd, rfl⟩⟩; refine ⟨_, rfl, ?_⟩))
  go_ret
  exact ⟨by first | rfl | (simp [errW_none, errW_some] <;> rfl) | (simp [*, errW_none, errW_some] <;> rfl), by repeat (first | (with_reducible first | exact HB.out | apply below_alloc | apply pw_below_drewN | apply below_drew1) | exact HB.out)⟩
mutual
noncomputable def epicyclelaw06_rows.l0 : Nat → List (S67) → List (S52) → Int → Int → Option ((List (S67)))
 | 0, _, _, _, _ => none
 | k + 1, x3, x9, x10, x11 => if x11 < x10 then (if 0 ≤ x11 then (if x11 < (x9.length : Int) then (epicyclelaw06_rows.l1 k x3 ([] : List (S65)) x9 x10 x11 ((rd_T52 x9 x11).f2) (((rd_T52 x9 x11).f2).length : Int) 0 ((rd_T52 x9 x11).f0) ((rd_T52 x9 x11).f1) ((rd_T52 x9 x11).f2)) else (none)) else (none)) else (some x3)
noncomputable def epicyclelaw06_rows.l1 : Nat → List (S67) → List (S65) → List (S52) → Int → Int → List (S89) → Int → Int → Int → Int → List (S89) → Option ((List (S67)))
 | 0, _, _, _, _, _, _, _, _, _, _, _ => none
 | k + 1, x3, x6, x9, x10, x11, x16, x17, x18, x111000, x111001, x111002 => if x18 < x17 then (if 0 ≤ x18 then (if x18 < (x16.length : Int) then (if x6.length < 8796093022208 then (epicyclelaw06_rows.l1 k x3 (x6 ++ [(⟨(rd_T89 x16 x18).f0, (rd_T89 x16 x18).f1⟩ : S65)]) x9 x10 x11 x16 x17 (wrap64 (x18 + 1)) x111000 x111001 x111002) else (none)) else (none)) else (none)) else (if x3.length < 3518437208883 then (epicyclelaw06_rows.l0 k (x3 ++ [(⟨x111000, x111001, x6⟩ : S67)]) x9 x10 (wrap64 (x11 + 1))) else (none))
end
noncomputable def epicyclelaw06_rows.f (k : Nat) (l0 : List (S52)) : Option ((List (S67))) := epicyclelaw06_rows.l0 k ([] : List (S67)) l0 (l0.length : Int) 0
set_option maxHeartbeats 8000000 in
set_option maxRecDepth 100000 in
theorem epicyclelaw06_rows.calls (k : Nat) (A0 : Option Addr) (c0 : Nat) (l0 : List (S52)) (r : List (S67)) (w : World) (hr0 : Kd.C k52 w A0 l0.length l0) (hc0 : l0.length ≤ c0) (h : epicyclelaw06_rows.f k l0 = some r) :
  Calls Try.prog 32 #[.slice A0 l0.length c0] w fun e w' => ∃ v0_ : Value, e = .returned (v0_) ∧ Kd.S k67 67 w' w.heap.size (fun _ => True) v0_ r ∧ Below w.heap.size w w' := by
 have hu52 := Try.underlying52
 have hu89 := Try.underlying89
 have hu67 := Try.underlying67
 have HR0 := Aside0.mk hr0
 have HC0 := Aside0.mk hc0
 clear hr0 hc0
 have HB := Aside0.mk (Below.refl w.heap.size w)
 have H : (epicyclelaw06_rows.l0 k ([] : List (S67)) l0 (l0.length : Int) 0) = some r := h
 clear h
 have H' := Aside0.mk H
 clear H
 go_enter Try.func32, Try.ntmps32
 go_wp2
 go_loopg [3, 11] k (fun kq v3 v11 w' => ∃ (x3_1 : List (S67)) (x11_1 : Int), v11 = .int .i64 x11_1 ∧ Aside0 (epicyclelaw06_rows.l0 kq x3_1 l0 (l0.length : Int) x11_1 = some r) ∧ Aside0 (kq ≤ k) ∧ Aside0 (Kd.S k67 67 w' w.heap.size (fun _ => True) v3 x3_1) ∧ Aside0 (Below w.heap.size w w'))
 case atStart => exact ⟨(([] : List (S67))), (0), (by first | rfl | (simp; done) | (simp [*]; done)), H', ⟨Nat.le_refl _⟩, ⟨by first | exact Kd.S_nil _ _ _ _ _ | exact Kd.N_nil _ _ _ _ _ | exact Kd.V_nil _ _ _ _ _ | exact Kd.Q_nil _ _ _ _ _ | exact Kd.R_nil _ _ _ _ _⟩, ⟨by repeat (first | (with_reducible first | exact HB.out | apply below_alloc | apply pw_below_drewN | apply below_drew1) | exact HB.out)⟩⟩
 case round =>
  clear H'
  obtain ⟨x3_1, x11_1, rfl, HA, HK1, HO_3, HB⟩ := hrel
  cases gk with
  | zero => exact absurd HA.out (by simp [epicyclelaw06_rows.l0])
  | succ k1 =>
   have H := HA.out
   clear HA
   simp only [epicyclelaw06_rows.l0] at H
   by_cases c2 : x11_1 < (l0.length : Int)
   ·rw [if_pos c2] at H
    have c2b0 : decide (x11_1 < (l0.length : Int)) = true := decide_eq_true c2
    clear c2
    by_cases c3 : 0 ≤ x11_1
    ·rw [if_pos c3] at H
     have c3b0 : decide (0 ≤ x11_1) = true := decide_eq_true c3
     clear c3
     by_cases c4 : x11_1 < (l0.length : Int)
     ·rw [if_pos c4] at H
      have c4b0 : decide (x11_1 < (l0.length : Int)) = true := decide_eq_true c4
      clear c4
      have H' := Aside0.mk H
      clear H
      have p109 : 0 ≤ (x11_1 : Int) := of_decide_eq_true (by first | (with_reducible assumption) | assumption)
      have q109 : x11_1 < (l0.length : Int) := of_decide_eq_true (by first | (with_reducible assumption) | assumption)
      obtain ⟨ad109, A109_2, c109_2, e109, hx109_0, hx109_1, hx109_2, hl109_2, hi109_2⟩ := at_T52 HR0.out x11_1 p109 q109
      cases e109
      replace hx109_0 := (HB.out.cell (World.block_lt_of_cell? w _ hx109_0)).trans hx109_0
      replace hx109_1 := (HB.out.cell (World.block_lt_of_cell? w _ hx109_1)).trans hx109_1
      replace hx109_2 := (HB.out.cell (World.block_lt_of_cell? w _ hx109_2)).trans hx109_2
      have HR109_2 := Aside0.mk hi109_2
      have HC109_2 := Aside0.mk hl109_2
      clear hi109_2 hl109_2
      replace p109 := eq_true p109
      replace q109 := eq_true q109
      go_wp2_with (first | ((with_reducible refine gate_dst (N := 5) rfl ?_); refine box_event ?hg (N := 5) ?hd (cs := #[.int .u64 0, .int .u64 0, .slice none 0 0]) (t := 52) ?hr ?_; (case hd => rfl); (case hg => rfl); (case hr => first | (go_simp; done) | (go_simp; rfl)); intro gb110 hg w5 hbox hb; have n0_ := Aside0.mk (Kd.S_below (by (with_reducible repeat (first | apply Kd.S_alloc | apply Kd.S_drewN | apply Kd.S_drew)); exact HO_3.out) hb); have n1_ := Aside0.mk (below_step (by repeat (first | (with_reducible first | exact HB.out | apply below_alloc | apply pw_below_drewN | apply below_drew1) | exact HB.out)) hb); have n2_ := Aside0.mk (hbox); have n3_ := Aside0.mk ((by rw [hg]; exact (below_size (by repeat (first | (with_reducible first | exact HB.out | apply below_alloc | apply pw_below_drewN | apply below_drew1) | exact HB.out))) : w.heap.size ≤ gb110)); have n4_ := Aside0.mk ((by rw [hg]; exact (below_size (by repeat (first | (with_reducible first | exact HB.out | apply below_alloc | apply pw_below_drewN | apply below_drew1) | exact HB.out))) : w.heap.size ≤ gb110)); clear HO_3; clear HB; have HO_3 := n0_; have HB := n1_; have BK110 := n2_; have GW110 := n3_; have GE110 := n4_; clear n0_ n1_ n2_ n3_ n4_; clear hb hbox hg; have hcz6_0 : w5.cell? ⟨gb110, 0, none⟩ = some (.int .u64 0) := (blk_cell BK110.out 0).trans rfl; have hcz6_1 : w5.cell? ⟨gb110, 1, none⟩ = some (.int .u64 0) := (blk_cell BK110.out 1).trans rfl; have hcz6_2 : w5.cell? ⟨gb110, 2, none⟩ = some (.slice none 0 0) := (blk_cell BK110.out 2).trans rfl; have hfz6_0 := blk_frozen BK110.out 0; have hfz6_1 := blk_frozen BK110.out 1; have hfz6_2 := blk_frozen BK110.out 2))
      go_loopg [6, 18] k1 (fun kq v6 v18 w' => ∃ (x6_2 : List (S65)) (x18_2 : Int), v18 = .int .i64 x18_2 ∧ Aside0 (epicyclelaw06_rows.l1 kq x3_1 x6_2 l0 (l0.length : Int) x11_1 ((rd_T52 l0 x11_1).f2) (((rd_T52 l0 x11_1).f2).length : Int) x18_2 ((rd_T52 l0 x11_1).f0) ((rd_T52 l0 x11_1).f1) ((rd_T52 l0 x11_1).f2) = some r) ∧ Aside0 (kq ≤ k1) ∧ Aside0 (Kd.S k67 67 w' w.heap.size (fun k_ => some k_ ≠ (v6 : Value).ownBlock) u3 x3_1) ∧ Aside0 (Kd.R k65 65 w' w.heap.size (fun _ => True) v6 x6_2) ∧ Aside0 (w'.heap[gb110]? = some (.cells #[.int .u64 ((rd_T52 l0 x11_1).f0), .int .u64 ((rd_T52 l0 x11_1).f1), (.slice A109_2 ((rd_T52 l0 x11_1).f2).length c109_2)] 52 (0, 0))) ∧ Aside0 (Below w.heap.size w w'))
      case atStart => exact ⟨(([] : List (S65))), (0), (by first | rfl | (simp; done) | (simp [*]; done)), H', ⟨Nat.le_refl _⟩, ⟨by (with_reducible repeat (first | apply Kd.S_alloc | apply Kd.S_drewN | apply Kd.S_drew)); exact Kd.S_mono (Kd.S_far (p := ⟨gb110, 2, none⟩) (Kd.S_far (p := ⟨gb110, 1, none⟩) (Kd.S_far (p := ⟨gb110, 0, none⟩) (Kd.S_types HO_3.out BK110.out (by decide)) (fun _ hk => hk.2) (.int .u64 ((rd_T52 l0 x11_1).f0))) (fun _ hk => hk.2) (.int .u64 ((rd_T52 l0 x11_1).f1))) (fun _ hk => hk.2) (.slice A109_2 ((rd_T52 l0 x11_1).f2).length c109_2)) (fun _ hk => (by simp [Value.ownBlock]))⟩, ⟨by first | exact Kd.R_nil _ _ _ _ _ | exact Kd.N_nil _ _ _ _ _ | exact Kd.V_nil _ _ _ _ _ | exact Kd.Q_nil _ _ _ _ _ | exact Kd.S_nil _ _ _ _ _⟩, ⟨by (with_reducible repeat (first | refine blk_drewN ?_ _ | refine blk_drew ?_ | refine blk_alloc ?_ _)); refine blk_put (cs := #[.int .u64 ((rd_T52 l0 x11_1).f0), .int .u64 ((rd_T52 l0 x11_1).f1), .slice none 0 0]) ?_ 2 _ rfl; (with_reducible repeat (first | refine blk_drewN ?_ _ | refine blk_drew ?_ | refine blk_alloc ?_ _)); refine blk_put (cs := #[.int .u64 ((rd_T52 l0 x11_1).f0), .int .u64 0, .slice none 0 0]) ?_ 1 _ rfl; (with_reducible repeat (first | refine blk_drewN ?_ _ | refine blk_drew ?_ | refine blk_alloc ?_ _)); refine blk_put (cs := #[.int .u64 0, .int .u64 0, .slice none 0 0]) ?_ 0 _ rfl; (with_reducible repeat (first | refine blk_drewN ?_ _ | refine blk_drew ?_ | refine blk_alloc ?_ _)); exact BK110.out⟩, ⟨by repeat (first | (with_reducible first | exact HB.out | apply below_alloc | apply pw_below_drewN | apply below_drew1 | refine below_set ?_ GE110.out) | exact HB.out)⟩⟩
      case round =>
       clear H'
       try clear c1
       try clear p1
       try clear q1
       try clear hx1
       try clear c2
       try clear c2b0
       try clear p2
       try clear c3
       try clear c3b0
       try clear c4
       try clear c4b0
       try clear hcz6_0
       try clear hcz6_1
       try clear hcz6_2
       try clear hfz6_0
       try clear hfz6_1
       try clear hfz6_2
       try clear hx109_0
       try clear hx109_1
       try clear hx109_2
       try clear p109
       try clear q109
       obtain ⟨x6_2, x18_2, rfl, HA, HK2, HO_3, HO_6, BK110, HB⟩ := hrel
       cases gk with
       | zero => exact absurd HA.out (by simp [epicyclelaw06_rows.l1])
       | succ k2 =>
        have H := HA.out
        clear HA
        simp only [epicyclelaw06_rows.l1] at H
        by_cases c7 : x18_2 < (((rd_T52 l0 x11_1).f2).length : Int)
        ·rw [if_pos c7] at H
         have c7b0 : decide (x18_2 < (((rd_T52 l0 x11_1).f2).length : Int)) = true := decide_eq_true c7
         clear c7
         by_cases c8 : 0 ≤ x18_2
         ·rw [if_pos c8] at H
          have c8b0 : decide (0 ≤ x18_2) = true := decide_eq_true c8
          clear c8
          by_cases c9 : x18_2 < (((rd_T52 l0 x11_1).f2).length : Int)
          ·rw [if_pos c9] at H
           have c9b0 : decide (x18_2 < (((rd_T52 l0 x11_1).f2).length : Int)) = true := decide_eq_true c9
           clear c9
           by_cases c10 : x6_2.length < 8796093022208
           ·rw [if_pos c10] at H
            have LMc10 := Aside0.mk c10
            clear c10
            obtain ⟨y113, hy113⟩ : ∃ y_ : List (S65), y_ = (x6_2 ++ [(⟨(rd_T89 ((rd_T52 l0 x11_1).f2) x18_2).f0, (rd_T89 ((rd_T52 l0 x11_1).f2) x18_2).f1⟩ : S65)]) := ⟨_, rfl⟩
            replace H : (epicyclelaw06_rows.l1 k2 x3_1 y113 l0 (l0.length : Int) x11_1 ((rd_T52 l0 x11_1).f2) (((rd_T52 l0 x11_1).f2).length : Int) (wrap64 (x18_2 + 1)) ((rd_T52 l0 x11_1).f0) ((rd_T52 l0 x11_1).f1) ((rd_T52 l0 x11_1).f2)) = some r := by first | (rw [hy113]; with_reducible exact H) | (have H2_ := (Option.bind_some _ _).symm.trans H; rw [hy113]; with_reducible exact H2_) | (have H2_ := (Option.bind_some _ _).symm.trans H; with_reducible exact H2_) | with_reducible exact H | (rw [hy113]; exact H) | exact H
            have Ny113 := Aside0.mk hy113
            clear hy113
            have H' := Aside0.mk H
            clear H
            have p111 : 0 ≤ (x18_2 : Int) := of_decide_eq_true (by first | (with_reducible assumption) | assumption)
            have q111 : x18_2 < (((rd_T52 l0 x11_1).f2).length : Int) := of_decide_eq_true (by first | (with_reducible assumption) | assumption)
            obtain ⟨ad111, e111, hx111_0, hx111_1⟩ := at_T89 HR109_2.out x18_2 p111 q111
            cases e111
            replace hx111_0 := (HB.out.cell (World.block_lt_of_cell? w _ hx111_0)).trans hx111_0
            replace hx111_1 := (HB.out.cell (World.block_lt_of_cell? w _ hx111_1)).trans hx111_1
            replace p111 := eq_true p111
            replace q111 := eq_true q111
            go_wp2_with (first | ((with_reducible refine gate_dst (N := 8) rfl ?_); refine box_event ?hg (N := 8) ?hd (cs := #[.int .u64 0, .int .i64 0]) (t := 89) ?hr ?_; (case hd => rfl); (case hg => rfl); (case hr => first | (go_simp; done) | (go_simp; rfl)); intro gb112 hg w11 hbox hb; have n0_ := Aside0.mk (Kd.S_below (by (with_reducible repeat (first | apply Kd.S_alloc | apply Kd.S_drewN | apply Kd.S_drew)); exact HO_3.out) hb); have n1_ := Aside0.mk (Kd.R_below (by (with_reducible repeat (first | apply Kd.R_alloc | apply Kd.R_drewN | apply Kd.R_drew)); exact HO_6.out) hb); have n2_ := Aside0.mk (blk_below (g := gb110) (o := .cells #[.int .u64 ((rd_T52 l0 x11_1).f0), .int .u64 ((rd_T52 l0 x11_1).f1), .slice (some ad111) ((rd_T52 l0 x11_1).f2).length c109_2] 52 (0, 0)) (by (with_reducible repeat (first | refine blk_drewN ?_ _ | refine blk_drew ?_ | refine blk_alloc ?_ _)); exact BK110.out) hb); have n3_ := Aside0.mk (below_step (by repeat (first | (with_reducible first | exact HB.out | apply below_alloc | apply pw_below_drewN | apply below_drew1 | refine below_set ?_ GE110.out) | exact HB.out)) hb); have n4_ := Aside0.mk (hbox); have n5_ := Aside0.mk ((by rw [hg]; exact (below_size (by repeat (first | (with_reducible first | exact HB.out | apply below_alloc | apply pw_below_drewN | apply below_drew1 | refine below_set ?_ GE110.out) | exact HB.out))) : w.heap.size ≤ gb112)); have n6_ := Aside0.mk ((by rw [hg]; exact (below_size (by repeat (first | (with_reducible first | exact HB.out | apply below_alloc | apply pw_below_drewN | apply below_drew1 | refine below_set ?_ GE110.out) | exact HB.out))) : w.heap.size ≤ gb112)); have n7_ := Aside0.mk ((by rw [hg]; exact Nat.ne_of_lt (blk_lt (g := gb110) (o := .cells #[.int .u64 ((rd_T52 l0 x11_1).f0), .int .u64 ((rd_T52 l0 x11_1).f1), .slice (some ad111) ((rd_T52 l0 x11_1).f2).length c109_2] 52 (0, 0)) (by (with_reducible repeat (first | refine blk_drewN ?_ _ | refine blk_drew ?_ | refine blk_alloc ?_ _)); exact BK110.out)) : gb110 ≠ gb112)); have n8_ := Aside0.mk ((by rw [hg]; exact Nat.ne_of_gt (blk_lt (g := gb110) (o := .cells #[.int .u64 ((rd_T52 l0 x11_1).f0), .int .u64 ((rd_T52 l0 x11_1).f1), .slice (some ad111) ((rd_T52 l0 x11_1).f2).length c109_2] 52 (0, 0)) (by (with_reducible repeat (first | refine blk_drewN ?_ _ | refine blk_drew ?_ | refine blk_alloc ?_ _)); exact BK110.out)) : gb112 ≠ gb110)); clear HO_3; clear HO_6; clear BK110; clear HB; have HO_3 := n0_; have HO_6 := n1_; have BK110 := n2_; have HB := n3_; have BK112 := n4_; have GW112 := n5_; have GE112 := n6_; have NB110_112 := n7_; have NB112_110 := n8_; clear n0_ n1_ n2_ n3_ n4_ n5_ n6_ n7_ n8_; clear hb hbox hg; have hnb12 := NB112_110.out; have hnc12 := NB110_112.out; have hcz13_0 : w11.cell? ⟨gb112, 0, none⟩ = some (.int .u64 0) := (blk_cell BK112.out 0).trans rfl; have hcz13_1 : w11.cell? ⟨gb112, 1, none⟩ = some (.int .i64 0) := (blk_cell BK112.out 1).trans rfl; have hfz13_0 := blk_frozen BK112.out 0; have hfz13_1 := blk_frozen BK112.out 1) | ((with_reducible refine gate_builtin (b := .append) (xs := #[.tmp 22, .tmp 24]) rfl ?_); at_builtin; refine Kd.R_append k65 (w0 := w) w.heap.size rfl (.tmp 22) (.tmp 24) 62 65 (.agg #[(.int .u64 0), (.int .i64 0)]) 16 rfl Try.underlying62 info65 rfl (by decide) (by omega) u6 x6_2 (⟨(rd_T89 ((rd_T52 l0 x11_1).f2) x18_2).f0, (rd_T89 ((rd_T52 l0 x11_1).f2) x18_2).f1⟩ : S65) [.int .u64 ((rd_T89 ((rd_T52 l0 x11_1).f2) x18_2).f0), .int .i64 ((rd_T89 ((rd_T52 l0 x11_1).f2) x18_2).f1)] (fun _ => True) (fun _ => False) rfl (by first | (go_simp; done) | (go_simp; rfl)) ?aP (fun _ hk => hk.elim) ?aF ?aO ?aB ?aS ?aL ?_; (case aP => exact k65_mkM _ _ _ (⟨(rd_T89 ((rd_T52 l0 x11_1).f2) x18_2).f0, (rd_T89 ((rd_T52 l0 x11_1).f2) x18_2).f1⟩ : S65)); (case aB => exact (by repeat (first | (with_reducible first | exact HB.out | apply below_alloc | apply pw_below_drewN | apply below_drew1 | refine below_set ?_ GE110.out | refine below_set ?_ GE112.out) | exact HB.out))); (case aF => exact (fun _ _ => trivial)); (case aO => exact (by (with_reducible repeat (first | apply Kd.R_alloc | apply Kd.R_drewN | apply Kd.R_drew)); exact Kd.R_mono (Kd.R_far (p := ⟨gb112, 1, none⟩) (Kd.R_far (p := ⟨gb112, 0, none⟩) (Kd.R_types HO_6.out BK112.out (by decide)) (fun _ hk => hk.2) (.int .u64 ((rd_T89 ((rd_T52 l0 x11_1).f2) x18_2).f0))) (fun _ hk => hk.2) (.int .i64 ((rd_T89 ((rd_T52 l0 x11_1).f2) x18_2).f1))) (fun _ hk => trivial))); (case aS => exact (below_size (by repeat (first | (with_reducible first | exact HB.out | apply below_alloc | apply pw_below_drewN | apply below_drew1 | refine below_set ?_ GE110.out | refine below_set ?_ GE112.out) | exact HB.out)))); (case aL => have := LMc10.out; omega); intro v114 w14 ho hb hg hat; rw [← Ny113.out] at ho; have n0_ := Aside0.mk (Kd.S_after (ok := (fun _ => True)) (by (with_reducible repeat (first | apply Kd.S_alloc | apply Kd.S_drewN | apply Kd.S_drew)); exact Kd.S_mono (Kd.S_far (p := ⟨gb112, 1, none⟩) (Kd.S_far (p := ⟨gb112, 0, none⟩) (Kd.S_types HO_3.out BK112.out (by decide)) (fun _ hk => hk.2) (.int .u64 ((rd_T89 ((rd_T52 l0 x11_1).f2) x18_2).f0))) (fun _ hk => hk.2) (.int .i64 ((rd_T89 ((rd_T52 l0 x11_1).f2) x18_2).f1))) (fun _ hk => ⟨trivial, hk.1⟩)) hg hat); have n1_ := Aside0.mk (blk_grown (g := gb110) (o := .cells #[.int .u64 ((rd_T52 l0 x11_1).f0), .int .u64 ((rd_T52 l0 x11_1).f1), .slice (some ad111) ((rd_T52 l0 x11_1).f2).length c109_2] 52 (0, 0)) (by (with_reducible repeat (first | refine blk_drewN ?_ _ | refine blk_drew ?_ | refine blk_alloc ?_ _)); refine blk_far ?_ NB110_112.out _; (with_reducible repeat (first | refine blk_drewN ?_ _ | refine blk_drew ?_ | refine blk_alloc ?_ _)); refine blk_far ?_ NB110_112.out _; (with_reducible repeat (first | refine blk_drewN ?_ _ | refine blk_drew ?_ | refine blk_alloc ?_ _)); exact BK110.out) hg (Kd.R_ne HO_6.out BK110.out (by decide))); have n2_ := Aside0.mk (blk_grown (g := gb112) (o := .cells #[.int .u64 ((rd_T89 ((rd_T52 l0 x11_1).f2) x18_2).f0), .int .i64 ((rd_T89 ((rd_T52 l0 x11_1).f2) x18_2).f1)] 89 (0, 0)) (by (with_reducible repeat (first | refine blk_drewN ?_ _ | refine blk_drew ?_ | refine blk_alloc ?_ _)); refine blk_put (cs := #[.int .u64 ((rd_T89 ((rd_T52 l0 x11_1).f2) x18_2).f0), .int .i64 0]) ?_ 1 _ rfl; (with_reducible repeat (first | refine blk_drewN ?_ _ | refine blk_drew ?_ | refine blk_alloc ?_ _)); refine blk_put (cs := #[.int .u64 0, .int .i64 0]) ?_ 0 _ rfl; (with_reducible repeat (first | refine blk_drewN ?_ _ | refine blk_drew ?_ | refine blk_alloc ?_ _)); exact BK112.out) hg (Kd.R_ne HO_6.out BK112.out (by decide))); have n3_ := Aside0.mk (hb); have n4_ := Aside0.mk (ho); clear HO_3; clear BK110; clear BK112; clear HB; clear HO_6; have HO_3 := n0_; have BK110 := n1_; have BK112 := n2_; have HB := n3_; have HO115 := n4_; clear n0_ n1_ n2_ n3_ n4_; clear ho hb hg hat))
            go_roundg k2
            case measure => have := HK1.out; have := HK2.out; omega
            case rel => exact ⟨(y113), (wrap64 (x18_2 + 1)), (by first | rfl | (simp; done) | (simp [*]; done)), H', ⟨by have := HK1.out; have := HK2.out; omega⟩, ⟨by (with_reducible repeat (first | apply Kd.S_alloc | apply Kd.S_drewN | apply Kd.S_drew)); exact Kd.S_mono HO_3.out (fun _ hk => hk.2)⟩, ⟨by (with_reducible repeat (first | apply Kd.R_alloc | apply Kd.R_drewN | apply Kd.R_drew)); exact HO115.out⟩, ⟨by (with_reducible repeat (first | refine blk_drewN ?_ _ | refine blk_drew ?_ | refine blk_alloc ?_ _)); exact BK110.out⟩, ⟨by repeat (first | (with_reducible first | exact HB.out | apply below_alloc | apply pw_below_drewN | apply below_drew1 | refine below_set ?_ GE110.out | refine below_set ?_ GE112.out) | exact HB.out)⟩⟩
           ·rw [if_neg c10] at H
            exact absurd H (by simp)
          ·rw [if_neg c9] at H
           exact absurd H (by simp)
         ·rw [if_neg c8] at H
          exact absurd H (by simp)
        ·rw [if_neg c7] at H
         have c7b0 : decide (x18_2 < (((rd_T52 l0 x11_1).f2).length : Int)) = false := decide_eq_false c7
         clear c7
         by_cases c15 : x3_1.length < 3518437208883
         ·rw [if_pos c15] at H
          have LMc15 := Aside0.mk c15
          clear c15
          obtain ⟨y116, hy116⟩ : ∃ y_ : List (S67), y_ = (x3_1 ++ [(⟨((rd_T52 l0 x11_1).f0), ((rd_T52 l0 x11_1).f1), x6_2⟩ : S67)]) := ⟨_, rfl⟩
          replace H : (epicyclelaw06_rows.l0 k2 y116 l0 (l0.length : Int) (wrap64 (x11_1 + 1))) = some r := by first | (rw [hy116]; with_reducible exact H) | (have H2_ := (Option.bind_some _ _).symm.trans H; rw [hy116]; with_reducible exact H2_) | (have H2_ := (Option.bind_some _ _).symm.trans H; with_reducible exact H2_) | with_reducible exact H | (rw [hy116]; exact H) | exact H
          have Ny116 := Aside0.mk hy116
          clear hy116
          have H' := Aside0.mk H
          clear H
          have hcz16_0 : wr.cell? ⟨gb110, 0, none⟩ = some (.int .u64 ((rd_T52 l0 x11_1).f0)) := (blk_cell BK110.out 0).trans rfl
          have hcz16_1 : wr.cell? ⟨gb110, 1, none⟩ = some (.int .u64 ((rd_T52 l0 x11_1).f1)) := (blk_cell BK110.out 1).trans rfl
          have hcz16_2 : wr.cell? ⟨gb110, 2, none⟩ = some (.slice A109_2 ((rd_T52 l0 x11_1).f2).length c109_2) := (blk_cell BK110.out 2).trans rfl
          have hfz16_0 := blk_frozen BK110.out 0
          have hfz16_1 := blk_frozen BK110.out 1
          have hfz16_2 := blk_frozen BK110.out 2
          obtain ⟨Ao17, co17, eo17⟩ := Kd.R_slice HO_6.out
          subst eo17
          go_wp2_with (first | ((with_reducible refine gate_builtin (b := .append) (xs := #[.tmp 27, .tmp 34]) rfl ?_); at_builtin; refine Kd.S_append k67 (w0 := w) w.heap.size rfl (.tmp 27) (.tmp 34) 59 67 (.agg #[(.int .u64 0), (.int .u64 0), (.slice none 0 0)]) 40 rfl Try.underlying59 info67 rfl (by decide) (by omega) u3 x3_1 (⟨((rd_T52 l0 x11_1).f0), ((rd_T52 l0 x11_1).f1), x6_2⟩ : S67) [.int .u64 ((rd_T52 l0 x11_1).f0), .int .u64 ((rd_T52 l0 x11_1).f1), .slice Ao17 x6_2.length co17] (fun _ => True) (fun k_ => some k_ = (.slice Ao17 x6_2.length co17 : Value).ownBlock) rfl rfl ?aP (fun k_ hk_ => ((Kd.R_mono (ok' := fun k_ => ((fun _ => True)) k_ ∧ some k_ ≠ (u3 : Value).ownBlock) (Kd.R_apart' (HO_6.out) (Kd.S_typed HO_3.out) (by decide)) (fun k_ hk => ⟨trivial, hk.2⟩))).1 k_ hk_.symm) ?aF ?aO ?aB ?aS ?aL ?_; (case aP => exact k67_mkM _ _ _ (⟨((rd_T52 l0 x11_1).f0), ((rd_T52 l0 x11_1).f1), x6_2⟩ : S67) (Kd.R_mono (Kd.R_tight rfl (Kd.R_mono (ok' := fun k_ => ((fun _ => True)) k_ ∧ some k_ ≠ (u3 : Value).ownBlock) (Kd.R_apart' (HO_6.out) (Kd.S_typed HO_3.out) (by decide)) (fun k_ hk => ⟨trivial, hk.2⟩))) (fun _ h_ => h_))); (case aB => exact (by repeat (first | (with_reducible first | exact HB.out | apply below_alloc | apply pw_below_drewN | apply below_drew1 | refine below_set ?_ GE110.out) | exact HB.out))); (case aF => exact (fun _ _ => trivial)); (case aO => exact (by (with_reducible repeat (first | apply Kd.S_alloc | apply Kd.S_drewN | apply Kd.S_drew)); exact Kd.S_mono HO_3.out (fun k_ hk => ⟨trivial, fun e_ => hk e_⟩))); (case aS => exact (below_size (by repeat (first | (with_reducible first | exact HB.out | apply below_alloc | apply pw_below_drewN | apply below_drew1 | refine below_set ?_ GE110.out) | exact HB.out)))); (case aL => have := LMc15.out; omega); intro v117 w18 ho hb hg hat; rw [← Ny116.out] at ho; have n0_ := Aside0.mk (blk_grown (g := gb110) (o := .cells #[.int .u64 ((rd_T52 l0 x11_1).f0), .int .u64 ((rd_T52 l0 x11_1).f1), .slice A109_2 ((rd_T52 l0 x11_1).f2).length c109_2] 52 (0, 0)) (by (with_reducible repeat (first | refine blk_drewN ?_ _ | refine blk_drew ?_ | refine blk_alloc ?_ _)); exact BK110.out) hg (Kd.S_ne HO_3.out BK110.out (by decide))); have n1_ := Aside0.mk (hb); have n2_ := Aside0.mk (ho); clear BK110; clear HB; clear HO_3; clear HO_6; have BK110 := n0_; have HB := n1_; have HO118 := n2_; clear n0_ n1_ n2_; clear ho hb hg hat))
          go_roundg k2
          case measure => have := HK1.out; have := HK2.out; omega
          case rel => exact ⟨(y116), (wrap64 (x11_1 + 1)), (by first | rfl | (simp; done) | (simp [*]; done)), H', ⟨by have := HK1.out; have := HK2.out; omega⟩, ⟨by (with_reducible repeat (first | apply Kd.S_alloc | apply Kd.S_drewN | apply Kd.S_drew)); exact HO118.out⟩, ⟨by repeat (first | (with_reducible first | exact HB.out | apply below_alloc | apply pw_below_drewN | apply below_drew1 | refine below_set ?_ GE110.out) | exact HB.out)⟩⟩
         ·rw [if_neg c15] at H
          exact absurd H (by simp)
     ·rw [if_neg c4] at H
      exact absurd H (by simp)
    ·rw [if_neg c3] at H
     exact absurd H (by simp)
   ·rw [if_neg c2] at H
    have c2b0 : decide (x11_1 < (l0.length : Int)) = false := decide_eq_false c2
    clear c2
    obtain rfl := Option.some.inj H
    go_wp2
    go_ret
    exact ⟨_, by first | rfl | (simp [errW_none, errW_some] <;> rfl) | (simp [*, errW_none, errW_some] <;> rfl), by (with_reducible repeat (first | apply Kd.S_alloc | apply Kd.S_drewN | apply Kd.S_drew)); exact HO_3.out, by repeat (first | (with_reducible first | exact HB.out | apply below_alloc | apply pw_below_drewN | apply below_drew1) | exact HB.out)⟩
end Go.Proofs.Ythnpjjpdlihepaa.XF
end
section
namespace Go.Proofs.Ythnpjjpdlihepaa.F06.XF
open Go Go.RowKit Go.Proofs.Ythnpjjpdlihepaa.XS Go.Proofs.Ythnpjjpdlihepaa.XT Go.Proofs.Ythnpjjpdlihepaa.XR Go.Proofs.YthnpjjpdlihepaaW.PrintWords Go.Proofs.YthnpjjpdlihepaaW.PrintLast Go.Proofs.YthnpjjpdlihepaaW.PrintMore Go.Proofs.Ythnpjjpdlihepaa.Given Go.Proofs.Ythnpjjpdlihepaa.Given04 Go.Proofs.Ythnpjjpdlihepaa.M Go.Proofs.Ythnpjjpdlihepaa.Mont Go.Proofs.Ythnpjjpdlihepaa.XF
theorem rows_l1 {x3 : List S67} {L : List S52} {len i P G : Int} {F : List S89} {R : List S67} (hF : F.length < 8796093022208) (h3 : x3.length < 3518437208883)
    (E : Ev (fun k => epicyclelaw06_rows.l0 k (x3 ++ [⟨P, G, F.map cF⟩]) L len (wrap64 (i + 1))) R) (l : List S89) :
    ∀ j : Nat, F.drop j = l → j ≤ F.length → Ev (fun k => epicyclelaw06_rows.l1 k x3 ((F.take j).map cF) L len i F (F.length : Int) j P G F) R := by
  induction l with
  | nil =>
    intro j hd hj
    have : F.length ≤ j := by have := congrArg List.length hd; simp at this; omega
    have q : ¬ (j : Int) < (F.length : Int) := by omega
    rw [List.take_of_length_le this]
    refine Ev.step (fun k => ?_) E
    simp only [epicyclelaw06_rows.l1]
    rw [if_neg q, if_pos h3]
  | cons x l ih =>
    intro j hd hj
    obtain ⟨hx, hlt, hd'⟩ := rd60_drop hd
    have q : (j : Int) < (F.length : Int) := by omega
    have q0 : 0 ≤ (j : Int) := by omega
    have w : wrap64 ((j : Int) + 1) = ((j + 1 : Nat) : Int) := by rw [w64_id _ (by omega) (by omega)]; omega
    have ql : ((F.take j).map cF).length < 8796093022208 := by simp; omega
    have IH := ih (j + 1) hd' (by omega)
    have e : (F.take (j + 1)).map cF = (F.take j).map cF ++ [⟨x.f0, x.f1⟩] := by
      have hg : F[j] = x := by
        rw [List.drop_eq_getElem_cons hlt] at hd
        injection hd
      rw [List.take_succ_eq_append_getElem hlt, hg, List.map_append]
      rfl
    rw [e] at IH
    refine Ev.step (fun k => ?_) IH
    simp only [epicyclelaw06_rows.l1]
    rw [if_pos q, if_pos q0, if_pos q, if_pos ql, hx, w]
theorem rows_l0 {L : List S52} (hL : okLen L) (l : List S52) : ∀ i : Nat, L.drop i = l → i ≤ L.length → Ev (fun k => epicyclelaw06_rows.l0 k ((L.take i).map cE) L (L.length : Int) i) (L.map cE) := by
  have h1 := hL.1
  induction l with
  | nil =>
    intro i hd hi
    have : L.length ≤ i := by have := congrArg List.length hd; simp at this; omega
    have q : ¬ (i : Int) < (L.length : Int) := by omega
    rw [List.take_of_length_le this]
    refine Ev.step (fun k => ?_) (Ev.now _)
    simp only [epicyclelaw06_rows.l0]
    rw [if_neg q]
  | cons x l ih =>
    intro i hd hi
    obtain ⟨hx, hlt, hd'⟩ := rd46_drop hd
    have hxm : x ∈ L := List.mem_of_mem_drop (show x ∈ L.drop i by rw [hd]; exact List.mem_cons_self)
    have q : (i : Int) < (L.length : Int) := by omega
    have q0 : 0 ≤ (i : Int) := by omega
    have w : wrap64 ((i : Int) + 1) = ((i + 1 : Nat) : Int) := by rw [w64_id _ (by omega) (by omega)]; omega
    have ql : ((L.take i).map cE).length < 3518437208883 := by simp; omega
    have IH := ih (i + 1) hd' (by omega)
    have e : (L.take (i + 1)).map cE = (L.take i).map cE ++ [⟨x.f0, x.f1, x.f2.map cF⟩] := by
      have hg : L[i] = x := by
        rw [List.drop_eq_getElem_cons hlt] at hd
        injection hd
      rw [List.take_succ_eq_append_getElem hlt, hg, List.map_append]
      rfl
    rw [e, ← w] at IH
    have L1 := rows_l1 (L := L) (len := (L.length : Int)) (i := (i : Int)) (hL.2 x hxm) ql IH x.f2 0 rfl (Nat.zero_le _)
    refine Ev.step (fun k => ?_) L1
    simp only [epicyclelaw06_rows.l0]
    rw [if_pos q, if_pos q0, if_pos q, hx]
    rfl
theorem rows_ev {L : List S52} (hL : okLen L) : Ev (fun k => epicyclelaw06_rows.f k L) (L.map cE) := by
  refine Ev.congr (fun k => ?_) (rows_l0 hL L 0 rfl (Nat.zero_le _))
  unfold epicyclelaw06_rows.f
  rfl
end Go.Proofs.Ythnpjjpdlihepaa.F06.XF
end
section
namespace Go.Proofs.Ythnpjjpdlihepaa.F06.XF
open Go Go.RowKit Go.Proofs.YthnpjjpdlihepaaW.PrintWords Go.Proofs.YthnpjjpdlihepaaW.PrintLast Go.Proofs.YthnpjjpdlihepaaW.PrintMore Go.Proofs.Ythnpjjpdlihepaa.Given Go.Proofs.Ythnpjjpdlihepaa.M Go.Proofs.Ythnpjjpdlihepaa.Mont Go.Proofs.Ythnpjjpdlihepaa.XS Go.Proofs.Ythnpjjpdlihepaa.XT Go.Proofs.Ythnpjjpdlihepaa.XR Go.Proofs.Ythnpjjpdlihepaa.Num Go.Proofs.Ythnpjjpdlihepaa.XK Go.Proofs.Ythnpjjpdlihepaa.XF
end Go.Proofs.Ythnpjjpdlihepaa.F06.XF
end
section
namespace Go.Proofs.Ythnpjjpdlihepaa.XF
open Go.RowKit Go.Proofs.Ythnpjjpdlihepaa.Given Go.Proofs.Ythnpjjpdlihepaa.Row05 Go.Proofs.Ythnpjjpdlihepaa.XS Go.Proofs.Ythnpjjpdlihepaa.XT Go.Proofs.Ythnpjjpdlihepaa.XR Go.Proofs.Ythnpjjpdlihepaa.F06 Go.Proofs.Ythnpjjpdlihepaa.XK Go.Proofs.YthnpjjpdlihepaaW.PrintWords Go.Proofs.YthnpjjpdlihepaaW.PrintLast Go.Proofs.YthnpjjpdlihepaaW.PrintMore
attribute [local go_sem] max2_int min2_int max_two min_two max_three min_three max_four min_four   -- for this text's walks alone
set_option linter.unusedVariables false
set_option linter.unusedSimpArgs false
end Go.Proofs.Ythnpjjpdlihepaa.XF
end
section
namespace Go.Proofs.Ythnpjjpdlihepaa.XF
open Go.RowKit Go.Proofs.Ythnpjjpdlihepaa.Given Go.Proofs.Ythnpjjpdlihepaa.Row05 Go.Proofs.Ythnpjjpdlihepaa.XS Go.Proofs.Ythnpjjpdlihepaa.XT Go.Proofs.Ythnpjjpdlihepaa.XR Go.Proofs.Ythnpjjpdlihepaa.F06 Go.Proofs.Ythnpjjpdlihepaa.XK Go.Proofs.YthnpjjpdlihepaaW.PrintWords Go.Proofs.YthnpjjpdlihepaaW.PrintLast Go.Proofs.YthnpjjpdlihepaaW.PrintMore
attribute [local go_sem] max2_int min2_int max_two min_two max_three min_three max_four min_four   -- for this text's walks alone
set_option linter.unusedVariables false
set_option linter.unusedSimpArgs false
end Go.Proofs.Ythnpjjpdlihepaa.XF
end
section
namespace Go.Proofs.Ythnpjjpdlihepaa.XF
open Go.RowKit Go.Proofs.Ythnpjjpdlihepaa.Given Go.Proofs.Ythnpjjpdlihepaa.Row05 Go.Proofs.Ythnpjjpdlihepaa.XS Go.Proofs.Ythnpjjpdlihepaa.XT Go.Proofs.Ythnpjjpdlihepaa.XR Go.Proofs.Ythnpjjpdlihepaa.F06 Go.Proofs.Ythnpjjpdlihepaa.XK Go.Proofs.YthnpjjpdlihepaaW.PrintWords Go.Proofs.YthnpjjpdlihepaaW.PrintLast Go.Proofs.YthnpjjpdlihepaaW.PrintMore
attribute [local go_sem] max2_int min2_int max_two min_two max_three min_three max_four min_four   -- for this text's walks alone
set_option linter.unusedVariables false
set_option linter.unusedSimpArgs false
end Go.Proofs.Ythnpjjpdlihepaa.XF
end
section
namespace Go.Proofs.Ythnpjjpdlihepaa.XF
open Go.RowKit Go.Proofs.Ythnpjjpdlihepaa.Given Go.Proofs.Ythnpjjpdlihepaa.Row05 Go.Proofs.Ythnpjjpdlihepaa.XS Go.Proofs.Ythnpjjpdlihepaa.XT Go.Proofs.Ythnpjjpdlihepaa.XR Go.Proofs.Ythnpjjpdlihepaa.F06 Go.Proofs.Ythnpjjpdlihepaa.XK Go.Proofs.YthnpjjpdlihepaaW.PrintWords Go.Proofs.YthnpjjpdlihepaaW.PrintLast Go.Proofs.YthnpjjpdlihepaaW.PrintMore
attribute [local go_sem] max2_int min2_int max_two min_two max_three min_three max_four min_four   -- for this text's walks alone
set_option linter.unusedVariables false
set_option linter.unusedSimpArgs false
end Go.Proofs.Ythnpjjpdlihepaa.XF
end
section
namespace Go.Proofs.Ythnpjjpdlihepaa.F06.XF
open Go Go.RowKit Go.Proofs.YthnpjjpdlihepaaW.PrintWords Go.Proofs.YthnpjjpdlihepaaW.PrintLast Go.Proofs.YthnpjjpdlihepaaW.PrintMore Go.Proofs.Ythnpjjpdlihepaa.Given Go.Proofs.Ythnpjjpdlihepaa.M Go.Proofs.Ythnpjjpdlihepaa.Mont Go.Proofs.Ythnpjjpdlihepaa.XS Go.Proofs.Ythnpjjpdlihepaa.XT Go.Proofs.Ythnpjjpdlihepaa.XR Go.Proofs.Ythnpjjpdlihepaa.Num Go.Proofs.Ythnpjjpdlihepaa.XK Go.Proofs.Ythnpjjpdlihepaa.XF
def I64 (x : Int) : Prop := -9223372036854775808 ≤ x ∧ x < 9223372036854775808
theorem alive_ev : Ev (fun k => epicyclelaw06_alive.f k) true := by
  obtain ⟨F, E, e1, e2, hg⟩ := small17
  have hr : rootI F 4 = 13 := by unfold rootI; rw [e1, e2]; rfl
  have R := Root_at F (n := 4) (by decide) (by decide) (by rw [e1]; rfl)
  have M1 : field_Field_Mul.f [F] 13 13 = some 16 := by rw [field_Field_Mul.at_ ⟨by unfold U; omega, by unfold U; omega⟩, e1]; rfl
  have G1 : field_Field_G.f [F] = some 3 := by unfold field_Field_G.f; rw [← e2]; rfl
  rw [hr] at R
  exact Ev.congr (fun k => rfl) (Ev.bind E (evB R (evP rfl (evP rfl (evB G1 (evP rfl (evP rfl (evB M1 (Ev.now _)))))))))
end Go.Proofs.Ythnpjjpdlihepaa.F06.XF
end
