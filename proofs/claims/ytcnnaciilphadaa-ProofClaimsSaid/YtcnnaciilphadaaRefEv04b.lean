/- Layer 4: the document's Right and Check come to what the program's do; ProofChecks. -/
import Derived.Test.YtcnnaciilphadaaRefEv04
import Derived.Test.YtcnnaciilphadaaXP7
namespace Go.Proofs.Ytcnnaciilphadaa.XP
open Go Go.RowKit Go.Proofs.YtcnnaciilphadaaW.PrintWords Go.Proofs.YtcnnaciilphadaaW.PrintLast Go.Proofs.YtcnnaciilphadaaW.PrintMore Go.Proofs.Ytcnnaciilphadaa.Given Go.Proofs.Ytcnnaciilphadaa.Given04 Go.Proofs.Ytcnnaciilphadaa.M Go.Proofs.Ytcnnaciilphadaa.Mont

section
variable {L : List S46} {a : Nat} {P G : Int} {F : List S60}

theorem rr_j1t {x1 : Int} : Ev (fun k => epicycleref04_Right.j1 k L x1 true P G F) false :=
  Ev.step (f := fun _ => some false) (fun k => by simp [epicycleref04_Right.j1]) (Ev.now _)
theorem rr_j3t {x1 x6 : Int} : Ev (fun k => epicycleref04_Right.j3 k L x1 x6 true P G F) false :=
  Ev.step (f := fun _ => some false) (fun k => by simp [epicycleref04_Right.j3]) (Ev.now _)
theorem rr_j4t : Ev (fun k => epicycleref04_Right.j4 k true P G F) false :=
  Ev.step (f := fun _ => some false) (fun k => by simp [epicycleref04_Right.j4]) (Ev.now _)
theorem rr_j0t {x1 : Int} : Ev (fun k => epicycleref04_Right.j0 k L x1 true P G F) false :=
  Ev.step (f := fun _ => some false) (fun k => by simp [epicycleref04_Right.j0]) (Ev.now _)

theorem rr_l1 (uP : U P) (uG : U G) (hP : 3 ≤ P) (h16 : F.length ≤ 16) (hok : okL (F.map p60)) (h2 : ∀ x ∈ F.map p60, 2 ≤ x.1) (l : List S60) : ∀ i : Nat, F.drop i = l →
    Ev (fun k => epicycleref04_Right.l1 k F (F.length : Int) i P G F) (!((l.map p60).any fun x => G ^ ((P - 1) / x.1).toNat % P == 1)) := by
  induction l with
  | nil =>
    intro i hd
    have : F.length ≤ i := by have := congrArg List.length hd; simp at this; omega
    have c : ¬ (i : Int) < (F.length : Int) := by omega
    refine Ev.step (f := fun _ => some true) (fun k => ?_) (Ev.now _)
    simp only [epicycleref04_Right.l1]
    rw [if_neg c]
  | cons x l ih =>
    intro i hd
    obtain ⟨hx, hlt, hd'⟩ := rd60_drop hd
    have hxm : p60 x ∈ F.map p60 := List.mem_map_of_mem (List.mem_of_mem_drop (show x ∈ F.drop i by rw [hd]; exact List.mem_cons_self))
    have hx2 : 2 ≤ x.f0 := h2 _ hxm
    have ux : U x.f0 := (hok _ hxm).1
    have c : (i : Int) < (F.length : Int) := by omega
    have c0 : 0 ≤ (i : Int) := by omega
    have cz : ¬ x.f0 = 0 := by omega
    have w : wrap64 ((i : Int) + 1) = ((i + 1 : Nat) : Int) := by rw [w64_id _ (by omega) (by omega)]; omega
    have wp : IntKind.u64.wrap (P - 1) = P - 1 := wu64_id _ (by omega) (by have := uP.2; omega)
    have hq0 : 0 ≤ (P - 1) / x.f0 := Int.ediv_nonneg (by omega) (by omega)
    have hq1 : (P - 1) / x.f0 ≤ P - 1 := Int.ediv_le_self _ (by omega)
    have hq2 : (P - 1) / x.f0 < 18446744073709551616 := by have := uP.2; omega
    have wd : IntKind.u64.wrap (Int.tdiv (P - 1) x.f0) = (P - 1) / x.f0 := by rw [tdiv_pos (by omega), wu64_id _ hq0 hq2]
    have hp := ref02_Pow_ev uG ⟨hq0, hq2⟩ uP (show P ≠ 0 by omega)
    have IH := ih (i + 1) hd'
    rw [List.map_cons, List.any_cons]
    have hg : G ^ ((P - 1) / (p60 x).1).toNat % P = G ^ ((P - 1) / x.f0).toNat % P := rfl
    rw [hg]
    by_cases h : G ^ ((P - 1) / x.f0).toNat % P = 1
    · rw [h, show ((1 : Int) == 1) = true from rfl, Bool.true_or]
      rw [h] at hp
      refine Ev.step (f := fun k => (epicycleref02_Pow.f k G ((P - 1) / x.f0) P).bind fun t177 => (if t177 = 1 then (some false) else (epicycleref04_Right.l1 k F (F.length : Int) ((i + 1 : Nat) : Int) P G F))) (fun k => ?_) (Ev.bind hp ?_)
      · simp only [epicycleref04_Right.l1]
        rw [if_pos c, if_pos c0, if_pos c, hx, if_neg cz, wp, wd, w]
      · exact evP rfl (Ev.now _)
    · rw [beq_eq_false_iff_ne.mpr h, Bool.false_or]
      refine Ev.step (f := fun k => (epicycleref02_Pow.f k G ((P - 1) / x.f0) P).bind fun t177 => (if t177 = 1 then (some false) else (epicycleref04_Right.l1 k F (F.length : Int) ((i + 1 : Nat) : Int) P G F))) (fun k => ?_) (Ev.bind hp ?_)
      · simp only [epicycleref04_Right.l1]
        rw [if_pos c, if_pos c0, if_pos c, hx, if_neg cz, wp, wd, w]
      · exact evN h IH

theorem prodS_two {m : Int} : ∀ (l : List (Int × Int)) (n : Int), (prodS m l n).2 = true → ∀ x ∈ l, 2 ≤ x.1
  | [], _, _ => by simp
  | y :: l, n, h => by
    unfold prodS at h
    by_cases c : y.2 < 1 ∨ y.2 > 62 ∨ y.1 < 2
    · rw [if_pos c] at h; exact absurd h ft
    rw [if_neg c] at h
    by_cases c2 : n * y.1 ^ y.2.toNat > m
    · rw [if_pos c2] at h; exact absurd h ft
    rw [if_neg c2] at h
    intro x hx
    rcases List.mem_cons.1 hx with rfl | hx
    · omega
    · exact prodS_two l _ h x hx

/-- What stands behind the chain. -/
def tailS (P G : Int) (l : List (Int × Int)) : Bool := (prodS (P - 1) l 1 == (P - 1, true)) && (decide (2 ≤ G ∧ G < P) && fullS P G l)

theorem rr_tail {x1 : Int} (uP : U P) (uG : U G) (hP : 3 ≤ P) (h16 : F.length ≤ 16) (hok : okL (F.map p60)) : Ev (fun k => epicycleref04_Right.l0 k L x1 (F.length : Int) P G F) (tailS P G (F.map p60)) := by
  have wp : IntKind.u64.wrap (P - 1) = P - 1 := wu64_id _ (by omega) (by have := uP.2; omega)
  have um : U (P - 1) := by unfold U at *; omega
  have m1 : 1 ≤ P - 1 := by omega
  have hpr := prod_ev (L := F) um m1 (by omega)
  have hz : P ≠ 0 := by omega
  have hpw := ref02_Pow_ev uG um uP hz
  refine Ev.step (f := fun k => (epicycleref04_Product.f k F (P - 1)).bind fun bt172 => (if bt172.2 = true then (if bt172.1 = P - 1 then (if G < 2 then (epicycleref04_Right.j4 k true P G F) else (if G ≥ P then (epicycleref04_Right.j4 k true P G F) else ((epicycleref02_Pow.f k G (P - 1) P).bind fun t174 => (epicycleref04_Right.j4 k (t174 != 1) P G F)))) else (epicycleref04_Right.j4 k true P G F)) else (epicycleref04_Right.j4 k true P G F))) (fun k => ?_) (Ev.bind hpr ?_)
  · simp only [epicycleref04_Right.l0]
    rw [if_neg (Int.lt_irrefl _), wp]
  unfold tailS
  have h2 := prodS_two (m := P - 1) (F.map p60) 1
  generalize prodS (P - 1) (F.map p60) 1 = R at *
  obtain ⟨n, b⟩ := R
  cases b with
  | false =>
    have e : ((n, false) == (P - 1, true)) = false := beq_eq_false_iff_ne.mpr (fun e => ft (congrArg Prod.snd e))
    rw [e, Bool.false_and]
    exact evN ft rr_j4t
  | true =>
    refine evP rfl ?_
    by_cases hn : n = P - 1
    · subst hn
      rw [show ((P - 1, true) == (P - 1, true)) = true from beq_self_eq_true _, Bool.true_and]
      refine evP rfl ?_
      by_cases c1 : G < 2
      · have : ¬ (2 ≤ G ∧ G < P) := by omega
        rw [decide_eq_false this, Bool.false_and]
        exact evP c1 rr_j4t
      refine evN c1 ?_
      by_cases c2 : G ≥ P
      · have : ¬ (2 ≤ G ∧ G < P) := by omega
        rw [decide_eq_false this, Bool.false_and]
        exact evP c2 rr_j4t
      have c3 : 2 ≤ G ∧ G < P := by omega
      refine evN c2 ?_
      rw [decide_eq_true c3, Bool.true_and]
      refine Ev.bind hpw ?_
      unfold fullS
      by_cases c4 : G ^ (P - 1).toNat % P = 1
      · rw [c4, show ((1 : Int) == 1) = true from rfl, Bool.true_and]
        refine Ev.step (f := fun k => epicycleref04_Right.l1 k F (F.length : Int) 0 P G F) (fun k => ?_) (rr_l1 uP uG hP h16 hok (h2 rfl) F 0 rfl)
        simp only [epicycleref04_Right.j4]
        rw [if_neg (show ¬ ((1 : Int) != 1) = true by decide)]
      · rw [beq_eq_false_iff_ne.mpr c4, Bool.false_and, show (G ^ (P - 1).toNat % P != 1) = true by rw [bne, beq_eq_false_iff_ne.mpr c4]; rfl]
        exact rr_j4t
    · have e : ((n, true) == (P - 1, true)) = false := beq_eq_false_iff_ne.mpr (fun e => hn (congrArg Prod.fst e))
      rw [e, Bool.false_and]
      exact evN hn rr_j4t

theorem rr_l0 (ha : a ≤ L.length) (hL : L.length ≤ 1000) (uP : U P) (uG : U G) (hP : 3 ≤ P) (h16 : F.length ≤ 16) (hok : okL (F.map p60)) (l : List S60) : ∀ (i : Nat) (q : Int), F.drop i = l → 1 ≤ i → i ≤ F.length → (rd_T60 F ((i - 1 : Nat) : Int)).f0 = q →
    Ev (fun k => epicycleref04_Right.l0 k L (a : Int) i P G F) (chainS (has46 (L.take a)) q (l.map p60) && tailS P G (F.map p60)) := by
  induction l with
  | nil =>
    intro i q hd i1 il hq
    have : F.length ≤ i := by have := congrArg List.length hd; simp at this; omega
    have e : i = F.length := by omega
    subst e
    rw [List.map_nil, chainS, Bool.true_and]
    exact rr_tail uP uG hP h16 hok
  | cons x l ih =>
    intro i q hd i1 il hq
    obtain ⟨hx, hlt, hd'⟩ := rd60_drop hd
    have c : (i : Int) < (F.length : Int) := by omega
    have c0 : 0 ≤ (i : Int) := by omega
    have w1 : wrap64 ((i : Int) - 1) = ((i - 1 : Nat) : Int) := by rw [w64_id _ (by omega) (by omega)]; omega
    have p1 : 0 ≤ ((i - 1 : Nat) : Int) := by omega
    have p2 : ((i - 1 : Nat) : Int) < (F.length : Int) := by omega
    have w : wrap64 ((i : Int) + 1) = ((i + 1 : Nat) : Int) := by rw [w64_id _ (by omega) (by omega)]; omega
    have a0 : 0 ≤ (a : Int) := by omega
    have a1 : (a : Int) ≤ (L.length : Int) := by omega
    have lt : (L.take a).length ≤ 1000 := by simp; omega
    rw [List.map_cons, chainS]
    by_cases h3 : x.f0 ≤ q
    · have n3 : ¬ q < (p60 x).1 := by show ¬ q < x.f0; omega
      rw [decide_eq_false n3, Bool.false_and, Bool.false_and, Bool.false_and]
      refine Ev.step (fun k => ?_) (rr_j3t (L := L) (x1 := (a : Int)) (x6 := (i : Int)) (P := P) (G := G) (F := F))
      simp only [epicycleref04_Right.l0]
      rw [if_pos c, if_pos c0, w1, if_pos p1, if_pos p2, hx, hq, if_pos h3]
    have n3 : q < (p60 x).1 := by show q < x.f0; omega
    have hc := claimed_ev (L := L.take a) x.f0 lt
    have E : ∀ k, epicycleref04_Right.l0 (k + 1) L (a : Int) i P G F = (epicycleref04_Claimed.f k (L.take a) x.f0).bind fun t171 => (epicycleref04_Right.j3 k L (a : Int) i (!t171) P G F) := fun k => by
      simp only [epicycleref04_Right.l0]
      rw [if_pos c, if_pos c0, w1, if_pos p1, if_pos p2, hx, hq, if_neg h3, if_pos a0, if_pos a1, Int.toNat_natCast]
    refine Ev.step E (Ev.bind hc ?_)
    rw [decide_eq_true n3, Bool.true_and]
    have hA : has46 (L.take a) (p60 x).1 = has46 (L.take a) x.f0 := rfl
    rw [hA]
    cases has46 (L.take a) x.f0 with
    | false =>
      rw [Bool.false_and, Bool.false_and]
      exact rr_j3t
    | true =>
      rw [Bool.true_and]
      have hq' : (rd_T60 F ((i + 1 - 1 : Nat) : Int)).f0 = (p60 x).1 := by rw [show i + 1 - 1 = i from rfl, hx]; rfl
      have IH := ih (i + 1) (p60 x).1 hd' (by omega) (by omega) hq'
      refine Ev.step (fun k => ?_) IH
      simp only [epicycleref04_Right.j3]
      rw [if_neg (show ¬ (!true) = true by decide), w]

/-- What the document's Right answers. -/
theorem rr_j0 (ha : a ≤ L.length) (hL : L.length ≤ 1000) (uP : U P) (uG : U G) (hP : 3 ≤ P) (hok : okL (F.map p60)) :
    Ev (fun k => epicycleref04_Right.j0 k L (a : Int) false P G F) (wholeS (has46 (L.take a)) P (F.map p60) && (decide (2 ≤ G ∧ G < P) && fullS P G (F.map p60))) := by
  match F, hok with
  | [], _ =>
    rw [List.map_nil, wholeS, Bool.false_and]
    refine Ev.step (fun k => ?_) (rr_j1t (L := L) (x1 := (a : Int)) (P := P) (G := G) (F := []))
    simp only [epicycleref04_Right.j0]
    rw [if_neg ft, if_pos (by simp)]
  | x :: t, hok =>
    obtain ⟨F, hF⟩ : ∃ F, F = x :: t := ⟨_, rfl⟩
    have hlen : F.length = t.length + 1 := by rw [hF]; rfl
    have h0 : rd_T60 F 0 = x := by rw [hF]; rfl
    have hd1 : F.drop 1 = t := by rw [hF]; rfl
    have hok' : okL (F.map p60) := by rw [hF]; exact hok
    clear hok
    rw [List.map_cons, whole_split, ← List.map_cons (f := p60) (a := x), ← hF]
    have n1 : ¬ (F.length : Int) < 1 := by omega
    have p0 : 0 < (F.length : Int) := by omega
    by_cases h16 : (F.length : Int) > 16
    · have c : ¬ (F.map p60).length ≤ 16 := by simp; omega
      rw [decide_eq_false c, Bool.false_and, Bool.false_and, Bool.false_and]
      refine Ev.step (fun k => ?_) (rr_j1t (L := L) (x1 := (a : Int)) (P := P) (G := G) (F := F))
      simp only [epicycleref04_Right.j0]
      rw [if_neg ft, if_neg n1, if_pos h16]
    have c : (F.map p60).length ≤ 16 := by simp; omega
    rw [decide_eq_true c, Bool.true_and]
    have hE : ∀ k, epicycleref04_Right.j0 (k + 1) L (a : Int) false P G F = epicycleref04_Right.j1 k L (a : Int) (x.f0 != 2) P G F := fun k => by
      simp only [epicycleref04_Right.j0]
      rw [if_neg ft, if_neg n1, if_neg h16, if_pos p0, h0]
    refine Ev.step hE ?_
    have hb : ((p60 x).1 == 2) = (x.f0 == 2) := rfl
    rw [hb]
    by_cases h2 : x.f0 = 2
    · rw [h2, show ((2 : Int) == 2) = true from rfl, Bool.true_and, show ((2 : Int) != 2) = false from rfl]
      have hq : (rd_T60 F ((1 - 1 : Nat) : Int)).f0 = (p60 x).1 := by rw [show ((1 - 1 : Nat) : Int) = 0 from rfl, h0]; rfl
      have h := rr_l0 (a := a) (L := L) (F := F) (P := P) (G := G) ha hL uP uG hP (by omega) hok' t 1 (p60 x).1 hd1 (Nat.le_refl 1) (by omega) hq
      have e : (chainS (has46 (L.take a)) (p60 x).1 (t.map p60) && tailS P G (F.map p60)) = (chainS (has46 (L.take a)) (p60 x).1 (t.map p60) && (prodS (P - 1) (F.map p60) 1 == (P - 1, true)) && (decide (2 ≤ G ∧ G < P) && fullS P G (F.map p60))) := by
        unfold tailS; rw [Bool.and_assoc]
      rw [e] at h
      refine Ev.step (fun k => ?_) h
      simp only [epicycleref04_Right.j1]
      rw [if_neg ft]
      rfl
    · rw [show (x.f0 == 2) = false from beq_eq_false_iff_ne.mpr h2, Bool.false_and, Bool.false_and, show (x.f0 != 2) = true by simp [bne, h2]]
      exact rr_j1t
end

theorem has46_tri (l : List S46) : has46 l = fun q => (l.map tri46).any fun a => a.1 == q := by
  funext q
  unfold has46
  rw [List.any_map]
  rfl

theorem rr_ev {L : List S46} (hok : ∀ e ∈ L.map tri46, okE e) (hL : L.length ≤ 1000) {i : Nat} (hi : i < L.length) : Ev (fun k => epicycleref04_Right.f k L (i : Int)) (rightAt (L.map tri46) i) := by
  have hrd : rd_T46 L (i : Int) = L[i] := by unfold rd_T46; simp [List.getD, List.getElem?_eq_getElem hi]
  have ho := hok (tri46 L[i]) (List.mem_map_of_mem (List.getElem_mem hi))
  have uP : U L[i].f0 := ho.1
  have uG : U L[i].f1 := ho.2.1
  have hF : okL (L[i].f2.map p60) := ho.2.2
  clear ho
  have q0 : 0 ≤ (i : Int) := by omega
  have q1 : (i : Int) < (L.length : Int) := by omega
  have w1 : wrap64 ((i : Int) - 1) = (i : Int) - 1 := w64_id _ (by omega) (by omega)
  have hr : rightAt (L.map tri46) i = rightS (has46 (L.take i)) ((L.take i).getLast?.map fun e => e.f0) L[i].f0 L[i].f1 (L[i].f2.map p60) := by
    unfold rightAt
    rw [List.getElem?_map, List.getElem?_eq_getElem hi, Option.map_some, has46_tri, ← List.map_take, List.getLast?_map, Option.map_map]
    rfl
  rw [hr]
  generalize hP : L[i].f0 = P at *
  generalize hG : L[i].f1 = G at *
  generalize hFF : L[i].f2 = F at *
  have jT := rr_j0t (L := L) (x1 := (i : Int)) (P := P) (G := G) (F := F)
  unfold rightS
  by_cases c1 : P % 2 = 0
  · have : ¬ fits P G := by unfold fits; omega
    rw [decide_eq_false this, Bool.false_and, Bool.false_and]
    refine Ev.congr (fun k => ?_) jT
    unfold epicycleref04_Right.f
    rw [if_pos q0, if_pos q1, hrd, hP, hG, hFF, tmod_pos uP.1, if_pos c1]
  by_cases c2 : P < 3
  · have : ¬ fits P G := by unfold fits; omega
    rw [decide_eq_false this, Bool.false_and, Bool.false_and]
    refine Ev.congr (fun k => ?_) jT
    unfold epicycleref04_Right.f
    rw [if_pos q0, if_pos q1, hrd, hP, hG, hFF, tmod_pos uP.1, if_neg c1, if_pos c2]
  by_cases c3 : P > 9223372036854775807
  · have : ¬ fits P G := by unfold fits; omega
    rw [decide_eq_false this, Bool.false_and, Bool.false_and]
    refine Ev.congr (fun k => ?_) jT
    unfold epicycleref04_Right.f
    rw [if_pos q0, if_pos q1, hrd, hP, hG, hFF, tmod_pos uP.1, if_neg c1, if_neg c2, if_pos c3]
  have hj := rr_j0 (L := L) (a := i) (P := P) (G := G) (F := F) (by omega) hL uP uG (by omega) hF
  have hfit : decide (fits P G) = decide (2 ≤ G ∧ G < P) := by
    apply decide_eq_decide.2
    unfold fits; omega
  have hcomm : ∀ b c d : Bool, (d && (b && c)) = ((b && true) && (d && c)) := fun b c d => by cases b <;> cases c <;> cases d <;> rfl
  rw [hfit]
  by_cases z : i = 0
  · subst z
    have : (L.take 0).getLast?.map (fun e => e.f0) = none := by simp
    rw [this]
    rw [hcomm] at hj
    refine Ev.congr (fun k => ?_) hj
    unfold epicycleref04_Right.f
    rw [if_pos q0, if_pos q1, hrd, hP, hG, hFF, tmod_pos uP.1, if_neg c1, if_neg c2, if_neg c3, if_neg (show ¬ ((0 : Nat) : Int) > 0 by decide)]
  · have hi1 : i - 1 < L.length := by omega
    have hlast : (L.take i).getLast?.map (fun e => e.f0) = some L[i - 1].f0 := by
      have hlen : (L.take i).length = i := by simp; omega
      rw [List.getLast?_eq_getElem?, hlen, List.getElem?_take_of_lt (by omega), List.getElem?_eq_getElem hi1]
      rfl
    have hrd1 : rd_T46 L ((i : Int) - 1) = L[i - 1] := by
      rw [show (i : Int) - 1 = ((i - 1 : Nat) : Int) by omega]
      unfold rd_T46; simp [List.getD, List.getElem?_eq_getElem hi1]
    have r0 : (i : Int) > 0 := by omega
    have r1 : 0 ≤ (i : Int) - 1 := by omega
    have r2 : (i : Int) - 1 < (L.length : Int) := by omega
    rw [hlast]
    show Ev (fun k => epicycleref04_Right.f k L (i : Int)) ((decide (2 ≤ G ∧ G < P) && decide (L[i - 1].f0 < P)) && (wholeS (has46 (L.take i)) P (F.map p60) && fullS P G (F.map p60)))
    by_cases c4 : L[i - 1].f0 ≥ P
    · have n4 : ¬ L[i - 1].f0 < P := by omega
      rw [decide_eq_false n4, Bool.and_false, Bool.false_and]
      refine Ev.congr (fun k => ?_) jT
      unfold epicycleref04_Right.f
      rw [if_pos q0, if_pos q1, hrd, hP, hG, hFF, tmod_pos uP.1, if_neg c1, if_neg c2, if_neg c3, if_pos r0, w1, if_pos r1, if_pos r2, hrd1, decide_eq_true c4]
    · have n4 : L[i - 1].f0 < P := by omega
      rw [decide_eq_true n4]
      rw [hcomm] at hj
      refine Ev.congr (fun k => ?_) hj
      unfold epicycleref04_Right.f
      rw [if_pos q0, if_pos q1, hrd, hP, hG, hFF, tmod_pos uP.1, if_neg c1, if_neg c2, if_neg c3, if_pos r0, w1, if_pos r1, if_pos r2, hrd1, decide_eq_false c4]

theorem refcheck_l0 {L : List S46} (hok : ∀ e ∈ L.map tri46, okE e) (hL : L.length ≤ 1000) : ∀ (d i : Nat), i + d = L.length → Ev (fun k => epicycleref04_Check.l0 k L (L.length : Int) i) (firstBad (rightAt (L.map tri46)) d i) := by
  intro d
  induction d with
  | zero =>
    intro i hi
    have c : ¬ (i : Int) < (L.length : Int) := by omega
    refine Ev.step (f := fun _ => some (0, 0)) (fun k => ?_) (Ev.now _)
    simp only [epicycleref04_Check.l0]
    rw [if_neg c]
  | succ d ih =>
    intro i hi
    have q1 : (i : Int) < (L.length : Int) := by omega
    have w : wrap64 ((i : Int) + 1) = ((i + 1 : Nat) : Int) := by rw [w64_id _ (by omega) (by omega)]; omega
    have E := rr_ev hok hL (i := i) (by omega)
    have IH := ih (i + 1) (by omega)
    refine Ev.step (f := fun k => (epicycleref04_Right.f k L (i : Int)).bind fun t178 => (if t178 = true then (epicycleref04_Check.l0 k L (L.length : Int) ((i + 1 : Nat) : Int)) else (some ((i : Int), 3)))) (fun k => ?_) (Ev.bind E ?_)
    · simp only [epicycleref04_Check.l0]
      rw [if_pos q1, w]
    · unfold firstBad
      cases rightAt (L.map tri46) i with
      | true => exact evP rfl IH
      | false => exact evN ft (Ev.now _)

theorem refcheck_ev {L : List S46} (hok : ∀ e ∈ L.map tri46, okE e) : Ev (fun k => epicycleref04_Check.f k L) (checkS (L.map tri46)) := by
  unfold checkS
  rw [List.length_map]
  by_cases h : (L.length : Int) > 32
  · rw [if_pos h]
    refine Ev.congr (fun k => ?_) (Ev.now _)
    unfold epicycleref04_Check.f
    rw [if_pos h]
  · rw [if_neg h]
    refine Ev.congr (fun k => ?_) (refcheck_l0 hok (by omega) L.length 0 (by omega))
    unfold epicycleref04_Check.f
    rw [if_neg h]
    rfl

/-! #### great -/
theorem great_l0 {L : List S46} (hL : L.length ≤ 1000) (l : List S46) : ∀ i : Nat, L.drop i = l → Ev (fun k => epicyclelaw04_great.l0 k L (L.length : Int) i) (l.any fun e => decide ((e.f2.length : Int) > 20)) := by
  induction l with
  | nil =>
    intro i hd
    have : L.length ≤ i := by have := congrArg List.length hd; simp at this; omega
    have c : ¬ (i : Int) < (L.length : Int) := by omega
    refine Ev.step (f := fun _ => some false) (fun k => ?_) (Ev.now _)
    simp only [epicyclelaw04_great.l0]
    rw [if_neg c]
  | cons x l ih =>
    intro i hd
    obtain ⟨hx, hlt, hd'⟩ := rd46_drop hd
    have c : (i : Int) < (L.length : Int) := by omega
    have c0 : 0 ≤ (i : Int) := by omega
    have w : wrap64 ((i : Int) + 1) = ((i + 1 : Nat) : Int) := by rw [w64_id _ (by omega) (by omega)]; omega
    have IH := ih (i + 1) hd'
    rw [List.any_cons]
    by_cases h : (x.f2.length : Int) > 20
    · rw [decide_eq_true h, Bool.true_or]
      refine Ev.step (f := fun _ => some true) (fun k => ?_) (Ev.now _)
      simp only [epicyclelaw04_great.l0]
      rw [if_pos c, if_pos c0, if_pos c, hx, if_pos h]
    · rw [decide_eq_false h, Bool.false_or]
      refine Ev.step (fun k => ?_) IH
      simp only [epicyclelaw04_great.l0]
      rw [if_pos c, if_pos c0, if_pos c, hx, if_neg h, w]

theorem great_ev (L : List S46) : ∃ b, Ev (fun k => epicyclelaw04_great.f k L) b ∧ (b = false → L.length ≤ 40) := by
  by_cases h : (L.length : Int) > 40
  · refine ⟨true, Ev.congr (fun k => ?_) (Ev.now _), by simp⟩
    unfold epicyclelaw04_great.f
    rw [if_pos h]
  · refine ⟨_, Ev.congr (fun k => ?_) (great_l0 (L := L) (by omega) L 0 rfl), fun _ => by omega⟩
    unfold epicyclelaw04_great.f
    rw [if_neg h]
    rfl

end Go.Proofs.Ytcnnaciilphadaa.XP
