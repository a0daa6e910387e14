/- Layer 4: Claim, and ProofClaims. -/
import Derived.Test.YtcnnaciilphadaaRefEv04b
import Derived.Test.YtcnnaciilphadaaNum04
import Derived.Test.YtcnnaciilphadaaXP10
import Derived.Test.YtcnnaciilphadaaArg04o
namespace Go.Proofs.Ytcnnaciilphadaa.XP
open Go Go.RowKit Go.Proofs.YtcnnaciilphadaaW.PrintWords Go.Proofs.YtcnnaciilphadaaW.PrintLast Go.Proofs.YtcnnaciilphadaaW.PrintMore Go.Proofs.Ytcnnaciilphadaa.Given Go.Proofs.Ytcnnaciilphadaa.Given04 Go.Proofs.Ytcnnaciilphadaa.M Go.Proofs.Ytcnnaciilphadaa.Mont Go.Proofs.Ytcnnaciilphadaa.Opens

def foundS (L : List S46) (p : Int) : Int × Int × List S59 × Bool :=
  match L.find? (fun e => e.f0 == p) with
  | some e => (e.f0, e.f1, e.f2.map cF, true)
  | none => (0, 0, [], false)

theorem rd54_map {L : List S46} {i : Nat} (h : i < L.length) : rd_T54 (L.map cE) (i : Int) = cE (rd_T46 L (i : Int)) := by
  unfold rd_T54 rd_T46
  simp [List.getD, List.getElem?_eq_getElem h]

theorem claim_l0 {L : List S46} {p : Int} (hL : L.length ≤ 1000) (hs : ∀ e ∈ L, e.f2.length ≤ 1000000) (l : List S46) : ∀ i : Nat, L.drop i = l →
    Ev (fun k => proof_Claim.l0 k p (L.map cE) (L.length : Int) i) (foundS l p) := by
  induction l with
  | nil =>
    intro i hd
    have : L.length ≤ i := by have := congrArg List.length hd; simp at this; omega
    have c : ¬ (i : Int) < (L.length : Int) := by omega
    refine Ev.step (f := fun _ => some (0, 0, [], false)) (fun k => ?_) (Ev.now _)
    simp only [proof_Claim.l0]
    rw [if_neg c]
  | cons x l ih =>
    intro i hd
    obtain ⟨hx, hlt, hd'⟩ := rd46_drop hd
    have hxm : x ∈ L := List.mem_of_mem_drop (show x ∈ L.drop i by rw [hd]; exact List.mem_cons_self)
    have c : (i : Int) < (L.length : Int) := by omega
    have c' : (i : Int) < ((L.map cE).length : Int) := by simp; omega
    have c0 : 0 ≤ (i : Int) := by omega
    have w : wrap64 ((i : Int) + 1) = ((i + 1 : Nat) : Int) := by rw [w64_id _ (by omega) (by omega)]; omega
    have hr : rd_T54 (L.map cE) (i : Int) = cE x := by rw [rd54_map hlt, hx]
    have hcl : (x.f2.map cF).length ≤ 1000000 := by have := hs x hxm; simpa using this
    have g0 : (cE x).f0 = x.f0 := rfl
    have g1 : (cE x).f1 = x.f1 := rfl
    have g2 : (cE x).f2 = x.f2.map cF := rfl
    by_cases h : x.f0 = p
    · have e : foundS (x :: l) p = (x.f0, x.f1, x.f2.map cF, true) := by unfold foundS; rw [List.find?_cons, beq_iff_eq.2 h]
      rw [e]
      refine Ev.step (f := fun _ => some (x.f0, x.f1, x.f2.map cF, true)) (fun k => ?_) (Ev.now _)
      simp only [proof_Claim.l0]
      rw [if_pos c, if_pos c0, if_pos c', hr, g0, g1, g2, if_pos h, proof_Power.f, if_pos hcl, Option.bind_some]
    · have e : foundS (x :: l) p = foundS l p := by unfold foundS; rw [List.find?_cons, beq_eq_false_iff_ne.2 h]
      rw [e]
      refine Ev.step (fun k => ?_) (ih (i + 1) hd')
      simp only [proof_Claim.l0]
      rw [if_pos c, if_pos c0, if_pos c', hr, g0, if_neg h, w]

/-- What a right row gives. -/
theorem right_facts {L : List S46} (h : (checkS (L.map tri46)).2 = 0) : (∀ j, j < L.length → rightAt (L.map tri46) j = true) ∧ L.length ≤ 32 := by
  unfold checkS at h
  rw [List.length_map] at h
  split at h
  · exact absurd h (by decide)
  · exact ⟨fun j hj => firstBad_ok _ 0 h j (by omega) (by omega), by omega⟩

theorem right_small {L : List S46} (h : ∀ j, j < L.length → rightAt (L.map tri46) j = true) : ∀ e ∈ L, e.f2.length ≤ 16 := by
  intro e he
  obtain ⟨i, hi, rfl⟩ := List.mem_iff_getElem.1 he
  have hr := h i hi
  unfold rightAt at hr
  rw [List.getElem?_map, List.getElem?_eq_getElem hi, Option.map_some] at hr
  unfold rightS at hr
  simp only [Bool.and_eq_true] at hr
  have hw := hr.2.1
  have e2 : (tri46 L[i]).2.2 = L[i].f2.map p60 := rfl
  rw [e2] at hw
  cases hf : L[i].f2 with
  | nil => simp
  | cons x t =>
    rw [hf, List.map_cons, wholeS_cons] at hw
    simp only [Bool.and_eq_true, decide_eq_true_eq] at hw
    have := hw.1.1.1
    simpa using this

theorem right_rises {L : List S46} (h : ∀ j, j < L.length → rightAt (L.map tri46) j = true) (i : Nat) (hi : i + 1 < L.length) : L[i].f0 < L[i + 1].f0 := by
  have hr := h (i + 1) hi
  unfold rightAt at hr
  rw [List.getElem?_map, List.getElem?_eq_getElem hi, Option.map_some] at hr
  unfold rightS at hr
  simp only [Bool.and_eq_true] at hr
  have hl := hr.1.2
  have hlast : (((L.map tri46).take (i + 1)).getLast?.map fun a => a.1) = some L[i].f0 := by
    have hlen : ((L.map tri46).take (i + 1)).length = i + 1 := by simp; omega
    rw [List.getLast?_eq_getElem?, hlen, List.getElem?_take_of_lt (by omega), List.getElem?_map, show i + 1 - 1 = i from rfl, List.getElem?_eq_getElem (by omega)]
    rfl
  rw [hlast] at hl
  exact of_decide_eq_true hl

theorem right_unique {L : List S46} (h : ∀ j, j < L.length → rightAt (L.map tri46) j = true) {e e' : S46} (he : e ∈ L) (he' : e' ∈ L) (hp : e.f0 = e'.f0) : e = e' := by
  have mono : ∀ d i (hi : i + d + 1 < L.length), L[i].f0 < L[i + d + 1].f0 := by
    intro d
    induction d with
    | zero => intro i hi; exact right_rises h i hi
    | succ d ih =>
      intro i hi
      have a := ih i (by omega)
      have b := right_rises h (i + d + 1) (by omega)
      have : L[i + (d + 1) + 1] = L[i + d + 1 + 1] := rfl
      rw [this]
      omega
  obtain ⟨i, hi, rfl⟩ := List.mem_iff_getElem.1 he
  obtain ⟨j, hj, rfl⟩ := List.mem_iff_getElem.1 he'
  rcases Nat.lt_trichotomy i j with c | c | c
  · obtain ⟨d, rfl⟩ : ∃ d, j = i + d + 1 := ⟨j - i - 1, by omega⟩
    have := mono d i hj
    omega
  · subst c; rfl
  · obtain ⟨d, rfl⟩ : ∃ d, i = j + d + 1 := ⟨i - j - 1, by omega⟩
    have := mono d j hi
    omega

section
variable {L : List S46} {p P G : Int} {ok : Bool}

theorem same_l1 {i len : Int} {X : List S59} {F : List S60} {P' G' : Int} {R : Bool} (hX : X = F.map cF) (hF : F.length ≤ 1000)
    (E : Ev (fun k => epicyclelaw04_ProofClaims.l0 k p ok L len (wrap64 (i + 1)) P G X) R) (l : List S60) : ∀ j : Nat, F.drop j = l →
    Ev (fun k => epicyclelaw04_ProofClaims.l1 k p ok L len i X (X.length : Int) j P G X P' G' F) R := by
  have hlen : X.length = F.length := by rw [hX]; simp
  induction l with
  | nil =>
    intro j hd
    have : F.length ≤ j := by have := congrArg List.length hd; simp at this; omega
    have c : ¬ (j : Int) < (X.length : Int) := by omega
    refine Ev.step (fun k => ?_) E
    simp only [epicyclelaw04_ProofClaims.l1]
    rw [if_neg c]
  | cons x l ih =>
    intro j hd
    obtain ⟨hx, hlt, hd'⟩ := rd60_drop hd
    have c : (j : Int) < (X.length : Int) := by omega
    have c1 : (j : Int) < (F.length : Int) := by omega
    have c0 : 0 ≤ (j : Int) := by omega
    have w : wrap64 ((j : Int) + 1) = ((j + 1 : Nat) : Int) := by rw [w64_id _ (by omega) (by omega)]; omega
    have hr : rd_T59 X (j : Int) = cF x := by
      rw [← hx, hX]
      unfold rd_T59 rd_T60
      simp [List.getD, List.getElem?_eq_getElem hlt]
    have g0 : (cF x).f0 = x.f0 := rfl
    have g1 : (cF x).f1 = x.f1 := rfl
    refine Ev.step (fun k => ?_) (ih (j + 1) hd')
    simp only [epicyclelaw04_ProofClaims.l1]
    rw [if_pos c, if_pos c0, if_pos c, if_pos c1, hr, hx, g0, g1, if_neg (by simp), w]

theorem same_l0 {e : S46} (hL : L.length ≤ 1000) (hs : ∀ e ∈ L, e.f2.length ≤ 16) (hu : ∀ e' ∈ L, e'.f0 = p → e' = e) (hp : e.f0 = p) (l : List S46) : ∀ i : Nat, L.drop i = l →
    Ev (fun k => epicyclelaw04_ProofClaims.l0 k p ok L (L.length : Int) i e.f0 e.f1 (e.f2.map cF)) ok := by
  induction l with
  | nil =>
    intro i hd
    have : L.length ≤ i := by have := congrArg List.length hd; simp at this; omega
    have c : ¬ (i : Int) < (L.length : Int) := by omega
    refine Ev.step (f := fun _ => some ok) (fun k => ?_) (Ev.now _)
    simp only [epicyclelaw04_ProofClaims.l0]
    rw [if_neg c]
  | cons x l ih =>
    intro i hd
    obtain ⟨hx, hlt, hd'⟩ := rd46_drop hd
    have hxm : x ∈ L := List.mem_of_mem_drop (show x ∈ L.drop i by rw [hd]; exact List.mem_cons_self)
    have c : (i : Int) < (L.length : Int) := by omega
    have c0 : 0 ≤ (i : Int) := by omega
    have w : wrap64 ((i : Int) + 1) = ((i + 1 : Nat) : Int) := by rw [w64_id _ (by omega) (by omega)]; omega
    have IH := ih (i + 1) hd'
    by_cases h : x.f0 = p
    · have hxe := hu x hxm h
      subst hxe
      have hf : x.f2.length ≤ 1000 := by have := hs x hxm; omega
      have L1 := same_l1 (L := L) (p := p) (P := x.f0) (G := x.f1) (ok := ok) (i := (i : Int)) (len := (L.length : Int)) (X := x.f2.map cF) (F := x.f2) (P' := x.f0) (G' := x.f1) (R := ok) rfl hf (by rw [w]; exact IH) x.f2 0 rfl
      have hne : (((x.f2.map cF).length : Int) != (x.f2.length : Int)) = false := by simp
      refine Ev.step (f := fun k => epicyclelaw04_ProofClaims.j2 k p ok L (L.length : Int) i false x.f0 x.f1 (x.f2.map cF) x.f0 x.f1 x.f2) (fun k => ?_) (Ev.step (fun k => ?_) L1)
      · simp only [epicyclelaw04_ProofClaims.l0]
        rw [if_pos c, if_pos c0, if_pos c, hx, if_pos h, if_pos h, if_pos rfl, hne]
      · simp only [epicyclelaw04_ProofClaims.j2]
        rw [if_neg ft]
        rfl
    · refine Ev.step (fun k => ?_) IH
      simp only [epicyclelaw04_ProofClaims.l0]
      rw [if_pos c, if_pos c0, if_pos c, hx, if_neg h, w]

theorem none_j0 : Ev (fun k => epicyclelaw04_ProofClaims.j0 k L p false true 0 0 []) true :=
  Ev.step (f := fun _ => some true) (fun k => by simp [epicyclelaw04_ProofClaims.j0]) (Ev.now _)
end

theorem find_has (L : List S46) (p : Int) : (has46 L p = false ∧ L.find? (fun e => e.f0 == p) = none) ∨ (has46 L p = true ∧ ∃ e ∈ L, e.f0 = p ∧ L.find? (fun e => e.f0 == p) = some e) := by
  cases h : L.find? (fun e => e.f0 == p) with
  | none =>
    refine .inl ⟨?_, rfl⟩
    unfold has46
    rw [List.any_eq_false]
    exact fun x hx => by have := List.find?_eq_none.1 h x hx; simpa using this
  | some e =>
    have hm := List.mem_of_find?_eq_some h
    have hp := List.find?_some h
    refine .inr ⟨?_, e, hm, by simpa using hp, rfl⟩
    unfold has46
    rw [List.any_eq_true]
    exact ⟨e, hm, hp⟩

theorem claims_ev {L : List S46} (hL : okRow L) (p : Int) : Ev (fun k => epicyclelaw04_ProofClaims.f k L p) true := by
  refine Ev.bind alive_ev (congrE ⟨_, fun k => by rw [if_pos rfl], ?_⟩)
  obtain ⟨b, hb, h40⟩ := great_ev L
  refine Ev.bind hb ?_
  cases b with
  | true => exact evP rfl (Ev.now _)
  | false =>
    have h40 := h40 rfl
    refine evN ft ?_
    refine Ev.bind (rows_ev hL.1) ?_
    by_cases hc : (checkS (L.map tri46)).2 = 0
    · obtain ⟨hr, h32⟩ := right_facts hc
      have hs := right_small hr
      have hcl : Ev (fun k => proof_Claim.f k (L.map cE) p) (foundS L p) := by
        refine Ev.congr (f := fun k => (proof_Check.f k (L.map cE)).bind fun bt236 => (if bt236.2 = 0 then (proof_Claim.l0 k p (L.map cE) (L.length : Int) 0) else (some (0, 0, ([] : List (S59)), false)))) (fun k => ?_) (Ev.bind (rcheck_ev hL) ?_)
        · unfold proof_Claim.f
          rw [List.length_map]
        · exact evP hc (claim_l0 (by omega) (fun e he => by have := hs e he; omega) L 0 rfl)
      refine Ev.bind hcl (Ev.bind (refcheck_ev hL.2) (evP hc (Ev.bind (claimed_ev p (by omega)) ?_)))
      rcases find_has L p with ⟨h1, h2⟩ | ⟨h1, e, he, hp, h2⟩
      · have hf : foundS L p = (0, 0, [], false) := by unfold foundS; rw [h2]
        rw [hf, h1]
        exact none_j0
      · have hf : foundS L p = (e.f0, e.f1, e.f2.map cF, true) := by unfold foundS; rw [h2]
        rw [hf, h1]
        refine Ev.step (fun k => ?_) (same_l0 (L := L) (p := p) (ok := true) (e := e) (by omega) hs (fun e' he' h' => right_unique hr he' he (by rw [h', hp])) hp L 0 rfl)
        simp only [epicyclelaw04_ProofClaims.j0]
        rw [if_neg (show ¬ (!true) = true by decide)]
        rfl
    · have hcl : Ev (fun k => proof_Claim.f k (L.map cE) p) (0, 0, [], false) := by
        refine Ev.congr (f := fun k => (proof_Check.f k (L.map cE)).bind fun bt236 => (if bt236.2 = 0 then (proof_Claim.l0 k p (L.map cE) (L.length : Int) 0) else (some (0, 0, ([] : List (S59)), false)))) (fun k => ?_) (Ev.bind (rcheck_ev hL) ?_)
        · unfold proof_Claim.f
          rw [List.length_map]
        · exact evN hc (Ev.now _)
      exact Ev.bind hcl (Ev.bind (refcheck_ev hL.2) (evN hc none_j0))

theorem claims_walk (A : Option Addr) (c : Nat) (l : List S46) (p : Int) (w : World) (hc : l.length ≤ c) (hr : Kd.C k46 w A l.length l) (ho : okArg l) (_wp : (Lit.int .u64 p).wf = true) :
    Calls Try.prog 13 #[.slice A l.length c, .int .u64 p] w fun e w' => e = .returned (.bool true) ∧ Below w.heap.size w w' := by
  obtain ⟨k, hk⟩ := Ev.rounds (claims_ev (okArg_row ho) p)
  exact epicyclelaw04_ProofClaims.calls k A c l p w hr hc hk

end Go.Proofs.Ytcnnaciilphadaa.XP
