/- Layer 4: rows, alive. -/
import Derived.Test.YtcnnaciilphadaaEv04b
import Derived.Test.YtcnnaciilphadaaXP4
namespace Go.Proofs.Ytcnnaciilphadaa.XP
open Go Go.RowKit Go.Proofs.YtcnnaciilphadaaW.PrintWords Go.Proofs.YtcnnaciilphadaaW.PrintLast Go.Proofs.YtcnnaciilphadaaW.PrintMore Go.Proofs.Ytcnnaciilphadaa.Given Go.Proofs.Ytcnnaciilphadaa.Given04 Go.Proofs.Ytcnnaciilphadaa.M Go.Proofs.Ytcnnaciilphadaa.Mont

def cF (x : S60) : S59 := ⟨x.f0, x.f1⟩
def cE (e : S46) : S54 := ⟨e.f0, e.f1, e.f2.map cF⟩
def p60 (x : S60) : Int × Int := (x.f0, x.f1)
def tri46 (e : S46) : Int × Int × List (Int × Int) := (e.f0, e.f1, e.f2.map p60)
theorem tri_cE (e : S46) : tri (cE e) = tri46 e := by
  unfold tri cE tri46
  rw [List.map_map]
  rfl
theorem map_tri (l : List S46) : (l.map cE).map tri = l.map tri46 := by
  rw [List.map_map]
  exact List.map_congr_left fun e _ => tri_cE e

theorem rd60_drop {F : List S60} {i : Nat} {x : S60} {l : List S60} (h : F.drop i = x :: l) : rd_T60 F (i : Int) = x ∧ i < F.length ∧ F.drop (i + 1) = l := by
  have hlt : i < F.length := by
    refine Classical.byContradiction fun c => ?_
    rw [List.drop_of_length_le (by omega)] at h
    cases h
  rw [List.drop_eq_getElem_cons hlt] at h
  injection h with h1 h2
  refine ⟨?_, hlt, h2⟩
  unfold rd_T60
  simp [List.getD, List.getElem?_eq_getElem hlt, h1]
theorem rd46_drop {F : List S46} {i : Nat} {x : S46} {l : List S46} (h : F.drop i = x :: l) : rd_T46 F (i : Int) = x ∧ i < F.length ∧ F.drop (i + 1) = l := by
  have hlt : i < F.length := by
    refine Classical.byContradiction fun c => ?_
    rw [List.drop_of_length_le (by omega)] at h
    cases h
  rw [List.drop_eq_getElem_cons hlt] at h
  injection h with h1 h2
  refine ⟨?_, hlt, h2⟩
  unfold rd_T46
  simp [List.getD, List.getElem?_eq_getElem hlt, h1]

theorem rows_l1 {x3 : List S54} {L : List S46} {len i P G : Int} {F : List S60} {R : List S54} (hF : F.length < 8796093022208) (h3 : x3.length < 3518437208883)
    (E : Ev (fun k => epicyclelaw04_rows.l0 k (x3 ++ [⟨P, G, F.map cF⟩]) L len (wrap64 (i + 1))) R) (l : List S60) :
    ∀ j : Nat, F.drop j = l → j ≤ F.length → Ev (fun k => epicyclelaw04_rows.l1 k x3 ((F.take j).map cF) L len i F (F.length : Int) j P G F) R := by
  induction l with
  | nil =>
    intro j hd hj
    have : F.length ≤ j := by have := congrArg List.length hd; simp at this; omega
    have q : ¬ (j : Int) < (F.length : Int) := by omega
    rw [List.take_of_length_le this]
    refine Ev.step (fun k => ?_) E
    simp only [epicyclelaw04_rows.l1]
    rw [if_neg q, if_pos h3]
  | cons x l ih =>
    intro j hd hj
    obtain ⟨hx, hlt, hd'⟩ := rd60_drop hd
    have q : (j : Int) < (F.length : Int) := by omega
    have q0 : 0 ≤ (j : Int) := by omega
    have w : wrap64 ((j : Int) + 1) = ((j + 1 : Nat) : Int) := by rw [w64_id _ (by omega) (by omega)]; omega
    have ql : ((F.take j).map cF).length < 8796093022208 := by simp; omega
    have IH := ih (j + 1) hd' (by omega)
    have e : (F.take (j + 1)).map cF = (F.take j).map cF ++ [⟨x.f0, x.f1⟩] := by
      have hg : F[j] = x := by
        rw [List.drop_eq_getElem_cons hlt] at hd
        injection hd
      rw [List.take_succ_eq_append_getElem hlt, hg, List.map_append]
      rfl
    rw [e] at IH
    refine Ev.step (fun k => ?_) IH
    simp only [epicyclelaw04_rows.l1]
    rw [if_pos q, if_pos q0, if_pos q, if_pos ql, hx, w]

def okLen (L : List S46) : Prop := L.length < 3518437208883 ∧ ∀ e ∈ L, e.f2.length < 8796093022208

theorem rows_l0 {L : List S46} (hL : okLen L) (l : List S46) : ∀ i : Nat, L.drop i = l → i ≤ L.length → Ev (fun k => epicyclelaw04_rows.l0 k ((L.take i).map cE) L (L.length : Int) i) (L.map cE) := by
  have h1 := hL.1
  induction l with
  | nil =>
    intro i hd hi
    have : L.length ≤ i := by have := congrArg List.length hd; simp at this; omega
    have q : ¬ (i : Int) < (L.length : Int) := by omega
    rw [List.take_of_length_le this]
    refine Ev.step (fun k => ?_) (Ev.now _)
    simp only [epicyclelaw04_rows.l0]
    rw [if_neg q]
  | cons x l ih =>
    intro i hd hi
    obtain ⟨hx, hlt, hd'⟩ := rd46_drop hd
    have hxm : x ∈ L := List.mem_of_mem_drop (show x ∈ L.drop i by rw [hd]; exact List.mem_cons_self)
    have q : (i : Int) < (L.length : Int) := by omega
    have q0 : 0 ≤ (i : Int) := by omega
    have w : wrap64 ((i : Int) + 1) = ((i + 1 : Nat) : Int) := by rw [w64_id _ (by omega) (by omega)]; omega
    have ql : ((L.take i).map cE).length < 3518437208883 := by simp; omega
    have IH := ih (i + 1) hd' (by omega)
    have e : (L.take (i + 1)).map cE = (L.take i).map cE ++ [⟨x.f0, x.f1, x.f2.map cF⟩] := by
      have hg : L[i] = x := by
        rw [List.drop_eq_getElem_cons hlt] at hd
        injection hd
      rw [List.take_succ_eq_append_getElem hlt, hg, List.map_append]
      rfl
    rw [e, ← w] at IH
    have L1 := rows_l1 (L := L) (len := (L.length : Int)) (i := (i : Int)) (hL.2 x hxm) ql IH x.f2 0 rfl (Nat.zero_le _)
    refine Ev.step (fun k => ?_) L1
    simp only [epicyclelaw04_rows.l0]
    rw [if_pos q, if_pos q0, if_pos q, hx]
    rfl

theorem rows_ev {L : List S46} (hL : okLen L) : Ev (fun k => epicyclelaw04_rows.f k L) (L.map cE) := by
  refine Ev.congr (fun k => ?_) (rows_l0 hL L 0 rfl (Nat.zero_le _))
  unfold epicyclelaw04_rows.f
  rfl

def okRow (L : List S46) : Prop := okLen L ∧ ∀ e ∈ L.map tri46, okE e

theorem rcheck_ev {L : List S46} (hL : okRow L) : Ev (fun k => proof_Check.f k (L.map cE)) (checkS (L.map tri46)) := by
  have := check_ev (L.map cE) (by rw [map_tri]; exact hL.2)
  rwa [map_tri] at this

theorem alive_ev : Ev (fun k => epicyclelaw04_alive.f k) true := by
  refine Ev.of (g := fun k => epicyclelaw04_alive.f k) (fun k => epicyclelaw04_alive.mono k) (k := 60) ?_
  kernel_rfl

end Go.Proofs.Ytcnnaciilphadaa.XP
