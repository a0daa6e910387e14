/- Layer 19 (cache): a key as a map has it; what a map of keys tells, by the pairs that were laid into it. -/
import Derived.Test.YtlpbfhbfaphicaaUse19
import Derived.DeepKeys3
namespace Go.Proofs.Ytlpbfhbfaphicaa.C19
open Go Go.RowKit Go.Maps Go.Proofs.YtlpbfhbfaphicaaW.PrintWords Go.Proofs.YtlpbfhbfaphicaaW.PrintLast Go.Proofs.YtlpbfhbfaphicaaW.PrintMore Go.Proofs.Ytlpbfhbfaphicaa.XA

set_option linter.unusedVariables false
def W64 (x : Int) : Prop := -9223372036854775808 ≤ x ∧ x ≤ 9223372036854775807
def Wk (x : K3) : Prop := (0 ≤ x.f0 ∧ x.f0 ≤ 18446744073709551615) ∧ W64 x.f1 ∧ W64 x.f2
theorem W64.wf {x : Int} (h : W64 x) : (Lit.int .i64 x).wf = true := by
  unfold W64 at h
  simp [Lit.wf, IntKind.min, IntKind.max, IntKind.bits, IntKind.signed]
  omega
theorem wfu {x : Int} (h : 0 ≤ x ∧ x ≤ 18446744073709551615) : (Lit.int .u64 x).wf = true := by
  simp [Lit.wf, IntKind.min, IntKind.max, IntKind.bits, IntKind.signed]
  omega
theorem keyLaw : WideMaps.KeyLaw Try.prog 35 := deep_law (m := 2) (by omega) (by kernel_rfl) (by kernel_rfl) (by kernel_rfl)
theorem keyed : Keyed Try.prog 35 := Keyed.of_law keyLaw
abbrev kl (x : K3) : Lit := .string (keyBytes [.int .u64 x.f0, .int .i64 x.f1, .int .i64 x.f2])
theorem keyOf_kl {x : K3} (h : Wk x) : keyOf Try.prog 35 (kv x) = some (kl x) := by
  have h0 := wfu h.1
  have h1 := h.2.1.wf
  have h2 := h.2.2.wf
  have hf : ((Try.prog.keyType 35 && Value.formed Try.prog 35 (kv x)) = true) := by
    rw [Bool.and_eq_true]
    exact ⟨by kernel_rfl, by kernel_rfl⟩
  obtain ⟨m, hm⟩ : ∃ m, Try.prog.types.size = m + 2 := ⟨Try.prog.types.size - 2, by kernel_rfl⟩
  have hc : Try.prog.cellsOf 35 = 3 := by kernel_rfl
  unfold keyOf
  simp only [Try.underlying35]
  rw [if_pos hf, hm]
  unfold Program.keyLits
  simp only [Try.underlying35, hc]
  have e3 : (kv x).cells.toList = kc x := rfl
  rw [if_pos ⟨rfl, by kernel_rfl⟩, e3]
  have c32 : Try.prog.cellsOf 32 = 1 := by kernel_rfl
  have c3 : Try.prog.cellsOf 3 = 1 := by kernel_rfl
  have c33 : Try.prog.cellsOf 33 = 1 := by kernel_rfl
  simp [List.mapM_cons, Program.keyLits, Try.underlying32, Try.underlying3, Try.underlying33, c32, c3, c33, h0, h1, h2]
theorem kl_ne {x y : K3} (hx : Wk x) (hy : Wk y) (h : x ≠ y) : kl x ≠ kl y := by
  intro e
  have h1 := keyOf_kl hx
  have h2 := keyOf_kl hy
  rw [e] at h1
  have h3 := keyed.inj h1 h2
  have h4 : kc x = kc y := by
    have := congrArg (fun v => match v with | Value.agg cs => cs.toList | _ => []) h3
    exact this
  apply h
  cases x; cases y
  simp at h4
  simp [h4]
/-- What is kept, by what key, the one used last at the end. -/
abbrev Pr := K3 × Int
def lookP : List Pr → K3 → Option Int
  | [], _ => none
  | e :: t, k => if e.1 = k then some e.2 else lookP t k
def delP (P : List Pr) (k : K3) : List Pr := P.filter fun e => decide (e.1 ≠ k)
def getP (P : List Pr) (k : K3) : List Pr := match lookP P k with | none => P | some v => delP P k ++ [(k, v)]
def putP (room : Int) (P : List Pr) (k : K3) (v : Int) : List Pr :=
  if room = 0 then P else if (lookP P k).isSome = true then delP P k ++ [(k, v)] else if (P.length : Int) = room then P.tail ++ [(k, v)] else P ++ [(k, v)]
theorem look_none {P : List Pr} {k : K3} : lookP P k = none ↔ k ∉ P.map Prod.fst := by
  induction P with
  | nil => simp [lookP]
  | cons e t ih =>
    rw [List.map_cons, List.mem_cons, not_or, ← ih]
    show (if e.1 = k then some e.2 else lookP t k) = none ↔ _
    by_cases c : e.1 = k
    · rw [if_pos c]
      exact ⟨fun h => by simp at h, fun h => absurd c.symm h.1⟩
    · rw [if_neg c]
      exact ⟨fun h => ⟨fun q => c q.symm, h⟩, fun h => h.2⟩
theorem look_del_same (P : List Pr) (k : K3) : lookP (delP P k) k = none := by
  rw [look_none]
  intro h
  obtain ⟨e, he, hk⟩ := List.mem_map.1 h
  have := (List.mem_filter.1 he).2
  simp at this
  exact this hk
theorem look_del_other (P : List Pr) {k k' : K3} (h : k' ≠ k) : lookP (delP P k) k' = lookP P k' := by
  induction P with
  | nil => rfl
  | cons e t ih =>
    by_cases c : e.1 = k
    · have e1 : delP (e :: t) k = delP t k := by simp [delP, c]
      have e2 : lookP (e :: t) k' = lookP t k' := by
        show (if e.1 = k' then _ else _) = _
        rw [if_neg (fun q => h (q.symm.trans c))]
      rw [e1, e2, ih]
    · have e1 : delP (e :: t) k = e :: delP t k := by simp [delP, c]
      rw [e1]
      show (if e.1 = k' then _ else _) = (if e.1 = k' then _ else _)
      rw [ih]
theorem look_app (P : List Pr) (k k' : K3) (v : Int) : lookP (P ++ [(k, v)]) k' = match lookP P k' with | some x => some x | none => if k = k' then some v else none := by
  induction P with
  | nil => rfl
  | cons e t ih =>
    by_cases c : e.1 = k'
    · simp [lookP, c]
    · simp only [List.cons_append, lookP, if_neg c]
      exact ih
theorem look_put (P : List Pr) (k k' : K3) (v : Int) (h : lookP P k = none) : lookP (P ++ [(k, v)]) k' = if k = k' then some v else lookP P k' := by
  rw [look_app]
  by_cases c : k = k'
  · subst c
    rw [h, if_pos rfl]
  · rw [if_neg c, if_neg c]
    cases lookP P k' <;> rfl
theorem look_last (P : List Pr) (k k' : K3) (v : Int) : lookP (delP P k ++ [(k, v)]) k' = if k = k' then some v else lookP P k' := by
  rw [look_put _ _ _ _ (look_del_same P k)]
  by_cases c : k = k'
  · rw [if_pos c, if_pos c]
  · rw [if_neg c, if_neg c, look_del_other P (fun e => c e.symm)]
theorem look_getP (P : List Pr) (k k' : K3) : lookP (getP P k) k' = lookP P k' := by
  unfold getP
  cases h : lookP P k with
  | none => rfl
  | some v =>
    show lookP (delP P k ++ [(k, v)]) k' = _
    rw [look_last]
    by_cases c : k = k'
    · subst c
      rw [if_pos rfl, h]
    · rw [if_neg c]
theorem look_tail {P : List Pr} (hn : (P.map Prod.fst).Nodup) {e : Pr} (he : P.head? = some e) (k : K3) : lookP P.tail k = if e.1 = k then none else lookP P k := by
  cases P with
  | nil => simp at he
  | cons a t =>
    have : a = e := by simpa using he
    subst this
    rw [List.map_cons, List.nodup_cons] at hn
    by_cases c : a.1 = k
    · rw [if_pos c]
      exact look_none.2 (by rw [← c]; exact hn.1)
    · rw [if_neg c]
      show lookP t k = if a.1 = k then _ else _
      rw [if_neg c]
theorem erase_nodup {α : Type} [DecidableEq α] : ∀ (L : List α) (i : Nat) (x : α), L.Nodup → L[i]? = some x → L.eraseIdx i = L.filter fun y => decide (y ≠ x)
  | [], _, _, _, h => by simp at h
  | a :: t, 0, x, hn, h => by
    have : a = x := by simpa using h
    subst this
    rw [List.nodup_cons] at hn
    rw [List.eraseIdx_cons_zero, List.filter_cons, if_neg (by simp)]
    exact (List.filter_eq_self.2 fun y hy => by
      simp
      intro e
      exact hn.1 (e ▸ hy)).symm
  | a :: t, i + 1, x, hn, h => by
    rw [List.nodup_cons] at hn
    have hx : t[i]? = some x := by simpa using h
    have hne : a ≠ x := fun e => hn.1 (e ▸ List.mem_of_getElem? hx)
    rw [List.eraseIdx_cons_succ, List.filter_cons, if_pos (by simpa using hne), erase_nodup t i x hn.2 hx]
theorem map_del (P : List Pr) (k : K3) : (delP P k).map Prod.fst = (P.map Prod.fst).filter fun y => decide (y ≠ k) := by
  unfold delP
  rw [List.filter_map]
  rfl
theorem look_at {P : List Pr} {k : K3} {v : Int} (h : lookP P k = some v) : ∃ i : Nat, (P.map Prod.fst)[i]? = some k ∧ ∀ j : Nat, j < i → (P.map Prod.fst)[j]? ≠ some k := by
  induction P with
  | nil => simp [lookP] at h
  | cons e t ih =>
    by_cases c : e.1 = k
    · exact ⟨0, by simp [c], fun j hj => by omega⟩
    · have h2 : lookP t k = some v := by simpa [lookP, c] using h
      obtain ⟨i, h3, h4⟩ := ih h2
      refine ⟨i + 1, by simpa using h3, fun j hj => ?_⟩
      cases j with
      | zero => simp [c]
      | succ j =>
        have := h4 j (by omega)
        simpa using this
theorem nodup_last {P : List Pr} (hn : (P.map Prod.fst).Nodup) (k : K3) (v : Int) : ((delP P k ++ [(k, v)]).map Prod.fst).Nodup := by
  rw [List.map_append, map_del]
  refine List.nodup_append.2 ⟨hn.filter _, by simp, ?_⟩
  intro a ha b hb
  have h1 := (List.mem_filter.1 ha).2
  simp at hb h1
  rw [hb]
  exact h1
theorem nodup_put {P : List Pr} (hn : (P.map Prod.fst).Nodup) {k : K3} {v : Int} (h : lookP P k = none) : ((P ++ [(k, v)]).map Prod.fst).Nodup := by
  rw [List.map_append]
  refine List.nodup_append.2 ⟨hn, by simp, ?_⟩
  intro a ha b hb
  simp at hb
  rw [hb]
  intro e
  exact look_none.1 h (e ▸ ha)
theorem del_len {P : List Pr} (hn : (P.map Prod.fst).Nodup) {k : K3} {v : Int} (h : lookP P k = some v) : (delP P k).length + 1 = P.length := by
  obtain ⟨i, hi, _⟩ := look_at h
  have h1 := erase_nodup _ i k hn hi
  rw [← map_del] at h1
  have h2 := congrArg List.length h1
  have hl : i < (P.map Prod.fst).length := (List.getElem?_eq_some_iff.1 hi).1
  rw [List.length_eraseIdx_of_lt hl, List.length_map, List.length_map] at h2
  rw [List.length_map] at hl
  omega
/-- The map tells the pairs. -/
structure MRel (D : DataW Value) (P : List Pr) : Prop where
  has : ∀ k, Wk k → Maps.has D (kl k) = (lookP P k).isSome
  at_ : ∀ k, Wk k → D.atKey (kl k) (.lit (.int .i64 0)) = .lit (.int .i64 ((lookP P k).getD 0))
theorem MRel.same {D : DataW Value} {P P' : List Pr} (h : MRel D P) (he : ∀ k, lookP P' k = lookP P k) : MRel D P' := ⟨fun k hk => by rw [he]; exact h.has k hk, fun k hk => by rw [he]; exact h.at_ k hk⟩
theorem MRel.put {D : DataW Value} {P P' : List Pr} (h : MRel D P) (hD : IsMap D) {k : K3} {v : Int} (hk : Wk k) (he : ∀ k', lookP P' k' = if k = k' then some v else lookP P k') : MRel (D.put (kl k) (.lit (.int .i64 v))) P' := by
  refine ⟨fun k' hk' => ?_, fun k' hk' => ?_⟩
  · rw [he]
    by_cases c : k = k'
    · subst c
      rw [if_pos rfl, Maps.has_put_same hD (show WideAt.IsKeyLit (kl k) from trivial)]
      rfl
    · rw [if_neg c, Maps.has_put_other (kl_ne hk' hk (fun e => c e.symm)), h.has k' hk']
  · rw [he]
    by_cases c : k = k'
    · subst c
      rw [if_pos rfl, Maps.atKey_put_same hD (show WideAt.IsKeyLit (kl k) from trivial)]
      rfl
    · rw [if_neg c, Maps.atKey_put_other (kl_ne hk' hk (fun e => c e.symm)), h.at_ k' hk']
theorem MRel.del {D : DataW Value} {P P' : List Pr} (h : MRel D P) {k : K3} (hk : Wk k) (he : ∀ k', lookP P' k' = if k = k' then none else lookP P k') : MRel (D.del (kl k)) P' := by
  refine ⟨fun k' hk' => ?_, fun k' hk' => ?_⟩
  · rw [he]
    by_cases c : k = k'
    · subst c
      rw [if_pos rfl, Maps.has_del_same]
      rfl
    · rw [if_neg c, Maps.has_del_other (kl_ne hk' hk (fun e => c e.symm)), h.has k' hk']
  · rw [he]
    by_cases c : k = k'
    · subst c
      rw [if_pos rfl, Maps.atKey_del_same]
      rfl
    · rw [if_neg c, Maps.atKey_del_other (kl_ne hk' hk (fun e => c e.symm)), h.at_ k' hk']
/-- A cache, by its pairs. -/
structure CacP (w : World) (base : Nat) (ok : Nat → Prop) (g : Nat) (room h m : Int) (P : List Pr) (N : Nat) : Prop where
  ex : ∃ bm v D n, Cac w base ok g bm room h m v (P.map Prod.fst) D n ∧ MRel D P ∧ n ≤ N
  nodup : (P.map Prod.fst).Nodup
  wf : ∀ e ∈ P, Wk e.1 ∧ W64 e.2
  len : (P.length : Int) ≤ room
  room : room ≤ 64
theorem wf_del {P : List Pr} (h : ∀ e ∈ P, Wk e.1 ∧ W64 e.2) (k : K3) : ∀ e ∈ delP P k, Wk e.1 ∧ W64 e.2 := fun e he => h e (List.mem_filter.1 he).1
theorem wf_snoc {P : List Pr} (h : ∀ e ∈ P, Wk e.1 ∧ W64 e.2) {k : K3} {v : Int} (hk : Wk k) (hv : W64 v) : ∀ e ∈ P ++ [(k, v)], Wk e.1 ∧ W64 e.2 := fun e he => by
  rcases List.mem_append.1 he with q | q
  · exact h e q
  · simp at q
    subst q
    exact ⟨hk, hv⟩
theorem look_wf {P : List Pr} (h : ∀ e ∈ P, Wk e.1 ∧ W64 e.2) {k : K3} {v : Int} (hl : lookP P k = some v) : Wk k ∧ W64 v := by
  induction P with
  | nil => simp [lookP] at hl
  | cons e t ih =>
    by_cases c : e.1 = k
    · have : e.2 = v := by simpa [lookP, c] using hl
      rw [← c, ← this]
      exact h e List.mem_cons_self
    · exact ih (fun q hq => h q (List.mem_cons_of_mem _ hq)) (by simpa [lookP, c] using hl)
end Go.Proofs.Ytlpbfhbfaphicaa.C19
