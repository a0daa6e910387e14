/- Layer 19 (cache): CacheHolds: what is found is what was put last; a call's cells. -/
import Derived.Test.YtlpbfhbfaphicaaArg19
namespace Go.Proofs.Ytlpbfhbfaphicaa.C19
open Go Go.RowKit Go.Maps Go.Lib Go.Sort Go.Proofs.YtlpbfhbfaphicaaW.PrintWords Go.Proofs.YtlpbfhbfaphicaaW.PrintLast Go.Proofs.YtlpbfhbfaphicaaW.PrintMore Go.Proofs.Ytlpbfhbfaphicaa.XA

set_option linter.unusedVariables false
def rdC (xs : List C5) (i : Nat) : C5 := xs.getD i ⟨false, ⟨0, 0, 0⟩, 0⟩
theorem at_C5 {w : World} {A : Option Addr} {n : Nat} {xs : List C5} (h : Kd.C kC w A n xs) (i : Nat) (h1 : i < n) : ∃ ad, A = some ad ∧ w.cell? (ad.add (i * 5)) = some (.bool (rdC xs i).put) ∧ w.cell? ⟨(ad.add (i * 5)).block, (ad.add (i * 5)).off + 1, none⟩ = some (.int .u64 (rdC xs i).key.f0) ∧ w.cell? ⟨(ad.add (i * 5)).block, (ad.add (i * 5)).off + 2, none⟩ = some (.int .i64 (rdC xs i).key.f1) ∧ w.cell? ⟨(ad.add (i * 5)).block, (ad.add (i * 5)).off + 3, none⟩ = some (.int .i64 (rdC xs i).key.f2) ∧ w.cell? ⟨(ad.add (i * 5)).block, (ad.add (i * 5)).off + 4, none⟩ = some (.int .i64 (rdC xs i).val) := by
  obtain ⟨ad, c, e, _, hK, hc0⟩ := Kd.C_get h ⟨false, ⟨0, 0, 0⟩, 0⟩ (i : Int) (by omega) (by omega)
  have hc : ∀ j u, c[j]? = some u → w.cell? (ad.add (i * 5 + j)) = some u := hc0
  obtain rfl := kC_open hK
  exact ⟨ad, e, hc 0 _ rfl, by rw [← add_field _ _ 1 (by omega)]; exact hc 1 _ rfl, by rw [← add_field _ _ 2 (by omega)]; exact hc 2 _ rfl, by rw [← add_field _ _ 3 (by omega)]; exact hc 3 _ rfl, by rw [← add_field _ _ 4 (by omega)]; exact hc 4 _ rfl⟩
theorem rdC_mem {xs : List C5} {i : Nat} (h : i < xs.length) : rdC xs i ∈ xs := by
  unfold rdC
  rw [List.getD_eq_getElem?_getD, List.getElem?_eq_getElem h]
  exact List.getElem_mem h
theorem take_rdC {xs : List C5} {i : Nat} (h : i < xs.length) : xs.take (i + 1) = xs.take i ++ [rdC xs i] := by
  unfold rdC
  rw [List.take_succ_eq_append_getElem h, List.getD_eq_getElem?_getD, List.getElem?_eq_getElem h]
  rfl
/-- The value that was put last by a key. -/
def lastPut (l : List C5) (k : K3) : Option Int := l.foldl (fun a c => if c.put = true ∧ c.key = k then some c.val else a) none
theorem lastPut_snoc (l : List C5) (c : C5) (k : K3) : lastPut (l ++ [c]) k = if c.put = true ∧ c.key = k then some c.val else lastPut l k := by
  unfold lastPut
  rw [List.foldl_append]
  rfl
theorem look_putP {room : Int} {P : List Pr} (hn : (P.map Prod.fst).Nodup) (hl : (P.length : Int) ≤ room) {k k' : K3} {x v : Int} (h : lookP (putP room P k x) k' = some v) : if k = k' then v = x else lookP P k' = some v := by
  unfold putP at h
  by_cases c0 : room = 0
  · rw [if_pos c0] at h
    have : P = [] := List.eq_nil_of_length_eq_zero (by omega)
    rw [this] at h
    cases h
  rw [if_neg c0] at h
  by_cases c1 : (lookP P k).isSome = true
  · rw [if_pos c1, look_last] at h
    by_cases c : k = k'
    · rw [if_pos c] at h ⊢
      exact (Option.some.inj h).symm
    · rw [if_neg c] at h ⊢
      exact h
  rw [if_neg c1] at h
  have hnone : lookP P k = none := by simpa using c1
  by_cases c2 : (P.length : Int) = room
  · rw [if_pos c2] at h
    have hP : ∃ e t, P = e :: t := by
      cases P with
      | nil => exact absurd (show room = 0 by simpa using c2.symm) c0
      | cons e t => exact ⟨e, t, rfl⟩
    obtain ⟨e, t, rfl⟩ := hP
    have ht := look_tail hn (e := e) rfl
    have hk : lookP (e :: t).tail k = none := by
      rw [ht, hnone]
      split <;> rfl
    rw [look_put _ _ _ _ hk] at h
    by_cases c : k = k'
    · rw [if_pos c] at h ⊢
      exact (Option.some.inj h).symm
    · rw [if_neg c] at h ⊢
      rw [ht] at h
      by_cases c3 : e.1 = k'
      · rw [if_pos c3] at h
        cases h
      · rw [if_neg c3] at h
        exact h
  · rw [if_neg c2, look_put _ _ _ _ hnone] at h
    by_cases c : k = k'
    · rw [if_pos c] at h ⊢
      exact (Option.some.inj h).symm
    · rw [if_neg c] at h ⊢
      exact h
theorem look_putP_same {room : Int} {P : List Pr} (hn : (P.map Prod.fst).Nodup) (h0 : room ≠ 0) (k : K3) (x : Int) : lookP (putP room P k x) k = some x := by
  unfold putP
  rw [if_neg h0]
  by_cases c1 : (lookP P k).isSome = true
  · rw [if_pos c1, look_last, if_pos rfl]
  rw [if_neg c1]
  have hnone : lookP P k = none := by simpa using c1
  by_cases c2 : (P.length : Int) = room
  · rw [if_pos c2]
    have hP : ∃ e t, P = e :: t := by
      cases P with
      | nil => exact absurd (show room = 0 by simpa using c2.symm) h0
      | cons e t => exact ⟨e, t, rfl⟩
    obtain ⟨e, t, rfl⟩ := hP
    rw [look_put _ _ _ _ (by rw [look_tail hn (e := e) rfl, hnone]; split <;> rfl), if_pos rfl]
  · rw [if_neg c2, look_put _ _ _ _ hnone, if_pos rfl]
/-- What is kept while the script goes on. -/
def Last (l : List C5) (P : List Pr) : Prop := ∀ k v, lookP P k = some v → lastPut l k = some v
theorem Last.put {l : List C5} {P : List Pr} {room : Int} (h : Last l P) (hn : (P.map Prod.fst).Nodup) (hl : (P.length : Int) ≤ room) {c : C5} (hc : c.put = true) : Last (l ++ [c]) (putP room P c.key c.val) := by
  intro k v hv
  have h1 := look_putP hn hl hv
  rw [lastPut_snoc]
  by_cases e : c.key = k
  · rw [if_pos e] at h1
    rw [if_pos ⟨hc, e⟩, h1]
  · rw [if_neg e] at h1
    rw [if_neg (fun q => e q.2)]
    exact h k v h1
theorem Last.not {l : List C5} {P : List Pr} (h : Last l P) {c : C5} (hc : c.put = false) : Last (l ++ [c]) P := by
  intro k v hv
  rw [lastPut_snoc, if_neg (fun q => by rw [hc] at q; cases q.1)]
  exact h k v hv
theorem Last.get {l : List C5} {P : List Pr} (h : Last l P) (k : K3) : Last l (getP P k) := by
  intro k' v hv
  rw [look_getP] at hv
  exact h k' v hv
/-- A box of a call. -/
def BoxC (w : World) (g : Nat) (c : C5) : Prop := w.heap[g]? = some (.cells (cc c).toArray 39 (0, 0))
theorem BoxC.cells {w : World} {g : Nat} {c : C5} (h : BoxC w g c) : w.cell? ⟨g, 0, none⟩ = some (.bool c.put) ∧ w.cell? ⟨g, 1, none⟩ = some (.int .u64 c.key.f0) ∧ w.cell? ⟨g, 2, none⟩ = some (.int .i64 c.key.f1) ∧ w.cell? ⟨g, 3, none⟩ = some (.int .i64 c.key.f2) ∧ w.cell? ⟨g, 4, none⟩ = some (.int .i64 c.val) := ⟨(blk_cell h 0).trans rfl, (blk_cell h 1).trans rfl, (blk_cell h 2).trans rfl, (blk_cell h 3).trans rfl, (blk_cell h 4).trans rfl⟩
theorem BoxC.kept {w w1 : World} {g : Nat} {c : C5} {ok : Nat → Prop} (h : BoxC w g c) (hk : Kept ok w w1) (hg : ¬ ok g) : BoxC w1 g c := (hk.block g (blk_lt h) hg).trans h
theorem BoxC.below {w w1 : World} {g : Nat} {c : C5} (h : BoxC w g c) (hb : Below w.heap.size w w1) : BoxC w1 g c := blk_below h hb
theorem key_calls (x : K3) (w : World) : Calls Try.prog 17 #[kv x] w fun e w' => e = .returned (kv x) ∧ Below w.heap.size w w' := epicyclelaw19_key.calls _ _ _ _ _ _ w rfl
theorem CacP.more {w : World} {base g N : Nat} {ok : Nat → Prop} {room h m : Int} {P : List Pr} (H : CacP w base ok g room h m P N) : CacP w base ok g room h m P (N + 1) := by
  obtain ⟨⟨bm, v, D, n, HC, hM, hn⟩, hnd, hwf, hlen, hroom⟩ := H
  exact ⟨⟨bm, v, D, n, HC, hM, Nat.le_succ_of_le hn⟩, hnd, hwf, hlen, hroom⟩
theorem eqA37 (d : Nat) (w : World) (x0 y0 : Int) (x1 y1 : Int) (x2 y2 : Int) :
    (Op.equalIn (d + 2) 37 (.agg #[.int .u64 x0, .int .i64 x1, .int .i64 x2]) (.agg #[.int .u64 y0, .int .i64 y1, .int .i64 y2])).run Try.prog w = .ok (x0 == y0 && (x1 == y1 && (x2 == y2))) w := by
  refine eqA_of Try.underlying37 (by kernel_rfl) ?_
  refine eqf_cons (by rfl) (by go_simp; rfl) (by go_simp; rfl) (by go_simp) ?_
  refine eqf_cons (by rfl) (by go_simp; rfl) (by go_simp; rfl) (by go_simp) ?_
  exact eqf_last (by rfl) (by go_simp; rfl) (by go_simp; rfl) (by go_simp)
end Go.Proofs.Ytlpbfhbfaphicaa.C19
