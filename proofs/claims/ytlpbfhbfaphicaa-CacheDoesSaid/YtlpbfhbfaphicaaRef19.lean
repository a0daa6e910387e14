/- Layer 19 (cache): the document's cache in memory; where a key is; appends of pairs. -/
import Derived.Test.YtlpbfhbfaphicaaKyw19
namespace Go.Proofs.Ytlpbfhbfaphicaa.C19
open Go Go.RowKit Go.Maps Go.Lib Go.Sort Go.Proofs.YtlpbfhbfaphicaaW.PrintWords Go.Proofs.YtlpbfhbfaphicaaW.PrintLast Go.Proofs.YtlpbfhbfaphicaaW.PrintMore Go.Proofs.Ytlpbfhbfaphicaa.XA

set_option linter.unusedVariables false
attribute [local go_sem high] eqA37
attribute [local go_sem] max2_int min2_int max_two min_two max_three min_three max_four min_four
abbrev pc (p : Pr) : List Value := [.int .u64 p.1.f0, .int .i64 p.1.f1, .int .i64 p.1.f2, .int .i64 p.2]
abbrev pv (p : Pr) : Value := .agg #[.int .u64 p.1.f0, .int .i64 p.1.f1, .int .i64 p.1.f2, .int .i64 p.2]
def encP : List Pr → List Value
  | [] => []
  | p :: t => pc p ++ encP t
theorem encP_len : ∀ l : List Pr, (encP l).length = l.length * 4
  | [] => rfl
  | p :: t => by
    have h := encP_len t
    have h2 : (encP (p :: t)).length = (pc p).length + (encP t).length := List.length_append
    have h3 : (pc p).length = 4 := rfl
    have h4 : (p :: t).length = t.length + 1 := rfl
    omega
theorem encP_app : ∀ a b : List Pr, encP (a ++ b) = encP a ++ encP b
  | [], _ => rfl
  | p :: t, b => by
    show pc p ++ encP (t ++ b) = (pc p ++ encP t) ++ encP b
    rw [encP_app t b, List.append_assoc]
theorem encP_one : ∀ l : List Pr, ∀ u ∈ encP l, u.oneCell' = true
  | [], _, h => by cases h
  | p :: t, u, h => by
    rcases List.mem_append.1 h with h | h
    · simp at h
      rcases h with rfl | rfl | rfl | rfl <;> rfl
    · exact encP_one t u h
theorem encP_at : ∀ (l : List Pr) (j : Nat) (p : Pr), l[j]? = some p → ((encP l).drop (j * 4)).take 4 = pc p
  | [], j, p, h => by simp at h
  | q :: t, 0, p, h => by
    have : q = p := by simpa using h
    subst this
    rfl
  | q :: t, j + 1, p, h => by
    have h2 : t[j]? = some p := by simpa using h
    have e : (encP (q :: t)).drop ((j + 1) * 4) = (encP t).drop (j * 4) := by
      have e0 : encP (q :: t) = pc q ++ encP t := rfl
      have e1 : (j + 1) * 4 = (pc q).length + j * 4 := by
        have : (pc q).length = 4 := rfl
        omega
      rw [e0, e1, ← List.drop_drop, List.drop_left]
    rw [e]
    exact encP_at t j p h2
/-- A row of pairs. -/
structure RowP (w : World) (base : Nat) (ok : Nat → Prop) (v : Value) (l : List Pr) : Prop where
  own : w.ownsRow base 70 4 v l.length (encP l)
  ok : ∀ k, v.ownBlock = some k → ok k
theorem RowP.R {w : World} {base : Nat} {ok : Nat → Prop} {v : Value} {l : List Pr} (h : RowP w base ok v l) : kP.R 70 w base ok v l :=
  ⟨h.ok, encP l, h.own, encP_len l, fun j p hj => by
    show kP.M w base _ p (((encP l).drop (j * 4)).take 4)
    rw [encP_at l j p hj]
    exact ⟨kc p.1, [.int .i64 p.2], rfl, k35_mkM _ _ _ _, rfl⟩⟩
theorem RowP.lt {w : World} {base : Nat} {ok : Nat → Prop} {v : Value} {l : List Pr} (h : RowP w base ok v l) : ∀ k, v.ownBlock = some k → base ≤ k ∧ k < w.heap.size := fun k hk => ⟨Kd.R_base h.R k hk, Kd.R_lt h.R k hk⟩
theorem RowP.move {w w1 : World} {base : Nat} {ok : Nat → Prop} {v : Value} {l : List Pr} (h : RowP w base ok v l) (hm : ∀ k, k < w.heap.size → ok k → w1.heap[k]? = w.heap[k]?) : RowP w1 base ok v l :=
  ⟨own_move h.own fun k hk => hm k (h.lt k hk).2 (h.ok k hk), h.ok⟩
theorem RowP.below {w w1 : World} {base : Nat} {ok : Nat → Prop} {v : Value} {l : List Pr} (h : RowP w base ok v l) (hb : Below w.heap.size w w1) : RowP w1 base ok v l := h.move fun k hk _ => hb.block k hk
theorem RowP.mono {w : World} {base : Nat} {ok ok' : Nat → Prop} {v : Value} {l : List Pr} (h : RowP w base ok v l) (hm : ∀ k, k < w.heap.size → ok k → ok' k) : RowP w base ok' v l := ⟨h.own, fun k hk => hm k (h.lt k hk).2 (h.ok k hk)⟩
/-- The document's cache in block g. -/
structure CRef (w : World) (base : Nat) (ok : Nat → Prop) (g : Nat) (room : Int) (v : Value) (l : List Pr) : Prop where
  blk : w.heap[g]? = some (.cells #[.int .i64 room, v] 53 (0, 0))
  row : RowP w base (fun k => ok k ∧ k ≠ g) v l
  okg : ok g
  geg : base ≤ g
section
variable {w w1 : World} {base g : Nat} {ok ok' : Nat → Prop} {room : Int} {v : Value} {l : List Pr}
theorem CRef.lt (H : CRef w base ok g room v l) : g < w.heap.size ∧ ∀ k, v.ownBlock = some k → k < w.heap.size := ⟨blk_lt H.blk, fun k hk => (H.row.lt k hk).2⟩
theorem CRef.move (H : CRef w base ok g room v l) (hm : ∀ k, k < w.heap.size → ok k → w1.heap[k]? = w.heap[k]?) : CRef w1 base ok g room v l := ⟨(hm g H.lt.1 H.okg).trans H.blk, H.row.move fun k hk ho => hm k hk ho.1, H.okg, H.geg⟩
theorem CRef.below (H : CRef w base ok g room v l) (hb : Below w.heap.size w w1) : CRef w1 base ok g room v l := H.move fun k hk _ => hb.block k hk
theorem CRef.mono (H : CRef w base ok g room v l) (hm : ∀ k, k < w.heap.size → ok k → ok' k) : CRef w base ok' g room v l := ⟨H.blk, H.row.mono fun k hk ho => ⟨hm k hk ho.1, ho.2⟩, hm g H.lt.1 H.okg, H.geg⟩
theorem CRef.cells (H : CRef w base ok g room v l) : w.cell? ⟨g, 0, none⟩ = some (.int .i64 room) ∧ w.cell? ⟨g, 1, none⟩ = some v ∧ w.frozen? ⟨g, 1, none⟩ = false := ⟨(blk_cell H.blk 0).trans rfl, (blk_cell H.blk 1).trans rfl, blk_frozen H.blk 1⟩
end
/-- Pairs behind a row, out of any row that is read. -/
theorem appendP {W : World} {base : Nat} {ok : Nat → Prop} {v : Value} {l ys : List Pr} {A : Addr} {c : Nat} (HR : RowP W base ok v l) (hread : ∀ j u, (encP ys)[j]? = some u → W.cell? (A.add j) = some u) (hfresh : ∀ k, W.heap.size ≤ k → ok k) (hbase : base ≤ W.heap.size) (hn : l.length + ys.length ≤ 100000) :
    ∃ v1 w1, (∀ ty, (Builtin.append_ #[51, 51] ty #[v, .slice (some A) ys.length c]).run Try.prog W = .ok v1 w1) ∧ RowP w1 base ok v1 (l ++ ys) ∧ W.grownBy w1 v.ownBlock ∧ (v1.ownBlock = v.ownBlock ∨ v1.ownBlock = some W.heap.size) := by
  obtain ⟨i0, z0, hi0, hsz, hz, hby, hzs⟩ : ∃ i0 z0, Try.prog.info? 70 = some i0 ∧ i0.size = 4 ∧ i0.zero = some z0 ∧ i0.bytes = 32 ∧ z0.cells.size = 4 := by
    have h1 : (Try.prog.info? 70).map (fun i => (i.size, i.zero, i.bytes)) = some (4, some (pv (⟨0, 0, 0⟩, 0)), 32) := by kernel_rfl
    obtain ⟨i0, hi, he⟩ := Option.map_eq_some_iff.1 h1
    simp only [Prod.mk.injEq] at he
    exact ⟨i0, _, hi, he.1, he.2.1, he.2.2, rfl⟩
  obtain ⟨v1, w1, hrun, h2, h3, h4, h5⟩ := run_append_own_at (P := Try.prog) W base 51 51 70 i0 z0 4 32 Try.underlying51 hi0 hz hsz hby hzs (by decide) v l.length (encP l) HR.own A ys.length c (encP ys) (encP_len ys) hread (encP_one ys) (by show l.length + ys.length ≤ 9223372036854775807; omega) (by omega) hbase
  refine ⟨v1, w1, fun ty => hrun, ⟨by rw [encP_app, List.length_append]; exact h2, ?_⟩, h3, h5⟩
  intro k hk
  rcases h5 with h5 | h5
  · rw [h5] at hk
    exact HR.ok k hk
  · rw [h5] at hk
    exact hfresh k (by cases hk; exact Nat.le_refl _)
theorem read_take {W : World} {base g c : Nat} {ok : Nat → Prop} {l : List Pr} (HR : RowP W base ok (.slice (some ⟨g, 0, none⟩) l.length c) l) (i : Nat) : ∀ j u, (encP (l.take i))[j]? = some u → W.cell? ((⟨g, 0, none⟩ : Addr).add j) = some u := by
  intro j u hu
  refine HR.own.cells (g := g) rfl j u ?_
  have h2 : encP l = encP (l.take i) ++ encP (l.drop i) := by rw [← encP_app, List.take_append_drop]
  rw [h2, List.getElem?_append_left (List.getElem?_eq_some_iff.1 hu).1]
  exact hu
theorem read_drop {W : World} {base g c : Nat} {ok : Nat → Prop} {l : List Pr} (HR : RowP W base ok (.slice (some ⟨g, 0, none⟩) l.length c) l) (i : Nat) : ∀ j u, (encP (l.drop i))[j]? = some u → W.cell? ((⟨g, i * 4, none⟩ : Addr).add j) = some u := by
  intro j u hu
  by_cases hi : i ≤ l.length
  · have h3 := HR.own.cells (g := g) rfl (i * 4 + j) u (by
      have h2 : encP l = encP (l.take i) ++ encP (l.drop i) := by rw [← encP_app, List.take_append_drop]
      have h4 : (encP (l.take i)).length = i * 4 := by rw [encP_len, List.length_take, Nat.min_eq_left hi]
      rw [h2, List.getElem?_append_right (by omega), h4, Nat.add_sub_cancel_left]
      exact hu)
    rw [← h3]
    simp only [Addr.add]
    congr 1
    by_cases hj : j = 0
    · subst hj
      by_cases h0 : i * 4 = 0
      · simp [h0]
      · simp [h0]
    · simp [hj]
  · rw [List.drop_of_length_le (by omega)] at hu
    simp [encP] at hu
end Go.Proofs.Ytlpbfhbfaphicaa.C19
