/- Layer 19 (cache): a cache in memory, what leaves it as it is; an element laid behind a row; where a key is. -/
import Derived.Test.YtlpbfhbfaphicaaInv19
import Derived.Lib.QuietBelow
namespace Go.Proofs.Ytlpbfhbfaphicaa.C19
open Go Go.RowKit Go.Maps Go.Proofs.YtlpbfhbfaphicaaW.PrintWords Go.Proofs.YtlpbfhbfaphicaaW.PrintLast Go.Proofs.YtlpbfhbfaphicaaW.PrintMore Go.Proofs.Ytlpbfhbfaphicaa.XA

set_option linter.unusedVariables false
/-- All blocks but those that are ok stay. -/
structure Kept (ok : Nat → Prop) (w w' : World) : Prop where
  os : w'.os = w.os
  tape : w'.tape = w.tape
  output : w'.output = w.output
  size : w.heap.size ≤ w'.heap.size
  block : ∀ k, k < w.heap.size → ¬ ok k → w'.heap[k]? = w.heap[k]?
section
variable {ok ok' : Nat → Prop} {w w1 w2 W : World}
theorem Kept.refl (ok : Nat → Prop) (w : World) : Kept ok w w := ⟨rfl, rfl, rfl, Nat.le_refl _, fun _ _ _ => rfl⟩
theorem Kept.trans (h : Kept ok w w1) (h' : Kept ok w1 w2) : Kept ok w w2 := ⟨h'.os.trans h.os, h'.tape.trans h.tape, h'.output.trans h.output, Nat.le_trans h.size h'.size, fun k hk hn => (h'.block k (Nat.lt_of_lt_of_le hk h.size) hn).trans (h.block k hk hn)⟩
theorem Kept.mono (h : Kept ok w w1) (hm : ∀ k, ok k → ok' k) : Kept ok' w w1 := ⟨h.os, h.tape, h.output, h.size, fun k hk hn => h.block k hk fun c => hn (hm k c)⟩
theorem Kept.of_below (ok : Nat → Prop) (h : Below w.heap.size w w1) : Kept ok w w1 := ⟨h.os, h.tape, h.output, h.size, fun k hk _ => h.block k hk⟩
theorem Kept.of_grown {g : Nat} (h : w.grownBy w1 (some g)) (hg : ok g) : Kept ok w w1 := ⟨h.os, h.tape, h.output, h.size, fun k hk hn => h.block k hk fun e => by cases e; exact hn hg⟩
theorem Kept.of_grown0 (h : w.grownBy w1 none) : Kept ok w w1 := ⟨h.os, h.tape, h.output, h.size, fun k hk hn => h.block k hk fun e => by cases e⟩
theorem Kept.of_row {v : Value} (h : w.grownBy w1 v.ownBlock) (hg : ∀ k, v.ownBlock = some k → ok k) : Kept ok w w1 := ⟨h.os, h.tape, h.output, h.size, fun k hk hn => h.block k hk fun e => hn (hg k e.symm)⟩
theorem Kept.set {g j : Nat} {u : Value} (hg : ok g) : Kept ok w (w.setCell ⟨g, j, none⟩ u) := ⟨rfl, rfl, rfl, by simp [World.setCell], fun k hk hn => Below.heap_setCell w ⟨g, j, none⟩ u k fun e => hn (by have e' : k = g := e; rw [e']; exact hg)⟩
theorem Kept.below (h : Kept ok w w1) {B : Nat} (hB : ∀ k, ok k → B ≤ k) (hb : Below B W w) (hs : B ≤ w.heap.size) : Below B W w1 :=
  hb.trans ⟨h.os, h.tape, h.output, h.size, fun k hk => h.block k (Nat.lt_of_lt_of_le hk hs) fun c => by have := hB k c; omega⟩
end
/-- The keys of one's own kind. -/
instance : DecidableEq K3 := fun a b => decidable_of_iff (a.f0 = b.f0 ∧ a.f1 = b.f1 ∧ a.f2 = b.f2) ⟨fun ⟨h0, h1, h2⟩ => by cases a; cases b; simp at h0 h1 h2; simp [h0, h1, h2], fun h => by rw [h]; exact ⟨rfl, rfl, rfl⟩⟩
/-- A cache in block g, its map in block bm: room, keys in order, how often one was there, and wasn't. -/
structure Cac (w : World) (base : Nat) (ok : Nat → Prop) (g bm : Nat) (room h m : Int) (v : Value) (L : List K3) (D : DataW Value) (n : Nat) : Prop where
  blk : w.heap[g]? = some (.cells #[.int .i64 room, v, .map (some bm), .int .i64 h, .int .i64 m] 65 (0, 0))
  row : kk.R 35 w base (fun k => ok k ∧ k ≠ g ∧ k ≠ bm) v L
  map : w.ownsMap Try.prog 35 (plainElem Try.prog 3) bm n D
  okg : ok g
  okm : ok bm
  geg : base ≤ g
  gem : base ≤ bm
  ne : bm ≠ g
section
variable {w w1 : World} {base g bm n : Nat} {ok ok' : Nat → Prop} {room h m : Int} {v : Value} {L : List K3} {D : DataW Value}
theorem Cac.lt (H : Cac w base ok g bm room h m v L D n) : g < w.heap.size ∧ bm < w.heap.size ∧ ∀ k, v.ownBlock = some k → k < w.heap.size := ⟨blk_lt H.blk, H.map.lt, Kd.R_lt H.row⟩
theorem Cac.move (H : Cac w base ok g bm room h m v L D n) (hm : ∀ k, k < w.heap.size → ok k → w1.heap[k]? = w.heap[k]?) : Cac w1 base ok g bm room h m v L D n := by
  refine ⟨(hm g H.lt.1 H.okg).trans H.blk, Kd.R_step H.row fun k hk hl => hm k hl hk.1, ?_, H.okg, H.okm, H.geg, H.gem, H.ne⟩
  obtain ⟨es, clock, hb, F, hs, hD⟩ := H.map
  exact ⟨es, clock, (hm bm H.lt.2.1 H.okm).trans hb, F, hs, hD⟩
theorem Cac.below (H : Cac w base ok g bm room h m v L D n) (hb : Below w.heap.size w w1) : Cac w1 base ok g bm room h m v L D n := H.move fun k hk _ => hb.block k hk
theorem Cac.mono (H : Cac w base ok g bm room h m v L D n) (hm : ∀ k, k < w.heap.size → ok k → ok' k) : Cac w base ok' g bm room h m v L D n :=
  ⟨H.blk, Kd.R_mono (Kd.R_bound H.row) fun k hk => ⟨hm k hk.2.2.1 hk.1.1, hk.1.2⟩, H.map, hm g H.lt.1 H.okg, hm bm H.lt.2.1 H.okm, H.geg, H.gem, H.ne⟩
/-- The cells of the cache. -/
theorem Cac.cells (H : Cac w base ok g bm room h m v L D n) : (w.cell? ⟨g, 0, none⟩ = some (.int .i64 room) ∧ w.cell? ⟨g, 1, none⟩ = some v ∧ w.cell? ⟨g, 2, none⟩ = some (.map (some bm)) ∧ w.cell? ⟨g, 3, none⟩ = some (.int .i64 h) ∧ w.cell? ⟨g, 4, none⟩ = some (.int .i64 m)) ∧ (w.frozen? ⟨g, 1, none⟩ = false ∧ w.frozen? ⟨g, 3, none⟩ = false ∧ w.frozen? ⟨g, 4, none⟩ = false) :=
  ⟨⟨(blk_cell H.blk 0).trans rfl, (blk_cell H.blk 1).trans rfl, (blk_cell H.blk 2).trans rfl, (blk_cell H.blk 3).trans rfl, (blk_cell H.blk 4).trans rfl⟩, blk_frozen H.blk 1, blk_frozen H.blk 3, blk_frozen H.blk 4⟩
end
/-- A box of a key. -/
def BoxK (w : World) (g : Nat) (x : K3) : Prop := w.heap[g]? = some (.cells (kc x).toArray 35 (0, 0))
theorem BoxK.cells {w : World} {g : Nat} {x : K3} (h : BoxK w g x) : w.cell? ⟨g, 0, none⟩ = some (.int .u64 x.f0) ∧ w.cell? ⟨g, 1, none⟩ = some (.int .i64 x.f1) ∧ w.cell? ⟨g, 2, none⟩ = some (.int .i64 x.f2) := ⟨(blk_cell h 0).trans rfl, (blk_cell h 1).trans rfl, (blk_cell h 2).trans rfl⟩
theorem BoxK.new (w : World) (x : K3) : BoxK (w.alloc (.cells (kc x).toArray 35 (0, 0))) w.heap.size x := blk_new _ _
theorem BoxK.kept {w w1 : World} {g : Nat} {x : K3} {ok : Nat → Prop} (h : BoxK w g x) (hk : Kept ok w w1) (hg : ¬ ok g) : BoxK w1 g x := (hk.block g (blk_lt h) hg).trans h
theorem BoxK.below {w w1 : World} {g : Nat} {x : K3} (h : BoxK w g x) (hb : Below w.heap.size w w1) : BoxK w1 g x := blk_below h hb
/-- One key behind a row, out of a literal. -/
theorem append1 {W : World} {base : Nat} {ok : Nat → Prop} {v : Value} {L : List K3} {x : K3} {gl : Nat} (HR : kk.R 35 W base ok v L) (hl : BoxK W gl x) (hfresh : ∀ k, W.heap.size ≤ k → ok k) (hbase : base ≤ W.heap.size) (hn : L.length ≤ 100000) :
    ∃ v1 w1, (∀ ty, (Builtin.append_ #[63, 63] ty #[v, .slice (some ⟨gl, 0, none⟩) 1 1]).run Try.prog W = .ok v1 w1) ∧ kk.R 35 w1 base ok v1 (L ++ [x]) ∧ W.grownBy w1 v.ownBlock := by
  obtain ⟨i0, hi0, hsz, hz, hby⟩ : ∃ i0, Try.prog.info? 35 = some i0 ∧ i0.size = 3 ∧ i0.zero = some (kv z35) ∧ i0.bytes = 24 := by
    have h1 : (Try.prog.info? 35).map (fun i => (i.size, i.zero, i.bytes)) = some (3, some (kv z35), 24) := by kernel_rfl
    obtain ⟨i0, hi, he⟩ := Option.map_eq_some_iff.1 h1
    simp only [Prod.mk.injEq] at he
    exact ⟨i0, hi, he.1, he.2.1, he.2.2⟩
  obtain ⟨h0, inner, hown, hr⟩ := HR
  have hm : maxLen = maxLen := rfl
  obtain ⟨v1, w1, hrun, h2, h3, h4, h5⟩ := run_append_own_at (P := Try.prog) W base 63 63 35 i0 (kv z35) 3 24 Try.underlying63 hi0 hz hsz hby rfl (by decide) v L.length inner hown ⟨gl, 0, none⟩ 1 1 (kc x) rfl
    (fun j u hu => by
      have hh := blk_cell hl j
      rw [List.getElem?_toArray] at hh
      rw [← hu, ← hh]
      simp only [Addr.add]
      split
      · rename_i e
        have e' : j = 0 := by simpa using e
        rw [e']
      · simp)
    (fun u hu => by simp at hu; rcases hu with rfl | rfl | rfl <;> rfl) (by show L.length + 1 ≤ 9223372036854775807; omega) (by omega) hbase
  refine ⟨v1, w1, fun ty => ?_, ?_, h3⟩
  · exact hrun
  · refine Kd.R_appended (okp := fun _ => False) h0 hr (k35_mkM W base _ x) (fun _ hk => hk.elim) hfresh h2 h3 ?_
    rcases h5 with h5 | h5
    · exact .inl h5
    · exact .inr ⟨_, h5, Nat.le_refl _⟩
/-- Where a key is. -/
theorem index_ev (L : List K3) (x : K3) (i : Nat) (hi : L[i]? = some x) (hf : ∀ j, j < i → L[j]? ≠ some x) (hl : L.length ≤ 100000) : ∃ k, cache_Key.f k L x.f0 x.f1 x.f2 = some (i : Int) := by
  have hil : i < L.length := (List.getElem?_eq_some_iff.1 hi).1
  have key : ∀ d j, i = j + d → cache_Key.l0 (d + 1) L (L.length : Int) (j : Int) x.f0 x.f1 x.f2 = some (i : Int) := by
    intro d
    induction d with
    | zero =>
      intro j hj
      obtain rfl : i = j := hj
      have e : rd_T35 L (i : Int) = x := by
        unfold rd_T35
        rw [Int.toNat_natCast, List.getD_eq_getElem?_getD, hi]
        rfl
      unfold cache_Key.l0
      rw [if_pos (by omega), if_pos (by omega), if_pos (by omega), e]
      simp
    | succ d ih =>
      intro j hj
      have hjl : j < L.length := by omega
      have e : rd_T35 L (j : Int) = L[j] := by
        unfold rd_T35
        rw [Int.toNat_natCast, List.getD_eq_getElem?_getD, List.getElem?_eq_getElem hjl]
        rfl
      have hne : L[j] ≠ x := fun c => hf j (by omega) (by rw [List.getElem?_eq_getElem hjl, c])
      have hb : ¬ (x.f0 == L[j].f0 && (x.f1 == L[j].f1 && (x.f2 == L[j].f2))) = true := by
        intro c
        simp only [Bool.and_eq_true, beq_iff_eq] at c
        exact hne (by
          obtain ⟨c0, c1, c2⟩ := c
          revert c0 c1 c2
          generalize L[j] = y
          intro c0 c1 c2
          cases x; cases y
          simp at c0 c1 c2
          simp [c0, c1, c2])
      have hw : wrap64 ((j : Int) + 1) = ((j + 1 : Nat) : Int) := by unfold wrap64; omega
      unfold cache_Key.l0
      rw [if_pos (by omega), if_pos (by omega), if_pos (by omega), e, if_neg hb, hw]
      exact ih (j + 1) (by omega)
  exact ⟨_, key i 0 (by omega)⟩
end Go.Proofs.Ytlpbfhbfaphicaa.C19
