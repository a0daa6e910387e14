/- Parts of this claim's texts, packed by wip/tools/prune.py: what the proof does not reach is left out. -/
import Derived.Test.YtndkmnjbjlfeaaaPR1
import Derived.Laws.StructEq
section
namespace Go.Proofs.YtndkmnjbjlfeaaaW.PrintWords
open Go.RowKit
section
variable {P : Program} {d : Nat} {xs ys : Array Value} {f : Field} {fs : List Field} {a b : Value} {r s : Bool} {w : World}
end
end Go.Proofs.YtndkmnjbjlfeaaaW.PrintWords
end
section
namespace Go.RowKit
open Go.Proofs.YtndkmnjbjlfeaaaW.PrintWords Go.Proofs.YtndkmnjbjlfeaaaW.PrintLast
section
variable {P : Program} {ops : Array Oper} {Q : Exit → Act → World → Prop} {md : Region.Mode} {S : World → Prop} {ds : List Nat} {oi : Oper} {v : Value} {fuel : Nat} {l : Array Bool} {a a' : Act} {w : World}
theorem pS_ (i n : Nat) (hc : anyB md ops l (l.setIfInBounds i true) i = true) (hi : ops[i]? = some oi) (hN : oi.dst = some n) (h : wpAnyLast P md ops Q S ds fuel (l.setIfInBounds i true) a' w) (hQ : ∀ c a w, Q (.panic c) (a.put oi.dst v) w → Q (.panic c) a w := by exact fun _ _ _ h => h) (hw : Region.wanted oi (yielded ops a.tmps) = true := by rfl) (hy : ∀ w, (execOp a.eval oi).run P w = .ok (.value v) w := by intro w'; go_simp; with_reducible rfl) (ha : a.put (some n) v = a' := by simp only [Act.put, List.setIfInBounds_toArray, List.set_cons_zero, List.set_cons_succ, i64_w, i32_w]; rfl) : wpAnyLast P md ops Q S ds (fuel + 1) l a w := pure_ _ hi hN hc hQ (Or.inl ⟨hw, hy⟩) ha h
theorem tS_ (i n : Nat) (hc : takeB md ops ds l (l.setIfInBounds i true) i = true) (hS : S w) (hy : ∀ w, S w → (execOp a.eval oi).run P w = .ok (.value v) w) (hi : ops[i]? = some oi) (hN : oi.dst = some n) (h : wpAnyLast P md ops Q S ds fuel (l.setIfInBounds i true) a' w) (hQ : ∀ c a w, Q (.panic c) (a.put oi.dst v) w → Q (.panic c) a w := by exact fun _ _ _ h => h) (hw : Region.wanted oi (yielded ops a.tmps) = true := by rfl) (ha : a.put (some n) v = a' := by simp only [Act.put, List.setIfInBounds_toArray, List.set_cons_zero, List.set_cons_succ, i64_w, i32_w]; rfl) : wpAnyLast P md ops Q S ds (fuel + 1) l a w := take_ _ hi hN hc hQ (Or.inl ⟨hw, hy⟩) hS ha h
theorem nS_ (h : wpAnyLast P md ops Q S ds fuel l a' w) (ha : a = a' := by (show Act.put _ (some _) _ = _; simp only [Act.put, List.setIfInBounds_toArray, List.set_cons_zero, List.set_cons_succ, i64_w, i32_w]; rfl)) : wpAnyLast P md ops Q S ds fuel l a w := norm_ ha h
end
section
variable {P : Program} {ops : Array Oper} {Q : Exit → Act → World → Prop} {rest : List Oper} {o : Oper} {a : Act} {w : World}
end
end Go.RowKit
end
section
namespace Go.Proofs.Ytndkmnjbjlfeaaa.XM
open Go Go.RowKit Go.Proofs.YtndkmnjbjlfeaaaW.PrintWords Go.Proofs.YtndkmnjbjlfeaaaW.PrintLast Go.Proofs.YtndkmnjbjlfeaaaW.PrintMore
def rdW (s : Nat) (xs : List Int) (i : Int) : Int := rd xs ((s : Int) + i)
section
variable {W : World} {base g cap n s n9 : Nat} {ok : Nat → Prop} {xs : List Int}
theorem win_rd (h : Kd.R (Kd.int .u64) 31 W base ok (.slice (some ⟨g, 0, none⟩) n cap) xs) (hs : s + n9 ≤ n) (i : Int) (h0 : 0 ≤ i) (hi : i < (n9 : Int)) : W.cell? ⟨g, s + i.toNat, none⟩ = some (.int .u64 (rdW s xs i)) ∧ W.frozen? ⟨g, s + i.toNat, none⟩ = false := by
  have r := Kd.R_celln 0 h ((s : Int) + i) (by omega) (by omega)
  rw [show ((s : Int) + i).toNat = s + i.toNat by omega] at r
  exact r
theorem win_put (h : Kd.R (Kd.int .u64) 31 W base ok (.slice (some ⟨g, 0, none⟩) n cap) xs) (i x : Int) (h0 : 0 ≤ i) : Kd.R (Kd.int .u64) 31 (W.setCell ⟨g, s + i.toNat, none⟩ (.int .u64 x)) base ok (.slice (some ⟨g, 0, none⟩) n cap) (xs.set (s + i.toNat) x) ∧ W.grownBy (W.setCell ⟨g, s + i.toNat, none⟩ (.int .u64 x)) (some g) := by
  have r := Kd.R_putg h ((s : Int) + i) x
  rw [show ((s : Int) + i).toNat = s + i.toNat by omega] at r
  exact r
theorem win_form (h : Kd.R (Kd.int .u64) 31 W base ok (.slice (some ⟨g, 0, none⟩) n cap) xs) (hs : s + n9 ≤ n) {i : Int} (h0 : 0 ≤ i) (hi : i < (n9 : Int)) : base ≤ g ∧ ∃ cl, W.heap[g]? = some (.cells cl 31 (0, 0)) := by
  have e := (Kd.R_reads' h).1
  obtain ⟨g', c', ee, h1, h2, cl, h3⟩ := Kd.R_form h (by omega)
  injection ee with ea en ec
  injection ea with ea
  injection ea with ea
  subst ea
  exact ⟨h1, cl, h3⟩
end
end Go.Proofs.Ytndkmnjbjlfeaaa.XM
end
