/- Layer 1: numbers of 192 bits: Add, Sub, Neg, Scale, Of, Int, walked. -/
import Derived.Test.YtlpbfhbfaphicaaDoorGiv01
namespace Go.Proofs.YtlpbfhbfaphicaaDoor.L01
open Go Go.RowKit Go.Proofs.YtlpbfhbfaphicaaDoorW.PrintWords Go.Proofs.YtlpbfhbfaphicaaDoorW.PrintLast Go.Proofs.YtlpbfhbfaphicaaDoorW.PrintMore Go.Proofs.YtlpbfhbfaphicaaDoor.Given Go.Proofs.YtlpbfhbfaphicaaDoor.M Go.Proofs.YtlpbfhbfaphicaaDoor.XB

/-- A number of three parts; its value. -/
structure N3 where
  x : Int
  y : Int
  z : Int
abbrev N3.V (a : N3) : Int := a.x + 18446744073709551616 * a.y + 340282366920938463463374607431768211456 * a.z
def N3.ok (a : N3) : Prop := M.U a.x ∧ M.U a.y ∧ M.U a.z
abbrev T3 (a : N3) : Value := .agg #[.int .u64 a.x, .int .u64 a.y, .int .u64 a.z]
theorem U_mod (x : Int) : M.U (x % 18446744073709551616) := by unfold M.U; omega
theorem C_div {x y c : Int} (hx : M.U x) (hy : M.U y) (h0 : 0 ≤ c) (h1 : c ≤ 1) : 0 ≤ (x + y + c) / 18446744073709551616 ∧ (x + y + c) / 18446744073709551616 ≤ 1 := by unfold M.U at hx hy; omega
set_option maxHeartbeats 4000000 in
set_option maxRecDepth 100000 in
theorem add_calls {a b : N3} (ha : a.ok) (hb : b.ok) (w : World) :
    Calls Tryd.prog 14 #[T3 a, T3 b] w fun e w' => ∃ (s : N3) (c : Int), e = .returned (.tuple #[T3 s, .bool (c == 1)]) ∧ Below w.heap.size w w' ∧ s.ok ∧ 0 ≤ c ∧ c ≤ 1 ∧ s.V + 6277101735386680763835789423207666416102355444464034512896 * c = a.V + b.V := by
  obtain ⟨a0, a1, a2⟩ := a
  obtain ⟨b0, b1, b2⟩ := b
  obtain ⟨ha0, ha1, ha2⟩ := ha
  obtain ⟨hb0, hb1, hb2⟩ := hb
  dsimp only at *
  obtain ⟨s0, hs0⟩ : ∃ z, z = (a0 + b0 + 0) % 18446744073709551616 := ⟨_, rfl⟩
  obtain ⟨c0, hc0⟩ : ∃ z, z = (a0 + b0 + 0) / 18446744073709551616 := ⟨_, rfl⟩
  have hc0b : 0 ≤ c0 ∧ c0 ≤ 1 := by rw [hc0]; exact C_div ha0 hb0 (by decide) (by decide)
  have X0 := add_run ha0 hb0 (by decide) (by decide) hs0 hc0
  obtain ⟨s1, hs1⟩ : ∃ z, z = (a1 + b1 + c0) % 18446744073709551616 := ⟨_, rfl⟩
  obtain ⟨c1, hc1⟩ : ∃ z, z = (a1 + b1 + c0) / 18446744073709551616 := ⟨_, rfl⟩
  have hc1b : 0 ≤ c1 ∧ c1 ≤ 1 := by rw [hc1]; exact C_div ha1 hb1 hc0b.1 hc0b.2
  have X1 := add_run ha1 hb1 hc0b.1 hc0b.2 hs1 hc1
  obtain ⟨s2, hs2⟩ : ∃ z, z = (a2 + b2 + c1) % 18446744073709551616 := ⟨_, rfl⟩
  obtain ⟨c2, hc2⟩ : ∃ z, z = (a2 + b2 + c1) / 18446744073709551616 := ⟨_, rfl⟩
  have hc2b : 0 ≤ c2 ∧ c2 ≤ 1 := by rw [hc2]; exact C_div ha2 hb2 hc1b.1 hc1b.2
  have X2 := add_run ha2 hb2 hc1b.1 hc1b.2 hs2 hc2
  have HF : Aside0 ((⟨s0, s1, s2⟩ : N3).ok ∧ 0 ≤ c2 ∧ c2 ≤ 1 ∧ (⟨s0, s1, s2⟩ : N3).V + 6277101735386680763835789423207666416102355444464034512896 * c2 = (⟨a0, a1, a2⟩ : N3).V + (⟨b0, b1, b2⟩ : N3).V) :=
    ⟨⟨by rw [hs0]; exact U_mod _, by rw [hs1]; exact U_mod _, by rw [hs2]; exact U_mod _⟩, hc2b.1, hc2b.2, by unfold N3.V; clear X0 X1 X2; dsimp only; omega⟩
  clear hs0 hc0 hs1 hc1 hs2 hc2 hc0b hc1b hc2b ha0 ha1 ha2 hb0 hb1 hb2
  go_enter Tryd.func14, Tryd.ntmps14
  go_wp2
  refine wp_loop_rounds 4 ?_
  rw [rounds_succ]
  go_wp2
  go_region
  go_wp2
  rw [rounds_succ]
  go_wp2
  go_region
  go_wp2
  rw [rounds_succ]
  go_wp2
  go_region
  go_wp2
  rw [rounds_succ]
  go_wp2
  exact bodyPost_ret (v := .tuple #[T3 ⟨s0, s1, s2⟩, .bool (c2 == 1)]) (by simp [results, Tryd.results14, go_sem]) rfl ⟨⟨s0, s1, s2⟩, c2, rfl, by repeat (first | exact Below.refl _ _ | apply below_alloc | apply below_drew1), HF.out⟩
theorem B_sub {x y c : Int} (hx : M.U x) (hy : M.U y) (h0 : 0 ≤ c) (h1 : c ≤ 1) : 0 ≤ (if x < y + c then (1 : Int) else 0) ∧ (if x < y + c then (1 : Int) else 0) ≤ 1 ∧ (x - y - c) % 18446744073709551616 - 18446744073709551616 * (if x < y + c then (1 : Int) else 0) = x - y - c := by
  unfold M.U at hx hy
  split <;> omega
set_option maxHeartbeats 4000000 in
set_option maxRecDepth 100000 in
theorem sub_calls {a b : N3} (ha : a.ok) (hb : b.ok) (w : World) :
    Calls Tryd.prog 15 #[T3 a, T3 b] w fun e w' => ∃ (s : N3) (c : Int), e = .returned (.tuple #[T3 s, .bool (c == 1)]) ∧ Below w.heap.size w w' ∧ s.ok ∧ 0 ≤ c ∧ c ≤ 1 ∧ s.V - 6277101735386680763835789423207666416102355444464034512896 * c = a.V - b.V := by
  obtain ⟨a0, a1, a2⟩ := a
  obtain ⟨b0, b1, b2⟩ := b
  obtain ⟨ha0, ha1, ha2⟩ := ha
  obtain ⟨hb0, hb1, hb2⟩ := hb
  dsimp only at *
  obtain ⟨s0, hs0⟩ : ∃ z, z = (a0 - b0 - 0) % 18446744073709551616 := ⟨_, rfl⟩
  obtain ⟨c0, hc0⟩ : ∃ z : Int, z = if a0 < b0 + 0 then 1 else 0 := ⟨_, rfl⟩
  have q0 := B_sub (c := 0) ha0 hb0 (by decide) (by decide)
  rw [← hc0, ← hs0] at q0
  have X0 := sub_run ha0 hb0 (by decide) (by decide) hs0 hc0
  obtain ⟨s1, hs1⟩ : ∃ z, z = (a1 - b1 - c0) % 18446744073709551616 := ⟨_, rfl⟩
  obtain ⟨c1, hc1⟩ : ∃ z : Int, z = if a1 < b1 + c0 then 1 else 0 := ⟨_, rfl⟩
  have q1 := B_sub ha1 hb1 q0.1 q0.2.1
  rw [← hc1, ← hs1] at q1
  have X1 := sub_run ha1 hb1 q0.1 q0.2.1 hs1 hc1
  obtain ⟨s2, hs2⟩ : ∃ z, z = (a2 - b2 - c1) % 18446744073709551616 := ⟨_, rfl⟩
  obtain ⟨c2, hc2⟩ : ∃ z : Int, z = if a2 < b2 + c1 then 1 else 0 := ⟨_, rfl⟩
  have q2 := B_sub ha2 hb2 q1.1 q1.2.1
  rw [← hc2, ← hs2] at q2
  have X2 := sub_run ha2 hb2 q1.1 q1.2.1 hs2 hc2
  have HF : Aside0 ((⟨s0, s1, s2⟩ : N3).ok ∧ 0 ≤ c2 ∧ c2 ≤ 1 ∧ (⟨s0, s1, s2⟩ : N3).V - 6277101735386680763835789423207666416102355444464034512896 * c2 = (⟨a0, a1, a2⟩ : N3).V - (⟨b0, b1, b2⟩ : N3).V) :=
    ⟨⟨by rw [hs0]; exact U_mod _, by rw [hs1]; exact U_mod _, by rw [hs2]; exact U_mod _⟩, q2.1, q2.2.1, by clear X0 X1 X2 hs0 hs1 hs2 hc0 hc1 hc2; unfold N3.V; dsimp only; omega⟩
  clear hs0 hc0 hs1 hc1 hs2 hc2 q0 q1 q2 ha0 ha1 ha2 hb0 hb1 hb2
  go_enter Tryd.func15, Tryd.ntmps15
  go_wp2
  refine wp_loop_rounds 4 ?_
  rw [rounds_succ]
  go_wp2
  go_region
  go_wp2
  rw [rounds_succ]
  go_wp2
  go_region
  go_wp2
  rw [rounds_succ]
  go_wp2
  go_region
  go_wp2
  rw [rounds_succ]
  go_wp2
  exact bodyPost_ret (v := .tuple #[T3 ⟨s0, s1, s2⟩, .bool (c2 == 1)]) (by simp [results, Tryd.results15, go_sem]) rfl ⟨⟨s0, s1, s2⟩, c2, rfl, by repeat (first | exact Below.refl _ _ | apply below_alloc | apply below_drew1), HF.out⟩
/-- A box of three numbers. -/
abbrev cs3 (a : N3) : Array Value := #[.int .u64 a.x, .int .u64 a.y, .int .u64 a.z]
def Box3 (w : World) (g : Nat) (a : N3) : Prop := w.heap[g]? = some (.cells (cs3 a) 24 (0, 0))
theorem Box3.facts {w : World} {g : Nat} {a : N3} (h : Box3 w g a) : (w.cell? ⟨g, 0, none⟩ = some (.int .u64 a.x) ∧ w.cell? ⟨g, 1, none⟩ = some (.int .u64 a.y) ∧ w.cell? ⟨g, 2, none⟩ = some (.int .u64 a.z)) ∧ (w.frozen? ⟨g, 0, none⟩ = false ∧ w.frozen? ⟨g, 1, none⟩ = false ∧ w.frozen? ⟨g, 2, none⟩ = false) ∧ g < w.heap.size :=
  ⟨⟨(blk_cell h 0).trans rfl, (blk_cell h 1).trans rfl, (blk_cell h 2).trans rfl⟩, ⟨blk_frozen h 0, blk_frozen h 1, blk_frozen h 2⟩, blk_lt h⟩
theorem Box3.kept {W w' : World} {g : Nat} {a : N3} (h : Box3 W g a) (hb : Below W.heap.size W w') : Box3 w' g a := blk_below h hb
theorem Box3.new (W : World) (a : N3) : Box3 (W.alloc (.cells (cs3 a) 24 (0, 0))) W.heap.size a := blk_new _ _
theorem Box3.new' {W : World} {g : Nat} {a : N3} (hg : g = W.heap.size) : Box3 (W.alloc (.cells (cs3 a) 24 (0, 0))) g a := hg ▸ blk_new _ _
theorem Box3.alloc {W : World} {g : Nat} {a : N3} (h : Box3 W g a) (o : Obj) : Box3 (W.alloc o) g a := blk_alloc h o
theorem Box3.drew {W : World} {g : Nat} {a : N3} (h : Box3 W g a) : Box3 W.drew g a := h
theorem Box3.put {W : World} {g : Nat} {a q : N3} (h : Box3 W g a) : Box3 (((W.setCell ⟨g, 0, none⟩ (.int .u64 q.x)).setCell ⟨g, 1, none⟩ (.int .u64 q.y)).setCell ⟨g, 2, none⟩ (.int .u64 q.z)) g q :=
  blk_put (blk_put (blk_put h 0 _ rfl) 1 _ rfl) 2 _ rfl
theorem Box3.far {W : World} {g g' : Nat} {a q : N3} (h : Box3 W g a) (hne : g ≠ g') : Box3 (((W.setCell ⟨g', 0, none⟩ (.int .u64 q.x)).setCell ⟨g', 1, none⟩ (.int .u64 q.y)).setCell ⟨g', 2, none⟩ (.int .u64 q.z)) g a :=
  blk_far (blk_far (blk_far h hne _) hne _) hne _
/-- A world under a new name, with what is known of its boxes. -/
theorem with5 {w W : World} {P : World → Prop} {g1 g2 g3 g4 g5 : Nat} {a1 a2 a3 a4 a5 : N3} (HB : Below w.heap.size w W) (h1 : Box3 W g1 a1) (h2 : Box3 W g2 a2) (h3 : Box3 W g3 a3) (h4 : Box3 W g4 a4) (h5 : Box3 W g5 a5)
    (h : ∀ W', Below w.heap.size w W' → Box3 W' g1 a1 → Box3 W' g2 a2 → Box3 W' g3 a3 → Box3 W' g4 a4 → Box3 W' g5 a5 → P W') : P W := h W HB h1 h2 h3 h4 h5
theorem with4 {w W : World} {P : World → Prop} {g1 g2 g3 g4 : Nat} {a1 a2 a3 a4 : N3} (HB : Below w.heap.size w W) (h1 : Box3 W g1 a1) (h2 : Box3 W g2 a2) (h3 : Box3 W g3 a3) (h4 : Box3 W g4 a4)
    (h : ∀ W', Below w.heap.size w W' → Box3 W' g1 a1 → Box3 W' g2 a2 → Box3 W' g3 a3 → Box3 W' g4 a4 → P W') : P W := h W HB h1 h2 h3 h4
theorem z_ok : (⟨0, 0, 0⟩ : N3).ok := by unfold N3.ok M.U; decide
set_option maxHeartbeats 4000000 in
set_option maxRecDepth 100000 in
theorem neg_calls {a : N3} (ha : a.ok) (w : World) :
    Calls Tryd.prog 16 #[T3 a] w fun e w' => ∃ (s : N3) (c : Int), e = .returned (T3 s) ∧ Below w.heap.size w w' ∧ s.ok ∧ 0 ≤ c ∧ c ≤ 1 ∧ s.V - 6277101735386680763835789423207666416102355444464034512896 * c = - a.V := by
  obtain ⟨a0, a1, a2⟩ := a
  have HA := Aside0.mk ha
  clear ha
  go_enter Tryd.func16, Tryd.ntmps16
  go_wp2_with (go_at_call 15; (with_reducible refine (sub_calls (a := ⟨0, 0, 0⟩) (b := ⟨a0, a1, a2⟩) z_ok HA.out _).mono ?_); rintro e w' ⟨s, c, rfl, hb, hs⟩; have HS := Aside0.mk hs; have HB := Aside0.mk (below_step (w := w) (by repeat (first | exact Below.refl _ _ | apply below_alloc)) hb); have hk : Box3 w' (w.heap.size + 1) ⟨0, 0, 0⟩ := Box3.kept (Box3.new' (by simp only [World.size_alloc])) hb; obtain ⟨⟨k0, k1, k2⟩, ⟨f0, f1, f2⟩, kl⟩ := hk.facts; have Hk := Aside0.mk hk; clear hs hb hk)
  exact bodyPost_ret (v := T3 s) (by simp [results, Tryd.results16, go_sem, k0, k1, k2, kl]) rfl ⟨s, c, rfl, by repeat (first | exact HB.out | apply below_alloc | (refine below_set ?_ (by omega))), by have := HS.out; unfold N3.V at *; dsimp only at *; refine ⟨this.1, this.2.1, this.2.2.1, by omega⟩⟩

end Go.Proofs.YtlpbfhbfaphicaaDoor.L01
