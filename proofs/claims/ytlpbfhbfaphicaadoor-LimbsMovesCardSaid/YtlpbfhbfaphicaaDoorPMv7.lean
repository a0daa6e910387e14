/- Parts of this claim's texts, packed by wip/tools/prune.py: what the proof does not reach is left out. -/
import Derived.Test.YtlpbfhbfaphicaaDoorPMv6
import Derived.Deep.WholeRow
import Derived.Handy
import Derived.LoopN
import Derived.StillTailTactics
section
namespace Go.Proofs.YtlpbfhbfaphicaaDoor.L01
open Go Go.RowKit Go.Proofs.YtlpbfhbfaphicaaDoorW.PrintWords Go.Proofs.YtlpbfhbfaphicaaDoorW.PrintLast Go.Proofs.YtlpbfhbfaphicaaDoorW.PrintMore Go.Proofs.YtlpbfhbfaphicaaDoor.Given Go.Proofs.YtlpbfhbfaphicaaDoor.M Go.Proofs.YtlpbfhbfaphicaaDoor.XB
def sub64Entry : Array Value → Sem Value := fun args => do
  let (x, y, b) ← Extern.MathBitsCarry.three "Sub64" args
  pure (Extern.MathBitsCarry.pair ((x + Extern.MathBitsCarry.m64 - y - b) % Extern.MathBitsCarry.m64) (if x < y + b then 1 else 0))
theorem sub_run {x y c d e : Int} (hx : U x) (hy : U y) (hc0 : 0 ≤ c) (hc : c ≤ 1) (hd : d = (x - y - c) % 18446744073709551616) (he : e = if x < y + c then 1 else 0) (w : World) :
    (callFunc 38 #[.int .u64 x, .int .u64 y, .int .u64 c]).run Tryd.prog w = .ok (.value (.tuple #[.int .u64 d, .int .u64 e])) w := by
  subst hd he
  unfold U at hx hy
  have key : ∀ k : Nat, k ≤ 1 → (sub64Entry #[.int .u64 x, .int .u64 y, .int .u64 (k : Int)]).run Tryd.prog w =
      .ok (Extern.MathBitsCarry.pair ((x.toNat + Extern.MathBitsCarry.m64 - y.toNat - k) % Extern.MathBitsCarry.m64) (if x.toNat < y.toNat + k then 1 else 0)) w := by
    intro k hk
    have : k = 0 ∨ k = 1 := by omega
    rcases this with rfl | rfl <;> rfl
  obtain ⟨k, rfl⟩ := Int.eq_ofNat_of_zero_le hc0
  obtain ⟨X, rfl⟩ := Int.eq_ofNat_of_zero_le hx.1
  obtain ⟨Y, rfl⟩ := Int.eq_ofNat_of_zero_le hy.1
  rw [run_callFunc_extern Tryd.func38 (by kernel_rfl) (by kernel_rfl) (by kernel_rfl) (e := sub64Entry) (by kernel_rfl), key k (by omega)]
  have hX : X < 18446744073709551616 := by have := hx.2; omega
  have hY : Y < 18446744073709551616 := by have := hy.2; omega
  have hk : k ≤ 1 := by omega
  have e1 : ((((X + 18446744073709551616 - Y - k) % 18446744073709551616 : Nat)) : Int) = ((X : Int) - (Y : Int) - (k : Int)) % 18446744073709551616 := by omega
  have e2 : (((if X < Y + k then 1 else 0 : Nat)) : Int) = if (X : Int) < (Y : Int) + (k : Int) then 1 else 0 := by
    by_cases c : X < Y + k
    · rw [if_pos c, if_pos (by omega)]; rfl
    · rw [if_neg c, if_neg (by omega)]; rfl
  simp only [Extern.MathBitsCarry.pair, Extern.MathBitsCarry.m64, Int.toNat_natCast, Result.andThen]
  rw [← e1, ← e2]
  rfl
end Go.Proofs.YtlpbfhbfaphicaaDoor.L01
end
section
namespace Go.Proofs.YtlpbfhbfaphicaaDoor.L01
open Go Go.RowKit Go.Proofs.YtlpbfhbfaphicaaDoorW.PrintWords Go.Proofs.YtlpbfhbfaphicaaDoorW.PrintLast Go.Proofs.YtlpbfhbfaphicaaDoorW.PrintMore Go.Proofs.YtlpbfhbfaphicaaDoor.Given Go.Proofs.YtlpbfhbfaphicaaDoor.M Go.Proofs.YtlpbfhbfaphicaaDoor.XB
structure N3 where
  x : Int
  y : Int
  z : Int
abbrev N3.V (a : N3) : Int := a.x + 18446744073709551616 * a.y + 340282366920938463463374607431768211456 * a.z
def N3.ok (a : N3) : Prop := M.U a.x ∧ M.U a.y ∧ M.U a.z
abbrev T3 (a : N3) : Value := .agg #[.int .u64 a.x, .int .u64 a.y, .int .u64 a.z]
theorem U_mod (x : Int) : M.U (x % 18446744073709551616) := by unfold M.U; omega
theorem B_sub {x y c : Int} (hx : M.U x) (hy : M.U y) (h0 : 0 ≤ c) (h1 : c ≤ 1) : 0 ≤ (if x < y + c then (1 : Int) else 0) ∧ (if x < y + c then (1 : Int) else 0) ≤ 1 ∧ (x - y - c) % 18446744073709551616 - 18446744073709551616 * (if x < y + c then (1 : Int) else 0) = x - y - c := by
  unfold M.U at hx hy
  split <;> omega
set_option maxHeartbeats 4000000 in
set_option maxRecDepth 100000 in
theorem sub_calls {a b : N3} (ha : a.ok) (hb : b.ok) (w : World) :
    Calls Tryd.prog 15 #[T3 a, T3 b] w fun e w' => ∃ (s : N3) (c : Int), e = .returned (.tuple #[T3 s, .bool (c == 1)]) ∧ Below w.heap.size w w' ∧ s.ok ∧ 0 ≤ c ∧ c ≤ 1 ∧ s.V - 6277101735386680763835789423207666416102355444464034512896 * c = a.V - b.V := by
  obtain ⟨a0, a1, a2⟩ := a
  obtain ⟨b0, b1, b2⟩ := b
  obtain ⟨ha0, ha1, ha2⟩ := ha
  obtain ⟨hb0, hb1, hb2⟩ := hb
  dsimp only at *
  obtain ⟨s0, hs0⟩ : ∃ z, z = (a0 - b0 - 0) % 18446744073709551616 := ⟨_, rfl⟩
  obtain ⟨c0, hc0⟩ : ∃ z : Int, z = if a0 < b0 + 0 then 1 else 0 := ⟨_, rfl⟩
  have q0 := B_sub (c := 0) ha0 hb0 (by decide) (by decide)
  rw [← hc0, ← hs0] at q0
  have X0 := sub_run ha0 hb0 (by decide) (by decide) hs0 hc0
  obtain ⟨s1, hs1⟩ : ∃ z, z = (a1 - b1 - c0) % 18446744073709551616 := ⟨_, rfl⟩
  obtain ⟨c1, hc1⟩ : ∃ z : Int, z = if a1 < b1 + c0 then 1 else 0 := ⟨_, rfl⟩
  have q1 := B_sub ha1 hb1 q0.1 q0.2.1
  rw [← hc1, ← hs1] at q1
  have X1 := sub_run ha1 hb1 q0.1 q0.2.1 hs1 hc1
  obtain ⟨s2, hs2⟩ : ∃ z, z = (a2 - b2 - c1) % 18446744073709551616 := ⟨_, rfl⟩
  obtain ⟨c2, hc2⟩ : ∃ z : Int, z = if a2 < b2 + c1 then 1 else 0 := ⟨_, rfl⟩
  have q2 := B_sub ha2 hb2 q1.1 q1.2.1
  rw [← hc2, ← hs2] at q2
  have X2 := sub_run ha2 hb2 q1.1 q1.2.1 hs2 hc2
  have HF : Aside0 ((⟨s0, s1, s2⟩ : N3).ok ∧ 0 ≤ c2 ∧ c2 ≤ 1 ∧ (⟨s0, s1, s2⟩ : N3).V - 6277101735386680763835789423207666416102355444464034512896 * c2 = (⟨a0, a1, a2⟩ : N3).V - (⟨b0, b1, b2⟩ : N3).V) :=
    ⟨⟨by rw [hs0]; exact U_mod _, by rw [hs1]; exact U_mod _, by rw [hs2]; exact U_mod _⟩, q2.1, q2.2.1, by clear X0 X1 X2 hs0 hs1 hs2 hc0 hc1 hc2; unfold N3.V; dsimp only; omega⟩
  clear hs0 hc0 hs1 hc1 hs2 hc2 q0 q1 q2 ha0 ha1 ha2 hb0 hb1 hb2
  go_enter Tryd.func15, Tryd.ntmps15
  go_wp2
  refine wp_loop_rounds 4 ?_
  rw [rounds_succ]
  go_wp2
  go_region
  go_wp2
  rw [rounds_succ]
  go_wp2
  go_region
  go_wp2
  rw [rounds_succ]
  go_wp2
  go_region
  go_wp2
  rw [rounds_succ]
  go_wp2
  exact bodyPost_ret (v := .tuple #[T3 ⟨s0, s1, s2⟩, .bool (c2 == 1)]) (by simp [results, Tryd.results15, go_sem]) rfl ⟨⟨s0, s1, s2⟩, c2, rfl, by repeat (first | exact Below.refl _ _ | apply below_alloc | apply below_drew1), HF.out⟩
abbrev cs3 (a : N3) : Array Value := #[.int .u64 a.x, .int .u64 a.y, .int .u64 a.z]
def Box3 (w : World) (g : Nat) (a : N3) : Prop := w.heap[g]? = some (.cells (cs3 a) 24 (0, 0))
theorem Box3.facts {w : World} {g : Nat} {a : N3} (h : Box3 w g a) : (w.cell? ⟨g, 0, none⟩ = some (.int .u64 a.x) ∧ w.cell? ⟨g, 1, none⟩ = some (.int .u64 a.y) ∧ w.cell? ⟨g, 2, none⟩ = some (.int .u64 a.z)) ∧ (w.frozen? ⟨g, 0, none⟩ = false ∧ w.frozen? ⟨g, 1, none⟩ = false ∧ w.frozen? ⟨g, 2, none⟩ = false) ∧ g < w.heap.size :=
  ⟨⟨(blk_cell h 0).trans rfl, (blk_cell h 1).trans rfl, (blk_cell h 2).trans rfl⟩, ⟨blk_frozen h 0, blk_frozen h 1, blk_frozen h 2⟩, blk_lt h⟩
theorem Box3.kept {W w' : World} {g : Nat} {a : N3} (h : Box3 W g a) (hb : Below W.heap.size W w') : Box3 w' g a := blk_below h hb
theorem Box3.new (W : World) (a : N3) : Box3 (W.alloc (.cells (cs3 a) 24 (0, 0))) W.heap.size a := blk_new _ _
theorem Box3.new' {W : World} {g : Nat} {a : N3} (hg : g = W.heap.size) : Box3 (W.alloc (.cells (cs3 a) 24 (0, 0))) g a := hg ▸ blk_new _ _
theorem Box3.alloc {W : World} {g : Nat} {a : N3} (h : Box3 W g a) (o : Obj) : Box3 (W.alloc o) g a := blk_alloc h o
theorem Box3.drew {W : World} {g : Nat} {a : N3} (h : Box3 W g a) : Box3 W.drew g a := h
theorem Box3.put {W : World} {g : Nat} {a q : N3} (h : Box3 W g a) : Box3 (((W.setCell ⟨g, 0, none⟩ (.int .u64 q.x)).setCell ⟨g, 1, none⟩ (.int .u64 q.y)).setCell ⟨g, 2, none⟩ (.int .u64 q.z)) g q :=
  blk_put (blk_put (blk_put h 0 _ rfl) 1 _ rfl) 2 _ rfl
theorem Box3.far {W : World} {g g' : Nat} {a q : N3} (h : Box3 W g a) (hne : g ≠ g') : Box3 (((W.setCell ⟨g', 0, none⟩ (.int .u64 q.x)).setCell ⟨g', 1, none⟩ (.int .u64 q.y)).setCell ⟨g', 2, none⟩ (.int .u64 q.z)) g a :=
  blk_far (blk_far (blk_far h hne _) hne _) hne _
theorem z_ok : (⟨0, 0, 0⟩ : N3).ok := by unfold N3.ok M.U; decide
set_option maxHeartbeats 4000000 in
set_option maxRecDepth 100000 in
theorem neg_calls {a : N3} (ha : a.ok) (w : World) :
    Calls Tryd.prog 16 #[T3 a] w fun e w' => ∃ (s : N3) (c : Int), e = .returned (T3 s) ∧ Below w.heap.size w w' ∧ s.ok ∧ 0 ≤ c ∧ c ≤ 1 ∧ s.V - 6277101735386680763835789423207666416102355444464034512896 * c = - a.V := by
  obtain ⟨a0, a1, a2⟩ := a
  have HA := Aside0.mk ha
  clear ha
  go_enter Tryd.func16, Tryd.ntmps16
  go_wp2_with (go_at_call 15; (with_reducible refine (sub_calls (a := ⟨0, 0, 0⟩) (b := ⟨a0, a1, a2⟩) z_ok HA.out _).mono ?_); rintro e w' ⟨s, c, rfl, hb, hs⟩; have HS := Aside0.mk hs; have HB := Aside0.mk (below_step (w := w) (by repeat (first | exact Below.refl _ _ | apply below_alloc)) hb); have hk : Box3 w' (w.heap.size + 1) ⟨0, 0, 0⟩ := Box3.kept (Box3.new' (by simp only [World.size_alloc])) hb; obtain ⟨⟨k0, k1, k2⟩, ⟨f0, f1, f2⟩, kl⟩ := hk.facts; have Hk := Aside0.mk hk; clear hs hb hk)
  exact bodyPost_ret (v := T3 s) (by simp [results, Tryd.results16, go_sem, k0, k1, k2, kl]) rfl ⟨s, c, rfl, by repeat (first | exact HB.out | apply below_alloc | (refine below_set ?_ (by omega))), by have := HS.out; unfold N3.V at *; dsimp only at *; refine ⟨this.1, this.2.1, this.2.2.1, by omega⟩⟩
end Go.Proofs.YtlpbfhbfaphicaaDoor.L01
end
section
namespace Go.Proofs.YtlpbfhbfaphicaaDoor.L01
open Go Go.RowKit Go.Proofs.YtlpbfhbfaphicaaDoorW.PrintWords Go.Proofs.YtlpbfhbfaphicaaDoorW.PrintLast Go.Proofs.YtlpbfhbfaphicaaDoorW.PrintMore Go.Proofs.YtlpbfhbfaphicaaDoor.Given Go.Proofs.YtlpbfhbfaphicaaDoor.M Go.Proofs.YtlpbfhbfaphicaaDoor.XB
theorem div_calls {x y m q r : Int} (hx : 0 ≤ x) (hy : M.U y) (hm : M.U m) (h0 : x < m) (hq : q = (x * 18446744073709551616 + y) / m) (hr : r = (x * 18446744073709551616 + y) % m) (w : World) :
    Calls Tryd.prog 42 #[.int .u64 x, .int .u64 y, .int .u64 m] w fun e w' => e = .returned (.tuple #[.int .u64 q, .int .u64 r]) ∧ ∃ n, w' = w.drewN n := by
  obtain ⟨k, hk⟩ := Ev.rounds (bits_Div64_ev x y m hx hy hm h0)
  rw [← hr, ← hq] at hk
  refine (bits_Div64.calls k x y m q r w hk).mono ?_
  rintro e w' ⟨rfl, nd, rfl⟩
  exact ⟨rfl, nd, rfl⟩
end Go.Proofs.YtlpbfhbfaphicaaDoor.L01
end
section
namespace Go.Proofs.YtlpbfhbfaphicaaDoor.L01
open Go Go.RowKit Go.Proofs.YtlpbfhbfaphicaaDoorW.PrintWords Go.Proofs.YtlpbfhbfaphicaaDoorW.PrintLast Go.Proofs.YtlpbfhbfaphicaaDoorW.PrintMore Go.Proofs.YtlpbfhbfaphicaaDoor.Given Go.Proofs.YtlpbfhbfaphicaaDoor.M Go.Proofs.YtlpbfhbfaphicaaDoor.XB
set_option maxHeartbeats 400000 in
set_option maxRecDepth 100000 in
theorem piece_calls {a : N3} (ha : a.ok) (w : World) :
    Calls Tryd.prog 33 #[T3 a] w fun e w' => ∃ (s : N3) (r : Int), e = .returned (.tuple #[T3 s, .int .u64 r]) ∧ Below w.heap.size w w' ∧ s.ok ∧ 0 ≤ r ∧ r < 1000000000000000000 ∧ a.V = 1000000000000000000 * s.V + r := by
  obtain ⟨a0, a1, a2⟩ := a
  obtain ⟨ha0, ha1, ha2⟩ := ha
  dsimp only at *
  have hm : M.U 1000000000000000000 := by unfold M.U; omega
  obtain ⟨q2, hq2⟩ : ∃ z : Int, z = (0 * 18446744073709551616 + a2) / 1000000000000000000 := ⟨_, rfl⟩
  obtain ⟨r2, hr2⟩ : ∃ z : Int, z = (0 * 18446744073709551616 + a2) % 1000000000000000000 := ⟨_, rfl⟩
  obtain ⟨q1, hq1⟩ : ∃ z, z = (r2 * 18446744073709551616 + a1) / 1000000000000000000 := ⟨_, rfl⟩
  obtain ⟨r1, hr1⟩ : ∃ z, z = (r2 * 18446744073709551616 + a1) % 1000000000000000000 := ⟨_, rfl⟩
  obtain ⟨q0, hq0⟩ : ∃ z, z = (r1 * 18446744073709551616 + a0) / 1000000000000000000 := ⟨_, rfl⟩
  obtain ⟨r0, hr0⟩ : ∃ z, z = (r1 * 18446744073709551616 + a0) % 1000000000000000000 := ⟨_, rfl⟩
  have D2 := fun w => div_calls (show (0 : Int) ≤ 0 by omega) ha2 hm (by omega) hq2 hr2 w
  have D1 := fun w => div_calls (show 0 ≤ r2 by omega) ha1 hm (by omega) hq1 hr1 w
  have D0 := fun w => div_calls (show 0 ≤ r1 by omega) ha0 hm (by omega) hq0 hr0 w
  have HF : Aside0 ((⟨q0, q1, q2⟩ : N3).ok ∧ 0 ≤ r0 ∧ r0 < 1000000000000000000 ∧ (⟨a0, a1, a2⟩ : N3).V = 1000000000000000000 * (⟨q0, q1, q2⟩ : N3).V + r0) := ⟨by
    clear D0 D1 D2
    unfold N3.ok N3.V M.U at *
    dsimp only
    omega⟩
  clear hq0 hq1 hq2 hr0 hr1 hr2 ha0 ha1 ha2 hm
  go_enter Tryd.func33, Tryd.ntmps33
  go_wp2
  refine wp_loop_rounds 4 ?_
  rw [rounds_succ]
  go_wp2_with (go_at_call 42; (with_reducible refine (D2 _).mono ?_); rintro e w' ⟨rfl, n2, rfl⟩)
  rw [rounds_succ]
  go_wp2_with (go_at_call 42; (with_reducible refine (D1 _).mono ?_); rintro e w' ⟨rfl, n1, rfl⟩)
  rw [rounds_succ]
  go_wp2_with (go_at_call 42; (with_reducible refine (D0 _).mono ?_); rintro e w' ⟨rfl, n0, rfl⟩)
  rw [rounds_succ]
  go_wp2
  exact bodyPost_ret (v := .tuple #[T3 ⟨q0, q1, q2⟩, .int .u64 r0]) (by simp [results, Tryd.results33, go_sem]) rfl ⟨⟨q0, q1, q2⟩, r0, rfl, by repeat (with_reducible first | exact Below.refl _ _ | apply below_alloc | apply pw_below_drewN | (refine below_set ?_ (by omega))), HF.out⟩
end Go.Proofs.YtlpbfhbfaphicaaDoor.L01
end
section
namespace Go.Proofs.YtlpbfhbfaphicaaDoor.L01
open Go Go.RowKit Go.Proofs.YtlpbfhbfaphicaaDoorW.PrintWords Go.Proofs.YtlpbfhbfaphicaaDoorW.PrintLast Go.Proofs.YtlpbfhbfaphicaaDoorW.PrintMore
theorem eq3_d (d : Nat) (t : TypeId) (ht : Tryd.prog.underlying t = some (.array 3 22)) (hi : ∀ (p q : Int) (w : World), (Op.equalIn d 22 (.int .u64 p) (.int .u64 q)).run Tryd.prog w = .ok (p == q) w) (a b c x y z : Int) (W : World) :
    Sem.run Tryd.prog (Op.equalIn (d + 1) t (.agg #[.int .u64 a, .int .u64 b, .int .u64 c]) (.agg #[.int .u64 x, .int .u64 y, .int .u64 z])) W = .ok (decide (a = x ∧ b = y ∧ c = z)) W := by
  simp only [Op.equalIn, Sem.run_bind, run_underlying ht, Result.andThen_ok]
  have hs : ∀ w, (sizeOf 22).run Tryd.prog w = .ok 1 w := Tryd.sizeOf22
  have hp0 : ∀ (u v x : Value) (w : World), (part 22 #[u, v, x] 0).run Tryd.prog w = .ok u w := fun u v x w => by go_simp
  have hp1 : ∀ (u v x : Value) (w : World), (part 22 #[u, v, x] 1).run Tryd.prog w = .ok v w := fun u v x w => by go_simp
  have hp2 : ∀ (u v x : Value) (w : World), (part 22 #[u, v, x] 2).run Tryd.prog w = .ok x w := fun u v x w => by go_simp
  have r : List.range' 0 3 1 = [0, 1, 2] := rfl
  simp only [hs, Result.andThen_ok, Std.Legacy.Range.forIn_eq_forIn_range', Std.Legacy.Range.size, Nat.sub_zero, Nat.add_sub_cancel, Nat.div_one, r, List.forIn_cons, List.forIn_nil, Sem.run_bind, Nat.zero_mul, Nat.mul_one, hp0, hi]
  by_cases h1 : a = x
  · by_cases h2 : b = y
    · by_cases h3 : c = z
      · simp [h1, h2, h3, hp1, hp2, hi]
      · simp [h1, h2, h3, hp1, hp2, hi]
    · simp [h1, h2, hp1, hi]
  · simp [h1]
theorem eq3_t (t : TypeId) (ht : Tryd.prog.underlying t = some (.array 3 22)) (a b c x y z : Int) (W : World) : Sem.run Tryd.prog (Op.equalIn 10000 t (.agg #[.int .u64 a, .int .u64 b, .int .u64 c]) (.agg #[.int .u64 x, .int .u64 y, .int .u64 z])) W = .ok (decide (a = x ∧ b = y ∧ c = z)) W :=
  eq3_d 9999 t ht (fun p q w => run_equalIn_int w 9998 _ .u64 .u64 p q Tryd.underlying22) a b c x y z W
end Go.Proofs.YtlpbfhbfaphicaaDoor.L01
end
section
namespace Go.Proofs.YtlpbfhbfaphicaaDoor.L01
open Go Go.RowKit Go.Proofs.YtlpbfhbfaphicaaDoorW.PrintWords Go.Proofs.YtlpbfhbfaphicaaDoorW.PrintLast Go.Proofs.YtlpbfhbfaphicaaDoorW.PrintMore Go.Proofs.YtlpbfhbfaphicaaDoor.Given Go.Proofs.YtlpbfhbfaphicaaDoor.M Go.Proofs.YtlpbfhbfaphicaaDoor.XB
set_option linter.unusedVariables false
def bL (f : Nat → Bool) : List Value := (List.range 256).map fun j => Value.bool (f j)
abbrev bA (f : Nat → Bool) : Array Value := (bL f).toArray
abbrev TB (f : Nat → Bool) : Value := .agg (bA f)
theorem bA_size (f : Nat → Bool) : (bA f).size = 256 := by simp [bA, bL]
theorem bA_at {f : Nat → Bool} {i : Nat} (h : i < 256) : (bA f)[i]? = some (.bool (f i)) := by simp [bA, bL, h]
theorem bA_ext {f g : Nat → Bool} (h : ∀ i, i < 256 → f i = g i) : bA f = bA g := by
  unfold bA bL
  congr 1
  refine List.map_congr_left fun a ha => ?_
  rw [h a (List.mem_range.1 ha)]
theorem bA_one (f : Nat → Bool) : (bA f).all (·.oneCell') = true := by
  rw [Array.all_eq_true]
  intro i h
  rw [bA_size] at h
  have := bA_at (f := f) h
  rw [Array.getElem?_eq_getElem (by rw [bA_size]; exact h)] at this
  rw [Option.some.inj this]
  rfl
def put (f : Nat → Bool) (i : Nat) (x : Bool) : Nat → Bool := fun j => if j = i then x else f j
theorem bA_put {f : Nat → Bool} {i : Nat} {x : Bool} (h : i < 256) : (bA f).setIfInBounds i (.bool x) = bA (put f i x) := by
  apply Array.ext_getElem?
  intro j
  rw [Array.getElem?_setIfInBounds]
  by_cases hj : i = j
  · subst hj
    rw [if_pos rfl, if_pos (by rw [bA_size]; exact h), bA_at h]
    simp [put]
  · rw [if_neg hj]
    by_cases hl : j < 256
    · rw [bA_at hl, bA_at hl, put, if_neg (fun e => hj e.symm)]
    · rw [Array.getElem?_eq_none (by rw [bA_size]; omega), Array.getElem?_eq_none (by rw [bA_size]; omega)]
def BoxB (w : World) (g : Nat) (f : Nat → Bool) : Prop := w.heap[g]? = some (.cells (bA f) 29 (0, 0))
theorem BoxB.cell {w : World} {g p : Nat} {f : Nat → Bool} (h : BoxB w g f) (hp : p < 256) : w.cell? ⟨g, p, none⟩ = some (.bool (f p)) ∧ w.frozen? ⟨g, p, none⟩ = false :=
  ⟨(blk_cell h p).trans (bA_at hp), blk_frozen h p⟩
theorem BoxB.set {w : World} {g p : Nat} {f : Nat → Bool} {x : Bool} (h : BoxB w g f) (hp : p < 256) : BoxB (w.setCell ⟨g, p, none⟩ (.bool x)) g (put f p x) := by
  refine (blk_set h p (.bool x)).trans ?_
  rw [bA_put hp]
theorem BoxB.far {w : World} {g g' p : Nat} {f : Nat → Bool} {u : Value} (h : BoxB w g f) (hne : g ≠ g') : BoxB (w.setCell ⟨g', p, none⟩ u) g f := blk_far h hne u
theorem BoxB.kept {W w' : World} {g : Nat} {f : Nat → Bool} (h : BoxB W g f) (hb : Below W.heap.size W w') : BoxB w' g f := blk_below h hb
theorem BoxB.new (W : World) (f : Nat → Bool) : BoxB (W.alloc (.cells (bA f) 29 (0, 0))) W.heap.size f := blk_new _ _
theorem BoxB.new' {W : World} {g : Nat} {f : Nat → Bool} (hg : g = W.heap.size) : BoxB (W.alloc (.cells (bA f) 29 (0, 0))) g f := hg ▸ blk_new _ _
theorem BoxB.alloc {W : World} {g : Nat} {f : Nat → Bool} (h : BoxB W g f) (o : Obj) : BoxB (W.alloc o) g f := blk_alloc h o
theorem BoxB.drew {W : World} {g : Nat} {f : Nat → Bool} (h : BoxB W g f) : BoxB W.drew g f := h
theorem BoxB.drewN {W : World} {g : Nat} {f : Nat → Bool} (h : BoxB W g f) (n : Nat) : BoxB (W.drewN n) g f := h
theorem BoxB.lt {W : World} {g : Nat} {f : Nat → Bool} (h : BoxB W g f) : g < W.heap.size := blk_lt h
abbrev none' : Nat → Bool := fun _ => false
theorem zero_bits' : (∀ w, (zeroValue 29).run Tryd.prog w = .ok (.agg (Array.replicate 256 (.bool false))) w) ∧ (Tryd.prog.info? 29).map (·.size) = some 256 := zero_of_info (by kernel_rfl)
theorem bA_none : Array.replicate 256 (Value.bool false) = bA none' := by
  apply Array.ext_getElem?
  intro j
  by_cases hl : j < 256
  · rw [bA_at hl]; simp [hl]
  · rw [Array.getElem?_eq_none (by rw [Array.size_replicate]; omega), Array.getElem?_eq_none (by rw [bA_size]; omega)]
theorem zero_bits (w : World) : (zeroValue 29).run Tryd.prog w = .ok (TB none') w := by rw [zero_bits'.1, bA_none]
theorem under_bits : Tryd.prog.underlying 29 = some (.array 256 4) := by kernel_rfl
theorem lv_u (a : Addr) (w : World) : (loadVar 22 a).run Tryd.prog w = (load a).run Tryd.prog w := by simp [loadVar, Result.andThen]
theorem lv_i (a : Addr) (w : World) : (loadVar 3 a).run Tryd.prog w = (load a).run Tryd.prog w := by simp [loadVar, Result.andThen]
theorem lv_b (a : Addr) (w : World) : (loadVar 4 a).run Tryd.prog w = (load a).run Tryd.prog w := by simp [loadVar, Result.andThen]
theorem lv_3 (a : Addr) (w : World) : (loadVar 23 a).run Tryd.prog w = ((loadCells a 3).run Tryd.prog w).andThen (fun c w => .ok (.agg c) w) := by simp [loadVar, Result.andThen]
theorem lv_T (a : Addr) (w : World) : (loadVar 24 a).run Tryd.prog w = ((loadCells a 3).run Tryd.prog w).andThen (fun c w => .ok (.agg c) w) := by simp [loadVar, Result.andThen]
theorem sv_u (a : Addr) (k : IntKind) (n : Int) (w : World) : (storeVar 22 a (.int k n)).run Tryd.prog w = (storeCells a [.int k n] 0).run Tryd.prog w := by simp [storeVar, Value.cells, Result.andThen]
theorem sv_i (a : Addr) (k : IntKind) (n : Int) (w : World) : (storeVar 3 a (.int k n)).run Tryd.prog w = (storeCells a [.int k n] 0).run Tryd.prog w := by simp [storeVar, Value.cells, Result.andThen]
theorem sv_b (a : Addr) (b : Bool) (w : World) : (storeVar 4 a (.bool b)).run Tryd.prog w = (storeCells a [.bool b] 0).run Tryd.prog w := by simp [storeVar, Value.cells, Result.andThen]
theorem sv_3 (a : Addr) (x y z : Value) (w : World) : (storeVar 23 a (.agg #[x, y, z])).run Tryd.prog w = (storeCells a [x, y, z] 0).run Tryd.prog w := by simp [storeVar, Value.cells, Result.andThen]
theorem sv_T (a : Addr) (x y z : Value) (w : World) : (storeVar 24 a (.agg #[x, y, z])).run Tryd.prog w = (storeCells a [x, y, z] 0).run Tryd.prog w := by simp [storeVar, Value.cells, Result.andThen]
theorem lv_bits {w : World} {g : Nat} {f : Nat → Bool} (h : BoxB w g f) : (loadVar 29 ⟨g, 0, none⟩).run Tryd.prog w = .ok (TB f) w :=
  run_loadVar_row _ _ _ _ (bA f) (0, 0) _ h under_bits rfl (by rw [bA_size]; exact zero_bits'.2)
theorem sv_bits {w : World} {g : Nat} {f f' : Nat → Bool} (h : BoxB w g f) : (storeVar 29 ⟨g, 0, none⟩ (TB f')).run Tryd.prog w = .ok () (w.setRow g (bA f')) :=
  run_storeVar_row _ _ _ _ (bA f) (bA f') h (by rw [bA_size]; exact zero_bits'.2) (by rw [bA_size, bA_size]) (bA_one f')
theorem BoxB.row {w : World} {g : Nat} {f f' : Nat → Bool} (h : BoxB w g f) : BoxB (w.setRow g (bA f')) g f' := by
  unfold BoxB at *
  simp only [World.setRow]
  rw [Array.getElem?_modify, if_pos rfl, h]
  rfl
theorem below_row {w W : World} {g : Nat} {c : Array Value} (h : Below w.heap.size w W) (hg : w.heap.size ≤ g) : Below w.heap.size w (W.setRow g c) := by
  obtain ⟨h1, h2, h3, h4, h5⟩ := h
  refine ⟨h1, h2, h3, ?_, ?_⟩
  · show _ ≤ (W.heap.modify _ _).size
    rw [Array.size_modify]
    exact h4
  · intro j hj
    rw [← h5 j hj]
    simp only [World.setRow]
    rw [Array.getElem?_modify, if_neg (by omega)]
def num (f : Nat → Bool) (p : Nat) : Nat → Nat
  | 0 => 0
  | n + 1 => (if f p then 1 else 0) + 2 * num f (p + 1) n
end Go.Proofs.YtlpbfhbfaphicaaDoor.L01
end
section
namespace Go.Proofs.YtlpbfhbfaphicaaDoor.L01
open Go Go.RowKit Go.Proofs.YtlpbfhbfaphicaaDoorW.PrintWords Go.Proofs.YtlpbfhbfaphicaaDoorW.PrintLast Go.Proofs.YtlpbfhbfaphicaaDoorW.PrintMore Go.Proofs.YtlpbfhbfaphicaaDoor.Given Go.Proofs.YtlpbfhbfaphicaaDoor.M Go.Proofs.YtlpbfhbfaphicaaDoor.XB
set_option linter.unusedVariables false
theorem num_lt (f : Nat → Bool) : ∀ (n p : Nat), num f p n < 2 ^ n
  | 0, p => by simp [num]
  | n + 1, p => by
    have := num_lt f n (p + 1)
    simp only [num]
    rw [Nat.pow_succ]
    split <;> omega
set_option maxHeartbeats 1000000 in
set_option maxRecDepth 100000 in
theorem word_calls (f : Nat → Bool) {p : Nat} (hp : p + 64 ≤ 256) (w : World) : Calls Tryd.prog 30 #[TB f, .int .i64 (p : Int)] w fun e w' => e = .returned (.int .u64 ((num f p 64 : Nat) : Int)) ∧ Below w.heap.size w w' := by
  have HP := Aside0.mk hp
  clear hp
  go_enter Tryd.func30, Tryd.ntmps30
  go_wp2
  have HG0 : Aside0 (Below w.heap.size w (w.alloc (Obj.cells (bA f) 29))) := ⟨below_alloc (Below.refl _ _) _⟩
  have HS0 : Aside0 (BoxB (w.alloc (Obj.cells (bA f) 29)) w.heap.size f) := ⟨BoxB.new w f⟩
  generalize (w.alloc (Obj.cells (bA f) 29)) = W0 at HG0 HS0 ⊢
  go_loopg [5, 6] 65 (fun kq v5 v6 w' => ∃ (k : Nat) (n i : Int), v5 = .int .u64 n ∧ v6 = .int .i64 i ∧ Aside0 (k ≤ 64 ∧ k + kq = 65 ∧ i = 63 - (k : Int) ∧ n = ((num f (p + 64 - k) k : Nat) : Int)) ∧ Aside0 (Below w.heap.size w w') ∧ Aside0 (BoxB w' w.heap.size f))
  case atStart => exact ⟨0, 0, 63, rfl, rfl, ⟨by omega, rfl, rfl, rfl⟩, HG0, HS0⟩
  case round =>
    clear HG0 HS0
    obtain ⟨k, n, i, rfl, rfl, HI, HG, HS⟩ := hrel
    cases gk with
    | zero => exact absurd HI.out (by omega)
    | succ k1 =>
      obtain ⟨hk, hk1, hi, hn⟩ := HI.out
      have hp := HP.out
      have hlt := num_lt f k (p + 64 - k)
      have h64 : (2 : Nat) ^ 64 = 18446744073709551616 := by decide
      by_cases c : k < 64
      · have cb : decide ((0 : Int) ≤ i) = true := decide_eq_true (by omega)
        obtain ⟨q, hq⟩ : ∃ q : Nat, p + 63 - k = q := ⟨_, rfl⟩
        have hq2 : q < 256 := by omega
        have hpow : 2 ^ k * 2 ≤ 2 ^ 64 := by rw [← Nat.pow_succ]; exact Nat.pow_le_pow_right (by decide) (by omega)
        have e1 : IntKind.i64.wrap ((p : Int) + i) = (q : Int) := by rw [i64_w]; unfold wrap64; omega
        have p3 : (0 : Int) ≤ (q : Int) := Int.natCast_nonneg _
        have p4 : (q : Int) < 256 := by omega
        obtain ⟨n2, hn2⟩ : ∃ z : Int, 2 * n = z := ⟨_, rfl⟩
        have e2 : IntKind.u64.wrap (2 * n) = n2 := by rw [wu64]; omega
        have e3 : IntKind.u64.wrap (n2 + 1) = n2 + 1 := by rw [wu64]; omega
        obtain ⟨i2, hi2⟩ : ∃ z : Int, i - 1 = z := ⟨_, rfl⟩
        have e4 : IntKind.i64.wrap (i - 1) = i2 := by rw [i64_w]; unfold wrap64; omega
        have hnum : num f (p + 64 - (k + 1)) (k + 1) = (if f q then 1 else 0) + 2 * num f (p + 64 - k) k := by
          have a1 : p + 64 - (k + 1) = q := by omega
          have a2 : q + 1 = p + 64 - k := by omega
          rw [a1, num, a2]
        have HJ : Aside0 (k + 1 ≤ 64 ∧ k + 1 + k1 = 65 ∧ i2 = 63 - ((k + 1 : Nat) : Int)) := ⟨by omega⟩
        obtain ⟨hc9, hf9⟩ := HS.out.cell hq2
        have HNf : Aside0 (f q = false → n2 = ((num f (p + 64 - (k + 1)) (k + 1) : Nat) : Int)) := ⟨fun h => by rw [hnum, h]; simp; omega⟩
        have HNt : Aside0 (f q = true → n2 + 1 = ((num f (p + 64 - (k + 1)) (k + 1) : Nat) : Int)) := ⟨fun h => by rw [hnum, h]; simp; omega⟩
        clear hk hk1 hi hn hp hlt h64 c hq hq2 hpow hn2 hi2 hnum
        cases hb : f q with
        | false =>
          rw [hb] at hc9
          go_wp2
          go_roundg k1
          case measure => exact Nat.lt_succ_self _
          case rel => exact ⟨k + 1, n2, i2, rfl, rfl, ⟨HJ.out.1, HJ.out.2.1, HJ.out.2.2, HNf.out hb⟩, HG, HS⟩
        | true =>
          rw [hb] at hc9
          go_wp2
          go_roundg k1
          case measure => exact Nat.lt_succ_self _
          case rel => exact ⟨k + 1, n2 + 1, i2, rfl, rfl, ⟨HJ.out.1, HJ.out.2.1, HJ.out.2.2, HNt.out hb⟩, HG, HS⟩
      · have cb : decide ((0 : Int) ≤ i) = false := decide_eq_false (by omega)
        have hk64 : k = 64 := by omega
        subst hk64
        have HN : Aside0 (n = ((num f p 64 : Nat) : Int)) := ⟨by rw [hn]; rfl⟩
        clear hk hk1 hi hn hp hlt h64 c
        go_wp2
        go_ret
        refine ⟨?_, HG.out⟩
        rw [HN.out]
        rfl
end Go.Proofs.YtlpbfhbfaphicaaDoor.L01
end
section
namespace Go.Proofs.YtlpbfhbfaphicaaDoor.L01
open Go Go.RowKit Go.Proofs.YtlpbfhbfaphicaaDoorW.PrintWords Go.Proofs.YtlpbfhbfaphicaaDoorW.PrintLast Go.Proofs.YtlpbfhbfaphicaaDoorW.PrintMore Go.Proofs.YtlpbfhbfaphicaaDoor.Given Go.Proofs.YtlpbfhbfaphicaaDoor.M Go.Proofs.YtlpbfhbfaphicaaDoor.XB
set_option linter.unusedVariables false
attribute [-go_sem] loadVar storeVar
attribute [local go_sem] lv_u lv_i lv_b lv_3 lv_T sv_u sv_i sv_b sv_3 sv_T
def upto (i : Nat) (f : Nat → Bool) : Nat → Bool := fun j => decide (j < i) && f j
theorem upto_zero (f : Nat → Bool) : upto 0 f = none' := by funext j; simp [upto]
theorem put_upto (i : Nat) (f : Nat → Bool) : put (upto i f) i (f i) = upto (i + 1) f := by
  funext j
  unfold put upto
  by_cases h : j = i
  · subst h; simp
  · rw [if_neg h]
    congr 1
    exact decide_eq_decide.2 (by omega)
end Go.Proofs.YtlpbfhbfaphicaaDoor.L01
end
