/- Layer 19 (cache): slices.Values over keys, as an iterator. -/
import Derived.RangeFuncNested
import Derived.RangeFuncBound
import Derived.RangeFuncCalls
import Derived.RangeFuncLeaves
import Derived.RangeFuncBox
import Derived.Shelf.Abstract
import Derived.Shelf.RegionOpen
import Derived.OwnWalkIn
import Derived.TacticsInMore
import Derived.LoopNIn
import Derived.LoopIn
import Derived.Test.YtlpbfhbfaphicaaHld19
namespace Go.Proofs.Ytlpbfhbfaphicaa.C19
open Go Go.RowKit Go.Shelf Go.Proofs.YtlpbfhbfaphicaaW.PrintWords Go.Proofs.Ytlpbfhbfaphicaa.XA

set_option linter.unusedVariables false
attribute [local go_sem] Oper.semAt_some
/-- What has come when k rounds are over. -/
def upto {α : Type} (f : Nat → α) (k : Nat) : List α := (List.range k).map f
theorem upto_succ {α : Type} (f : Nat → α) (k : Nat) : upto f (k + 1) = upto f k ++ [f k] := by simp [upto, List.range_succ]
theorem upto_length {α : Type} (f : Nat → α) (k : Nat) : (upto f k).length = k := by simp [upto]
def kat (L : List K3) (j : Nat) : K3 := L[j]?.getD ⟨0, 0, 0⟩
theorem upto_take (L : List K3) {k : Nat} (hk : k ≤ L.length) : upto (kat L) k = L.take k := by
  apply List.ext_getElem
  · simp [upto, hk]
  · intro i h1 h2
    have : i < L.length := by simp [upto] at h1; omega
    simp [upto, kat, this]
theorem upto_all (L : List K3) : upto (kat L) L.length = L := by rw [upto_take L (Nat.le_refl _), List.take_length]
set_option maxRecDepth 100000 in
set_option maxHeartbeats 2000000 in
theorem values1_in (F : Fence) (n : Nat) (h7 : F.fn 36) (hro : F.round = none) (hn : 1 ≤ n) (l Bs n₀ b cap : Nat) (L : List K3) (hreach : L.length ≤ 100000) (hb : b < n₀) (J Jx : List K3 → World → Prop)
    (hJa : ∀ s W o, J s W → J s (W.alloc o))
    (hY : ∀ pre x W, J pre W → pre.length < L.length → YieldAt F (n - 1) Try.prog l #[kv x] W fun e W' =>
      (e = .returned (.bool true) ∧ J (pre ++ [x]) W' ∧ Below n₀ W W') ∨ (e = .returned (.bool false) ∧ Jx (pre ++ [x]) W'))
    (W : World) (hn₀ : n₀ ≤ W.heap.size) (hBs : W.cell? ⟨Bs, 0, none⟩ = some (.slice (some ⟨b, 0, none⟩) L.length cap)) (hc : ∀ j, j < L.length → W.cell? ⟨b, j * 3, none⟩ = some (.int .u64 (kat L j).f0) ∧ W.cell? ⟨b, j * 3 + 1, none⟩ = some (.int .i64 (kat L j).f1) ∧ W.cell? ⟨b, j * 3 + 2, none⟩ = some (.int .i64 (kat L j).f2)) (h0 : J [] W) :
    CallsIn F n Try.prog 36 #[.func (.yield l) #[] #[], .pointer (some ⟨Bs, 0, none⟩)] W fun e W' => (∃ v, e = .returned v) ∧
      ((∃ ys, ys = upto (kat L) L.length ∧ J ys W') ∨ (∃ pre, (∃ k, k ≤ L.length ∧ pre = upto (kat L) k) ∧ Jx pre W')) := by
  refine callsIn_of_wp Try.func36 rfl h7 ?_ hro
  simp only [Try.ntmps36, List.size_toArray, List.length_cons, List.length_nil, Nat.reduceAdd, Nat.reduceSub, Array.replicate_succ, Array.replicate_zero, List.push_toArray, List.append_toArray, List.nil_append, List.cons_append]
  gi_wp2
  gi_loopw [7] (fun i wr => ∃ k : Nat, k ≤ L.length ∧ i = .int .i64 k ∧ J (upto (kat L) k) wr ∧ Below n₀ W wr)
    (fun i _ => L.length - (intOf i).toNat)
  case atStart => exact ⟨0, Nat.zero_le _, rfl, h0, Below.refl _ _⟩
  case round =>
    obtain ⟨k, hk, rfl, hJs, hnx⟩ := hrel
    by_cases hlt : k < L.length
    · obtain ⟨hc0, hc1, hc2⟩ := hc k hlt
      have hx0 := (hnx.cell (p := ⟨b, k * 3, none⟩) hb).trans hc0
      have hx1 := (hnx.cell (p := ⟨b, k * 3 + 1, none⟩) hb).trans hc1
      have hx2 := (hnx.cell (p := ⟨b, k * 3 + 2, none⟩) hb).trans hc2
      obtain ⟨x, hx⟩ : ∃ x, kat L k = x := ⟨_, rfl⟩
      rw [hx] at hx0 hx1 hx2
      have hJ2 := hJa _ _ (Obj.cells #[.int .u64 x.f0, .int .i64 x.f1, .int .i64 x.f2] 35) hJs
      have hs2 : n₀ ≤ wr.heap.size := Nat.le_trans hn₀ hnx.size
      obtain ⟨fn, tmps, assign, body, hy, hR⟩ := hY _ x _ hJ2 (by rw [upto_length]; exact hlt)
      clear hc0 hc1 hc2
      gi_wp2
      refine hR.mono ?_
      rintro e W3 (⟨rfl, hJ3, hk3⟩ | ⟨rfl, hJx3⟩)
      · gi_wp2
        go_roundw
        case rel => exact ⟨k + 1, by omega, by simp, by rw [upto_succ, hx]; exact hJ3, (hnx.alloc hs2 _).trans hk3⟩
        case measure => simp [intOf]; omega
      · gi_wp2
        refine bodyPost_ret (results_none rfl _ _ _) rfl ?_
        exact ⟨⟨_, rfl⟩, .inr ⟨_, ⟨k + 1, by omega, by rw [upto_succ, hx]⟩, hJx3⟩⟩
    · obtain rfl : k = L.length := by omega
      gi_wp2
      go_end0
      exact ⟨⟨_, rfl⟩, .inl ⟨_, rfl, hJs⟩⟩
set_option maxRecDepth 100000 in
set_option maxHeartbeats 1000000 in
theorem values1_nil_in (F : Fence) (n : Nat) (h7 : F.fn 36) (hro : F.round = none) (l Bs : Nat) (J : List K3 → World → Prop) (W : World) (hBs : W.cell? ⟨Bs, 0, none⟩ = some (.slice none 0 0)) (h0 : J [] W) :
    CallsIn F n Try.prog 36 #[.func (.yield l) #[] #[], .pointer (some ⟨Bs, 0, none⟩)] W fun e W' => (∃ v, e = .returned v) ∧ J [] W' := by
  refine callsIn_of_wp Try.func36 rfl h7 ?_ hro
  simp only [Try.ntmps36, List.size_toArray, List.length_cons, List.length_nil, Nat.reduceAdd, Nat.reduceSub, Array.replicate_succ, Array.replicate_zero, List.push_toArray, List.append_toArray, List.nil_append, List.cons_append]
  gi_wp2
  gi_loopw [7] (fun i wr => i = .int .i64 0 ∧ J [] wr) (fun _ _ => 0)
  case atStart => exact ⟨rfl, h0⟩
  case round =>
    obtain ⟨rfl, hJs⟩ := hrel
    gi_wp2
    go_end0
    exact ⟨⟨_, rfl⟩, hJs⟩
set_option maxHeartbeats 1000000 in
theorem values_in (F : Fence) (n : Nat) (h5 : F.fn 35) (hro : F.round = none) (a : Option Addr) (len cap : Nat) (w : World) :
    CallsIn F n Try.prog 35 #[.slice a len cap] w fun e w' => e = .returned (.func (.func 36) #[] #[.pointer (some ⟨w.heap.size, 0, none⟩)]) ∧ w' = w.alloc (.cells #[.slice a len cap] 63) := by
  refine callsIn_of_wp Try.func35 rfl h5 ?_ hro
  simp only [Try.ntmps35, List.size_toArray, List.length_cons, List.length_nil, Nat.reduceAdd, Nat.reduceSub, Array.replicate_succ, Array.replicate_zero, List.push_toArray, List.append_toArray, List.nil_append, List.cons_append]
  gi_wp2
  go_ret
  exact ⟨rfl, rfl⟩
/-- The slice has these keys; or it is nil, and there are none. -/
def KeysAt (n₀ : Nat) (W : World) (sv : Value) (L : List K3) : Prop :=
  (sv = .slice none 0 0 ∧ L = []) ∨ ∃ b cap, sv = .slice (some ⟨b, 0, none⟩) L.length cap ∧ b < n₀ ∧ ∀ j, j < L.length → W.cell? ⟨b, j * 3, none⟩ = some (.int .u64 (kat L j).f0) ∧ W.cell? ⟨b, j * 3 + 1, none⟩ = some (.int .i64 (kat L j).f1) ∧ W.cell? ⟨b, j * 3 + 2, none⟩ = some (.int .i64 (kat L j).f2)
theorem KeysAt.below {n₀ : Nat} {A B : World} (h : Below n₀ A B) {sv : Value} {L : List K3} : KeysAt n₀ A sv L → KeysAt n₀ B sv L
  | .inl e => .inl e
  | .inr ⟨b, cap, e, hb, hc⟩ => .inr ⟨b, cap, e, hb, fun j hj => ⟨(h.cell (p := ⟨b, j * 3, none⟩) hb).trans (hc j hj).1, (h.cell (p := ⟨b, j * 3 + 1, none⟩) hb).trans (hc j hj).2.1, (h.cell (p := ⟨b, j * 3 + 2, none⟩) hb).trans (hc j hj).2.2⟩⟩
set_option maxHeartbeats 1000000 in
theorem values_stops (F : Fence) (n : Nat) (h7 : F.fn 36) (hro : F.round = none) (hn : 1 ≤ n) (Bs n₀ : Nat) (sv : Value) (L : List K3) (hreach : L.length ≤ 100000) (w : World) (hBs : Bs < w.heap.size) (hn₀ : n₀ ≤ w.heap.size)
    (hc : w.cell? ⟨Bs, 0, none⟩ = some sv) (hI : KeysAt n₀ w sv L) :
    SeqStopsK F n Try.prog 36 #[.pointer (some ⟨Bs, 0, none⟩)] (fun x : K3 => #[kv x]) (Below n₀) (fun ys => ys = L) (fun pre => pre <+: L) L.length w := fun l J Jx W hW hJ hJx hY h0 => by
  have hc' := (hW.cell (p := ⟨Bs, 0, none⟩) hBs).trans hc
  rcases hI.below (hW.mono hn₀) with ⟨rfl, rfl⟩ | ⟨b, cap, rfl, hb, hcs⟩
  · exact (values1_nil_in F n h7 hro l Bs J W hc' h0).mono fun e W' ⟨he, hj⟩ => ⟨he, .inl ⟨_, rfl, hj⟩⟩
  · refine (values1_in F n h7 hro hn l Bs n₀ b cap L hreach hb J Jx (fun s A o hs => hJ s A _ none hs (World.grownBy_alloc A o none) (fun r e => by cases e)) hY W (Nat.le_trans hn₀ hW.size) hc' hcs h0).mono ?_
    rintro e W' ⟨he, ⟨ys, rfl, hj⟩ | ⟨pre, ⟨k, hk, rfl⟩, hj⟩⟩
    · exact ⟨he, .inl ⟨_, upto_all L, hj⟩⟩
    · exact ⟨he, .inr ⟨_, by rw [upto_take L hk]; exact List.take_prefix _ _, hj⟩⟩
end Go.Proofs.Ytlpbfhbfaphicaa.C19
