/- Layer 19 (cache): keys, walked. -/
import Derived.Test.YtlpbfhbfaphicaaKys19
import Derived.Sort.CutIn
namespace Go.Proofs.Ytlpbfhbfaphicaa.C19
open Go Go.RowKit Go.Shelf Go.Proofs.YtlpbfhbfaphicaaW.PrintWords Go.Proofs.YtlpbfhbfaphicaaW.PrintLast Go.Proofs.YtlpbfhbfaphicaaW.PrintMore Go.Proofs.Ytlpbfhbfaphicaa.XA

set_option linter.unusedVariables false
attribute [local go_sem] Oper.semAt_some
attribute [local go_sem high] eqA35
structure RK (ad : Addr) (len c0 i : Nat) (x y : K3) (vb : Bool) (w1 w' : World) (b0 b1 b2 b3 b4 b5 b6 b7 b8 b9 b10 b11 b12 b13 : Bool) (a10 a11 a12 a13 a14 a15 a16 a17 a18 a19 a20 a21 a22 a23 : Value) : Prop where
  below : Below w1.heap.size w1 w'
  h0 : b0 = true → a10 = .int .i64 (i : Int)
  h1 : b1 = true → a11 = .slice (some ad) len c0
  h2 : b2 = true → a12 = .int .i64 (len : Int)
  h3 : b3 = true → a13 = .bool false
  h4 : b4 = true → a14 = .bool false
  h5 : b5 = true → a15 = kv x
  h6 : b6 = true → a16 = .slice (some ad) len c0
  h7 : b7 = true → a17 = .int .i64 (i : Int)
  h8 : b8 = true → a18 = .pointer (some (ad.add (i * 4)))
  h9 : b9 = true → a19 = .pointer (some (ad.add (i * 4)))
  h10 : b10 = true → a20 = kv y
  h11 : b11 = true → a21 = kv y
  h12 : b12 = true → a22 = .bool vb
  h13 : b13 = true → a23 = .bool vb
def IK (mk : Value → Value → Value → Value → Value → Value → Value → Value → Value → Value → Value → Value → Value → Value → Act) (ad : Addr) (len c0 i : Nat) (x y : K3) (vb : Bool) (w1 : World) (l : Array Bool) (a : Act) (w' : World) : Prop :=
  ∃ b0 b1 b2 b3 b4 b5 b6 b7 b8 b9 b10 b11 b12 b13 : Bool, ∃ a10 a11 a12 a13 a14 a15 a16 a17 a18 a19 a20 a21 a22 a23 : Value, l = [b0, b1, b2, b3, b4, b5, b6, b7, b8, b9, b10, b11, b12, b13].toArray ∧ a = mk a10 a11 a12 a13 a14 a15 a16 a17 a18 a19 a20 a21 a22 a23 ∧ RK ad len c0 i x y vb w1 w' b0 b1 b2 b3 b4 b5 b6 b7 b8 b9 b10 b11 b12 b13 a10 a11 a12 a13 a14 a15 a16 a17 a18 a19 a20 a21 a22 a23
/-- Pairs in memory. -/
abbrev kP : Kd (K3 × Int) := Kd.pair kk (Kd.int .i64)
abbrev pat (P : List Pr) (j : Nat) : Pr := P[j]?.getD (⟨0, 0, 0⟩, 0)
theorem at_P {w : World} {A : Option Addr} {n : Nat} {xs : List Pr} (h : Kd.C kP w A n xs) (i : Nat) (h1 : i < n) : ∃ ad, A = some ad ∧ w.cell? (ad.add (i * 4)) = some (.int .u64 (pat xs i).1.f0) ∧ w.cell? ⟨(ad.add (i * 4)).block, (ad.add (i * 4)).off + 1, none⟩ = some (.int .i64 (pat xs i).1.f1) ∧ w.cell? ⟨(ad.add (i * 4)).block, (ad.add (i * 4)).off + 2, none⟩ = some (.int .i64 (pat xs i).1.f2) ∧ w.cell? ⟨(ad.add (i * 4)).block, (ad.add (i * 4)).off + 3, none⟩ = some (.int .i64 (pat xs i).2) := by
  obtain ⟨ad, c, e, _, hK, hc0⟩ := Kd.C_get h (⟨0, 0, 0⟩, 0) (i : Int) (by omega) (by omega)
  have hc : ∀ j u, c[j]? = some u → w.cell? (ad.add (i * 4 + j)) = some u := hc0
  have hcs : c = [.int .u64 (pat xs i).1.f0, .int .i64 (pat xs i).1.f1, .int .i64 (pat xs i).1.f2, .int .i64 (pat xs i).2] := by
    have hK2 : kP.K w (pat xs i) c := by
      have e : xs.getD (i : Int).toNat (⟨0, 0, 0⟩, 0) = pat xs i := by rw [Int.toNat_natCast, List.getD_eq_getElem?_getD]
      rw [← e]
      exact hK
    obtain ⟨_, _, rfl, s0, rfl⟩ := hK2
    obtain rfl := k35_open s0
    rfl
  subst hcs
  exact ⟨ad, e, hc 0 _ rfl, by rw [← add_field _ _ 1 (by omega)]; exact hc 1 _ rfl, by rw [← add_field _ _ 2 (by omega)]; exact hc 2 _ rfl, by rw [← add_field _ _ 3 (by omega)]; exact hc 3 _ rfl⟩
set_option maxHeartbeats 2000000 in
theorem keysfn_some {W : World} {base g : Nat} {ok : Nat → Prop} {room h m : Int} {L : List K3} {bm n : Nat} {v : Value} {D : DataW Value} (H : Cac W base ok g bm room h m v L D n) : Calls Try.prog 32 #[.pointer (some ⟨g, 0, none⟩)] W fun e W' => e = .returned (.func (.func 36) #[] #[.pointer (some ⟨W.heap.size, 0, none⟩)]) ∧ W' = W.alloc (.cells #[v] 63) := by
  obtain ⟨A, c, hv⟩ := Kd.R_slice H.row
  subst hv
  obtain ⟨⟨_, xc1, _, _, _⟩, _⟩ := H.cells
  clear H
  go_enter Try.func32, Try.ntmps32
  go_wp2_with (go_at_call 35; (refine (callsIn_wide.1 (values_in Fence.wide 1 trivial rfl _ _ _ _)).mono ?_); rintro e w5 ⟨rfl, rfl⟩)
  go_ret
  exact ⟨rfl, rfl⟩
set_option maxHeartbeats 2000000 in
theorem keysfn_none {W : World} : Calls Try.prog 32 #[.pointer none] W fun e W' => e = .returned (.func (.func 36) #[] #[.pointer (some ⟨W.heap.size, 0, none⟩)]) ∧ W' = W.alloc (.cells #[.slice none 0 0] 63) := by
  go_enter Try.func32, Try.ntmps32
  go_wp2_with (go_at_call 35; (refine (callsIn_wide.1 (values_in Fence.wide 1 trivial rfl _ _ _ _)).mono ?_); rintro e w5 ⟨rfl, rfl⟩)
  go_ret
  exact ⟨rfl, rfl⟩
theorem block_kept {W W' : World} {row : Option Nat} {g : Nat} {cs : Array Value} {ty : TypeId} (h : W.heap[g]? = some (.cells cs ty (0, 0))) (hg : W.grownBy W' row) (hr : ∀ r, row = some r → ∃ o : Obj, W.heap[r]? = some o ∧ o.isCells = false) : W'.heap[g]? = some (.cells cs ty (0, 0)) :=
  (hg.block g (blk_lt h) (fun e => by
    obtain ⟨o, ho, hc⟩ := hr g e.symm
    rw [h] at ho
    cases ho
    cases hc)).trans h
set_option maxHeartbeats 4000000 in
set_option maxRecDepth 100000 in
theorem keys_walk {w : World} {cv sv : Value} {A : Option Addr} {c0 : Nat} {P : List Pr} (hK : ∀ W, Below w.heap.size w W → Calls Try.prog 32 #[cv] W fun e W' => e = .returned (.func (.func 36) #[] #[.pointer (some ⟨W.heap.size, 0, none⟩)]) ∧ W' = W.alloc (.cells #[sv] 63))
    (hS : KeysAt w.heap.size w sv (P.map Prod.fst)) (hr : Kd.C kP w A P.length P) (hl : P.length ≤ 10000) :
    Calls Try.prog 23 #[cv, .slice A P.length c0] w fun e w' => e = .returned (.bool true) ∧ Below w.heap.size w w' := by
  refine (callsIn_wide (n := 5)).1 ?_
  refine callsIn_of_wp_marks Try.func23 rfl trivial ?_ rfl
  simp only [Try.ntmps23, List.size_toArray, List.length_cons, List.length_nil, Nat.reduceAdd, Nat.reduceSub, Array.replicate_succ, Array.replicate_zero, List.push_toArray, List.append_toArray, List.nil_append, List.cons_append]
  have hbk : ∀ o1 o2 o3, Below w.heap.size w (((w.alloc o1).alloc o2).alloc o3) := fun o1 o2 o3 => below_alloc (below_alloc (below_alloc (Below.refl _ _) _) _) _
  gi_wp2_with (refine ⟨trivial, ?_⟩; gi_at_call 32; (refine (callsIn_wide.2 (hK _ (hbk _ _ _))).mono ?_); rintro e w5 ⟨rfl, rfl⟩)
  obtain ⟨L, hL⟩ : ∃ L, P.map Prod.fst = L := ⟨_, rfl⟩
  rw [hL] at hS
  have hLl : L.length = P.length := by rw [← hL, List.length_map]
  have hB0 : Below w.heap.size w ((((w.alloc (.cells #[.slice A P.length c0] 51 (0, 0))).alloc (.cells #[.bool false] 4 (0, 0))).alloc (.cells #[.int .i64 0] 3 (0, 0))).alloc (.cells #[sv] 63 (0, 0))) := below_alloc (hbk _ _ _) _
  have h30 : ((((w.alloc (.cells #[.slice A P.length c0] 51 (0, 0))).alloc (.cells #[.bool false] 4 (0, 0))).alloc (.cells #[.int .i64 0] 3 (0, 0))).alloc (.cells #[sv] 63 (0, 0))).heap[w.heap.size]? = some (.cells #[.slice A P.length c0] 51 (0, 0)) := blk_alloc (blk_alloc (blk_alloc (blk_new _ _) _) _) _
  have h40 : ((((w.alloc (.cells #[.slice A P.length c0] 51 (0, 0))).alloc (.cells #[.bool false] 4 (0, 0))).alloc (.cells #[.int .i64 0] 3 (0, 0))).alloc (.cells #[sv] 63 (0, 0))).heap[w.heap.size + 1]? = some (.cells #[.bool false] 4 (0, 0)) := blk_alloc (blk_alloc (by rw [← World.size_alloc w]; exact blk_new _ _) _) _
  have h50 : ((((w.alloc (.cells #[.slice A P.length c0] 51 (0, 0))).alloc (.cells #[.bool false] 4 (0, 0))).alloc (.cells #[.int .i64 0] 3 (0, 0))).alloc (.cells #[sv] 63 (0, 0))).heap[w.heap.size + 1 + 1]? = some (.cells #[.int .i64 0] 3 (0, 0)) := blk_alloc (by
    have e : w.heap.size + 1 + 1 = ((w.alloc (.cells #[.slice A P.length c0] 51 (0, 0))).alloc (.cells #[.bool false] 4 (0, 0))).heap.size := by rw [World.size_alloc, World.size_alloc]
    rw [e]
    exact blk_new _ _) _
  have hS0 : ((((w.alloc (.cells #[.slice A P.length c0] 51 (0, 0))).alloc (.cells #[.bool false] 4 (0, 0))).alloc (.cells #[.int .i64 0] 3 (0, 0))).alloc (.cells #[sv] 63 (0, 0))).cell? ⟨w.heap.size + 1 + 1 + 1, 0, none⟩ = some sv := by
    have e : w.heap.size + 1 + 1 + 1 = (((w.alloc (.cells #[.slice A P.length c0] 51 (0, 0))).alloc (.cells #[.bool false] 4 (0, 0))).alloc (.cells #[.int .i64 0] 3 (0, 0))).heap.size := by rw [World.size_alloc, World.size_alloc, World.size_alloc]
    rw [e]
    exact (blk_cell (blk_new _ _) 0).trans rfl
  have hsz : ((((w.alloc (.cells #[.slice A P.length c0] 51 (0, 0))).alloc (.cells #[.bool false] 4 (0, 0))).alloc (.cells #[.int .i64 0] 3 (0, 0))).alloc (.cells #[sv] 63 (0, 0))).heap.size = w.heap.size + 4 := by rw [World.size_alloc, World.size_alloc, World.size_alloc, World.size_alloc]
  generalize ((((w.alloc (Obj.cells #[.slice A P.length c0] 51 (0, 0))).alloc (Obj.cells #[.bool false] 4 (0, 0))).alloc (Obj.cells #[.int .i64 0] 3 (0, 0))).alloc (Obj.cells #[sv] 63 (0, 0))) = W0 at hB0 h30 h40 h50 hS0 hsz ⊢
  clear hK hbk
  refine wpIn_rangeFunc_ownH rfl (by decide) (gf := 36) (lb := #[.pointer (some ⟨w.heap.size + 1 + 1 + 1, 0, none⟩)]) rfl trivial (enters_of Try.func36 (by kernel_rfl) rfl)
    (values_stops Fence.wide 4 trivial rfl (by decide) (w.heap.size + 1 + 1 + 1) w.heap.size sv L (by omega) W0 (by omega) (by omega) hS0 (hS.below hB0)) belowK_t (belowK_b (by omega)) (Below.refl _ _) (fun _ => rfl)
    (fun (pre : List K3) (W : World) => (W.heap[w.heap.size]? = some (.cells #[.slice A P.length c0] 51 (0, 0)) ∧ W.heap[w.heap.size + 1]? = some (.cells #[.bool false] 4 (0, 0)) ∧ W.heap[w.heap.size + 1 + 1]? = some (.cells #[.int .i64 (pre.length : Int)] 3 (0, 0))) ∧ Below w.heap.size w W)
    (fun (c : Code) (pre : List K3) (W : World) => c = .ret ∧ ∃ (ini : List K3) (x : K3), pre = ini ++ [x] ∧ ini.length < P.length ∧ x ≠ (pat P ini.length).1)
    (OwnFrom.and (Own.from (fun s A B row hs hg hr => ⟨block_kept hs.1 hg hr, block_kept hs.2.1 hg hr, block_kept hs.2.2 hg hr⟩) _) (ownFrom_below (Nat.le_refl _) (by omega)))
    (fun _ _ _ _ _ hs _ _ => hs) ⟨⟨h30, h40, h50⟩, hB0⟩
    (fun x a' W => ∃ Bx, BoxK W Bx x ∧ a' = { tmps := #[cv, .slice A P.length c0, undef, .pointer (some ⟨w.heap.size, 0, none⟩), .pointer (some ⟨w.heap.size + 1, 0, none⟩), .pointer (some ⟨w.heap.size + 1 + 1, 0, none⟩), .pointer (some ⟨Bx, 0, none⟩), cv, .func (.func 36) #[] #[.pointer (some ⟨w.heap.size + 1 + 1 + 1, 0, none⟩)], kv x, undef, undef, undef, undef, undef, undef, undef, undef, undef, undef, undef, undef, undef, undef, undef, undef, undef, undef, undef, undef], defers := [] })
    (fun x a' _ W W' row hs hg hr => by
      obtain ⟨Bx, h1, h2⟩ := hs
      exact ⟨Bx, block_kept h1 hg (fun r e => (hr r e).2), h2⟩) ?assign ?body ?done ?stop
  case assign =>
    rintro l pre x W K ⟨⟨h3, h4, h5⟩, hB⟩ hK
    gi_wp2
    exact hK _ _ ((KeepsOthers.alloc _ _).from _) ((Below.refl _ W).alloc hB.size _) ⟨⟨blk_alloc h3 _, blk_alloc h4 _, blk_alloc h5 _⟩, hB.alloc hB.size _⟩ ⟨W.heap.size, BoxK.new W x, rfl⟩
  case body =>
    rintro l pre x a' W hl hrr ⟨⟨h3, h4, h5⟩, hB⟩ ⟨Bx, hbox, rfl⟩ hlt
    rw [hLl] at hlt
    obtain ⟨ad, rfl, yp0, yp1, yp2, _⟩ := at_P (Kd.C_below hr hB) pre.length hlt
    obtain ⟨y, hy⟩ : ∃ y, (pat P pre.length).1 = y := ⟨_, rfl⟩
    obtain ⟨vb, hvb⟩ : ∃ vb, (!(x.f0 == y.f0 && (x.f1 == y.f1 && x.f2 == y.f2))) = vb := ⟨_, rfl⟩
    rw [hy] at yp0 yp1 yp2
    have H3 := Aside0.mk h3
    have H4 := Aside0.mk h4
    have H5 := Aside0.mk h5
    have HX := Aside0.mk hbox
    have HBB := Aside0.mk hB
    have YP0 := Aside0.mk yp0
    have YP1 := Aside0.mk yp1
    have YP2 := Aside0.mk yp2
    have HVB := Aside0.mk hvb
    have HYY := Aside0.mk hy
    have HLT := Aside0.mk hlt
    have cge : decide ((P.length : Int) ≤ (pre.length : Int)) = false := decide_eq_false (by omega)
    have cge' : decide (P.length ≤ pre.length) = false := decide_eq_false (by omega)
    have ci0 : (0 : Int) ≤ (pre.length : Int) := Int.natCast_nonneg _
    have ci1 : (pre.length : Int) < (P.length : Int) := by omega
    clear h3 h4 h5 hbox hB yp0 yp1 yp2 hy
    gi_upto_region 4 with (fail)
    refine wpIn_region_inv (by kernel_rfl) (IK (fun a10 a11 a12 a13 a14 a15 a16 a17 a18 a19 a20 a21 a22 a23 => { tmps := #[cv, .slice (some ad) P.length c0, undef, .pointer (some ⟨w.heap.size, 0, none⟩), .pointer (some ⟨w.heap.size + 1, 0, none⟩), .pointer (some ⟨w.heap.size + 1 + 1, 0, none⟩), .pointer (some ⟨Bx, 0, none⟩), cv, .func (.func 36) #[] #[.pointer (some ⟨w.heap.size + 1 + 1 + 1, 0, none⟩)], kv x, a10, a11, a12, a13, a14, a15, a16, a17, a18, a19, a20, a21, a22, a23, undef, undef, undef, undef, undef, undef], defers := [] }) ad P.length c0 pre.length x y vb W) (by kernel_rfl) ?start4 ?step4 ?done4
    case start4 =>
      exact ⟨false, false, false, false, false, false, false, false, false, false, false, false, false, false, undef, undef, undef, undef, undef, undef, undef, undef, undef, undef, undef, undef, undef, undef, rfl, rfl, ⟨below_drew1 (Below.refl _ _), (fun h => by cases h), (fun h => by cases h), (fun h => by cases h), (fun h => by cases h), (fun h => by cases h), (fun h => by cases h), (fun h => by cases h), (fun h => by cases h), (fun h => by cases h), (fun h => by cases h), (fun h => by cases h), (fun h => by cases h), (fun h => by cases h), (fun h => by cases h)⟩⟩
    case step4 =>
      rintro la a w' q ⟨b0, b1, b2, b3, b4, b5, b6, b7, b8, b9, b10, b11, b12, b13, a10, a11, a12, a13, a14, a15, a16, a17, a18, a19, a20, a21, a22, a23, rfl, rfl, hR⟩ hi
      have HRR := Aside0.mk hR
      clear hR
      have hq : q < 14 := (ready_free hi).1
      have hcase : q = 0 ∨ q = 1 ∨ q = 2 ∨ q = 3 ∨ q = 4 ∨ q = 5 ∨ q = 6 ∨ q = 7 ∨ q = 8 ∨ q = 9 ∨ q = 10 ∨ q = 11 ∨ q = 12 ∨ q = 13 := by omega
      clear hq
      dsimp only
      rcases hcase with rfl | rfl | rfl | rfl | rfl | rfl | rfl | rfl | rfl | rfl | rfl | rfl | rfl | rfl
      · have hfl : b0 = false := (ready_free hi).2
        clear hi
        have x5 := (blk_cell (blk_below H5.out HRR.out.below) 0)
        refine opX_step rfl (fun K' hK => ?_)
        go_simp
        have R := HRR.out
        exact hK _ _ ⟨true, b1, b2, b3, b4, b5, b6, b7, b8, b9, b10, b11, b12, b13, _, _, _, _, _, _, _, _, _, _, _, _, _, _, rfl, rfl, ⟨R.below, (fun _ => rfl), R.h1, R.h2, R.h3, R.h4, R.h5, R.h6, R.h7, R.h8, R.h9, R.h10, R.h11, R.h12, R.h13⟩⟩
      · have hfl : b1 = false := (ready_free hi).2
        clear hi
        have x3 := (blk_cell (blk_below H3.out HRR.out.below) 0)
        refine opX_step rfl (fun K' hK => ?_)
        go_simp
        have R := HRR.out
        exact hK _ _ ⟨b0, true, b2, b3, b4, b5, b6, b7, b8, b9, b10, b11, b12, b13, _, _, _, _, _, _, _, _, _, _, _, _, _, _, rfl, rfl, ⟨R.below, R.h0, (fun _ => rfl), R.h2, R.h3, R.h4, R.h5, R.h6, R.h7, R.h8, R.h9, R.h10, R.h11, R.h12, R.h13⟩⟩
      · have hfl : b2 = false := (ready_free hi).2
        have k1 : b1 = true := ready_dep hi rfl 1 rfl
        clear hi
        obtain rfl := HRR.out.h1 k1
        refine opX_step rfl (fun K' hK => ?_)
        go_simp
        have R := HRR.out
        exact hK _ _ ⟨b0, b1, true, b3, b4, b5, b6, b7, b8, b9, b10, b11, b12, b13, _, _, _, _, _, _, _, _, _, _, _, _, _, _, rfl, rfl, ⟨R.below, R.h0, R.h1, (fun _ => rfl), R.h3, R.h4, R.h5, R.h6, R.h7, R.h8, R.h9, R.h10, R.h11, R.h12, R.h13⟩⟩
      · have hfl : b3 = false := (ready_free hi).2
        have k0 : b0 = true := ready_dep hi rfl 0 rfl
        have k2 : b2 = true := ready_dep hi rfl 2 rfl
        clear hi
        obtain rfl := HRR.out.h0 k0
        obtain rfl := HRR.out.h2 k2
        refine opX_step rfl (fun K' hK => ?_)
        go_simp
        have R := HRR.out
        exact hK _ _ ⟨b0, b1, b2, true, b4, b5, b6, b7, b8, b9, b10, b11, b12, b13, _, _, _, _, _, _, _, _, _, _, _, _, _, _, rfl, rfl, ⟨R.below, R.h0, R.h1, R.h2, (fun _ => rfl), R.h4, R.h5, R.h6, R.h7, R.h8, R.h9, R.h10, R.h11, R.h12, R.h13⟩⟩
      · have hfl : b4 = false := (ready_free hi).2
        have k3 : b3 = true := ready_dep hi rfl 3 rfl
        clear hi
        obtain rfl := HRR.out.h3 k3
        refine opX_step rfl (fun K' hK => ?_)
        go_simp
        have R := HRR.out
        exact hK _ _ ⟨b0, b1, b2, b3, true, b5, b6, b7, b8, b9, b10, b11, b12, b13, _, _, _, _, _, _, _, _, _, _, _, _, _, _, rfl, rfl, ⟨R.below, R.h0, R.h1, R.h2, R.h3, (fun _ => rfl), R.h5, R.h6, R.h7, R.h8, R.h9, R.h10, R.h11, R.h12, R.h13⟩⟩
      · have hfl : b5 = false := (ready_free hi).2
        have k4 : b4 = true := ready_dep hi rfl 4 rfl
        clear hi
        obtain rfl := HRR.out.h4 k4
        obtain ⟨ck0, ck1, ck2⟩ := (BoxK.below HX.out HRR.out.below).cells
        refine opX_step rfl (fun K' hK => ?_)
        go_simp
        have R := HRR.out
        exact hK _ _ ⟨b0, b1, b2, b3, b4, true, b6, b7, b8, b9, b10, b11, b12, b13, _, _, _, _, _, _, _, _, _, _, _, _, _, _, rfl, rfl, ⟨R.below, R.h0, R.h1, R.h2, R.h3, R.h4, (fun _ => rfl), R.h6, R.h7, R.h8, R.h9, R.h10, R.h11, R.h12, R.h13⟩⟩
      · have hfl : b6 = false := (ready_free hi).2
        have k4 : b4 = true := ready_dep hi rfl 4 rfl
        clear hi
        obtain rfl := HRR.out.h4 k4
        have x3 := (blk_cell (blk_below H3.out HRR.out.below) 0)
        refine opX_step rfl (fun K' hK => ?_)
        go_simp
        have R := HRR.out
        exact hK _ _ ⟨b0, b1, b2, b3, b4, b5, true, b7, b8, b9, b10, b11, b12, b13, _, _, _, _, _, _, _, _, _, _, _, _, _, _, rfl, rfl, ⟨R.below, R.h0, R.h1, R.h2, R.h3, R.h4, R.h5, (fun _ => rfl), R.h7, R.h8, R.h9, R.h10, R.h11, R.h12, R.h13⟩⟩
      · have hfl : b7 = false := (ready_free hi).2
        have k4 : b4 = true := ready_dep hi rfl 4 rfl
        clear hi
        obtain rfl := HRR.out.h4 k4
        have x5 := (blk_cell (blk_below H5.out HRR.out.below) 0)
        refine opX_step rfl (fun K' hK => ?_)
        go_simp
        have R := HRR.out
        exact hK _ _ ⟨b0, b1, b2, b3, b4, b5, b6, true, b8, b9, b10, b11, b12, b13, _, _, _, _, _, _, _, _, _, _, _, _, _, _, rfl, rfl, ⟨R.below, R.h0, R.h1, R.h2, R.h3, R.h4, R.h5, R.h6, (fun _ => rfl), R.h8, R.h9, R.h10, R.h11, R.h12, R.h13⟩⟩
      · have hfl : b8 = false := (ready_free hi).2
        have k4 : b4 = true := ready_dep hi rfl 4 rfl
        have k6 : b6 = true := ready_dep hi rfl 6 rfl
        have k7 : b7 = true := ready_dep hi rfl 7 rfl
        clear hi
        obtain rfl := HRR.out.h4 k4
        obtain rfl := HRR.out.h6 k6
        obtain rfl := HRR.out.h7 k7
        refine opX_step rfl (fun K' hK => ?_)
        go_simp
        have R := HRR.out
        exact hK _ _ ⟨b0, b1, b2, b3, b4, b5, b6, b7, true, b9, b10, b11, b12, b13, _, _, _, _, _, _, _, _, _, _, _, _, _, _, rfl, rfl, ⟨R.below, R.h0, R.h1, R.h2, R.h3, R.h4, R.h5, R.h6, R.h7, (fun _ => rfl), R.h9, R.h10, R.h11, R.h12, R.h13⟩⟩
      · have hfl : b9 = false := (ready_free hi).2
        have k4 : b4 = true := ready_dep hi rfl 4 rfl
        have k8 : b8 = true := ready_dep hi rfl 8 rfl
        clear hi
        obtain rfl := HRR.out.h4 k4
        obtain rfl := HRR.out.h8 k8
        refine opX_step rfl (fun K' hK => ?_)
        go_simp
        have R := HRR.out
        exact hK _ _ ⟨b0, b1, b2, b3, b4, b5, b6, b7, b8, true, b10, b11, b12, b13, _, _, _, _, _, _, _, _, _, _, _, _, _, _, rfl, rfl, ⟨R.below, R.h0, R.h1, R.h2, R.h3, R.h4, R.h5, R.h6, R.h7, R.h8, (fun _ => rfl), R.h10, R.h11, R.h12, R.h13⟩⟩
      · have hfl : b10 = false := (ready_free hi).2
        have k4 : b4 = true := ready_dep hi rfl 4 rfl
        have k9 : b9 = true := ready_dep hi rfl 9 rfl
        clear hi
        obtain rfl := HRR.out.h4 k4
        obtain rfl := HRR.out.h9 k9
        have yp0 := pw_cell_below HRR.out.below YP0.out
        have yp1 := pw_cell_below HRR.out.below YP1.out
        have yp2 := pw_cell_below HRR.out.below YP2.out
        refine opX_step rfl (fun K' hK => ?_)
        go_simp
        have R := HRR.out
        exact hK _ _ ⟨b0, b1, b2, b3, b4, b5, b6, b7, b8, b9, true, b11, b12, b13, _, _, _, _, _, _, _, _, _, _, _, _, _, _, rfl, rfl, ⟨R.below, R.h0, R.h1, R.h2, R.h3, R.h4, R.h5, R.h6, R.h7, R.h8, R.h9, (fun _ => rfl), R.h11, R.h12, R.h13⟩⟩
      · have hfl : b11 = false := (ready_free hi).2
        have k4 : b4 = true := ready_dep hi rfl 4 rfl
        have k10 : b10 = true := ready_dep hi rfl 10 rfl
        clear hi
        obtain rfl := HRR.out.h4 k4
        obtain rfl := HRR.out.h10 k10
        refine opX_step rfl (fun K' hK => ?_)
        go_wp2_with (go_at_call 17; (with_reducible refine (key_calls y _).mono ?_); rintro e w8 ⟨rfl, hb⟩; have HY := Aside0.mk hb; clear hb)
        have R := HRR.out
        exact ⟨b0, b1, b2, b3, b4, b5, b6, b7, b8, b9, b10, true, b12, b13, _, _, _, _, _, _, _, _, _, _, _, _, _, _, rfl, rfl, ⟨below_step R.below HY.out, R.h0, R.h1, R.h2, R.h3, R.h4, R.h5, R.h6, R.h7, R.h8, R.h9, R.h10, (fun _ => rfl), R.h12, R.h13⟩⟩
      · have hfl : b12 = false := (ready_free hi).2
        have k4 : b4 = true := ready_dep hi rfl 4 rfl
        have k5 : b5 = true := ready_dep hi rfl 5 rfl
        have k11 : b11 = true := ready_dep hi rfl 11 rfl
        clear hi
        obtain rfl := HRR.out.h4 k4
        obtain rfl := HRR.out.h5 k5
        obtain rfl := HRR.out.h11 k11
        refine opX_step rfl (fun K' hK => ?_)
        go_simp
        have R := HRR.out
        exact hK _ _ ⟨b0, b1, b2, b3, b4, b5, b6, b7, b8, b9, b10, b11, true, b13, _, _, _, _, _, _, _, _, _, _, _, _, _, _, rfl, rfl, ⟨R.below, R.h0, R.h1, R.h2, R.h3, R.h4, R.h5, R.h6, R.h7, R.h8, R.h9, R.h10, R.h11, (fun _ => rfl), R.h13⟩⟩
      · have hfl : b13 = false := (ready_free hi).2
        have k4 : b4 = true := ready_dep hi rfl 4 rfl
        have k12 : b12 = true := ready_dep hi rfl 12 rfl
        clear hi
        obtain rfl := HRR.out.h4 k4
        obtain rfl := HRR.out.h12 k12
        refine opX_step rfl (fun K' hK => ?_)
        go_simp
        have R := HRR.out
        exact hK _ _ ⟨b0, b1, b2, b3, b4, b5, b6, b7, b8, b9, b10, b11, b12, true, _, _, _, _, _, _, _, _, _, _, _, _, _, _, rfl, rfl, ⟨R.below, R.h0, R.h1, R.h2, R.h3, R.h4, R.h5, R.h6, R.h7, R.h8, R.h9, R.h10, R.h11, R.h12, (fun _ => rfl)⟩⟩
    case done4 =>
      rintro la a w' ⟨b0, b1, b2, b3, b4, b5, b6, b7, b8, b9, b10, b11, b12, b13, a10, a11, a12, a13, a14, a15, a16, a17, a18, a19, a20, a21, a22, a23, rfl, rfl, hR⟩ hi
      have hd := all_done rfl (by kernel_rfl) hi
      clear hi
      obtain rfl : b0 = true := hd 0 (by decide)
      obtain rfl : b1 = true := hd 1 (by decide)
      obtain rfl : b2 = true := hd 2 (by decide)
      obtain rfl : b3 = true := hd 3 (by decide)
      obtain rfl : b4 = true := hd 4 (by decide)
      obtain rfl : b5 = true := hd 5 (by decide)
      obtain rfl : b6 = true := hd 6 (by decide)
      obtain rfl : b7 = true := hd 7 (by decide)
      obtain rfl : b8 = true := hd 8 (by decide)
      obtain rfl : b9 = true := hd 9 (by decide)
      obtain rfl : b10 = true := hd 10 (by decide)
      obtain rfl : b11 = true := hd 11 (by decide)
      obtain rfl : b12 = true := hd 12 (by decide)
      obtain rfl : b13 = true := hd 13 (by decide)
      have HRR := Aside0.mk hR
      obtain rfl := hR.h13 rfl
      clear hR hd
      dsimp only
      have Rb := HRR.out.below
      have hk1 : KeepsOthers W w' := ⟨Rb.size, fun k o hk ho => (Rb.block k (blk_lt hk)).trans hk⟩
      have hk2 : Below w.heap.size W w' := Rb.mono HBB.out.size
      have g3 := blk_below H3.out Rb
      have g4 := blk_below H4.out Rb
      have g5 := blk_below H5.out Rb
      have c5 := blk_cell g5 0
      have f5 := blk_frozen g5 0
      have c4 := blk_cell g4 0
      have f4 := blk_frozen g4 0
      cases vb with
      | false =>
        have wi : IntKind.i64.wrap ((pre.length : Int) + 1) = (pre.length : Int) + 1 := by have := HLT.out; rw [i64_w]; unfold wrap64; omega
        gi_wp2
        refine ⟨(hk1.trans (KeepsOthers.setCell _ _ _)).from _, hk2.setCell (p := ⟨w.heap.size + 1 + 1, 0, none⟩) (by show w.heap.size ≤ w.heap.size + 1 + 1; omega) _, ⟨blk_far g3 (by show w.heap.size ≠ w.heap.size + 1 + 1; omega) _, blk_far g4 (by show w.heap.size + 1 ≠ w.heap.size + 1 + 1; omega) _, ?_⟩, (HBB.out.trans hk2).setCell (p := ⟨w.heap.size + 1 + 1, 0, none⟩) (by show w.heap.size ≤ w.heap.size + 1 + 1; omega) _⟩
        rw [List.length_append]
        exact blk_put g5 0 _ rfl
      | true =>
        gi_wp2
        refine ⟨(hk1.trans (KeepsOthers.setCell _ _ _)).from _, rfl, pre, x, rfl, HLT.out, ?_⟩
        rw [HYY.out]
        intro e
        have h := HVB.out
        rw [e] at h
        simp at h
  case done =>
    rintro D ys W hD rfl ⟨⟨h3, h4, h5⟩, hB⟩ hKD
    rw [hLl] at h5
    have x5 := blk_cell h5 0
    have x3 := blk_cell h3 0
    have x4 := blk_cell h4 0
    have y4 := blk_frozen h4 0
    gi_wp2
    have hK' := (KeepsOthers.setCell W ⟨w.heap.size + 1, 0, none⟩ (.bool true)).same D _ hKD rfl
    refine ⟨by simp, .inl ⟨_, _, rfl, run_takeDeferred hK', ?_⟩⟩
    have hc5 := cell_kept (World.cell?_setCell_same' W ⟨w.heap.size + 1, 0, none⟩ (.bool true) (by rw [x4]; rfl)) (grownBy_putObj' _ D (.deferred none)) (fun r e => by cases e; exact ⟨_, hK', rfl⟩)
    refine ⟨.bool true, ?_, rfl, (hB.setCell (p := ⟨w.heap.size + 1, 0, none⟩) (by show w.heap.size ≤ w.heap.size + 1; omega) _).trans (belowK_b (w := w) (Nat.le_refl _) _ D _ _ (by omega) hK' rfl rfl)⟩
    simp [results, Try.f23, go_sem, hc5]
  case stop =>
    rintro D c pre W hD hpre ⟨rfl, ini, x, rfl, h1, h2⟩ hKD
    exfalso
    obtain ⟨t, ht⟩ := hpre
    apply h2
    have e1 : L[ini.length]? = some x := by
      rw [← ht, List.append_assoc, List.getElem?_append_right (Nat.le_refl _), Nat.sub_self]
      rfl
    rw [← hL, List.getElem?_map] at e1
    obtain ⟨p, hp1, hp2⟩ := Option.map_eq_some_iff.1 e1
    show x = (P[ini.length]?.getD (⟨0, 0, 0⟩, 0)).1
    rw [hp1]
    exact hp2.symm
end Go.Proofs.Ytlpbfhbfaphicaa.C19
