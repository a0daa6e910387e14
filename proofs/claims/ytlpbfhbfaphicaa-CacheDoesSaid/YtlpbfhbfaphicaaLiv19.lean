/- Layer 19 (cache): New, Len, Room; alive. -/
import Derived.Test.YtlpbfhbfaphicaaPut19
namespace Go.Proofs.Ytlpbfhbfaphicaa.C19
open Go Go.RowKit Go.Maps Go.Lib Go.Sort Go.Proofs.YtlpbfhbfaphicaaW.PrintWords Go.Proofs.YtlpbfhbfaphicaaW.PrintLast Go.Proofs.YtlpbfhbfaphicaaW.PrintMore Go.Proofs.Ytlpbfhbfaphicaa.XA

set_option linter.unusedVariables false
attribute [local go_sem] max2_int min2_int max_two min_two max_three min_three max_four min_four
theorem mrel_nil : MRel (.map []) [] := ⟨fun k _ => rfl, fun k _ => rfl⟩
theorem new_cac (w : World) (q : Int) (hq : 0 ≤ q ∧ q ≤ 64) : Below w.heap.size w ((w.alloc (.map #[] 0)).alloc (.cells #[.int .i64 q, .slice none 0 0, .map (some w.heap.size), .int .i64 0, .int .i64 0] 65)) ∧ w.heap.size ≤ w.heap.size + 1 ∧
    ∀ (base : Nat) (ok : Nat → Prop), base ≤ w.heap.size → (∀ k, w.heap.size ≤ k → ok k) → CacP ((w.alloc (.map #[] 0)).alloc (.cells #[.int .i64 q, .slice none 0 0, .map (some w.heap.size), .int .i64 0, .int .i64 0] 65)) base ok (w.heap.size + 1) q 0 0 [] 0 := by
  have h1 : Below w.heap.size w (w.alloc (.map #[] 0)) := below_alloc (Below.refl _ _) _
  have h2 : (w.alloc (.map #[] 0)).heap.size = w.heap.size + 1 := World.size_alloc _ _
  refine ⟨below_alloc h1 _, Nat.le_succ _, fun base ok hb ho => ⟨⟨w.heap.size, .slice none 0 0, .map [], 0, ⟨?_, Kd.R_nil _ _ _ _ _, (World.ownsMap_made w _ _ _).alloc _, ho _ (Nat.le_succ _), ho _ (Nat.le_refl _), Nat.le_succ_of_le hb, hb, by omega⟩, mrel_nil, Nat.le_refl _⟩, List.nodup_nil, (fun e he => by cases he), hq.1, hq.2⟩⟩
  rw [← h2]
  exact blk_new _ _
set_option maxHeartbeats 4000000 in
set_option maxRecDepth 100000 in
theorem new_calls {r : Int} {w : World} : Calls Try.prog 15 #[.int .i64 r] w fun e w' => ∃ g, e = .returned (.pointer (some ⟨g, 0, none⟩)) ∧ Below w.heap.size w w' ∧ w.heap.size ≤ g ∧ ∀ (base : Nat) (ok : Nat → Prop), base ≤ w.heap.size → (∀ k, w.heap.size ≤ k → ok k) → CacP w' base ok g (min (max r 0) 64) 0 0 [] 0 := by
  have hmm := @run_makeMap Try.prog
  go_enter Try.func15, Try.ntmps15
  go_wp2
  · go_ret
    exact ⟨_, rfl, by rw [show min (max r 0) 64 = 0 by omega]; exact new_cac w 0 (by decide)⟩
  · go_ret
    exact ⟨_, rfl, by rw [show min (max r 0) 64 = 64 by omega]; exact new_cac w 64 (by decide)⟩
  · go_ret
    exact ⟨_, rfl, by rw [show min (max r 0) 64 = r by omega]; exact new_cac w r ⟨by omega, by omega⟩⟩
set_option maxHeartbeats 4000000 in
theorem len_calls {w : World} {base g N : Nat} {ok : Nat → Prop} {room h m : Int} {P : List Pr} (H : CacP w base ok g room h m P N) : Calls Try.prog 18 #[.pointer (some ⟨g, 0, none⟩)] w fun e w' => e = .returned (.int .i64 (P.length : Int)) ∧ w' = w := by
  obtain ⟨⟨bm, v, D, n, HC, _⟩, _⟩ := H
  obtain ⟨A, c, hv⟩ := Kd.R_slice HC.row
  rw [List.length_map] at hv
  subst hv
  obtain ⟨⟨_, xc1, _, _, _⟩, _⟩ := HC.cells
  clear HC
  go_enter Try.func18, Try.ntmps18
  go_wp2
  go_ret
  exact ⟨rfl, rfl⟩
set_option maxHeartbeats 4000000 in
theorem room_calls {w : World} {base g N : Nat} {ok : Nat → Prop} {room h m : Int} {P : List Pr} (H : CacP w base ok g room h m P N) : Calls Try.prog 25 #[.pointer (some ⟨g, 0, none⟩)] w fun e w' => e = .returned (.int .i64 room) ∧ w' = w := by
  obtain ⟨⟨bm, v, D, n, HC, _⟩, _⟩ := H
  obtain ⟨⟨xc0, _, _, _, _⟩, _⟩ := HC.cells
  clear HC
  go_enter Try.func25, Try.ntmps25
  go_wp2
  go_ret
  exact ⟨rfl, rfl⟩
theorem CacP.mono {w : World} {base g N : Nat} {ok ok' : Nat → Prop} {room h m : Int} {P : List Pr} (H : CacP w base ok g room h m P N) (hm : ∀ k, k < w.heap.size → ok k → ok' k) : CacP w base ok' g room h m P N := by
  obtain ⟨⟨bm, v, D, n, HC, hM, hn⟩, hnd, hwf, hlen, hroom⟩ := H
  exact ⟨⟨bm, v, D, n, HC.mono hm, hM, hn⟩, hnd, hwf, hlen, hroom⟩
theorem CacP.below {w w1 : World} {base g N : Nat} {ok : Nat → Prop} {room h m : Int} {P : List Pr} (H : CacP w base ok g room h m P N) (hb : Below w.heap.size w w1) : CacP w1 base ok g room h m P N := by
  obtain ⟨⟨bm, v, D, n, HC, hM, hn⟩, hnd, hwf, hlen, hroom⟩ := H
  exact ⟨⟨bm, v, D, n, HC.below hb, hM, hn⟩, hnd, hwf, hlen, hroom⟩
theorem CacP.move {w w1 : World} {base g N : Nat} {ok : Nat → Prop} {room h m : Int} {P : List Pr} (H : CacP w base ok g room h m P N) (hb : ∀ k, k < w.heap.size → ok k → w1.heap[k]? = w.heap[k]?) : CacP w1 base ok g room h m P N := by
  obtain ⟨⟨bm, v, D, n, HC, hM, hn⟩, hnd, hwf, hlen, hroom⟩ := H
  exact ⟨⟨bm, v, D, n, HC.move hb, hM, hn⟩, hnd, hwf, hlen, hroom⟩
set_option maxHeartbeats 4000000 in
set_option maxRecDepth 100000 in
theorem alive_calls (w : World) : Calls Try.prog 14 #[] w fun e w' => e = .returned (.bool true) ∧ Below w.heap.size w w' := by
  have CN := Aside0.mk (new_calls (r := 2) (w := w))
  go_enter Try.func14, Try.ntmps14
  go_upto_region 3 with (go_at_call 15; (with_reducible refine CN.out.mono ?_); rintro e w1 ⟨g, rfl, hb, hg, hc⟩; have HB := Aside0.mk hb; have HC := Aside0.mk hc; have HG := Aside0.mk hg; clear hb hc hg)
  -- printed by liv19.py
  have hb3 : Below w1.heap.size w1 (((w1.alloc (.cells (kc ⟨0, 1, 0⟩).toArray 35 (0, 0))).alloc (.cells (kc ⟨0, 2, 0⟩).toArray 35 (0, 0))).alloc (.cells (kc ⟨0, 3, 0⟩).toArray 35 (0, 0))) := below_alloc (below_alloc (below_alloc (Below.refl _ _) _) _) _
  have X1 : Aside0 (BoxK (((w1.alloc (.cells (kc ⟨0, 1, 0⟩).toArray 35 (0, 0))).alloc (.cells (kc ⟨0, 2, 0⟩).toArray 35 (0, 0))).alloc (.cells (kc ⟨0, 3, 0⟩).toArray 35 (0, 0))) w1.heap.size ⟨0, 1, 0⟩) := ⟨blk_alloc (blk_alloc (blk_new _ _) _) _⟩
  have X2 : Aside0 (BoxK (((w1.alloc (.cells (kc ⟨0, 1, 0⟩).toArray 35 (0, 0))).alloc (.cells (kc ⟨0, 2, 0⟩).toArray 35 (0, 0))).alloc (.cells (kc ⟨0, 3, 0⟩).toArray 35 (0, 0))) (w1.heap.size + 1) ⟨0, 2, 0⟩) := ⟨blk_alloc (by rw [← World.size_alloc w1]; exact blk_new _ _) _⟩
  have X3 : Aside0 (BoxK (((w1.alloc (.cells (kc ⟨0, 1, 0⟩).toArray 35 (0, 0))).alloc (.cells (kc ⟨0, 2, 0⟩).toArray 35 (0, 0))).alloc (.cells (kc ⟨0, 3, 0⟩).toArray 35 (0, 0))) (w1.heap.size + 1 + 1) ⟨0, 3, 0⟩) := ⟨by
    have e : w1.heap.size + 1 + 1 = ((w1.alloc (.cells (kc ⟨0, 1, 0⟩).toArray 35 (0, 0))).alloc (.cells (kc ⟨0, 2, 0⟩).toArray 35 (0, 0))).heap.size := by rw [World.size_alloc, World.size_alloc]
    rw [e]
    exact blk_new _ _⟩
  have HS3 : Aside0 ((((w1.alloc (.cells (kc ⟨0, 1, 0⟩).toArray 35 (0, 0))).alloc (.cells (kc ⟨0, 2, 0⟩).toArray 35 (0, 0))).alloc (.cells (kc ⟨0, 3, 0⟩).toArray 35 (0, 0))).heap.size = w1.heap.size + 3) := ⟨by rw [World.size_alloc, World.size_alloc, World.size_alloc]⟩
  have HC0 : Aside0 (∃ h m, CacP (((w1.alloc (.cells (kc ⟨0, 1, 0⟩).toArray 35 (0, 0))).alloc (.cells (kc ⟨0, 2, 0⟩).toArray 35 (0, 0))).alloc (.cells (kc ⟨0, 3, 0⟩).toArray 35 (0, 0))) w.heap.size (fun q => w.heap.size ≤ q ∧ q ≠ w1.heap.size ∧ q ≠ w1.heap.size + 1 ∧ q ≠ w1.heap.size + 1 + 1) g 2 h m [] 0) := ⟨0, 0, ((HC.out w.heap.size (fun q => w.heap.size ≤ q) (Nat.le_refl _) (fun _ hk => hk)).mono (fun q hq ho => ⟨ho, by omega, by omega, by omega⟩)).below hb3⟩
  have HB3 : Aside0 (Below w.heap.size w (((w1.alloc (.cells (kc ⟨0, 1, 0⟩).toArray 35 (0, 0))).alloc (.cells (kc ⟨0, 2, 0⟩).toArray 35 (0, 0))).alloc (.cells (kc ⟨0, 3, 0⟩).toArray 35 (0, 0)))) := ⟨below_step HB.out hb3⟩
  have HS1 := Aside0.mk HB.out.size
  clear hb3 HB HC CN
  obtain ⟨b1, hb1⟩ : ∃ b, w1.heap.size = b := ⟨_, rfl⟩
  generalize (((w1.alloc (.cells #[.int .u64 0, .int .i64 1, .int .i64 0] 35 (0, 0))).alloc (.cells #[.int .u64 0, .int .i64 2, .int .i64 0] 35 (0, 0))).alloc (.cells #[.int .u64 0, .int .i64 3, .int .i64 0] 35 (0, 0))) = W0 at X1 X2 X3 HS3 HC0 HB3 ⊢
  rw [hb1] at X1 X2 X3 HS3 HC0 HS1 ⊢
  clear hb1
  have KT : Aside0 (Kept (fun q => w.heap.size ≤ q ∧ q ≠ b1 ∧ q ≠ b1 + 1 ∧ q ≠ b1 + 1 + 1) W0 W0) := ⟨Kept.refl _ _⟩
  obtain ⟨h0, m0, hc0⟩ := HC0.out
  obtain ⟨x0, x1, x2⟩ := (X1.out.kept KT.out (fun c => by omega)).cells
  have C0 := Aside0.mk (put_calls (k := ⟨0, 1, 0⟩) (x := 1) hc0 (by unfold Wk W64; decide) (by unfold W64; decide) (by decide) (fun q hq => by have h1 := KT.out.size; have h2 := HS3.out; have h3 := HS1.out; exact ⟨by omega, by omega, by omega, by omega⟩) (by have h1 := KT.out.size; have h2 := HS3.out; have h3 := HS1.out; omega))
  rw [show putP 2 [] ⟨0, 1, 0⟩ 1 = ([(⟨0, 1, 0⟩, 1)] : List Pr) from rfl] at C0
  clear hc0
  go_upto_region 4 with (go_at_call 16; (with_reducible refine C0.out.mono ?_); rintro e V0 ⟨rfl, hk, hc⟩; have HC1 : Aside0 (∃ h m, CacP V0 w.heap.size (fun q => w.heap.size ≤ q ∧ q ≠ b1 ∧ q ≠ b1 + 1 ∧ q ≠ b1 + 1 + 1) g 2 h m [(⟨0, 1, 0⟩, 1)] 1) := ⟨_, _, hc⟩; have KN := Aside0.mk (KT.out.trans hk); clear hk hc KT x0 x1 x2)
  have KT := KN
  clear KN C0 HC0
  obtain ⟨h1, m1, hc1⟩ := HC1.out
  obtain ⟨x0, x1, x2⟩ := (X2.out.kept KT.out (fun c => by omega)).cells
  have C1 := Aside0.mk (put_calls (k := ⟨0, 2, 0⟩) (x := 2) hc1 (by unfold Wk W64; decide) (by unfold W64; decide) (by decide) (fun q hq => by have h1 := KT.out.size; have h2 := HS3.out; have h3 := HS1.out; exact ⟨by omega, by omega, by omega, by omega⟩) (by have h1 := KT.out.size; have h2 := HS3.out; have h3 := HS1.out; omega))
  rw [show putP 2 [(⟨0, 1, 0⟩, 1)] ⟨0, 2, 0⟩ 2 = ([(⟨0, 1, 0⟩, 1), (⟨0, 2, 0⟩, 2)] : List Pr) from rfl] at C1
  clear hc1
  go_upto_region 5 with (go_at_call 16; (with_reducible refine C1.out.mono ?_); rintro e V1 ⟨rfl, hk, hc⟩; have HC2 : Aside0 (∃ h m, CacP V1 w.heap.size (fun q => w.heap.size ≤ q ∧ q ≠ b1 ∧ q ≠ b1 + 1 ∧ q ≠ b1 + 1 + 1) g 2 h m [(⟨0, 1, 0⟩, 1), (⟨0, 2, 0⟩, 2)] 2) := ⟨_, _, hc⟩; have KN := Aside0.mk (KT.out.trans hk); clear hk hc KT x0 x1 x2)
  have KT := KN
  clear KN C1 HC1
  obtain ⟨h2, m2, hc2⟩ := HC2.out
  obtain ⟨x0, x1, x2⟩ := (X1.out.kept KT.out (fun c => by omega)).cells
  have C2 := Aside0.mk (get_calls (k := ⟨0, 1, 0⟩) hc2 (by unfold Wk W64; decide) (fun q hq => by have h1 := KT.out.size; have h2 := HS3.out; have h3 := HS1.out; exact ⟨by omega, by omega, by omega, by omega⟩) (by have h1 := KT.out.size; have h2 := HS3.out; have h3 := HS1.out; omega))
  rw [show getP [(⟨0, 1, 0⟩, 1), (⟨0, 2, 0⟩, 2)] ⟨0, 1, 0⟩ = ([(⟨0, 2, 0⟩, 2), (⟨0, 1, 0⟩, 1)] : List Pr) from rfl, show lookP [(⟨0, 1, 0⟩, 1), (⟨0, 2, 0⟩, 2)] ⟨0, 1, 0⟩ = some 1 from rfl] at C2
  clear hc2
  go_upto_region 6 with (go_at_call 19; (with_reducible refine C2.out.mono ?_); rintro e V2 ⟨rfl, hk, hc⟩; have HC3 : Aside0 (∃ h m, CacP V2 w.heap.size (fun q => w.heap.size ≤ q ∧ q ≠ b1 ∧ q ≠ b1 + 1 ∧ q ≠ b1 + 1 + 1) g 2 h m [(⟨0, 2, 0⟩, 2), (⟨0, 1, 0⟩, 1)] 2) := ⟨_, _, hc⟩; have KN := Aside0.mk (KT.out.trans hk); clear hk hc KT x0 x1 x2)
  have KT := KN
  clear KN C2 HC2
  obtain ⟨h3, m3, hc3⟩ := HC3.out
  obtain ⟨x0, x1, x2⟩ := (X3.out.kept KT.out (fun c => by omega)).cells
  have C3 := Aside0.mk (put_calls (k := ⟨0, 3, 0⟩) (x := 3) hc3 (by unfold Wk W64; decide) (by unfold W64; decide) (by decide) (fun q hq => by have h1 := KT.out.size; have h2 := HS3.out; have h3 := HS1.out; exact ⟨by omega, by omega, by omega, by omega⟩) (by have h1 := KT.out.size; have h2 := HS3.out; have h3 := HS1.out; omega))
  rw [show putP 2 [(⟨0, 2, 0⟩, 2), (⟨0, 1, 0⟩, 1)] ⟨0, 3, 0⟩ 3 = ([(⟨0, 1, 0⟩, 1), (⟨0, 3, 0⟩, 3)] : List Pr) from rfl] at C3
  clear hc3
  go_upto_region 7 with (go_at_call 16; (with_reducible refine C3.out.mono ?_); rintro e V3 ⟨rfl, hk, hc⟩; have HC4 : Aside0 (∃ h m, CacP V3 w.heap.size (fun q => w.heap.size ≤ q ∧ q ≠ b1 ∧ q ≠ b1 + 1 ∧ q ≠ b1 + 1 + 1) g 2 h m [(⟨0, 1, 0⟩, 1), (⟨0, 3, 0⟩, 3)] 3) := ⟨_, _, hc⟩; have KN := Aside0.mk (KT.out.trans hk); clear hk hc KT x0 x1 x2)
  have KT := KN
  clear KN C3 HC3
  obtain ⟨h4, m4, hc4⟩ := HC4.out
  obtain ⟨x0, x1, x2⟩ := (X1.out.kept KT.out (fun c => by omega)).cells
  have C4 := Aside0.mk (get_calls (k := ⟨0, 1, 0⟩) hc4 (by unfold Wk W64; decide) (fun q hq => by have h1 := KT.out.size; have h2 := HS3.out; have h3 := HS1.out; exact ⟨by omega, by omega, by omega, by omega⟩) (by have h1 := KT.out.size; have h2 := HS3.out; have h3 := HS1.out; omega))
  rw [show getP [(⟨0, 1, 0⟩, 1), (⟨0, 3, 0⟩, 3)] ⟨0, 1, 0⟩ = ([(⟨0, 3, 0⟩, 3), (⟨0, 1, 0⟩, 1)] : List Pr) from rfl, show lookP [(⟨0, 1, 0⟩, 1), (⟨0, 3, 0⟩, 3)] ⟨0, 1, 0⟩ = some 1 from rfl] at C4
  clear hc4
  go_upto_region 8 with (go_at_call 19; (with_reducible refine C4.out.mono ?_); rintro e V4 ⟨rfl, hk, hc⟩; have HC5 : Aside0 (∃ h m, CacP V4 w.heap.size (fun q => w.heap.size ≤ q ∧ q ≠ b1 ∧ q ≠ b1 + 1 ∧ q ≠ b1 + 1 + 1) g 2 h m [(⟨0, 3, 0⟩, 3), (⟨0, 1, 0⟩, 1)] 3) := ⟨_, _, hc⟩; have KN := Aside0.mk (KT.out.trans hk); clear hk hc KT x0 x1 x2)
  have KT := KN
  clear KN C4 HC4
  obtain ⟨h5, m5, hc5⟩ := HC5.out
  obtain ⟨x0, x1, x2⟩ := (X2.out.kept KT.out (fun c => by omega)).cells
  have C5 := Aside0.mk (get_calls (k := ⟨0, 2, 0⟩) hc5 (by unfold Wk W64; decide) (fun q hq => by have h1 := KT.out.size; have h2 := HS3.out; have h3 := HS1.out; exact ⟨by omega, by omega, by omega, by omega⟩) (by have h1 := KT.out.size; have h2 := HS3.out; have h3 := HS1.out; omega))
  rw [show getP [(⟨0, 3, 0⟩, 3), (⟨0, 1, 0⟩, 1)] ⟨0, 2, 0⟩ = ([(⟨0, 3, 0⟩, 3), (⟨0, 1, 0⟩, 1)] : List Pr) from rfl, show lookP [(⟨0, 3, 0⟩, 3), (⟨0, 1, 0⟩, 1)] ⟨0, 2, 0⟩ = none from rfl] at C5
  clear hc5
  go_upto_region 9 with (go_at_call 19; (with_reducible refine C5.out.mono ?_); rintro e V5 ⟨rfl, hk, hc⟩; have HC6 : Aside0 (∃ h m, CacP V5 w.heap.size (fun q => w.heap.size ≤ q ∧ q ≠ b1 ∧ q ≠ b1 + 1 ∧ q ≠ b1 + 1 + 1) g 2 h m [(⟨0, 3, 0⟩, 3), (⟨0, 1, 0⟩, 1)] 3) := ⟨_, _, hc⟩; have KN := Aside0.mk (KT.out.trans hk); clear hk hc KT x0 x1 x2)
  have KT := KN
  clear KN C5 HC5
  obtain ⟨h6, m6, hc6⟩ := HC6.out
  have CL := Aside0.mk (len_calls hc6)
  have CR := Aside0.mk (room_calls hc6)
  clear hc6
  go_wp2_with (first | (go_at_call 18; (with_reducible refine CL.out.mono ?_); rintro e w8 ⟨rfl, rfl⟩) | (go_at_call 25; (with_reducible refine CR.out.mono ?_); rintro e w8 ⟨rfl, rfl⟩))
  go_ret
  exact ⟨rfl, KT.out.below (fun q hq => hq.1) HB3.out HB3.out.size⟩
end Go.Proofs.Ytlpbfhbfaphicaa.C19
