/- Layer 19 (cache): CacheLast, walked. -/
import Derived.Test.YtlpbfhbfaphicaaLst19
namespace Go.Proofs.Ytlpbfhbfaphicaa.C19
open Go Go.RowKit Go.Maps Go.Lib Go.Sort Go.Proofs.YtlpbfhbfaphicaaW.PrintWords Go.Proofs.YtlpbfhbfaphicaaW.PrintLast Go.Proofs.YtlpbfhbfaphicaaW.PrintMore Go.Proofs.Ytlpbfhbfaphicaa.XA

set_option linter.unusedVariables false
theorem nodup_getP {P : List Pr} (hn : (P.map Prod.fst).Nodup) (k : K3) : ((getP P k).map Prod.fst).Nodup := by
  unfold getP
  cases h : lookP P k with
  | none => exact hn
  | some v => exact nodup_last hn k v
theorem nodup_pl {l : List Nat} (h : l.Nodup) : ((pl l).map Prod.fst).Nodup := by
  unfold pl
  rw [List.map_map]
  exact List.Pairwise.map _ (fun a b hab e => hab (kn_inj.1 e)) h
theorem lastQ_nodup : ∀ k, k < 65 → ∀ ag : Bool, (lastQ k ag).Nodup := by
  decide +kernel
set_option maxHeartbeats 8000000 in
set_option maxRecDepth 100000 in
theorem last_walk {n : Int} {ag : Bool} (hn : W64 n) (w : World) : Calls Try.prog 6 #[.int .i64 n, .bool ag] w fun e w' => e = .returned (.bool true) ∧ Below w.heap.size w w' := by
  have CA := Aside0.mk alive_calls
  by_cases c1 : n < 1
  · have d1 : decide (n < 1) = true := decide_eq_true c1
    clear hn c1
    go_enter Try.func6, Try.ntmps6
    go_wp2_with (go_at_call 14; (with_reducible refine (CA.out _).mono ?_); rintro e w2 ⟨rfl, hb⟩; have HB := Aside0.mk hb; clear hb)
    go_ret
    exact ⟨rfl, HB.out⟩
  by_cases c2 : 64 < n
  · have d1 : decide (n < 1) = false := decide_eq_false c1
    have d2 : decide (64 < n) = true := decide_eq_true c2
    clear hn c1 c2
    go_enter Try.func6, Try.ntmps6
    go_wp2_with (go_at_call 14; (with_reducible refine (CA.out _).mono ?_); rintro e w2 ⟨rfl, hb⟩; have HB := Aside0.mk hb; clear hb)
    go_ret
    exact ⟨rfl, HB.out⟩
  obtain ⟨k, hk⟩ := Int.eq_ofNat_of_zero_le (show 0 ≤ n by omega)
  have d1 : decide (n < 1) = false := decide_eq_false c1
  have d2 : decide (64 < n) = false := decide_eq_false c2
  have HK1 : Aside0 (1 ≤ k) := ⟨by omega⟩
  have HK0 : Aside0 (k ≠ 0) := ⟨by omega⟩
  have HK2 : Aside0 (k < 65) := ⟨by omega⟩
  subst hk
  clear hn c1 c2
  go_enter Try.func6, Try.ntmps6
  go_upto_region 5 with (go_at_call 14; (with_reducible refine (CA.out _).mono ?_); rintro e w2 ⟨rfl, hb⟩; have HB := Aside0.mk hb; clear hb)
  have CN := Aside0.mk (new_calls (r := (k : Int)) (w := w2))
  go_upto_region 7 with (go_at_call 15; (with_reducible refine CN.out.mono ?_); rintro e w1 ⟨g, rfl, hb, hg, hc⟩; have HBn := Aside0.mk (below_step HB.out hb); have hcp := hc w.heap.size (fun q => w.heap.size ≤ q) HB.out.size (fun q hq => Nat.le_trans HB.out.size hq); have HC := Aside0.mk hcp; clear hb hc hcp hg HB)
  have HB := HBn
  have HC0 : Aside0 (∃ h m, CacP w1 w.heap.size (fun q => w.heap.size ≤ q) g (k : Int) h m (pl (List.range 0)) 0) := ⟨0, 0, by
    have h := HC.out
    rw [show min (max (k : Int) 0) 64 = (k : Int) by have := HK2.out; omega] at h
    exact h⟩
  clear HBn CN HC
  go_loopg [6] (k + 1) (fun kq v6 w' => ∃ i : Nat, v6 = .int .i64 (i : Int) ∧ Aside0 (i ≤ k ∧ i + kq = k + 1) ∧ Aside0 (Below w.heap.size w w') ∧ Aside0 (∃ h m, CacP w' w.heap.size (fun q => w.heap.size ≤ q) g (k : Int) h m (pl (List.range i)) i))
  case atStart => exact ⟨0, rfl, ⟨Nat.zero_le _, Nat.zero_add _⟩, HB, HC0⟩
  case round =>
    clear HB HC0
    obtain ⟨i, rfl, HI, HB, HC⟩ := hrel
    have hik := HI.out
    by_cases hi : i < k
    · have cb : decide (i < k) = true := decide_eq_true hi
      obtain ⟨k1, rfl⟩ : ∃ k1, gk = k1 + 1 := ⟨gk - 1, by omega⟩
      have HI1 : Aside0 (i + 1 ≤ k ∧ i + 1 + k1 = k + 1) := ⟨by omega, by omega⟩
      have wi : IntKind.i64.wrap ((i : Int) + 1) = ((i + 1 : Nat) : Int) := by have := HK2.out; rw [i64_w]; unfold wrap64; omega
      obtain ⟨h, m, hc⟩ := HC.out
      have CP := Aside0.mk (put_calls (k := kn i) (x := (i : Int)) hc (kn_wf (by have := HK2.out; omega)) (by have := HK2.out; unfold W64; omega) (by have := HK2.out; omega) (fun q hq => by have h1 := HB.out.size; omega) HB.out.size)
      rw [put_more HK0.out (by simp) (by rw [List.length_range]; omega), ← List.range_succ] at CP
      clear hc hik hi HI
      go_wp2_with (go_at_call 16; (with_reducible refine CP.out.mono ?_); rintro e V1 ⟨rfl, hk, hc⟩; have HN : Aside0 (∃ h m, CacP V1 w.heap.size (fun q => w.heap.size ≤ q) g (k : Int) h m (pl (List.range (i + 1))) (i + 1)) := ⟨_, _, hc⟩; have HBn := Aside0.mk (hk.below (fun q hq => hq) HB.out HB.out.size); clear hk hc CP HC HB)
      go_roundg k1
      case measure => exact Nat.lt_succ_self _
      case rel => exact ⟨i + 1, rfl, HI1, HBn, HN⟩
    · have cb : decide (i < k) = false := decide_eq_false hi
      obtain rfl : k = i := by omega
      clear hik hi HI
      cases ag with
      | false =>
        by_cases h1 : k = 1
        · have HONE := Aside0.mk h1
          clear h1
          -- again = false, n = 1
          have HN : Aside0 (∃ h m, CacP wr w.heap.size (fun q => w.heap.size ≤ q) g (k : Int) h m (pl (lastL k false)) k) := HC
          have HBn := HB
          clear HC HB
          go_upto_region 12 with (fail)
          have HC := HN
          have HB := HBn
          clear HN HBn
          obtain ⟨q1, q2, q3, q4, q5, q6⟩ := last_all k HK2.out HK0.out false
          rw [decide_eq_false (fun h => h HONE.out : ¬ (k ≠ 1))] at q5
          rw [decide_eq_true HONE.out] at q6
          simp at q5 q6
          obtain ⟨h, m, hc⟩ := HC.out
          have CP := Aside0.mk (put_calls (k := kn k) (x := ((k : Nat) : Int)) hc (kn_wf (by have := HK2.out; omega)) (by have := HK2.out; unfold W64; omega) (by have := HK2.out; omega) (fun q hq => by have h1 := HB.out.size; omega) HB.out.size)
          have hpf : putP ((k : Int) : Int) (pl (lastL k false)) (kn k) ((k : Int) : Int) = pl (lastQ k false) := put_full (by exact HK0.out) q2 q1
          rw [hpf] at CP
          clear hpf hc q1 q2
          obtain ⟨Q, hQ⟩ : ∃ Q, pl (lastQ k false) = Q := ⟨_, rfl⟩
          have e0 : lookP Q (⟨0, 0, 0⟩ : K3) = none := by rw [← hQ]; exact (look_pl _ 0).trans (if_neg q5)
          have e1 : lookP Q (⟨0, 1, 0⟩ : K3) = some 1 := by rw [← hQ]; exact (look_pl _ 1).trans (if_pos q6)
          have e2 : lookP Q (kn k) = some ((k : Int) : Int) := by rw [← hQ, look_pl, if_pos q4]
          have e3 : Q.length = k := by rw [← hQ, pl_len, q3]
          rw [hQ] at CP
          have E0 := Aside0.mk e0
          have E1 := Aside0.mk e1
          have E2 := Aside0.mk e2
          have E3 := Aside0.mk e3
          have HQN : Aside0 ((Q.map Prod.fst).Nodup) := ⟨by rw [← hQ]; exact nodup_pl (lastQ_nodup _ HK2.out _)⟩
          clear hQ q3 q4 q5 q6 e0 e1 e2 e3
          go_upto_region 13 with (go_at_call 16; (with_reducible refine CP.out.mono ?_); rintro e V2 ⟨rfl, hk, hc⟩; have HN : Aside0 (CacP V2 w.heap.size (fun q => w.heap.size ≤ q) g (k : Int) h m Q (k + 1)) := ⟨hc⟩; have HBn := Aside0.mk (hk.below (fun q hq => hq) HB.out HB.out.size); clear hk hc CP HC HB)
          have HC := HN
          have HB := HBn
          clear HN HBn
          have CG := Aside0.mk (get_calls (k := (⟨0, 0, 0⟩ : K3)) HC.out (kn_wf (i := 0) (by first | decide | (have := HK2.out; omega))) (fun q hq => by have h1 := HB.out.size; omega) HB.out.size)
          rw [E0.out] at CG
          go_upto_region 14 with (go_at_call 19; (with_reducible refine CG.out.mono ?_); rintro e V3 ⟨rfl, hk, hc⟩; obtain ⟨hh0, hhe⟩ : ∃ z, z = 0 := ⟨0, rfl⟩; have HN := Aside0.mk hc; have HBn := Aside0.mk (hk.below (fun q hq => hq) HB.out HB.out.size); clear hk hc CG HC HB hhe)
          have HC := HN
          have HB := HBn
          clear HN HBn
          have CG := Aside0.mk (get_calls (k := (⟨0, 1, 0⟩ : K3)) HC.out (kn_wf (i := 1) (by first | decide | (have := HK2.out; omega))) (fun q hq => by have h1 := HB.out.size; omega) HB.out.size)
          rw [look_getP, E1.out] at CG
          go_upto_region 15 with (go_at_call 19; (with_reducible refine CG.out.mono ?_); rintro e V4 ⟨rfl, hk, hc⟩; obtain ⟨hh1, hhe⟩ : ∃ z, z = 0 := ⟨0, rfl⟩; have HN := Aside0.mk hc; have HBn := Aside0.mk (hk.below (fun q hq => hq) HB.out HB.out.size); clear hk hc CG HC HB hhe)
          have HC := HN
          have HB := HBn
          clear HN HBn
          have CG := Aside0.mk (get_calls (k := (kn k)) HC.out (kn_wf (i := k) (by first | decide | (have := HK2.out; omega))) (fun q hq => by have h1 := HB.out.size; omega) HB.out.size)
          rw [look_getP, look_getP, E2.out] at CG
          go_upto_region 16 with (go_at_call 19; (with_reducible refine CG.out.mono ?_); rintro e V5 ⟨rfl, hk, hc⟩; obtain ⟨hh2, hhe⟩ : ∃ z, z = 0 := ⟨0, rfl⟩; have HN := Aside0.mk hc; have HBn := Aside0.mk (hk.below (fun q hq => hq) HB.out HB.out.size); clear hk hc CG HC HB hhe)
          have HC := HN
          have HB := HBn
          clear HN HBn
          have hlen : (getP (getP (getP Q (⟨0, 0, 0⟩ : K3)) (⟨0, 1, 0⟩ : K3)) (kn k)).length = k := by rw [len_getP (nodup_getP (nodup_getP HQN.out _) _), len_getP (nodup_getP HQN.out _), len_getP HQN.out, E3.out]
          have CL := Aside0.mk (len_calls HC.out)
          rw [hlen] at CL
          clear hlen
          have cn : ((k : Int) == 1) = true := by have := HONE.out; simp; omega
          have cn2 : (k == 1) = true := by have := HONE.out; simp; omega
          go_wp2_with (go_at_call 18; (with_reducible refine CL.out.mono ?_); rintro e w8 ⟨rfl, rfl⟩)
          go_ret
          exact ⟨rfl, HB.out⟩
        · have HONE := Aside0.mk h1
          clear h1
          -- again = false, n ≠ 1
          have HN : Aside0 (∃ h m, CacP wr w.heap.size (fun q => w.heap.size ≤ q) g (k : Int) h m (pl (lastL k false)) k) := HC
          have HBn := HB
          clear HC HB
          go_upto_region 12 with (fail)
          have HC := HN
          have HB := HBn
          clear HN HBn
          obtain ⟨q1, q2, q3, q4, q5, q6⟩ := last_all k HK2.out HK0.out false
          rw [decide_eq_true HONE.out] at q5
          rw [decide_eq_false HONE.out] at q6
          simp at q5 q6
          obtain ⟨h, m, hc⟩ := HC.out
          have CP := Aside0.mk (put_calls (k := kn k) (x := ((k : Nat) : Int)) hc (kn_wf (by have := HK2.out; omega)) (by have := HK2.out; unfold W64; omega) (by have := HK2.out; omega) (fun q hq => by have h1 := HB.out.size; omega) HB.out.size)
          have hpf : putP ((k : Int) : Int) (pl (lastL k false)) (kn k) ((k : Int) : Int) = pl (lastQ k false) := put_full (by exact HK0.out) q2 q1
          rw [hpf] at CP
          clear hpf hc q1 q2
          obtain ⟨Q, hQ⟩ : ∃ Q, pl (lastQ k false) = Q := ⟨_, rfl⟩
          have e0 : lookP Q (⟨0, 0, 0⟩ : K3) = none := by rw [← hQ]; exact (look_pl _ 0).trans (if_neg q5)
          have e1 : lookP Q (⟨0, 1, 0⟩ : K3) = some 1 := by rw [← hQ]; exact (look_pl _ 1).trans (if_pos q6)
          have e2 : lookP Q (kn k) = some ((k : Int) : Int) := by rw [← hQ, look_pl, if_pos q4]
          have e3 : Q.length = k := by rw [← hQ, pl_len, q3]
          rw [hQ] at CP
          have E0 := Aside0.mk e0
          have E1 := Aside0.mk e1
          have E2 := Aside0.mk e2
          have E3 := Aside0.mk e3
          have HQN : Aside0 ((Q.map Prod.fst).Nodup) := ⟨by rw [← hQ]; exact nodup_pl (lastQ_nodup _ HK2.out _)⟩
          clear hQ q3 q4 q5 q6 e0 e1 e2 e3
          go_upto_region 13 with (go_at_call 16; (with_reducible refine CP.out.mono ?_); rintro e V2 ⟨rfl, hk, hc⟩; have HN : Aside0 (CacP V2 w.heap.size (fun q => w.heap.size ≤ q) g (k : Int) h m Q (k + 1)) := ⟨hc⟩; have HBn := Aside0.mk (hk.below (fun q hq => hq) HB.out HB.out.size); clear hk hc CP HC HB)
          have HC := HN
          have HB := HBn
          clear HN HBn
          have CG := Aside0.mk (get_calls (k := (⟨0, 0, 0⟩ : K3)) HC.out (kn_wf (i := 0) (by first | decide | (have := HK2.out; omega))) (fun q hq => by have h1 := HB.out.size; omega) HB.out.size)
          rw [E0.out] at CG
          go_upto_region 14 with (go_at_call 19; (with_reducible refine CG.out.mono ?_); rintro e V3 ⟨rfl, hk, hc⟩; obtain ⟨hh0, hhe⟩ : ∃ z, z = 0 := ⟨0, rfl⟩; have HN := Aside0.mk hc; have HBn := Aside0.mk (hk.below (fun q hq => hq) HB.out HB.out.size); clear hk hc CG HC HB hhe)
          have HC := HN
          have HB := HBn
          clear HN HBn
          have CG := Aside0.mk (get_calls (k := (⟨0, 1, 0⟩ : K3)) HC.out (kn_wf (i := 1) (by first | decide | (have := HK2.out; omega))) (fun q hq => by have h1 := HB.out.size; omega) HB.out.size)
          rw [look_getP, E1.out] at CG
          go_upto_region 15 with (go_at_call 19; (with_reducible refine CG.out.mono ?_); rintro e V4 ⟨rfl, hk, hc⟩; obtain ⟨hh1, hhe⟩ : ∃ z, z = 0 := ⟨0, rfl⟩; have HN := Aside0.mk hc; have HBn := Aside0.mk (hk.below (fun q hq => hq) HB.out HB.out.size); clear hk hc CG HC HB hhe)
          have HC := HN
          have HB := HBn
          clear HN HBn
          have CG := Aside0.mk (get_calls (k := (kn k)) HC.out (kn_wf (i := k) (by first | decide | (have := HK2.out; omega))) (fun q hq => by have h1 := HB.out.size; omega) HB.out.size)
          rw [look_getP, look_getP, E2.out] at CG
          go_upto_region 16 with (go_at_call 19; (with_reducible refine CG.out.mono ?_); rintro e V5 ⟨rfl, hk, hc⟩; obtain ⟨hh2, hhe⟩ : ∃ z, z = 0 := ⟨0, rfl⟩; have HN := Aside0.mk hc; have HBn := Aside0.mk (hk.below (fun q hq => hq) HB.out HB.out.size); clear hk hc CG HC HB hhe)
          have HC := HN
          have HB := HBn
          clear HN HBn
          have hlen : (getP (getP (getP Q (⟨0, 0, 0⟩ : K3)) (⟨0, 1, 0⟩ : K3)) (kn k)).length = k := by rw [len_getP (nodup_getP (nodup_getP HQN.out _) _), len_getP (nodup_getP HQN.out _), len_getP HQN.out, E3.out]
          have CL := Aside0.mk (len_calls HC.out)
          rw [hlen] at CL
          clear hlen
          have cn : ((k : Int) == 1) = false := by have := HONE.out; simp; omega
          have cn2 : (k == 1) = false := by have := HONE.out; simp; omega
          go_wp2_with (go_at_call 18; (with_reducible refine CL.out.mono ?_); rintro e w8 ⟨rfl, rfl⟩)
          go_ret
          exact ⟨rfl, HB.out⟩
      | true =>
        by_cases h1 : k = 1
        · have HONE := Aside0.mk h1
          clear h1
          -- again = true, n = 1
          obtain ⟨h, m, hc⟩ := HC.out
          have hm0 : 0 ∈ List.range k := List.mem_range.2 (by have := HK1.out; omega)
          have CG := Aside0.mk (get_calls (k := (⟨0, 0, 0⟩ : K3)) hc (kn_wf (i := 0) (by decide)) (fun q hq => by have h1 := HB.out.size; omega) HB.out.size)
          rw [show getP (pl (List.range k)) (⟨0, 0, 0⟩ : K3) = pl (lastL k true) from get_pl (j := 0) hm0, show lookP (pl (List.range k)) (⟨0, 0, 0⟩ : K3) = some 0 from (look_pl _ 0).trans (if_pos hm0)] at CG
          clear hc hm0
          go_upto_region 12 with (go_at_call 19; (with_reducible refine CG.out.mono ?_); rintro e V1 ⟨rfl, hk, hc⟩; have HN : Aside0 (∃ h m, CacP V1 w.heap.size (fun q => w.heap.size ≤ q) g (k : Int) h m (pl (lastL k true)) k) := ⟨_, _, hc⟩; have HBn := Aside0.mk (hk.below (fun q hq => hq) HB.out HB.out.size); clear hk hc CG HC HB)
          have HC := HN
          have HB := HBn
          clear HN HBn
          obtain ⟨q1, q2, q3, q4, q5, q6⟩ := last_all k HK2.out HK0.out true
          rw [decide_eq_false (fun h => h HONE.out : ¬ (k ≠ 1))] at q5
          rw [decide_eq_true HONE.out] at q6
          simp at q5 q6
          obtain ⟨h, m, hc⟩ := HC.out
          have CP := Aside0.mk (put_calls (k := kn k) (x := ((k : Nat) : Int)) hc (kn_wf (by have := HK2.out; omega)) (by have := HK2.out; unfold W64; omega) (by have := HK2.out; omega) (fun q hq => by have h1 := HB.out.size; omega) HB.out.size)
          have hpf : putP ((k : Int) : Int) (pl (lastL k true)) (kn k) ((k : Int) : Int) = pl (lastQ k true) := put_full (by exact HK0.out) q2 q1
          rw [hpf] at CP
          clear hpf hc q1 q2
          obtain ⟨Q, hQ⟩ : ∃ Q, pl (lastQ k true) = Q := ⟨_, rfl⟩
          have e0 : lookP Q (⟨0, 0, 0⟩ : K3) = none := by rw [← hQ]; exact (look_pl _ 0).trans (if_neg q5)
          have e1 : lookP Q (⟨0, 1, 0⟩ : K3) = some 1 := by rw [← hQ]; exact (look_pl _ 1).trans (if_pos q6)
          have e2 : lookP Q (kn k) = some ((k : Int) : Int) := by rw [← hQ, look_pl, if_pos q4]
          have e3 : Q.length = k := by rw [← hQ, pl_len, q3]
          rw [hQ] at CP
          have E0 := Aside0.mk e0
          have E1 := Aside0.mk e1
          have E2 := Aside0.mk e2
          have E3 := Aside0.mk e3
          have HQN : Aside0 ((Q.map Prod.fst).Nodup) := ⟨by rw [← hQ]; exact nodup_pl (lastQ_nodup _ HK2.out _)⟩
          clear hQ q3 q4 q5 q6 e0 e1 e2 e3
          go_upto_region 13 with (go_at_call 16; (with_reducible refine CP.out.mono ?_); rintro e V2 ⟨rfl, hk, hc⟩; have HN : Aside0 (CacP V2 w.heap.size (fun q => w.heap.size ≤ q) g (k : Int) h m Q (k + 1)) := ⟨hc⟩; have HBn := Aside0.mk (hk.below (fun q hq => hq) HB.out HB.out.size); clear hk hc CP HC HB)
          have HC := HN
          have HB := HBn
          clear HN HBn
          have CG := Aside0.mk (get_calls (k := (⟨0, 0, 0⟩ : K3)) HC.out (kn_wf (i := 0) (by first | decide | (have := HK2.out; omega))) (fun q hq => by have h1 := HB.out.size; omega) HB.out.size)
          rw [E0.out] at CG
          go_upto_region 14 with (go_at_call 19; (with_reducible refine CG.out.mono ?_); rintro e V3 ⟨rfl, hk, hc⟩; obtain ⟨hh0, hhe⟩ : ∃ z, z = 0 := ⟨0, rfl⟩; have HN := Aside0.mk hc; have HBn := Aside0.mk (hk.below (fun q hq => hq) HB.out HB.out.size); clear hk hc CG HC HB hhe)
          have HC := HN
          have HB := HBn
          clear HN HBn
          have CG := Aside0.mk (get_calls (k := (⟨0, 1, 0⟩ : K3)) HC.out (kn_wf (i := 1) (by first | decide | (have := HK2.out; omega))) (fun q hq => by have h1 := HB.out.size; omega) HB.out.size)
          rw [look_getP, E1.out] at CG
          go_upto_region 15 with (go_at_call 19; (with_reducible refine CG.out.mono ?_); rintro e V4 ⟨rfl, hk, hc⟩; obtain ⟨hh1, hhe⟩ : ∃ z, z = 0 := ⟨0, rfl⟩; have HN := Aside0.mk hc; have HBn := Aside0.mk (hk.below (fun q hq => hq) HB.out HB.out.size); clear hk hc CG HC HB hhe)
          have HC := HN
          have HB := HBn
          clear HN HBn
          have CG := Aside0.mk (get_calls (k := (kn k)) HC.out (kn_wf (i := k) (by first | decide | (have := HK2.out; omega))) (fun q hq => by have h1 := HB.out.size; omega) HB.out.size)
          rw [look_getP, look_getP, E2.out] at CG
          go_upto_region 16 with (go_at_call 19; (with_reducible refine CG.out.mono ?_); rintro e V5 ⟨rfl, hk, hc⟩; obtain ⟨hh2, hhe⟩ : ∃ z, z = 0 := ⟨0, rfl⟩; have HN := Aside0.mk hc; have HBn := Aside0.mk (hk.below (fun q hq => hq) HB.out HB.out.size); clear hk hc CG HC HB hhe)
          have HC := HN
          have HB := HBn
          clear HN HBn
          have hlen : (getP (getP (getP Q (⟨0, 0, 0⟩ : K3)) (⟨0, 1, 0⟩ : K3)) (kn k)).length = k := by rw [len_getP (nodup_getP (nodup_getP HQN.out _) _), len_getP (nodup_getP HQN.out _), len_getP HQN.out, E3.out]
          have CL := Aside0.mk (len_calls HC.out)
          rw [hlen] at CL
          clear hlen
          have cn : ((k : Int) == 1) = true := by have := HONE.out; simp; omega
          have cn2 : (k == 1) = true := by have := HONE.out; simp; omega
          go_wp2_with (go_at_call 18; (with_reducible refine CL.out.mono ?_); rintro e w8 ⟨rfl, rfl⟩)
          go_ret
          exact ⟨rfl, HB.out⟩
        · have HONE := Aside0.mk h1
          clear h1
          -- again = true, n ≠ 1
          obtain ⟨h, m, hc⟩ := HC.out
          have hm0 : 0 ∈ List.range k := List.mem_range.2 (by have := HK1.out; omega)
          have CG := Aside0.mk (get_calls (k := (⟨0, 0, 0⟩ : K3)) hc (kn_wf (i := 0) (by decide)) (fun q hq => by have h1 := HB.out.size; omega) HB.out.size)
          rw [show getP (pl (List.range k)) (⟨0, 0, 0⟩ : K3) = pl (lastL k true) from get_pl (j := 0) hm0, show lookP (pl (List.range k)) (⟨0, 0, 0⟩ : K3) = some 0 from (look_pl _ 0).trans (if_pos hm0)] at CG
          clear hc hm0
          go_upto_region 12 with (go_at_call 19; (with_reducible refine CG.out.mono ?_); rintro e V1 ⟨rfl, hk, hc⟩; have HN : Aside0 (∃ h m, CacP V1 w.heap.size (fun q => w.heap.size ≤ q) g (k : Int) h m (pl (lastL k true)) k) := ⟨_, _, hc⟩; have HBn := Aside0.mk (hk.below (fun q hq => hq) HB.out HB.out.size); clear hk hc CG HC HB)
          have HC := HN
          have HB := HBn
          clear HN HBn
          obtain ⟨q1, q2, q3, q4, q5, q6⟩ := last_all k HK2.out HK0.out true
          rw [decide_eq_true HONE.out] at q5
          rw [decide_eq_false HONE.out] at q6
          simp at q5 q6
          obtain ⟨h, m, hc⟩ := HC.out
          have CP := Aside0.mk (put_calls (k := kn k) (x := ((k : Nat) : Int)) hc (kn_wf (by have := HK2.out; omega)) (by have := HK2.out; unfold W64; omega) (by have := HK2.out; omega) (fun q hq => by have h1 := HB.out.size; omega) HB.out.size)
          have hpf : putP ((k : Int) : Int) (pl (lastL k true)) (kn k) ((k : Int) : Int) = pl (lastQ k true) := put_full (by exact HK0.out) q2 q1
          rw [hpf] at CP
          clear hpf hc q1 q2
          obtain ⟨Q, hQ⟩ : ∃ Q, pl (lastQ k true) = Q := ⟨_, rfl⟩
          have e0 : lookP Q (⟨0, 0, 0⟩ : K3) = some 0 := by rw [← hQ]; exact (look_pl _ 0).trans (if_pos q5)
          have e1 : lookP Q (⟨0, 1, 0⟩ : K3) = none := by rw [← hQ]; exact (look_pl _ 1).trans (if_neg q6)
          have e2 : lookP Q (kn k) = some ((k : Int) : Int) := by rw [← hQ, look_pl, if_pos q4]
          have e3 : Q.length = k := by rw [← hQ, pl_len, q3]
          rw [hQ] at CP
          have E0 := Aside0.mk e0
          have E1 := Aside0.mk e1
          have E2 := Aside0.mk e2
          have E3 := Aside0.mk e3
          have HQN : Aside0 ((Q.map Prod.fst).Nodup) := ⟨by rw [← hQ]; exact nodup_pl (lastQ_nodup _ HK2.out _)⟩
          clear hQ q3 q4 q5 q6 e0 e1 e2 e3
          go_upto_region 13 with (go_at_call 16; (with_reducible refine CP.out.mono ?_); rintro e V2 ⟨rfl, hk, hc⟩; have HN : Aside0 (CacP V2 w.heap.size (fun q => w.heap.size ≤ q) g (k : Int) h m Q (k + 1)) := ⟨hc⟩; have HBn := Aside0.mk (hk.below (fun q hq => hq) HB.out HB.out.size); clear hk hc CP HC HB)
          have HC := HN
          have HB := HBn
          clear HN HBn
          have CG := Aside0.mk (get_calls (k := (⟨0, 0, 0⟩ : K3)) HC.out (kn_wf (i := 0) (by first | decide | (have := HK2.out; omega))) (fun q hq => by have h1 := HB.out.size; omega) HB.out.size)
          rw [E0.out] at CG
          go_upto_region 14 with (go_at_call 19; (with_reducible refine CG.out.mono ?_); rintro e V3 ⟨rfl, hk, hc⟩; obtain ⟨hh0, hhe⟩ : ∃ z, z = 0 := ⟨0, rfl⟩; have HN := Aside0.mk hc; have HBn := Aside0.mk (hk.below (fun q hq => hq) HB.out HB.out.size); clear hk hc CG HC HB hhe)
          have HC := HN
          have HB := HBn
          clear HN HBn
          have CG := Aside0.mk (get_calls (k := (⟨0, 1, 0⟩ : K3)) HC.out (kn_wf (i := 1) (by first | decide | (have := HK2.out; omega))) (fun q hq => by have h1 := HB.out.size; omega) HB.out.size)
          rw [look_getP, E1.out] at CG
          go_upto_region 15 with (go_at_call 19; (with_reducible refine CG.out.mono ?_); rintro e V4 ⟨rfl, hk, hc⟩; obtain ⟨hh1, hhe⟩ : ∃ z, z = 0 := ⟨0, rfl⟩; have HN := Aside0.mk hc; have HBn := Aside0.mk (hk.below (fun q hq => hq) HB.out HB.out.size); clear hk hc CG HC HB hhe)
          have HC := HN
          have HB := HBn
          clear HN HBn
          have CG := Aside0.mk (get_calls (k := (kn k)) HC.out (kn_wf (i := k) (by first | decide | (have := HK2.out; omega))) (fun q hq => by have h1 := HB.out.size; omega) HB.out.size)
          rw [look_getP, look_getP, E2.out] at CG
          go_upto_region 16 with (go_at_call 19; (with_reducible refine CG.out.mono ?_); rintro e V5 ⟨rfl, hk, hc⟩; obtain ⟨hh2, hhe⟩ : ∃ z, z = 0 := ⟨0, rfl⟩; have HN := Aside0.mk hc; have HBn := Aside0.mk (hk.below (fun q hq => hq) HB.out HB.out.size); clear hk hc CG HC HB hhe)
          have HC := HN
          have HB := HBn
          clear HN HBn
          have hlen : (getP (getP (getP Q (⟨0, 0, 0⟩ : K3)) (⟨0, 1, 0⟩ : K3)) (kn k)).length = k := by rw [len_getP (nodup_getP (nodup_getP HQN.out _) _), len_getP (nodup_getP HQN.out _), len_getP HQN.out, E3.out]
          have CL := Aside0.mk (len_calls HC.out)
          rw [hlen] at CL
          clear hlen
          have cn : ((k : Int) == 1) = false := by have := HONE.out; simp; omega
          have cn2 : (k == 1) = false := by have := HONE.out; simp; omega
          go_wp2_with (go_at_call 18; (with_reducible refine CL.out.mono ?_); rintro e w8 ⟨rfl, rfl⟩)
          go_ret
          exact ⟨rfl, HB.out⟩
theorem W64.of_wf {x : Int} (h : (Lit.int .i64 x).wf = true) : W64 x := by
  unfold W64
  simp [Lit.wf, IntKind.min, IntKind.max, IntKind.bits, IntKind.signed] at h
  omega
theorem last_law (n : Int) (ag : Bool) (w : World) (hw : (Lit.int .i64 n).wf = true) : Calls Try.prog 6 #[.int .i64 n, .bool ag] w fun e w' => e = .returned (.bool true) ∧ Below w.heap.size w w' := last_walk (W64.of_wf hw) w
end Go.Proofs.Ytlpbfhbfaphicaa.C19
