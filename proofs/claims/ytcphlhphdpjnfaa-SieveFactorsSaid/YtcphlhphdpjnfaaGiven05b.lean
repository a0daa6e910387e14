/- Layer 5 (sieve): Generator. -/
import Derived.Test.YtcphlhphdpjnfaaGiven05
namespace Go.Proofs.Ytcphlhphdpjnfaa.Given05
open Go Go.RowKit Go.Proofs.YtcphlhphdpjnfaaW.PrintWords Go.Proofs.YtcphlhphdpjnfaaW.PrintLast Go.Proofs.YtcphlhphdpjnfaaW.PrintMore Go.Proofs.Ytcphlhphdpjnfaa.Given Go.Proofs.Ytcphlhphdpjnfaa.M Go.Proofs.Ytcphlhphdpjnfaa.XS

instance (p g : Int) (l : List S33) : Decidable (okS p g l) := by unfold okS U; infer_instance

def search (l : List S33) (p : Int) : Nat → Int → Option Int
  | 0, _ => none
  | k + 1, g => if okS p g l then (if l.any (bad p g) = true then search l p k (g + 1) else some g) else none

def sieve_Generator.f (k : Nat) (p : Int) : Option Int := (sieve_odd.f k p).bind fun t => if t = true then ((sieve_Factor.f k (IntKind.u64.wrap (p - 1))).bind fun l => search l p k 2) else some 0

theorem search_mono (l : List S33) (p : Int) : ∀ (k : Nat) (g : Int), LeO (search l p k g) (search l p (k + 1) g)
  | 0, _ => fun r h => by cases h
  | k + 1, g => fun r h => by
    unfold search at h ⊢
    split at h
    · rename_i c
      rw [if_pos c]
      split at h
      · rename_i c2
        rw [if_pos c2]
        exact search_mono l p k (g + 1) r h
      · rename_i c2
        rw [if_neg c2]
        exact h
    · cases h

theorem sieve_Generator.mono : ∀ (a0 : Int) (k : Nat), LeO (sieve_Generator.f k a0) (sieve_Generator.f (k + 1) a0) := fun a0 k r h => by
  unfold sieve_Generator.f at h ⊢
  obtain ⟨t, h1, h2⟩ := Option.bind_eq_some_iff.1 h
  rw [sieve_odd.mono a0 k t h1, Option.bind_some]
  split at h2
  · rename_i c
    rw [if_pos c]
    obtain ⟨l, h3, h4⟩ := Option.bind_eq_some_iff.1 h2
    rw [sieve_Factor.mono _ k l h3, Option.bind_some]
    exact search_mono l a0 k 2 r h4
  · rename_i c
    rw [if_neg c]
    exact h2

theorem search_ok {l : List S33} {p g r : Int} {k : Nat} (h : search l p k g = some r) : okS p g l := by
  cases k with
  | zero => cases h
  | succ k =>
    unfold search at h
    split at h
    · assumption
    · cases h

set_option maxRecDepth 100000 in
set_option maxHeartbeats 4000000 in
theorem sieve_Generator.calls (k : Nat) (a0 : Int) (r : Int) (w : World) (h : sieve_Generator.f k a0 = some r) :
    Calls Try.prog 14 #[.int .u64 a0] w fun e w' => e = .returned (.int .u64 r) ∧ Below w.heap.size w w' := by
  unfold sieve_Generator.f at h
  obtain ⟨t, h1, h2⟩ := Option.bind_eq_some_iff.1 h
  have H1 := Aside0.mk h1
  clear h h1
  cases t with
  | false =>
    have HR : Aside0 (r = 0) := ⟨by rw [if_neg Bool.false_ne_true] at h2; exact (Option.some.inj h2).symm⟩
    clear h2
    go_enter Try.func14, Try.ntmps14
    go_wp2_with (go_at_call 22; (with_reducible refine (sieve_odd.calls k a0 false _ H1.out).mono ?_); rintro e w2 ⟨rfl, hb2⟩; have HB2 := Aside0.mk hb2; clear hb2)
    go_ret
    exact ⟨by rw [HR.out] <;> first | rfl | (simp; done), below_step (below_alloc (Below.refl _ _) _) HB2.out⟩
  | true =>
    rw [if_pos rfl] at h2
    obtain ⟨l, h3, h4⟩ := Option.bind_eq_some_iff.1 h2
    have H3 := Aside0.mk h3
    have H4 := Aside0.mk h4
    have HBP : Aside0 ((w.alloc (.cells #[.int .u64 a0] 26)).heap[w.heap.size]? = some (.cells #[.int .u64 a0] 26 (0, 0))) := ⟨blk_new _ _⟩
    clear h2 h3 h4
    go_enter Try.func14, Try.ntmps14
    go_wp2_with (first
      | (go_at_call 22; (with_reducible refine (sieve_odd.calls k a0 true _ H1.out).mono ?_); rintro e w2 ⟨rfl, hb2⟩; have HB2 := Aside0.mk hb2; have HP2 := Aside0.mk (blk_below HBP.out HB2.out); (have e2 : w2.cell? ⟨w.heap.size, 0, none⟩ = some (.int .u64 a0) := (blk_cell HP2.out 0).trans rfl); clear hb2)
      | (go_at_call 11; (with_reducible refine (sieve_Factor.calls k (IntKind.u64.wrap (a0 - 1)) l _ H3.out).mono ?_); rintro e w3 ⟨v, rfl, hv, hb3⟩; (obtain ⟨A, c, rfl⟩ := Kd.R_slice hv); have HV := Aside0.mk (Kd.R_reads' hv).2.2; have HB3 := Aside0.mk hb3; have HP3 := Aside0.mk (blk_below HP2.out HB3.out); clear hb3 hv)
      )
    have HG0 : Aside0 ((w3.alloc (.cells #[.int .u64 2] 26)).heap[w3.heap.size]? = some (.cells #[.int .u64 2] 26 (0, 0))) := ⟨blk_new _ _⟩
    clear e2
    go_loopg [13] k (fun kq _v13 wr => ∃ g : Int, Aside0 (search l a0 kq g = some r) ∧ Aside0 (kq ≤ k) ∧ Aside0 (wr.heap[w3.heap.size]? = some (.cells #[.int .u64 g] 26 (0, 0))) ∧ Aside0 (Below w3.heap.size w3 wr))
    case atStart => exact ⟨2, H4, ⟨Nat.le_refl _⟩, HG0, ⟨by repeat (first | exact Below.refl _ _ | apply below_alloc)⟩⟩
    case round =>
      clear H4 HG0
      obtain ⟨g, HA, HK1, HG, HB⟩ := hrel
      cases gk with
      | zero => exact absurd HA.out (by simp [search])
      | succ k1 =>
        have HC := Aside0.mk (Kd.C_below HV.out HB.out)
        have HP := Aside0.mk (blk_below HP3.out HB.out)
        have hA := HA.out
        clear HA
        unfold search at hA
        split at hA
        case isFalse => cases hA
        rename_i hok
        have HO := Aside0.mk hok
        have g0 : (wr.cell? ⟨w3.heap.size, 0, none⟩) = some (.int .u64 g) := (blk_cell HG.out 0).trans rfl
        have gf := blk_frozen HG.out 0
        cases hany : l.any (bad a0 g) with
        | true =>
          rw [hany, if_pos rfl] at hA
          have HA := Aside0.mk hA
          have HN := Aside0.mk hany
          have hw : IntKind.u64.wrap (g + 1) = g + 1 := by have u := (search_ok hA).2.1; exact wu64_id _ u.1 u.2
          clear hA hok hany
          go_wp2_with (go_at_call 23; (with_reducible refine (contains_calls HC.out HO.out HG.out HP.out HN).mono ?_); rintro e w5 ⟨rfl, hb5⟩; have HB5 := Aside0.mk hb5; have HG5 := Aside0.mk (blk_below HG.out hb5); (have g5 : w5.cell? ⟨w3.heap.size, 0, none⟩ = some (.int .u64 g) := (blk_cell HG5.out 0).trans rfl); have gf5 := blk_frozen HG5.out 0; clear hb5 g0 gf)
          go_roundg k1
          case measure => have := HK1.out; omega
          case rel => exact ⟨g + 1, HA, ⟨by have := HK1.out; omega⟩, ⟨by refine blk_put (cs := #[.int .u64 g]) ?_ 0 _ rfl; exact HG5.out⟩, ⟨below_set (below_step HB.out HB5.out) (Nat.le_refl _)⟩⟩
        | false =>
          rw [hany, if_neg Bool.false_ne_true] at hA
          obtain rfl := Option.some.inj hA
          have HN := Aside0.mk hany
          clear hA hok hany
          go_wp2_with (go_at_call 23; (with_reducible refine (contains_calls HC.out HO.out HG.out HP.out HN).mono ?_); rintro e w5 ⟨rfl, hb5⟩; have HB5 := Aside0.mk hb5; have HG5 := Aside0.mk (blk_below HG.out hb5); (have g5 : w5.cell? ⟨w3.heap.size, 0, none⟩ = some (.int .u64 g) := (blk_cell HG5.out 0).trans rfl); have gf5 := blk_frozen HG5.out 0; clear hb5 g0 gf)
          go_ret
          exact ⟨by first | rfl | (simp; done), below_step (below_step (below_step (below_alloc (Below.refl _ _) _) HB2.out) HB3.out) (below_step HB.out HB5.out)⟩

end Go.Proofs.Ytcphlhphdpjnfaa.Given05
