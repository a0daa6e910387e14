/- Layer 19 (cache): no cache at all; Counts; two caches side by side. -/
import Derived.Test.YtlpbfhbfaphicaaRpt19
namespace Go.Proofs.Ytlpbfhbfaphicaa.C19
open Go Go.RowKit Go.Maps Go.Lib Go.Sort Go.Proofs.YtlpbfhbfaphicaaW.PrintWords Go.Proofs.YtlpbfhbfaphicaaW.PrintLast Go.Proofs.YtlpbfhbfaphicaaW.PrintMore Go.Proofs.Ytlpbfhbfaphicaa.XA

set_option linter.unusedVariables false
theorem nlen_calls {w : World} : Calls Try.prog 18 #[.pointer none] w fun e w' => e = .returned (.int .i64 0) ∧ w' = w := by
  go_enter Try.func18, Try.ntmps18
  go_wp2
  go_ret
  exact ⟨rfl, rfl⟩
theorem nroom_calls {w : World} : Calls Try.prog 25 #[.pointer none] w fun e w' => e = .returned (.int .i64 0) ∧ w' = w := by
  go_enter Try.func25, Try.ntmps25
  go_wp2
  go_ret
  exact ⟨rfl, rfl⟩
theorem nget_calls {w : World} {k : K3} : Calls Try.prog 19 #[.pointer none, kv k] w fun e w' => e = .returned (.tuple #[.int .i64 0, .bool false]) ∧ Below w.heap.size w w' := by
  go_enter Try.func19, Try.ntmps19
  go_wp2
  go_ret2
  exact ⟨rfl, below_alloc (Below.refl _ _) _⟩
theorem nput_calls {w : World} {k : K3} {x : Int} : Calls Try.prog 16 #[.pointer none, kv k, .int .i64 x] w fun e w' => e = .returned (.tuple #[]) ∧ Below w.heap.size w w' := by
  go_enter Try.func16, Try.ntmps16
  go_wp2
  refine bodyPost_ret (results_none rfl _ _ _) rfl ?_
  exact ⟨rfl, below_alloc (Below.refl _ _) _⟩
theorem counts_calls {w : World} {base g N : Nat} {ok : Nat → Prop} {room h m : Int} {P : List Pr} (H : CacP w base ok g room h m P N) : Calls Try.prog 24 #[.pointer (some ⟨g, 0, none⟩)] w fun e w' => e = .returned (.tuple #[.int .i64 h, .int .i64 m]) ∧ Below w.heap.size w w' := by
  obtain ⟨⟨bm, v, D, n, HC, _⟩, _⟩ := H
  obtain ⟨⟨_, _, _, xc3, xc4⟩, _⟩ := HC.cells
  have kc3 := cell_regrown xc3
  have kc4 := cell_regrown xc4
  clear HC xc3 xc4
  go_enter Try.func24, Try.ntmps24
  go_upto_region 3 with (fail)
  refine wp_region_quiet_below (by kernel_rfl) (by kernel_rfl) ?_
  repeat (go_big_quiet_step (fail))
  refine wpQuiet_nil ?_
  intro _ hw'
  obtain ⟨⟨d8, o8⟩, hw''⟩ := hw'
  subst hw''
  dsimp only
  go_wp2
  go_ret2
  exact ⟨rfl, below_regrown w d8 o8⟩
theorem at_K {w : World} {A : Option Addr} {n : Nat} {xs : List K3} (h : Kd.C kk w A n xs) (i : Nat) (h1 : i < n) : ∃ ad, A = some ad ∧ w.cell? (ad.add (i * 3)) = some (.int .u64 (kat xs i).f0) ∧ w.cell? ⟨(ad.add (i * 3)).block, (ad.add (i * 3)).off + 1, none⟩ = some (.int .i64 (kat xs i).f1) ∧ w.cell? ⟨(ad.add (i * 3)).block, (ad.add (i * 3)).off + 2, none⟩ = some (.int .i64 (kat xs i).f2) := by
  obtain ⟨ad, c, e, _, hK, hc0⟩ := Kd.C_get h ⟨0, 0, 0⟩ (i : Int) (by omega) (by omega)
  have hc : ∀ j u, c[j]? = some u → w.cell? (ad.add (i * 3 + j)) = some u := hc0
  have hcs : c = kc (kat xs i) := by
    have hK2 : kk.K w (kat xs i) c := by
      have e : xs.getD (i : Int).toNat ⟨0, 0, 0⟩ = kat xs i := by rw [Int.toNat_natCast, List.getD_eq_getElem?_getD]; rfl
      rw [← e]
      exact hK
    obtain rfl := k35_open hK2
    rfl
  subst hcs
  exact ⟨ad, e, hc 0 _ rfl, by rw [← add_field _ _ 1 (by omega)]; exact hc 1 _ rfl, by rw [← add_field _ _ 2 (by omega)]; exact hc 2 _ rfl⟩
theorem keysAt_of {w : World} {base : Nat} {ok : Nat → Prop} {v : Value} {L : List K3} (h : kk.R 35 w base ok v L) : KeysAt w.heap.size w v L := by
  obtain ⟨hok, inner, hown, hr⟩ := h
  have h : kk.R 35 w base ok v L := ⟨hok, inner, hown, hr⟩
  rcases hown.2 with ⟨hv, hn⟩ | ⟨g, cap, cur, hv, hb, hh, _⟩
  · exact .inl ⟨hv, List.eq_nil_of_length_eq_zero hn⟩
  · subst hv
    refine .inr ⟨g, cap, rfl, blk_lt hh, fun j hj => ?_⟩
    obtain ⟨ad, e, x0, x1, x2⟩ := at_K (Kd.R_reads' h).2.2 j hj
    injection e with e
    subst e
    have ead : (⟨g, 0, none⟩ : Addr).add (j * 3) = ⟨g, j * 3, none⟩ := by
      by_cases h0 : j = 0
      · simp [Addr.add, h0]
      · simp [Addr.add]
        omega
    rw [ead] at x0 x1 x2
    exact ⟨x0, x1, x2⟩
/-- keys, of a cache. -/
theorem keys_some {w : World} {base g N : Nat} {ok : Nat → Prop} {room h m : Int} {P : List Pr} {A : Option Addr} {c0 : Nat} (H : CacP w base ok g room h m P N) (hr : Kd.C kP w A P.length P) :
    Calls Try.prog 23 #[.pointer (some ⟨g, 0, none⟩), .slice A P.length c0] w fun e w' => e = .returned (.bool true) ∧ Below w.heap.size w w' := by
  have hl := H.len
  have hr0 := H.room
  obtain ⟨⟨bm, v, D, n, HC, _⟩, _⟩ := H
  exact keys_walk (sv := v) (fun W hW => keysfn_some (HC.below hW)) (keysAt_of HC.row) hr (by omega)
theorem keys_none {w : World} : Calls Try.prog 23 #[.pointer none, .slice none 0 0] w fun e w' => e = .returned (.bool true) ∧ Below w.heap.size w w' :=
  keys_walk (sv := .slice none 0 0) (P := []) (fun W hW => keysfn_none) (.inl ⟨rfl, rfl⟩) (Kd.R_reads' (RowP.R (w := w) (base := 0) (ok := fun _ => True) (l := []) ⟨World.ownsRow_nil _ _ _ _, fun k hk => by cases hk⟩)).2.2 (by decide)
/-- Two caches side by side: the program's over P, the document's over Q. -/
def Two (w : World) (base : Nat) (ok : Nat → Prop) (g1 g2 : Nat) (room h m : Int) (P Q : List Pr) (N : Nat) : Prop :=
  ∃ (S T : Nat → Prop) (v : Value), CacP w base S g1 room h m P N ∧ CRef w base T g2 room v Q ∧ (∀ q, S q → q < w.heap.size ∧ ok q ∧ ¬ T q) ∧ (∀ q, T q → q < w.heap.size ∧ ok q)
section
variable {w w1 : World} {base g1 g2 N N' : Nat} {ok ok' : Nat → Prop} {room h m h' m' : Int} {P P' Q Q' : List Pr}
theorem Two.below (H : Two w base ok g1 g2 room h m P Q N) (hb : Below w.heap.size w w1) : Two w1 base ok g1 g2 room h m P Q N := by
  obtain ⟨S, T, v, h1, h2, h3, h4⟩ := H
  exact ⟨S, T, v, h1.below hb, h2.below hb, fun q hq => ⟨Nat.lt_of_lt_of_le (h3 q hq).1 hb.size, (h3 q hq).2⟩, fun q hq => ⟨Nat.lt_of_lt_of_le (h4 q hq).1 hb.size, (h4 q hq).2⟩⟩
theorem Two.mono (H : Two w base ok g1 g2 room h m P Q N) (hm : ∀ q, q < w.heap.size → ok q → ok' q) : Two w base ok' g1 g2 room h m P Q N := by
  obtain ⟨S, T, v, h1, h2, h3, h4⟩ := H
  exact ⟨S, T, v, h1, h2, fun q hq => ⟨(h3 q hq).1, hm q (h3 q hq).1 (h3 q hq).2.1, (h3 q hq).2.2⟩, fun q hq => ⟨(h4 q hq).1, hm q (h4 q hq).1 (h4 q hq).2⟩⟩
theorem Two.more (H : Two w base ok g1 g2 room h m P Q N) : Two w base ok g1 g2 room h m P Q (N + 1) := by
  obtain ⟨S, T, v, h1, h2, h3, h4⟩ := H
  exact ⟨S, T, v, h1.more, h2, h3, h4⟩
/-- The first moves on. -/
theorem two_first {S T : Nat → Prop} {v : Value} (h2 : CRef w base T g2 room v Q) (h3 : ∀ q, S q → q < w.heap.size ∧ ok q ∧ ¬ T q) (h4 : ∀ q, T q → q < w.heap.size ∧ ok q) (hf : ∀ q, w.heap.size ≤ q → ok q) (hk : Kept (fun q => S q ∨ w.heap.size ≤ q) w w1) (h1 : CacP w1 base (fun q => S q ∨ w.heap.size ≤ q) g1 room h' m' P' N') :
    Kept ok w w1 ∧ Two w1 base ok g1 g2 room h' m' P' Q N' := by
  refine ⟨hk.mono fun q hq => hq.elim (fun e => (h3 q e).2.1) (hf q), fun q => q < w1.heap.size ∧ (S q ∨ w.heap.size ≤ q), T, v, h1.mono (fun q hq ho => ⟨hq, ho⟩), h2.move (fun q hq ho => hk.block q hq (fun e => e.elim (fun e => (h3 q e).2.2 ho) (fun e => by omega))), fun q hq => ⟨hq.1, ?_, fun ht => ?_⟩, fun q hq => ⟨Nat.lt_of_lt_of_le (h4 q hq).1 hk.size, (h4 q hq).2⟩⟩
  · exact hq.2.elim (fun e => (h3 q e).2.1) (hf q)
  · exact hq.2.elim (fun e => (h3 q e).2.2 ht) (fun e => by have := (h4 q ht).1; omega)
/-- The second moves on. -/
theorem two_second {S T : Nat → Prop} {v : Value} (h1 : CacP w base S g1 room h m P N) (h3 : ∀ q, S q → q < w.heap.size ∧ ok q ∧ ¬ T q) (h4 : ∀ q, T q → q < w.heap.size ∧ ok q) (hf : ∀ q, w.heap.size ≤ q → ok q) (hk : Kept (fun q => T q ∨ w.heap.size ≤ q) w w1) (h2 : CRef w1 base (fun q => T q ∨ w.heap.size ≤ q) g2 room v Q') :
    Kept ok w w1 ∧ Two w1 base ok g1 g2 room h m P Q' N := by
  refine ⟨hk.mono fun q hq => hq.elim (fun e => (h4 q e).2) (hf q), S, fun q => q < w1.heap.size ∧ (T q ∨ w.heap.size ≤ q), v, h1.move (fun q hq ho => hk.block q hq (fun e => e.elim (fun e => (h3 q ho).2.2 e) (fun e => by omega))), h2.mono (fun q hq ho => ⟨hq, ho⟩), fun q hq => ⟨Nat.lt_of_lt_of_le (h3 q hq).1 hk.size, (h3 q hq).2.1, fun ht => ?_⟩, fun q hq => ⟨hq.1, ?_⟩⟩
  · exact ht.2.elim (fun e => (h3 q hq).2.2 e) (fun e => by have := (h3 q hq).1; omega)
  · exact hq.2.elim (fun e => (h4 q e).2) (hf q)
theorem Two.get1 {k : K3} (H : Two w base ok g1 g2 room h m P Q N) (hk : Wk k) (hf : ∀ q, w.heap.size ≤ q → ok q) (hb : base ≤ w.heap.size) :
    Calls Try.prog 19 #[.pointer (some ⟨g1, 0, none⟩), kv k] w fun e w' => e = .returned (.tuple #[.int .i64 ((lookP P k).getD 0), .bool (lookP P k).isSome]) ∧ Kept ok w w' ∧ Two w' base ok g1 g2 room (if (lookP P k).isSome then wrap64 (h + 1) else h) (if (lookP P k).isSome then m else wrap64 (m + 1)) (getP P k) Q N := by
  obtain ⟨S, T, v, h1, h2, h3, h4⟩ := H
  refine (get_calls (k := k) (h1.mono (ok' := fun q => S q ∨ w.heap.size ≤ q) (fun q _ e => .inl e)) hk (fun q hq => .inr hq) hb).mono ?_
  rintro e w' ⟨he, hk', hc⟩
  exact ⟨he, two_first h2 h3 h4 hf hk' hc⟩
theorem Two.put1 {k : K3} {x : Int} (H : Two w base ok g1 g2 room h m P Q N) (hk : Wk k) (hx : W64 x) (hN : N < 1000000) (hf : ∀ q, w.heap.size ≤ q → ok q) (hb : base ≤ w.heap.size) :
    Calls Try.prog 16 #[.pointer (some ⟨g1, 0, none⟩), kv k, .int .i64 x] w fun e w' => e = .returned (.tuple #[]) ∧ Kept ok w w' ∧ Two w' base ok g1 g2 room h m (putP room P k x) Q (N + 1) := by
  obtain ⟨S, T, v, h1, h2, h3, h4⟩ := H
  refine (put_calls (k := k) (x := x) (h1.mono (ok' := fun q => S q ∨ w.heap.size ≤ q) (fun q _ e => .inl e)) hk hx hN (fun q hq => .inr hq) hb).mono ?_
  rintro e w' ⟨he, hk', hc⟩
  exact ⟨he, two_first h2 h3 h4 hf hk' hc⟩
theorem Two.get2 {k : K3} (H : Two w base ok g1 g2 room h m P Q N) (hn : (Q.map Prod.fst).Nodup) (hl : Q.length ≤ 1000) (hf : ∀ q, w.heap.size ≤ q → ok q) (hb : base ≤ w.heap.size) :
    Calls Try.prog 22 #[.pointer (some ⟨g2, 0, none⟩), kv k] w fun e w' => e = .returned (.tuple #[.int .i64 ((lookP Q k).getD 0), .bool (lookP Q k).isSome]) ∧ Kept ok w w' ∧ Two w' base ok g1 g2 room h m P (getP Q k) N := by
  obtain ⟨S, T, v, h1, h2, h3, h4⟩ := H
  refine (rget_calls (k := k) (h2.mono (ok' := fun q => T q ∨ w.heap.size ≤ q) (fun q _ e => .inl e)) hn hl (fun q hq => .inr hq) hb).mono ?_
  rintro e w' ⟨he, hk', v', hc⟩
  exact ⟨he, two_second h1 h3 h4 hf hk' hc⟩
theorem Two.put2 {k : K3} {x : Int} (H : Two w base ok g1 g2 room h m P Q N) (hn : (Q.map Prod.fst).Nodup) (hl : Q.length ≤ 1000) (hlen : (Q.length : Int) ≤ room) (hf : ∀ q, w.heap.size ≤ q → ok q) (hb : base ≤ w.heap.size) :
    Calls Try.prog 21 #[.pointer (some ⟨g2, 0, none⟩), kv k, .int .i64 x] w fun e w' => e = .returned (.tuple #[]) ∧ Kept ok w w' ∧ Two w' base ok g1 g2 room h m P (putP room Q k x) N := by
  obtain ⟨S, T, v, h1, h2, h3, h4⟩ := H
  refine (rput_calls (k := k) (x := x) (h2.mono (ok' := fun q => T q ∨ w.heap.size ≤ q) (fun q _ e => .inl e)) hn hl hlen (fun q hq => .inr hq) hb).mono ?_
  rintro e w' ⟨he, hk', v', hc⟩
  exact ⟨he, two_second h1 h3 h4 hf hk' hc⟩
theorem Two.facts (H : Two w base ok g1 g2 room h m P Q N) : (P.map Prod.fst).Nodup ∧ (P.length : Int) ≤ room ∧ room ≤ 64 := by
  obtain ⟨S, T, v, h1, _⟩ := H
  exact ⟨h1.nodup, h1.len, h1.room⟩
end
end Go.Proofs.Ytlpbfhbfaphicaa.C19
