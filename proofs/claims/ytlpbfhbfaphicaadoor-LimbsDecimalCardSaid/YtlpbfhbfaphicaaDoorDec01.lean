/- Layer 1: Decimal, walked. -/
import Derived.Test.YtlpbfhbfaphicaaDoorDig01
import Derived.Test.YtlpbfhbfaphicaaDoorThr01d
import Derived.Test.YtlpbfhbfaphicaaDoorEq01
namespace Go.Proofs.YtlpbfhbfaphicaaDoor.L01
open Go Go.RowKit Go.Lib Go.Proofs.YtlpbfhbfaphicaaDoorW.PrintWords Go.Proofs.YtlpbfhbfaphicaaDoorW.PrintLast Go.Proofs.YtlpbfhbfaphicaaDoorW.PrintMore Go.Proofs.YtlpbfhbfaphicaaDoor.Given Go.Proofs.YtlpbfhbfaphicaaDoor.M

/-- A text, of its bytes. -/
def txt (l : List UInt8) : ByteArray := ⟨l.toArray⟩
theorem txt_add (a b : List UInt8) : txt a ++ txt b = txt (a ++ b) := by
  unfold txt
  apply ByteArray.ext
  simp
theorem txt_size (a : List UInt8) : (txt a).size = a.length := by unfold txt; simp [ByteArray.size]
def decS (a : N3) : List UInt8 := Lib.decDigits a.V.toNat
def lim (k : Nat) : Int := 10 ^ (18 * k)
theorem lim_succ (k : Nat) : lim (k + 1) = 1000000000000000000 * lim k := by
  unfold lim
  rw [Nat.mul_add, Int.pow_add, Int.mul_comm]
  rfl
/-- What is known ahead of a round. -/
structure Rnd (a s : N3) (l : List UInt8) (kq : Nat) : Prop where
  ok : s.ok
  one : 1 ≤ kq
  lt : s.V < lim kq
  dig : decS a = Lib.decDigits s.V.toNat ++ l
  len : l.length + 18 * kq = 72
theorem Rnd.start {a : N3} (h : a.ok) : Rnd a a [] 4 := ⟨h, by decide, by
  obtain ⟨h0, h1, h2⟩ := h
  have e : lim 4 = 1000000000000000000000000000000000000000000000000000000000000000000000000 := rfl
  rw [e]
  unfold M.U at h0 h1 h2
  unfold N3.V
  omega, by unfold decS; simp, by simp⟩
theorem V_nonneg {s : N3} (h : s.ok) : 0 ≤ s.V := by
  obtain ⟨h0, h1, h2⟩ := h
  unfold M.U at h0 h1 h2
  unfold N3.V
  omega
theorem V_zero {s : N3} (h : s.ok) : s.V = 0 ↔ s.x = 0 ∧ s.y = 0 ∧ s.z = 0 := by
  obtain ⟨h0, h1, h2⟩ := h
  unfold M.U at h0 h1 h2
  unfold N3.V
  omega
theorem Rnd.last {a s q : N3} {l : List UInt8} {kq r : Nat} (h : Rnd a s l kq) (hv : s.V = 1000000000000000000 * q.V + (r : Int)) (hq : q.V = 0) : decS a = Lib.decDigits r ++ l := by
  rw [h.dig, hv, hq, Int.mul_zero, Int.zero_add, Int.toNat_natCast]
theorem Rnd.next {a s q : N3} {l : List UInt8} {kq r : Nat} (h : Rnd a s l (kq + 1)) (hq : q.ok) (hr : (r : Int) < 1000000000000000000) (hv : s.V = 1000000000000000000 * q.V + (r : Int)) (h0 : q.V ≠ 0) :
    Rnd a q (List.replicate (18 - (Lib.decDigits r).length) 48 ++ Lib.decDigits r ++ l) kq ∧ (Lib.decDigits r).length ≤ 18 ∧ l.length ≤ 72 := by
  have hn := V_nonneg hq
  have hlt := h.lt
  rw [lim_succ, hv] at hlt
  have hlt2 : q.V < lim kq := by omega
  have hk : 1 ≤ kq := by
    rcases Nat.eq_zero_or_pos kq with c | c
    · subst c
      have : lim 0 = 1 := rfl
      omega
    · exact c
  obtain ⟨Q, hQ⟩ : ∃ Q : Nat, q.V = Q := ⟨q.V.toNat, by omega⟩
  have hd := dec_step (q := Q) (r := r) (by omega) (by omega)
  have hlen := h.len
  refine ⟨⟨hq, hk, hlt2, ?_, ?_⟩, hd.2, by omega⟩
  · rw [h.dig, hv, hQ, Int.toNat_natCast, show (1000000000000000000 * (Q : Int) + (r : Int)).toNat = 1000000000000000000 * Q + r by omega, hd.1]
    simp only [List.append_assoc]
  · rw [List.length_append, List.length_append, List.length_replicate]
    omega
set_option maxHeartbeats 1000000 in
set_option maxRecDepth 100000 in
theorem decimal_calls {a : N3} (ha : a.ok) (w : World) (htab : Tab w) :
    Calls Tryd.prog 11 #[T3 a] w fun e w' => e = .returned (.string (txt (decS a))) ∧ Below w.heap.size w w' := by
  have HT := Aside0.mk htab
  have HA := Aside0.mk ha
  clear ha htab
  go_enter Tryd.func11, Tryd.ntmps11
  go_wp2
  have HB0 : Aside0 (Below w.heap.size w (w.alloc (Obj.cells (cs3 a) 24))) := ⟨below_alloc (Below.refl _ _) _⟩
  have HX0 : Aside0 (Box3 (w.alloc (Obj.cells (cs3 a) 24)) w.heap.size a) := ⟨Box3.new w a⟩
  generalize (w.alloc (Obj.cells #[Value.int IntKind.u64 a.x, Value.int IntKind.u64 a.y, Value.int IntKind.u64 a.z] 24)) = W0 at HB0 HX0 ⊢
  go_loopg [3] 4 (fun kq v3 w' => ∃ (s : N3) (l : List UInt8), v3 = .string (txt l) ∧ Aside0 (Rnd a s l kq) ∧ Aside0 (Box3 w' w.heap.size s) ∧ Aside0 (Below w.heap.size w w'))
  case atStart => exact ⟨a, [], rfl, ⟨Rnd.start HA.out⟩, HX0, HB0⟩
  case round =>
    clear HX0 HB0 HA
    obtain ⟨s, l, rfl, HR, HX, HB⟩ := hrel
    cases gk with
    | zero => exact absurd HR.out.one (by omega)
    | succ k1 =>
      obtain ⟨⟨k0, k1', k2⟩, ⟨f0, f1, f2⟩, kl⟩ := HX.out.facts
      have HOK := Aside0.mk HR.out.ok
      obtain ⟨t9, ht9⟩ : ∃ z, txt l = z := ⟨_, rfl⟩
      rw [ht9]
      have HT9 := Aside0.mk ht9
      clear ht9
      obtain ⟨sx, sy, sz⟩ := s
      dsimp only at k0 k1' k2
      go_upto_region 3 with (go_at_call 33; (with_reducible refine (piece_calls (a := ⟨sx, sy, sz⟩) HOK.out _).mono ?_); rintro e w1 ⟨q, r, rfl, hb, hq⟩; have HQ := Aside0.mk hq; have HB1 := Aside0.mk (below_step HB.out hb); have HX1 := Aside0.mk (HX.out.kept hb); clear k0 k1' k2 f0 f1 f2 kl hb hq)
      have HB2 : Aside0 (Below w.heap.size w (w1.alloc (Obj.cells (cs3 q) 24))) := ⟨below_alloc HB1.out _⟩
      have HX2 : Aside0 (Box3 (w1.alloc (Obj.cells (cs3 q) 24)) w.heap.size ⟨sx, sy, sz⟩) := ⟨HX1.out.alloc _⟩
      have HQ2 : Aside0 (Box3 (w1.alloc (Obj.cells (cs3 q) 24)) w1.heap.size q) := ⟨Box3.new w1 q⟩
      have hne : w.heap.size ≠ w1.heap.size := Nat.ne_of_lt HX1.out.facts.2.2
      generalize w1.heap.size = g4 at HQ2 hne ⊢
      generalize (w1.alloc (Obj.cells #[Value.int IntKind.u64 q.x, Value.int IntKind.u64 q.y, Value.int IntKind.u64 q.z] 24)) = W2 at HB2 HX2 HQ2 ⊢
      clear HB1 HX1
      obtain ⟨hqo, hr0, hr1, hv⟩ := HQ.out
      obtain ⟨r', rfl⟩ : ∃ z : Nat, r = z := ⟨r.toNat, by omega⟩
      obtain ⟨s9, hs9⟩ : ∃ z, txt (Lib.decDigits r') = z := ⟨_, rfl⟩
      have CF : Aside0 (∀ W, Tab W → Calls Tryd.prog 34 #[.int .u64 (r' : Int), .int .i64 10] W fun e w' => e = .returned (.string s9) ∧ Below W.heap.size W w') := ⟨fun W h => by rw [← hs9]; exact fmtU_calls (by omega) W h⟩
      obtain ⟨b, hb⟩ : ∃ b : Bool, decide (q.x = 0 ∧ q.y = 0 ∧ q.z = 0) = b := ⟨_, rfl⟩
      have E3 := eq3_t 24 Tryd.underlying24 q.x q.y q.z 0 0 0
      rw [hb] at E3
      have HS9 := Aside0.mk hs9
      cases b with
      | true =>
        have hq0 : q.V = 0 := (V_zero hqo).2 (of_decide_eq_true hb)
        have hfin := HR.out.last hv hq0
        have HD := Aside0.mk (dec_step (q := 1) (r := r') (by decide) (by omega)).2
        have HF := Aside0.mk hfin
        clear hb hq0 hfin hv hr0 hr1 hqo hs9 HX2 HX
        go_upto_region 5 with (go_at_call 34; (with_reducible refine (CF.out _ (tab_below HT.out HB2.out)).mono ?_); rintro e w3 ⟨rfl, hb⟩; have HB3 := Aside0.mk (below_step HB2.out hb); have HQ3 := HQ2.out.kept hb; obtain ⟨⟨k0, k1', k2⟩, ⟨f0, f1, f2⟩, kl⟩ := HQ3.facts; clear hb HQ3)
        have hsz : s9.size + t9.size ≤ 9223372036854775807 := by
          rw [← HS9.out, ← HT9.out, txt_size, txt_size]
          have := (HR.out).len
          have := HD.out
          omega
        go_wp2
        go_ret
        exact ⟨by rw [HF.out, ← txt_add, HS9.out, HT9.out]; rfl, HB3.out⟩
      | false =>
        have hq0 : q.V ≠ 0 := fun e => of_decide_eq_false hb ((V_zero hqo).1 e)
        obtain ⟨hn1, hn2, hn3⟩ := HR.out.next hqo hr1 hv hq0
        obtain ⟨c, hc⟩ : ∃ c, 18 - (Lib.decDigits r').length = c := ⟨_, rfl⟩
        rw [hc] at hn1
        have hcw : IntKind.i64.wrap (18 - (s9.size : Int)) = (c : Int) := by
          rw [i64_w, ← hs9, txt_size, w64_id _ (by omega) (by omega)]
          omega
        have hcl : c ≤ 18 := by omega
        obtain ⟨z9, hz9⟩ : ∃ z, txt (List.replicate c 48) = z := ⟨_, rfl⟩
        have CR : Aside0 (∀ W, Calls Tryd.prog 35 #[.string { data := #[48] }, .int .i64 (c : Int)] W fun e w' => e = .returned (.string z9) ∧ Below W.heap.size W w') := ⟨fun W => by
          refine (Tryd.strings_Repeat { data := #[48] } c W (by omega) (by show 1 * c ≤ _; omega)).mono ?_
          rintro e w' ⟨rfl, hb⟩
          refine ⟨?_, hb⟩
          rw [← hz9]
          have : ∀ n, Lib.repeatL [48] n = List.replicate n 48 := fun n => by
            induction n with
            | zero => rfl
            | succ n ih => show [48] ++ Lib.repeatL [48] n = _; rw [ih]; rfl
          show Ending.returned (Value.string ⟨(Lib.repeatL [48] c).toArray⟩) = _
          rw [this]
          rfl⟩
        have hsz1 : z9.size + s9.size ≤ 9223372036854775807 := by
          rw [← hz9, ← hs9, txt_size, txt_size, List.length_replicate]
          omega
        have hsz2 : (z9 ++ s9).size + t9.size ≤ 9223372036854775807 := by
          rw [← hz9, ← hs9, ← HT9.out, txt_add, txt_size, txt_size, List.length_append, List.length_replicate]
          omega
        have HN := Aside0.mk hn1
        have HE : Aside0 (z9 ++ s9 ++ t9 = txt (List.replicate c 48 ++ Lib.decDigits r' ++ l)) := ⟨by rw [← hz9, ← hs9, ← HT9.out, txt_add, txt_add]⟩
        clear hb hq0 hn1 hn2 hn3 hc hz9 hv hr0 hr1 hqo hs9 HX hcl
        go_upto_region 6 with (go_at_call 34; (with_reducible refine (CF.out _ (tab_below HT.out HB2.out)).mono ?_); rintro e w3 ⟨rfl, hb⟩; have HB3 := Aside0.mk (below_step HB2.out hb); have HQ3 := HQ2.out.kept hb; obtain ⟨⟨k0, k1', k2⟩, ⟨f0, f1, f2⟩, kl⟩ := HQ3.facts; have HQ3' := Aside0.mk HQ3; have HX3 := Aside0.mk (HX2.out.kept hb); clear hb HQ3)
        clear k0 k1' k2 f0 f1 f2 kl
        go_wp2_with (go_at_call 35; (with_reducible refine (CR.out _).mono ?_); rintro e w4 ⟨rfl, hb⟩; have HB4 := Aside0.mk (below_step HB3.out hb); have HQ4 := HQ3'.out.kept hb; obtain ⟨⟨k0, k1', k2⟩, ⟨f0, f1, f2⟩, kl⟩ := HQ4.facts; have HX4 := HX3.out.kept hb; obtain ⟨⟨m0, m1, m2⟩, ⟨n0, n1, n2⟩, ml⟩ := HX4.facts; have HX4' := Aside0.mk HX4; clear hb HQ4 HX4)
        have HX5 := Aside0.mk (Box3.put (q := q) HX4'.out)
        have HB5 : Aside0 (Below w.heap.size w (((w4.setCell ⟨w.heap.size, 0, none⟩ (.int .u64 q.x)).setCell ⟨w.heap.size, 1, none⟩ (.int .u64 q.y)).setCell ⟨w.heap.size, 2, none⟩ (.int .u64 q.z))) := ⟨below_set (below_set (below_set HB4.out (Nat.le_refl _)) (Nat.le_refl _)) (Nat.le_refl _)⟩
        go_roundg k1
        case measure => exact Nat.lt_succ_self _
        case rel => exact ⟨q, _, by rw [HE.out], HN, HX5, HB5⟩

end Go.Proofs.YtlpbfhbfaphicaaDoor.L01
