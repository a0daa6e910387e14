/- Parts of this claim's texts, packed by wip/tools/prune.py: what the proof does not reach is left out. -/
import Derived.Test.YtlpbfhbfaphicaaDoorPMv10
import Derived.Lib.AppendIntMem
import Derived.Lib.ItoaMem
import Derived.Lib.Walk
section
namespace Go.Proofs.YtlpbfhbfaphicaaDoor.L01
open Go Go.RowKit Go.Sort Go.Lib Go.Proofs.YtlpbfhbfaphicaaDoorW.PrintWords Go.Proofs.YtlpbfhbfaphicaaDoorW.PrintLast Go.Proofs.YtlpbfhbfaphicaaDoorW.PrintMore Go.Proofs.YtlpbfhbfaphicaaDoor.Given Go.Proofs.YtlpbfhbfaphicaaDoor.M
def Tab (w : World) : Prop := Lib.TabIs Tryd.prog w "internal/strconv.uint64pow10" .u64 Lib.pow10Tab
set_option maxHeartbeats 1000000 in
set_option maxRecDepth 100000 in
theorem fmt_calls {u : Nat} (hu64 : u < 18446744073709551616) (w : World) (htab : Tab w) :
    Calls Tryd.prog 43 #[.int .u64 (u : Int), .int .i64 10] w fun e w' => e = .returned (.string ⟨(Lib.decDigits u).toArray⟩) ∧ Below w.heap.size w w' := by
  by_cases hs : u < 100
  · have d1 : decide ((u : Int) < 100) = true := decide_eq_true (by omega)
    have d2 : decide (u < 100) = true := decide_eq_true hs
    have w1 : IntKind.i64.wrap (u : Int) = (u : Int) := by rw [i64_w]; exact w64_id _ (by omega) (by omega)
    have CS := Aside0.mk (fun w => Tryd.internal_strconv_small u hs w)
    clear hs hu64
    go_enter Tryd.func43, Tryd.ntmps43
    go_wp2_with (go_at_call 51; refine (CS.out _).mono ?_; rintro e w' ⟨rfl, rfl⟩)
    go_ret
    exact ⟨rfl, Below.refl _ _⟩
  · have d1 : decide ((u : Int) < 100) = false := decide_eq_false (by omega)
    have d2 : decide (u < 100) = false := decide_eq_false hs
    have hu1 : 1 ≤ u := by omega
    have hnd20 : Lib.nDigits u ≤ 20 := by have := Lib.numDigits_eq u hu1 hu64; split at this <;> omega
    have hal : Tryd.prog.arrayLen 83 = 24 := by simp [Program.arrayLen, Tryd.underlying83]
    have hsl : ∀ W, (Instr.sliceAt 83 (.pointer (some ⟨w.heap.size, 0, none⟩)) none (some (.int .i64 (Lib.nDigits u : Int))) none).run Tryd.prog W = .ok (.slice (some ⟨w.heap.size, 0, none⟩) (Lib.nDigits u) 24) W := fun W => by
      rw [run_sliceAt_array_h W 83 ⟨w.heap.size, 0, none⟩ (by simp [Program.arrayLen, Program.elem, Tryd.underlying83]) .i64 (Lib.nDigits u : Int) (by omega) (by rw [hal]; omega)]
      go_simp
    have hH0 := Lib.holds_zero0 w 83 (Lib.nDigits u) (by omega)
    have hfmt := Tryd.internal_strconv_formatBase10 w.heap.size 0 24 u (Array.replicate (Lib.nDigits u) 0) (w.alloc (.cells Lib.zeros24 83)) hH0 (by rw [Array.size_replicate]; exact Lib.lt_pow_nDigits u) hu64 (by rw [Array.size_replicate]; omega)
    rw [Array.size_replicate] at hfmt
    have HH0 := Lib.hid hH0
    clear hH0 hal
    have HT := Aside0.mk htab
    clear htab hs
    go_enter Tryd.func43, Tryd.ntmps43
    go_wp2_with (go_at_call 52; refine (Tryd.internal_strconv_numDigits u hu1 hu64 _ (Lib.tabIs_alloc HT.out _)).mono ?_; rintro e w' ⟨rfl, rfl⟩)
    go_at_call 53
    refine hfmt.mono ?_
    rintro e w' ⟨rfl, k, v', dk, rfl, hF⟩
    have hcv : (convert 62 9 (.slice (some ⟨w.heap.size, 0, none⟩) (Lib.nDigits u) 24)).run Tryd.prog ((putRow (fun (b : UInt8) => Value.int .u8 (b.toNat : Int)) (w.alloc (.cells Lib.zeros24 83)) w.heap.size 0 dk).drewN k) = .ok (.string ⟨(Lib.decDigits u).toArray⟩) ((putRow (fun (b : UInt8) => Value.int .u8 (b.toNat : Int)) (w.alloc (.cells Lib.zeros24 83)) w.heap.size 0 dk).drewN k) := by
      have h := run_convert_bytes_back (P := Tryd.prog) ((putRow (fun (b : UInt8) => Value.int .u8 (b.toNat : Int)) (w.alloc (.cells Lib.zeros24 83)) w.heap.size 0 dk).drewN k) 62 9 5 ⟨w.heap.size, 0, none⟩ 24 (Lib.decDigits u) Tryd.underlying62 Tryd.underlying5 Tryd.underlying9 (fun j hj => by
        rw [Lib.row_is_numeral hF j hj, Lib.add_plain, World.cell?_drewN]
        exact cell?_putRow (fun (b : UInt8) => Value.int .u8 (b.toNat : Int)) _ w.heap.size 0 _ dk HH0.out (by rw [hF.size, Array.size_replicate]) j (by rw [hF.size]; rw [Lib.decDigits_length] at hj; exact hj))
      rw [Lib.decDigits_length] at h
      exact h
    go_wp2
    go_ret
    obtain ⟨os, eo⟩ := Lib.fin_at w (.cells Lib.zeros24 83) dk k 0
    refine ⟨rfl, ?_⟩
    rw [eo]
    exact Lib.below_grow _ w (Nat.le_refl _) k os
set_option maxRecDepth 100000 in
theorem fmtU_calls {u : Nat} (hu64 : u < 18446744073709551616) (w : World) (htab : Tab w) :
    Calls Tryd.prog 34 #[.int .u64 (u : Int), .int .i64 10] w fun e w' => e = .returned (.string ⟨(Lib.decDigits u).toArray⟩) ∧ Below w.heap.size w w' := by
  have C := fmt_calls hu64 w htab
  clear htab hu64
  go_enter Tryd.func34, Tryd.ntmps34
  go_wp2_with (go_at_call 43; refine C.mono ?_; rintro e w' ⟨rfl, hb⟩)
  go_ret
  exact ⟨rfl, hb⟩
end Go.Proofs.YtlpbfhbfaphicaaDoor.L01
end
section
namespace Go.Proofs.YtlpbfhbfaphicaaDoor.L01
open Go Go.RowKit Go.Lib
def pad : Nat → Nat → List UInt8
  | 0, _ => []
  | k + 1, r => pad k (r / 10) ++ [UInt8.ofNat (48 + r % 10)]
theorem dec_pad (k : Nat) : ∀ q r : Nat, 0 < q → r < 10 ^ k → Lib.decDigits (q * 10 ^ k + r) = Lib.decDigits q ++ pad k r := by
  induction k with
  | zero =>
    intro q r hq hr
    have : r = 0 := by simpa using hr
    subst this
    simp [pad]
  | succ k ih =>
    intro q r hq hr
    have hp : 10 ^ (k + 1) = 10 ^ k * 10 := Nat.pow_succ 10 k
    have h1 : 1 ≤ 10 ^ k := Nat.pow_pos (by decide)
    have hge : 10 ≤ q * 10 ^ (k + 1) + r := by
      rw [hp]
      have : 1 * (1 * 10) ≤ q * (10 ^ k * 10) := Nat.mul_le_mul hq (Nat.mul_le_mul_right _ h1)
      omega
    rw [Lib.decDigits, dif_neg (by omega)]
    have e1 : (q * 10 ^ (k + 1) + r) / 10 = q * 10 ^ k + r / 10 := by
      rw [hp, ← Nat.mul_assoc, Nat.mul_comm _ 10, Nat.mul_add_div (by decide)]
    have e2 : (q * 10 ^ (k + 1) + r) % 10 = r % 10 := by
      rw [hp, ← Nat.mul_assoc, Nat.mul_comm _ 10, Nat.mul_add_mod]
    rw [e1, e2, ih q (r / 10) hq (Nat.div_lt_of_lt_mul (by rw [hp, Nat.mul_comm] at hr; exact hr)), List.append_assoc]
    rfl
theorem pad_zero (k : Nat) : pad k 0 = List.replicate k 48 := by
  induction k with
  | zero => rfl
  | succ k ih =>
    show pad k (0 / 10) ++ [UInt8.ofNat (48 + 0 % 10)] = _
    rw [Nat.zero_div, ih, List.replicate_succ']
    rfl
theorem pad_dec (k : Nat) : ∀ r : Nat, r < 10 ^ (k + 1) → pad (k + 1) r = List.replicate (k + 1 - (Lib.decDigits r).length) 48 ++ Lib.decDigits r ∧ (Lib.decDigits r).length ≤ k + 1 := by
  induction k with
  | zero =>
    intro r hr
    have hr' : r < 10 := by simpa using hr
    rw [Lib.decDigits_one hr']
    refine ⟨?_, by simp⟩
    show pad 0 (r / 10) ++ [UInt8.ofNat (48 + r % 10)] = _
    rw [Nat.mod_eq_of_lt hr']
    rfl
  | succ k ih =>
    intro r hr
    show pad (k + 1) (r / 10) ++ [UInt8.ofNat (48 + r % 10)] = _ ∧ _
    by_cases c : r < 10
    · rw [Nat.div_eq_of_lt c, pad_zero, Nat.mod_eq_of_lt c, Lib.decDigits_one c]
      refine ⟨?_, by simp⟩
      simp
    · obtain ⟨i1, i2⟩ := ih (r / 10) (Nat.div_lt_of_lt_mul (by rw [Nat.pow_succ, Nat.mul_comm] at hr; exact hr))
      have e : Lib.decDigits r = Lib.decDigits (r / 10) ++ [UInt8.ofNat (48 + r % 10)] := by rw [Lib.decDigits, dif_neg c]
      rw [i1, e, List.length_append, List.append_assoc]
      refine ⟨?_, by simp; omega⟩
      congr 2
      simp
theorem dec_step {q r : Nat} (hq : 0 < q) (hr : r < 1000000000000000000) : Lib.decDigits (1000000000000000000 * q + r) = Lib.decDigits q ++ (List.replicate (18 - (Lib.decDigits r).length) 48 ++ Lib.decDigits r) ∧ (Lib.decDigits r).length ≤ 18 := by
  have h := pad_dec 17 r hr
  rw [← h.1, Nat.mul_comm]
  exact ⟨dec_pad 18 q r hq hr, h.2⟩
theorem tab_below {w w' : World} (h : Tab w) (hb : Below w.heap.size w w') : Tab w' := by
  unfold Tab Lib.TabIs World.var? at h ⊢
  cases hg : Tryd.prog.globalNamed "internal/strconv.uint64pow10" with
  | none => rw [hg] at h; cases h
  | some g =>
    rw [hg] at h
    simp only [Option.bind_some] at h ⊢
    have hlt : g < w.heap.size := by
      rcases Nat.lt_or_ge g w.heap.size with h' | h'
      · exact h'
      · rw [Array.getElem?_eq_none h'] at h; cases h
    rw [hb.block g hlt]
    exact h
end Go.Proofs.YtlpbfhbfaphicaaDoor.L01
end
section
namespace Go.Proofs.YtlpbfhbfaphicaaDoor.L01
open Go Go.RowKit Go.Lib Go.Proofs.YtlpbfhbfaphicaaDoorW.PrintWords Go.Proofs.YtlpbfhbfaphicaaDoorW.PrintLast Go.Proofs.YtlpbfhbfaphicaaDoorW.PrintMore Go.Proofs.YtlpbfhbfaphicaaDoor.Given Go.Proofs.YtlpbfhbfaphicaaDoor.M
def txt (l : List UInt8) : ByteArray := ⟨l.toArray⟩
theorem txt_add (a b : List UInt8) : txt a ++ txt b = txt (a ++ b) := by
  unfold txt
  apply ByteArray.ext
  simp
theorem txt_size (a : List UInt8) : (txt a).size = a.length := by unfold txt; simp [ByteArray.size]
def decS (a : N3) : List UInt8 := Lib.decDigits a.V.toNat
def lim (k : Nat) : Int := 10 ^ (18 * k)
theorem lim_succ (k : Nat) : lim (k + 1) = 1000000000000000000 * lim k := by
  unfold lim
  rw [Nat.mul_add, Int.pow_add, Int.mul_comm]
  rfl
structure Rnd (a s : N3) (l : List UInt8) (kq : Nat) : Prop where
  ok : s.ok
  one : 1 ≤ kq
  lt : s.V < lim kq
  dig : decS a = Lib.decDigits s.V.toNat ++ l
  len : l.length + 18 * kq = 72
theorem Rnd.start {a : N3} (h : a.ok) : Rnd a a [] 4 := ⟨h, by decide, by
  obtain ⟨h0, h1, h2⟩ := h
  have e : lim 4 = 1000000000000000000000000000000000000000000000000000000000000000000000000 := rfl
  rw [e]
  unfold M.U at h0 h1 h2
  unfold N3.V
  omega, by unfold decS; simp, by simp⟩
theorem V_nonneg {s : N3} (h : s.ok) : 0 ≤ s.V := by
  obtain ⟨h0, h1, h2⟩ := h
  unfold M.U at h0 h1 h2
  unfold N3.V
  omega
theorem V_zero {s : N3} (h : s.ok) : s.V = 0 ↔ s.x = 0 ∧ s.y = 0 ∧ s.z = 0 := by
  obtain ⟨h0, h1, h2⟩ := h
  unfold M.U at h0 h1 h2
  unfold N3.V
  omega
theorem Rnd.last {a s q : N3} {l : List UInt8} {kq r : Nat} (h : Rnd a s l kq) (hv : s.V = 1000000000000000000 * q.V + (r : Int)) (hq : q.V = 0) : decS a = Lib.decDigits r ++ l := by
  rw [h.dig, hv, hq, Int.mul_zero, Int.zero_add, Int.toNat_natCast]
theorem Rnd.next {a s q : N3} {l : List UInt8} {kq r : Nat} (h : Rnd a s l (kq + 1)) (hq : q.ok) (hr : (r : Int) < 1000000000000000000) (hv : s.V = 1000000000000000000 * q.V + (r : Int)) (h0 : q.V ≠ 0) :
    Rnd a q (List.replicate (18 - (Lib.decDigits r).length) 48 ++ Lib.decDigits r ++ l) kq ∧ (Lib.decDigits r).length ≤ 18 ∧ l.length ≤ 72 := by
  have hn := V_nonneg hq
  have hlt := h.lt
  rw [lim_succ, hv] at hlt
  have hlt2 : q.V < lim kq := by omega
  have hk : 1 ≤ kq := by
    rcases Nat.eq_zero_or_pos kq with c | c
    · subst c
      have : lim 0 = 1 := rfl
      omega
    · exact c
  obtain ⟨Q, hQ⟩ : ∃ Q : Nat, q.V = Q := ⟨q.V.toNat, by omega⟩
  have hd := dec_step (q := Q) (r := r) (by omega) (by omega)
  have hlen := h.len
  refine ⟨⟨hq, hk, hlt2, ?_, ?_⟩, hd.2, by omega⟩
  · rw [h.dig, hv, hQ, Int.toNat_natCast, show (1000000000000000000 * (Q : Int) + (r : Int)).toNat = 1000000000000000000 * Q + r by omega, hd.1]
    simp only [List.append_assoc]
  · rw [List.length_append, List.length_append, List.length_replicate]
    omega
set_option maxHeartbeats 1000000 in
set_option maxRecDepth 100000 in
theorem decimal_calls {a : N3} (ha : a.ok) (w : World) (htab : Tab w) :
    Calls Tryd.prog 11 #[T3 a] w fun e w' => e = .returned (.string (txt (decS a))) ∧ Below w.heap.size w w' := by
  have HT := Aside0.mk htab
  have HA := Aside0.mk ha
  clear ha htab
  go_enter Tryd.func11, Tryd.ntmps11
  go_wp2
  have HB0 : Aside0 (Below w.heap.size w (w.alloc (Obj.cells (cs3 a) 24))) := ⟨below_alloc (Below.refl _ _) _⟩
  have HX0 : Aside0 (Box3 (w.alloc (Obj.cells (cs3 a) 24)) w.heap.size a) := ⟨Box3.new w a⟩
  generalize (w.alloc (Obj.cells #[Value.int IntKind.u64 a.x, Value.int IntKind.u64 a.y, Value.int IntKind.u64 a.z] 24)) = W0 at HB0 HX0 ⊢
  go_loopg [3] 4 (fun kq v3 w' => ∃ (s : N3) (l : List UInt8), v3 = .string (txt l) ∧ Aside0 (Rnd a s l kq) ∧ Aside0 (Box3 w' w.heap.size s) ∧ Aside0 (Below w.heap.size w w'))
  case atStart => exact ⟨a, [], rfl, ⟨Rnd.start HA.out⟩, HX0, HB0⟩
  case round =>
    clear HX0 HB0 HA
    obtain ⟨s, l, rfl, HR, HX, HB⟩ := hrel
    cases gk with
    | zero => exact absurd HR.out.one (by omega)
    | succ k1 =>
      obtain ⟨⟨k0, k1', k2⟩, ⟨f0, f1, f2⟩, kl⟩ := HX.out.facts
      have HOK := Aside0.mk HR.out.ok
      obtain ⟨t9, ht9⟩ : ∃ z, txt l = z := ⟨_, rfl⟩
      rw [ht9]
      have HT9 := Aside0.mk ht9
      clear ht9
      obtain ⟨sx, sy, sz⟩ := s
      dsimp only at k0 k1' k2
      go_upto_region 3 with (go_at_call 33; (with_reducible refine (piece_calls (a := ⟨sx, sy, sz⟩) HOK.out _).mono ?_); rintro e w1 ⟨q, r, rfl, hb, hq⟩; have HQ := Aside0.mk hq; have HB1 := Aside0.mk (below_step HB.out hb); have HX1 := Aside0.mk (HX.out.kept hb); clear k0 k1' k2 f0 f1 f2 kl hb hq)
      have HB2 : Aside0 (Below w.heap.size w (w1.alloc (Obj.cells (cs3 q) 24))) := ⟨below_alloc HB1.out _⟩
      have HX2 : Aside0 (Box3 (w1.alloc (Obj.cells (cs3 q) 24)) w.heap.size ⟨sx, sy, sz⟩) := ⟨HX1.out.alloc _⟩
      have HQ2 : Aside0 (Box3 (w1.alloc (Obj.cells (cs3 q) 24)) w1.heap.size q) := ⟨Box3.new w1 q⟩
      have hne : w.heap.size ≠ w1.heap.size := Nat.ne_of_lt HX1.out.facts.2.2
      generalize w1.heap.size = g4 at HQ2 hne ⊢
      generalize (w1.alloc (Obj.cells #[Value.int IntKind.u64 q.x, Value.int IntKind.u64 q.y, Value.int IntKind.u64 q.z] 24)) = W2 at HB2 HX2 HQ2 ⊢
      clear HB1 HX1
      obtain ⟨hqo, hr0, hr1, hv⟩ := HQ.out
      obtain ⟨r', rfl⟩ : ∃ z : Nat, r = z := ⟨r.toNat, by omega⟩
      obtain ⟨s9, hs9⟩ : ∃ z, txt (Lib.decDigits r') = z := ⟨_, rfl⟩
      have CF : Aside0 (∀ W, Tab W → Calls Tryd.prog 34 #[.int .u64 (r' : Int), .int .i64 10] W fun e w' => e = .returned (.string s9) ∧ Below W.heap.size W w') := ⟨fun W h => by rw [← hs9]; exact fmtU_calls (by omega) W h⟩
      obtain ⟨b, hb⟩ : ∃ b : Bool, decide (q.x = 0 ∧ q.y = 0 ∧ q.z = 0) = b := ⟨_, rfl⟩
      have E3 := eq3_t 24 Tryd.underlying24 q.x q.y q.z 0 0 0
      rw [hb] at E3
      have HS9 := Aside0.mk hs9
      cases b with
      | true =>
        have hq0 : q.V = 0 := (V_zero hqo).2 (of_decide_eq_true hb)
        have hfin := HR.out.last hv hq0
        have HD := Aside0.mk (dec_step (q := 1) (r := r') (by decide) (by omega)).2
        have HF := Aside0.mk hfin
        clear hb hq0 hfin hv hr0 hr1 hqo hs9 HX2 HX
        go_upto_region 5 with (go_at_call 34; (with_reducible refine (CF.out _ (tab_below HT.out HB2.out)).mono ?_); rintro e w3 ⟨rfl, hb⟩; have HB3 := Aside0.mk (below_step HB2.out hb); have HQ3 := HQ2.out.kept hb; obtain ⟨⟨k0, k1', k2⟩, ⟨f0, f1, f2⟩, kl⟩ := HQ3.facts; clear hb HQ3)
        have hsz : s9.size + t9.size ≤ 9223372036854775807 := by
          rw [← HS9.out, ← HT9.out, txt_size, txt_size]
          have := (HR.out).len
          have := HD.out
          omega
        go_wp2
        go_ret
        exact ⟨by rw [HF.out, ← txt_add, HS9.out, HT9.out]; rfl, HB3.out⟩
      | false =>
        have hq0 : q.V ≠ 0 := fun e => of_decide_eq_false hb ((V_zero hqo).1 e)
        obtain ⟨hn1, hn2, hn3⟩ := HR.out.next hqo hr1 hv hq0
        obtain ⟨c, hc⟩ : ∃ c, 18 - (Lib.decDigits r').length = c := ⟨_, rfl⟩
        rw [hc] at hn1
        have hcw : IntKind.i64.wrap (18 - (s9.size : Int)) = (c : Int) := by
          rw [i64_w, ← hs9, txt_size, w64_id _ (by omega) (by omega)]
          omega
        have hcl : c ≤ 18 := by omega
        obtain ⟨z9, hz9⟩ : ∃ z, txt (List.replicate c 48) = z := ⟨_, rfl⟩
        have CR : Aside0 (∀ W, Calls Tryd.prog 35 #[.string { data := #[48] }, .int .i64 (c : Int)] W fun e w' => e = .returned (.string z9) ∧ Below W.heap.size W w') := ⟨fun W => by
          refine (Tryd.strings_Repeat { data := #[48] } c W (by omega) (by show 1 * c ≤ _; omega)).mono ?_
          rintro e w' ⟨rfl, hb⟩
          refine ⟨?_, hb⟩
          rw [← hz9]
          have : ∀ n, Lib.repeatL [48] n = List.replicate n 48 := fun n => by
            induction n with
            | zero => rfl
            | succ n ih => show [48] ++ Lib.repeatL [48] n = _; rw [ih]; rfl
          show Ending.returned (Value.string ⟨(Lib.repeatL [48] c).toArray⟩) = _
          rw [this]
          rfl⟩
        have hsz1 : z9.size + s9.size ≤ 9223372036854775807 := by
          rw [← hz9, ← hs9, txt_size, txt_size, List.length_replicate]
          omega
        have hsz2 : (z9 ++ s9).size + t9.size ≤ 9223372036854775807 := by
          rw [← hz9, ← hs9, ← HT9.out, txt_add, txt_size, txt_size, List.length_append, List.length_replicate]
          omega
        have HN := Aside0.mk hn1
        have HE : Aside0 (z9 ++ s9 ++ t9 = txt (List.replicate c 48 ++ Lib.decDigits r' ++ l)) := ⟨by rw [← hz9, ← hs9, ← HT9.out, txt_add, txt_add]⟩
        clear hb hq0 hn1 hn2 hn3 hc hz9 hv hr0 hr1 hqo hs9 HX hcl
        go_upto_region 6 with (go_at_call 34; (with_reducible refine (CF.out _ (tab_below HT.out HB2.out)).mono ?_); rintro e w3 ⟨rfl, hb⟩; have HB3 := Aside0.mk (below_step HB2.out hb); have HQ3 := HQ2.out.kept hb; obtain ⟨⟨k0, k1', k2⟩, ⟨f0, f1, f2⟩, kl⟩ := HQ3.facts; have HQ3' := Aside0.mk HQ3; have HX3 := Aside0.mk (HX2.out.kept hb); clear hb HQ3)
        clear k0 k1' k2 f0 f1 f2 kl
        go_wp2_with (go_at_call 35; (with_reducible refine (CR.out _).mono ?_); rintro e w4 ⟨rfl, hb⟩; have HB4 := Aside0.mk (below_step HB3.out hb); have HQ4 := HQ3'.out.kept hb; obtain ⟨⟨k0, k1', k2⟩, ⟨f0, f1, f2⟩, kl⟩ := HQ4.facts; have HX4 := HX3.out.kept hb; obtain ⟨⟨m0, m1, m2⟩, ⟨n0, n1, n2⟩, ml⟩ := HX4.facts; have HX4' := Aside0.mk HX4; clear hb HQ4 HX4)
        have HX5 := Aside0.mk (Box3.put (q := q) HX4'.out)
        have HB5 : Aside0 (Below w.heap.size w (((w4.setCell ⟨w.heap.size, 0, none⟩ (.int .u64 q.x)).setCell ⟨w.heap.size, 1, none⟩ (.int .u64 q.y)).setCell ⟨w.heap.size, 2, none⟩ (.int .u64 q.z))) := ⟨below_set (below_set (below_set HB4.out (Nat.le_refl _)) (Nat.le_refl _)) (Nat.le_refl _)⟩
        go_roundg k1
        case measure => exact Nat.lt_succ_self _
        case rel => exact ⟨q, _, by rw [HE.out], HN, HX5, HB5⟩
end Go.Proofs.YtlpbfhbfaphicaaDoor.L01
end
section
namespace Go.Proofs.YtlpbfhbfaphicaaDoor.L01
open Go Go.RowKit Go.Lib Go.Proofs.YtlpbfhbfaphicaaDoorW.PrintWords Go.Proofs.YtlpbfhbfaphicaaDoorW.PrintLast Go.Proofs.YtlpbfhbfaphicaaDoorW.PrintMore Go.Proofs.YtlpbfhbfaphicaaDoor.Given Go.Proofs.YtlpbfhbfaphicaaDoor.M
set_option linter.unusedVariables false
theorem dec_alive : Lib.decDigits 18446744073709551616 = [49, 56, 52, 52, 54, 55, 52, 52, 48, 55, 51, 55, 48, 57, 53, 53, 49, 54, 49, 54] := by
  simp [Lib.decDigits]
theorem neg_one {s : N3} {c : Int} (hs : s.ok) (h0 : 0 ≤ c) (h1 : c ≤ 1) (h : s.V - 6277101735386680763835789423207666416102355444464034512896 * c = -(⟨1, 0, 0⟩ : N3).V) : s = ⟨18446744073709551615, 18446744073709551615, 18446744073709551615⟩ := by
  obtain ⟨x, y, z⟩ := s
  obtain ⟨u0, u1, u2⟩ := hs
  unfold M.U at u0 u1 u2
  unfold N3.V at h
  dsimp only at *
  have : x = 18446744073709551615 ∧ y = 18446744073709551615 ∧ z = 18446744073709551615 := by omega
  obtain ⟨rfl, rfl, rfl⟩ := this
  rfl
set_option maxHeartbeats 1000000 in
set_option maxRecDepth 100000 in
theorem alive_calls (w : World) (htab : Tab w) : Calls Tryd.prog 10 #[] w fun e w' => e = .returned (.bool true) ∧ Below w.heap.size w w' := by
  have HT := Aside0.mk htab
  clear htab
  have CN : Aside0 (∀ W, Calls Tryd.prog 16 #[.agg #[.int .u64 1, .int .u64 0, .int .u64 0]] W fun e w' => e = .returned (.agg #[.int .u64 18446744073709551615, .int .u64 18446744073709551615, .int .u64 18446744073709551615]) ∧ Below W.heap.size W w') := ⟨fun W => by
    refine (neg_calls (a := ⟨1, 0, 0⟩) (by unfold N3.ok M.U; decide) W).mono ?_
    rintro e w' ⟨s, c, rfl, hb, hs, h0, h1, hv⟩
    rw [neg_one hs h0 h1 hv]
    exact ⟨rfl, hb⟩⟩
  have CI : Aside0 (∀ W, Calls Tryd.prog 17 #[.agg #[.int .u64 18446744073709551615, .int .u64 18446744073709551615, .int .u64 18446744073709551615]] W fun e w' => e = .returned (.tuple #[.int .i64 (-1), .bool true]) ∧ Below W.heap.size W w') := ⟨fun W => by
    refine (int_calls (a := ⟨18446744073709551615, 18446744073709551615, 18446744073709551615⟩) (by unfold N3.ok M.U; decide) W).mono ?_
    rintro e w' ⟨b, rfl, hb, hb2⟩
    have hw : wrap64 (18446744073709551615 : Int) = -1 := by unfold wrap64; omega
    have hbt : b = true := hb2.2 (by show _ = ofN (wrap64 18446744073709551615); rw [hw]; rfl)
    subst hbt
    refine ⟨?_, hb⟩
    show Ending.returned (.tuple #[.int .i64 (if true = true then wrap64 18446744073709551615 else 0), .bool true]) = _
    rw [if_pos rfl, hw]⟩
  have CD : Aside0 (∀ W, Tab W → Calls Tryd.prog 11 #[.agg #[.int .u64 0, .int .u64 1, .int .u64 0]] W fun e w' => e = .returned (.string { data := #[49, 56, 52, 52, 54, 55, 52, 52, 48, 55, 51, 55, 48, 57, 53, 53, 49, 54, 49, 54] }) ∧ Below W.heap.size W w') := ⟨fun W h => by
    refine (decimal_calls (a := ⟨0, 1, 0⟩) (by unfold N3.ok M.U; decide) W h).mono ?_
    rintro e w' ⟨rfl, hb⟩
    refine ⟨?_, hb⟩
    have : decS ⟨0, 1, 0⟩ = [49, 56, 52, 52, 54, 55, 52, 52, 48, 55, 51, 55, 48, 57, 53, 53, 49, 54, 49, 54] := dec_alive
    rw [this]
    rfl⟩
  go_enter Tryd.func10, Tryd.ntmps10
  go_wp2_with (first
    | (go_at_call 16; (with_reducible refine (CN.out _).mono ?_); rintro e w1 ⟨rfl, hb1⟩; have HB1 := Aside0.mk hb1; clear hb1)
    | (go_at_call 17; (with_reducible refine (CI.out _).mono ?_); rintro e w2 ⟨rfl, hb2⟩; have HB2 := Aside0.mk (below_step HB1.out hb2); clear hb2)
    | (go_at_call 11; (with_reducible refine (CD.out _ (tab_below HT.out HB2.out)).mono ?_); rintro e w3 ⟨rfl, hb3⟩; have HB3 := Aside0.mk (below_step HB2.out hb3); clear hb3))
  go_ret
  exact ⟨by first | rfl | (simp; done) | (go_simp; done), HB3.out⟩
end Go.Proofs.YtlpbfhbfaphicaaDoor.L01
end
