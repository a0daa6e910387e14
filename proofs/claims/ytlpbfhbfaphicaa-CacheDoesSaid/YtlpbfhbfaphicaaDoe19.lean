/- Layer 19 (cache): CacheDoes, walked. -/
import Derived.Test.YtlpbfhbfaphicaaNil19
namespace Go.Proofs.Ytlpbfhbfaphicaa.C19
open Go Go.RowKit Go.Maps Go.Lib Go.Sort Go.Proofs.YtlpbfhbfaphicaaW.PrintWords Go.Proofs.YtlpbfhbfaphicaaW.PrintLast Go.Proofs.YtlpbfhbfaphicaaW.PrintMore Go.Proofs.Ytlpbfhbfaphicaa.XA

set_option linter.unusedVariables false
attribute [local go_sem high] eqA37
attribute [local go_sem] max2_int min2_int max_two min_two max_three min_three max_four min_four
structure RD (ok : Nat → Prop) (base g1 g2 bx : Nat) (rm h m : Int) (c : C5) (P : List Pr) (N : Nat) (w1 w' : World) (b0 b1 b2 b3 b4 b5 b6 : Bool) (a57 a58 a59 a60 a61 a62 a63 : Value) : Prop where
  kept : Kept ok w1 w'
  two0 : b6 = false → Two w' base ok g1 g2 rm h m P P N
  two1 : b6 = true → Two w' base ok g1 g2 rm h m (putP rm P c.key c.val) P (N + 1)
  box : BoxC w' bx c
  h0 : b0 = true → a57 = .pointer (some ⟨g1, 0, none⟩)
  h1 : b1 = true → a58 = .pointer (some ⟨bx, 1, none⟩)
  h2 : b2 = true → a59 = kv c.key
  h3 : b3 = true → a60 = kv c.key
  h4 : b4 = true → a61 = .pointer (some ⟨bx, 4, none⟩)
  h5 : b5 = true → a62 = .int .i64 c.val
def ID (mk : Value → Value → Value → Value → Value → Value → Value → Act) (ok : Nat → Prop) (base g1 g2 bx : Nat) (rm h m : Int) (c : C5) (P : List Pr) (N : Nat) (w1 : World) (l : Array Bool) (a : Act) (w' : World) : Prop :=
  ∃ b0 b1 b2 b3 b4 b5 b6 : Bool, ∃ a57 a58 a59 a60 a61 a62 a63 : Value, l = [b0, b1, b2, b3, b4, b5, b6].toArray ∧ a = mk a57 a58 a59 a60 a61 a62 a63 ∧ RD ok base g1 g2 bx rm h m c P N w1 w' b0 b1 b2 b3 b4 b5 b6 a57 a58 a59 a60 a61 a62 a63
set_option maxHeartbeats 8000000 in
set_option maxRecDepth 100000 in
theorem does_walk {room : Int} {A : Option Addr} {c0 : Nat} {l : List C5} {w : World} (hc0 : l.length ≤ c0) (hr0 : Kd.C kC w A l.length l) (hok : okCalls l) : Calls Try.prog 7 #[.int .i64 room, .slice A l.length c0] w fun e w' => e = .returned (.bool true) ∧ Below w.heap.size w w' := by
  have CA := Aside0.mk alive_calls
  have hwf := okCalls_wf hok
  by_cases c1 : 200 < l.length
  · have d1 : decide ((200 : Int) < (l.length : Int)) = true := decide_eq_true (by omega)
    have d1' : decide (200 < l.length) = true := decide_eq_true c1
    clear hc0 hr0 hok hwf c1
    go_enter Try.func7, Try.ntmps7
    go_wp2_with (go_at_call 14; (with_reducible refine (CA.out _).mono ?_); rintro e w2 ⟨rfl, hb⟩; have HB := Aside0.mk hb; clear hb)
    go_ret
    exact ⟨rfl, HB.out⟩
  have d1 : decide ((200 : Int) < (l.length : Int)) = false := decide_eq_false (by omega)
  have d1' : decide (200 < l.length) = false := decide_eq_false c1
  have HLL : Aside0 (l.length ≤ 200) := ⟨by omega⟩
  have HWF := Aside0.mk hwf
  have HRR0 := Aside0.mk hr0
  have HC0 := Aside0.mk hc0
  clear hc0 hr0 hok hwf c1
  go_enter Try.func7, Try.ntmps7
  go_upto_region 5 with (go_at_call 14; (with_reducible refine (CA.out _).mono ?_); rintro e w2 ⟨rfl, hb⟩; have HB := Aside0.mk hb; clear hb)
  obtain ⟨rm, hrm⟩ : ∃ z, min (max room 0) 64 = z := ⟨_, rfl⟩
  have CN := Aside0.mk (new_calls (r := room) (w := w2))
  have CN2 := Aside0.mk (fun (W : World) => rnew_calls (r := room) (w := W))
  rw [hrm] at CN CN2
  have HRM := Aside0.mk hrm
  have hrm2 : 0 ≤ rm ∧ rm ≤ 64 := by omega
  have HRM2 := Aside0.mk hrm2
  clear hrm2
  go_upto_region 9 with (first
    | (go_at_call 15; (with_reducible refine CN.out.mono ?_); rintro e w3 ⟨g1, rfl, hb, hg, hc⟩; have HX1 := Aside0.mk hb; have HX2 := Aside0.mk hc; clear hb hg hc)
    | (go_at_call 20; (with_reducible refine (CN2.out _).mono ?_); rintro e w4 ⟨g2, rfl, hb, hg, hc⟩; have HY1 := Aside0.mk hb; have HY2 := Aside0.mk hc; clear hb hg hc))
  have HBn : Aside0 (Below w.heap.size w w4) := ⟨below_step (below_step HB.out HX1.out) HY1.out⟩
  have HTW : Aside0 (∃ P, Two w4 w.heap.size (fun q => w.heap.size ≤ q) g1 g2 rm 0 0 P P 0) := ⟨[], (fun q => w2.heap.size ≤ q ∧ q < w3.heap.size), (fun q => w3.heap.size ≤ q ∧ q < w4.heap.size), _,
    ((HX2.out w.heap.size (fun q => w2.heap.size ≤ q) HB.out.size (fun q hq => hq)).mono (fun q hq ho => ⟨ho, hq⟩)).below HY1.out,
    (HY2.out w.heap.size (fun q => w3.heap.size ≤ q) (Nat.le_trans HB.out.size HX1.out.size) (fun q hq => hq)).mono (fun q hq ho => ⟨ho, hq⟩),
    fun q hq => ⟨Nat.lt_of_lt_of_le hq.2 HY1.out.size, Nat.le_trans HB.out.size hq.1, fun ht => by omega⟩, fun q hq => ⟨hq.2, Nat.le_trans HB.out.size (Nat.le_trans HX1.out.size hq.1)⟩⟩
  clear HX1 HX2 HY1 HY2 HB CN CN2 hrm
  have HB := HBn
  clear HBn
  go_loopg [8, 9, 31] (l.length + 1) (fun kq v8 v9 v31 w' => ∃ (i : Nat) (h m : Int), v8 = .int .i64 h ∧ v9 = .int .i64 m ∧ v31 = .int .i64 (i : Int) ∧ Aside0 (i ≤ l.length ∧ i + kq = l.length + 1) ∧ Aside0 (Below w.heap.size w w') ∧ Aside0 (∃ P, Two w' w.heap.size (fun q => w.heap.size ≤ q) g1 g2 rm h m P P i))
  case atStart => exact ⟨0, 0, 0, rfl, rfl, rfl, ⟨Nat.zero_le _, Nat.zero_add _⟩, HB, HTW⟩
  case round =>
    clear HB HTW
    obtain ⟨i, h, m, rfl, rfl, rfl, HI, HB, HTW⟩ := hrel
    have hik := HI.out
    by_cases hi : i < l.length
    · have cb : decide (i < l.length) = true := decide_eq_true hi
      have cbi : (i : Int) < (l.length : Int) := by omega
      have cb0 : (0 : Int) ≤ (i : Int) := by omega
      obtain ⟨k1, rfl⟩ : ∃ k1, gk = k1 + 1 := ⟨gk - 1, by omega⟩
      have HI1 : Aside0 (i + 1 ≤ l.length ∧ i + 1 + k1 = l.length + 1) := ⟨by omega, by omega⟩
      have wi : IntKind.i64.wrap ((i : Int) + 1) = ((i + 1 : Nat) : Int) := by have := HLL.out; rw [i64_w]; unfold wrap64; omega
      obtain ⟨ad, rfl, xs0, xs1, xs2, xs3, xs4⟩ := at_C5 (Kd.C_below HRR0.out HB.out) i hi
      obtain ⟨c, hcd⟩ : ∃ c, rdC l i = c := ⟨_, rfl⟩
      rw [hcd] at xs0 xs1 xs2 xs3 xs4
      have HCW : Aside0 (Wk c.key ∧ W64 c.val) := ⟨by rw [← hcd]; exact HWF.out _ (rdC_mem hi)⟩
      have HIL := Aside0.mk hi
      clear hik hi HI hcd
      go_upto_region 11 with (fail)
      have hb0 : Below wr.heap.size wr (wr.alloc (.cells (cc c).toArray 39 (0, 0))) := below_alloc (Below.refl _ _) _
      have HBX : Aside0 (BoxC (wr.alloc (.cells (cc c).toArray 39 (0, 0))) wr.heap.size c) := ⟨blk_new _ _⟩
      have HBn : Aside0 (Below w.heap.size w (wr.alloc (.cells (cc c).toArray 39 (0, 0)))) := ⟨below_step HB.out hb0⟩
      have HSZ : Aside0 (wr.heap.size + 1 ≤ (wr.alloc (.cells (cc c).toArray 39 (0, 0))).heap.size) := ⟨by rw [World.size_alloc]; exact Nat.le_refl _⟩
      have HTn : Aside0 (∃ P, Two (wr.alloc (.cells (cc c).toArray 39 (0, 0))) w.heap.size (fun q => w.heap.size ≤ q ∧ q ≠ wr.heap.size) g1 g2 rm h m P P i) := ⟨by
        obtain ⟨P, hp⟩ := HTW.out
        exact ⟨P, (hp.mono (fun q hq ho => ⟨ho, Nat.ne_of_lt hq⟩)).below hb0⟩⟩
      have HWR : Aside0 (w.heap.size ≤ wr.heap.size) := ⟨HB.out.size⟩
      clear hb0 HB HTW xs0 xs1 xs2 xs3 xs4
      generalize (wr.alloc (Obj.cells #[.bool c.put, .int .u64 c.key.f0, .int .i64 c.key.f1, .int .i64 c.key.f2, .int .i64 c.val] 39)) = W0 at HBX HBn HSZ HTn ⊢
      have HNI : Aside0 (i < 1000000) := ⟨by have h1 := HLL.out; have h2 := HIL.out; omega⟩
      obtain ⟨xb0, xb1, xb2, xb3, xb4⟩ := HBX.out.cells
      have kb1 := cell_regrown xb1
      have kb2 := cell_regrown xb2
      have kb3 := cell_regrown xb3
      have kb4 := cell_regrown xb4
      clear xb0 xb1 xb2 xb3 xb4
      have cK : ∀ d os, Calls Try.prog 17 #[.agg #[.int .u64 c.key.f0, .int .i64 c.key.f1, .int .i64 c.key.f2]] (grow (redrawn W0 d) os) fun e w'' => e = .returned (kv c.key) ∧ ∃ p : Regrown, w'' = grow (redrawn W0 p.d) p.os := fun d os => Calls.regrown_of (key_calls c.key _)
      have cP : ∀ d os, Calls Try.prog 16 #[.pointer none, kv c.key, .int .i64 c.val] (grow (redrawn W0 d) os) fun e w'' => e = .returned (.tuple #[]) ∧ ∃ p : Regrown, w'' = grow (redrawn W0 p.d) p.os := fun d os => Calls.regrown_of nput_calls
      refine wp_region_quiet_below (by kernel_rfl) (by kernel_rfl) ?_
      repeat (go_big_quiet_step (first | (with_reducible exact cK _ _) | (with_reducible exact cP _ _)))
      refine wpQuiet_nil ?_
      intro _ hw'
      obtain ⟨⟨d7, o7⟩, hw''⟩ := hw'
      subst hw''
      dsimp only at *
      have HBz := Aside0.mk (HBX.out.below (below_regrown W0 d7 o7))
      have HBy := Aside0.mk (below_step HBn.out (below_regrown W0 d7 o7))
      have HSy := Aside0.mk (Nat.le_trans HSZ.out (below_regrown W0 d7 o7).size)
      have HTy : Aside0 (∃ P, Two (grow (redrawn W0 d7) o7) w.heap.size (fun q => w.heap.size ≤ q ∧ q ≠ wr.heap.size) g1 g2 rm h m P P i) := ⟨by
        obtain ⟨P, hp⟩ := HTn.out
        exact ⟨P, hp.below (below_regrown W0 d7 o7)⟩⟩
      clear kb1 kb2 kb3 kb4 cK cP HBX HBn HSZ HTn
      generalize (grow (redrawn W0 d7) o7) = W1 at HBz HBy HSy HTy ⊢
      obtain ⟨xb0, xb1, xb2, xb3, xb4⟩ := HBz.out.cells
      go_upto_region 13 with (first
        | (go_at_call 17; (with_reducible refine (key_calls c.key _).mono ?_); rintro e w5 ⟨rfl, hb⟩; have HX := Aside0.mk hb; clear hb)
        | (go_at_call 19; (with_reducible refine nget_calls.mono ?_); rintro e w6 ⟨rfl, hb⟩; have HY := Aside0.mk hb; clear hb))
      have HXY : Aside0 (Below W1.heap.size W1 w6) := ⟨below_step HX.out HY.out⟩
      have HBz6 := Aside0.mk (HBz.out.below HXY.out)
      have HBy6 := Aside0.mk (below_step HBy.out HXY.out)
      have HSy6 := Aside0.mk (Nat.le_trans HSy.out HXY.out.size)
      have HTy6 : Aside0 (∃ P, Two w6 w.heap.size (fun q => w.heap.size ≤ q ∧ q ≠ wr.heap.size) g1 g2 rm h m P P i) := ⟨by
        obtain ⟨P, hp⟩ := HTy.out
        exact ⟨P, hp.below HXY.out⟩⟩
      clear HBz HBy HSy HTy HX HY HXY xb0 xb1 xb2 xb3 xb4
      have HFR : Aside0 (∀ q, w6.heap.size ≤ q → w.heap.size ≤ q ∧ q ≠ wr.heap.size) := ⟨fun q hq => by have h1 := HSy6.out; have h2 := HWR.out; exact ⟨by omega, by omega⟩⟩
      have HBS : Aside0 (w.heap.size ≤ w6.heap.size) := ⟨by have h1 := HSy6.out; have h2 := HWR.out; omega⟩
      obtain ⟨xb0, xb1, xb2, xb3, xb4⟩ := HBz6.out.cells
      go_upto_if 56 with (fail)
      go_cut [8, 9] (fun v8 v9 wc => ∃ (h' m' : Int), v8 = .int .i64 h' ∧ v9 = .int .i64 m' ∧ Aside0 (Kept (fun q => w.heap.size ≤ q ∧ q ≠ wr.heap.size) w6 wc) ∧ Aside0 (∃ P, Two wc w.heap.size (fun q => w.heap.size ≤ q ∧ q ≠ wr.heap.size) g1 g2 rm h' m' P P (i + 1)))
      case first =>
        obtain ⟨P, htw⟩ := HTy6.out
        have HT := Aside0.mk htw
        clear htw
        cases hp : c.put with
        | true =>
          rw [hp] at xb0
          clear hp
          go_upto_region 16 with (fail)
          refine wp_region_inv (ID (fun a57 a58 a59 a60 a61 a62 a63 => { tmps := #[.int .i64 room, .slice (some ad) l.length c0, undef, undef, u4, .pointer (some ⟨g1, 0, none⟩), .pointer (some ⟨g2, 0, none⟩), .pointer none, .int .i64 h, .int .i64 m, undef, .pointer (some ⟨wr.heap.size, 0, none⟩), .int .i64 0, .bool false, u14, u15, u16, u17, undef, undef, .bool true, .bool false, .slice (some ad) l.length c0, .int .i64 (l.length : Int), .bool false, .int .i64 room, .pointer (some ⟨g1, 0, none⟩), .int .i64 room, .pointer (some ⟨g2, 0, none⟩), .slice (some ad) l.length c0, .int .i64 (l.length : Int), .int .i64 (i : Int), .bool true, .pointer (some (ad.add (i * 5))), .agg #[.bool true, .int .u64 c.key.f0, .int .i64 c.key.f1, .int .i64 c.key.f2, .int .i64 c.val], .pointer none, .pointer (some ⟨wr.heap.size, 1, none⟩), .agg #[.int .u64 c.key.f0, .int .i64 c.key.f1, .int .i64 c.key.f2], kv c.key, .pointer (some ⟨wr.heap.size, 4, none⟩), .int .i64 c.val, .tuple #[], .tuple #[.int .i64 0, .bool false], .pointer none, .pointer (some ⟨wr.heap.size, 1, none⟩), .agg #[.int .u64 c.key.f0, .int .i64 c.key.f1, .int .i64 c.key.f2], kv c.key, .tuple #[.int .i64 0, .bool false], .int .i64 0, .bool false, .int .i64 0, .bool false, .bool false, .bool false, .bool false, .pointer (some ⟨wr.heap.size, 0, none⟩), .bool true, a57, a58, a59, a60, a61, a62, a63, u64, u65, u66, u67, u68, u69, u70, u71, u72, u73, u74, u75, u76, u77, u78, u79, u80, u81, u82, u83, u84, u85, u86, u87, u88, u89, u90, u91, u92, u93, u94, u95, u96, u97, u98, u99, u100, u101, u102, u103, u104, u105, u106, u107, u108, u109, u110, u111, u112, u113, u114, u115, undef, undef, undef, undef, undef, undef, undef, undef, undef, undef, undef, undef, undef, undef, undef, undef, undef, undef, undef, undef, undef, undef, undef, undef, undef, undef, undef, undef, undef, undef, undef, undef, undef, undef], defers := [] }) (fun q => w.heap.size ≤ q ∧ q ≠ wr.heap.size) w.heap.size g1 g2 wr.heap.size rm h m c P i w6) (by kernel_rfl) ?start ?step ?done
          case start =>
            exact ⟨false, false, false, false, false, false, false, u57, u58, u59, u60, u61, u62, u63, rfl, rfl, ⟨⟨rfl, rfl, rfl, Nat.le_refl _, fun _ _ _ => rfl⟩, (fun _ => HT.out.below (below_drew1 (Below.refl _ _))), (fun h => by cases h), HBz6.out, (fun h => by cases h), (fun h => by cases h), (fun h => by cases h), (fun h => by cases h), (fun h => by cases h), (fun h => by cases h)⟩⟩
          case step =>
            rintro la a w' q ⟨b0, b1, b2, b3, b4, b5, b6, a57, a58, a59, a60, a61, a62, a63, rfl, rfl, hR⟩ hi
            have HRR := Aside0.mk hR
            clear hR xb0 xb1 xb2 xb3 xb4
            have hq : q < 7 := (ready_free hi).1
            have hcase : q = 0 ∨ q = 1 ∨ q = 2 ∨ q = 3 ∨ q = 4 ∨ q = 5 ∨ q = 6 := by omega
            clear hq
            dsimp only
            rcases hcase with rfl | rfl | rfl | rfl | rfl | rfl | rfl
            · have hfl : b0 = false := (ready_free hi).2
              clear hi
              refine wpOp_step rfl (fun K' hK => ?_)
              go_simp
              have R := HRR.out
              exact hK _ _ ⟨true, b1, b2, b3, b4, b5, b6, _, _, _, _, _, _, _, rfl, rfl, ⟨R.kept, R.two0, R.two1, R.box, (fun _ => rfl), R.h1, R.h2, R.h3, R.h4, R.h5⟩⟩
            · have hfl : b1 = false := (ready_free hi).2
              clear hi
              refine wpOp_step rfl (fun K' hK => ?_)
              go_simp
              have R := HRR.out
              exact hK _ _ ⟨b0, true, b2, b3, b4, b5, b6, _, _, _, _, _, _, _, rfl, rfl, ⟨R.kept, R.two0, R.two1, R.box, R.h0, (fun _ => rfl), R.h2, R.h3, R.h4, R.h5⟩⟩
            · have hfl : b2 = false := (ready_free hi).2
              have k1 : b1 = true := ready_dep hi rfl 1 rfl
              clear hi
              obtain rfl := HRR.out.h1 k1
              obtain ⟨ck0, ck1, ck2, ck3, ck4⟩ := HRR.out.box.cells
              refine wpOp_step rfl (fun K' hK => ?_)
              go_simp
              have R := HRR.out
              exact hK _ _ ⟨b0, b1, true, b3, b4, b5, b6, _, _, _, _, _, _, _, rfl, rfl, ⟨R.kept, R.two0, R.two1, R.box, R.h0, R.h1, (fun _ => rfl), R.h3, R.h4, R.h5⟩⟩
            · have hfl : b3 = false := (ready_free hi).2
              have k2 : b2 = true := ready_dep hi rfl 2 rfl
              clear hi
              obtain rfl := HRR.out.h2 k2
              refine wpOp_step rfl (fun K' hK => ?_)
              go_wp2_with (go_at_call 17; (with_reducible refine (key_calls c.key _).mono ?_); rintro e w8 ⟨rfl, hb⟩; have HX := Aside0.mk hb; clear hb)
              have R := HRR.out
              exact ⟨b0, b1, b2, true, b4, b5, b6, _, _, _, _, _, _, _, rfl, rfl, ⟨R.kept.trans (Kept.of_below _ HX.out), (fun h => (R.two0 h).below HX.out), (fun h => (R.two1 h).below HX.out), R.box.below HX.out, R.h0, R.h1, R.h2, (fun _ => rfl), R.h4, R.h5⟩⟩
            · have hfl : b4 = false := (ready_free hi).2
              clear hi
              refine wpOp_step rfl (fun K' hK => ?_)
              go_simp
              have R := HRR.out
              exact hK _ _ ⟨b0, b1, b2, b3, true, b5, b6, _, _, _, _, _, _, _, rfl, rfl, ⟨R.kept, R.two0, R.two1, R.box, R.h0, R.h1, R.h2, R.h3, (fun _ => rfl), R.h5⟩⟩
            · have hfl : b5 = false := (ready_free hi).2
              have k4 : b4 = true := ready_dep hi rfl 4 rfl
              clear hi
              obtain rfl := HRR.out.h4 k4
              obtain ⟨ck0, ck1, ck2, ck3, ck4⟩ := HRR.out.box.cells
              refine wpOp_step rfl (fun K' hK => ?_)
              go_simp
              have R := HRR.out
              exact hK _ _ ⟨b0, b1, b2, b3, b4, true, b6, _, _, _, _, _, _, _, rfl, rfl, ⟨R.kept, R.two0, R.two1, R.box, R.h0, R.h1, R.h2, R.h3, R.h4, (fun _ => rfl)⟩⟩
            · have hfl : b6 = false := (ready_free hi).2
              have k0 : b0 = true := ready_dep hi rfl 0 rfl
              have k3 : b3 = true := ready_dep hi rfl 3 rfl
              have k5 : b5 = true := ready_dep hi rfl 5 rfl
              clear hi
              obtain rfl := HRR.out.h0 k0
              obtain rfl := HRR.out.h3 k3
              obtain rfl := HRR.out.h5 k5
              have hsz := HRR.out.kept.size
              have CP := Aside0.mk ((HRR.out.two0 hfl).put1 HCW.out.1 HCW.out.2 HNI.out (fun q hq => HFR.out q (Nat.le_trans hsz hq)) (Nat.le_trans HBS.out hsz))
              clear hsz
              refine wpOp_step rfl (fun K' hK => ?_)
              go_wp2_with (go_at_call 16; (with_reducible refine CP.out.mono ?_); rintro e w8 ⟨rfl, hk, hc⟩; have HX := Aside0.mk hk; have HY := Aside0.mk hc; clear hk hc)
              have R := HRR.out
              exact ⟨b0, b1, b2, b3, b4, b5, true, _, _, _, _, _, _, _, rfl, rfl, ⟨R.kept.trans HX.out, (fun h => by cases h), (fun _ => HY.out), R.box.kept HX.out (fun q => q.2 rfl), R.h0, R.h1, R.h2, R.h3, R.h4, R.h5⟩⟩
          case done =>
            rintro la a w' ⟨b0, b1, b2, b3, b4, b5, b6, a57, a58, a59, a60, a61, a62, a63, rfl, rfl, hR⟩ hi
            have hd := all_done rfl (by kernel_rfl) hi
            clear hi
            obtain rfl : b0 = true := hd 0 (by decide)
            obtain rfl : b1 = true := hd 1 (by decide)
            obtain rfl : b2 = true := hd 2 (by decide)
            obtain rfl : b3 = true := hd 3 (by decide)
            obtain rfl : b4 = true := hd 4 (by decide)
            obtain rfl : b5 = true := hd 5 (by decide)
            obtain rfl : b6 = true := hd 6 (by decide)
            have HRR := Aside0.mk hR
            clear hR hd xb0 xb1 xb2 xb3 xb4
            dsimp only
            obtain ⟨xb0, xb1, xb2, xb3, xb4⟩ := HRR.out.box.cells
            have hsz := HRR.out.kept.size
            obtain ⟨hf1, hf2, hf3⟩ := HT.out.facts
            have CP := Aside0.mk ((HRR.out.two1 rfl).put2 (k := c.key) (x := c.val) hf1 (by omega) hf2 (fun q hq => HFR.out q (Nat.le_trans hsz hq)) (Nat.le_trans HBS.out hsz))
            clear hsz hf1 hf2 hf3
            go_wp2_with (go_at_call 21; (with_reducible refine CP.out.mono ?_); rintro e w8 ⟨rfl, hk, hc⟩; have HX := Aside0.mk hk; have HY := Aside0.mk hc; clear hk hc)
            go_meet
            case rel => exact ⟨h, m, rfl, rfl, ⟨HRR.out.kept.trans HX.out⟩, ⟨_, HY.out⟩⟩
        | false =>
          rw [hp] at xb0
          clear hp
          obtain ⟨hf1, hf2, hf3⟩ := HT.out.facts
          have hf4 : P.length ≤ 1000 := by omega
          have HF1 := Aside0.mk hf1
          have HF4 := Aside0.mk hf4
          obtain ⟨lk, hlk⟩ : ∃ z, lookP P c.key = z := ⟨_, rfl⟩
          have CG := Aside0.mk (fun (W : World) (hW : Below w6.heap.size w6 W) => (HT.out.below hW).get1 (k := c.key) HCW.out.1 (fun q hq => HFR.out q (Nat.le_trans hW.size hq)) (Nat.le_trans HBS.out hW.size))
          rw [hlk] at CG
          have HLK := Aside0.mk hlk
          clear hf1 hf2 hf3 hf4 hlk
          go_upto_region 19 with (first
            | (go_at_call 17; (with_reducible refine (key_calls c.key _).mono ?_); rintro e w7 ⟨rfl, hb⟩; have HX := Aside0.mk hb; clear hb)
            | (go_at_call 19; (with_reducible refine (CG.out _ HX.out).mono ?_); rintro e w8 ⟨rfl, hk, hc⟩; have HY := Aside0.mk hk; have HZ := Aside0.mk hc; clear hk hc))
          have HK8 : Aside0 (Kept (fun q => w.heap.size ≤ q ∧ q ≠ wr.heap.size) w6 w8) := ⟨(Kept.of_below _ HX.out).trans HY.out⟩
          have HB8 : Aside0 (BoxC w8 wr.heap.size c) := ⟨HBz6.out.kept HK8.out (fun q => q.2 rfl)⟩
          clear HX HY CG xb0 xb1 xb2 xb3 xb4
          obtain ⟨xb0, xb1, xb2, xb3, xb4⟩ := HB8.out.cells
          have CG2 := Aside0.mk (HZ.out.get2 (k := c.key) HF1.out HF4.out (fun q hq => HFR.out q (Nat.le_trans HK8.out.size hq)) (Nat.le_trans HBS.out HK8.out.size))
          rw [HLK.out] at CG2
          go_upto_region 20 with (go_at_call 22; (with_reducible refine CG2.out.mono ?_); rintro e w9 ⟨rfl, hk, hc⟩; have HY := Aside0.mk hk; have HW := Aside0.mk hc; clear hk hc)
          have HK9 : Aside0 (Kept (fun q => w.heap.size ≤ q ∧ q ≠ wr.heap.size) w6 w9) := ⟨HK8.out.trans HY.out⟩
          clear CG2 HZ HY xb0 xb1 xb2 xb3 xb4
          have wh : IntKind.i64.wrap (h + 1) = wrap64 (h + 1) := i64_w _
          have wm : IntKind.i64.wrap (m + 1) = wrap64 (m + 1) := i64_w _
          cases lk with
          | none =>
            go_wp2
            go_meet
            case rel => exact ⟨_, _, rfl, rfl, HK9, ⟨_, HW.out.more⟩⟩
          | some v =>
            have nv : (v != v) = false := by simp
            go_wp2
            go_meet
            case rel => exact ⟨_, _, rfl, rfl, HK9, ⟨_, HW.out.more⟩⟩
      case rest =>
        obtain ⟨h', m', rfl, rfl, HKT, HTC⟩ := hcut
        clear HTy6 HBz6 xb0 xb1 xb2 xb3 xb4
        obtain ⟨P, htw⟩ := HTC.out
        have HT := Aside0.mk htw
        obtain ⟨S, T, v, hc1, hc2, h3, h4⟩ := htw
        obtain ⟨A2, c2, hv⟩ := Kd.R_slice hc2.row.R
        subst hv
        have HC1 := Aside0.mk hc1
        have HC2 := Aside0.mk (Kd.R_reads' hc2.row.R).2.2
        obtain ⟨_, xp1, _⟩ := hc2.cells
        have kp1 := cell_regrown xp1
        have nl : ((P.length : Int) != (P.length : Int)) = false := by simp
        have HBW : Aside0 (RowKit.Below w.heap.size w wc) := ⟨HKT.out.below (fun q hq => hq.1) HBy6.out HBS.out⟩
        clear hc1 hc2 h3 h4 xp1 HTC
        have cL : ∀ d os, Calls Try.prog 18 #[.pointer (some ⟨g1, 0, none⟩)] (grow (redrawn wc d) os) fun e w'' => e = .returned (.int .i64 (P.length : Int)) ∧ ∃ p : Regrown, w'' = grow (redrawn wc p.d) p.os := fun d os => Calls.regrown_of ((len_calls (HC1.out.below (below_regrown wc d os))).mono (fun e w' ⟨he, hw⟩ => ⟨he, by rw [hw]; exact Below.refl _ _⟩))
        have cY : ∀ d os, Calls Try.prog 23 #[.pointer (some ⟨g1, 0, none⟩), .slice A2 P.length c2] (grow (redrawn wc d) os) fun e w'' => e = .returned (.bool true) ∧ ∃ p : Regrown, w'' = grow (redrawn wc p.d) p.os := fun d os => Calls.regrown_of (keys_some (HC1.out.below (below_regrown wc d os)) (Kd.C_below HC2.out (below_regrown wc d os)))
        go_upto_region 25 with (fail)
        refine wp_region_quiet_below (by kernel_rfl) (by kernel_rfl) ?_
        repeat (go_big_quiet_step (first | (with_reducible exact cL _ _) | (with_reducible exact cY _ _)))
        refine wpQuiet_nil ?_
        intro _ hw'
        obtain ⟨⟨d8, o8⟩, hw''⟩ := hw'
        subst hw''
        dsimp only at *
        have HBv := Aside0.mk (below_step HBW.out (below_regrown wc d8 o8))
        have HTv : Aside0 (∃ P, Two (grow (redrawn wc d8) o8) w.heap.size (fun q => w.heap.size ≤ q) g1 g2 rm h' m' P P (i + 1)) := ⟨P, (HT.out.below (below_regrown wc d8 o8)).mono (fun q _ ho => ho.1)⟩
        clear kp1 cL cY HT HBW HC1 HC2
        generalize (grow (redrawn wc d8) o8) = W8 at HBv HTv ⊢
        go_wp2
        go_roundg k1
        case measure => exact Nat.lt_succ_self _
        case rel => exact ⟨i + 1, h', m', rfl, rfl, rfl, HI1, HBv, HTv⟩
    · have cb : decide (i < l.length) = false := decide_eq_false hi
      clear hik hi HI
      obtain ⟨P, htw⟩ := HTW.out
      have HT := Aside0.mk htw
      obtain ⟨S, T, v, hc1, hc2, h3, h4⟩ := htw
      have CC := Aside0.mk (counts_calls hc1)
      have HC1 := Aside0.mk hc1
      have HC2 := Aside0.mk hc2
      clear hc1 hc2 h3 h4
      go_upto_region 29 with (go_at_call 24; (with_reducible refine CC.out.mono ?_); rintro e w9 ⟨rfl, hb⟩; have HX := Aside0.mk hb; clear hb)
      have HB9 := Aside0.mk (below_step HB.out HX.out)
      have HC19 := Aside0.mk (HC1.out.below HX.out)
      obtain ⟨xp0, _, _⟩ := (HC2.out.below HX.out).cells
      have kp0 := cell_regrown xp0
      clear CC HC1 HC2 HX xp0 HT HB
      have cL : ∀ d os, Calls Try.prog 18 #[.pointer none] (grow (redrawn w9 d) os) fun e w'' => e = .returned (.int .i64 0) ∧ ∃ p : Regrown, w'' = grow (redrawn w9 p.d) p.os := fun d os => Calls.regrown_of (nlen_calls.mono (fun e w' ⟨he, hw⟩ => ⟨he, by rw [hw]; exact Below.refl _ _⟩))
      have cR : ∀ d os, Calls Try.prog 25 #[.pointer none] (grow (redrawn w9 d) os) fun e w'' => e = .returned (.int .i64 0) ∧ ∃ p : Regrown, w'' = grow (redrawn w9 p.d) p.os := fun d os => Calls.regrown_of (nroom_calls.mono (fun e w' ⟨he, hw⟩ => ⟨he, by rw [hw]; exact Below.refl _ _⟩))
      have cR1 : ∀ d os, Calls Try.prog 25 #[.pointer (some ⟨g1, 0, none⟩)] (grow (redrawn w9 d) os) fun e w'' => e = .returned (.int .i64 rm) ∧ ∃ p : Regrown, w'' = grow (redrawn w9 p.d) p.os := fun d os => Calls.regrown_of ((room_calls (HC19.out.below (below_regrown w9 d os))).mono (fun e w' ⟨he, hw⟩ => ⟨he, by rw [hw]; exact Below.refl _ _⟩))
      have cY : ∀ d os, Calls Try.prog 23 #[.pointer none, .slice none 0 0] (grow (redrawn w9 d) os) fun e w'' => e = .returned (.bool true) ∧ ∃ p : Regrown, w'' = grow (redrawn w9 p.d) p.os := fun d os => Calls.regrown_of keys_none
      refine wp_region_quiet_below (by kernel_rfl) (by kernel_rfl) ?_
      repeat (go_big_quiet_step (first | (with_reducible exact cL _ _) | (with_reducible exact cR _ _) | (with_reducible exact cR1 _ _) | (with_reducible exact cY _ _)))
      refine wpQuiet_nil ?_
      intro _ hw'
      obtain ⟨⟨d8, o8⟩, hw''⟩ := hw'
      subst hw''
      have HB8 := Aside0.mk (below_step HB9.out (below_regrown w9 d8 o8))
      dsimp only at *
      go_wp2
      go_ret
      exact ⟨rfl, HB8.out⟩
theorem does_law {room : Int} {A : Option Addr} {c0 : Nat} {l : List C5} {w : World} (hc0 : l.length ≤ c0) (hr0 : Kd.C kC w A l.length l) (hok : okCalls l) (hw : (Lit.int .i64 room).wf = true) : Calls Try.prog 7 #[.int .i64 room, .slice A l.length c0] w fun e w' => e = .returned (.bool true) ∧ Below w.heap.size w w' := does_walk hc0 hr0 hok
end Go.Proofs.Ytlpbfhbfaphicaa.C19
