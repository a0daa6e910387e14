/- Layer 19 (cache): CacheHolds, walked. -/
import Derived.Test.YtlpbfhbfaphicaaHld19
namespace Go.Proofs.Ytlpbfhbfaphicaa.C19
open Go Go.RowKit Go.Maps Go.Lib Go.Sort Go.Proofs.YtlpbfhbfaphicaaW.PrintWords Go.Proofs.YtlpbfhbfaphicaaW.PrintLast Go.Proofs.YtlpbfhbfaphicaaW.PrintMore Go.Proofs.Ytlpbfhbfaphicaa.XA

set_option linter.unusedVariables false
attribute [local go_sem high] eqA37
attribute [local go_sem] max2_int min2_int max_two min_two max_three min_three max_four min_four
structure RH (ok : Nat → Prop) (base g bx : Nat) (rm h m : Int) (c : C5) (P : List Pr) (N : Nat) (w1 w' : World) (b0 b1 b2 b3 b4 b5 b6 : Bool) (a28 a29 a30 a31 a32 a33 a34 : Value) : Prop where
  kept : Kept ok w1 w'
  cac0 : b6 = false → CacP w' base ok g rm h m P N
  cac1 : b6 = true → CacP w' base ok g rm h m (putP rm P c.key c.val) (N + 1)
  box : BoxC w' bx c
  h0 : b0 = true → a28 = .pointer (some ⟨g, 0, none⟩)
  h1 : b1 = true → a29 = .pointer (some ⟨bx, 1, none⟩)
  h2 : b2 = true → a30 = kv c.key
  h3 : b3 = true → a31 = kv c.key
  h4 : b4 = true → a32 = .pointer (some ⟨bx, 4, none⟩)
  h5 : b5 = true → a33 = .int .i64 c.val
def IH (mk : Value → Value → Value → Value → Value → Value → Value → Act) (ok : Nat → Prop) (base g bx : Nat) (rm h m : Int) (c : C5) (P : List Pr) (N : Nat) (w1 : World) (l : Array Bool) (a : Act) (w' : World) : Prop :=
  ∃ b0 b1 b2 b3 b4 b5 b6 : Bool, ∃ a28 a29 a30 a31 a32 a33 a34 : Value, l = [b0, b1, b2, b3, b4, b5, b6].toArray ∧ a = mk a28 a29 a30 a31 a32 a33 a34 ∧ RH ok base g bx rm h m c P N w1 w' b0 b1 b2 b3 b4 b5 b6 a28 a29 a30 a31 a32 a33 a34
set_option maxHeartbeats 8000000 in
set_option maxRecDepth 100000 in
theorem holds_walk {room : Int} {A : Option Addr} {c0 : Nat} {l : List C5} {w : World} (hc0 : l.length ≤ c0) (hr0 : Kd.C kC w A l.length l) (hok : okCalls l) : Calls Try.prog 5 #[.int .i64 room, .slice A l.length c0] w fun e w' => e = .returned (.bool true) ∧ Below w.heap.size w w' := by
  have CA := Aside0.mk alive_calls
  have hwf := okCalls_wf hok
  by_cases c1 : 200 < l.length
  · have d1 : decide ((200 : Int) < (l.length : Int)) = true := decide_eq_true (by omega)
    have d1' : decide (200 < l.length) = true := decide_eq_true c1
    clear hc0 hr0 hok hwf c1
    go_enter Try.func5, Try.ntmps5
    go_wp2_with (go_at_call 14; (with_reducible refine (CA.out _).mono ?_); rintro e w2 ⟨rfl, hb⟩; have HB := Aside0.mk hb; clear hb)
    go_ret
    exact ⟨rfl, HB.out⟩
  have d1 : decide ((200 : Int) < (l.length : Int)) = false := decide_eq_false (by omega)
  have d1' : decide (200 < l.length) = false := decide_eq_false c1
  have HLL : Aside0 (l.length ≤ 200) := ⟨by omega⟩
  have HWF := Aside0.mk hwf
  have HRR0 := Aside0.mk hr0
  have HC0 := Aside0.mk hc0
  clear hc0 hr0 hok hwf c1
  go_enter Try.func5, Try.ntmps5
  go_upto_region 5 with (go_at_call 14; (with_reducible refine (CA.out _).mono ?_); rintro e w2 ⟨rfl, hb⟩; have HB := Aside0.mk hb; clear hb)
  obtain ⟨rm, hrm⟩ : ∃ z, min (max room 0) 64 = z := ⟨_, rfl⟩
  have CN := Aside0.mk (new_calls (r := room) (w := w2))
  rw [hrm] at CN
  have HRM := Aside0.mk hrm
  have hrm2 : 0 ≤ rm ∧ rm ≤ 64 := by omega
  have HRM2 := Aside0.mk hrm2
  clear hrm2
  go_upto_region 7 with (go_at_call 15; (with_reducible refine CN.out.mono ?_); rintro e w1 ⟨g, rfl, hb, hg, hc⟩; have HBn := Aside0.mk (below_step HB.out hb); have hcp := hc w.heap.size (fun q => w.heap.size ≤ q) HB.out.size (fun q hq => Nat.le_trans HB.out.size hq); have HC : Aside0 (∃ h m P, CacP w1 w.heap.size (fun q => w.heap.size ≤ q) g rm h m P 0 ∧ Last (l.take 0) P) := ⟨0, 0, [], hcp, fun k v h => by cases h⟩; clear hb hc hcp hg HB)
  have HB := HBn
  clear HBn CN hrm
  go_loopg [21] (l.length + 1) (fun kq v21 w' => ∃ i : Nat, v21 = .int .i64 (i : Int) ∧ Aside0 (i ≤ l.length ∧ i + kq = l.length + 1) ∧ Aside0 (Below w.heap.size w w') ∧ Aside0 (∃ h m P, CacP w' w.heap.size (fun q => w.heap.size ≤ q) g rm h m P i ∧ Last (l.take i) P))
  case atStart => exact ⟨0, rfl, ⟨Nat.zero_le _, Nat.zero_add _⟩, HB, HC⟩
  case round =>
    clear HB HC
    obtain ⟨i, rfl, HI, HB, HC⟩ := hrel
    have hik := HI.out
    by_cases hi : i < l.length
    · have cb : decide (i < l.length) = true := decide_eq_true hi
      have cbi : (i : Int) < (l.length : Int) := by omega
      have cb0 : (0 : Int) ≤ (i : Int) := by omega
      obtain ⟨k1, rfl⟩ : ∃ k1, gk = k1 + 1 := ⟨gk - 1, by omega⟩
      have HI1 : Aside0 (i + 1 ≤ l.length ∧ i + 1 + k1 = l.length + 1) := ⟨by omega, by omega⟩
      have wi : IntKind.i64.wrap ((i : Int) + 1) = ((i + 1 : Nat) : Int) := by have := HLL.out; rw [i64_w]; unfold wrap64; omega
      obtain ⟨ad, rfl, xs0, xs1, xs2, xs3, xs4⟩ := at_C5 (Kd.C_below HRR0.out HB.out) i hi
      obtain ⟨c, hcd⟩ : ∃ c, rdC l i = c := ⟨_, rfl⟩
      rw [hcd] at xs0 xs1 xs2 xs3 xs4
      have HCW : Aside0 (Wk c.key ∧ W64 c.val) := ⟨by rw [← hcd]; exact HWF.out _ (rdC_mem hi)⟩
      have HTK : Aside0 (l.take (i + 1) = l.take i ++ [c]) := ⟨by rw [take_rdC hi, hcd]⟩
      have HIL := Aside0.mk hi
      clear hik hi HI hcd
      go_upto_region 9 with (fail)
      have hb0 : Below wr.heap.size wr (wr.alloc (.cells (cc c).toArray 39 (0, 0))) := below_alloc (Below.refl _ _) _
      have HBX : Aside0 (BoxC (wr.alloc (.cells (cc c).toArray 39 (0, 0))) wr.heap.size c) := ⟨blk_new _ _⟩
      have HBn : Aside0 (Below w.heap.size w (wr.alloc (.cells (cc c).toArray 39 (0, 0)))) := ⟨below_step HB.out hb0⟩
      have HSZ : Aside0 (wr.heap.size + 1 ≤ (wr.alloc (.cells (cc c).toArray 39 (0, 0))).heap.size) := ⟨by rw [World.size_alloc]; exact Nat.le_refl _⟩
      have HCn : Aside0 (∃ h m P, CacP (wr.alloc (.cells (cc c).toArray 39 (0, 0))) w.heap.size (fun q => w.heap.size ≤ q ∧ q ≠ wr.heap.size) g rm h m P i ∧ Last (l.take i) P) := ⟨by
        obtain ⟨h, m, P, hc, hl⟩ := HC.out
        exact ⟨h, m, P, (hc.mono (fun q hq ho => ⟨ho, Nat.ne_of_lt hq⟩)).below hb0, hl⟩⟩
      have HWR : Aside0 (w.heap.size ≤ wr.heap.size) := ⟨HB.out.size⟩
      clear hb0 HB HC xs0 xs1 xs2 xs3 xs4
      generalize (wr.alloc (Obj.cells #[.bool c.put, .int .u64 c.key.f0, .int .i64 c.key.f1, .int .i64 c.key.f2, .int .i64 c.val] 39)) = W0 at HBX HBn HSZ HCn ⊢
      have HFR : Aside0 (∀ q, W0.heap.size ≤ q → w.heap.size ≤ q ∧ q ≠ wr.heap.size) := ⟨fun q hq => by have h1 := HSZ.out; have h2 := HWR.out; exact ⟨by omega, by omega⟩⟩
      have HBS : Aside0 (w.heap.size ≤ W0.heap.size) := ⟨by have h1 := HSZ.out; have h2 := HWR.out; omega⟩
      have HNI : Aside0 (i < 1000000) := ⟨by have h1 := HLL.out; have h2 := HIL.out; omega⟩
      obtain ⟨xb0, xb1, xb2, xb3, xb4⟩ := HBX.out.cells
      go_upto_if 27 with (fail)
      clear xb0 xb1 xb2 xb3 xb4
      go_cut [] (fun wc => Aside0 (Kept (fun q => w.heap.size ≤ q ∧ q ≠ wr.heap.size) W0 wc) ∧ Aside0 (∃ h m P, CacP wc w.heap.size (fun q => w.heap.size ≤ q ∧ q ≠ wr.heap.size) g rm h m P (i + 1) ∧ Last (l.take (i + 1)) P ∧ (c.put = true → rm ≠ 0 → lookP P c.key = some c.val)))
      case first =>
        obtain ⟨h, m, P, hc, hl⟩ := HCn.out
        have HCP := Aside0.mk hc
        have HLA := Aside0.mk hl
        clear hc hl
        cases hp : c.put with
        | false =>
          have HP := Aside0.mk hp
          clear hp
          go_wp2
          go_meet
          case rel => exact ⟨⟨Kept.refl _ _⟩, ⟨h, m, P, HCP.out.more, by rw [HTK.out]; exact HLA.out.not HP.out, fun e => by rw [HP.out] at e; cases e⟩⟩
        | true =>
          have HP := Aside0.mk hp
          clear hp
          go_upto_region 10 with (fail)
          refine wp_region_inv (IH (fun a28 a29 a30 a31 a32 a33 a34 => { tmps := #[.int .i64 room, .slice (some ad) l.length c0, undef, undef, u4, .pointer (some ⟨g, 0, none⟩), .int .i64 (i : Int), .pointer (some ⟨wr.heap.size, 0, none⟩), u8, u9, u10, u11, .bool true, .bool false, .slice (some ad) l.length c0, .int .i64 (l.length : Int), .bool false, .int .i64 room, .pointer (some ⟨g, 0, none⟩), .slice (some ad) l.length c0, .int .i64 (l.length : Int), .int .i64 (i : Int), .bool true, .int .i64 (i : Int), .pointer (some (ad.add (i * 5))), .agg #[.bool true, .int .u64 c.key.f0, .int .i64 c.key.f1, .int .i64 c.key.f2, .int .i64 c.val], .pointer (some ⟨wr.heap.size, 0, none⟩), .bool true, a28, a29, a30, a31, a32, a33, a34, u35, u36, u37, u38, u39, u40, u41, u42, u43, u44, u45, u46, u47, u48, u49, u50, u51, u52, u53, u54, u55, u56, u57, u58, u59, u60, u61, u62, u63, u64, u65, u66, u67, u68, u69, u70, u71, u72, u73, u74, u75, u76, u77, u78, u79, u80, u81, u82, u83, u84, u85, u86, u87, u88, u89, u90, u91, u92, u93, u94, u95, u96, u97, u98, u99, u100], defers := [] }) (fun q => w.heap.size ≤ q ∧ q ≠ wr.heap.size) w.heap.size g wr.heap.size rm h m c P i W0) (by kernel_rfl) ?start ?step ?done
          case start =>
            exact ⟨false, false, false, false, false, false, false, u28, u29, u30, u31, u32, u33, u34, rfl, rfl, ⟨⟨rfl, rfl, rfl, Nat.le_refl _, fun _ _ _ => rfl⟩, (fun _ => HCP.out.below (below_drew1 (Below.refl _ _))), (fun h => by cases h), HBX.out, (fun h => by cases h), (fun h => by cases h), (fun h => by cases h), (fun h => by cases h), (fun h => by cases h), (fun h => by cases h)⟩⟩
          case step =>
            rintro la a w' q ⟨b0, b1, b2, b3, b4, b5, b6, a28, a29, a30, a31, a32, a33, a34, rfl, rfl, hR⟩ hi
            have HRR := Aside0.mk hR
            clear hR
            have hq : q < 7 := (ready_free hi).1
            have hcase : q = 0 ∨ q = 1 ∨ q = 2 ∨ q = 3 ∨ q = 4 ∨ q = 5 ∨ q = 6 := by omega
            clear hq
            dsimp only
            rcases hcase with rfl | rfl | rfl | rfl | rfl | rfl | rfl
            · have hfl : b0 = false := (ready_free hi).2
              clear hi
              refine wpOp_step rfl (fun K' hK => ?_)
              go_simp
              have R := HRR.out
              exact hK _ _ ⟨true, b1, b2, b3, b4, b5, b6, _, _, _, _, _, _, _, rfl, rfl, ⟨R.kept, R.cac0, R.cac1, R.box, (fun _ => rfl), R.h1, R.h2, R.h3, R.h4, R.h5⟩⟩
            · have hfl : b1 = false := (ready_free hi).2
              clear hi
              refine wpOp_step rfl (fun K' hK => ?_)
              go_simp
              have R := HRR.out
              exact hK _ _ ⟨b0, true, b2, b3, b4, b5, b6, _, _, _, _, _, _, _, rfl, rfl, ⟨R.kept, R.cac0, R.cac1, R.box, R.h0, (fun _ => rfl), R.h2, R.h3, R.h4, R.h5⟩⟩
            · have hfl : b2 = false := (ready_free hi).2
              have k1 : b1 = true := ready_dep hi rfl 1 rfl
              clear hi
              obtain rfl := HRR.out.h1 k1
              obtain ⟨ck0, ck1, ck2, ck3, ck4⟩ := HRR.out.box.cells
              refine wpOp_step rfl (fun K' hK => ?_)
              go_simp
              have R := HRR.out
              exact hK _ _ ⟨b0, b1, true, b3, b4, b5, b6, _, _, _, _, _, _, _, rfl, rfl, ⟨R.kept, R.cac0, R.cac1, R.box, R.h0, R.h1, (fun _ => rfl), R.h3, R.h4, R.h5⟩⟩
            · have hfl : b3 = false := (ready_free hi).2
              have k2 : b2 = true := ready_dep hi rfl 2 rfl
              clear hi
              obtain rfl := HRR.out.h2 k2
              refine wpOp_step rfl (fun K' hK => ?_)
              go_wp2_with (go_at_call 17; (with_reducible refine (key_calls c.key _).mono ?_); rintro e w8 ⟨rfl, hb⟩; have HX := Aside0.mk hb; clear hb)
              have R := HRR.out
              exact ⟨b0, b1, b2, true, b4, b5, b6, _, _, _, _, _, _, _, rfl, rfl, ⟨R.kept.trans (Kept.of_below _ HX.out), (fun h => (R.cac0 h).below HX.out), (fun h => (R.cac1 h).below HX.out), R.box.below HX.out, R.h0, R.h1, R.h2, (fun _ => rfl), R.h4, R.h5⟩⟩
            · have hfl : b4 = false := (ready_free hi).2
              clear hi
              refine wpOp_step rfl (fun K' hK => ?_)
              go_simp
              have R := HRR.out
              exact hK _ _ ⟨b0, b1, b2, b3, true, b5, b6, _, _, _, _, _, _, _, rfl, rfl, ⟨R.kept, R.cac0, R.cac1, R.box, R.h0, R.h1, R.h2, R.h3, (fun _ => rfl), R.h5⟩⟩
            · have hfl : b5 = false := (ready_free hi).2
              have k4 : b4 = true := ready_dep hi rfl 4 rfl
              clear hi
              obtain rfl := HRR.out.h4 k4
              obtain ⟨ck0, ck1, ck2, ck3, ck4⟩ := HRR.out.box.cells
              refine wpOp_step rfl (fun K' hK => ?_)
              go_simp
              have R := HRR.out
              exact hK _ _ ⟨b0, b1, b2, b3, b4, true, b6, _, _, _, _, _, _, _, rfl, rfl, ⟨R.kept, R.cac0, R.cac1, R.box, R.h0, R.h1, R.h2, R.h3, R.h4, (fun _ => rfl)⟩⟩
            · have hfl : b6 = false := (ready_free hi).2
              have k0 : b0 = true := ready_dep hi rfl 0 rfl
              have k3 : b3 = true := ready_dep hi rfl 3 rfl
              have k5 : b5 = true := ready_dep hi rfl 5 rfl
              clear hi
              obtain rfl := HRR.out.h0 k0
              obtain rfl := HRR.out.h3 k3
              obtain rfl := HRR.out.h5 k5
              have hsz := HRR.out.kept.size
              have CP := Aside0.mk (put_calls (HRR.out.cac0 hfl) HCW.out.1 HCW.out.2 HNI.out (fun q hq => HFR.out q (Nat.le_trans hsz hq)) (Nat.le_trans HBS.out hsz))
              clear hsz
              refine wpOp_step rfl (fun K' hK => ?_)
              go_wp2_with (go_at_call 16; (with_reducible refine CP.out.mono ?_); rintro e w8 ⟨rfl, hk, hc⟩; have HX := Aside0.mk hk; have HY := Aside0.mk hc; clear hk hc)
              have R := HRR.out
              exact ⟨b0, b1, b2, b3, b4, b5, true, _, _, _, _, _, _, _, rfl, rfl, ⟨R.kept.trans HX.out, (fun h => by cases h), (fun _ => HY.out), R.box.kept HX.out (fun q => q.2 rfl), R.h0, R.h1, R.h2, R.h3, R.h4, R.h5⟩⟩
          case done =>
            rintro la a w' ⟨b0, b1, b2, b3, b4, b5, b6, a28, a29, a30, a31, a32, a33, a34, rfl, rfl, hR⟩ hi
            have hd := all_done rfl (by kernel_rfl) hi
            clear hi
            obtain rfl : b0 = true := hd 0 (by decide)
            obtain rfl : b1 = true := hd 1 (by decide)
            obtain rfl : b2 = true := hd 2 (by decide)
            obtain rfl : b3 = true := hd 3 (by decide)
            obtain rfl : b4 = true := hd 4 (by decide)
            obtain rfl : b5 = true := hd 5 (by decide)
            obtain rfl : b6 = true := hd 6 (by decide)
            have HRR := Aside0.mk hR
            clear hR hd
            dsimp only
            go_wp2
            go_meet
            case rel => exact ⟨⟨HRR.out.kept⟩, ⟨h, m, _, HRR.out.cac1 rfl, by rw [HTK.out]; exact HLA.out.put HCP.out.nodup HCP.out.len HP.out, fun _ hr => look_putP_same HCP.out.nodup hr _ _⟩⟩
      case rest =>
        clear HCn
        obtain ⟨HKT, HCQ⟩ := hcut
        obtain ⟨h, m, P, hc, hla, hpv⟩ := HCQ.out
        have HLA := Aside0.mk hla
        have HPV := Aside0.mk hpv
        have HBC : Aside0 (BoxC wc wr.heap.size c) := ⟨HBX.out.kept HKT.out (fun q => q.2 rfl)⟩
        have CL := Aside0.mk (len_calls hc)
        obtain ⟨lk, hlk⟩ : ∃ z, lookP P c.key = z := ⟨_, rfl⟩
        have CG := Aside0.mk (fun (W : World) (hW : Below wc.heap.size wc W) => get_calls (k := c.key) (hc.below hW) HCW.out.1 (fun q hq => HFR.out q (Nat.le_trans HKT.out.size (Nat.le_trans hW.size hq))) (Nat.le_trans HBS.out (Nat.le_trans HKT.out.size hW.size)))
        rw [hlk] at CG
        have HLK := Aside0.mk hlk
        have HLN : Aside0 ((P.length : Int) ≤ rm) := ⟨hc.len⟩
        clear hc hla hpv hlk HCQ
        go_upto_region 11 with (fail)
        go_cut [40] (fun v40 wx => v40 = .bool false ∧ wx = wc)
        case first =>
          have h1 := HLN.out
          have h2 := HRM.out
          go_wp2_with (go_at_call 18; (with_reducible refine CL.out.mono ?_); rintro e w8 ⟨rfl, rfl⟩)
          all_goals (go_meet; case rel => exact ⟨congrArg Value.bool (decide_eq_false (by omega)), rfl⟩)
        case rest =>
          clear CL
          obtain ⟨rfl, rfl⟩ := hcut
          obtain ⟨xb0, xb1, xb2, xb3, xb4⟩ := HBC.out.cells
          have HBW : Aside0 (RowKit.Below w.heap.size w wc) := ⟨HKT.out.below (fun q hq => hq.1) HBn.out HBS.out⟩
          go_upto_region 14 with (first | (go_at_call 17; (with_reducible refine (key_calls c.key _).mono ?_); rintro e w5 ⟨rfl, hb⟩; have HX := Aside0.mk hb; clear hb) | (go_at_call 19; (with_reducible refine (CG.out _ HX.out).mono ?_); rintro e w6 ⟨rfl, hk, hc⟩; have HB6 := Aside0.mk (hk.below (fun q hq => hq.1) (below_step HBW.out HX.out) (Nat.le_trans HBS.out (Nat.le_trans HKT.out.size HX.out.size))); have HX6 : Aside0 (BoxC w6 wr.heap.size c) := ⟨(HBC.out.below HX.out).kept hk (fun q => q.2 rfl)⟩; have HC6 : Aside0 (∃ h m, CacP w6 w.heap.size (fun q => w.heap.size ≤ q) g rm h m (getP P c.key) (i + 1)) := ⟨_, _, hc.mono (fun q _ ho => ho.1)⟩; clear hk hc CG))
          clear HX HBW HBC xb0 xb1 xb2 xb3 xb4
          obtain ⟨xb0, xb1, xb2, xb3, xb4⟩ := HX6.out.cells
          have HCE : Aside0 (∃ h m P, CacP w6 w.heap.size (fun q => w.heap.size ≤ q) g rm h m P (i + 1) ∧ Last (l.take (i + 1)) P) := ⟨by
            obtain ⟨h, m, hc⟩ := HC6.out
            exact ⟨h, m, _, hc, HLA.out.get c.key⟩⟩
          go_cut [64] (fun v64 wx => v64 = .bool false ∧ wx = w6)
          case first =>
            cases hp : c.put with
            | false =>
              rw [hp] at xb0
              clear hp
              go_wp2
              go_meet
              case rel => exact ⟨rfl, rfl⟩
            | true =>
              have hpv := HPV.out hp
              rw [hp] at xb0
              clear hp
              by_cases hr : 0 < room
              · have dr : decide (0 < room) = true := decide_eq_true hr
                have hrm : rm ≠ 0 := by have := HRM.out; omega
                have hl2 := hpv hrm
                rw [HLK.out] at hl2
                subst hl2
                clear hpv hr hrm
                go_wp2
                go_meet
                case rel => exact ⟨rfl, rfl⟩
              · have dr : decide (0 < room) = false := decide_eq_false hr
                clear hpv hr
                go_wp2
                go_meet
                case rel => exact ⟨rfl, rfl⟩
          case rest =>
            obtain ⟨rfl, rfl⟩ := hcut
            clear xb0 xb1 xb2 xb3 xb4
            cases lk with
            | none =>
              go_wp2
              go_roundg k1
              case measure => exact Nat.lt_succ_self _
              case rel => exact ⟨i + 1, rfl, HI1, HB6, HCE⟩
            | some v =>
              have HLV : Aside0 (lastPut (l.take (i + 1)) c.key = some v) := ⟨HLA.out _ _ HLK.out⟩
              go_upto_region 19 with (fail)
              go_loopg [10, 11] (i + 2) (fun kq v10 v11 w' => ∃ (f : Bool) (mm : Nat), v10 = .bool f ∧ v11 = .int .i64 ((mm : Int) - 1) ∧ Aside0 (mm ≤ i + 1 ∧ kq = mm + 1 ∧ (f = false → lastPut (l.take mm) c.key = some v)) ∧ Aside0 (Below w.heap.size w w') ∧ Aside0 (∃ h m P, CacP w' w.heap.size (fun q => w.heap.size ≤ q) g rm h m P (i + 1) ∧ Last (l.take (i + 1)) P) ∧ Aside0 (BoxC w' wr.heap.size c))
              case atStart =>
                refine ⟨false, i + 1, rfl, ?_, ⟨Nat.le_refl _, rfl, fun _ => HLV.out⟩, HB6, HCE, HX6⟩
                show Value.int .i64 (i : Int) = .int .i64 (((i + 1 : Nat) : Int) - 1)
                congr 1
                omega
              case round =>
                clear HB6 HCE HX6
                obtain ⟨f, mm, rfl, rfl, HJ, HB6, HCE, HX6⟩ := hrel
                obtain ⟨hm1, hm2, hm3⟩ := HJ.out
                cases f with
                | true =>
                  clear HJ hm1 hm2 hm3
                  go_wp2
                  all_goals (
                    go_roundg k1
                    case measure => exact Nat.lt_succ_self _
                    case rel => exact ⟨i + 1, rfl, HI1, HB6, HCE⟩)
                | false =>
                  have hm4 := hm3 rfl
                  cases mm with
                  | zero => cases hm4
                  | succ q =>
                    have hql : q < l.length := by have := HIL.out; omega
                    obtain ⟨c2, hc2⟩ : ∃ c2, rdC l q = c2 := ⟨_, rfl⟩
                    have hm5 : lastPut (l.take q ++ [c2]) c.key = some v := by rw [← hc2, ← take_rdC hql]; exact hm4
                    rw [lastPut_snoc] at hm5
                    have HM5 := Aside0.mk hm5
                    have HQ : Aside0 (q ≤ i + 1 ∧ gk = q + 1 + 1) := ⟨by omega, hm2⟩
                    have ej : ((q + 1 : Nat) : Int) - 1 = (q : Int) := by omega
                    rw [ej]
                    have dz : decide ((0 : Int) ≤ (q : Int)) = true := decide_eq_true (by omega)
                    have cq0 : (0 : Int) ≤ (q : Int) := by omega
                    have cq1 : (q : Int) < (l.length : Int) := by omega
                    have ws : IntKind.i64.wrap ((q : Int) - 1) = (q : Int) - 1 := by have := HLL.out; rw [i64_w]; unfold wrap64; omega
                    obtain ⟨ad2, had, ys0, ys1, ys2, ys3, ys4⟩ := at_C5 (Kd.C_below HRR0.out HB6.out) q hql
                    injection had with had
                    subst had
                    rw [hc2] at ys0 ys1 ys2 ys3 ys4
                    obtain ⟨xb0, xb1, xb2, xb3, xb4⟩ := HX6.out.cells
                    have zs0 := cell_regrown ys0
                    have zs1 := cell_regrown ys1
                    have zs2 := cell_regrown ys2
                    have zs3 := cell_regrown ys3
                    have zb1 := cell_regrown xb1
                    have zb2 := cell_regrown xb2
                    have zb3 := cell_regrown xb3
                    clear HJ hm1 hm2 hm3 hm4 hm5 hql hc2 ej ys0 ys1 ys2 ys3 xb0 xb1 xb2 xb3 xb4
                    go_upto_region 21 with (fail)
                    have zs4 := cell_regrown ys4
                    clear ys4
                    cases hp : c2.put with
                    | false =>
                      have HN5 : Aside0 (lastPut (l.take q) c.key = some v) := ⟨by have h5 := HM5.out; rw [if_neg (fun e => by rw [hp] at e; cases e.1)] at h5; exact h5⟩
                      clear HM5
                      rw [hp] at zs0
                      clear hp
                      refine wp_region_quiet_below (by kernel_rfl) (by kernel_rfl) ?_
                      repeat (go_big_quiet_step (fail))
                      refine wpQuiet_nil ?_
                      intro _ hw'
                      obtain ⟨⟨d7, o7⟩, hw''⟩ := hw'
                      subst hw''
                      dsimp only at *
                      have HBz := Aside0.mk (below_step HB6.out (below_regrown _ d7 o7))
                      have HXz := Aside0.mk (HX6.out.below (below_regrown _ d7 o7))
                      have HCz : Aside0 (∃ h m P, CacP (grow (redrawn wr d7) o7) w.heap.size (fun q => w.heap.size ≤ q) g rm h m P (i + 1) ∧ Last (l.take (i + 1)) P) := ⟨by obtain ⟨h, m, P, hc, hl⟩ := HCE.out; exact ⟨h, m, P, hc.below (below_regrown _ d7 o7), hl⟩⟩
                      clear zs0 zs1 zs2 zs3 zs4 zb1 zb2 zb3 HB6 HX6 HCE
                      generalize (grow (redrawn wr d7) o7) = W7 at HBz HXz HCz ⊢
                      go_wp2
                      go_roundg (q + 1)
                      case measure => have := HQ.out.2; omega
                      case rel => exact ⟨false, q, rfl, rfl, ⟨HQ.out.1, rfl, fun _ => HN5.out⟩, HBz, HCz, HXz⟩
                    | true =>
                      by_cases hk : c2.key = c.key
                      · have hv : c2.val = v := by have h5 := HM5.out; rw [if_pos ⟨hp, hk⟩] at h5; exact Option.some.inj h5
                        have he : (c2.key.f0 == c.key.f0 && (c2.key.f1 == c.key.f1 && c2.key.f2 == c.key.f2)) = true := by rw [hk]; simp
                        rw [hv] at zs4
                        clear HM5 hk hv
                        rw [hp] at zs0
                        clear hp
                        refine wp_region_quiet_below (by kernel_rfl) (by kernel_rfl) ?_
                        repeat (go_big_quiet_step (fail))
                        refine wpQuiet_nil ?_
                        intro _ hw'
                        obtain ⟨⟨d7, o7⟩, hw''⟩ := hw'
                        subst hw''
                        dsimp only at *
                        have HBz := Aside0.mk (below_step HB6.out (below_regrown _ d7 o7))
                        have HXz := Aside0.mk (HX6.out.below (below_regrown _ d7 o7))
                        have HCz : Aside0 (∃ h m P, CacP (grow (redrawn wr d7) o7) w.heap.size (fun q => w.heap.size ≤ q) g rm h m P (i + 1) ∧ Last (l.take (i + 1)) P) := ⟨by obtain ⟨h, m, P, hc, hl⟩ := HCE.out; exact ⟨h, m, P, hc.below (below_regrown _ d7 o7), hl⟩⟩
                        have yv := zs4 d7 o7
                        clear zs0 zs1 zs2 zs3 zs4 zb1 zb2 zb3 HB6 HX6 HCE
                        generalize (grow (redrawn wr d7) o7) = W7 at HBz HXz HCz yv ⊢
                        have nv : (v != v) = false := by simp
                        go_wp2
                        go_roundg (q + 1)
                        case measure => have := HQ.out.2; omega
                        case rel => exact ⟨true, q, rfl, rfl, ⟨HQ.out.1, rfl, fun h => by cases h⟩, HBz, HCz, HXz⟩
                      · have HN5 : Aside0 (lastPut (l.take q) c.key = some v) := ⟨by have h5 := HM5.out; rw [if_neg (fun e => hk e.2)] at h5; exact h5⟩
                        have he : (c2.key.f0 == c.key.f0 && (c2.key.f1 == c.key.f1 && c2.key.f2 == c.key.f2)) = false := by
                          rw [Bool.eq_false_iff]
                          intro e
                          simp only [Bool.and_eq_true, beq_iff_eq] at e
                          apply hk
                          revert e
                          generalize c2.key = y
                          generalize c.key = z
                          intro e
                          cases y; cases z
                          simp at e
                          simp [e]
                        clear HM5 hk
                        rw [hp] at zs0
                        clear hp
                        refine wp_region_quiet_below (by kernel_rfl) (by kernel_rfl) ?_
                        repeat (go_big_quiet_step (fail))
                        refine wpQuiet_nil ?_
                        intro _ hw'
                        obtain ⟨⟨d7, o7⟩, hw''⟩ := hw'
                        subst hw''
                        dsimp only at *
                        have HBz := Aside0.mk (below_step HB6.out (below_regrown _ d7 o7))
                        have HXz := Aside0.mk (HX6.out.below (below_regrown _ d7 o7))
                        have HCz : Aside0 (∃ h m P, CacP (grow (redrawn wr d7) o7) w.heap.size (fun q => w.heap.size ≤ q) g rm h m P (i + 1) ∧ Last (l.take (i + 1)) P) := ⟨by obtain ⟨h, m, P, hc, hl⟩ := HCE.out; exact ⟨h, m, P, hc.below (below_regrown _ d7 o7), hl⟩⟩
                        clear zs0 zs1 zs2 zs3 zs4 zb1 zb2 zb3 HB6 HX6 HCE
                        generalize (grow (redrawn wr d7) o7) = W7 at HBz HXz HCz ⊢
                        go_wp2
                        go_roundg (q + 1)
                        case measure => have := HQ.out.2; omega
                        case rel => exact ⟨false, q, rfl, rfl, ⟨HQ.out.1, rfl, fun _ => HN5.out⟩, HBz, HCz, HXz⟩
    · have cb : decide (i < l.length) = false := decide_eq_false hi
      clear hik hi HI
      go_wp2
      go_ret
      exact ⟨rfl, HB.out⟩
theorem holds_law {room : Int} {A : Option Addr} {c0 : Nat} {l : List C5} {w : World} (hc0 : l.length ≤ c0) (hr0 : Kd.C kC w A l.length l) (hok : okCalls l) (hw : (Lit.int .i64 room).wf = true) : Calls Try.prog 5 #[.int .i64 room, .slice A l.length c0] w fun e w' => e = .returned (.bool true) ∧ Below w.heap.size w w' := holds_walk hc0 hr0 hok
end Go.Proofs.Ytlpbfhbfaphicaa.C19
