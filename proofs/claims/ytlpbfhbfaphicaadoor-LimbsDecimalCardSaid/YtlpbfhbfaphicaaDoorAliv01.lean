/- Layer 1: what the document tells of the least numbers (alive), walked. -/
import Derived.Test.YtlpbfhbfaphicaaDoorDec01
import Derived.Test.YtlpbfhbfaphicaaDoorThr01b
namespace Go.Proofs.YtlpbfhbfaphicaaDoor.L01
open Go Go.RowKit Go.Lib Go.Proofs.YtlpbfhbfaphicaaDoorW.PrintWords Go.Proofs.YtlpbfhbfaphicaaDoorW.PrintLast Go.Proofs.YtlpbfhbfaphicaaDoorW.PrintMore Go.Proofs.YtlpbfhbfaphicaaDoor.Given Go.Proofs.YtlpbfhbfaphicaaDoor.M

set_option linter.unusedVariables false
theorem dec_alive : Lib.decDigits 18446744073709551616 = [49, 56, 52, 52, 54, 55, 52, 52, 48, 55, 51, 55, 48, 57, 53, 53, 49, 54, 49, 54] := by
  simp [Lib.decDigits]
theorem neg_one {s : N3} {c : Int} (hs : s.ok) (h0 : 0 ≤ c) (h1 : c ≤ 1) (h : s.V - 6277101735386680763835789423207666416102355444464034512896 * c = -(⟨1, 0, 0⟩ : N3).V) : s = ⟨18446744073709551615, 18446744073709551615, 18446744073709551615⟩ := by
  obtain ⟨x, y, z⟩ := s
  obtain ⟨u0, u1, u2⟩ := hs
  unfold M.U at u0 u1 u2
  unfold N3.V at h
  dsimp only at *
  have : x = 18446744073709551615 ∧ y = 18446744073709551615 ∧ z = 18446744073709551615 := by omega
  obtain ⟨rfl, rfl, rfl⟩ := this
  rfl
set_option maxHeartbeats 1000000 in
set_option maxRecDepth 100000 in
theorem alive_calls (w : World) (htab : Tab w) : Calls Tryd.prog 10 #[] w fun e w' => e = .returned (.bool true) ∧ Below w.heap.size w w' := by
  have HT := Aside0.mk htab
  clear htab
  have CN : Aside0 (∀ W, Calls Tryd.prog 16 #[.agg #[.int .u64 1, .int .u64 0, .int .u64 0]] W fun e w' => e = .returned (.agg #[.int .u64 18446744073709551615, .int .u64 18446744073709551615, .int .u64 18446744073709551615]) ∧ Below W.heap.size W w') := ⟨fun W => by
    refine (neg_calls (a := ⟨1, 0, 0⟩) (by unfold N3.ok M.U; decide) W).mono ?_
    rintro e w' ⟨s, c, rfl, hb, hs, h0, h1, hv⟩
    rw [neg_one hs h0 h1 hv]
    exact ⟨rfl, hb⟩⟩
  have CI : Aside0 (∀ W, Calls Tryd.prog 17 #[.agg #[.int .u64 18446744073709551615, .int .u64 18446744073709551615, .int .u64 18446744073709551615]] W fun e w' => e = .returned (.tuple #[.int .i64 (-1), .bool true]) ∧ Below W.heap.size W w') := ⟨fun W => by
    refine (int_calls (a := ⟨18446744073709551615, 18446744073709551615, 18446744073709551615⟩) (by unfold N3.ok M.U; decide) W).mono ?_
    rintro e w' ⟨b, rfl, hb, hb2⟩
    have hw : wrap64 (18446744073709551615 : Int) = -1 := by unfold wrap64; omega
    have hbt : b = true := hb2.2 (by show _ = ofN (wrap64 18446744073709551615); rw [hw]; rfl)
    subst hbt
    refine ⟨?_, hb⟩
    show Ending.returned (.tuple #[.int .i64 (if true = true then wrap64 18446744073709551615 else 0), .bool true]) = _
    rw [if_pos rfl, hw]⟩
  have CD : Aside0 (∀ W, Tab W → Calls Tryd.prog 11 #[.agg #[.int .u64 0, .int .u64 1, .int .u64 0]] W fun e w' => e = .returned (.string { data := #[49, 56, 52, 52, 54, 55, 52, 52, 48, 55, 51, 55, 48, 57, 53, 53, 49, 54, 49, 54] }) ∧ Below W.heap.size W w') := ⟨fun W h => by
    refine (decimal_calls (a := ⟨0, 1, 0⟩) (by unfold N3.ok M.U; decide) W h).mono ?_
    rintro e w' ⟨rfl, hb⟩
    refine ⟨?_, hb⟩
    have : decS ⟨0, 1, 0⟩ = [49, 56, 52, 52, 54, 55, 52, 52, 48, 55, 51, 55, 48, 57, 53, 53, 49, 54, 49, 54] := dec_alive
    rw [this]
    rfl⟩
  go_enter Tryd.func10, Tryd.ntmps10
  go_wp2_with (first
    | (go_at_call 16; (with_reducible refine (CN.out _).mono ?_); rintro e w1 ⟨rfl, hb1⟩; have HB1 := Aside0.mk hb1; clear hb1)
    | (go_at_call 17; (with_reducible refine (CI.out _).mono ?_); rintro e w2 ⟨rfl, hb2⟩; have HB2 := Aside0.mk (below_step HB1.out hb2); clear hb2)
    | (go_at_call 11; (with_reducible refine (CD.out _ (tab_below HT.out HB2.out)).mono ?_); rintro e w3 ⟨rfl, hb3⟩; have HB3 := Aside0.mk (below_step HB2.out hb3); clear hb3))
  go_ret
  exact ⟨by first | rfl | (simp; done) | (go_simp; done), HB3.out⟩

end Go.Proofs.YtlpbfhbfaphicaaDoor.L01
