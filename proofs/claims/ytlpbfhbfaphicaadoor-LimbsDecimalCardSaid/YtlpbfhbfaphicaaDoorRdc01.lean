/- Layer 1: the document's Decimal, walked. -/
import Derived.Test.YtlpbfhbfaphicaaDoorDcr01
import Derived.Test.YtlpbfhbfaphicaaDoorLess01
namespace Go.Proofs.YtlpbfhbfaphicaaDoor.L01
open Go Go.RowKit Go.Lib Go.Sort Go.Proofs.YtlpbfhbfaphicaaDoorW.PrintWords Go.Proofs.YtlpbfhbfaphicaaDoorW.PrintLast Go.Proofs.YtlpbfhbfaphicaaDoorW.PrintMore Go.Proofs.YtlpbfhbfaphicaaDoor.Given Go.Proofs.YtlpbfhbfaphicaaDoor.M Go.Proofs.YtlpbfhbfaphicaaDoor.XB

set_option linter.unusedVariables false
theorem lv_8 (a : Addr) (w : World) : (loadVar 5 a).run Tryd.prog w = (load a).run Tryd.prog w := by simp [loadVar, Result.andThen]
theorem sv_8 (a : Addr) (k : IntKind) (n : Int) (w : World) : (storeVar 5 a (.int k n)).run Tryd.prog w = (storeCells a [.int k n] 0).run Tryd.prog w := by simp [storeVar, Value.cells, Result.andThen]
def dI (l : List Nat) : List Int := l.map fun (d : Nat) => (d : Int)
theorem dI_len (l : List Nat) : (dI l).length = l.length := List.length_map _
theorem dI_app (a b : List Nat) : dI (a ++ b) = dI a ++ dI b := List.map_append
abbrev k8 : Kd Int := Kd.int .u8
/-- A row of digits in block g. -/
abbrev RD (w : World) (base g cp : Nat) (l : List Nat) : Prop := k8.R 5 w base (fun k => k ≠ base) (.slice (some ⟨g, 0, none⟩) l.length cp) (dI l)
theorem RD.cell {w : World} {base g cp : Nat} {l : List Nat} (h : RD w base g cp l) {j d : Nat} (hj : l[j]? = some d) : w.cell? ⟨g, j, none⟩ = some (.int .u8 (d : Int)) ∧ w.frozen? ⟨g, j, none⟩ = false := by
  have hl : j < l.length := (List.getElem?_eq_some_iff.1 hj).1
  have h2 := Kd.R_celln (0 : Int) h (j : Int) (by omega) (by omega)
  rw [Int.toNat_natCast] at h2
  have e : rdOf (0 : Int) (dI l) (j : Int) = (d : Int) := by
    unfold rdOf dI
    rw [Int.toNat_natCast, List.getD_eq_getElem?_getD, List.getElem?_map, hj]
    rfl
  rw [e] at h2
  exact h2
theorem RD.put {w : World} {base g cp : Nat} {l : List Nat} (h : RD w base g cp l) (j d : Nat) : RD (w.setCell ⟨g, j, none⟩ (.int .u8 (d : Int))) base g cp (l.set j d) := by
  have h2 := Kd.R_putn h (j : Int) (d : Int)
  rw [Int.toNat_natCast] at h2
  have e : (dI l).set j (d : Int) = dI (l.set j d) := by
    unfold dI
    rw [List.map_set]
  rw [e] at h2
  show k8.R _ _ _ _ (.slice (some ⟨g, 0, none⟩) (l.set j d).length cp) _
  rw [List.length_set]
  exact h2
theorem RD.below {w w1 : World} {base g cp : Nat} {l : List Nat} (h : RD w base g cp l) (hb : Below w.heap.size w w1) : RD w1 base g cp l := Kd.R_below h hb
theorem RD.new {w : World} {base g d : Nat} (h : w.heap[g]? = some (.cells #[.int .u8 (d : Int)] 5 (0, 0))) (hb : base ≤ g) (hne : g ≠ base) : RD w base g 1 [d] := by
  refine Kd.R_of_own (xs := dI [d]) ⟨rfl, .inr ⟨g, 1, #[.int .u8 (d : Int)], rfl, hb, h, Nat.le_refl _, by decide, rfl, rfl⟩⟩ ?_
  intro k hk
  have : g = k := by simpa [Value.ownBlock] using hk
  rw [← this]
  exact hne
theorem RD.ne {w : World} {base g cp : Nat} {l : List Nat} (h : RD w base g cp l) : g ≠ base := h.1 g rfl
theorem RD.lt {w : World} {base g cp : Nat} {l : List Nat} (h : RD w base g cp l) : base ≤ g ∧ g < w.heap.size := ⟨Kd.R_base h g rfl, Kd.R_lt h g rfl⟩
theorem u8_id (x : Int) (h0 : 0 ≤ x) (h1 : x ≤ 255) : IntKind.u8.wrap x = x := by
  simp [IntKind.wrap, IntKind.bits, IntKind.signed]
  omega
theorem info8 : (Tryd.prog.info? 5).map (fun i => (i.zero, i.size, i.bytes)) = some (some (.int .u8 0), 1, 1) := by kernel_rfl
theorem conv1 {w : World} {g d : Nat} (hd : d < 10) (h : w.heap[g]? = some (.cells #[.int .u8 (48 + (d : Int))] 5 (0, 0))) : (convert 62 9 (.slice (some ⟨g, 0, none⟩) 1 1)).run Tryd.prog w = .ok (.string (txt [UInt8.ofNat (48 + d)])) w := by
  have ht : ((UInt8.ofNat (48 + d)).toNat : Int) = 48 + (d : Int) := by
    have : (UInt8.ofNat (48 + d)).toNat = 48 + d := by
      rw [UInt8.toNat_ofNat']
      omega
    rw [this]
    omega
  refine run_convert_bytes_back w 62 9 5 ⟨g, 0, none⟩ 1 [UInt8.ofNat (48 + d)] Tryd.underlying62 Tryd.underlying5 Tryd.underlying9 ?_
  intro j hj
  have hj0 : j = 0 := by simpa using hj
  subst hj0
  have h2 := blk_cell h 0
  show w.cell? ⟨g, 0, none⟩ = some (.int .u8 ((UInt8.ofNat (48 + d)).toNat : Int))
  rw [ht, h2]
  rfl
attribute [-go_sem] loadVar storeVar
attribute [local go_sem] lv_u lv_i lv_b lv_3 lv_T sv_u sv_i sv_b sv_3 sv_T lv_8 sv_8
set_option maxHeartbeats 4000000 in
set_option maxRecDepth 100000 in
theorem refdec_calls {N : Nat} (hN : N < 2 ^ 256) (w : World) : Calls Tryd.prog 12 #[TB (bt N)] w fun e w' => e = .returned (.string (txt (Lib.decDigits N))) ∧ Below w.heap.size w w' := by
  have HN := Aside0.mk hN
  clear hN
  go_enter Tryd.func12, Tryd.ntmps12
  go_upto_region 3 with (fail)
  have HB : Aside0 (Below w.heap.size w ((w.alloc (Obj.cells (bA (bt N)) 29)).alloc (Obj.cells #[.int .u8 0] 5))) := ⟨below_alloc (below_alloc (Below.refl _ _) _) _⟩
  have HX : Aside0 (BoxB ((w.alloc (Obj.cells (bA (bt N)) 29)).alloc (Obj.cells #[.int .u8 0] 5)) w.heap.size (bt N)) := ⟨(BoxB.new w _).alloc _⟩
  have HR : Aside0 (RD ((w.alloc (Obj.cells (bA (bt N)) 29)).alloc (Obj.cells #[.int .u8 0] 5)) w.heap.size (w.heap.size + 1) 1 [0]) := ⟨RD.new (d := 0) (by
    have e : w.heap.size + 1 = (w.alloc (Obj.cells (bA (bt N)) 29)).heap.size := (World.size_alloc _ _).symm
    rw [e]
    exact blk_new _ _) (Nat.le_succ _) (by omega)⟩
  generalize ((w.alloc (Obj.cells (bA (bt N)) 29)).alloc (Obj.cells #[.int .u8 0] 5)) = W0 at HB HX HR ⊢
  go_loopg [3, 4] 257 (fun kq v3 v4 w' => ∃ (k g cp : Nat), v3 = .slice (some ⟨g, 0, none⟩) (dg (N / 2 ^ k)).length cp ∧ v4 = .int .i64 ((k : Int) - 1) ∧ Aside0 (k ≤ 256 ∧ kq = k + 1) ∧ Aside0 (Below w.heap.size w w') ∧ Aside0 (BoxB w' w.heap.size (bt N)) ∧ Aside0 (RD w' w.heap.size g cp (dg (N / 2 ^ k))))
  case atStart =>
    have e0 : dg (N / 2 ^ 256) = [0] := by rw [Nat.div_eq_of_lt HN.out, dg_one (by decide)]
    exact ⟨256, w.heap.size + 1, 1, by rw [e0]; rfl, rfl, ⟨Nat.le_refl _, rfl⟩, HB, HX, ⟨by rw [e0]; exact HR.out⟩⟩
  case round =>
    clear HB HX HR
    obtain ⟨k, g, cp, rfl, rfl, HI, HB, HX, HR⟩ := hrel
    cases k with
    | zero =>
      have e0 : N / 2 ^ 0 = N := by rw [Nat.pow_zero, Nat.div_one]
      rw [e0] at HR
      rw [e0]
      have hlen := dg_len 77 N (Nat.lt_trans HN.out (by decide))
      have HLN := Aside0.mk hlen
      clear e0 hlen HI
      go_upto_region 19 with (fail)
      go_loopg [8, 47] ((dg N).length + 1) (fun kq v8 v47 w' => ∃ (j : Nat) (t9 : ByteArray), v8 = .string t9 ∧ v47 = .int .i64 (j : Int) ∧ Aside0 (t9 = txt (((dg N).take j).map fun d => UInt8.ofNat (48 + d)).reverse) ∧ Aside0 (j ≤ (dg N).length ∧ j + kq = (dg N).length + 1) ∧ Aside0 (Below w.heap.size w w') ∧ Aside0 (RD w' w.heap.size g cp (dg N)))
      case atStart => exact ⟨0, _, rfl, rfl, ⟨rfl⟩, ⟨Nat.zero_le _, Nat.zero_add _⟩, HB, HR⟩
      case round =>
        clear HB HX HR
        obtain ⟨j, t9, rfl, rfl, HT9, HJ, HB, HR⟩ := hrel
        obtain ⟨hj1, hj2⟩ := HJ.out
        by_cases hj : j < (dg N).length
        · have cj : decide (j < (dg N).length) = true := decide_eq_true hj
          have cj0 : (0 : Int) ≤ (j : Int) := Int.natCast_nonneg _
          have cj1 : (j : Int) < ((dg N).length : Int) := by omega
          obtain ⟨d, hd⟩ : ∃ d, (dg N)[j]? = some d := ⟨_, List.getElem?_eq_getElem hj⟩
          have hd10 : d < 10 := dg_lt N d (List.mem_of_getElem? hd)
          obtain ⟨hcx, hfx⟩ := RD.cell HR.out hd
          have u1 : IntKind.u8.wrap (48 + (d : Int)) = 48 + (d : Int) := u8_id _ (by omega) (by omega)
          have hcv := conv1 (w := wr.alloc (Obj.cells #[.int .u8 (48 + (d : Int))] 5)) (g := wr.heap.size) hd10 (blk_new _ _)
          have wj : IntKind.i64.wrap ((j : Int) + 1) = ((j + 1 : Nat) : Int) := by have := HLN.out.1; rw [i64_w]; unfold wrap64; omega
          obtain ⟨s9, hs9⟩ : ∃ s9, txt [UInt8.ofNat (48 + d)] = s9 := ⟨_, rfl⟩
          have HTK : Aside0 (s9 ++ t9 = txt (((dg N).take (j + 1)).map fun d => UInt8.ofNat (48 + d)).reverse) := ⟨by
            rw [← hs9, HT9.out, txt_add, List.take_add_one, hd]
            simp⟩
          have hsz : s9.size + t9.size ≤ 9223372036854775807 := by
            have h1 := HLN.out.1
            rw [← hs9, HT9.out, txt_size, txt_size, List.length_reverse, List.length_map, List.length_take]
            show 1 + min j (dg N).length ≤ _
            omega
          rw [hs9] at hcv
          clear hs9
          obtain ⟨k1, rfl⟩ : ∃ k1, gk = k1 + 1 := ⟨gk - 1, by omega⟩
          have HJn : Aside0 (j + 1 ≤ (dg N).length ∧ j + 1 + k1 = (dg N).length + 1) := ⟨by omega, by omega⟩
          have HBn : Aside0 (Below w.heap.size w (wr.alloc (Obj.cells #[.int .u8 (48 + (d : Int))] 5))) := ⟨below_alloc HB.out _⟩
          have HRn : Aside0 (RD (wr.alloc (Obj.cells #[.int .u8 (48 + (d : Int))] 5)) w.heap.size g cp (dg N)) := ⟨RD.below HR.out (below_alloc (Below.refl _ _) _)⟩
          clear hj hj1 hj2 hd hd10 HJ HB HR
          go_wp2
          go_roundg k1
          case measure => exact Nat.lt_succ_self _
          case rel => exact ⟨j + 1, _, rfl, rfl, HTK, HJn, HBn, HRn⟩
        · have cj : decide (j < (dg N).length) = false := decide_eq_false hj
          have hje : (dg N).take j = dg N := List.take_of_length_le (by omega)
          have HJE := Aside0.mk hje
          clear hj hj1 hj2 HJ hje HLN
          go_wp2
          go_ret
          refine ⟨?_, HB.out⟩
          rw [dg_dec, ← HJE.out, ← HT9.out]
          rfl
    | succ k =>
      obtain ⟨hk, hk1⟩ := HI.out
      obtain rfl : gk = k + 1 + 1 := hk1
      have ej : ((k + 1 : Nat) : Int) - 1 = (k : Int) := by omega
      rw [ej]
      have dz : decide ((0 : Int) ≤ (k : Int)) = true := decide_eq_true (by omega)
      have p3 : (0 : Int) ≤ (k : Int) := Int.natCast_nonneg _
      have p4 : (k : Int) < 256 := by omega
      have ws : IntKind.i64.wrap ((k : Int) - 1) = (k : Int) - 1 := by rw [i64_w]; unfold wrap64; omega
      obtain ⟨hcf, hff⟩ := HX.out.cell (show k < 256 by omega)
      obtain ⟨n, hn⟩ : ∃ n, N / 2 ^ (k + 1) = n := ⟨_, rfl⟩
      have hdb := div_bit N k
      rw [hn] at hdb HR
      rw [hn]
      have HDB := Aside0.mk hdb
      have hlen := dg_len 77 n (by rw [← hn]; exact Nat.lt_of_le_of_lt (Nat.div_le_self _ _) (Nat.lt_trans HN.out (by decide)))
      have HLN := Aside0.mk hlen
      have HKK : Aside0 (k ≤ 256) := ⟨by omega⟩
      clear hk ej HI hdb hlen hn
      go_upto_if 18 with (fail)
      obtain ⟨c0, hc0⟩ : ∃ c0 : Nat, (if bt N k = true then 1 else 0) = c0 := ⟨_, rfl⟩
      have hc01 : c0 ≤ 1 := by rw [← hc0]; split <;> omega
      have HC01 := Aside0.mk hc01
      have HC0 := Aside0.mk hc0
      clear hc01
      go_cut [5] (fun v5 wx => v5 = .int .u8 (c0 : Int) ∧ wx = wr)
      case first =>
        cases hb : bt N k with
        | false =>
          rw [hb] at hc0
          obtain rfl : c0 = 0 := hc0.symm
          clear hb hc0 HC0
          go_wp2
          go_meet
          case rel => exact ⟨rfl, rfl⟩
        | true =>
          rw [hb] at hc0
          obtain rfl : c0 = 1 := hc0.symm
          clear hb hc0 HC0
          go_wp2
          go_meet
          case rel => exact ⟨rfl, rfl⟩
      case rest =>
        obtain ⟨rfl, rfl⟩ := hcut
        clear hc0 hcf hff
        go_upto_region 9 with (fail)
        have HSH : Aside0 ((dg n).length = (dg n).length) := ⟨rfl⟩
        go_loopg [5, 21] ((dg n).length + 1) (fun kq v5 v21 w' => ∃ (j c : Nat) (done rest : List Nat), v5 = .int .u8 (c : Int) ∧ v21 = .int .i64 (j : Int) ∧ Aside0 (done.length = j ∧ c ≤ 1 ∧ (∀ d ∈ rest, d < 10) ∧ kq = rest.length + 1 ∧ j + rest.length = (dg n).length ∧ dbl c0 (dg n) = (done ++ (dbl c rest).1, (dbl c rest).2)) ∧ Aside0 (Below w.heap.size w w') ∧ Aside0 (BoxB w' w.heap.size (bt N)) ∧ Aside0 (RD w' w.heap.size g cp (done ++ rest)))
        case atStart => exact ⟨0, c0, [], dg n, rfl, rfl, ⟨rfl, HC01.out, dg_lt n, rfl, by omega, rfl⟩, HB, HX, HR⟩
        case round =>
          clear HB HX HR
          obtain ⟨j, c, done, rest, rfl, rfl, HJ, HB, HX, HR⟩ := hrel
          obtain ⟨hj1, hj2, hj3, hj4, hj5, hj6⟩ := HJ.out
          cases rest with
          | nil =>
            have hjl : j = (dg n).length := by simpa using hj5
            have cj : decide (j < (dg n).length) = false := decide_eq_false (by omega)
            have hdd := dbl_dg n c0 HC01.out
            have hdn : dbl c0 (dg n) = (done, c) := by rw [hj6]; show (done ++ [], c) = _; rw [List.append_nil]
            rw [hdn] at hdd
            have hnk : 2 * n + c0 = N / 2 ^ k := by rw [HDB.out, ← HC0.out]
            rw [hnk] at hdd
            have hdl : done.length = (dg n).length := by omega
            have HRd : Aside0 (k8.R 5 wr w.heap.size (fun q => q ≠ w.heap.size) (.slice (some ⟨g, 0, none⟩) (dg n).length cp) (dI done)) := ⟨by
              have h := HR.out
              rw [List.append_nil] at h
              rw [← hdl]
              exact h⟩
            have hc : c = 0 ∨ c = 1 := by omega
            rcases hc with rfl | rfl
            · have hde : done = dg (N / 2 ^ k) := by
                have h := hdd.2
                rw [if_neg (Nat.lt_irrefl 0)] at h
                exact h
              have HDE := Aside0.mk hde
              have HDL := Aside0.mk hdl
              clear HJ hj1 hj2 hj3 hj4 hj5 hj6 hdd hdn hnk hdl hde hjl HR
              go_wp2
              go_roundg (k + 1)
              case measure => exact Nat.lt_succ_self _
              case rel =>
                refine ⟨k, g, cp, ?_, rfl, ⟨HKK.out, rfl⟩, HB, HX, ⟨?_⟩⟩
                · rw [← HDE.out, HDL.out]
                · have h := HRd.out
                  rw [← HDL.out, HDE.out] at h
                  exact h
            · have hde : done ++ [1] = dg (N / 2 ^ k) := by
                have h := hdd.2
                rw [if_pos (Nat.lt_succ_self 0)] at h
                exact h
              have HDE := Aside0.mk hde
              have HDL := Aside0.mk hdl
              clear HJ hj1 hj2 hj3 hj4 hj5 hj6 hdd hdn hnk hdl hde hjl HR
              go_wp2_with ((with_reducible refine gate_builtin (b := .append) (xs := #[.tmp 41, .tmp 43]) rfl ?_); at_builtin; (refine Kd.R_append k8 (w0 := w) w.heap.size rfl (.tmp 41) (.tmp 43) 62 5 (.int .u8 0) 1 rfl Tryd.underlying62 info8 rfl (by decide) (by decide) _ (dI done) (1 : Int) [.int .u8 1] (fun q => q ≠ w.heap.size) (fun _ => False) rfl rfl ?aP ?aK ?aF ?aO ?aB ?aS ?aL ?_); (case aP => exact rfl); (case aK => exact fun q hq => hq.elim); (case aF => exact fun q hq => (by have := HB.out.size; have := HX.out.lt; omega)); (case aO => exact HRd.out); (case aB => exact HB.out); (case aS => exact HB.out.size); (case aL => rw [dI_len, HDL.out]; have := HLN.out.1; omega); intro v1 w6 ho hb hg hat; have HO6 := Aside0.mk ho; have HB6 := Aside0.mk hb; have HG6 := Aside0.mk hg; clear ho hb hg hat)
              have ho := HO6.out
              have e1 : dI done ++ [(1 : Int)] = dI (dg (N / 2 ^ k)) := by rw [← HDE.out, dI_app]; rfl
              rw [e1] at ho
              obtain ⟨g2, cp2, hv1, _, _, _⟩ := Kd.R_form ho (by rw [← e1, List.length_append]; simp)
              rw [dI_len] at hv1
              subst hv1
              have HO7 := Aside0.mk ho
              clear ho e1
              go_roundg (k + 1)
              case measure => exact Nat.lt_succ_self _
              case rel => exact ⟨k, g2, cp2, rfl, rfl, ⟨HKK.out, rfl⟩, HB6, ⟨blk_grown HX.out HG6.out (fun e => HRd.out.1 g rfl (Option.some.inj e).symm)⟩, HO7⟩
          | cons d r =>
            have hd : d < 10 := hj3 d List.mem_cons_self
            have hjl : j < (dg n).length := by rw [List.length_cons] at hj5; omega
            have cj : decide (j < (dg n).length) = true := decide_eq_true hjl
            have cj0 : (0 : Int) ≤ (j : Int) := Int.natCast_nonneg _
            have cj1 : (j : Int) < ((dg n).length : Int) := by omega
            have hget : (done ++ d :: r)[j]? = some d := by rw [List.getElem?_append_right (by omega), hj1, Nat.sub_self]; rfl
            obtain ⟨hcx, hfx⟩ := RD.cell HR.out hget
            obtain ⟨x, hx⟩ : ∃ x : Nat, x = 2 * d + c := ⟨_, rfl⟩
            obtain ⟨y, hy⟩ : ∃ y : Nat, y = x % 10 := ⟨_, rfl⟩
            obtain ⟨z, hz⟩ : ∃ z : Nat, z = x / 10 := ⟨_, rfl⟩
            have u1 : IntKind.u8.wrap (2 * (d : Int)) = 2 * (d : Int) := u8_id _ (by omega) (by omega)
            have u2 : IntKind.u8.wrap (2 * (d : Int) + (c : Int)) = (x : Int) := by rw [u8_id _ (by omega) (by omega)]; omega
            have u3 : Int.tmod (x : Int) 10 = (y : Int) := by rw [hy]; exact (Int.ofNat_tmod x 10).symm
            have u4 : Int.tdiv (x : Int) 10 = (z : Int) := by rw [hz]; exact (Int.ofNat_tdiv x 10).symm
            have u5' : IntKind.u8.wrap (y : Int) = (y : Int) := u8_id _ (by omega) (by omega)
            have u6' : IntKind.u8.wrap (z : Int) = (z : Int) := u8_id _ (by omega) (by omega)
            have wj : IntKind.i64.wrap ((j : Int) + 1) = ((j + 1 : Nat) : Int) := by have := HLN.out.1; rw [i64_w]; unfold wrap64; omega
            have hset : (done ++ d :: r).set j y = (done ++ [y]) ++ r := by
              rw [List.set_append_right _ _ (by omega), hj1, Nat.sub_self, List.append_assoc]
              rfl
            have HRn : Aside0 (RD (wr.setCell ⟨g, j, none⟩ (.int .u8 (y : Int))) w.heap.size g cp ((done ++ [y]) ++ r)) := ⟨by rw [← hset]; exact RD.put HR.out j y⟩
            have HXn : Aside0 (BoxB (wr.setCell ⟨g, j, none⟩ (.int .u8 (y : Int))) w.heap.size (bt N)) := ⟨HX.out.far (fun e => HR.out.ne e.symm) ⟩
            have HBn : Aside0 (Below w.heap.size w (wr.setCell ⟨g, j, none⟩ (.int .u8 (y : Int)))) := ⟨below_set HB.out HR.out.lt.1⟩
            have HJn : Aside0 ((done ++ [y]).length = j + 1 ∧ z ≤ 1 ∧ (∀ d ∈ r, d < 10) ∧ gk = r.length + 1 + 1 ∧ j + 1 + r.length = (dg n).length ∧ dbl c0 (dg n) = ((done ++ [y]) ++ (dbl z r).1, (dbl z r).2)) := ⟨by rw [List.length_append, hj1]; rfl, by omega, fun q hq => hj3 q (List.mem_cons_of_mem _ hq), by rw [hj4, List.length_cons], by rw [← hj5, List.length_cons]; omega, by
              rw [hj6, List.append_assoc]
              have e : dbl c (d :: r) = ((2 * d + c) % 10 :: (dbl ((2 * d + c) / 10) r).1, (dbl ((2 * d + c) / 10) r).2) := rfl
              rw [e, ← hx, ← hy, ← hz]
              rfl⟩
            clear HJ hj1 hj2 hj3 hj4 hj5 hj6 hd hjl hget hset hx hy hz HR HX HB
            go_wp2
            go_roundg (r.length + 1)
            case measure => have := HJn.out.2.2.2.1; omega
            case rel => exact ⟨j + 1, z, done ++ [y], r, rfl, rfl, ⟨HJn.out.1, HJn.out.2.1, HJn.out.2.2.1, rfl, HJn.out.2.2.2.2⟩, HBn, HXn, HRn⟩
end Go.Proofs.YtlpbfhbfaphicaaDoor.L01
