/- Parts of this claim's texts, packed by wip/tools/prune.py: what the proof does not reach is left out. -/
import Derived.Test.YtcphlhphdpjnfaaZP8
import Derived.Lib.LazyBuf
section
namespace Go.Proofs.Ytcphlhphdpjnfaa.Given04
open Go Go.RowKit Go.Proofs.YtcphlhphdpjnfaaW.PrintWords Go.Proofs.YtcphlhphdpjnfaaW.PrintLast Go.Proofs.YtcphlhphdpjnfaaW.PrintMore Go.Proofs.Ytcphlhphdpjnfaa.Given Go.Proofs.Ytcphlhphdpjnfaa.M Go.Proofs.Ytcphlhphdpjnfaa.Mont Go.Proofs.Ytcphlhphdpjnfaa.XS Go.Proofs.Ytcphlhphdpjnfaa.XT
def proof_Power.f (l : List S33) : Option (List S33) := if l.length ≤ 1000000 then some l else none
theorem proof_Power.calls (A0 : Option Addr) (c0 : Nat) (l : List S33) (r : List S33) (w : World) (hr0 : Kd.C k33 w A0 l.length l) (_hc0 : l.length ≤ c0) (h : proof_Power.f l = some r) :
    Calls Try.prog 32 #[.slice A0 l.length c0] w fun e w' => ∃ v0_ : Value, e = .returned v0_ ∧ Kd.R k33 33 w' w.heap.size (fun _ => True) v0_ r ∧ Below w.heap.size w w' := by
  unfold proof_Power.f at h
  split at h
  case isFalse => cases h
  rename_i hl
  obtain rfl := Option.some.inj h
  clear h
  have HR0 := Aside0.mk hr0
  have HL := Aside0.mk hl
  cases A0 with
  | none =>
    have hz : l = [] := by
      obtain ⟨_, _, hh⟩ := hr0
      cases l with
      | nil => rfl
      | cons x t => obtain ⟨ad, e, _⟩ := hh (by simp); cases e
    subst hz
    have hq : ∀ (w : World) (n c : Nat) (a : Option Addr), (binOp .eql 28 (.slice a n c) (.slice none 0 0)).run Try.prog w = .ok (.bool a.isNone) w := fun w n c a => run_eql_slice_nil w 28 33 a n c Try.underlying28
    clear hr0 hl
    go_enter Try.func32, Try.ntmps32
    go_wp2
    go_ret
    exact ⟨_, rfl, Kd.R_nil _ _ _ _ _, Below.refl _ _⟩
  | some ad =>
    have HK : ∀ x cs, k33.K (w.alloc (.cells #[] 33)) x cs → k33.M (w.alloc (.cells #[] 33)) w.heap.size (fun _ => False) x cs := fun x cs h => by obtain rfl := k33_open h; exact k33_mkM _ _ _ x
    have HL2 : (([] : List S33).length + l.length) * 16 ≤ 140737488355328 := by simp; omega
    have hq : ∀ (w : World) (n c : Nat) (a : Option Addr), (binOp .eql 28 (.slice a n c) (.slice none 0 0)).run Try.prog w = .ok (.bool a.isNone) w := fun w n c a => run_eql_slice_nil w 28 33 a n c Try.underlying28
    clear hr0 hl
    go_enter Try.func32, Try.ntmps32
    go_wp2_with ((with_reducible refine gate_builtin (b := .append) (xs := #[.tmp 5, .tmp 6]) rfl ?_); at_builtin; (refine Kd.R_append_rows k33 (Rr := k33.K (w.alloc (.cells #[] 33))) (w0 := w) w.heap.size ?b1 (.tmp 5) (.tmp 6) 28 33 (.agg #[(.int .u64 0), (.int .i64 0)]) 16 ?b2 ?b3 ?b4 ?b5 ?b6 ?b7 (.slice (some ⟨w.heap.size, 0, none⟩) 0 0) [] l (some ad) l.length c0 (fun _ => True) (fun _ => False) ?b8 ?b9 ?aO ?aR ?aK (fun _ h => h.elim) ?aF ?aB ?aS ?aL ?_); (case b1 => rfl); (case b2 => rfl); (case b3 => exact Try.underlying28); (case b4 => exact info33); (case b5 => rfl); (case b6 => exact (by decide)); (case b7 => exact (by decide)); (case b8 => rfl); (case b9 => rfl); (case aO => exact ⟨fun _ _ => trivial, OwnRow.lit w w.heap.size (Reps.none _ _) (Nat.le_refl _) (by simp)⟩); (case aR => exact Kd.C_alloc HR0.out _); (case aK => exact HK); (case aF => exact fun _ _ => trivial); (case aB => exact below_alloc (Below.refl _ _) _); (case aS => exact below_size (below_alloc (Below.refl _ _) _)); (case aL => exact HL2); intro v1 w2 ho hb hg hat; have HO := Aside0.mk ho; have HB := Aside0.mk hb; clear ho hb hg hat)
    go_ret
    exact ⟨_, rfl, HO.out, HB.out⟩
end Go.Proofs.Ytcphlhphdpjnfaa.Given04
end
