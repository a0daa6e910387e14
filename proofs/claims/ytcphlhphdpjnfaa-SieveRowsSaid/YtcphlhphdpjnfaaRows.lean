/-
  No cell of these rows narrows 'for every input' (looked for: loops, veiled, ifaces, maps, wideKeys, modest, calm, conditions, laid).
  DERIVED. THE GIVEN ROWS OF THIS SEAT. 5 by the template 'for every input the law returns true; each argument reads behind the call as it read before'; 0 by the template 'total and deterministic' (their statements: YtcphlhphdpjnfaaTotals.lean).
  GIVEN WITH THE SEED: the statements are not yours to turn. If you find one false, say at which input.
  Laid BY PROGRAM, IN A SANDBOX (cutbox-rows.mjs): the forced cells as the released guide's own fill.sh prints them over the translation 8fae8f3fe1323c9b… (all of the seat's roots in one cut). By AI agents, Wed Nov 11 2026. No macro, syntax, notation, axiom, sorry.
-/
import Derived.Test.YtcphlhphdpjnfaaChecked
import GoSem.Claim
import GoSem.ClaimJoined
import GoSem.ClaimMapViews
import Derived.JoinedTies
import Derived.KernelRfl
namespace Go.Proofs.Ytcphlhphdpjnfaa
/- THE CELL 'sum', in the pinned program and in every row, IS THE sha256 OF THE DUMP (.gsa) THAT YtcphlhphdpjnfaaProg.lean LOADS. Nothing in Lean hashes anything: it is a label: what it is worth is what the hold of that sum in a sandbox is worth. -/
noncomputable def Try.pinned : Pinned := { name := "ytcphlhphdpjnfaa", sum := "8fae8f3fe1323c9b97a4835f37c0345df10ca6d4300178e4a47ae3f1ed0447ee", checked := Try.checked }
namespace Rows
def none {H : Type} : Left H := { results := [], args := [] }

/-- 'epicyclelaw05.SievePrimes': WHATEVER THE INPUT: true; the input reads as it did. -/
def sievePrimesSpec : ChangeSpec := { name := "sievePrimes", fn := fun _ => fun
  | [d1, d2] => { results := [.lit (.bool true)], args := [d1, d2] }
  | _ => none }
def sievePrimesRow : OpenClaim := { program := "ytcphlhphdpjnfaa", sum := "8fae8f3fe1323c9b97a4835f37c0345df10ca6d4300178e4a47ae3f1ed0447ee", func := "epicycle/epicyclelaw05.SievePrimes", spec := "sievePrimes", unfollowed := true, recurses := true, named := ["math/bits.divideError", "math/bits.overflowError"], apart := false }
def SievePrimesSaid : Prop := sievePrimesRow.holds Try.pinned (OpenSpec.ofChange sievePrimesSpec)

/-- ITS FALSE NEIGHBOUR: 'it returns false'. Refute it at one input. -/
def sievePrimesWrong : ChangeSpec := { name := "sievePrimes", fn := fun _ => fun
  | [d1, d2] => { results := [.lit (.bool false)], args := [d1, d2] }
  | _ => none }
def SievePrimesWrongFalsely : Prop := sievePrimesRow.holds Try.pinned (OpenSpec.ofChange sievePrimesWrong)

/-- 'epicyclelaw05.SieveFactors': WHATEVER THE INPUT: true; the input reads as it did. -/
def sieveFactorsSpec : ChangeSpec := { name := "sieveFactors", fn := fun _ => fun
  | [d] => { results := [.lit (.bool true)], args := [d] }
  | _ => none }
def sieveFactorsRow : OpenClaim := { program := "ytcphlhphdpjnfaa", sum := "8fae8f3fe1323c9b97a4835f37c0345df10ca6d4300178e4a47ae3f1ed0447ee", func := "epicycle/epicyclelaw05.SieveFactors", spec := "sieveFactors", unfollowed := true, recurses := true, named := ["math/bits.divideError", "math/bits.overflowError"], apart := false }
def SieveFactorsSaid : Prop := sieveFactorsRow.holds Try.pinned (OpenSpec.ofChange sieveFactorsSpec)

/-- ITS FALSE NEIGHBOUR: 'it returns false'. Refute it at one input. -/
def sieveFactorsWrong : ChangeSpec := { name := "sieveFactors", fn := fun _ => fun
  | [d] => { results := [.lit (.bool false)], args := [d] }
  | _ => none }
def SieveFactorsWrongFalsely : Prop := sieveFactorsRow.holds Try.pinned (OpenSpec.ofChange sieveFactorsWrong)

/-- 'epicyclelaw05.SieveGenerates': WHATEVER THE INPUT: true; the input reads as it did. -/
def sieveGeneratesSpec : ChangeSpec := { name := "sieveGenerates", fn := fun _ => fun
  | [d1, d2] => { results := [.lit (.bool true)], args := [d1, d2] }
  | _ => none }
def sieveGeneratesRow : OpenClaim := { program := "ytcphlhphdpjnfaa", sum := "8fae8f3fe1323c9b97a4835f37c0345df10ca6d4300178e4a47ae3f1ed0447ee", func := "epicycle/epicyclelaw05.SieveGenerates", spec := "sieveGenerates", unfollowed := true, recurses := true, named := ["math/bits.divideError", "math/bits.overflowError"], apart := false }
def SieveGeneratesSaid : Prop := sieveGeneratesRow.holds Try.pinned (OpenSpec.ofChange sieveGeneratesSpec)

/-- ITS FALSE NEIGHBOUR: 'it returns false'. Refute it at one input. -/
def sieveGeneratesWrong : ChangeSpec := { name := "sieveGenerates", fn := fun _ => fun
  | [d1, d2] => { results := [.lit (.bool false)], args := [d1, d2] }
  | _ => none }
def SieveGeneratesWrongFalsely : Prop := sieveGeneratesRow.holds Try.pinned (OpenSpec.ofChange sieveGeneratesWrong)

/-- 'epicyclelaw05.SieveRows': WHATEVER THE INPUT: true; the input reads as it did. -/
def sieveRowsSpec : ChangeSpec := { name := "sieveRows", fn := fun _ => fun
  | [d] => { results := [.lit (.bool true)], args := [d] }
  | _ => none }
def sieveRowsRow : OpenClaim := { program := "ytcphlhphdpjnfaa", sum := "8fae8f3fe1323c9b97a4835f37c0345df10ca6d4300178e4a47ae3f1ed0447ee", func := "epicycle/epicyclelaw05.SieveRows", spec := "sieveRows", unfollowed := true, recurses := true, named := ["math/bits.divideError", "math/bits.overflowError"], apart := false }
def SieveRowsSaid : Prop := sieveRowsRow.holds Try.pinned (OpenSpec.ofChange sieveRowsSpec)

/-- ITS FALSE NEIGHBOUR: 'it returns false'. Refute it at one input. -/
def sieveRowsWrong : ChangeSpec := { name := "sieveRows", fn := fun _ => fun
  | [d] => { results := [.lit (.bool false)], args := [d] }
  | _ => none }
def SieveRowsWrongFalsely : Prop := sieveRowsRow.holds Try.pinned (OpenSpec.ofChange sieveRowsWrong)

/-- 'epicyclelaw05.SieveProves': WHATEVER THE INPUT: true; the input reads as it did. -/
def sieveProvesSpec : ChangeSpec := { name := "sieveProves", fn := fun _ => fun
  | [d] => { results := [.lit (.bool true)], args := [d] }
  | _ => none }
def sieveProvesRow : OpenClaim := { program := "ytcphlhphdpjnfaa", sum := "8fae8f3fe1323c9b97a4835f37c0345df10ca6d4300178e4a47ae3f1ed0447ee", func := "epicycle/epicyclelaw05.SieveProves", spec := "sieveProves", inPlace := ["math/bits.Add64"], unfollowed := true, recurses := true, named := ["math/bits.divideError", "math/bits.overflowError"], apart := false }
def SieveProvesSaid : Prop := sieveProvesRow.holds Try.pinned (OpenSpec.ofChange sieveProvesSpec)

/-- ITS FALSE NEIGHBOUR: 'it returns false'. Refute it at one input. -/
def sieveProvesWrong : ChangeSpec := { name := "sieveProves", fn := fun _ => fun
  | [d] => { results := [.lit (.bool false)], args := [d] }
  | _ => none }
def SieveProvesWrongFalsely : Prop := sieveProvesRow.holds Try.pinned (OpenSpec.ofChange sieveProvesWrong)

/- THE SECOND FORM. 'bulk': how many values and letters a reading holds, each counted each time it is reached (what is shared counts as often as it is met; a slice's spare places count too). A statement '..UptoSaid' is the law's where the arguments, and the package variables that the reading takes, are together of bulk at most 1048576: NARROWER than '..Said'. Prove '..Said' where nothing that the law and all that it calls make is longer than what came in: it says more and counts as full. Else prove '..UptoSaid'. A law counts once. -/
mutual
def uptoBulk {H : Type} : DataW H → Nat
  | .lit (.string bytes) => bytes.length + 1
  | .lit _ => 1
  | .nil => 1
  | .ptr d => uptoBulk d + 1
  | .slice elems spare => uptoBulkAll elems + uptoBulkAll spare + 1
  | .agg parts => uptoBulkAll parts + 1
  | .iface _ d => uptoBulk d + 1
  | .map entries => uptoBulkEntries entries + 1
  | .held _ => 1
def uptoBulkAll {H : Type} : List (DataW H) → Nat
  | [] => 0
  | d :: r => uptoBulk d + uptoBulkAll r
def uptoBulkEntries {H : Type} : List (Lit × DataW H) → Nat
  | [] => 0
  | x :: r => uptoBulkEntry x + uptoBulkEntries r
def uptoBulkEntry {H : Type} : Lit × DataW H → Nat
  | (.string bytes, d) => bytes.length + uptoBulk d + 1
  | (_, d) => uptoBulk d + 1
 end
def uptoSmall : (H : Type) → List (DataW H) → Bool := fun _ ds => decide (uptoBulkAll ds ≤ 1048576)
def OpenSpec.upto (s : _root_.Go.ChangeSpec) : _root_.Go.OpenSpec := { _root_.Go.OpenSpec.ofChange s with cond := some uptoSmall }

/-- 'epicyclelaw05.SievePrimes', WHERE WHAT IT READS IS OF BULK AT MOST 1048576: true; the input reads as it did. -/
def sievePrimesUptoRow : OpenClaim := { program := "ytcphlhphdpjnfaa", sum := "8fae8f3fe1323c9b97a4835f37c0345df10ca6d4300178e4a47ae3f1ed0447ee", func := "epicycle/epicyclelaw05.SievePrimes", spec := "sievePrimes", unfollowed := true, recurses := true, named := ["math/bits.divideError", "math/bits.overflowError"], apart := false, narrowed := true }
def SievePrimesUptoSaid : Prop := sievePrimesUptoRow.holds Try.pinned (OpenSpec.upto sievePrimesSpec)

/-- 'epicyclelaw05.SieveFactors', WHERE WHAT IT READS IS OF BULK AT MOST 1048576: true; the input reads as it did. -/
def sieveFactorsUptoRow : OpenClaim := { program := "ytcphlhphdpjnfaa", sum := "8fae8f3fe1323c9b97a4835f37c0345df10ca6d4300178e4a47ae3f1ed0447ee", func := "epicycle/epicyclelaw05.SieveFactors", spec := "sieveFactors", unfollowed := true, recurses := true, named := ["math/bits.divideError", "math/bits.overflowError"], apart := false, narrowed := true }
def SieveFactorsUptoSaid : Prop := sieveFactorsUptoRow.holds Try.pinned (OpenSpec.upto sieveFactorsSpec)

/-- 'epicyclelaw05.SieveGenerates', WHERE WHAT IT READS IS OF BULK AT MOST 1048576: true; the input reads as it did. -/
def sieveGeneratesUptoRow : OpenClaim := { program := "ytcphlhphdpjnfaa", sum := "8fae8f3fe1323c9b97a4835f37c0345df10ca6d4300178e4a47ae3f1ed0447ee", func := "epicycle/epicyclelaw05.SieveGenerates", spec := "sieveGenerates", unfollowed := true, recurses := true, named := ["math/bits.divideError", "math/bits.overflowError"], apart := false, narrowed := true }
def SieveGeneratesUptoSaid : Prop := sieveGeneratesUptoRow.holds Try.pinned (OpenSpec.upto sieveGeneratesSpec)

/-- 'epicyclelaw05.SieveRows', WHERE WHAT IT READS IS OF BULK AT MOST 1048576: true; the input reads as it did. -/
def sieveRowsUptoRow : OpenClaim := { program := "ytcphlhphdpjnfaa", sum := "8fae8f3fe1323c9b97a4835f37c0345df10ca6d4300178e4a47ae3f1ed0447ee", func := "epicycle/epicyclelaw05.SieveRows", spec := "sieveRows", unfollowed := true, recurses := true, named := ["math/bits.divideError", "math/bits.overflowError"], apart := false, narrowed := true }
def SieveRowsUptoSaid : Prop := sieveRowsUptoRow.holds Try.pinned (OpenSpec.upto sieveRowsSpec)

/-- 'epicyclelaw05.SieveProves', WHERE WHAT IT READS IS OF BULK AT MOST 1048576: true; the input reads as it did. -/
def sieveProvesUptoRow : OpenClaim := { program := "ytcphlhphdpjnfaa", sum := "8fae8f3fe1323c9b97a4835f37c0345df10ca6d4300178e4a47ae3f1ed0447ee", func := "epicycle/epicyclelaw05.SieveProves", spec := "sieveProves", inPlace := ["math/bits.Add64"], unfollowed := true, recurses := true, named := ["math/bits.divideError", "math/bits.overflowError"], apart := false, narrowed := true }
def SieveProvesUptoSaid : Prop := sieveProvesUptoRow.holds Try.pinned (OpenSpec.upto sieveProvesSpec)

end Rows
end Go.Proofs.Ytcphlhphdpjnfaa
