/-
  No cell of these rows narrows 'for every input' (looked for: loops, veiled, ifaces, maps, wideKeys, modest, calm, conditions, laid).
  DERIVED. THE GIVEN ROWS OF THIS SEAT. 11 by the template 'for every input the law returns true; each argument reads behind the call as it read before'; 0 by the template 'total and deterministic' (their statements: YtcnnaciilphadaaTotals.lean).
  GIVEN WITH THE SEED: the statements are not yours to turn. If you find one false, say at which input.
  Laid BY PROGRAM, IN A SANDBOX (cutbox-rows.mjs): the forced cells as the released guide's own fill.sh prints them over the translation 6627825a98d9e0df… (all of the seat's roots in one cut). By AI agents, Wed Nov 11 2026. No macro, syntax, notation, axiom, sorry.
-/
import Derived.Test.YtcnnaciilphadaaChecked
import GoSem.Claim
import GoSem.ClaimJoined
import GoSem.ClaimMapViews
import Derived.JoinedTies
import Derived.KernelRfl
namespace Go.Proofs.Ytcnnaciilphadaa
/- THE CELL 'sum', in the pinned program and in every row, IS THE sha256 OF THE DUMP (.gsa) THAT YtcnnaciilphadaaProg.lean LOADS. Nothing in Lean hashes anything: it is a label: what it is worth is what the hold of that sum in a sandbox is worth. -/
noncomputable def Try.pinned : Pinned := { name := "ytcnnaciilphadaa", sum := "6627825a98d9e0dffa7b9defb37adabef1b04f2917e52ec4c671c3da192c9129", checked := Try.checked }
namespace Rows
def none {H : Type} : Left H := { results := [], args := [] }

/-- 'epicyclelaw03.MontReturns': WHATEVER THE INPUT: true; the input reads as it did. -/
def montReturnsSpec : ChangeSpec := { name := "montReturns", fn := fun _ => fun
  | [d1, d2] => { results := [.lit (.bool true)], args := [d1, d2] }
  | _ => none }
def montReturnsRow : OpenClaim := { program := "ytcnnaciilphadaa", sum := "6627825a98d9e0dffa7b9defb37adabef1b04f2917e52ec4c671c3da192c9129", func := "epicycle/epicyclelaw03.MontReturns", spec := "montReturns", inPlace := ["math/bits.Add64"], named := ["math/bits.divideError", "math/bits.overflowError"], apart := false }
def MontReturnsSaid : Prop := montReturnsRow.holds Try.pinned (OpenSpec.ofChange montReturnsSpec)

/-- ITS FALSE NEIGHBOUR: 'it returns false'. Refute it at one input. -/
def montReturnsWrong : ChangeSpec := { name := "montReturns", fn := fun _ => fun
  | [d1, d2] => { results := [.lit (.bool false)], args := [d1, d2] }
  | _ => none }
def MontReturnsWrongFalsely : Prop := montReturnsRow.holds Try.pinned (OpenSpec.ofChange montReturnsWrong)

/-- 'epicyclelaw03.MontHalf': WHATEVER THE INPUT: true; the input reads as it did. -/
def montHalfSpec : ChangeSpec := { name := "montHalf", fn := fun _ => fun
  | [d1, d2, d3] => { results := [.lit (.bool true)], args := [d1, d2, d3] }
  | _ => none }
def montHalfRow : OpenClaim := { program := "ytcnnaciilphadaa", sum := "6627825a98d9e0dffa7b9defb37adabef1b04f2917e52ec4c671c3da192c9129", func := "epicycle/epicyclelaw03.MontHalf", spec := "montHalf", inPlace := ["math/bits.Add64"], named := ["math/bits.divideError", "math/bits.overflowError"], apart := false }
def MontHalfSaid : Prop := montHalfRow.holds Try.pinned (OpenSpec.ofChange montHalfSpec)

/-- ITS FALSE NEIGHBOUR: 'it returns false'. Refute it at one input. -/
def montHalfWrong : ChangeSpec := { name := "montHalf", fn := fun _ => fun
  | [d1, d2, d3] => { results := [.lit (.bool false)], args := [d1, d2, d3] }
  | _ => none }
def MontHalfWrongFalsely : Prop := montHalfRow.holds Try.pinned (OpenSpec.ofChange montHalfWrong)

/-- 'epicyclelaw03.MontDoes': WHATEVER THE INPUT: true; the input reads as it did. -/
def montDoesSpec : ChangeSpec := { name := "montDoes", fn := fun _ => fun
  | [d1, d2, d3, d4] => { results := [.lit (.bool true)], args := [d1, d2, d3, d4] }
  | _ => none }
def montDoesRow : OpenClaim := { program := "ytcnnaciilphadaa", sum := "6627825a98d9e0dffa7b9defb37adabef1b04f2917e52ec4c671c3da192c9129", func := "epicycle/epicyclelaw03.MontDoes", spec := "montDoes", inPlace := ["math/bits.Add64"], recurses := true, named := ["math/bits.divideError", "math/bits.overflowError"], apart := false }
def MontDoesSaid : Prop := montDoesRow.holds Try.pinned (OpenSpec.ofChange montDoesSpec)

/-- ITS FALSE NEIGHBOUR: 'it returns false'. Refute it at one input. -/
def montDoesWrong : ChangeSpec := { name := "montDoes", fn := fun _ => fun
  | [d1, d2, d3, d4] => { results := [.lit (.bool false)], args := [d1, d2, d3, d4] }
  | _ => none }
def MontDoesWrongFalsely : Prop := montDoesRow.holds Try.pinned (OpenSpec.ofChange montDoesWrong)

/-- 'epicyclelaw03.MontRests': WHATEVER THE INPUT: true; the input reads as it did. -/
def montRestsSpec : ChangeSpec := { name := "montRests", fn := fun _ => fun
  | [d1, d2, d3] => { results := [.lit (.bool true)], args := [d1, d2, d3] }
  | _ => none }
def montRestsRow : OpenClaim := { program := "ytcnnaciilphadaa", sum := "6627825a98d9e0dffa7b9defb37adabef1b04f2917e52ec4c671c3da192c9129", func := "epicycle/epicyclelaw03.MontRests", spec := "montRests", inPlace := ["math/bits.Add64"], named := ["math/bits.divideError", "math/bits.overflowError"], apart := false }
def MontRestsSaid : Prop := montRestsRow.holds Try.pinned (OpenSpec.ofChange montRestsSpec)

/-- ITS FALSE NEIGHBOUR: 'it returns false'. Refute it at one input. -/
def montRestsWrong : ChangeSpec := { name := "montRests", fn := fun _ => fun
  | [d1, d2, d3] => { results := [.lit (.bool false)], args := [d1, d2, d3] }
  | _ => none }
def MontRestsWrongFalsely : Prop := montRestsRow.holds Try.pinned (OpenSpec.ofChange montRestsWrong)

/-- 'epicyclelaw03.MontStands': WHATEVER THE INPUT: true; the input reads as it did. -/
def montStandsSpec : ChangeSpec := { name := "montStands", fn := fun _ => fun
  | [d1, d2, d3] => { results := [.lit (.bool true)], args := [d1, d2, d3] }
  | _ => none }
def montStandsRow : OpenClaim := { program := "ytcnnaciilphadaa", sum := "6627825a98d9e0dffa7b9defb37adabef1b04f2917e52ec4c671c3da192c9129", func := "epicycle/epicyclelaw03.MontStands", spec := "montStands", inPlace := ["math/bits.Add64"], named := ["math/bits.divideError", "math/bits.overflowError"], apart := false }
def MontStandsSaid : Prop := montStandsRow.holds Try.pinned (OpenSpec.ofChange montStandsSpec)

/-- ITS FALSE NEIGHBOUR: 'it returns false'. Refute it at one input. -/
def montStandsWrong : ChangeSpec := { name := "montStands", fn := fun _ => fun
  | [d1, d2, d3] => { results := [.lit (.bool false)], args := [d1, d2, d3] }
  | _ => none }
def MontStandsWrongFalsely : Prop := montStandsRow.holds Try.pinned (OpenSpec.ofChange montStandsWrong)

/-- 'epicyclelaw04.ProofChecks': WHATEVER THE INPUT: true; the input reads as it did. -/
def proofChecksSpec : ChangeSpec := { name := "proofChecks", fn := fun _ => fun
  | [d] => { results := [.lit (.bool true)], args := [d] }
  | _ => none }
def proofChecksRow : OpenClaim := { program := "ytcnnaciilphadaa", sum := "6627825a98d9e0dffa7b9defb37adabef1b04f2917e52ec4c671c3da192c9129", func := "epicycle/epicyclelaw04.ProofChecks", spec := "proofChecks", inPlace := ["math/bits.Add64"], unfollowed := true, recurses := true, named := ["math/bits.divideError", "math/bits.overflowError"], apart := false }
def ProofChecksSaid : Prop := proofChecksRow.holds Try.pinned (OpenSpec.ofChange proofChecksSpec)

/-- ITS FALSE NEIGHBOUR: 'it returns false'. Refute it at one input. -/
def proofChecksWrong : ChangeSpec := { name := "proofChecks", fn := fun _ => fun
  | [d] => { results := [.lit (.bool false)], args := [d] }
  | _ => none }
def ProofChecksWrongFalsely : Prop := proofChecksRow.holds Try.pinned (OpenSpec.ofChange proofChecksWrong)

/-- 'epicyclelaw04.ProofPrimes': WHATEVER THE INPUT: true; the input reads as it did. -/
def proofPrimesSpec : ChangeSpec := { name := "proofPrimes", fn := fun _ => fun
  | [d1, d2, d3] => { results := [.lit (.bool true)], args := [d1, d2, d3] }
  | _ => none }
def proofPrimesRow : OpenClaim := { program := "ytcnnaciilphadaa", sum := "6627825a98d9e0dffa7b9defb37adabef1b04f2917e52ec4c671c3da192c9129", func := "epicycle/epicyclelaw04.ProofPrimes", spec := "proofPrimes", inPlace := ["math/bits.Add64"], unfollowed := true, recurses := true, named := ["math/bits.divideError", "math/bits.overflowError"], apart := false }
def ProofPrimesSaid : Prop := proofPrimesRow.holds Try.pinned (OpenSpec.ofChange proofPrimesSpec)

/-- ITS FALSE NEIGHBOUR: 'it returns false'. Refute it at one input. -/
def proofPrimesWrong : ChangeSpec := { name := "proofPrimes", fn := fun _ => fun
  | [d1, d2, d3] => { results := [.lit (.bool false)], args := [d1, d2, d3] }
  | _ => none }
def ProofPrimesWrongFalsely : Prop := proofPrimesRow.holds Try.pinned (OpenSpec.ofChange proofPrimesWrong)

/-- 'epicyclelaw04.ProofOrder': WHATEVER THE INPUT: true; the input reads as it did. -/
def proofOrderSpec : ChangeSpec := { name := "proofOrder", fn := fun _ => fun
  | [d1, d2, d3] => { results := [.lit (.bool true)], args := [d1, d2, d3] }
  | _ => none }
def proofOrderRow : OpenClaim := { program := "ytcnnaciilphadaa", sum := "6627825a98d9e0dffa7b9defb37adabef1b04f2917e52ec4c671c3da192c9129", func := "epicycle/epicyclelaw04.ProofOrder", spec := "proofOrder", inPlace := ["math/bits.Add64"], unfollowed := true, recurses := true, named := ["math/bits.divideError", "math/bits.overflowError"], apart := false }
def ProofOrderSaid : Prop := proofOrderRow.holds Try.pinned (OpenSpec.ofChange proofOrderSpec)

/-- ITS FALSE NEIGHBOUR: 'it returns false'. Refute it at one input. -/
def proofOrderWrong : ChangeSpec := { name := "proofOrder", fn := fun _ => fun
  | [d1, d2, d3] => { results := [.lit (.bool false)], args := [d1, d2, d3] }
  | _ => none }
def ProofOrderWrongFalsely : Prop := proofOrderRow.holds Try.pinned (OpenSpec.ofChange proofOrderWrong)

/-- 'epicyclelaw04.ProofField': WHATEVER THE INPUT: true; the input reads as it did. -/
def proofFieldSpec : ChangeSpec := { name := "proofField", fn := fun _ => fun
  | [d1, d2, d3, d4] => { results := [.lit (.bool true)], args := [d1, d2, d3, d4] }
  | _ => none }
def proofFieldRow : OpenClaim := { program := "ytcnnaciilphadaa", sum := "6627825a98d9e0dffa7b9defb37adabef1b04f2917e52ec4c671c3da192c9129", func := "epicycle/epicyclelaw04.ProofField", spec := "proofField", inPlace := ["math/bits.Add64"], unfollowed := true, recurses := true, named := ["math/bits.divideError", "math/bits.overflowError"], apart := false }
def ProofFieldSaid : Prop := proofFieldRow.holds Try.pinned (OpenSpec.ofChange proofFieldSpec)

/-- ITS FALSE NEIGHBOUR: 'it returns false'. Refute it at one input. -/
def proofFieldWrong : ChangeSpec := { name := "proofField", fn := fun _ => fun
  | [d1, d2, d3, d4] => { results := [.lit (.bool false)], args := [d1, d2, d3, d4] }
  | _ => none }
def ProofFieldWrongFalsely : Prop := proofFieldRow.holds Try.pinned (OpenSpec.ofChange proofFieldWrong)

/-- 'epicyclelaw04.ProofParts': WHATEVER THE INPUT: true; the input reads as it did. -/
def proofPartsSpec : ChangeSpec := { name := "proofParts", fn := fun _ => fun
  | [d1, d2] => { results := [.lit (.bool true)], args := [d1, d2] }
  | _ => none }
def proofPartsRow : OpenClaim := { program := "ytcnnaciilphadaa", sum := "6627825a98d9e0dffa7b9defb37adabef1b04f2917e52ec4c671c3da192c9129", func := "epicycle/epicyclelaw04.ProofParts", spec := "proofParts", inPlace := ["math/bits.Add64"], unfollowed := true, recurses := true, named := ["math/bits.divideError", "math/bits.overflowError"], apart := false }
def ProofPartsSaid : Prop := proofPartsRow.holds Try.pinned (OpenSpec.ofChange proofPartsSpec)

/-- ITS FALSE NEIGHBOUR: 'it returns false'. Refute it at one input. -/
def proofPartsWrong : ChangeSpec := { name := "proofParts", fn := fun _ => fun
  | [d1, d2] => { results := [.lit (.bool false)], args := [d1, d2] }
  | _ => none }
def ProofPartsWrongFalsely : Prop := proofPartsRow.holds Try.pinned (OpenSpec.ofChange proofPartsWrong)

/-- 'epicyclelaw04.ProofClaims': WHATEVER THE INPUT: true; the input reads as it did. -/
def proofClaimsSpec : ChangeSpec := { name := "proofClaims", fn := fun _ => fun
  | [d1, d2] => { results := [.lit (.bool true)], args := [d1, d2] }
  | _ => none }
def proofClaimsRow : OpenClaim := { program := "ytcnnaciilphadaa", sum := "6627825a98d9e0dffa7b9defb37adabef1b04f2917e52ec4c671c3da192c9129", func := "epicycle/epicyclelaw04.ProofClaims", spec := "proofClaims", inPlace := ["math/bits.Add64"], unfollowed := true, recurses := true, named := ["math/bits.divideError", "math/bits.overflowError"], apart := false }
def ProofClaimsSaid : Prop := proofClaimsRow.holds Try.pinned (OpenSpec.ofChange proofClaimsSpec)

/-- ITS FALSE NEIGHBOUR: 'it returns false'. Refute it at one input. -/
def proofClaimsWrong : ChangeSpec := { name := "proofClaims", fn := fun _ => fun
  | [d1, d2] => { results := [.lit (.bool false)], args := [d1, d2] }
  | _ => none }
def ProofClaimsWrongFalsely : Prop := proofClaimsRow.holds Try.pinned (OpenSpec.ofChange proofClaimsWrong)

/- THE SECOND FORM. 'bulk': how many values and letters a reading holds, each counted each time it is reached (what is shared counts as often as it is met; a slice's spare places count too). A statement '..UptoSaid' is the law's where the arguments, and the package variables that the reading takes, are together of bulk at most 1048576: NARROWER than '..Said'. Prove '..Said' where nothing that the law and all that it calls make is longer than what came in: it says more and counts as full. Else prove '..UptoSaid'. A law counts once. -/
mutual
def uptoBulk {H : Type} : DataW H → Nat
  | .lit (.string bytes) => bytes.length + 1
  | .lit _ => 1
  | .nil => 1
  | .ptr d => uptoBulk d + 1
  | .slice elems spare => uptoBulkAll elems + uptoBulkAll spare + 1
  | .agg parts => uptoBulkAll parts + 1
  | .iface _ d => uptoBulk d + 1
  | .map entries => uptoBulkEntries entries + 1
  | .held _ => 1
def uptoBulkAll {H : Type} : List (DataW H) → Nat
  | [] => 0
  | d :: r => uptoBulk d + uptoBulkAll r
def uptoBulkEntries {H : Type} : List (Lit × DataW H) → Nat
  | [] => 0
  | x :: r => uptoBulkEntry x + uptoBulkEntries r
def uptoBulkEntry {H : Type} : Lit × DataW H → Nat
  | (.string bytes, d) => bytes.length + uptoBulk d + 1
  | (_, d) => uptoBulk d + 1
 end
def uptoSmall : (H : Type) → List (DataW H) → Bool := fun _ ds => decide (uptoBulkAll ds ≤ 1048576)
def OpenSpec.upto (s : _root_.Go.ChangeSpec) : _root_.Go.OpenSpec := { _root_.Go.OpenSpec.ofChange s with cond := some uptoSmall }

/-- 'epicyclelaw03.MontReturns', WHERE WHAT IT READS IS OF BULK AT MOST 1048576: true; the input reads as it did. -/
def montReturnsUptoRow : OpenClaim := { program := "ytcnnaciilphadaa", sum := "6627825a98d9e0dffa7b9defb37adabef1b04f2917e52ec4c671c3da192c9129", func := "epicycle/epicyclelaw03.MontReturns", spec := "montReturns", inPlace := ["math/bits.Add64"], named := ["math/bits.divideError", "math/bits.overflowError"], apart := false, narrowed := true }
def MontReturnsUptoSaid : Prop := montReturnsUptoRow.holds Try.pinned (OpenSpec.upto montReturnsSpec)

/-- 'epicyclelaw03.MontHalf', WHERE WHAT IT READS IS OF BULK AT MOST 1048576: true; the input reads as it did. -/
def montHalfUptoRow : OpenClaim := { program := "ytcnnaciilphadaa", sum := "6627825a98d9e0dffa7b9defb37adabef1b04f2917e52ec4c671c3da192c9129", func := "epicycle/epicyclelaw03.MontHalf", spec := "montHalf", inPlace := ["math/bits.Add64"], named := ["math/bits.divideError", "math/bits.overflowError"], apart := false, narrowed := true }
def MontHalfUptoSaid : Prop := montHalfUptoRow.holds Try.pinned (OpenSpec.upto montHalfSpec)

/-- 'epicyclelaw03.MontDoes', WHERE WHAT IT READS IS OF BULK AT MOST 1048576: true; the input reads as it did. -/
def montDoesUptoRow : OpenClaim := { program := "ytcnnaciilphadaa", sum := "6627825a98d9e0dffa7b9defb37adabef1b04f2917e52ec4c671c3da192c9129", func := "epicycle/epicyclelaw03.MontDoes", spec := "montDoes", inPlace := ["math/bits.Add64"], recurses := true, named := ["math/bits.divideError", "math/bits.overflowError"], apart := false, narrowed := true }
def MontDoesUptoSaid : Prop := montDoesUptoRow.holds Try.pinned (OpenSpec.upto montDoesSpec)

/-- 'epicyclelaw03.MontRests', WHERE WHAT IT READS IS OF BULK AT MOST 1048576: true; the input reads as it did. -/
def montRestsUptoRow : OpenClaim := { program := "ytcnnaciilphadaa", sum := "6627825a98d9e0dffa7b9defb37adabef1b04f2917e52ec4c671c3da192c9129", func := "epicycle/epicyclelaw03.MontRests", spec := "montRests", inPlace := ["math/bits.Add64"], named := ["math/bits.divideError", "math/bits.overflowError"], apart := false, narrowed := true }
def MontRestsUptoSaid : Prop := montRestsUptoRow.holds Try.pinned (OpenSpec.upto montRestsSpec)

/-- 'epicyclelaw03.MontStands', WHERE WHAT IT READS IS OF BULK AT MOST 1048576: true; the input reads as it did. -/
def montStandsUptoRow : OpenClaim := { program := "ytcnnaciilphadaa", sum := "6627825a98d9e0dffa7b9defb37adabef1b04f2917e52ec4c671c3da192c9129", func := "epicycle/epicyclelaw03.MontStands", spec := "montStands", inPlace := ["math/bits.Add64"], named := ["math/bits.divideError", "math/bits.overflowError"], apart := false, narrowed := true }
def MontStandsUptoSaid : Prop := montStandsUptoRow.holds Try.pinned (OpenSpec.upto montStandsSpec)

/-- 'epicyclelaw04.ProofChecks', WHERE WHAT IT READS IS OF BULK AT MOST 1048576: true; the input reads as it did. -/
def proofChecksUptoRow : OpenClaim := { program := "ytcnnaciilphadaa", sum := "6627825a98d9e0dffa7b9defb37adabef1b04f2917e52ec4c671c3da192c9129", func := "epicycle/epicyclelaw04.ProofChecks", spec := "proofChecks", inPlace := ["math/bits.Add64"], unfollowed := true, recurses := true, named := ["math/bits.divideError", "math/bits.overflowError"], apart := false, narrowed := true }
def ProofChecksUptoSaid : Prop := proofChecksUptoRow.holds Try.pinned (OpenSpec.upto proofChecksSpec)

/-- 'epicyclelaw04.ProofPrimes', WHERE WHAT IT READS IS OF BULK AT MOST 1048576: true; the input reads as it did. -/
def proofPrimesUptoRow : OpenClaim := { program := "ytcnnaciilphadaa", sum := "6627825a98d9e0dffa7b9defb37adabef1b04f2917e52ec4c671c3da192c9129", func := "epicycle/epicyclelaw04.ProofPrimes", spec := "proofPrimes", inPlace := ["math/bits.Add64"], unfollowed := true, recurses := true, named := ["math/bits.divideError", "math/bits.overflowError"], apart := false, narrowed := true }
def ProofPrimesUptoSaid : Prop := proofPrimesUptoRow.holds Try.pinned (OpenSpec.upto proofPrimesSpec)

/-- 'epicyclelaw04.ProofOrder', WHERE WHAT IT READS IS OF BULK AT MOST 1048576: true; the input reads as it did. -/
def proofOrderUptoRow : OpenClaim := { program := "ytcnnaciilphadaa", sum := "6627825a98d9e0dffa7b9defb37adabef1b04f2917e52ec4c671c3da192c9129", func := "epicycle/epicyclelaw04.ProofOrder", spec := "proofOrder", inPlace := ["math/bits.Add64"], unfollowed := true, recurses := true, named := ["math/bits.divideError", "math/bits.overflowError"], apart := false, narrowed := true }
def ProofOrderUptoSaid : Prop := proofOrderUptoRow.holds Try.pinned (OpenSpec.upto proofOrderSpec)

/-- 'epicyclelaw04.ProofField', WHERE WHAT IT READS IS OF BULK AT MOST 1048576: true; the input reads as it did. -/
def proofFieldUptoRow : OpenClaim := { program := "ytcnnaciilphadaa", sum := "6627825a98d9e0dffa7b9defb37adabef1b04f2917e52ec4c671c3da192c9129", func := "epicycle/epicyclelaw04.ProofField", spec := "proofField", inPlace := ["math/bits.Add64"], unfollowed := true, recurses := true, named := ["math/bits.divideError", "math/bits.overflowError"], apart := false, narrowed := true }
def ProofFieldUptoSaid : Prop := proofFieldUptoRow.holds Try.pinned (OpenSpec.upto proofFieldSpec)

/-- 'epicyclelaw04.ProofParts', WHERE WHAT IT READS IS OF BULK AT MOST 1048576: true; the input reads as it did. -/
def proofPartsUptoRow : OpenClaim := { program := "ytcnnaciilphadaa", sum := "6627825a98d9e0dffa7b9defb37adabef1b04f2917e52ec4c671c3da192c9129", func := "epicycle/epicyclelaw04.ProofParts", spec := "proofParts", inPlace := ["math/bits.Add64"], unfollowed := true, recurses := true, named := ["math/bits.divideError", "math/bits.overflowError"], apart := false, narrowed := true }
def ProofPartsUptoSaid : Prop := proofPartsUptoRow.holds Try.pinned (OpenSpec.upto proofPartsSpec)

/-- 'epicyclelaw04.ProofClaims', WHERE WHAT IT READS IS OF BULK AT MOST 1048576: true; the input reads as it did. -/
def proofClaimsUptoRow : OpenClaim := { program := "ytcnnaciilphadaa", sum := "6627825a98d9e0dffa7b9defb37adabef1b04f2917e52ec4c671c3da192c9129", func := "epicycle/epicyclelaw04.ProofClaims", spec := "proofClaims", inPlace := ["math/bits.Add64"], unfollowed := true, recurses := true, named := ["math/bits.divideError", "math/bits.overflowError"], apart := false, narrowed := true }
def ProofClaimsUptoSaid : Prop := proofClaimsUptoRow.holds Try.pinned (OpenSpec.upto proofClaimsSpec)

end Rows
end Go.Proofs.Ytcnnaciilphadaa
