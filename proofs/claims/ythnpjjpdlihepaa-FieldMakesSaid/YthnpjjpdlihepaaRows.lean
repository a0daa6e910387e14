/-
  No cell of these rows narrows 'for every input' (looked for: loops, veiled, ifaces, maps, wideKeys, modest, calm, conditions, laid).
  DERIVED. THE GIVEN ROWS OF THIS SEAT. 9 by the template 'for every input the law returns true; each argument reads behind the call as it read before'; 0 by the template 'total and deterministic' (their statements: YthnpjjpdlihepaaTotals.lean).
  GIVEN WITH THE SEED: the statements are not yours to turn. If you find one false, say at which input.
  Laid BY PROGRAM, IN A SANDBOX (cutbox-rows.mjs): the forced cells as the released guide's own fill.sh prints them over the translation 8bf3428cff81f3e4… (all of the seat's roots in one cut). By AI agents, Wed Nov 11 2026. No macro, syntax, notation, axiom, sorry.
-/
import Derived.Test.YthnpjjpdlihepaaChecked
import GoSem.Claim
import GoSem.ClaimJoined
import GoSem.ClaimMapViews
import Derived.JoinedTies
import Derived.KernelRfl
namespace Go.Proofs.Ythnpjjpdlihepaa
/- THE CELL 'sum', in the pinned program and in every row, IS THE sha256 OF THE DUMP (.gsa) THAT YthnpjjpdlihepaaProg.lean LOADS. Nothing in Lean hashes anything: it is a label: what it is worth is what the hold of that sum in a sandbox is worth. -/
noncomputable def Try.pinned : Pinned := { name := "ythnpjjpdlihepaa", sum := "8bf3428cff81f3e4e346944941c939eef856592222a2ed4f9dbe97334f869125", checked := Try.checked }
namespace Rows
def none {H : Type} : Left H := { results := [], args := [] }

/-- 'epicyclelaw06.FieldRoots': WHATEVER THE INPUT: true; the input reads as it did. -/
def fieldRootsSpec : ChangeSpec := { name := "fieldRoots", fn := fun _ => fun
  | [d1, d2, d3] => { results := [.lit (.bool true)], args := [d1, d2, d3] }
  | _ => none }
def fieldRootsRow : OpenClaim := { program := "ythnpjjpdlihepaa", sum := "8bf3428cff81f3e4e346944941c939eef856592222a2ed4f9dbe97334f869125", func := "epicycle/epicyclelaw06.FieldRoots", spec := "fieldRoots", inPlace := ["math/bits.Add64"], unfollowed := true, recurses := true, named := ["math/bits.divideError", "math/bits.overflowError"], apart := false }
def FieldRootsSaid : Prop := fieldRootsRow.holds Try.pinned (OpenSpec.ofChange fieldRootsSpec)

/-- ITS FALSE NEIGHBOUR: 'it returns false'. Refute it at one input. -/
def fieldRootsWrong : ChangeSpec := { name := "fieldRoots", fn := fun _ => fun
  | [d1, d2, d3] => { results := [.lit (.bool false)], args := [d1, d2, d3] }
  | _ => none }
def FieldRootsWrongFalsely : Prop := fieldRootsRow.holds Try.pinned (OpenSpec.ofChange fieldRootsWrong)

/-- 'epicyclelaw06.FieldTree': WHATEVER THE INPUT: true; the input reads as it did. -/
def fieldTreeSpec : ChangeSpec := { name := "fieldTree", fn := fun _ => fun
  | [d1, d2, d3] => { results := [.lit (.bool true)], args := [d1, d2, d3] }
  | _ => none }
def fieldTreeRow : OpenClaim := { program := "ythnpjjpdlihepaa", sum := "8bf3428cff81f3e4e346944941c939eef856592222a2ed4f9dbe97334f869125", func := "epicycle/epicyclelaw06.FieldTree", spec := "fieldTree", inPlace := ["math/bits.Add64"], unfollowed := true, recurses := true, named := ["math/bits.divideError", "math/bits.overflowError"], apart := false }
def FieldTreeSaid : Prop := fieldTreeRow.holds Try.pinned (OpenSpec.ofChange fieldTreeSpec)

/-- ITS FALSE NEIGHBOUR: 'it returns false'. Refute it at one input. -/
def fieldTreeWrong : ChangeSpec := { name := "fieldTree", fn := fun _ => fun
  | [d1, d2, d3] => { results := [.lit (.bool false)], args := [d1, d2, d3] }
  | _ => none }
def FieldTreeWrongFalsely : Prop := fieldTreeRow.holds Try.pinned (OpenSpec.ofChange fieldTreeWrong)

/-- 'epicyclelaw06.FieldSums': WHATEVER THE INPUT: true; the input reads as it did. -/
def fieldSumsSpec : ChangeSpec := { name := "fieldSums", fn := fun _ => fun
  | [d1, d2, d3] => { results := [.lit (.bool true)], args := [d1, d2, d3] }
  | _ => none }
def fieldSumsRow : OpenClaim := { program := "ythnpjjpdlihepaa", sum := "8bf3428cff81f3e4e346944941c939eef856592222a2ed4f9dbe97334f869125", func := "epicycle/epicyclelaw06.FieldSums", spec := "fieldSums", inPlace := ["math/bits.Add64"], unfollowed := true, recurses := true, named := ["math/bits.divideError", "math/bits.overflowError"], apart := false }
def FieldSumsSaid : Prop := fieldSumsRow.holds Try.pinned (OpenSpec.ofChange fieldSumsSpec)

/-- ITS FALSE NEIGHBOUR: 'it returns false'. Refute it at one input. -/
def fieldSumsWrong : ChangeSpec := { name := "fieldSums", fn := fun _ => fun
  | [d1, d2, d3] => { results := [.lit (.bool false)], args := [d1, d2, d3] }
  | _ => none }
def FieldSumsWrongFalsely : Prop := fieldSumsRow.holds Try.pinned (OpenSpec.ofChange fieldSumsWrong)

/-- 'epicyclelaw06.FieldFermat': WHATEVER THE INPUT: true; the input reads as it did. -/
def fieldFermatSpec : ChangeSpec := { name := "fieldFermat", fn := fun _ => fun
  | [d1, d2, d3] => { results := [.lit (.bool true)], args := [d1, d2, d3] }
  | _ => none }
def fieldFermatRow : OpenClaim := { program := "ythnpjjpdlihepaa", sum := "8bf3428cff81f3e4e346944941c939eef856592222a2ed4f9dbe97334f869125", func := "epicycle/epicyclelaw06.FieldFermat", spec := "fieldFermat", inPlace := ["math/bits.Add64"], unfollowed := true, recurses := true, named := ["math/bits.divideError", "math/bits.overflowError"], apart := false }
def FieldFermatSaid : Prop := fieldFermatRow.holds Try.pinned (OpenSpec.ofChange fieldFermatSpec)

/-- ITS FALSE NEIGHBOUR: 'it returns false'. Refute it at one input. -/
def fieldFermatWrong : ChangeSpec := { name := "fieldFermat", fn := fun _ => fun
  | [d1, d2, d3] => { results := [.lit (.bool false)], args := [d1, d2, d3] }
  | _ => none }
def FieldFermatWrongFalsely : Prop := fieldFermatRow.holds Try.pinned (OpenSpec.ofChange fieldFermatWrong)

/-- 'epicyclelaw06.FieldInverts': WHATEVER THE INPUT: true; the input reads as it did. -/
def fieldInvertsSpec : ChangeSpec := { name := "fieldInverts", fn := fun _ => fun
  | [d1, d2, d3] => { results := [.lit (.bool true)], args := [d1, d2, d3] }
  | _ => none }
def fieldInvertsRow : OpenClaim := { program := "ythnpjjpdlihepaa", sum := "8bf3428cff81f3e4e346944941c939eef856592222a2ed4f9dbe97334f869125", func := "epicycle/epicyclelaw06.FieldInverts", spec := "fieldInverts", inPlace := ["math/bits.Add64"], unfollowed := true, recurses := true, named := ["math/bits.divideError", "math/bits.overflowError"], apart := false }
def FieldInvertsSaid : Prop := fieldInvertsRow.holds Try.pinned (OpenSpec.ofChange fieldInvertsSpec)

/-- ITS FALSE NEIGHBOUR: 'it returns false'. Refute it at one input. -/
def fieldInvertsWrong : ChangeSpec := { name := "fieldInverts", fn := fun _ => fun
  | [d1, d2, d3] => { results := [.lit (.bool false)], args := [d1, d2, d3] }
  | _ => none }
def FieldInvertsWrongFalsely : Prop := fieldInvertsRow.holds Try.pinned (OpenSpec.ofChange fieldInvertsWrong)

/-- 'epicyclelaw10.TwiddleVerifies': WHATEVER THE INPUT: true; the input reads as it did. -/
def twiddleVerifiesSpec : ChangeSpec := { name := "twiddleVerifies", fn := fun _ => fun
  | [d1, d2] => { results := [.lit (.bool true)], args := [d1, d2] }
  | _ => none }
def twiddleVerifiesRow : OpenClaim := { program := "ythnpjjpdlihepaa", sum := "8bf3428cff81f3e4e346944941c939eef856592222a2ed4f9dbe97334f869125", func := "epicycle/epicyclelaw10.TwiddleVerifies", spec := "twiddleVerifies", inPlace := ["math/bits.Add64"], unfollowed := true, recurses := true, named := ["math/bits.divideError", "math/bits.overflowError"], apart := false }
def TwiddleVerifiesSaid : Prop := twiddleVerifiesRow.holds Try.pinned (OpenSpec.ofChange twiddleVerifiesSpec)

/-- ITS FALSE NEIGHBOUR: 'it returns false'. Refute it at one input. -/
def twiddleVerifiesWrong : ChangeSpec := { name := "twiddleVerifies", fn := fun _ => fun
  | [d1, d2] => { results := [.lit (.bool false)], args := [d1, d2] }
  | _ => none }
def TwiddleVerifiesWrongFalsely : Prop := twiddleVerifiesRow.holds Try.pinned (OpenSpec.ofChange twiddleVerifiesWrong)

/-- 'epicyclelaw10.TwiddleCertified': WHATEVER THE INPUT: true; the input reads as it did. -/
def twiddleCertifiedSpec : ChangeSpec := { name := "twiddleCertified", fn := fun _ => fun
  | [d1, d2, d3, d4] => { results := [.lit (.bool true)], args := [d1, d2, d3, d4] }
  | _ => none }
def twiddleCertifiedRow : OpenClaim := { program := "ythnpjjpdlihepaa", sum := "8bf3428cff81f3e4e346944941c939eef856592222a2ed4f9dbe97334f869125", func := "epicycle/epicyclelaw10.TwiddleCertified", spec := "twiddleCertified", inPlace := ["math/bits.Add64"], unfollowed := true, recurses := true, named := ["math/bits.divideError", "math/bits.overflowError"], apart := false }
def TwiddleCertifiedSaid : Prop := twiddleCertifiedRow.holds Try.pinned (OpenSpec.ofChange twiddleCertifiedSpec)

/-- ITS FALSE NEIGHBOUR: 'it returns false'. Refute it at one input. -/
def twiddleCertifiedWrong : ChangeSpec := { name := "twiddleCertified", fn := fun _ => fun
  | [d1, d2, d3, d4] => { results := [.lit (.bool false)], args := [d1, d2, d3, d4] }
  | _ => none }
def TwiddleCertifiedWrongFalsely : Prop := twiddleCertifiedRow.holds Try.pinned (OpenSpec.ofChange twiddleCertifiedWrong)

/-- 'epicyclelaw10.TwiddleHalves': WHATEVER THE INPUT: true; the input reads as it did. -/
def twiddleHalvesSpec : ChangeSpec := { name := "twiddleHalves", fn := fun _ => fun
  | [d1, d2] => { results := [.lit (.bool true)], args := [d1, d2] }
  | _ => none }
def twiddleHalvesRow : OpenClaim := { program := "ythnpjjpdlihepaa", sum := "8bf3428cff81f3e4e346944941c939eef856592222a2ed4f9dbe97334f869125", func := "epicycle/epicyclelaw10.TwiddleHalves", spec := "twiddleHalves", inPlace := ["math/bits.Add64"], unfollowed := true, recurses := true, named := ["math/bits.divideError", "math/bits.overflowError"], apart := false }
def TwiddleHalvesSaid : Prop := twiddleHalvesRow.holds Try.pinned (OpenSpec.ofChange twiddleHalvesSpec)

/-- ITS FALSE NEIGHBOUR: 'it returns false'. Refute it at one input. -/
def twiddleHalvesWrong : ChangeSpec := { name := "twiddleHalves", fn := fun _ => fun
  | [d1, d2] => { results := [.lit (.bool false)], args := [d1, d2] }
  | _ => none }
def TwiddleHalvesWrongFalsely : Prop := twiddleHalvesRow.holds Try.pinned (OpenSpec.ofChange twiddleHalvesWrong)

/-- 'epicyclelaw06.FieldMakes': WHATEVER THE INPUT: true; the input reads as it did. -/
def fieldMakesSpec : ChangeSpec := { name := "fieldMakes", fn := fun _ => fun
  | [d1, d2, d3] => { results := [.lit (.bool true)], args := [d1, d2, d3] }
  | _ => none }
def fieldMakesRow : OpenClaim := { program := "ythnpjjpdlihepaa", sum := "8bf3428cff81f3e4e346944941c939eef856592222a2ed4f9dbe97334f869125", func := "epicycle/epicyclelaw06.FieldMakes", spec := "fieldMakes", inPlace := ["math/bits.Add64"], unfollowed := true, recurses := true, named := ["math/bits.divideError", "math/bits.overflowError"], apart := false }
def FieldMakesSaid : Prop := fieldMakesRow.holds Try.pinned (OpenSpec.ofChange fieldMakesSpec)

/-- ITS FALSE NEIGHBOUR: 'it returns false'. Refute it at one input. -/
def fieldMakesWrong : ChangeSpec := { name := "fieldMakes", fn := fun _ => fun
  | [d1, d2, d3] => { results := [.lit (.bool false)], args := [d1, d2, d3] }
  | _ => none }
def FieldMakesWrongFalsely : Prop := fieldMakesRow.holds Try.pinned (OpenSpec.ofChange fieldMakesWrong)

/- THE SECOND FORM. 'bulk': how many values and letters a reading holds, each counted each time it is reached (what is shared counts as often as it is met; a slice's spare places count too). A statement '..UptoSaid' is the law's where the arguments, and the package variables that the reading takes, are together of bulk at most 1048576: NARROWER than '..Said'. Prove '..Said' where nothing that the law and all that it calls make is longer than what came in: it says more and counts as full. Else prove '..UptoSaid'. A law counts once. -/
mutual
def uptoBulk {H : Type} : DataW H → Nat
  | .lit (.string bytes) => bytes.length + 1
  | .lit _ => 1
  | .nil => 1
  | .ptr d => uptoBulk d + 1
  | .slice elems spare => uptoBulkAll elems + uptoBulkAll spare + 1
  | .agg parts => uptoBulkAll parts + 1
  | .iface _ d => uptoBulk d + 1
  | .map entries => uptoBulkEntries entries + 1
  | .held _ => 1
def uptoBulkAll {H : Type} : List (DataW H) → Nat
  | [] => 0
  | d :: r => uptoBulk d + uptoBulkAll r
def uptoBulkEntries {H : Type} : List (Lit × DataW H) → Nat
  | [] => 0
  | x :: r => uptoBulkEntry x + uptoBulkEntries r
def uptoBulkEntry {H : Type} : Lit × DataW H → Nat
  | (.string bytes, d) => bytes.length + uptoBulk d + 1
  | (_, d) => uptoBulk d + 1
 end
def uptoSmall : (H : Type) → List (DataW H) → Bool := fun _ ds => decide (uptoBulkAll ds ≤ 1048576)
def OpenSpec.upto (s : _root_.Go.ChangeSpec) : _root_.Go.OpenSpec := { _root_.Go.OpenSpec.ofChange s with cond := some uptoSmall }

/-- 'epicyclelaw06.FieldRoots', WHERE WHAT IT READS IS OF BULK AT MOST 1048576: true; the input reads as it did. -/
def fieldRootsUptoRow : OpenClaim := { program := "ythnpjjpdlihepaa", sum := "8bf3428cff81f3e4e346944941c939eef856592222a2ed4f9dbe97334f869125", func := "epicycle/epicyclelaw06.FieldRoots", spec := "fieldRoots", inPlace := ["math/bits.Add64"], unfollowed := true, recurses := true, named := ["math/bits.divideError", "math/bits.overflowError"], apart := false, narrowed := true }
def FieldRootsUptoSaid : Prop := fieldRootsUptoRow.holds Try.pinned (OpenSpec.upto fieldRootsSpec)

/-- 'epicyclelaw06.FieldTree', WHERE WHAT IT READS IS OF BULK AT MOST 1048576: true; the input reads as it did. -/
def fieldTreeUptoRow : OpenClaim := { program := "ythnpjjpdlihepaa", sum := "8bf3428cff81f3e4e346944941c939eef856592222a2ed4f9dbe97334f869125", func := "epicycle/epicyclelaw06.FieldTree", spec := "fieldTree", inPlace := ["math/bits.Add64"], unfollowed := true, recurses := true, named := ["math/bits.divideError", "math/bits.overflowError"], apart := false, narrowed := true }
def FieldTreeUptoSaid : Prop := fieldTreeUptoRow.holds Try.pinned (OpenSpec.upto fieldTreeSpec)

/-- 'epicyclelaw06.FieldSums', WHERE WHAT IT READS IS OF BULK AT MOST 1048576: true; the input reads as it did. -/
def fieldSumsUptoRow : OpenClaim := { program := "ythnpjjpdlihepaa", sum := "8bf3428cff81f3e4e346944941c939eef856592222a2ed4f9dbe97334f869125", func := "epicycle/epicyclelaw06.FieldSums", spec := "fieldSums", inPlace := ["math/bits.Add64"], unfollowed := true, recurses := true, named := ["math/bits.divideError", "math/bits.overflowError"], apart := false, narrowed := true }
def FieldSumsUptoSaid : Prop := fieldSumsUptoRow.holds Try.pinned (OpenSpec.upto fieldSumsSpec)

/-- 'epicyclelaw06.FieldFermat', WHERE WHAT IT READS IS OF BULK AT MOST 1048576: true; the input reads as it did. -/
def fieldFermatUptoRow : OpenClaim := { program := "ythnpjjpdlihepaa", sum := "8bf3428cff81f3e4e346944941c939eef856592222a2ed4f9dbe97334f869125", func := "epicycle/epicyclelaw06.FieldFermat", spec := "fieldFermat", inPlace := ["math/bits.Add64"], unfollowed := true, recurses := true, named := ["math/bits.divideError", "math/bits.overflowError"], apart := false, narrowed := true }
def FieldFermatUptoSaid : Prop := fieldFermatUptoRow.holds Try.pinned (OpenSpec.upto fieldFermatSpec)

/-- 'epicyclelaw06.FieldInverts', WHERE WHAT IT READS IS OF BULK AT MOST 1048576: true; the input reads as it did. -/
def fieldInvertsUptoRow : OpenClaim := { program := "ythnpjjpdlihepaa", sum := "8bf3428cff81f3e4e346944941c939eef856592222a2ed4f9dbe97334f869125", func := "epicycle/epicyclelaw06.FieldInverts", spec := "fieldInverts", inPlace := ["math/bits.Add64"], unfollowed := true, recurses := true, named := ["math/bits.divideError", "math/bits.overflowError"], apart := false, narrowed := true }
def FieldInvertsUptoSaid : Prop := fieldInvertsUptoRow.holds Try.pinned (OpenSpec.upto fieldInvertsSpec)

/-- 'epicyclelaw10.TwiddleVerifies', WHERE WHAT IT READS IS OF BULK AT MOST 1048576: true; the input reads as it did. -/
def twiddleVerifiesUptoRow : OpenClaim := { program := "ythnpjjpdlihepaa", sum := "8bf3428cff81f3e4e346944941c939eef856592222a2ed4f9dbe97334f869125", func := "epicycle/epicyclelaw10.TwiddleVerifies", spec := "twiddleVerifies", inPlace := ["math/bits.Add64"], unfollowed := true, recurses := true, named := ["math/bits.divideError", "math/bits.overflowError"], apart := false, narrowed := true }
def TwiddleVerifiesUptoSaid : Prop := twiddleVerifiesUptoRow.holds Try.pinned (OpenSpec.upto twiddleVerifiesSpec)

/-- 'epicyclelaw10.TwiddleCertified', WHERE WHAT IT READS IS OF BULK AT MOST 1048576: true; the input reads as it did. -/
def twiddleCertifiedUptoRow : OpenClaim := { program := "ythnpjjpdlihepaa", sum := "8bf3428cff81f3e4e346944941c939eef856592222a2ed4f9dbe97334f869125", func := "epicycle/epicyclelaw10.TwiddleCertified", spec := "twiddleCertified", inPlace := ["math/bits.Add64"], unfollowed := true, recurses := true, named := ["math/bits.divideError", "math/bits.overflowError"], apart := false, narrowed := true }
def TwiddleCertifiedUptoSaid : Prop := twiddleCertifiedUptoRow.holds Try.pinned (OpenSpec.upto twiddleCertifiedSpec)

/-- 'epicyclelaw10.TwiddleHalves', WHERE WHAT IT READS IS OF BULK AT MOST 1048576: true; the input reads as it did. -/
def twiddleHalvesUptoRow : OpenClaim := { program := "ythnpjjpdlihepaa", sum := "8bf3428cff81f3e4e346944941c939eef856592222a2ed4f9dbe97334f869125", func := "epicycle/epicyclelaw10.TwiddleHalves", spec := "twiddleHalves", inPlace := ["math/bits.Add64"], unfollowed := true, recurses := true, named := ["math/bits.divideError", "math/bits.overflowError"], apart := false, narrowed := true }
def TwiddleHalvesUptoSaid : Prop := twiddleHalvesUptoRow.holds Try.pinned (OpenSpec.upto twiddleHalvesSpec)

/-- 'epicyclelaw06.FieldMakes', WHERE WHAT IT READS IS OF BULK AT MOST 1048576: true; the input reads as it did. -/
def fieldMakesUptoRow : OpenClaim := { program := "ythnpjjpdlihepaa", sum := "8bf3428cff81f3e4e346944941c939eef856592222a2ed4f9dbe97334f869125", func := "epicycle/epicyclelaw06.FieldMakes", spec := "fieldMakes", inPlace := ["math/bits.Add64"], unfollowed := true, recurses := true, named := ["math/bits.divideError", "math/bits.overflowError"], apart := false, narrowed := true }
def FieldMakesUptoSaid : Prop := fieldMakesUptoRow.holds Try.pinned (OpenSpec.upto fieldMakesSpec)

end Rows
end Go.Proofs.Ythnpjjpdlihepaa
