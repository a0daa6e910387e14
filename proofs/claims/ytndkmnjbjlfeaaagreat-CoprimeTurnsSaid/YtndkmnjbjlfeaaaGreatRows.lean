/-
  No cell of these rows narrows 'for every input' (looked for: loops, veiled, ifaces, maps, wideKeys, modest, calm, conditions, laid).
  DERIVED. THE GIVEN ROWS OF THIS SEAT. 13 by the template 'for every input the law returns true; each argument reads behind the call as it read before'; 0 by the template 'total and deterministic' (their statements: YtndkmnjbjlfeaaaGreatTotals.lean).
  GIVEN WITH THE SEED: the statements are not yours to turn. If you find one false, say at which input.
  Laid BY PROGRAM, IN A SANDBOX (cutbox-rows.mjs): the forced cells as the released guide's own fill.sh prints them over the translation ecb044c5239c7ccd… (all of the seat's roots in one cut). By AI agents, Wed Nov 11 2026. No macro, syntax, notation, axiom, sorry.
-/
import Derived.Test.YtndkmnjbjlfeaaaGreatChecked
import GoSem.Claim
import GoSem.ClaimJoined
import GoSem.ClaimMapViews
import Derived.JoinedTies
import Derived.KernelRfl
namespace Go.Proofs.YtndkmnjbjlfeaaaGreat
/- THE CELL 'sum', in the pinned program and in every row, IS THE sha256 OF THE DUMP (.gsa) THAT YtndkmnjbjlfeaaaGreatProg.lean LOADS. Nothing in Lean hashes anything: it is a label: what it is worth is what the hold of that sum in a sandbox is worth. -/
noncomputable def Tryz.pinned : Pinned := { name := "ytndkmnjbjlfeaaagreat", sum := "ecb044c5239c7ccde14cd8e514e60dd00ef9acd2a4e65a68e1a56930173d4fcf", checked := Tryz.checked }
namespace Rows
def none {H : Type} : Left H := { results := [], args := [] }

/-- 'epicyclelaw11.DftIs': WHATEVER THE INPUT: true; the input reads as it did. -/
def dftIsSpec : ChangeSpec := { name := "dftIs", fn := fun _ => fun
  | [d1, d2, d3] => { results := [.lit (.bool true)], args := [d1, d2, d3] }
  | _ => none }
def dftIsRow : OpenClaim := { program := "ytndkmnjbjlfeaaagreat", sum := "ecb044c5239c7ccde14cd8e514e60dd00ef9acd2a4e65a68e1a56930173d4fcf", func := "epicycle/epicyclelaw11.DftIs", spec := "dftIs", inPlace := ["math/bits.Add64"], unfollowed := true, recurses := true, named := ["math/bits.divideError", "math/bits.overflowError"], plainKeys := false, apart := false }
def DftIsSaid : Prop := dftIsRow.holds Tryz.pinned (OpenSpec.ofChange dftIsSpec)

/-- ITS FALSE NEIGHBOUR: 'it returns false'. Refute it at one input. -/
def dftIsWrong : ChangeSpec := { name := "dftIs", fn := fun _ => fun
  | [d1, d2, d3] => { results := [.lit (.bool false)], args := [d1, d2, d3] }
  | _ => none }
def DftIsWrongFalsely : Prop := dftIsRow.holds Tryz.pinned (OpenSpec.ofChange dftIsWrong)

/-- 'epicyclelaw11.DftHelps': WHATEVER THE INPUT: true; the input reads as it did. -/
def dftHelpsSpec : ChangeSpec := { name := "dftHelps", fn := fun _ => fun
  | [d1, d2, d3, d4] => { results := [.lit (.bool true)], args := [d1, d2, d3, d4] }
  | _ => none }
def dftHelpsRow : OpenClaim := { program := "ytndkmnjbjlfeaaagreat", sum := "ecb044c5239c7ccde14cd8e514e60dd00ef9acd2a4e65a68e1a56930173d4fcf", func := "epicycle/epicyclelaw11.DftHelps", spec := "dftHelps", inPlace := ["math/bits.Add64"], unfollowed := true, recurses := true, named := ["math/bits.divideError", "math/bits.overflowError"], plainKeys := false, apart := false }
def DftHelpsSaid : Prop := dftHelpsRow.holds Tryz.pinned (OpenSpec.ofChange dftHelpsSpec)

/-- ITS FALSE NEIGHBOUR: 'it returns false'. Refute it at one input. -/
def dftHelpsWrong : ChangeSpec := { name := "dftHelps", fn := fun _ => fun
  | [d1, d2, d3, d4] => { results := [.lit (.bool false)], args := [d1, d2, d3, d4] }
  | _ => none }
def DftHelpsWrongFalsely : Prop := dftHelpsRow.holds Tryz.pinned (OpenSpec.ofChange dftHelpsWrong)

/-- 'epicyclelaw11.DftBack': WHATEVER THE INPUT: true; the input reads as it did. -/
def dftBackSpec : ChangeSpec := { name := "dftBack", fn := fun _ => fun
  | [d1, d2] => { results := [.lit (.bool true)], args := [d1, d2] }
  | _ => none }
def dftBackRow : OpenClaim := { program := "ytndkmnjbjlfeaaagreat", sum := "ecb044c5239c7ccde14cd8e514e60dd00ef9acd2a4e65a68e1a56930173d4fcf", func := "epicycle/epicyclelaw11.DftBack", spec := "dftBack", inPlace := ["math/bits.Add64"], unfollowed := true, recurses := true, named := ["math/bits.divideError", "math/bits.overflowError"], plainKeys := false, apart := false }
def DftBackSaid : Prop := dftBackRow.holds Tryz.pinned (OpenSpec.ofChange dftBackSpec)

/-- ITS FALSE NEIGHBOUR: 'it returns false'. Refute it at one input. -/
def dftBackWrong : ChangeSpec := { name := "dftBack", fn := fun _ => fun
  | [d1, d2] => { results := [.lit (.bool false)], args := [d1, d2] }
  | _ => none }
def DftBackWrongFalsely : Prop := dftBackRow.holds Tryz.pinned (OpenSpec.ofChange dftBackWrong)

/-- 'epicyclelaw11.DftLinear': WHATEVER THE INPUT: true; the input reads as it did. -/
def dftLinearSpec : ChangeSpec := { name := "dftLinear", fn := fun _ => fun
  | [d1, d2, d3, d4, d5] => { results := [.lit (.bool true)], args := [d1, d2, d3, d4, d5] }
  | _ => none }
def dftLinearRow : OpenClaim := { program := "ytndkmnjbjlfeaaagreat", sum := "ecb044c5239c7ccde14cd8e514e60dd00ef9acd2a4e65a68e1a56930173d4fcf", func := "epicycle/epicyclelaw11.DftLinear", spec := "dftLinear", inPlace := ["math/bits.Add64"], unfollowed := true, recurses := true, named := ["math/bits.divideError", "math/bits.overflowError"], plainKeys := false, apart := false }
def DftLinearSaid : Prop := dftLinearRow.holds Tryz.pinned (OpenSpec.ofChange dftLinearSpec)

/-- ITS FALSE NEIGHBOUR: 'it returns false'. Refute it at one input. -/
def dftLinearWrong : ChangeSpec := { name := "dftLinear", fn := fun _ => fun
  | [d1, d2, d3, d4, d5] => { results := [.lit (.bool false)], args := [d1, d2, d3, d4, d5] }
  | _ => none }
def DftLinearWrongFalsely : Prop := dftLinearRow.holds Tryz.pinned (OpenSpec.ofChange dftLinearWrong)

/-- 'epicyclelaw11.DftMoves': WHATEVER THE INPUT: true; the input reads as it did. -/
def dftMovesSpec : ChangeSpec := { name := "dftMoves", fn := fun _ => fun
  | [d1, d2, d3] => { results := [.lit (.bool true)], args := [d1, d2, d3] }
  | _ => none }
def dftMovesRow : OpenClaim := { program := "ytndkmnjbjlfeaaagreat", sum := "ecb044c5239c7ccde14cd8e514e60dd00ef9acd2a4e65a68e1a56930173d4fcf", func := "epicycle/epicyclelaw11.DftMoves", spec := "dftMoves", inPlace := ["math/bits.Add64"], unfollowed := true, recurses := true, named := ["math/bits.divideError", "math/bits.overflowError"], plainKeys := false, apart := false }
def DftMovesSaid : Prop := dftMovesRow.holds Tryz.pinned (OpenSpec.ofChange dftMovesSpec)

/-- ITS FALSE NEIGHBOUR: 'it returns false'. Refute it at one input. -/
def dftMovesWrong : ChangeSpec := { name := "dftMoves", fn := fun _ => fun
  | [d1, d2, d3] => { results := [.lit (.bool false)], args := [d1, d2, d3] }
  | _ => none }
def DftMovesWrongFalsely : Prop := dftMovesRow.holds Tryz.pinned (OpenSpec.ofChange dftMovesWrong)

/-- 'epicyclelaw11.DftTwice': WHATEVER THE INPUT: true; the input reads as it did. -/
def dftTwiceSpec : ChangeSpec := { name := "dftTwice", fn := fun _ => fun
  | [d1, d2] => { results := [.lit (.bool true)], args := [d1, d2] }
  | _ => none }
def dftTwiceRow : OpenClaim := { program := "ytndkmnjbjlfeaaagreat", sum := "ecb044c5239c7ccde14cd8e514e60dd00ef9acd2a4e65a68e1a56930173d4fcf", func := "epicycle/epicyclelaw11.DftTwice", spec := "dftTwice", inPlace := ["math/bits.Add64"], unfollowed := true, recurses := true, named := ["math/bits.divideError", "math/bits.overflowError"], plainKeys := false, apart := false }
def DftTwiceSaid : Prop := dftTwiceRow.holds Tryz.pinned (OpenSpec.ofChange dftTwiceSpec)

/-- ITS FALSE NEIGHBOUR: 'it returns false'. Refute it at one input. -/
def dftTwiceWrong : ChangeSpec := { name := "dftTwice", fn := fun _ => fun
  | [d1, d2] => { results := [.lit (.bool false)], args := [d1, d2] }
  | _ => none }
def DftTwiceWrongFalsely : Prop := dftTwiceRow.holds Tryz.pinned (OpenSpec.ofChange dftTwiceWrong)

/-- 'epicyclelaw11.DftPairs': WHATEVER THE INPUT: true; the input reads as it did. -/
def dftPairsSpec : ChangeSpec := { name := "dftPairs", fn := fun _ => fun
  | [d1, d2, d3] => { results := [.lit (.bool true)], args := [d1, d2, d3] }
  | _ => none }
def dftPairsRow : OpenClaim := { program := "ytndkmnjbjlfeaaagreat", sum := "ecb044c5239c7ccde14cd8e514e60dd00ef9acd2a4e65a68e1a56930173d4fcf", func := "epicycle/epicyclelaw11.DftPairs", spec := "dftPairs", inPlace := ["math/bits.Add64"], unfollowed := true, recurses := true, named := ["math/bits.divideError", "math/bits.overflowError"], plainKeys := false, apart := false }
def DftPairsSaid : Prop := dftPairsRow.holds Tryz.pinned (OpenSpec.ofChange dftPairsSpec)

/-- ITS FALSE NEIGHBOUR: 'it returns false'. Refute it at one input. -/
def dftPairsWrong : ChangeSpec := { name := "dftPairs", fn := fun _ => fun
  | [d1, d2, d3] => { results := [.lit (.bool false)], args := [d1, d2, d3] }
  | _ => none }
def DftPairsWrongFalsely : Prop := dftPairsRow.holds Tryz.pinned (OpenSpec.ofChange dftPairsWrong)

/-- 'epicyclelaw14.MixedIs': WHATEVER THE INPUT: true; the input reads as it did. -/
def mixedIsSpec : ChangeSpec := { name := "mixedIs", fn := fun _ => fun
  | [d1, d2, d3] => { results := [.lit (.bool true)], args := [d1, d2, d3] }
  | _ => none }
def mixedIsRow : OpenClaim := { program := "ytndkmnjbjlfeaaagreat", sum := "ecb044c5239c7ccde14cd8e514e60dd00ef9acd2a4e65a68e1a56930173d4fcf", func := "epicycle/epicyclelaw14.MixedIs", spec := "mixedIs", inPlace := ["math/bits.Add64"], unfollowed := true, recurses := true, named := ["math/bits.divideError", "math/bits.overflowError"], plainKeys := false, apart := false }
def MixedIsSaid : Prop := mixedIsRow.holds Tryz.pinned (OpenSpec.ofChange mixedIsSpec)

/-- ITS FALSE NEIGHBOUR: 'it returns false'. Refute it at one input. -/
def mixedIsWrong : ChangeSpec := { name := "mixedIs", fn := fun _ => fun
  | [d1, d2, d3] => { results := [.lit (.bool false)], args := [d1, d2, d3] }
  | _ => none }
def MixedIsWrongFalsely : Prop := mixedIsRow.holds Tryz.pinned (OpenSpec.ofChange mixedIsWrong)

/-- 'epicyclelaw14.MixedBack': WHATEVER THE INPUT: true; the input reads as it did. -/
def mixedBackSpec : ChangeSpec := { name := "mixedBack", fn := fun _ => fun
  | [d1, d2, d3] => { results := [.lit (.bool true)], args := [d1, d2, d3] }
  | _ => none }
def mixedBackRow : OpenClaim := { program := "ytndkmnjbjlfeaaagreat", sum := "ecb044c5239c7ccde14cd8e514e60dd00ef9acd2a4e65a68e1a56930173d4fcf", func := "epicycle/epicyclelaw14.MixedBack", spec := "mixedBack", inPlace := ["math/bits.Add64"], unfollowed := true, recurses := true, named := ["math/bits.divideError", "math/bits.overflowError"], plainKeys := false, apart := false }
def MixedBackSaid : Prop := mixedBackRow.holds Tryz.pinned (OpenSpec.ofChange mixedBackSpec)

/-- ITS FALSE NEIGHBOUR: 'it returns false'. Refute it at one input. -/
def mixedBackWrong : ChangeSpec := { name := "mixedBack", fn := fun _ => fun
  | [d1, d2, d3] => { results := [.lit (.bool false)], args := [d1, d2, d3] }
  | _ => none }
def MixedBackWrongFalsely : Prop := mixedBackRow.holds Tryz.pinned (OpenSpec.ofChange mixedBackWrong)

/-- 'epicyclelaw14.MixedParts': WHATEVER THE INPUT: true; the input reads as it did. -/
def mixedPartsSpec : ChangeSpec := { name := "mixedParts", fn := fun _ => fun
  | [d1, d2, d3] => { results := [.lit (.bool true)], args := [d1, d2, d3] }
  | _ => none }
def mixedPartsRow : OpenClaim := { program := "ytndkmnjbjlfeaaagreat", sum := "ecb044c5239c7ccde14cd8e514e60dd00ef9acd2a4e65a68e1a56930173d4fcf", func := "epicycle/epicyclelaw14.MixedParts", spec := "mixedParts", inPlace := ["math/bits.Add64"], unfollowed := true, recurses := true, named := ["math/bits.divideError", "math/bits.overflowError"], plainKeys := false, apart := false }
def MixedPartsSaid : Prop := mixedPartsRow.holds Tryz.pinned (OpenSpec.ofChange mixedPartsSpec)

/-- ITS FALSE NEIGHBOUR: 'it returns false'. Refute it at one input. -/
def mixedPartsWrong : ChangeSpec := { name := "mixedParts", fn := fun _ => fun
  | [d1, d2, d3] => { results := [.lit (.bool false)], args := [d1, d2, d3] }
  | _ => none }
def MixedPartsWrongFalsely : Prop := mixedPartsRow.holds Tryz.pinned (OpenSpec.ofChange mixedPartsWrong)

/-- 'epicyclelaw19.CacheHides': WHATEVER THE INPUT: true; the input reads as it did. -/
def cacheHidesSpec : ChangeSpec := { name := "cacheHides", fn := fun _ => fun
  | [d1, d2, d3] => { results := [.lit (.bool true)], args := [d1, d2, d3] }
  | _ => none }
def cacheHidesRow : OpenClaim := { program := "ytndkmnjbjlfeaaagreat", sum := "ecb044c5239c7ccde14cd8e514e60dd00ef9acd2a4e65a68e1a56930173d4fcf", func := "epicycle/epicyclelaw19.CacheHides", spec := "cacheHides", inPlace := ["math/bits.Add64"], unfollowed := true, recurses := true, named := ["math/bits.divideError", "math/bits.overflowError"], plainKeys := false, apart := false }
def CacheHidesSaid : Prop := cacheHidesRow.holds Tryz.pinned (OpenSpec.ofChange cacheHidesSpec)

/-- ITS FALSE NEIGHBOUR: 'it returns false'. Refute it at one input. -/
def cacheHidesWrong : ChangeSpec := { name := "cacheHides", fn := fun _ => fun
  | [d1, d2, d3] => { results := [.lit (.bool false)], args := [d1, d2, d3] }
  | _ => none }
def CacheHidesWrongFalsely : Prop := cacheHidesRow.holds Tryz.pinned (OpenSpec.ofChange cacheHidesWrong)

/-- 'epicyclelaw15.CoprimeIs': WHATEVER THE INPUT: true; the input reads as it did. -/
def coprimeIsSpec : ChangeSpec := { name := "coprimeIs", fn := fun _ => fun
  | [d1, d2, d3, d4] => { results := [.lit (.bool true)], args := [d1, d2, d3, d4] }
  | _ => none }
def coprimeIsRow : OpenClaim := { program := "ytndkmnjbjlfeaaagreat", sum := "ecb044c5239c7ccde14cd8e514e60dd00ef9acd2a4e65a68e1a56930173d4fcf", func := "epicycle/epicyclelaw15.CoprimeIs", spec := "coprimeIs", inPlace := ["math/bits.Add64"], unfollowed := true, recurses := true, named := ["math/bits.divideError", "math/bits.overflowError"], plainKeys := false, apart := false }
def CoprimeIsSaid : Prop := coprimeIsRow.holds Tryz.pinned (OpenSpec.ofChange coprimeIsSpec)

/-- ITS FALSE NEIGHBOUR: 'it returns false'. Refute it at one input. -/
def coprimeIsWrong : ChangeSpec := { name := "coprimeIs", fn := fun _ => fun
  | [d1, d2, d3, d4] => { results := [.lit (.bool false)], args := [d1, d2, d3, d4] }
  | _ => none }
def CoprimeIsWrongFalsely : Prop := coprimeIsRow.holds Tryz.pinned (OpenSpec.ofChange coprimeIsWrong)

/-- 'epicyclelaw15.CoprimeTurns': WHATEVER THE INPUT: true; the input reads as it did. -/
def coprimeTurnsSpec : ChangeSpec := { name := "coprimeTurns", fn := fun _ => fun
  | [d1, d2, d3, d4] => { results := [.lit (.bool true)], args := [d1, d2, d3, d4] }
  | _ => none }
def coprimeTurnsRow : OpenClaim := { program := "ytndkmnjbjlfeaaagreat", sum := "ecb044c5239c7ccde14cd8e514e60dd00ef9acd2a4e65a68e1a56930173d4fcf", func := "epicycle/epicyclelaw15.CoprimeTurns", spec := "coprimeTurns", inPlace := ["math/bits.Add64"], unfollowed := true, recurses := true, named := ["math/bits.divideError", "math/bits.overflowError"], plainKeys := false, apart := false }
def CoprimeTurnsSaid : Prop := coprimeTurnsRow.holds Tryz.pinned (OpenSpec.ofChange coprimeTurnsSpec)

/-- ITS FALSE NEIGHBOUR: 'it returns false'. Refute it at one input. -/
def coprimeTurnsWrong : ChangeSpec := { name := "coprimeTurns", fn := fun _ => fun
  | [d1, d2, d3, d4] => { results := [.lit (.bool false)], args := [d1, d2, d3, d4] }
  | _ => none }
def CoprimeTurnsWrongFalsely : Prop := coprimeTurnsRow.holds Tryz.pinned (OpenSpec.ofChange coprimeTurnsWrong)

/- THE SECOND FORM. 'bulk': how many values and letters a reading holds, each counted each time it is reached (what is shared counts as often as it is met; a slice's spare places count too). A statement '..UptoSaid' is the law's where the arguments, and the package variables that the reading takes, are together of bulk at most 1048576: NARROWER than '..Said'. Prove '..Said' where nothing that the law and all that it calls make is longer than what came in: it says more and counts as full. Else prove '..UptoSaid'. A law counts once. -/
mutual
def uptoBulk {H : Type} : DataW H → Nat
  | .lit (.string bytes) => bytes.length + 1
  | .lit _ => 1
  | .nil => 1
  | .ptr d => uptoBulk d + 1
  | .slice elems spare => uptoBulkAll elems + uptoBulkAll spare + 1
  | .agg parts => uptoBulkAll parts + 1
  | .iface _ d => uptoBulk d + 1
  | .map entries => uptoBulkEntries entries + 1
  | .held _ => 1
def uptoBulkAll {H : Type} : List (DataW H) → Nat
  | [] => 0
  | d :: r => uptoBulk d + uptoBulkAll r
def uptoBulkEntries {H : Type} : List (Lit × DataW H) → Nat
  | [] => 0
  | x :: r => uptoBulkEntry x + uptoBulkEntries r
def uptoBulkEntry {H : Type} : Lit × DataW H → Nat
  | (.string bytes, d) => bytes.length + uptoBulk d + 1
  | (_, d) => uptoBulk d + 1
 end
def uptoSmall : (H : Type) → List (DataW H) → Bool := fun _ ds => decide (uptoBulkAll ds ≤ 1048576)
def OpenSpec.upto (s : _root_.Go.ChangeSpec) : _root_.Go.OpenSpec := { _root_.Go.OpenSpec.ofChange s with cond := some uptoSmall }

/-- 'epicyclelaw11.DftIs', WHERE WHAT IT READS IS OF BULK AT MOST 1048576: true; the input reads as it did. -/
def dftIsUptoRow : OpenClaim := { program := "ytndkmnjbjlfeaaagreat", sum := "ecb044c5239c7ccde14cd8e514e60dd00ef9acd2a4e65a68e1a56930173d4fcf", func := "epicycle/epicyclelaw11.DftIs", spec := "dftIs", inPlace := ["math/bits.Add64"], unfollowed := true, recurses := true, named := ["math/bits.divideError", "math/bits.overflowError"], plainKeys := false, apart := false, narrowed := true }
def DftIsUptoSaid : Prop := dftIsUptoRow.holds Tryz.pinned (OpenSpec.upto dftIsSpec)

/-- 'epicyclelaw11.DftHelps', WHERE WHAT IT READS IS OF BULK AT MOST 1048576: true; the input reads as it did. -/
def dftHelpsUptoRow : OpenClaim := { program := "ytndkmnjbjlfeaaagreat", sum := "ecb044c5239c7ccde14cd8e514e60dd00ef9acd2a4e65a68e1a56930173d4fcf", func := "epicycle/epicyclelaw11.DftHelps", spec := "dftHelps", inPlace := ["math/bits.Add64"], unfollowed := true, recurses := true, named := ["math/bits.divideError", "math/bits.overflowError"], plainKeys := false, apart := false, narrowed := true }
def DftHelpsUptoSaid : Prop := dftHelpsUptoRow.holds Tryz.pinned (OpenSpec.upto dftHelpsSpec)

/-- 'epicyclelaw11.DftBack', WHERE WHAT IT READS IS OF BULK AT MOST 1048576: true; the input reads as it did. -/
def dftBackUptoRow : OpenClaim := { program := "ytndkmnjbjlfeaaagreat", sum := "ecb044c5239c7ccde14cd8e514e60dd00ef9acd2a4e65a68e1a56930173d4fcf", func := "epicycle/epicyclelaw11.DftBack", spec := "dftBack", inPlace := ["math/bits.Add64"], unfollowed := true, recurses := true, named := ["math/bits.divideError", "math/bits.overflowError"], plainKeys := false, apart := false, narrowed := true }
def DftBackUptoSaid : Prop := dftBackUptoRow.holds Tryz.pinned (OpenSpec.upto dftBackSpec)

/-- 'epicyclelaw11.DftLinear', WHERE WHAT IT READS IS OF BULK AT MOST 1048576: true; the input reads as it did. -/
def dftLinearUptoRow : OpenClaim := { program := "ytndkmnjbjlfeaaagreat", sum := "ecb044c5239c7ccde14cd8e514e60dd00ef9acd2a4e65a68e1a56930173d4fcf", func := "epicycle/epicyclelaw11.DftLinear", spec := "dftLinear", inPlace := ["math/bits.Add64"], unfollowed := true, recurses := true, named := ["math/bits.divideError", "math/bits.overflowError"], plainKeys := false, apart := false, narrowed := true }
def DftLinearUptoSaid : Prop := dftLinearUptoRow.holds Tryz.pinned (OpenSpec.upto dftLinearSpec)

/-- 'epicyclelaw11.DftMoves', WHERE WHAT IT READS IS OF BULK AT MOST 1048576: true; the input reads as it did. -/
def dftMovesUptoRow : OpenClaim := { program := "ytndkmnjbjlfeaaagreat", sum := "ecb044c5239c7ccde14cd8e514e60dd00ef9acd2a4e65a68e1a56930173d4fcf", func := "epicycle/epicyclelaw11.DftMoves", spec := "dftMoves", inPlace := ["math/bits.Add64"], unfollowed := true, recurses := true, named := ["math/bits.divideError", "math/bits.overflowError"], plainKeys := false, apart := false, narrowed := true }
def DftMovesUptoSaid : Prop := dftMovesUptoRow.holds Tryz.pinned (OpenSpec.upto dftMovesSpec)

/-- 'epicyclelaw11.DftTwice', WHERE WHAT IT READS IS OF BULK AT MOST 1048576: true; the input reads as it did. -/
def dftTwiceUptoRow : OpenClaim := { program := "ytndkmnjbjlfeaaagreat", sum := "ecb044c5239c7ccde14cd8e514e60dd00ef9acd2a4e65a68e1a56930173d4fcf", func := "epicycle/epicyclelaw11.DftTwice", spec := "dftTwice", inPlace := ["math/bits.Add64"], unfollowed := true, recurses := true, named := ["math/bits.divideError", "math/bits.overflowError"], plainKeys := false, apart := false, narrowed := true }
def DftTwiceUptoSaid : Prop := dftTwiceUptoRow.holds Tryz.pinned (OpenSpec.upto dftTwiceSpec)

/-- 'epicyclelaw11.DftPairs', WHERE WHAT IT READS IS OF BULK AT MOST 1048576: true; the input reads as it did. -/
def dftPairsUptoRow : OpenClaim := { program := "ytndkmnjbjlfeaaagreat", sum := "ecb044c5239c7ccde14cd8e514e60dd00ef9acd2a4e65a68e1a56930173d4fcf", func := "epicycle/epicyclelaw11.DftPairs", spec := "dftPairs", inPlace := ["math/bits.Add64"], unfollowed := true, recurses := true, named := ["math/bits.divideError", "math/bits.overflowError"], plainKeys := false, apart := false, narrowed := true }
def DftPairsUptoSaid : Prop := dftPairsUptoRow.holds Tryz.pinned (OpenSpec.upto dftPairsSpec)

/-- 'epicyclelaw14.MixedIs', WHERE WHAT IT READS IS OF BULK AT MOST 1048576: true; the input reads as it did. -/
def mixedIsUptoRow : OpenClaim := { program := "ytndkmnjbjlfeaaagreat", sum := "ecb044c5239c7ccde14cd8e514e60dd00ef9acd2a4e65a68e1a56930173d4fcf", func := "epicycle/epicyclelaw14.MixedIs", spec := "mixedIs", inPlace := ["math/bits.Add64"], unfollowed := true, recurses := true, named := ["math/bits.divideError", "math/bits.overflowError"], plainKeys := false, apart := false, narrowed := true }
def MixedIsUptoSaid : Prop := mixedIsUptoRow.holds Tryz.pinned (OpenSpec.upto mixedIsSpec)

/-- 'epicyclelaw14.MixedBack', WHERE WHAT IT READS IS OF BULK AT MOST 1048576: true; the input reads as it did. -/
def mixedBackUptoRow : OpenClaim := { program := "ytndkmnjbjlfeaaagreat", sum := "ecb044c5239c7ccde14cd8e514e60dd00ef9acd2a4e65a68e1a56930173d4fcf", func := "epicycle/epicyclelaw14.MixedBack", spec := "mixedBack", inPlace := ["math/bits.Add64"], unfollowed := true, recurses := true, named := ["math/bits.divideError", "math/bits.overflowError"], plainKeys := false, apart := false, narrowed := true }
def MixedBackUptoSaid : Prop := mixedBackUptoRow.holds Tryz.pinned (OpenSpec.upto mixedBackSpec)

/-- 'epicyclelaw14.MixedParts', WHERE WHAT IT READS IS OF BULK AT MOST 1048576: true; the input reads as it did. -/
def mixedPartsUptoRow : OpenClaim := { program := "ytndkmnjbjlfeaaagreat", sum := "ecb044c5239c7ccde14cd8e514e60dd00ef9acd2a4e65a68e1a56930173d4fcf", func := "epicycle/epicyclelaw14.MixedParts", spec := "mixedParts", inPlace := ["math/bits.Add64"], unfollowed := true, recurses := true, named := ["math/bits.divideError", "math/bits.overflowError"], plainKeys := false, apart := false, narrowed := true }
def MixedPartsUptoSaid : Prop := mixedPartsUptoRow.holds Tryz.pinned (OpenSpec.upto mixedPartsSpec)

/-- 'epicyclelaw19.CacheHides', WHERE WHAT IT READS IS OF BULK AT MOST 1048576: true; the input reads as it did. -/
def cacheHidesUptoRow : OpenClaim := { program := "ytndkmnjbjlfeaaagreat", sum := "ecb044c5239c7ccde14cd8e514e60dd00ef9acd2a4e65a68e1a56930173d4fcf", func := "epicycle/epicyclelaw19.CacheHides", spec := "cacheHides", inPlace := ["math/bits.Add64"], unfollowed := true, recurses := true, named := ["math/bits.divideError", "math/bits.overflowError"], plainKeys := false, apart := false, narrowed := true }
def CacheHidesUptoSaid : Prop := cacheHidesUptoRow.holds Tryz.pinned (OpenSpec.upto cacheHidesSpec)

/-- 'epicyclelaw15.CoprimeIs', WHERE WHAT IT READS IS OF BULK AT MOST 1048576: true; the input reads as it did. -/
def coprimeIsUptoRow : OpenClaim := { program := "ytndkmnjbjlfeaaagreat", sum := "ecb044c5239c7ccde14cd8e514e60dd00ef9acd2a4e65a68e1a56930173d4fcf", func := "epicycle/epicyclelaw15.CoprimeIs", spec := "coprimeIs", inPlace := ["math/bits.Add64"], unfollowed := true, recurses := true, named := ["math/bits.divideError", "math/bits.overflowError"], plainKeys := false, apart := false, narrowed := true }
def CoprimeIsUptoSaid : Prop := coprimeIsUptoRow.holds Tryz.pinned (OpenSpec.upto coprimeIsSpec)

/-- 'epicyclelaw15.CoprimeTurns', WHERE WHAT IT READS IS OF BULK AT MOST 1048576: true; the input reads as it did. -/
def coprimeTurnsUptoRow : OpenClaim := { program := "ytndkmnjbjlfeaaagreat", sum := "ecb044c5239c7ccde14cd8e514e60dd00ef9acd2a4e65a68e1a56930173d4fcf", func := "epicycle/epicyclelaw15.CoprimeTurns", spec := "coprimeTurns", inPlace := ["math/bits.Add64"], unfollowed := true, recurses := true, named := ["math/bits.divideError", "math/bits.overflowError"], plainKeys := false, apart := false, narrowed := true }
def CoprimeTurnsUptoSaid : Prop := coprimeTurnsUptoRow.holds Tryz.pinned (OpenSpec.upto coprimeTurnsSpec)

end Rows
end Go.Proofs.YtndkmnjbjlfeaaaGreat
