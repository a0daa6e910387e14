/-
  No cell of these rows narrows 'for every input' (looked for: loops, veiled, ifaces, maps, wideKeys, modest, calm, conditions, laid).
  DERIVED. THE GIVEN ROWS OF THIS SEAT. 5 by the template 'for every input the law returns true; each argument reads behind the call as it read before'; 0 by the template 'total and deterministic' (their statements: YtlpbfhbfaphicaaTotals.lean).
  GIVEN WITH THE SEED: the statements are not yours to turn. If you find one false, say at which input.
  Laid BY PROGRAM, IN A SANDBOX (cutbox-rows.mjs): the forced cells as the released guide's own fill.sh prints them over the translation 45a2caafe998dc2d… (all of the seat's roots in one cut). By AI agents, Wed Nov 11 2026. No macro, syntax, notation, axiom, sorry.
-/
import Derived.Test.YtlpbfhbfaphicaaChecked
import GoSem.Claim
import GoSem.ClaimJoined
import GoSem.ClaimMapViews
import Derived.JoinedTies
import Derived.KernelRfl
namespace Go.Proofs.Ytlpbfhbfaphicaa
/- THE CELL 'sum', in the pinned program and in every row, IS THE sha256 OF THE DUMP (.gsa) THAT YtlpbfhbfaphicaaProg.lean LOADS. Nothing in Lean hashes anything: it is a label: what it is worth is what the hold of that sum in a sandbox is worth. -/
noncomputable def Try.pinned : Pinned := { name := "ytlpbfhbfaphicaa", sum := "45a2caafe998dc2db1d8b5b6f4ad00a56a870ed31af369fd1618d203c3e86611", checked := Try.checked }
namespace Rows
def none {H : Type} : Left H := { results := [], args := [] }

/-- 'epicyclelaw15.CoprimeMaps': WHATEVER THE INPUT: true; the input reads as it did. -/
def coprimeMapsSpec : ChangeSpec := { name := "coprimeMaps", fn := fun _ => fun
  | [d1, d2, d3] => { results := [.lit (.bool true)], args := [d1, d2, d3] }
  | _ => none }
def coprimeMapsRow : OpenClaim := { program := "ytlpbfhbfaphicaa", sum := "45a2caafe998dc2db1d8b5b6f4ad00a56a870ed31af369fd1618d203c3e86611", func := "epicycle/epicyclelaw15.CoprimeMaps", spec := "coprimeMaps", plainKeys := false, apart := false }
def CoprimeMapsSaid : Prop := coprimeMapsRow.holds Try.pinned (OpenSpec.ofChange coprimeMapsSpec)

/-- ITS FALSE NEIGHBOUR: 'it returns false'. Refute it at one input. -/
def coprimeMapsWrong : ChangeSpec := { name := "coprimeMaps", fn := fun _ => fun
  | [d1, d2, d3] => { results := [.lit (.bool false)], args := [d1, d2, d3] }
  | _ => none }
def CoprimeMapsWrongFalsely : Prop := coprimeMapsRow.holds Try.pinned (OpenSpec.ofChange coprimeMapsWrong)

/-- 'epicyclelaw15.CoprimePicks': WHATEVER THE INPUT: true; the input reads as it did. -/
def coprimePicksSpec : ChangeSpec := { name := "coprimePicks", fn := fun _ => fun
  | [d1, d2, d3, d4] => { results := [.lit (.bool true)], args := [d1, d2, d3, d4] }
  | _ => none }
def coprimePicksRow : OpenClaim := { program := "ytlpbfhbfaphicaa", sum := "45a2caafe998dc2db1d8b5b6f4ad00a56a870ed31af369fd1618d203c3e86611", func := "epicycle/epicyclelaw15.CoprimePicks", spec := "coprimePicks", plainKeys := false, apart := false }
def CoprimePicksSaid : Prop := coprimePicksRow.holds Try.pinned (OpenSpec.ofChange coprimePicksSpec)

/-- ITS FALSE NEIGHBOUR: 'it returns false'. Refute it at one input. -/
def coprimePicksWrong : ChangeSpec := { name := "coprimePicks", fn := fun _ => fun
  | [d1, d2, d3, d4] => { results := [.lit (.bool false)], args := [d1, d2, d3, d4] }
  | _ => none }
def CoprimePicksWrongFalsely : Prop := coprimePicksRow.holds Try.pinned (OpenSpec.ofChange coprimePicksWrong)

/-- 'epicyclelaw19.CacheHolds': WHATEVER THE INPUT: true; the input reads as it did. -/
def cacheHoldsSpec : ChangeSpec := { name := "cacheHolds", fn := fun _ => fun
  | [d1, d2] => { results := [.lit (.bool true)], args := [d1, d2] }
  | _ => none }
def cacheHoldsRow : OpenClaim := { program := "ytlpbfhbfaphicaa", sum := "45a2caafe998dc2db1d8b5b6f4ad00a56a870ed31af369fd1618d203c3e86611", func := "epicycle/epicyclelaw19.CacheHolds", spec := "cacheHolds", plainKeys := false, apart := false }
def CacheHoldsSaid : Prop := cacheHoldsRow.holds Try.pinned (OpenSpec.ofChange cacheHoldsSpec)

/-- ITS FALSE NEIGHBOUR: 'it returns false'. Refute it at one input. -/
def cacheHoldsWrong : ChangeSpec := { name := "cacheHolds", fn := fun _ => fun
  | [d1, d2] => { results := [.lit (.bool false)], args := [d1, d2] }
  | _ => none }
def CacheHoldsWrongFalsely : Prop := cacheHoldsRow.holds Try.pinned (OpenSpec.ofChange cacheHoldsWrong)

/-- 'epicyclelaw19.CacheLast': WHATEVER THE INPUT: true; the input reads as it did. -/
def cacheLastSpec : ChangeSpec := { name := "cacheLast", fn := fun _ => fun
  | [d1, d2] => { results := [.lit (.bool true)], args := [d1, d2] }
  | _ => none }
def cacheLastRow : OpenClaim := { program := "ytlpbfhbfaphicaa", sum := "45a2caafe998dc2db1d8b5b6f4ad00a56a870ed31af369fd1618d203c3e86611", func := "epicycle/epicyclelaw19.CacheLast", spec := "cacheLast", plainKeys := false, apart := false }
def CacheLastSaid : Prop := cacheLastRow.holds Try.pinned (OpenSpec.ofChange cacheLastSpec)

/-- ITS FALSE NEIGHBOUR: 'it returns false'. Refute it at one input. -/
def cacheLastWrong : ChangeSpec := { name := "cacheLast", fn := fun _ => fun
  | [d1, d2] => { results := [.lit (.bool false)], args := [d1, d2] }
  | _ => none }
def CacheLastWrongFalsely : Prop := cacheLastRow.holds Try.pinned (OpenSpec.ofChange cacheLastWrong)

/-- 'epicyclelaw19.CacheDoes': WHATEVER THE INPUT: true; the input reads as it did. -/
def cacheDoesSpec : ChangeSpec := { name := "cacheDoes", fn := fun _ => fun
  | [d1, d2] => { results := [.lit (.bool true)], args := [d1, d2] }
  | _ => none }
def cacheDoesRow : OpenClaim := { program := "ytlpbfhbfaphicaa", sum := "45a2caafe998dc2db1d8b5b6f4ad00a56a870ed31af369fd1618d203c3e86611", func := "epicycle/epicyclelaw19.CacheDoes", spec := "cacheDoes", unfollowed := true, recurses := true, plainKeys := false, apart := false }
def CacheDoesSaid : Prop := cacheDoesRow.holds Try.pinned (OpenSpec.ofChange cacheDoesSpec)

/-- ITS FALSE NEIGHBOUR: 'it returns false'. Refute it at one input. -/
def cacheDoesWrong : ChangeSpec := { name := "cacheDoes", fn := fun _ => fun
  | [d1, d2] => { results := [.lit (.bool false)], args := [d1, d2] }
  | _ => none }
def CacheDoesWrongFalsely : Prop := cacheDoesRow.holds Try.pinned (OpenSpec.ofChange cacheDoesWrong)

/- THE SECOND FORM. 'bulk': how many values and letters a reading holds, each counted each time it is reached (what is shared counts as often as it is met; a slice's spare places count too). A statement '..UptoSaid' is the law's where the arguments, and the package variables that the reading takes, are together of bulk at most 1048576: NARROWER than '..Said'. Prove '..Said' where nothing that the law and all that it calls make is longer than what came in: it says more and counts as full. Else prove '..UptoSaid'. A law counts once. -/
mutual
def uptoBulk {H : Type} : DataW H → Nat
  | .lit (.string bytes) => bytes.length + 1
  | .lit _ => 1
  | .nil => 1
  | .ptr d => uptoBulk d + 1
  | .slice elems spare => uptoBulkAll elems + uptoBulkAll spare + 1
  | .agg parts => uptoBulkAll parts + 1
  | .iface _ d => uptoBulk d + 1
  | .map entries => uptoBulkEntries entries + 1
  | .held _ => 1
def uptoBulkAll {H : Type} : List (DataW H) → Nat
  | [] => 0
  | d :: r => uptoBulk d + uptoBulkAll r
def uptoBulkEntries {H : Type} : List (Lit × DataW H) → Nat
  | [] => 0
  | x :: r => uptoBulkEntry x + uptoBulkEntries r
def uptoBulkEntry {H : Type} : Lit × DataW H → Nat
  | (.string bytes, d) => bytes.length + uptoBulk d + 1
  | (_, d) => uptoBulk d + 1
 end
def uptoSmall : (H : Type) → List (DataW H) → Bool := fun _ ds => decide (uptoBulkAll ds ≤ 1048576)
def OpenSpec.upto (s : _root_.Go.ChangeSpec) : _root_.Go.OpenSpec := { _root_.Go.OpenSpec.ofChange s with cond := some uptoSmall }

/-- 'epicyclelaw15.CoprimeMaps', WHERE WHAT IT READS IS OF BULK AT MOST 1048576: true; the input reads as it did. -/
def coprimeMapsUptoRow : OpenClaim := { program := "ytlpbfhbfaphicaa", sum := "45a2caafe998dc2db1d8b5b6f4ad00a56a870ed31af369fd1618d203c3e86611", func := "epicycle/epicyclelaw15.CoprimeMaps", spec := "coprimeMaps", plainKeys := false, apart := false, narrowed := true }
def CoprimeMapsUptoSaid : Prop := coprimeMapsUptoRow.holds Try.pinned (OpenSpec.upto coprimeMapsSpec)

/-- 'epicyclelaw15.CoprimePicks', WHERE WHAT IT READS IS OF BULK AT MOST 1048576: true; the input reads as it did. -/
def coprimePicksUptoRow : OpenClaim := { program := "ytlpbfhbfaphicaa", sum := "45a2caafe998dc2db1d8b5b6f4ad00a56a870ed31af369fd1618d203c3e86611", func := "epicycle/epicyclelaw15.CoprimePicks", spec := "coprimePicks", plainKeys := false, apart := false, narrowed := true }
def CoprimePicksUptoSaid : Prop := coprimePicksUptoRow.holds Try.pinned (OpenSpec.upto coprimePicksSpec)

/-- 'epicyclelaw19.CacheHolds', WHERE WHAT IT READS IS OF BULK AT MOST 1048576: true; the input reads as it did. -/
def cacheHoldsUptoRow : OpenClaim := { program := "ytlpbfhbfaphicaa", sum := "45a2caafe998dc2db1d8b5b6f4ad00a56a870ed31af369fd1618d203c3e86611", func := "epicycle/epicyclelaw19.CacheHolds", spec := "cacheHolds", plainKeys := false, apart := false, narrowed := true }
def CacheHoldsUptoSaid : Prop := cacheHoldsUptoRow.holds Try.pinned (OpenSpec.upto cacheHoldsSpec)

/-- 'epicyclelaw19.CacheLast', WHERE WHAT IT READS IS OF BULK AT MOST 1048576: true; the input reads as it did. -/
def cacheLastUptoRow : OpenClaim := { program := "ytlpbfhbfaphicaa", sum := "45a2caafe998dc2db1d8b5b6f4ad00a56a870ed31af369fd1618d203c3e86611", func := "epicycle/epicyclelaw19.CacheLast", spec := "cacheLast", plainKeys := false, apart := false, narrowed := true }
def CacheLastUptoSaid : Prop := cacheLastUptoRow.holds Try.pinned (OpenSpec.upto cacheLastSpec)

/-- 'epicyclelaw19.CacheDoes', WHERE WHAT IT READS IS OF BULK AT MOST 1048576: true; the input reads as it did. -/
def cacheDoesUptoRow : OpenClaim := { program := "ytlpbfhbfaphicaa", sum := "45a2caafe998dc2db1d8b5b6f4ad00a56a870ed31af369fd1618d203c3e86611", func := "epicycle/epicyclelaw19.CacheDoes", spec := "cacheDoes", unfollowed := true, recurses := true, plainKeys := false, apart := false, narrowed := true }
def CacheDoesUptoSaid : Prop := cacheDoesUptoRow.holds Try.pinned (OpenSpec.upto cacheDoesSpec)

end Rows
end Go.Proofs.Ytlpbfhbfaphicaa
