/-
  No cell of these rows narrows 'for every input' (looked for: loops, veiled, ifaces, maps, wideKeys, modest, calm, conditions, laid).
  DERIVED. THE GIVEN ROWS OF THIS SEAT. 12 by the template 'for every input the law returns true; each argument reads behind the call as it read before'; 0 by the template 'total and deterministic' (their statements: YtflceedohhhdiaaTotals.lean).
  GIVEN WITH THE SEED: the statements are not yours to turn. If you find one false, say at which input.
  Laid BY PROGRAM, IN A SANDBOX (cutbox-rows.mjs): the forced cells as the released guide's own fill.sh prints them over the translation 3cbad0d800dcadc2… (all of the seat's roots in one cut). By AI agents, Wed Nov 11 2026. No macro, syntax, notation, axiom, sorry.
-/
import Derived.Test.YtflceedohhhdiaaChecked
import GoSem.Claim
import GoSem.ClaimJoined
import GoSem.ClaimMapViews
import Derived.JoinedTies
import Derived.KernelRfl
namespace Go.Proofs.Ytflceedohhhdiaa
/- THE CELL 'sum', in the pinned program and in every row, IS THE sha256 OF THE DUMP (.gsa) THAT YtflceedohhhdiaaProg.lean LOADS. Nothing in Lean hashes anything: it is a label: what it is worth is what the hold of that sum in a sandbox is worth. -/
noncomputable def Try.pinned : Pinned := { name := "ytflceedohhhdiaa", sum := "3cbad0d800dcadc252047e6b4810b6429678fcc613320aafa7f46095b15ff011", checked := Try.checked }
namespace Rows
def none {H : Type} : Left H := { results := [], args := [] }

/-- 'epicyclelaw15.CoprimeMaps': WHATEVER THE INPUT: true; the input reads as it did. -/
def coprimeMapsSpec : ChangeSpec := { name := "coprimeMaps", fn := fun _ => fun
  | [d1, d2, d3] => { results := [.lit (.bool true)], args := [d1, d2, d3] }
  | _ => none }
def coprimeMapsRow : OpenClaim := { program := "ytflceedohhhdiaa", sum := "3cbad0d800dcadc252047e6b4810b6429678fcc613320aafa7f46095b15ff011", func := "epicycle/epicyclelaw15.CoprimeMaps", spec := "coprimeMaps", plainKeys := false, apart := false }
def CoprimeMapsSaid : Prop := coprimeMapsRow.holds Try.pinned (OpenSpec.ofChange coprimeMapsSpec)

/-- ITS FALSE NEIGHBOUR: 'it returns false'. Refute it at one input. -/
def coprimeMapsWrong : ChangeSpec := { name := "coprimeMaps", fn := fun _ => fun
  | [d1, d2, d3] => { results := [.lit (.bool false)], args := [d1, d2, d3] }
  | _ => none }
def CoprimeMapsWrongFalsely : Prop := coprimeMapsRow.holds Try.pinned (OpenSpec.ofChange coprimeMapsWrong)

/-- 'epicyclelaw15.CoprimePicks': WHATEVER THE INPUT: true; the input reads as it did. -/
def coprimePicksSpec : ChangeSpec := { name := "coprimePicks", fn := fun _ => fun
  | [d1, d2, d3, d4] => { results := [.lit (.bool true)], args := [d1, d2, d3, d4] }
  | _ => none }
def coprimePicksRow : OpenClaim := { program := "ytflceedohhhdiaa", sum := "3cbad0d800dcadc252047e6b4810b6429678fcc613320aafa7f46095b15ff011", func := "epicycle/epicyclelaw15.CoprimePicks", spec := "coprimePicks", plainKeys := false, apart := false }
def CoprimePicksSaid : Prop := coprimePicksRow.holds Try.pinned (OpenSpec.ofChange coprimePicksSpec)

/-- ITS FALSE NEIGHBOUR: 'it returns false'. Refute it at one input. -/
def coprimePicksWrong : ChangeSpec := { name := "coprimePicks", fn := fun _ => fun
  | [d1, d2, d3, d4] => { results := [.lit (.bool false)], args := [d1, d2, d3, d4] }
  | _ => none }
def CoprimePicksWrongFalsely : Prop := coprimePicksRow.holds Try.pinned (OpenSpec.ofChange coprimePicksWrong)

/-- 'epicyclelaw19.CacheHolds': WHATEVER THE INPUT: true; the input reads as it did. -/
def cacheHoldsSpec : ChangeSpec := { name := "cacheHolds", fn := fun _ => fun
  | [d1, d2] => { results := [.lit (.bool true)], args := [d1, d2] }
  | _ => none }
def cacheHoldsRow : OpenClaim := { program := "ytflceedohhhdiaa", sum := "3cbad0d800dcadc252047e6b4810b6429678fcc613320aafa7f46095b15ff011", func := "epicycle/epicyclelaw19.CacheHolds", spec := "cacheHolds", plainKeys := false, apart := false }
def CacheHoldsSaid : Prop := cacheHoldsRow.holds Try.pinned (OpenSpec.ofChange cacheHoldsSpec)

/-- ITS FALSE NEIGHBOUR: 'it returns false'. Refute it at one input. -/
def cacheHoldsWrong : ChangeSpec := { name := "cacheHolds", fn := fun _ => fun
  | [d1, d2] => { results := [.lit (.bool false)], args := [d1, d2] }
  | _ => none }
def CacheHoldsWrongFalsely : Prop := cacheHoldsRow.holds Try.pinned (OpenSpec.ofChange cacheHoldsWrong)

/-- 'epicyclelaw19.CacheLast': WHATEVER THE INPUT: true; the input reads as it did. -/
def cacheLastSpec : ChangeSpec := { name := "cacheLast", fn := fun _ => fun
  | [d1, d2] => { results := [.lit (.bool true)], args := [d1, d2] }
  | _ => none }
def cacheLastRow : OpenClaim := { program := "ytflceedohhhdiaa", sum := "3cbad0d800dcadc252047e6b4810b6429678fcc613320aafa7f46095b15ff011", func := "epicycle/epicyclelaw19.CacheLast", spec := "cacheLast", plainKeys := false, apart := false }
def CacheLastSaid : Prop := cacheLastRow.holds Try.pinned (OpenSpec.ofChange cacheLastSpec)

/-- ITS FALSE NEIGHBOUR: 'it returns false'. Refute it at one input. -/
def cacheLastWrong : ChangeSpec := { name := "cacheLast", fn := fun _ => fun
  | [d1, d2] => { results := [.lit (.bool false)], args := [d1, d2] }
  | _ => none }
def CacheLastWrongFalsely : Prop := cacheLastRow.holds Try.pinned (OpenSpec.ofChange cacheLastWrong)

/-- 'epicyclelaw19.CacheDoes': WHATEVER THE INPUT: true; the input reads as it did. -/
def cacheDoesSpec : ChangeSpec := { name := "cacheDoes", fn := fun _ => fun
  | [d1, d2] => { results := [.lit (.bool true)], args := [d1, d2] }
  | _ => none }
def cacheDoesRow : OpenClaim := { program := "ytflceedohhhdiaa", sum := "3cbad0d800dcadc252047e6b4810b6429678fcc613320aafa7f46095b15ff011", func := "epicycle/epicyclelaw19.CacheDoes", spec := "cacheDoes", unfollowed := true, recurses := true, plainKeys := false, apart := false }
def CacheDoesSaid : Prop := cacheDoesRow.holds Try.pinned (OpenSpec.ofChange cacheDoesSpec)

/-- ITS FALSE NEIGHBOUR: 'it returns false'. Refute it at one input. -/
def cacheDoesWrong : ChangeSpec := { name := "cacheDoes", fn := fun _ => fun
  | [d1, d2] => { results := [.lit (.bool false)], args := [d1, d2] }
  | _ => none }
def CacheDoesWrongFalsely : Prop := cacheDoesRow.holds Try.pinned (OpenSpec.ofChange cacheDoesWrong)

/-- 'epicyclelaw02.ModularSums': WHATEVER THE INPUT: true; the input reads as it did. -/
def modularSumsSpec : ChangeSpec := { name := "modularSums", fn := fun _ => fun
  | [d1, d2, d3] => { results := [.lit (.bool true)], args := [d1, d2, d3] }
  | _ => none }
def modularSumsRow : OpenClaim := { program := "ytflceedohhhdiaa", sum := "3cbad0d800dcadc252047e6b4810b6429678fcc613320aafa7f46095b15ff011", func := "epicycle/epicyclelaw02.ModularSums", spec := "modularSums", inPlace := ["math/bits.Add64"], named := ["math/bits.divideError", "math/bits.overflowError"], plainKeys := false, apart := false }
def ModularSumsSaid : Prop := modularSumsRow.holds Try.pinned (OpenSpec.ofChange modularSumsSpec)

/-- ITS FALSE NEIGHBOUR: 'it returns false'. Refute it at one input. -/
def modularSumsWrong : ChangeSpec := { name := "modularSums", fn := fun _ => fun
  | [d1, d2, d3] => { results := [.lit (.bool false)], args := [d1, d2, d3] }
  | _ => none }
def ModularSumsWrongFalsely : Prop := modularSumsRow.holds Try.pinned (OpenSpec.ofChange modularSumsWrong)

/-- 'epicyclelaw02.ModularRing': WHATEVER THE INPUT: true; the input reads as it did. -/
def modularRingSpec : ChangeSpec := { name := "modularRing", fn := fun _ => fun
  | [d1, d2, d3, d4] => { results := [.lit (.bool true)], args := [d1, d2, d3, d4] }
  | _ => none }
def modularRingRow : OpenClaim := { program := "ytflceedohhhdiaa", sum := "3cbad0d800dcadc252047e6b4810b6429678fcc613320aafa7f46095b15ff011", func := "epicycle/epicyclelaw02.ModularRing", spec := "modularRing", inPlace := ["math/bits.Add64"], named := ["math/bits.divideError", "math/bits.overflowError"], plainKeys := false, apart := false }
def ModularRingSaid : Prop := modularRingRow.holds Try.pinned (OpenSpec.ofChange modularRingSpec)

/-- ITS FALSE NEIGHBOUR: 'it returns false'. Refute it at one input. -/
def modularRingWrong : ChangeSpec := { name := "modularRing", fn := fun _ => fun
  | [d1, d2, d3, d4] => { results := [.lit (.bool false)], args := [d1, d2, d3, d4] }
  | _ => none }
def ModularRingWrongFalsely : Prop := modularRingRow.holds Try.pinned (OpenSpec.ofChange modularRingWrong)

/-- 'epicyclelaw02.ModularInverts': WHATEVER THE INPUT: true; the input reads as it did. -/
def modularInvertsSpec : ChangeSpec := { name := "modularInverts", fn := fun _ => fun
  | [d1, d2] => { results := [.lit (.bool true)], args := [d1, d2] }
  | _ => none }
def modularInvertsRow : OpenClaim := { program := "ytflceedohhhdiaa", sum := "3cbad0d800dcadc252047e6b4810b6429678fcc613320aafa7f46095b15ff011", func := "epicycle/epicyclelaw02.ModularInverts", spec := "modularInverts", inPlace := ["math/bits.Add64"], recurses := true, named := ["math/bits.divideError", "math/bits.overflowError"], plainKeys := false, apart := false }
def ModularInvertsSaid : Prop := modularInvertsRow.holds Try.pinned (OpenSpec.ofChange modularInvertsSpec)

/-- ITS FALSE NEIGHBOUR: 'it returns false'. Refute it at one input. -/
def modularInvertsWrong : ChangeSpec := { name := "modularInverts", fn := fun _ => fun
  | [d1, d2] => { results := [.lit (.bool false)], args := [d1, d2] }
  | _ => none }
def ModularInvertsWrongFalsely : Prop := modularInvertsRow.holds Try.pinned (OpenSpec.ofChange modularInvertsWrong)

/-- 'epicyclelaw02.ModularGcd': WHATEVER THE INPUT: true; the input reads as it did. -/
def modularGcdSpec : ChangeSpec := { name := "modularGcd", fn := fun _ => fun
  | [d1, d2, d3] => { results := [.lit (.bool true)], args := [d1, d2, d3] }
  | _ => none }
def modularGcdRow : OpenClaim := { program := "ytflceedohhhdiaa", sum := "3cbad0d800dcadc252047e6b4810b6429678fcc613320aafa7f46095b15ff011", func := "epicycle/epicyclelaw02.ModularGcd", spec := "modularGcd", inPlace := ["math/bits.Add64"], recurses := true, named := ["math/bits.divideError", "math/bits.overflowError"], plainKeys := false, apart := false }
def ModularGcdSaid : Prop := modularGcdRow.holds Try.pinned (OpenSpec.ofChange modularGcdSpec)

/-- ITS FALSE NEIGHBOUR: 'it returns false'. Refute it at one input. -/
def modularGcdWrong : ChangeSpec := { name := "modularGcd", fn := fun _ => fun
  | [d1, d2, d3] => { results := [.lit (.bool false)], args := [d1, d2, d3] }
  | _ => none }
def ModularGcdWrongFalsely : Prop := modularGcdRow.holds Try.pinned (OpenSpec.ofChange modularGcdWrong)

/-- 'epicyclelaw02.ModularJoins': WHATEVER THE INPUT: true; the input reads as it did. -/
def modularJoinsSpec : ChangeSpec := { name := "modularJoins", fn := fun _ => fun
  | [d1, d2, d3, d4, d5] => { results := [.lit (.bool true)], args := [d1, d2, d3, d4, d5] }
  | _ => none }
def modularJoinsRow : OpenClaim := { program := "ytflceedohhhdiaa", sum := "3cbad0d800dcadc252047e6b4810b6429678fcc613320aafa7f46095b15ff011", func := "epicycle/epicyclelaw02.ModularJoins", spec := "modularJoins", inPlace := ["math/bits.Add64"], recurses := true, named := ["math/bits.divideError", "math/bits.overflowError"], plainKeys := false, apart := false }
def ModularJoinsSaid : Prop := modularJoinsRow.holds Try.pinned (OpenSpec.ofChange modularJoinsSpec)

/-- ITS FALSE NEIGHBOUR: 'it returns false'. Refute it at one input. -/
def modularJoinsWrong : ChangeSpec := { name := "modularJoins", fn := fun _ => fun
  | [d1, d2, d3, d4, d5] => { results := [.lit (.bool false)], args := [d1, d2, d3, d4, d5] }
  | _ => none }
def ModularJoinsWrongFalsely : Prop := modularJoinsRow.holds Try.pinned (OpenSpec.ofChange modularJoinsWrong)

/-- 'epicyclelaw02.ModularProducts': WHATEVER THE INPUT: true; the input reads as it did. -/
def modularProductsSpec : ChangeSpec := { name := "modularProducts", fn := fun _ => fun
  | [d1, d2, d3] => { results := [.lit (.bool true)], args := [d1, d2, d3] }
  | _ => none }
def modularProductsRow : OpenClaim := { program := "ytflceedohhhdiaa", sum := "3cbad0d800dcadc252047e6b4810b6429678fcc613320aafa7f46095b15ff011", func := "epicycle/epicyclelaw02.ModularProducts", spec := "modularProducts", inPlace := ["math/bits.Add64"], recurses := true, named := ["math/bits.divideError", "math/bits.overflowError"], plainKeys := false, apart := false }
def ModularProductsSaid : Prop := modularProductsRow.holds Try.pinned (OpenSpec.ofChange modularProductsSpec)

/-- ITS FALSE NEIGHBOUR: 'it returns false'. Refute it at one input. -/
def modularProductsWrong : ChangeSpec := { name := "modularProducts", fn := fun _ => fun
  | [d1, d2, d3] => { results := [.lit (.bool false)], args := [d1, d2, d3] }
  | _ => none }
def ModularProductsWrongFalsely : Prop := modularProductsRow.holds Try.pinned (OpenSpec.ofChange modularProductsWrong)

/-- 'epicyclelaw02.ModularPowers': WHATEVER THE INPUT: true; the input reads as it did. -/
def modularPowersSpec : ChangeSpec := { name := "modularPowers", fn := fun _ => fun
  | [d1, d2, d3, d4] => { results := [.lit (.bool true)], args := [d1, d2, d3, d4] }
  | _ => none }
def modularPowersRow : OpenClaim := { program := "ytflceedohhhdiaa", sum := "3cbad0d800dcadc252047e6b4810b6429678fcc613320aafa7f46095b15ff011", func := "epicycle/epicyclelaw02.ModularPowers", spec := "modularPowers", inPlace := ["math/bits.Add64"], named := ["math/bits.divideError", "math/bits.overflowError"], plainKeys := false, apart := false }
def ModularPowersSaid : Prop := modularPowersRow.holds Try.pinned (OpenSpec.ofChange modularPowersSpec)

/-- ITS FALSE NEIGHBOUR: 'it returns false'. Refute it at one input. -/
def modularPowersWrong : ChangeSpec := { name := "modularPowers", fn := fun _ => fun
  | [d1, d2, d3, d4] => { results := [.lit (.bool false)], args := [d1, d2, d3, d4] }
  | _ => none }
def ModularPowersWrongFalsely : Prop := modularPowersRow.holds Try.pinned (OpenSpec.ofChange modularPowersWrong)

/- THE SECOND FORM. 'bulk': how many values and letters a reading holds, each counted each time it is reached (what is shared counts as often as it is met; a slice's spare places count too). A statement '..UptoSaid' is the law's where the arguments, and the package variables that the reading takes, are together of bulk at most 1048576: NARROWER than '..Said'. Prove '..Said' where nothing that the law and all that it calls make is longer than what came in: it says more and counts as full. Else prove '..UptoSaid'. A law counts once. -/
mutual
def uptoBulk {H : Type} : DataW H → Nat
  | .lit (.string bytes) => bytes.length + 1
  | .lit _ => 1
  | .nil => 1
  | .ptr d => uptoBulk d + 1
  | .slice elems spare => uptoBulkAll elems + uptoBulkAll spare + 1
  | .agg parts => uptoBulkAll parts + 1
  | .iface _ d => uptoBulk d + 1
  | .map entries => uptoBulkEntries entries + 1
  | .held _ => 1
def uptoBulkAll {H : Type} : List (DataW H) → Nat
  | [] => 0
  | d :: r => uptoBulk d + uptoBulkAll r
def uptoBulkEntries {H : Type} : List (Lit × DataW H) → Nat
  | [] => 0
  | x :: r => uptoBulkEntry x + uptoBulkEntries r
def uptoBulkEntry {H : Type} : Lit × DataW H → Nat
  | (.string bytes, d) => bytes.length + uptoBulk d + 1
  | (_, d) => uptoBulk d + 1
 end
def uptoSmall : (H : Type) → List (DataW H) → Bool := fun _ ds => decide (uptoBulkAll ds ≤ 1048576)
def OpenSpec.upto (s : _root_.Go.ChangeSpec) : _root_.Go.OpenSpec := { _root_.Go.OpenSpec.ofChange s with cond := some uptoSmall }

/-- 'epicyclelaw15.CoprimeMaps', WHERE WHAT IT READS IS OF BULK AT MOST 1048576: true; the input reads as it did. -/
def coprimeMapsUptoRow : OpenClaim := { program := "ytflceedohhhdiaa", sum := "3cbad0d800dcadc252047e6b4810b6429678fcc613320aafa7f46095b15ff011", func := "epicycle/epicyclelaw15.CoprimeMaps", spec := "coprimeMaps", plainKeys := false, apart := false, narrowed := true }
def CoprimeMapsUptoSaid : Prop := coprimeMapsUptoRow.holds Try.pinned (OpenSpec.upto coprimeMapsSpec)

/-- 'epicyclelaw15.CoprimePicks', WHERE WHAT IT READS IS OF BULK AT MOST 1048576: true; the input reads as it did. -/
def coprimePicksUptoRow : OpenClaim := { program := "ytflceedohhhdiaa", sum := "3cbad0d800dcadc252047e6b4810b6429678fcc613320aafa7f46095b15ff011", func := "epicycle/epicyclelaw15.CoprimePicks", spec := "coprimePicks", plainKeys := false, apart := false, narrowed := true }
def CoprimePicksUptoSaid : Prop := coprimePicksUptoRow.holds Try.pinned (OpenSpec.upto coprimePicksSpec)

/-- 'epicyclelaw19.CacheHolds', WHERE WHAT IT READS IS OF BULK AT MOST 1048576: true; the input reads as it did. -/
def cacheHoldsUptoRow : OpenClaim := { program := "ytflceedohhhdiaa", sum := "3cbad0d800dcadc252047e6b4810b6429678fcc613320aafa7f46095b15ff011", func := "epicycle/epicyclelaw19.CacheHolds", spec := "cacheHolds", plainKeys := false, apart := false, narrowed := true }
def CacheHoldsUptoSaid : Prop := cacheHoldsUptoRow.holds Try.pinned (OpenSpec.upto cacheHoldsSpec)

/-- 'epicyclelaw19.CacheLast', WHERE WHAT IT READS IS OF BULK AT MOST 1048576: true; the input reads as it did. -/
def cacheLastUptoRow : OpenClaim := { program := "ytflceedohhhdiaa", sum := "3cbad0d800dcadc252047e6b4810b6429678fcc613320aafa7f46095b15ff011", func := "epicycle/epicyclelaw19.CacheLast", spec := "cacheLast", plainKeys := false, apart := false, narrowed := true }
def CacheLastUptoSaid : Prop := cacheLastUptoRow.holds Try.pinned (OpenSpec.upto cacheLastSpec)

/-- 'epicyclelaw19.CacheDoes', WHERE WHAT IT READS IS OF BULK AT MOST 1048576: true; the input reads as it did. -/
def cacheDoesUptoRow : OpenClaim := { program := "ytflceedohhhdiaa", sum := "3cbad0d800dcadc252047e6b4810b6429678fcc613320aafa7f46095b15ff011", func := "epicycle/epicyclelaw19.CacheDoes", spec := "cacheDoes", unfollowed := true, recurses := true, plainKeys := false, apart := false, narrowed := true }
def CacheDoesUptoSaid : Prop := cacheDoesUptoRow.holds Try.pinned (OpenSpec.upto cacheDoesSpec)

/-- 'epicyclelaw02.ModularSums', WHERE WHAT IT READS IS OF BULK AT MOST 1048576: true; the input reads as it did. -/
def modularSumsUptoRow : OpenClaim := { program := "ytflceedohhhdiaa", sum := "3cbad0d800dcadc252047e6b4810b6429678fcc613320aafa7f46095b15ff011", func := "epicycle/epicyclelaw02.ModularSums", spec := "modularSums", inPlace := ["math/bits.Add64"], named := ["math/bits.divideError", "math/bits.overflowError"], plainKeys := false, apart := false, narrowed := true }
def ModularSumsUptoSaid : Prop := modularSumsUptoRow.holds Try.pinned (OpenSpec.upto modularSumsSpec)

/-- 'epicyclelaw02.ModularRing', WHERE WHAT IT READS IS OF BULK AT MOST 1048576: true; the input reads as it did. -/
def modularRingUptoRow : OpenClaim := { program := "ytflceedohhhdiaa", sum := "3cbad0d800dcadc252047e6b4810b6429678fcc613320aafa7f46095b15ff011", func := "epicycle/epicyclelaw02.ModularRing", spec := "modularRing", inPlace := ["math/bits.Add64"], named := ["math/bits.divideError", "math/bits.overflowError"], plainKeys := false, apart := false, narrowed := true }
def ModularRingUptoSaid : Prop := modularRingUptoRow.holds Try.pinned (OpenSpec.upto modularRingSpec)

/-- 'epicyclelaw02.ModularInverts', WHERE WHAT IT READS IS OF BULK AT MOST 1048576: true; the input reads as it did. -/
def modularInvertsUptoRow : OpenClaim := { program := "ytflceedohhhdiaa", sum := "3cbad0d800dcadc252047e6b4810b6429678fcc613320aafa7f46095b15ff011", func := "epicycle/epicyclelaw02.ModularInverts", spec := "modularInverts", inPlace := ["math/bits.Add64"], recurses := true, named := ["math/bits.divideError", "math/bits.overflowError"], plainKeys := false, apart := false, narrowed := true }
def ModularInvertsUptoSaid : Prop := modularInvertsUptoRow.holds Try.pinned (OpenSpec.upto modularInvertsSpec)

/-- 'epicyclelaw02.ModularGcd', WHERE WHAT IT READS IS OF BULK AT MOST 1048576: true; the input reads as it did. -/
def modularGcdUptoRow : OpenClaim := { program := "ytflceedohhhdiaa", sum := "3cbad0d800dcadc252047e6b4810b6429678fcc613320aafa7f46095b15ff011", func := "epicycle/epicyclelaw02.ModularGcd", spec := "modularGcd", inPlace := ["math/bits.Add64"], recurses := true, named := ["math/bits.divideError", "math/bits.overflowError"], plainKeys := false, apart := false, narrowed := true }
def ModularGcdUptoSaid : Prop := modularGcdUptoRow.holds Try.pinned (OpenSpec.upto modularGcdSpec)

/-- 'epicyclelaw02.ModularJoins', WHERE WHAT IT READS IS OF BULK AT MOST 1048576: true; the input reads as it did. -/
def modularJoinsUptoRow : OpenClaim := { program := "ytflceedohhhdiaa", sum := "3cbad0d800dcadc252047e6b4810b6429678fcc613320aafa7f46095b15ff011", func := "epicycle/epicyclelaw02.ModularJoins", spec := "modularJoins", inPlace := ["math/bits.Add64"], recurses := true, named := ["math/bits.divideError", "math/bits.overflowError"], plainKeys := false, apart := false, narrowed := true }
def ModularJoinsUptoSaid : Prop := modularJoinsUptoRow.holds Try.pinned (OpenSpec.upto modularJoinsSpec)

/-- 'epicyclelaw02.ModularProducts', WHERE WHAT IT READS IS OF BULK AT MOST 1048576: true; the input reads as it did. -/
def modularProductsUptoRow : OpenClaim := { program := "ytflceedohhhdiaa", sum := "3cbad0d800dcadc252047e6b4810b6429678fcc613320aafa7f46095b15ff011", func := "epicycle/epicyclelaw02.ModularProducts", spec := "modularProducts", inPlace := ["math/bits.Add64"], recurses := true, named := ["math/bits.divideError", "math/bits.overflowError"], plainKeys := false, apart := false, narrowed := true }
def ModularProductsUptoSaid : Prop := modularProductsUptoRow.holds Try.pinned (OpenSpec.upto modularProductsSpec)

/-- 'epicyclelaw02.ModularPowers', WHERE WHAT IT READS IS OF BULK AT MOST 1048576: true; the input reads as it did. -/
def modularPowersUptoRow : OpenClaim := { program := "ytflceedohhhdiaa", sum := "3cbad0d800dcadc252047e6b4810b6429678fcc613320aafa7f46095b15ff011", func := "epicycle/epicyclelaw02.ModularPowers", spec := "modularPowers", inPlace := ["math/bits.Add64"], named := ["math/bits.divideError", "math/bits.overflowError"], plainKeys := false, apart := false, narrowed := true }
def ModularPowersUptoSaid : Prop := modularPowersUptoRow.holds Try.pinned (OpenSpec.upto modularPowersSpec)

end Rows
end Go.Proofs.Ytflceedohhhdiaa
