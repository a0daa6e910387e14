/-
  DERIVED. GIVEN WITH THE SEED: THE CARDS: each row of YtlpbfhbfaphicaaDoorRows.lean that lists a variable, with what it lists TIED to the program's text (the seventh form; the later family's looks); each row that meets fmt, with fmt's text TOLD by the authors' own Lean function (tested against real Go, not proved from fmt's source: count such statements apart). THE CARD IS WHAT COUNTS. Prove the row's statement (the work); the ties are given (YtlpbfhbfaphicaaDoorTie.lean); close each card by the builder's one call (the guide's Derived/Test/ToyasCard.lean, 'card_holds'). Laid BY PROGRAM, IN A SANDBOX (cutbox-door.mjs). By AI agents, Wed Nov 11 2026. No macro, syntax, notation, axiom, sorry.
-/
import Derived.Test.YtlpbfhbfaphicaaDoorRows
import GoSem.ClaimSeven
namespace Go.Proofs.YtlpbfhbfaphicaaDoor
namespace Rows

/-- THE TIED CARD OF 'epicyclelaw01.LimbsDecimal'. -/
def limbsDecimalCard : Claim7 := { stood := { row := limbsDecimalRow, standIns := [], harness := (true, "b03b4fa752371a1aa38143fca692035a59aabddccb07749bf1d7a0ef4de5c352"), looks := false }, kinds := [], alts := [], laidByText := true, laidKinds := [.data, .data, .data], laidTests := true, laidLooks := .later }
def LimbsDecimalCardSaid : Prop := Claim7.holds Tryd.pinned (.plain (OpenSpec.ofChange limbsDecimalSpec)) limbsDecimalCard

/-- THE TIED CARD OF 'epicyclelaw01.LimbsRing'. -/
def limbsRingCard : Claim7 := { stood := { row := limbsRingRow, standIns := [], harness := (true, "b03b4fa752371a1aa38143fca692035a59aabddccb07749bf1d7a0ef4de5c352"), looks := false }, kinds := [], alts := [], laidByText := true, laidKinds := [.data, .data, .data], laidTests := true, laidLooks := .later }
def LimbsRingCardSaid : Prop := Claim7.holds Tryd.pinned (.plain (OpenSpec.ofChange limbsRingSpec)) limbsRingCard

/-- THE TIED CARD OF 'epicyclelaw01.LimbsSigned'. -/
def limbsSignedCard : Claim7 := { stood := { row := limbsSignedRow, standIns := [], harness := (true, "b03b4fa752371a1aa38143fca692035a59aabddccb07749bf1d7a0ef4de5c352"), looks := false }, kinds := [], alts := [], laidByText := true, laidKinds := [.data, .data, .data], laidTests := true, laidLooks := .later }
def LimbsSignedCardSaid : Prop := Claim7.holds Tryd.pinned (.plain (OpenSpec.ofChange limbsSignedSpec)) limbsSignedCard

/-- THE TIED CARD OF 'epicyclelaw01.LimbsMoves'. -/
def limbsMovesCard : Claim7 := { stood := { row := limbsMovesRow, standIns := [], harness := (true, "b03b4fa752371a1aa38143fca692035a59aabddccb07749bf1d7a0ef4de5c352"), looks := false }, kinds := [], alts := [], laidByText := true, laidKinds := [.data, .data, .data], laidTests := true, laidLooks := .later }
def LimbsMovesCardSaid : Prop := Claim7.holds Tryd.pinned (.plain (OpenSpec.ofChange limbsMovesSpec)) limbsMovesCard

/-- THE TIED CARD OF 'epicyclelaw01.LimbsSpreads'. -/
def limbsSpreadsCard : Claim7 := { stood := { row := limbsSpreadsRow, standIns := [], harness := (true, "b03b4fa752371a1aa38143fca692035a59aabddccb07749bf1d7a0ef4de5c352"), looks := false }, kinds := [], alts := [], laidByText := true, laidKinds := [.data, .data, .data], laidTests := true, laidLooks := .later }
def LimbsSpreadsCardSaid : Prop := Claim7.holds Tryd.pinned (.plain (OpenSpec.ofChange limbsSpreadsSpec)) limbsSpreadsCard

/-- THE TIED CARD OF 'epicyclelaw01.LimbsAdds'. -/
def limbsAddsCard : Claim7 := { stood := { row := limbsAddsRow, standIns := [], harness := (true, "b03b4fa752371a1aa38143fca692035a59aabddccb07749bf1d7a0ef4de5c352"), looks := false }, kinds := [], alts := [], laidByText := true, laidKinds := [.data, .data, .data], laidTests := true, laidLooks := .later }
def LimbsAddsCardSaid : Prop := Claim7.holds Tryd.pinned (.plain (OpenSpec.ofChange limbsAddsSpec)) limbsAddsCard

/-- THE TIED CARD OF 'epicyclelaw01.LimbsScales'. -/
def limbsScalesCard : Claim7 := { stood := { row := limbsScalesRow, standIns := [], harness := (true, "b03b4fa752371a1aa38143fca692035a59aabddccb07749bf1d7a0ef4de5c352"), looks := false }, kinds := [], alts := [], laidByText := true, laidKinds := [.data, .data, .data], laidTests := true, laidLooks := .later }
def LimbsScalesCardSaid : Prop := Claim7.holds Tryd.pinned (.plain (OpenSpec.ofChange limbsScalesSpec)) limbsScalesCard

/-- THE SECOND FORM's CARD OF 'epicyclelaw01.LimbsDecimal'. -/
def limbsDecimalUptoCard : Claim7 := { stood := { row := limbsDecimalUptoRow, standIns := [], harness := (true, "b03b4fa752371a1aa38143fca692035a59aabddccb07749bf1d7a0ef4de5c352"), looks := false }, kinds := [], alts := [], laidByText := true, laidKinds := [.data, .data, .data], laidTests := true, laidLooks := .later }
def LimbsDecimalUptoCardSaid : Prop := Claim7.holds Tryd.pinned (.plain (OpenSpec.upto limbsDecimalSpec)) limbsDecimalUptoCard

/-- THE SECOND FORM's CARD OF 'epicyclelaw01.LimbsRing'. -/
def limbsRingUptoCard : Claim7 := { stood := { row := limbsRingUptoRow, standIns := [], harness := (true, "b03b4fa752371a1aa38143fca692035a59aabddccb07749bf1d7a0ef4de5c352"), looks := false }, kinds := [], alts := [], laidByText := true, laidKinds := [.data, .data, .data], laidTests := true, laidLooks := .later }
def LimbsRingUptoCardSaid : Prop := Claim7.holds Tryd.pinned (.plain (OpenSpec.upto limbsRingSpec)) limbsRingUptoCard

/-- THE SECOND FORM's CARD OF 'epicyclelaw01.LimbsSigned'. -/
def limbsSignedUptoCard : Claim7 := { stood := { row := limbsSignedUptoRow, standIns := [], harness := (true, "b03b4fa752371a1aa38143fca692035a59aabddccb07749bf1d7a0ef4de5c352"), looks := false }, kinds := [], alts := [], laidByText := true, laidKinds := [.data, .data, .data], laidTests := true, laidLooks := .later }
def LimbsSignedUptoCardSaid : Prop := Claim7.holds Tryd.pinned (.plain (OpenSpec.upto limbsSignedSpec)) limbsSignedUptoCard

/-- THE SECOND FORM's CARD OF 'epicyclelaw01.LimbsMoves'. -/
def limbsMovesUptoCard : Claim7 := { stood := { row := limbsMovesUptoRow, standIns := [], harness := (true, "b03b4fa752371a1aa38143fca692035a59aabddccb07749bf1d7a0ef4de5c352"), looks := false }, kinds := [], alts := [], laidByText := true, laidKinds := [.data, .data, .data], laidTests := true, laidLooks := .later }
def LimbsMovesUptoCardSaid : Prop := Claim7.holds Tryd.pinned (.plain (OpenSpec.upto limbsMovesSpec)) limbsMovesUptoCard

/-- THE SECOND FORM's CARD OF 'epicyclelaw01.LimbsSpreads'. -/
def limbsSpreadsUptoCard : Claim7 := { stood := { row := limbsSpreadsUptoRow, standIns := [], harness := (true, "b03b4fa752371a1aa38143fca692035a59aabddccb07749bf1d7a0ef4de5c352"), looks := false }, kinds := [], alts := [], laidByText := true, laidKinds := [.data, .data, .data], laidTests := true, laidLooks := .later }
def LimbsSpreadsUptoCardSaid : Prop := Claim7.holds Tryd.pinned (.plain (OpenSpec.upto limbsSpreadsSpec)) limbsSpreadsUptoCard

/-- THE SECOND FORM's CARD OF 'epicyclelaw01.LimbsAdds'. -/
def limbsAddsUptoCard : Claim7 := { stood := { row := limbsAddsUptoRow, standIns := [], harness := (true, "b03b4fa752371a1aa38143fca692035a59aabddccb07749bf1d7a0ef4de5c352"), looks := false }, kinds := [], alts := [], laidByText := true, laidKinds := [.data, .data, .data], laidTests := true, laidLooks := .later }
def LimbsAddsUptoCardSaid : Prop := Claim7.holds Tryd.pinned (.plain (OpenSpec.upto limbsAddsSpec)) limbsAddsUptoCard

/-- THE SECOND FORM's CARD OF 'epicyclelaw01.LimbsScales'. -/
def limbsScalesUptoCard : Claim7 := { stood := { row := limbsScalesUptoRow, standIns := [], harness := (true, "b03b4fa752371a1aa38143fca692035a59aabddccb07749bf1d7a0ef4de5c352"), looks := false }, kinds := [], alts := [], laidByText := true, laidKinds := [.data, .data, .data], laidTests := true, laidLooks := .later }
def LimbsScalesUptoCardSaid : Prop := Claim7.holds Tryd.pinned (.plain (OpenSpec.upto limbsScalesSpec)) limbsScalesUptoCard
end Rows
end Go.Proofs.YtlpbfhbfaphicaaDoor
