/-
  DERIVED. GIVEN WITH THE SEED: THE CARDS: each row of YtaeikiigdfgmaaaDoorRows.lean that lists a variable, with what it lists TIED to the program's text (the seventh form; the later family's looks); each row that meets fmt, with fmt's text TOLD by the authors' own Lean function (tested against real Go, not proved from fmt's source: count such statements apart). THE CARD IS WHAT COUNTS. Prove the row's statement (the work); the ties are given (YtaeikiigdfgmaaaDoorTie.lean); close each card by the builder's one call (the guide's Derived/Test/ToyasCard.lean, 'card_holds'). Laid BY PROGRAM, IN A SANDBOX (cutbox-door.mjs). By AI agents, Wed Nov 11 2026. No macro, syntax, notation, axiom, sorry.
-/
import Derived.Test.YtaeikiigdfgmaaaDoorRows
import GoSem.ClaimSeven
namespace Go.Proofs.YtaeikiigdfgmaaaDoor
namespace Rows

/-- THE TIED CARD OF 'boltinglaw01.CharsDecodes'. -/
def charsDecodesCard : Claim7 := { stood := { row := charsDecodesRow, standIns := [], harness := (true, "9f57a6449a257299d821996e28ae6bcedd017975191d3e2c9c7c361f248b1aa1"), looks := false }, kinds := [], alts := [], laidByText := true, laidKinds := [.data, .pinned], laidTests := true, laidLooks := .later }
def CharsDecodesCardSaid : Prop := Claim7.holds Tryd.pinned (.plain (OpenSpec.ofChange charsDecodesSpec)) charsDecodesCard

/-- THE TIED CARD OF 'boltinglaw01.CharsLines'. -/
def charsLinesCard : Claim7 := { stood := { row := charsLinesRow, standIns := [], harness := (true, "9f57a6449a257299d821996e28ae6bcedd017975191d3e2c9c7c361f248b1aa1"), looks := false }, kinds := [], alts := [], laidByText := true, laidKinds := [.data, .pinned], laidTests := true, laidLooks := .later }
def CharsLinesCardSaid : Prop := Claim7.holds Tryd.pinned (.plain (OpenSpec.ofChange charsLinesSpec)) charsLinesCard

/-- THE TIED CARD OF 'boltinglaw01.CharsSamples'. -/
def charsSamplesCard : Claim7 := { stood := { row := charsSamplesRow, standIns := [], harness := (true, "9f57a6449a257299d821996e28ae6bcedd017975191d3e2c9c7c361f248b1aa1"), looks := false }, kinds := [], alts := [], laidByText := true, laidKinds := [.data, .pinned], laidTests := true, laidLooks := .later }
def CharsSamplesCardSaid : Prop := Claim7.holds Tryd.pinned (.plain (OpenSpec.ofChange charsSamplesSpec)) charsSamplesCard

/-- THE TIED CARD OF 'boltinglaw01.CharsAgain'. -/
def charsAgainCard : Claim7 := { stood := { row := charsAgainRow, standIns := [], harness := (true, "9f57a6449a257299d821996e28ae6bcedd017975191d3e2c9c7c361f248b1aa1"), looks := false }, kinds := [], alts := [], laidByText := true, laidKinds := [.data, .pinned], laidTests := true, laidLooks := .later }
def CharsAgainCardSaid : Prop := Claim7.holds Tryd.pinned (.plain (OpenSpec.ofChange charsAgainSpec)) charsAgainCard

/-- THE TIED CARD OF 'boltinglaw01.CharsJoins'. -/
def charsJoinsCard : Claim7 := { stood := { row := charsJoinsRow, standIns := [], harness := (true, "9f57a6449a257299d821996e28ae6bcedd017975191d3e2c9c7c361f248b1aa1"), looks := false }, kinds := [], alts := [], laidByText := true, laidKinds := [.data, .pinned], laidTests := true, laidLooks := .later }
def CharsJoinsCardSaid : Prop := Claim7.holds Tryd.pinned (.plain (OpenSpec.ofChange charsJoinsSpec)) charsJoinsCard

/-- THE TIED CARD OF 'boltinglaw01.CharsParts'. -/
def charsPartsCard : Claim7 := { stood := { row := charsPartsRow, standIns := [], harness := (true, "9f57a6449a257299d821996e28ae6bcedd017975191d3e2c9c7c361f248b1aa1"), looks := false }, kinds := [], alts := [], laidByText := true, laidKinds := [.data, .pinned], laidTests := true, laidLooks := .later }
def CharsPartsCardSaid : Prop := Claim7.holds Tryd.pinned (.plain (OpenSpec.ofChange charsPartsSpec)) charsPartsCard

/-- THE TIED CARD OF 'boltinglaw01.CharsPlain'. -/
def charsPlainCard : Claim7 := { stood := { row := charsPlainRow, standIns := [], harness := (true, "9f57a6449a257299d821996e28ae6bcedd017975191d3e2c9c7c361f248b1aa1"), looks := false }, kinds := [], alts := [], laidByText := true, laidKinds := [.data, .pinned], laidTests := true, laidLooks := .later }
def CharsPlainCardSaid : Prop := Claim7.holds Tryd.pinned (.plain (OpenSpec.ofChange charsPlainSpec)) charsPlainCard

/-- THE TIED CARD OF 'boltinglaw01.CharsLonger'. -/
def charsLongerCard : Claim7 := { stood := { row := charsLongerRow, standIns := [], harness := (true, "9f57a6449a257299d821996e28ae6bcedd017975191d3e2c9c7c361f248b1aa1"), looks := false }, kinds := [], alts := [], laidByText := true, laidKinds := [.data, .pinned], laidTests := true, laidLooks := .later }
def CharsLongerCardSaid : Prop := Claim7.holds Tryd.pinned (.plain (OpenSpec.ofChange charsLongerSpec)) charsLongerCard

/-- THE SECOND FORM's CARD OF 'boltinglaw01.CharsDecodes'. -/
def charsDecodesUptoCard : Claim7 := { stood := { row := charsDecodesUptoRow, standIns := [], harness := (true, "9f57a6449a257299d821996e28ae6bcedd017975191d3e2c9c7c361f248b1aa1"), looks := false }, kinds := [], alts := [], laidByText := true, laidKinds := [.data, .pinned], laidTests := true, laidLooks := .later }
def CharsDecodesUptoCardSaid : Prop := Claim7.holds Tryd.pinned (.plain (OpenSpec.upto charsDecodesSpec)) charsDecodesUptoCard

/-- THE SECOND FORM's CARD OF 'boltinglaw01.CharsLines'. -/
def charsLinesUptoCard : Claim7 := { stood := { row := charsLinesUptoRow, standIns := [], harness := (true, "9f57a6449a257299d821996e28ae6bcedd017975191d3e2c9c7c361f248b1aa1"), looks := false }, kinds := [], alts := [], laidByText := true, laidKinds := [.data, .pinned], laidTests := true, laidLooks := .later }
def CharsLinesUptoCardSaid : Prop := Claim7.holds Tryd.pinned (.plain (OpenSpec.upto charsLinesSpec)) charsLinesUptoCard

/-- THE SECOND FORM's CARD OF 'boltinglaw01.CharsSamples'. -/
def charsSamplesUptoCard : Claim7 := { stood := { row := charsSamplesUptoRow, standIns := [], harness := (true, "9f57a6449a257299d821996e28ae6bcedd017975191d3e2c9c7c361f248b1aa1"), looks := false }, kinds := [], alts := [], laidByText := true, laidKinds := [.data, .pinned], laidTests := true, laidLooks := .later }
def CharsSamplesUptoCardSaid : Prop := Claim7.holds Tryd.pinned (.plain (OpenSpec.upto charsSamplesSpec)) charsSamplesUptoCard

/-- THE SECOND FORM's CARD OF 'boltinglaw01.CharsAgain'. -/
def charsAgainUptoCard : Claim7 := { stood := { row := charsAgainUptoRow, standIns := [], harness := (true, "9f57a6449a257299d821996e28ae6bcedd017975191d3e2c9c7c361f248b1aa1"), looks := false }, kinds := [], alts := [], laidByText := true, laidKinds := [.data, .pinned], laidTests := true, laidLooks := .later }
def CharsAgainUptoCardSaid : Prop := Claim7.holds Tryd.pinned (.plain (OpenSpec.upto charsAgainSpec)) charsAgainUptoCard

/-- THE SECOND FORM's CARD OF 'boltinglaw01.CharsJoins'. -/
def charsJoinsUptoCard : Claim7 := { stood := { row := charsJoinsUptoRow, standIns := [], harness := (true, "9f57a6449a257299d821996e28ae6bcedd017975191d3e2c9c7c361f248b1aa1"), looks := false }, kinds := [], alts := [], laidByText := true, laidKinds := [.data, .pinned], laidTests := true, laidLooks := .later }
def CharsJoinsUptoCardSaid : Prop := Claim7.holds Tryd.pinned (.plain (OpenSpec.upto charsJoinsSpec)) charsJoinsUptoCard

/-- THE SECOND FORM's CARD OF 'boltinglaw01.CharsParts'. -/
def charsPartsUptoCard : Claim7 := { stood := { row := charsPartsUptoRow, standIns := [], harness := (true, "9f57a6449a257299d821996e28ae6bcedd017975191d3e2c9c7c361f248b1aa1"), looks := false }, kinds := [], alts := [], laidByText := true, laidKinds := [.data, .pinned], laidTests := true, laidLooks := .later }
def CharsPartsUptoCardSaid : Prop := Claim7.holds Tryd.pinned (.plain (OpenSpec.upto charsPartsSpec)) charsPartsUptoCard

/-- THE SECOND FORM's CARD OF 'boltinglaw01.CharsPlain'. -/
def charsPlainUptoCard : Claim7 := { stood := { row := charsPlainUptoRow, standIns := [], harness := (true, "9f57a6449a257299d821996e28ae6bcedd017975191d3e2c9c7c361f248b1aa1"), looks := false }, kinds := [], alts := [], laidByText := true, laidKinds := [.data, .pinned], laidTests := true, laidLooks := .later }
def CharsPlainUptoCardSaid : Prop := Claim7.holds Tryd.pinned (.plain (OpenSpec.upto charsPlainSpec)) charsPlainUptoCard

/-- THE SECOND FORM's CARD OF 'boltinglaw01.CharsLonger'. -/
def charsLongerUptoCard : Claim7 := { stood := { row := charsLongerUptoRow, standIns := [], harness := (true, "9f57a6449a257299d821996e28ae6bcedd017975191d3e2c9c7c361f248b1aa1"), looks := false }, kinds := [], alts := [], laidByText := true, laidKinds := [.data, .pinned], laidTests := true, laidLooks := .later }
def CharsLongerUptoCardSaid : Prop := Claim7.holds Tryd.pinned (.plain (OpenSpec.upto charsLongerSpec)) charsLongerUptoCard
end Rows
end Go.Proofs.YtaeikiigdfgmaaaDoor
