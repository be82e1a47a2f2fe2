/-
  DERIVED. GIVEN WITH THE SEED: THE CARDS: each row of YthblohknnlkidaaDoorRows.lean that lists a variable, with what it lists TIED to the program's text (the seventh form; the later family's looks); each row that meets fmt, with fmt's text TOLD by the authors' own Lean function (tested against real Go, not proved from fmt's source: count such statements apart). THE CARD IS WHAT COUNTS. Prove the row's statement (the work); the ties are given (YthblohknnlkidaaDoorTie.lean); close each card by the builder's one call (the guide's Derived/Test/ToyasCard.lean, 'card_holds'). Laid BY PROGRAM, IN A SANDBOX (cutbox-door.mjs). By AI agents, Wed Nov 11 2026. No macro, syntax, notation, axiom, sorry.
-/
import Derived.Test.YthblohknnlkidaaDoorRows
import GoSem.ClaimSeven
namespace Go.Proofs.YthblohknnlkidaaDoor
namespace Rows

/-- THE TIED CARD OF 'boltinglaw15.HeaderParses'. -/
def headerParsesCard : Claim7 := { stood := { row := headerParsesRow, standIns := [], harness := (true, "cc96d9593d00dcaaa7c4e779a0d7255df1ed2c9d7622b88e64acb75c1c0318b0"), looks := false }, kinds := [], alts := [], laidByText := true, laidKinds := [.data, .pinned], laidTests := true, laidLooks := .later }
def HeaderParsesCardSaid : Prop := Claim7.holds Tryd.pinned (.plain (OpenSpec.ofChange headerParsesSpec)) headerParsesCard

/-- THE TIED CARD OF 'boltinglaw15.HeaderAllows'. -/
def headerAllowsCard : Claim7 := { stood := { row := headerAllowsRow, standIns := [], harness := (true, "cc96d9593d00dcaaa7c4e779a0d7255df1ed2c9d7622b88e64acb75c1c0318b0"), looks := false }, kinds := [], alts := [], laidByText := true, laidKinds := [.data, .pinned], laidTests := true, laidLooks := .later }
def HeaderAllowsCardSaid : Prop := Claim7.holds Tryd.pinned (.plain (OpenSpec.ofChange headerAllowsSpec)) headerAllowsCard

/-- THE TIED CARD OF 'boltinglaw15.HeaderLess'. -/
def headerLessCard : Claim7 := { stood := { row := headerLessRow, standIns := [], harness := (true, "cc96d9593d00dcaaa7c4e779a0d7255df1ed2c9d7622b88e64acb75c1c0318b0"), looks := false }, kinds := [], alts := [], laidByText := true, laidKinds := [.data, .pinned], laidTests := true, laidLooks := .later }
def HeaderLessCardSaid : Prop := Claim7.holds Tryd.pinned (.plain (OpenSpec.ofChange headerLessSpec)) headerLessCard

/-- THE TIED CARD OF 'boltinglaw15.HeaderNames'. -/
def headerNamesCard : Claim7 := { stood := { row := headerNamesRow, standIns := [], harness := (true, "cc96d9593d00dcaaa7c4e779a0d7255df1ed2c9d7622b88e64acb75c1c0318b0"), looks := false }, kinds := [], alts := [], laidByText := true, laidKinds := [.data, .pinned], laidTests := true, laidLooks := .later }
def HeaderNamesCardSaid : Prop := Claim7.holds Tryd.pinned (.plain (OpenSpec.ofChange headerNamesSpec)) headerNamesCard

/-- THE TIED CARD OF 'boltinglaw15.HeaderParts'. -/
def headerPartsCard : Claim7 := { stood := { row := headerPartsRow, standIns := [], harness := (true, "cc96d9593d00dcaaa7c4e779a0d7255df1ed2c9d7622b88e64acb75c1c0318b0"), looks := false }, kinds := [], alts := [], laidByText := true, laidKinds := [.data, .pinned], laidTests := true, laidLooks := .later }
def HeaderPartsCardSaid : Prop := Claim7.holds Tryd.pinned (.plain (OpenSpec.ofChange headerPartsSpec)) headerPartsCard

/-- THE TIED CARD OF 'boltinglaw15.HeaderOn'. -/
def headerOnCard : Claim7 := { stood := { row := headerOnRow, standIns := [], harness := (true, "cc96d9593d00dcaaa7c4e779a0d7255df1ed2c9d7622b88e64acb75c1c0318b0"), looks := false }, kinds := [], alts := [], laidByText := true, laidKinds := [.data, .pinned], laidTests := true, laidLooks := .later }
def HeaderOnCardSaid : Prop := Claim7.holds Tryd.pinned (.plain (OpenSpec.ofChange headerOnSpec)) headerOnCard

/-- THE TIED CARD OF 'boltinglaw15.HeaderTwice'. -/
def headerTwiceCard : Claim7 := { stood := { row := headerTwiceRow, standIns := [], harness := (true, "cc96d9593d00dcaaa7c4e779a0d7255df1ed2c9d7622b88e64acb75c1c0318b0"), looks := false }, kinds := [], alts := [], laidByText := true, laidKinds := [.data, .pinned], laidTests := true, laidLooks := .later }
def HeaderTwiceCardSaid : Prop := Claim7.holds Tryd.pinned (.plain (OpenSpec.ofChange headerTwiceSpec)) headerTwiceCard

/-- THE SECOND FORM's CARD OF 'boltinglaw15.HeaderParses'. -/
def headerParsesUptoCard : Claim7 := { stood := { row := headerParsesUptoRow, standIns := [], harness := (true, "cc96d9593d00dcaaa7c4e779a0d7255df1ed2c9d7622b88e64acb75c1c0318b0"), looks := false }, kinds := [], alts := [], laidByText := true, laidKinds := [.data, .pinned], laidTests := true, laidLooks := .later }
def HeaderParsesUptoCardSaid : Prop := Claim7.holds Tryd.pinned (.plain (OpenSpec.upto headerParsesSpec)) headerParsesUptoCard

/-- THE SECOND FORM's CARD OF 'boltinglaw15.HeaderAllows'. -/
def headerAllowsUptoCard : Claim7 := { stood := { row := headerAllowsUptoRow, standIns := [], harness := (true, "cc96d9593d00dcaaa7c4e779a0d7255df1ed2c9d7622b88e64acb75c1c0318b0"), looks := false }, kinds := [], alts := [], laidByText := true, laidKinds := [.data, .pinned], laidTests := true, laidLooks := .later }
def HeaderAllowsUptoCardSaid : Prop := Claim7.holds Tryd.pinned (.plain (OpenSpec.upto headerAllowsSpec)) headerAllowsUptoCard

/-- THE SECOND FORM's CARD OF 'boltinglaw15.HeaderLess'. -/
def headerLessUptoCard : Claim7 := { stood := { row := headerLessUptoRow, standIns := [], harness := (true, "cc96d9593d00dcaaa7c4e779a0d7255df1ed2c9d7622b88e64acb75c1c0318b0"), looks := false }, kinds := [], alts := [], laidByText := true, laidKinds := [.data, .pinned], laidTests := true, laidLooks := .later }
def HeaderLessUptoCardSaid : Prop := Claim7.holds Tryd.pinned (.plain (OpenSpec.upto headerLessSpec)) headerLessUptoCard

/-- THE SECOND FORM's CARD OF 'boltinglaw15.HeaderNames'. -/
def headerNamesUptoCard : Claim7 := { stood := { row := headerNamesUptoRow, standIns := [], harness := (true, "cc96d9593d00dcaaa7c4e779a0d7255df1ed2c9d7622b88e64acb75c1c0318b0"), looks := false }, kinds := [], alts := [], laidByText := true, laidKinds := [.data, .pinned], laidTests := true, laidLooks := .later }
def HeaderNamesUptoCardSaid : Prop := Claim7.holds Tryd.pinned (.plain (OpenSpec.upto headerNamesSpec)) headerNamesUptoCard

/-- THE SECOND FORM's CARD OF 'boltinglaw15.HeaderParts'. -/
def headerPartsUptoCard : Claim7 := { stood := { row := headerPartsUptoRow, standIns := [], harness := (true, "cc96d9593d00dcaaa7c4e779a0d7255df1ed2c9d7622b88e64acb75c1c0318b0"), looks := false }, kinds := [], alts := [], laidByText := true, laidKinds := [.data, .pinned], laidTests := true, laidLooks := .later }
def HeaderPartsUptoCardSaid : Prop := Claim7.holds Tryd.pinned (.plain (OpenSpec.upto headerPartsSpec)) headerPartsUptoCard

/-- THE SECOND FORM's CARD OF 'boltinglaw15.HeaderOn'. -/
def headerOnUptoCard : Claim7 := { stood := { row := headerOnUptoRow, standIns := [], harness := (true, "cc96d9593d00dcaaa7c4e779a0d7255df1ed2c9d7622b88e64acb75c1c0318b0"), looks := false }, kinds := [], alts := [], laidByText := true, laidKinds := [.data, .pinned], laidTests := true, laidLooks := .later }
def HeaderOnUptoCardSaid : Prop := Claim7.holds Tryd.pinned (.plain (OpenSpec.upto headerOnSpec)) headerOnUptoCard

/-- THE SECOND FORM's CARD OF 'boltinglaw15.HeaderTwice'. -/
def headerTwiceUptoCard : Claim7 := { stood := { row := headerTwiceUptoRow, standIns := [], harness := (true, "cc96d9593d00dcaaa7c4e779a0d7255df1ed2c9d7622b88e64acb75c1c0318b0"), looks := false }, kinds := [], alts := [], laidByText := true, laidKinds := [.data, .pinned], laidTests := true, laidLooks := .later }
def HeaderTwiceUptoCardSaid : Prop := Claim7.holds Tryd.pinned (.plain (OpenSpec.upto headerTwiceSpec)) headerTwiceUptoCard
end Rows
end Go.Proofs.YthblohknnlkidaaDoor
