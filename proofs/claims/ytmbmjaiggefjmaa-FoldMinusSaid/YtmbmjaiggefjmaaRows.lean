/-
  No cell of these rows narrows 'for every input' (looked for: loops, veiled, ifaces, maps, wideKeys, modest, calm, conditions, laid).
  DERIVED. THE GIVEN ROWS OF THIS SEAT. 7 by the template 'for every input the law returns true; each argument reads behind the call as it read before'; 0 by the template 'total and deterministic' (their statements: YtmbmjaiggefjmaaTotals.lean).
  GIVEN WITH THE SEED: the statements are not yours to turn. If you find one false, say at which input.
  Laid BY PROGRAM, IN A SANDBOX (cutbox-rows.mjs): the forced cells as the released guide's own fill.sh prints them over the translation 891da37616d43f2c… (all of the seat's roots in one cut). By AI agents, Wed Nov 11 2026. No macro, syntax, notation, axiom, sorry.
-/
import Derived.Test.YtmbmjaiggefjmaaChecked
import GoSem.Claim
import GoSem.ClaimJoined
import GoSem.ClaimMapViews
import Derived.JoinedTies
import Derived.KernelRfl
namespace Go.Proofs.Ytmbmjaiggefjmaa
/- THE CELL 'sum', in the pinned program and in every row, IS THE sha256 OF THE DUMP (.gsa) THAT YtmbmjaiggefjmaaProg.lean LOADS. Nothing in Lean hashes anything: it is a label: what it is worth is what the hold of that sum in a sandbox is worth. -/
noncomputable def Try.pinned : Pinned := { name := "ytmbmjaiggefjmaa", sum := "891da37616d43f2c1baa3d276f3647805bf64d1c26d03f0e87d4645525c1e3bc", checked := Try.checked }
namespace Rows
def none {H : Type} : Left H := { results := [], args := [] }

/-- 'boltinglaw02.FoldLetters': WHATEVER THE INPUT: true; the input reads as it did. -/
def foldLettersSpec : ChangeSpec := { name := "foldLetters", fn := fun _ => fun
  | [d1, d2, d3] => { results := [.lit (.bool true)], args := [d1, d2, d3] }
  | _ => none }
def foldLettersRow : OpenClaim := { program := "ytmbmjaiggefjmaa", sum := "891da37616d43f2c1baa3d276f3647805bf64d1c26d03f0e87d4645525c1e3bc", func := "bolting/boltinglaw02.FoldLetters", spec := "foldLetters", unfollowed := true, recurses := true, apart := false }
def FoldLettersSaid : Prop := foldLettersRow.holds Try.pinned (OpenSpec.ofChange foldLettersSpec)

/-- ITS FALSE NEIGHBOUR: 'it returns false'. Refute it at one input. -/
def foldLettersWrong : ChangeSpec := { name := "foldLetters", fn := fun _ => fun
  | [d1, d2, d3] => { results := [.lit (.bool false)], args := [d1, d2, d3] }
  | _ => none }
def FoldLettersWrongFalsely : Prop := foldLettersRow.holds Try.pinned (OpenSpec.ofChange foldLettersWrong)

/-- 'boltinglaw02.FoldWords': WHATEVER THE INPUT: true; the input reads as it did. -/
def foldWordsSpec : ChangeSpec := { name := "foldWords", fn := fun _ => fun
  | [d] => { results := [.lit (.bool true)], args := [d] }
  | _ => none }
def foldWordsRow : OpenClaim := { program := "ytmbmjaiggefjmaa", sum := "891da37616d43f2c1baa3d276f3647805bf64d1c26d03f0e87d4645525c1e3bc", func := "bolting/boltinglaw02.FoldWords", spec := "foldWords", unfollowed := true, recurses := true, apart := false }
def FoldWordsSaid : Prop := foldWordsRow.holds Try.pinned (OpenSpec.ofChange foldWordsSpec)

/-- ITS FALSE NEIGHBOUR: 'it returns false'. Refute it at one input. -/
def foldWordsWrong : ChangeSpec := { name := "foldWords", fn := fun _ => fun
  | [d] => { results := [.lit (.bool false)], args := [d] }
  | _ => none }
def FoldWordsWrongFalsely : Prop := foldWordsRow.holds Try.pinned (OpenSpec.ofChange foldWordsWrong)

/-- 'boltinglaw02.FoldLists': WHATEVER THE INPUT: true; the input reads as it did. -/
def foldListsSpec : ChangeSpec := { name := "foldLists", fn := fun _ => fun
  | [d1, d2, d3] => { results := [.lit (.bool true)], args := [d1, d2, d3] }
  | _ => none }
def foldListsRow : OpenClaim := { program := "ytmbmjaiggefjmaa", sum := "891da37616d43f2c1baa3d276f3647805bf64d1c26d03f0e87d4645525c1e3bc", func := "bolting/boltinglaw02.FoldLists", spec := "foldLists", unfollowed := true, recurses := true, apart := false }
def FoldListsSaid : Prop := foldListsRow.holds Try.pinned (OpenSpec.ofChange foldListsSpec)

/-- ITS FALSE NEIGHBOUR: 'it returns false'. Refute it at one input. -/
def foldListsWrong : ChangeSpec := { name := "foldLists", fn := fun _ => fun
  | [d1, d2, d3] => { results := [.lit (.bool false)], args := [d1, d2, d3] }
  | _ => none }
def FoldListsWrongFalsely : Prop := foldListsRow.holds Try.pinned (OpenSpec.ofChange foldListsWrong)

/-- 'boltinglaw02.FoldFinds': WHATEVER THE INPUT: true; the input reads as it did. -/
def foldFindsSpec : ChangeSpec := { name := "foldFinds", fn := fun _ => fun
  | [d] => { results := [.lit (.bool true)], args := [d] }
  | _ => none }
def foldFindsRow : OpenClaim := { program := "ytmbmjaiggefjmaa", sum := "891da37616d43f2c1baa3d276f3647805bf64d1c26d03f0e87d4645525c1e3bc", func := "bolting/boltinglaw02.FoldFinds", spec := "foldFinds", unfollowed := true, recurses := true, apart := false }
def FoldFindsSaid : Prop := foldFindsRow.holds Try.pinned (OpenSpec.ofChange foldFindsSpec)

/-- ITS FALSE NEIGHBOUR: 'it returns false'. Refute it at one input. -/
def foldFindsWrong : ChangeSpec := { name := "foldFinds", fn := fun _ => fun
  | [d] => { results := [.lit (.bool false)], args := [d] }
  | _ => none }
def FoldFindsWrongFalsely : Prop := foldFindsRow.holds Try.pinned (OpenSpec.ofChange foldFindsWrong)

/-- 'boltinglaw02.FoldAgain': WHATEVER THE INPUT: true; the input reads as it did. -/
def foldAgainSpec : ChangeSpec := { name := "foldAgain", fn := fun _ => fun
  | [d] => { results := [.lit (.bool true)], args := [d] }
  | _ => none }
def foldAgainRow : OpenClaim := { program := "ytmbmjaiggefjmaa", sum := "891da37616d43f2c1baa3d276f3647805bf64d1c26d03f0e87d4645525c1e3bc", func := "bolting/boltinglaw02.FoldAgain", spec := "foldAgain", unfollowed := true, recurses := true, apart := false }
def FoldAgainSaid : Prop := foldAgainRow.holds Try.pinned (OpenSpec.ofChange foldAgainSpec)

/-- ITS FALSE NEIGHBOUR: 'it returns false'. Refute it at one input. -/
def foldAgainWrong : ChangeSpec := { name := "foldAgain", fn := fun _ => fun
  | [d] => { results := [.lit (.bool false)], args := [d] }
  | _ => none }
def FoldAgainWrongFalsely : Prop := foldAgainRow.holds Try.pinned (OpenSpec.ofChange foldAgainWrong)

/-- 'boltinglaw02.FoldMinus': WHATEVER THE INPUT: true; the input reads as it did. -/
def foldMinusSpec : ChangeSpec := { name := "foldMinus", fn := fun _ => fun
  | [d1, d2] => { results := [.lit (.bool true)], args := [d1, d2] }
  | _ => none }
def foldMinusRow : OpenClaim := { program := "ytmbmjaiggefjmaa", sum := "891da37616d43f2c1baa3d276f3647805bf64d1c26d03f0e87d4645525c1e3bc", func := "bolting/boltinglaw02.FoldMinus", spec := "foldMinus", unfollowed := true, recurses := true, apart := false }
def FoldMinusSaid : Prop := foldMinusRow.holds Try.pinned (OpenSpec.ofChange foldMinusSpec)

/-- ITS FALSE NEIGHBOUR: 'it returns false'. Refute it at one input. -/
def foldMinusWrong : ChangeSpec := { name := "foldMinus", fn := fun _ => fun
  | [d1, d2] => { results := [.lit (.bool false)], args := [d1, d2] }
  | _ => none }
def FoldMinusWrongFalsely : Prop := foldMinusRow.holds Try.pinned (OpenSpec.ofChange foldMinusWrong)

/-- 'boltinglaw02.FoldJoins': WHATEVER THE INPUT: true; the input reads as it did. -/
def foldJoinsSpec : ChangeSpec := { name := "foldJoins", fn := fun _ => fun
  | [d1, d2] => { results := [.lit (.bool true)], args := [d1, d2] }
  | _ => none }
def foldJoinsRow : OpenClaim := { program := "ytmbmjaiggefjmaa", sum := "891da37616d43f2c1baa3d276f3647805bf64d1c26d03f0e87d4645525c1e3bc", func := "bolting/boltinglaw02.FoldJoins", spec := "foldJoins", unfollowed := true, recurses := true, apart := false }
def FoldJoinsSaid : Prop := foldJoinsRow.holds Try.pinned (OpenSpec.ofChange foldJoinsSpec)

/-- ITS FALSE NEIGHBOUR: 'it returns false'. Refute it at one input. -/
def foldJoinsWrong : ChangeSpec := { name := "foldJoins", fn := fun _ => fun
  | [d1, d2] => { results := [.lit (.bool false)], args := [d1, d2] }
  | _ => none }
def FoldJoinsWrongFalsely : Prop := foldJoinsRow.holds Try.pinned (OpenSpec.ofChange foldJoinsWrong)

/- THE SECOND FORM. 'bulk': how many values and letters a reading holds, each counted each time it is reached (what is shared counts as often as it is met; a slice's spare places count too). A statement '..UptoSaid' is the law's where the arguments, and the package variables that the reading takes, are together of bulk at most 1048576: NARROWER than '..Said'. Prove '..Said' where nothing that the law and all that it calls make is longer than what came in: it says more and counts as full. Else prove '..UptoSaid'. A law counts once. -/
mutual
def uptoBulk {H : Type} : DataW H → Nat
  | .lit (.string bytes) => bytes.length + 1
  | .lit _ => 1
  | .nil => 1
  | .ptr d => uptoBulk d + 1
  | .slice elems spare => uptoBulkAll elems + uptoBulkAll spare + 1
  | .agg parts => uptoBulkAll parts + 1
  | .iface _ d => uptoBulk d + 1
  | .map entries => uptoBulkEntries entries + 1
  | .held _ => 1
def uptoBulkAll {H : Type} : List (DataW H) → Nat
  | [] => 0
  | d :: r => uptoBulk d + uptoBulkAll r
def uptoBulkEntries {H : Type} : List (Lit × DataW H) → Nat
  | [] => 0
  | x :: r => uptoBulkEntry x + uptoBulkEntries r
def uptoBulkEntry {H : Type} : Lit × DataW H → Nat
  | (.string bytes, d) => bytes.length + uptoBulk d + 1
  | (_, d) => uptoBulk d + 1
 end
def uptoSmall : (H : Type) → List (DataW H) → Bool := fun _ ds => decide (uptoBulkAll ds ≤ 1048576)
def OpenSpec.upto (s : _root_.Go.ChangeSpec) : _root_.Go.OpenSpec := { _root_.Go.OpenSpec.ofChange s with cond := some uptoSmall }

/-- 'boltinglaw02.FoldLetters', WHERE WHAT IT READS IS OF BULK AT MOST 1048576: true; the input reads as it did. -/
def foldLettersUptoRow : OpenClaim := { program := "ytmbmjaiggefjmaa", sum := "891da37616d43f2c1baa3d276f3647805bf64d1c26d03f0e87d4645525c1e3bc", func := "bolting/boltinglaw02.FoldLetters", spec := "foldLetters", unfollowed := true, recurses := true, apart := false, narrowed := true }
def FoldLettersUptoSaid : Prop := foldLettersUptoRow.holds Try.pinned (OpenSpec.upto foldLettersSpec)

/-- 'boltinglaw02.FoldWords', WHERE WHAT IT READS IS OF BULK AT MOST 1048576: true; the input reads as it did. -/
def foldWordsUptoRow : OpenClaim := { program := "ytmbmjaiggefjmaa", sum := "891da37616d43f2c1baa3d276f3647805bf64d1c26d03f0e87d4645525c1e3bc", func := "bolting/boltinglaw02.FoldWords", spec := "foldWords", unfollowed := true, recurses := true, apart := false, narrowed := true }
def FoldWordsUptoSaid : Prop := foldWordsUptoRow.holds Try.pinned (OpenSpec.upto foldWordsSpec)

/-- 'boltinglaw02.FoldLists', WHERE WHAT IT READS IS OF BULK AT MOST 1048576: true; the input reads as it did. -/
def foldListsUptoRow : OpenClaim := { program := "ytmbmjaiggefjmaa", sum := "891da37616d43f2c1baa3d276f3647805bf64d1c26d03f0e87d4645525c1e3bc", func := "bolting/boltinglaw02.FoldLists", spec := "foldLists", unfollowed := true, recurses := true, apart := false, narrowed := true }
def FoldListsUptoSaid : Prop := foldListsUptoRow.holds Try.pinned (OpenSpec.upto foldListsSpec)

/-- 'boltinglaw02.FoldFinds', WHERE WHAT IT READS IS OF BULK AT MOST 1048576: true; the input reads as it did. -/
def foldFindsUptoRow : OpenClaim := { program := "ytmbmjaiggefjmaa", sum := "891da37616d43f2c1baa3d276f3647805bf64d1c26d03f0e87d4645525c1e3bc", func := "bolting/boltinglaw02.FoldFinds", spec := "foldFinds", unfollowed := true, recurses := true, apart := false, narrowed := true }
def FoldFindsUptoSaid : Prop := foldFindsUptoRow.holds Try.pinned (OpenSpec.upto foldFindsSpec)

/-- 'boltinglaw02.FoldAgain', WHERE WHAT IT READS IS OF BULK AT MOST 1048576: true; the input reads as it did. -/
def foldAgainUptoRow : OpenClaim := { program := "ytmbmjaiggefjmaa", sum := "891da37616d43f2c1baa3d276f3647805bf64d1c26d03f0e87d4645525c1e3bc", func := "bolting/boltinglaw02.FoldAgain", spec := "foldAgain", unfollowed := true, recurses := true, apart := false, narrowed := true }
def FoldAgainUptoSaid : Prop := foldAgainUptoRow.holds Try.pinned (OpenSpec.upto foldAgainSpec)

/-- 'boltinglaw02.FoldMinus', WHERE WHAT IT READS IS OF BULK AT MOST 1048576: true; the input reads as it did. -/
def foldMinusUptoRow : OpenClaim := { program := "ytmbmjaiggefjmaa", sum := "891da37616d43f2c1baa3d276f3647805bf64d1c26d03f0e87d4645525c1e3bc", func := "bolting/boltinglaw02.FoldMinus", spec := "foldMinus", unfollowed := true, recurses := true, apart := false, narrowed := true }
def FoldMinusUptoSaid : Prop := foldMinusUptoRow.holds Try.pinned (OpenSpec.upto foldMinusSpec)

/-- 'boltinglaw02.FoldJoins', WHERE WHAT IT READS IS OF BULK AT MOST 1048576: true; the input reads as it did. -/
def foldJoinsUptoRow : OpenClaim := { program := "ytmbmjaiggefjmaa", sum := "891da37616d43f2c1baa3d276f3647805bf64d1c26d03f0e87d4645525c1e3bc", func := "bolting/boltinglaw02.FoldJoins", spec := "foldJoins", unfollowed := true, recurses := true, apart := false, narrowed := true }
def FoldJoinsUptoSaid : Prop := foldJoinsUptoRow.holds Try.pinned (OpenSpec.upto foldJoinsSpec)

end Rows
end Go.Proofs.Ytmbmjaiggefjmaa
