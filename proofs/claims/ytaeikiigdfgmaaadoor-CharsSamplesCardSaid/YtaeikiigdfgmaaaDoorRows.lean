/-
  NARROWER THAN 'FOR EVERY INPUT', by the rows' own cells (each row's printed sentence says how): CharsDecodes: laid · CharsLines: laid · CharsSamples: laid · CharsAgain: laid · CharsJoins: laid · CharsParts: laid · CharsPlain: laid · CharsLonger: laid.
  DERIVED. THE GIVEN ROWS OF THIS SEAT. 8 by the template 'for every input the law returns true; each argument reads behind the call as it read before'; 0 by the template 'total and deterministic' (their statements: YtaeikiigdfgmaaaDoorTotals.lean).
  GIVEN WITH THE SEED: the statements are not yours to turn. If you find one false, say at which input.
  Laid BY PROGRAM, IN A SANDBOX (cutbox-rows.mjs): the forced cells as the released guide's own fill.sh prints them over the translation b4afd5b60b1f8e9f… (all of the seat's roots in one cut). By AI agents, Wed Nov 11 2026. No macro, syntax, notation, axiom, sorry.
-/
import Derived.Test.YtaeikiigdfgmaaaDoorChecked
import GoSem.PinnedTables
import GoSem.Claim
import GoSem.ClaimJoined
import GoSem.ClaimMapViews
import Derived.JoinedTies
import Derived.KernelRfl
namespace Go.Proofs.YtaeikiigdfgmaaaDoor
/- THE CELL 'sum', in the pinned program and in every row, IS THE sha256 OF THE DUMP (.gsa) THAT YtaeikiigdfgmaaaDoorProg.lean LOADS. Nothing in Lean hashes anything: it is a label: what it is worth is what the hold of that sum in a sandbox is worth. -/
noncomputable def Tryd.pinned : Pinned := { name := "ytaeikiigdfgmaaadoor", sum := "b4afd5b60b1f8e9fa81086814708b801c240b73b4db541238e02bc0b3d4cd3eb", checked := Tryd.checked }
namespace Rows
def none {H : Type} : Left H := { results := [], args := [] }

/- WHAT THE LISTED PACKAGE-LEVEL VARIABLES READ AS WHEN THE CALL BEGINS. Each datum BY PROGRAM (the guide's laid-datum.mjs) off the statement by which the dump's own 'gosem.cut.vars' lays the variable. In a bare row this is a premise. The card (YtaeikiigdfgmaaaDoorCards.lean) ties it to the program's text. -/
def laid_unicode_utf8_acceptRanges {H : Type} : DataW H := .agg [.agg [.lit (.int .u8 128), .lit (.int .u8 191)], .agg [.lit (.int .u8 160), .lit (.int .u8 191)], .agg [.lit (.int .u8 128), .lit (.int .u8 159)], .agg [.lit (.int .u8 144), .lit (.int .u8 191)], .agg [.lit (.int .u8 128), .lit (.int .u8 143)], .agg [.lit (.int .u8 0), .lit (.int .u8 0)], .agg [.lit (.int .u8 0), .lit (.int .u8 0)], .agg [.lit (.int .u8 0), .lit (.int .u8 0)], .agg [.lit (.int .u8 0), .lit (.int .u8 0)], .agg [.lit (.int .u8 0), .lit (.int .u8 0)], .agg [.lit (.int .u8 0), .lit (.int .u8 0)], .agg [.lit (.int .u8 0), .lit (.int .u8 0)], .agg [.lit (.int .u8 0), .lit (.int .u8 0)], .agg [.lit (.int .u8 0), .lit (.int .u8 0)], .agg [.lit (.int .u8 0), .lit (.int .u8 0)], .agg [.lit (.int .u8 0), .lit (.int .u8 0)]]
/-- One of Go's own tables, pinned by name: the form's constant. -/
def laid_unicode_utf8_first : DataW Unit := Go.Pinned.utf8First

/-- 'boltinglaw01.CharsDecodes': WHATEVER THE INPUT: true; the input reads as it did. -/
def charsDecodesSpec : ChangeSpec := { name := "charsDecodes", fn := fun _ => fun
  | [d] => { results := [.lit (.bool true)], args := [d] }
  | _ => none }
def charsDecodesRow : OpenClaim := { program := "ytaeikiigdfgmaaadoor", sum := "b4afd5b60b1f8e9fa81086814708b801c240b73b4db541238e02bc0b3d4cd3eb", func := "bolting/boltinglaw01.CharsDecodes", spec := "charsDecodes", inPlace := ["internal/abi.NoEscape", "internal/bytealg.CountString", "internal/bytealg.IndexByteString", "internal/bytealg.IndexString", "internal/bytealg.MakeNoZero"], named := ["internal/bytealg.MaxLen", "unicode/utf8.first", "unicode/utf8.acceptRanges"], apart := false, laid := [("unicode/utf8.acceptRanges", laid_unicode_utf8_acceptRanges), ("unicode/utf8.first", laid_unicode_utf8_first)] }
def CharsDecodesSaid : Prop := charsDecodesRow.holds Tryd.pinned (OpenSpec.ofChange charsDecodesSpec)

/-- ITS FALSE NEIGHBOUR: 'it returns false'. Refute it at one input. -/
def charsDecodesWrong : ChangeSpec := { name := "charsDecodes", fn := fun _ => fun
  | [d] => { results := [.lit (.bool false)], args := [d] }
  | _ => none }
def CharsDecodesWrongFalsely : Prop := charsDecodesRow.holds Tryd.pinned (OpenSpec.ofChange charsDecodesWrong)

/-- 'boltinglaw01.CharsLines': WHATEVER THE INPUT: true; the input reads as it did. -/
def charsLinesSpec : ChangeSpec := { name := "charsLines", fn := fun _ => fun
  | [d] => { results := [.lit (.bool true)], args := [d] }
  | _ => none }
def charsLinesRow : OpenClaim := { program := "ytaeikiigdfgmaaadoor", sum := "b4afd5b60b1f8e9fa81086814708b801c240b73b4db541238e02bc0b3d4cd3eb", func := "bolting/boltinglaw01.CharsLines", spec := "charsLines", inPlace := ["internal/abi.NoEscape", "internal/bytealg.CountString", "internal/bytealg.IndexByteString", "internal/bytealg.IndexString", "internal/bytealg.MakeNoZero"], named := ["internal/bytealg.MaxLen", "unicode/utf8.first", "unicode/utf8.acceptRanges"], apart := false, laid := [("unicode/utf8.acceptRanges", laid_unicode_utf8_acceptRanges), ("unicode/utf8.first", laid_unicode_utf8_first)] }
def CharsLinesSaid : Prop := charsLinesRow.holds Tryd.pinned (OpenSpec.ofChange charsLinesSpec)

/-- ITS FALSE NEIGHBOUR: 'it returns false'. Refute it at one input. -/
def charsLinesWrong : ChangeSpec := { name := "charsLines", fn := fun _ => fun
  | [d] => { results := [.lit (.bool false)], args := [d] }
  | _ => none }
def CharsLinesWrongFalsely : Prop := charsLinesRow.holds Tryd.pinned (OpenSpec.ofChange charsLinesWrong)

/-- 'boltinglaw01.CharsSamples': WHATEVER THE INPUT: true; the input reads as it did. -/
def charsSamplesSpec : ChangeSpec := { name := "charsSamples", fn := fun _ => fun
  | [d1, d2] => { results := [.lit (.bool true)], args := [d1, d2] }
  | _ => none }
def charsSamplesRow : OpenClaim := { program := "ytaeikiigdfgmaaadoor", sum := "b4afd5b60b1f8e9fa81086814708b801c240b73b4db541238e02bc0b3d4cd3eb", func := "bolting/boltinglaw01.CharsSamples", spec := "charsSamples", inPlace := ["internal/abi.NoEscape", "internal/bytealg.CountString", "internal/bytealg.IndexByteString", "internal/bytealg.IndexString", "internal/bytealg.MakeNoZero"], named := ["internal/bytealg.MaxLen", "unicode/utf8.first", "unicode/utf8.acceptRanges"], apart := false, laid := [("unicode/utf8.acceptRanges", laid_unicode_utf8_acceptRanges), ("unicode/utf8.first", laid_unicode_utf8_first)] }
def CharsSamplesSaid : Prop := charsSamplesRow.holds Tryd.pinned (OpenSpec.ofChange charsSamplesSpec)

/-- ITS FALSE NEIGHBOUR: 'it returns false'. Refute it at one input. -/
def charsSamplesWrong : ChangeSpec := { name := "charsSamples", fn := fun _ => fun
  | [d1, d2] => { results := [.lit (.bool false)], args := [d1, d2] }
  | _ => none }
def CharsSamplesWrongFalsely : Prop := charsSamplesRow.holds Tryd.pinned (OpenSpec.ofChange charsSamplesWrong)

/-- 'boltinglaw01.CharsAgain': WHATEVER THE INPUT: true; the input reads as it did. -/
def charsAgainSpec : ChangeSpec := { name := "charsAgain", fn := fun _ => fun
  | [d] => { results := [.lit (.bool true)], args := [d] }
  | _ => none }
def charsAgainRow : OpenClaim := { program := "ytaeikiigdfgmaaadoor", sum := "b4afd5b60b1f8e9fa81086814708b801c240b73b4db541238e02bc0b3d4cd3eb", func := "bolting/boltinglaw01.CharsAgain", spec := "charsAgain", inPlace := ["internal/abi.NoEscape", "internal/bytealg.CountString", "internal/bytealg.IndexByteString", "internal/bytealg.IndexString", "internal/bytealg.MakeNoZero"], named := ["internal/bytealg.MaxLen", "unicode/utf8.first", "unicode/utf8.acceptRanges"], apart := false, laid := [("unicode/utf8.acceptRanges", laid_unicode_utf8_acceptRanges), ("unicode/utf8.first", laid_unicode_utf8_first)] }
def CharsAgainSaid : Prop := charsAgainRow.holds Tryd.pinned (OpenSpec.ofChange charsAgainSpec)

/-- ITS FALSE NEIGHBOUR: 'it returns false'. Refute it at one input. -/
def charsAgainWrong : ChangeSpec := { name := "charsAgain", fn := fun _ => fun
  | [d] => { results := [.lit (.bool false)], args := [d] }
  | _ => none }
def CharsAgainWrongFalsely : Prop := charsAgainRow.holds Tryd.pinned (OpenSpec.ofChange charsAgainWrong)

/-- 'boltinglaw01.CharsJoins': WHATEVER THE INPUT: true; the input reads as it did. -/
def charsJoinsSpec : ChangeSpec := { name := "charsJoins", fn := fun _ => fun
  | [d1, d2] => { results := [.lit (.bool true)], args := [d1, d2] }
  | _ => none }
def charsJoinsRow : OpenClaim := { program := "ytaeikiigdfgmaaadoor", sum := "b4afd5b60b1f8e9fa81086814708b801c240b73b4db541238e02bc0b3d4cd3eb", func := "bolting/boltinglaw01.CharsJoins", spec := "charsJoins", inPlace := ["internal/abi.NoEscape", "internal/bytealg.CountString", "internal/bytealg.IndexByteString", "internal/bytealg.IndexString", "internal/bytealg.MakeNoZero"], named := ["unicode/utf8.first", "unicode/utf8.acceptRanges", "internal/bytealg.MaxLen"], apart := false, laid := [("unicode/utf8.acceptRanges", laid_unicode_utf8_acceptRanges), ("unicode/utf8.first", laid_unicode_utf8_first)] }
def CharsJoinsSaid : Prop := charsJoinsRow.holds Tryd.pinned (OpenSpec.ofChange charsJoinsSpec)

/-- ITS FALSE NEIGHBOUR: 'it returns false'. Refute it at one input. -/
def charsJoinsWrong : ChangeSpec := { name := "charsJoins", fn := fun _ => fun
  | [d1, d2] => { results := [.lit (.bool false)], args := [d1, d2] }
  | _ => none }
def CharsJoinsWrongFalsely : Prop := charsJoinsRow.holds Tryd.pinned (OpenSpec.ofChange charsJoinsWrong)

/-- 'boltinglaw01.CharsParts': WHATEVER THE INPUT: true; the input reads as it did. -/
def charsPartsSpec : ChangeSpec := { name := "charsParts", fn := fun _ => fun
  | [d1, d2] => { results := [.lit (.bool true)], args := [d1, d2] }
  | _ => none }
def charsPartsRow : OpenClaim := { program := "ytaeikiigdfgmaaadoor", sum := "b4afd5b60b1f8e9fa81086814708b801c240b73b4db541238e02bc0b3d4cd3eb", func := "bolting/boltinglaw01.CharsParts", spec := "charsParts", inPlace := ["internal/abi.NoEscape", "internal/bytealg.CountString", "internal/bytealg.IndexByteString", "internal/bytealg.IndexString", "internal/bytealg.MakeNoZero"], named := ["internal/bytealg.MaxLen", "unicode/utf8.first", "unicode/utf8.acceptRanges"], apart := false, laid := [("unicode/utf8.acceptRanges", laid_unicode_utf8_acceptRanges), ("unicode/utf8.first", laid_unicode_utf8_first)] }
def CharsPartsSaid : Prop := charsPartsRow.holds Tryd.pinned (OpenSpec.ofChange charsPartsSpec)

/-- ITS FALSE NEIGHBOUR: 'it returns false'. Refute it at one input. -/
def charsPartsWrong : ChangeSpec := { name := "charsParts", fn := fun _ => fun
  | [d1, d2] => { results := [.lit (.bool false)], args := [d1, d2] }
  | _ => none }
def CharsPartsWrongFalsely : Prop := charsPartsRow.holds Tryd.pinned (OpenSpec.ofChange charsPartsWrong)

/-- 'boltinglaw01.CharsPlain': WHATEVER THE INPUT: true; the input reads as it did. -/
def charsPlainSpec : ChangeSpec := { name := "charsPlain", fn := fun _ => fun
  | [d] => { results := [.lit (.bool true)], args := [d] }
  | _ => none }
def charsPlainRow : OpenClaim := { program := "ytaeikiigdfgmaaadoor", sum := "b4afd5b60b1f8e9fa81086814708b801c240b73b4db541238e02bc0b3d4cd3eb", func := "bolting/boltinglaw01.CharsPlain", spec := "charsPlain", inPlace := ["internal/abi.NoEscape", "internal/bytealg.CountString", "internal/bytealg.IndexByteString", "internal/bytealg.IndexString", "internal/bytealg.MakeNoZero"], named := ["internal/bytealg.MaxLen", "unicode/utf8.first", "unicode/utf8.acceptRanges"], apart := false, laid := [("unicode/utf8.acceptRanges", laid_unicode_utf8_acceptRanges), ("unicode/utf8.first", laid_unicode_utf8_first)] }
def CharsPlainSaid : Prop := charsPlainRow.holds Tryd.pinned (OpenSpec.ofChange charsPlainSpec)

/-- ITS FALSE NEIGHBOUR: 'it returns false'. Refute it at one input. -/
def charsPlainWrong : ChangeSpec := { name := "charsPlain", fn := fun _ => fun
  | [d] => { results := [.lit (.bool false)], args := [d] }
  | _ => none }
def CharsPlainWrongFalsely : Prop := charsPlainRow.holds Tryd.pinned (OpenSpec.ofChange charsPlainWrong)

/-- 'boltinglaw01.CharsLonger': WHATEVER THE INPUT: true; the input reads as it did. -/
def charsLongerSpec : ChangeSpec := { name := "charsLonger", fn := fun _ => fun
  | [d] => { results := [.lit (.bool true)], args := [d] }
  | _ => none }
def charsLongerRow : OpenClaim := { program := "ytaeikiigdfgmaaadoor", sum := "b4afd5b60b1f8e9fa81086814708b801c240b73b4db541238e02bc0b3d4cd3eb", func := "bolting/boltinglaw01.CharsLonger", spec := "charsLonger", inPlace := ["internal/abi.NoEscape", "internal/bytealg.CountString", "internal/bytealg.IndexByteString", "internal/bytealg.IndexString", "internal/bytealg.MakeNoZero"], named := ["internal/bytealg.MaxLen", "unicode/utf8.first", "unicode/utf8.acceptRanges"], apart := false, laid := [("unicode/utf8.acceptRanges", laid_unicode_utf8_acceptRanges), ("unicode/utf8.first", laid_unicode_utf8_first)] }
def CharsLongerSaid : Prop := charsLongerRow.holds Tryd.pinned (OpenSpec.ofChange charsLongerSpec)

/-- ITS FALSE NEIGHBOUR: 'it returns false'. Refute it at one input. -/
def charsLongerWrong : ChangeSpec := { name := "charsLonger", fn := fun _ => fun
  | [d] => { results := [.lit (.bool false)], args := [d] }
  | _ => none }
def CharsLongerWrongFalsely : Prop := charsLongerRow.holds Tryd.pinned (OpenSpec.ofChange charsLongerWrong)

/- THE SECOND FORM. 'bulk': how many values and letters a reading holds, each counted each time it is reached (what is shared counts as often as it is met; a slice's spare places count too). A statement '..UptoSaid' is the law's where the arguments, and the package variables that the reading takes, are together of bulk at most 1048576: NARROWER than '..Said'. Prove '..Said' where nothing that the law and all that it calls make is longer than what came in: it says more and counts as full. Else prove '..UptoSaid'. A law counts once. -/
mutual
def uptoBulk {H : Type} : DataW H → Nat
  | .lit (.string bytes) => bytes.length + 1
  | .lit _ => 1
  | .nil => 1
  | .ptr d => uptoBulk d + 1
  | .slice elems spare => uptoBulkAll elems + uptoBulkAll spare + 1
  | .agg parts => uptoBulkAll parts + 1
  | .iface _ d => uptoBulk d + 1
  | .map entries => uptoBulkEntries entries + 1
  | .held _ => 1
def uptoBulkAll {H : Type} : List (DataW H) → Nat
  | [] => 0
  | d :: r => uptoBulk d + uptoBulkAll r
def uptoBulkEntries {H : Type} : List (Lit × DataW H) → Nat
  | [] => 0
  | x :: r => uptoBulkEntry x + uptoBulkEntries r
def uptoBulkEntry {H : Type} : Lit × DataW H → Nat
  | (.string bytes, d) => bytes.length + uptoBulk d + 1
  | (_, d) => uptoBulk d + 1
 end
def uptoSmall : (H : Type) → List (DataW H) → Bool := fun _ ds => decide (uptoBulkAll ds ≤ 1048576)
def OpenSpec.upto (s : _root_.Go.ChangeSpec) : _root_.Go.OpenSpec := { _root_.Go.OpenSpec.ofChange s with cond := some uptoSmall }

/-- 'boltinglaw01.CharsDecodes', WHERE WHAT IT READS IS OF BULK AT MOST 1048576: true; the input reads as it did. -/
def charsDecodesUptoRow : OpenClaim := { program := "ytaeikiigdfgmaaadoor", sum := "b4afd5b60b1f8e9fa81086814708b801c240b73b4db541238e02bc0b3d4cd3eb", func := "bolting/boltinglaw01.CharsDecodes", spec := "charsDecodes", inPlace := ["internal/abi.NoEscape", "internal/bytealg.CountString", "internal/bytealg.IndexByteString", "internal/bytealg.IndexString", "internal/bytealg.MakeNoZero"], named := ["internal/bytealg.MaxLen", "unicode/utf8.first", "unicode/utf8.acceptRanges"], apart := false, laid := [("unicode/utf8.acceptRanges", laid_unicode_utf8_acceptRanges), ("unicode/utf8.first", laid_unicode_utf8_first)], narrowed := true }
def CharsDecodesUptoSaid : Prop := charsDecodesUptoRow.holds Tryd.pinned (OpenSpec.upto charsDecodesSpec)

/-- 'boltinglaw01.CharsLines', WHERE WHAT IT READS IS OF BULK AT MOST 1048576: true; the input reads as it did. -/
def charsLinesUptoRow : OpenClaim := { program := "ytaeikiigdfgmaaadoor", sum := "b4afd5b60b1f8e9fa81086814708b801c240b73b4db541238e02bc0b3d4cd3eb", func := "bolting/boltinglaw01.CharsLines", spec := "charsLines", inPlace := ["internal/abi.NoEscape", "internal/bytealg.CountString", "internal/bytealg.IndexByteString", "internal/bytealg.IndexString", "internal/bytealg.MakeNoZero"], named := ["internal/bytealg.MaxLen", "unicode/utf8.first", "unicode/utf8.acceptRanges"], apart := false, laid := [("unicode/utf8.acceptRanges", laid_unicode_utf8_acceptRanges), ("unicode/utf8.first", laid_unicode_utf8_first)], narrowed := true }
def CharsLinesUptoSaid : Prop := charsLinesUptoRow.holds Tryd.pinned (OpenSpec.upto charsLinesSpec)

/-- 'boltinglaw01.CharsSamples', WHERE WHAT IT READS IS OF BULK AT MOST 1048576: true; the input reads as it did. -/
def charsSamplesUptoRow : OpenClaim := { program := "ytaeikiigdfgmaaadoor", sum := "b4afd5b60b1f8e9fa81086814708b801c240b73b4db541238e02bc0b3d4cd3eb", func := "bolting/boltinglaw01.CharsSamples", spec := "charsSamples", inPlace := ["internal/abi.NoEscape", "internal/bytealg.CountString", "internal/bytealg.IndexByteString", "internal/bytealg.IndexString", "internal/bytealg.MakeNoZero"], named := ["internal/bytealg.MaxLen", "unicode/utf8.first", "unicode/utf8.acceptRanges"], apart := false, laid := [("unicode/utf8.acceptRanges", laid_unicode_utf8_acceptRanges), ("unicode/utf8.first", laid_unicode_utf8_first)], narrowed := true }
def CharsSamplesUptoSaid : Prop := charsSamplesUptoRow.holds Tryd.pinned (OpenSpec.upto charsSamplesSpec)

/-- 'boltinglaw01.CharsAgain', WHERE WHAT IT READS IS OF BULK AT MOST 1048576: true; the input reads as it did. -/
def charsAgainUptoRow : OpenClaim := { program := "ytaeikiigdfgmaaadoor", sum := "b4afd5b60b1f8e9fa81086814708b801c240b73b4db541238e02bc0b3d4cd3eb", func := "bolting/boltinglaw01.CharsAgain", spec := "charsAgain", inPlace := ["internal/abi.NoEscape", "internal/bytealg.CountString", "internal/bytealg.IndexByteString", "internal/bytealg.IndexString", "internal/bytealg.MakeNoZero"], named := ["internal/bytealg.MaxLen", "unicode/utf8.first", "unicode/utf8.acceptRanges"], apart := false, laid := [("unicode/utf8.acceptRanges", laid_unicode_utf8_acceptRanges), ("unicode/utf8.first", laid_unicode_utf8_first)], narrowed := true }
def CharsAgainUptoSaid : Prop := charsAgainUptoRow.holds Tryd.pinned (OpenSpec.upto charsAgainSpec)

/-- 'boltinglaw01.CharsJoins', WHERE WHAT IT READS IS OF BULK AT MOST 1048576: true; the input reads as it did. -/
def charsJoinsUptoRow : OpenClaim := { program := "ytaeikiigdfgmaaadoor", sum := "b4afd5b60b1f8e9fa81086814708b801c240b73b4db541238e02bc0b3d4cd3eb", func := "bolting/boltinglaw01.CharsJoins", spec := "charsJoins", inPlace := ["internal/abi.NoEscape", "internal/bytealg.CountString", "internal/bytealg.IndexByteString", "internal/bytealg.IndexString", "internal/bytealg.MakeNoZero"], named := ["unicode/utf8.first", "unicode/utf8.acceptRanges", "internal/bytealg.MaxLen"], apart := false, laid := [("unicode/utf8.acceptRanges", laid_unicode_utf8_acceptRanges), ("unicode/utf8.first", laid_unicode_utf8_first)], narrowed := true }
def CharsJoinsUptoSaid : Prop := charsJoinsUptoRow.holds Tryd.pinned (OpenSpec.upto charsJoinsSpec)

/-- 'boltinglaw01.CharsParts', WHERE WHAT IT READS IS OF BULK AT MOST 1048576: true; the input reads as it did. -/
def charsPartsUptoRow : OpenClaim := { program := "ytaeikiigdfgmaaadoor", sum := "b4afd5b60b1f8e9fa81086814708b801c240b73b4db541238e02bc0b3d4cd3eb", func := "bolting/boltinglaw01.CharsParts", spec := "charsParts", inPlace := ["internal/abi.NoEscape", "internal/bytealg.CountString", "internal/bytealg.IndexByteString", "internal/bytealg.IndexString", "internal/bytealg.MakeNoZero"], named := ["internal/bytealg.MaxLen", "unicode/utf8.first", "unicode/utf8.acceptRanges"], apart := false, laid := [("unicode/utf8.acceptRanges", laid_unicode_utf8_acceptRanges), ("unicode/utf8.first", laid_unicode_utf8_first)], narrowed := true }
def CharsPartsUptoSaid : Prop := charsPartsUptoRow.holds Tryd.pinned (OpenSpec.upto charsPartsSpec)

/-- 'boltinglaw01.CharsPlain', WHERE WHAT IT READS IS OF BULK AT MOST 1048576: true; the input reads as it did. -/
def charsPlainUptoRow : OpenClaim := { program := "ytaeikiigdfgmaaadoor", sum := "b4afd5b60b1f8e9fa81086814708b801c240b73b4db541238e02bc0b3d4cd3eb", func := "bolting/boltinglaw01.CharsPlain", spec := "charsPlain", inPlace := ["internal/abi.NoEscape", "internal/bytealg.CountString", "internal/bytealg.IndexByteString", "internal/bytealg.IndexString", "internal/bytealg.MakeNoZero"], named := ["internal/bytealg.MaxLen", "unicode/utf8.first", "unicode/utf8.acceptRanges"], apart := false, laid := [("unicode/utf8.acceptRanges", laid_unicode_utf8_acceptRanges), ("unicode/utf8.first", laid_unicode_utf8_first)], narrowed := true }
def CharsPlainUptoSaid : Prop := charsPlainUptoRow.holds Tryd.pinned (OpenSpec.upto charsPlainSpec)

/-- 'boltinglaw01.CharsLonger', WHERE WHAT IT READS IS OF BULK AT MOST 1048576: true; the input reads as it did. -/
def charsLongerUptoRow : OpenClaim := { program := "ytaeikiigdfgmaaadoor", sum := "b4afd5b60b1f8e9fa81086814708b801c240b73b4db541238e02bc0b3d4cd3eb", func := "bolting/boltinglaw01.CharsLonger", spec := "charsLonger", inPlace := ["internal/abi.NoEscape", "internal/bytealg.CountString", "internal/bytealg.IndexByteString", "internal/bytealg.IndexString", "internal/bytealg.MakeNoZero"], named := ["internal/bytealg.MaxLen", "unicode/utf8.first", "unicode/utf8.acceptRanges"], apart := false, laid := [("unicode/utf8.acceptRanges", laid_unicode_utf8_acceptRanges), ("unicode/utf8.first", laid_unicode_utf8_first)], narrowed := true }
def CharsLongerUptoSaid : Prop := charsLongerUptoRow.holds Tryd.pinned (OpenSpec.upto charsLongerSpec)

end Rows
end Go.Proofs.YtaeikiigdfgmaaaDoor
