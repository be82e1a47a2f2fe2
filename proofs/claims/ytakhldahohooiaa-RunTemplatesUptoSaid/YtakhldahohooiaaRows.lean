/-
  No cell of these rows narrows 'for every input' (looked for: loops, veiled, ifaces, maps, wideKeys, modest, calm, conditions, laid).
  DERIVED. THE GIVEN ROWS OF THIS SEAT. 4 by the template 'for every input the law returns true; each argument reads behind the call as it read before'; 0 by the template 'total and deterministic' (their statements: YtakhldahohooiaaTotals.lean).
  GIVEN WITH THE SEED: the statements are not yours to turn. If you find one false, say at which input.
  Laid BY PROGRAM, IN A SANDBOX (cutbox-rows.mjs): the forced cells as the released guide's own fill.sh prints them over the translation 2bc05b883ac8309a… (all of the seat's roots in one cut). By AI agents, Wed Nov 11 2026. No macro, syntax, notation, axiom, sorry.
-/
import Derived.Test.YtakhldahohooiaaChecked
import GoSem.Claim
import GoSem.ClaimJoined
import GoSem.ClaimMapViews
import Derived.JoinedTies
import Derived.KernelRfl
namespace Go.Proofs.Ytakhldahohooiaa
/- THE CELL 'sum', in the pinned program and in every row, IS THE sha256 OF THE DUMP (.gsa) THAT YtakhldahohooiaaProg.lean LOADS. Nothing in Lean hashes anything: it is a label: what it is worth is what the hold of that sum in a sandbox is worth. -/
noncomputable def Try.pinned : Pinned := { name := "ytakhldahohooiaa", sum := "2bc05b883ac8309ab3585625a0a02b1d14fefbc7a2fb1233d38b188e148bb44e", checked := Try.checked }
namespace Rows
def none {H : Type} : Left H := { results := [], args := [] }

/-- 'boltinglaw19.RunScripts': WHATEVER THE INPUT: true; the input reads as it did. -/
def runScriptsSpec : ChangeSpec := { name := "runScripts", fn := fun _ => fun
  | [d] => { results := [.lit (.bool true)], args := [d] }
  | _ => none }
def runScriptsRow : OpenClaim := { program := "ytakhldahohooiaa", sum := "2bc05b883ac8309ab3585625a0a02b1d14fefbc7a2fb1233d38b188e148bb44e", func := "bolting/boltinglaw19.RunScripts", spec := "runScripts", inPlace := ["internal/abi.NoEscape", "internal/bytealg.IndexByteString", "internal/bytealg.IndexString"], unfollowed := true, recurses := true, named := ["internal/bytealg.MaxLen"], plainKeys := false, apart := false }
def RunScriptsSaid : Prop := runScriptsRow.holds Try.pinned (OpenSpec.ofChange runScriptsSpec)

/-- ITS FALSE NEIGHBOUR: 'it returns false'. Refute it at one input. -/
def runScriptsWrong : ChangeSpec := { name := "runScripts", fn := fun _ => fun
  | [d] => { results := [.lit (.bool false)], args := [d] }
  | _ => none }
def RunScriptsWrongFalsely : Prop := runScriptsRow.holds Try.pinned (OpenSpec.ofChange runScriptsWrong)

/-- 'boltinglaw19.RunTemplates': WHATEVER THE INPUT: true; the input reads as it did. -/
def runTemplatesSpec : ChangeSpec := { name := "runTemplates", fn := fun _ => fun
  | [d] => { results := [.lit (.bool true)], args := [d] }
  | _ => none }
def runTemplatesRow : OpenClaim := { program := "ytakhldahohooiaa", sum := "2bc05b883ac8309ab3585625a0a02b1d14fefbc7a2fb1233d38b188e148bb44e", func := "bolting/boltinglaw19.RunTemplates", spec := "runTemplates", inPlace := ["internal/abi.NoEscape", "internal/bytealg.IndexByteString", "internal/bytealg.IndexString"], unfollowed := true, recurses := true, named := ["internal/bytealg.MaxLen"], plainKeys := false, apart := false }
def RunTemplatesSaid : Prop := runTemplatesRow.holds Try.pinned (OpenSpec.ofChange runTemplatesSpec)

/-- ITS FALSE NEIGHBOUR: 'it returns false'. Refute it at one input. -/
def runTemplatesWrong : ChangeSpec := { name := "runTemplates", fn := fun _ => fun
  | [d] => { results := [.lit (.bool false)], args := [d] }
  | _ => none }
def RunTemplatesWrongFalsely : Prop := runTemplatesRow.holds Try.pinned (OpenSpec.ofChange runTemplatesWrong)

/-- 'boltinglaw19.RunFollows': WHATEVER THE INPUT: true; the input reads as it did. -/
def runFollowsSpec : ChangeSpec := { name := "runFollows", fn := fun _ => fun
  | [d] => { results := [.lit (.bool true)], args := [d] }
  | _ => none }
def runFollowsRow : OpenClaim := { program := "ytakhldahohooiaa", sum := "2bc05b883ac8309ab3585625a0a02b1d14fefbc7a2fb1233d38b188e148bb44e", func := "bolting/boltinglaw19.RunFollows", spec := "runFollows", inPlace := ["internal/abi.NoEscape", "internal/bytealg.IndexByteString", "internal/bytealg.IndexString"], unfollowed := true, recurses := true, named := ["internal/bytealg.MaxLen"], plainKeys := false, apart := false }
def RunFollowsSaid : Prop := runFollowsRow.holds Try.pinned (OpenSpec.ofChange runFollowsSpec)

/-- ITS FALSE NEIGHBOUR: 'it returns false'. Refute it at one input. -/
def runFollowsWrong : ChangeSpec := { name := "runFollows", fn := fun _ => fun
  | [d] => { results := [.lit (.bool false)], args := [d] }
  | _ => none }
def RunFollowsWrongFalsely : Prop := runFollowsRow.holds Try.pinned (OpenSpec.ofChange runFollowsWrong)

/-- 'boltinglaw19.RunSafe': WHATEVER THE INPUT: true; the input reads as it did. -/
def runSafeSpec : ChangeSpec := { name := "runSafe", fn := fun _ => fun
  | [d1, d2] => { results := [.lit (.bool true)], args := [d1, d2] }
  | _ => none }
def runSafeRow : OpenClaim := { program := "ytakhldahohooiaa", sum := "2bc05b883ac8309ab3585625a0a02b1d14fefbc7a2fb1233d38b188e148bb44e", func := "bolting/boltinglaw19.RunSafe", spec := "runSafe", inPlace := ["internal/abi.NoEscape", "internal/bytealg.IndexByteString", "internal/bytealg.IndexString"], unfollowed := true, recurses := true, named := ["internal/bytealg.MaxLen"], plainKeys := false, apart := false }
def RunSafeSaid : Prop := runSafeRow.holds Try.pinned (OpenSpec.ofChange runSafeSpec)

/-- ITS FALSE NEIGHBOUR: 'it returns false'. Refute it at one input. -/
def runSafeWrong : ChangeSpec := { name := "runSafe", fn := fun _ => fun
  | [d1, d2] => { results := [.lit (.bool false)], args := [d1, d2] }
  | _ => none }
def RunSafeWrongFalsely : Prop := runSafeRow.holds Try.pinned (OpenSpec.ofChange runSafeWrong)

/- THE SECOND FORM. 'bulk': how many values and letters a reading holds, each counted each time it is reached (what is shared counts as often as it is met; a slice's spare places count too). A statement '..UptoSaid' is the law's where the arguments, and the package variables that the reading takes, are together of bulk at most 1048576: NARROWER than '..Said'. Prove '..Said' where nothing that the law and all that it calls make is longer than what came in: it says more and counts as full. Else prove '..UptoSaid'. A law counts once. -/
mutual
def uptoBulk {H : Type} : DataW H → Nat
  | .lit (.string bytes) => bytes.length + 1
  | .lit _ => 1
  | .nil => 1
  | .ptr d => uptoBulk d + 1
  | .slice elems spare => uptoBulkAll elems + uptoBulkAll spare + 1
  | .agg parts => uptoBulkAll parts + 1
  | .iface _ d => uptoBulk d + 1
  | .map entries => uptoBulkEntries entries + 1
  | .held _ => 1
def uptoBulkAll {H : Type} : List (DataW H) → Nat
  | [] => 0
  | d :: r => uptoBulk d + uptoBulkAll r
def uptoBulkEntries {H : Type} : List (Lit × DataW H) → Nat
  | [] => 0
  | x :: r => uptoBulkEntry x + uptoBulkEntries r
def uptoBulkEntry {H : Type} : Lit × DataW H → Nat
  | (.string bytes, d) => bytes.length + uptoBulk d + 1
  | (_, d) => uptoBulk d + 1
 end
def uptoSmall : (H : Type) → List (DataW H) → Bool := fun _ ds => decide (uptoBulkAll ds ≤ 1048576)
def OpenSpec.upto (s : _root_.Go.ChangeSpec) : _root_.Go.OpenSpec := { _root_.Go.OpenSpec.ofChange s with cond := some uptoSmall }

/-- 'boltinglaw19.RunScripts', WHERE WHAT IT READS IS OF BULK AT MOST 1048576: true; the input reads as it did. -/
def runScriptsUptoRow : OpenClaim := { program := "ytakhldahohooiaa", sum := "2bc05b883ac8309ab3585625a0a02b1d14fefbc7a2fb1233d38b188e148bb44e", func := "bolting/boltinglaw19.RunScripts", spec := "runScripts", inPlace := ["internal/abi.NoEscape", "internal/bytealg.IndexByteString", "internal/bytealg.IndexString"], unfollowed := true, recurses := true, named := ["internal/bytealg.MaxLen"], plainKeys := false, apart := false, narrowed := true }
def RunScriptsUptoSaid : Prop := runScriptsUptoRow.holds Try.pinned (OpenSpec.upto runScriptsSpec)

/-- 'boltinglaw19.RunTemplates', WHERE WHAT IT READS IS OF BULK AT MOST 1048576: true; the input reads as it did. -/
def runTemplatesUptoRow : OpenClaim := { program := "ytakhldahohooiaa", sum := "2bc05b883ac8309ab3585625a0a02b1d14fefbc7a2fb1233d38b188e148bb44e", func := "bolting/boltinglaw19.RunTemplates", spec := "runTemplates", inPlace := ["internal/abi.NoEscape", "internal/bytealg.IndexByteString", "internal/bytealg.IndexString"], unfollowed := true, recurses := true, named := ["internal/bytealg.MaxLen"], plainKeys := false, apart := false, narrowed := true }
def RunTemplatesUptoSaid : Prop := runTemplatesUptoRow.holds Try.pinned (OpenSpec.upto runTemplatesSpec)

/-- 'boltinglaw19.RunFollows', WHERE WHAT IT READS IS OF BULK AT MOST 1048576: true; the input reads as it did. -/
def runFollowsUptoRow : OpenClaim := { program := "ytakhldahohooiaa", sum := "2bc05b883ac8309ab3585625a0a02b1d14fefbc7a2fb1233d38b188e148bb44e", func := "bolting/boltinglaw19.RunFollows", spec := "runFollows", inPlace := ["internal/abi.NoEscape", "internal/bytealg.IndexByteString", "internal/bytealg.IndexString"], unfollowed := true, recurses := true, named := ["internal/bytealg.MaxLen"], plainKeys := false, apart := false, narrowed := true }
def RunFollowsUptoSaid : Prop := runFollowsUptoRow.holds Try.pinned (OpenSpec.upto runFollowsSpec)

/-- 'boltinglaw19.RunSafe', WHERE WHAT IT READS IS OF BULK AT MOST 1048576: true; the input reads as it did. -/
def runSafeUptoRow : OpenClaim := { program := "ytakhldahohooiaa", sum := "2bc05b883ac8309ab3585625a0a02b1d14fefbc7a2fb1233d38b188e148bb44e", func := "bolting/boltinglaw19.RunSafe", spec := "runSafe", inPlace := ["internal/abi.NoEscape", "internal/bytealg.IndexByteString", "internal/bytealg.IndexString"], unfollowed := true, recurses := true, named := ["internal/bytealg.MaxLen"], plainKeys := false, apart := false, narrowed := true }
def RunSafeUptoSaid : Prop := runSafeUptoRow.holds Try.pinned (OpenSpec.upto runSafeSpec)

end Rows
end Go.Proofs.Ytakhldahohooiaa
