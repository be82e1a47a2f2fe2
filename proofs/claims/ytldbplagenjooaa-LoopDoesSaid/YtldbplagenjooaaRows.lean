/-
  No cell of these rows narrows 'for every input' (looked for: loops, veiled, ifaces, maps, wideKeys, modest, calm, conditions, laid).
  DERIVED. THE GIVEN ROWS OF THIS SEAT. 5 by the template 'for every input the law returns true; each argument reads behind the call as it read before'; 0 by the template 'total and deterministic' (their statements: YtldbplagenjooaaTotals.lean).
  GIVEN WITH THE SEED: the statements are not yours to turn. If you find one false, say at which input.
  Laid BY PROGRAM, IN A SANDBOX (cutbox-rows.mjs): the forced cells as the released guide's own fill.sh prints them over the translation e492bd6ff94a167f… (all of the seat's roots in one cut). By AI agents, Wed Nov 11 2026. No macro, syntax, notation, axiom, sorry.
-/
import Derived.Test.YtldbplagenjooaaChecked
import GoSem.Claim
import GoSem.ClaimJoined
import GoSem.ClaimMapViews
import Derived.JoinedTies
import Derived.KernelRfl
namespace Go.Proofs.Ytldbplagenjooaa
/- THE CELL 'sum', in the pinned program and in every row, IS THE sha256 OF THE DUMP (.gsa) THAT YtldbplagenjooaaProg.lean LOADS. Nothing in Lean hashes anything: it is a label: what it is worth is what the hold of that sum in a sandbox is worth. -/
noncomputable def Try.pinned : Pinned := { name := "ytldbplagenjooaa", sum := "e492bd6ff94a167fcd130f8b6d8f9781c2d3499a85816fbe6a03af320c99b4f5", checked := Try.checked }
namespace Rows
def none {H : Type} : Left H := { results := [], args := [] }

/-- 'boltinglaw18.LoopSmall': WHATEVER THE INPUT: true; the input reads as it did. -/
def loopSmallSpec : ChangeSpec := { name := "loopSmall", fn := fun _ => fun
  | [d1, d2] => { results := [.lit (.bool true)], args := [d1, d2] }
  | _ => none }
def loopSmallRow : OpenClaim := { program := "ytldbplagenjooaa", sum := "e492bd6ff94a167fcd130f8b6d8f9781c2d3499a85816fbe6a03af320c99b4f5", func := "bolting/boltinglaw18.LoopSmall", spec := "loopSmall", apart := false }
def LoopSmallSaid : Prop := loopSmallRow.holds Try.pinned (OpenSpec.ofChange loopSmallSpec)

/-- ITS FALSE NEIGHBOUR: 'it returns false'. Refute it at one input. -/
def loopSmallWrong : ChangeSpec := { name := "loopSmall", fn := fun _ => fun
  | [d1, d2] => { results := [.lit (.bool false)], args := [d1, d2] }
  | _ => none }
def LoopSmallWrongFalsely : Prop := loopSmallRow.holds Try.pinned (OpenSpec.ofChange loopSmallWrong)

/-- 'boltinglaw18.LoopCopies': WHATEVER THE INPUT: true; the input reads as it did. -/
def loopCopiesSpec : ChangeSpec := { name := "loopCopies", fn := fun _ => fun
  | [d1, d2] => { results := [.lit (.bool true)], args := [d1, d2] }
  | _ => none }
def loopCopiesRow : OpenClaim := { program := "ytldbplagenjooaa", sum := "e492bd6ff94a167fcd130f8b6d8f9781c2d3499a85816fbe6a03af320c99b4f5", func := "bolting/boltinglaw18.LoopCopies", spec := "loopCopies", apart := false }
def LoopCopiesSaid : Prop := loopCopiesRow.holds Try.pinned (OpenSpec.ofChange loopCopiesSpec)

/-- ITS FALSE NEIGHBOUR: 'it returns false'. Refute it at one input. -/
def loopCopiesWrong : ChangeSpec := { name := "loopCopies", fn := fun _ => fun
  | [d1, d2] => { results := [.lit (.bool false)], args := [d1, d2] }
  | _ => none }
def LoopCopiesWrongFalsely : Prop := loopCopiesRow.holds Try.pinned (OpenSpec.ofChange loopCopiesWrong)

/-- 'boltinglaw18.LoopSources': WHATEVER THE INPUT: true; the input reads as it did. -/
def loopSourcesSpec : ChangeSpec := { name := "loopSources", fn := fun _ => fun
  | [d1, d2] => { results := [.lit (.bool true)], args := [d1, d2] }
  | _ => none }
def loopSourcesRow : OpenClaim := { program := "ytldbplagenjooaa", sum := "e492bd6ff94a167fcd130f8b6d8f9781c2d3499a85816fbe6a03af320c99b4f5", func := "bolting/boltinglaw18.LoopSources", spec := "loopSources", unfollowed := true, recurses := true, apart := false }
def LoopSourcesSaid : Prop := loopSourcesRow.holds Try.pinned (OpenSpec.ofChange loopSourcesSpec)

/-- ITS FALSE NEIGHBOUR: 'it returns false'. Refute it at one input. -/
def loopSourcesWrong : ChangeSpec := { name := "loopSources", fn := fun _ => fun
  | [d1, d2] => { results := [.lit (.bool false)], args := [d1, d2] }
  | _ => none }
def LoopSourcesWrongFalsely : Prop := loopSourcesRow.holds Try.pinned (OpenSpec.ofChange loopSourcesWrong)

/-- 'boltinglaw18.LoopOrder': WHATEVER THE INPUT: true; the input reads as it did. -/
def loopOrderSpec : ChangeSpec := { name := "loopOrder", fn := fun _ => fun
  | [d1, d2] => { results := [.lit (.bool true)], args := [d1, d2] }
  | _ => none }
def loopOrderRow : OpenClaim := { program := "ytldbplagenjooaa", sum := "e492bd6ff94a167fcd130f8b6d8f9781c2d3499a85816fbe6a03af320c99b4f5", func := "bolting/boltinglaw18.LoopOrder", spec := "loopOrder", unfollowed := true, recurses := true, apart := false }
def LoopOrderSaid : Prop := loopOrderRow.holds Try.pinned (OpenSpec.ofChange loopOrderSpec)

/-- ITS FALSE NEIGHBOUR: 'it returns false'. Refute it at one input. -/
def loopOrderWrong : ChangeSpec := { name := "loopOrder", fn := fun _ => fun
  | [d1, d2] => { results := [.lit (.bool false)], args := [d1, d2] }
  | _ => none }
def LoopOrderWrongFalsely : Prop := loopOrderRow.holds Try.pinned (OpenSpec.ofChange loopOrderWrong)

/-- 'boltinglaw18.LoopDoes': WHATEVER THE INPUT: true; the input reads as it did. -/
def loopDoesSpec : ChangeSpec := { name := "loopDoes", fn := fun _ => fun
  | [d] => { results := [.lit (.bool true)], args := [d] }
  | _ => none }
def loopDoesRow : OpenClaim := { program := "ytldbplagenjooaa", sum := "e492bd6ff94a167fcd130f8b6d8f9781c2d3499a85816fbe6a03af320c99b4f5", func := "bolting/boltinglaw18.LoopDoes", spec := "loopDoes", unfollowed := true, recurses := true, apart := false }
def LoopDoesSaid : Prop := loopDoesRow.holds Try.pinned (OpenSpec.ofChange loopDoesSpec)

/-- ITS FALSE NEIGHBOUR: 'it returns false'. Refute it at one input. -/
def loopDoesWrong : ChangeSpec := { name := "loopDoes", fn := fun _ => fun
  | [d] => { results := [.lit (.bool false)], args := [d] }
  | _ => none }
def LoopDoesWrongFalsely : Prop := loopDoesRow.holds Try.pinned (OpenSpec.ofChange loopDoesWrong)

/- THE SECOND FORM. 'bulk': how many values and letters a reading holds, each counted each time it is reached (what is shared counts as often as it is met; a slice's spare places count too). A statement '..UptoSaid' is the law's where the arguments, and the package variables that the reading takes, are together of bulk at most 1048576: NARROWER than '..Said'. Prove '..Said' where nothing that the law and all that it calls make is longer than what came in: it says more and counts as full. Else prove '..UptoSaid'. A law counts once. -/
mutual
def uptoBulk {H : Type} : DataW H → Nat
  | .lit (.string bytes) => bytes.length + 1
  | .lit _ => 1
  | .nil => 1
  | .ptr d => uptoBulk d + 1
  | .slice elems spare => uptoBulkAll elems + uptoBulkAll spare + 1
  | .agg parts => uptoBulkAll parts + 1
  | .iface _ d => uptoBulk d + 1
  | .map entries => uptoBulkEntries entries + 1
  | .held _ => 1
def uptoBulkAll {H : Type} : List (DataW H) → Nat
  | [] => 0
  | d :: r => uptoBulk d + uptoBulkAll r
def uptoBulkEntries {H : Type} : List (Lit × DataW H) → Nat
  | [] => 0
  | x :: r => uptoBulkEntry x + uptoBulkEntries r
def uptoBulkEntry {H : Type} : Lit × DataW H → Nat
  | (.string bytes, d) => bytes.length + uptoBulk d + 1
  | (_, d) => uptoBulk d + 1
 end
def uptoSmall : (H : Type) → List (DataW H) → Bool := fun _ ds => decide (uptoBulkAll ds ≤ 1048576)
def OpenSpec.upto (s : _root_.Go.ChangeSpec) : _root_.Go.OpenSpec := { _root_.Go.OpenSpec.ofChange s with cond := some uptoSmall }

/-- 'boltinglaw18.LoopSmall', WHERE WHAT IT READS IS OF BULK AT MOST 1048576: true; the input reads as it did. -/
def loopSmallUptoRow : OpenClaim := { program := "ytldbplagenjooaa", sum := "e492bd6ff94a167fcd130f8b6d8f9781c2d3499a85816fbe6a03af320c99b4f5", func := "bolting/boltinglaw18.LoopSmall", spec := "loopSmall", apart := false, narrowed := true }
def LoopSmallUptoSaid : Prop := loopSmallUptoRow.holds Try.pinned (OpenSpec.upto loopSmallSpec)

/-- 'boltinglaw18.LoopCopies', WHERE WHAT IT READS IS OF BULK AT MOST 1048576: true; the input reads as it did. -/
def loopCopiesUptoRow : OpenClaim := { program := "ytldbplagenjooaa", sum := "e492bd6ff94a167fcd130f8b6d8f9781c2d3499a85816fbe6a03af320c99b4f5", func := "bolting/boltinglaw18.LoopCopies", spec := "loopCopies", apart := false, narrowed := true }
def LoopCopiesUptoSaid : Prop := loopCopiesUptoRow.holds Try.pinned (OpenSpec.upto loopCopiesSpec)

/-- 'boltinglaw18.LoopSources', WHERE WHAT IT READS IS OF BULK AT MOST 1048576: true; the input reads as it did. -/
def loopSourcesUptoRow : OpenClaim := { program := "ytldbplagenjooaa", sum := "e492bd6ff94a167fcd130f8b6d8f9781c2d3499a85816fbe6a03af320c99b4f5", func := "bolting/boltinglaw18.LoopSources", spec := "loopSources", unfollowed := true, recurses := true, apart := false, narrowed := true }
def LoopSourcesUptoSaid : Prop := loopSourcesUptoRow.holds Try.pinned (OpenSpec.upto loopSourcesSpec)

/-- 'boltinglaw18.LoopOrder', WHERE WHAT IT READS IS OF BULK AT MOST 1048576: true; the input reads as it did. -/
def loopOrderUptoRow : OpenClaim := { program := "ytldbplagenjooaa", sum := "e492bd6ff94a167fcd130f8b6d8f9781c2d3499a85816fbe6a03af320c99b4f5", func := "bolting/boltinglaw18.LoopOrder", spec := "loopOrder", unfollowed := true, recurses := true, apart := false, narrowed := true }
def LoopOrderUptoSaid : Prop := loopOrderUptoRow.holds Try.pinned (OpenSpec.upto loopOrderSpec)

/-- 'boltinglaw18.LoopDoes', WHERE WHAT IT READS IS OF BULK AT MOST 1048576: true; the input reads as it did. -/
def loopDoesUptoRow : OpenClaim := { program := "ytldbplagenjooaa", sum := "e492bd6ff94a167fcd130f8b6d8f9781c2d3499a85816fbe6a03af320c99b4f5", func := "bolting/boltinglaw18.LoopDoes", spec := "loopDoes", unfollowed := true, recurses := true, apart := false, narrowed := true }
def LoopDoesUptoSaid : Prop := loopDoesUptoRow.holds Try.pinned (OpenSpec.upto loopDoesSpec)

end Rows
end Go.Proofs.Ytldbplagenjooaa
