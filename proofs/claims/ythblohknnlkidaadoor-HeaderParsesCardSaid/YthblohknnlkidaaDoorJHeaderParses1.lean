/- Texts under the row of HeaderParses (part 1).. -/
import Derived.Test.YthblohknnlkidaaDoorRows
import Derived.Deep.DeepHandedRow
import Derived.Deep.DeepWitnessRowRef
import Derived.ProofKit
import Derived.SizedLaws
import Derived.Lib.LaidU8
import Derived.Lib.LaidIn
import Derived.Shelf.Utf8.RuneCount
import Derived.Shelf.Strings.Search1
import Derived.Shelf.Strings.Search2
import Derived.Shelf.Strings.Search3
import Derived.Shelf.Strings.Count
import Derived.Shelf.LaysM
import Derived.Shelf.Strings.Shaped
import Derived.Shelf.Strings.Split
import Derived.Shelf.Strings.SplitShaped
import Derived.Shelf.Unicode.Decode
import Derived.Shelf.Strings.RuneCount
import Derived.Shelf.Strings.Explode
import Derived.Shelf.Unicode.DecodeSlow
import Derived.Shelf.Unicode.DecodeAny
import Derived.Shelf.Strings.FieldsFuncAny
import Derived.Shelf.Strings.FieldsFuncGrows
import Derived.Shelf.Slices.Turned
import Derived.Test.YthblohknnlkidaaDoorProg
import Derived.Lib.IndexMore
import Derived.WalkKit
import Derived.BigCall
import Derived.Deep.DeepCutAuto
import Derived.Deep.CutBlock
import Derived.Shelf.GgClosure.Gives
import Derived.Lib.CutLaws
import Derived.Lib.IndexLaws
import Derived.Lib.ConvBytes
import Derived.Laws.BytesArg
import Derived.Deep.QuietTactic
import Derived.Lib.FieldsP
import Derived.Test.YthblohknnlkidaaDoorJHeaderParses0
import Derived.Lib.Split
import Derived.WalkMore
import Derived.Below
import Derived.Deep.Draws
import Derived.Deep.AppendLies
import Derived.Maps.AppendAt
import Derived.OwnWalk
import Derived.Laws.MakeOwn
import Derived.Laws.OwnMore
import Derived.Deep.OwnRows
import Derived.Tactics
import Derived.Laws.Slices
import Derived.KernelRfl
import Derived.RowKit3
import Derived.Deep.LoopGhost
import Derived.BigQuiet
import Derived.WideLaws
import Derived.Deep.RegionHeld3
import Derived.Laws.Rows
import Derived.Lib.AppendStr
import Derived.ArgAppend
import Derived.Laws.IdiomCopy
import Derived.OrdersHeld
import Derived.Laws.BitsLemmas
import Derived.RowKit
/- A world in which the listed tables of unicode/utf8 hold what they are listed with: for the witness of a row. -/
namespace Go.Proofs.YthblohknnlkidaaDoor
set_option linter.unusedVariables false
open Go.ChangeShapes Go.WideShapes Go.ChangeAt Go.RowKit Go.Lib

noncomputable def laidWorld (os : Os) : World :=
  let w0 := World.holding Tryd.prog os ⟨#[], #[], []⟩
  let put (h : Array Obj) (g : Nat) (cs : Array Value) : Array Obj := h.modify g fun
    | .cells _ t frozen => .cells cs t frozen
    | o => o
  let h1 := put w0.heap 1 (Lib.firstTab.map fun z => Value.int .u8 z).toArray
  let h2 := put h1 2 ((List.range 16).flatMap fun i => [Value.int .u8 (Lib.accLo i), Value.int .u8 (Lib.accHi i)]).toArray
  { w0 with heap := h2 }
abbrev laidList : List (String × DataW Unit) := [("unicode/utf8.acceptRanges", Rows.laid_unicode_utf8_acceptRanges), ("unicode/utf8.first", Rows.laid_unicode_utf8_first)]
theorem laid_piece (os : Os) (args : Array Value) : LaidIn Tryd.prog ((laidWorld os).forCall (fun _ _ => 0) ⟨#[], args, []⟩).memory laidList [2, 1] :=
  LaidIn.of_run [2, 1] 8 (by kernel_rfl) (by kernel_rfl) (by kernel_rfl) (by kernel_rfl)
theorem laid_met (os : Os) (args : Array Value) : laidMetH Tryd.prog laidList ((laidWorld os).forCall (fun _ _ => 0) ⟨#[], args, []⟩).memory := by
  have e : (laidList.filter fun x => x.2.handleName?.isSome) = [] := by kernel_rfl
  unfold laidMetH
  rw [e]
  exact (laid_piece os args).met
end Go.Proofs.YthblohknnlkidaaDoor
/- The shelf's contracts at this seat, in plain words: written by the kit's lay-shelf and lay-plain, and by wip/tools/shelf.py. -/
namespace Go.Proofs
open Go.Shelf
def Tryd.lays195_ren : Go.Shelf.Ren := ⟨fun | 195 => 42 | n => n, fun | 9 => 9 | 3 => 3 | 0 => 0 | 4 => 4 | n => n, fun | n => n⟩
def Tryd.lays217_ren : Go.Shelf.Ren := ⟨fun | 217 => 47 | 266 => 51 | n => n, fun | 9 => 9 | 5 => 5 | 3 => 3 | n => n, fun | n => n⟩
def Tryd.lays224_ren : Go.Shelf.Ren := ⟨fun | 224 => 49 | n => n, fun | 3 => 3 | n => n, fun | n => n⟩
def Tryd.lays314_ren : Go.Shelf.Ren := ⟨fun | 314 => 52 | n => n, fun | 9 => 9 | 51 => 64 | 3 => 3 | 4 => 4 | 5 => 5 | 46 => 59 | n => n, fun | n => n⟩
def Tryd.lays267_ren : Go.Shelf.Ren := ⟨fun | 267 => 50 | 314 => 52 | n => n, fun | 9 => 9 | 3 => 3 | 146 => 65 | 51 => 64 | 4 => 4 | 5 => 5 | 46 => 59 | n => n, fun | n => n⟩
def Tryd.lays219_ren : Go.Shelf.Ren := ⟨fun | 219 => 45 | 217 => 47 | 225 => 48 | 224 => 49 | 267 => 50 | 266 => 51 | 314 => 52 | n => n, fun | 9 => 9 | 3 => 3 | 4 => 4 | 5 => 5 | 46 => 59 | 146 => 65 | 51 => 64 | n => n, fun | 1 => 0 | n => n⟩
def Tryd.lays143_ren : Go.Shelf.Ren := ⟨fun | 143 => 41 | 219 => 45 | 217 => 47 | 225 => 48 | 224 => 49 | 267 => 50 | 266 => 51 | 314 => 52 | n => n, fun | 9 => 9 | 3 => 3 | 4 => 4 | 5 => 5 | 46 => 59 | 146 => 65 | 51 => 64 | n => n, fun | 1 => 0 | n => n⟩
theorem Tryd.lays143 : Go.Proofs.Lays.n143 Tryd.prog Tryd.lays143_ren := {
  mixed := by kernel_rfl
  f143 := Tryd.func41.trans (congrArg some (by kernel_rfl))
  f217 := Tryd.func47.trans (congrArg some (by kernel_rfl))
  f219 := Tryd.func45.trans (congrArg some (by kernel_rfl))
  f224 := Tryd.func49.trans (congrArg some (by kernel_rfl))
  f225 := Tryd.func48.trans (congrArg some (by kernel_rfl))
  f266 := Tryd.func51.trans (congrArg some (by kernel_rfl))
  f267 := Tryd.func50.trans (congrArg some (by kernel_rfl))
  f314 := Tryd.func52.trans (congrArg some (by kernel_rfl))
  t3 := Tryd.underlying3
  a3 := Tryd.isAgg3
  z3 := Tryd.sizeOf3
  v3 := Tryd.zeroValue3
  t4 := Tryd.underlying4
  a4 := Tryd.isAgg4
  z4 := Tryd.sizeOf4
  v4 := Tryd.zeroValue4
  t5 := Tryd.underlying5
  a5 := Tryd.isAgg5
  z5 := Tryd.sizeOf5
  v5 := Tryd.zeroValue5
  t9 := Tryd.underlying9
  a9 := Tryd.isAgg9
  z9 := Tryd.sizeOf9
  v9 := Tryd.zeroValue9
  t46 := Tryd.underlying59
  a46 := Tryd.isAgg59
  z46 := Tryd.sizeOf59
  v46 := Tryd.zeroValue59
  t51 := Tryd.underlying64
  a51 := Tryd.isAgg64
  z51 := Tryd.sizeOf64
  v51 := Tryd.zeroValue64
  t146 := Tryd.underlying65
  a146 := Tryd.isAgg65
  z146 := Tryd.sizeOf65
  v146 := Tryd.zeroValue65
  g1 := by kernel_rfl }
open Go.RowKit Go.Lib in
theorem Tryd.strings_Index_one (s : ByteArray) (c : UInt8) (w : World) :
    Calls Tryd.prog 41 #[.string s, .string ⟨#[c]⟩] w fun e w' => e = .returned (.int .i64 (Lib.indexByte s.data.toList c)) ∧ w' = w := Any.strings_Index_one Tryd.lays143 s c w
def Tryd.lays144_ren : Go.Shelf.Ren := ⟨fun | 144 => 38 | 143 => 41 | 219 => 45 | 217 => 47 | 225 => 48 | 224 => 49 | 267 => 50 | 266 => 51 | 314 => 52 | n => n, fun | 9 => 9 | 4 => 4 | 3 => 3 | 5 => 5 | 46 => 59 | 146 => 65 | 51 => 64 | n => n, fun | 1 => 0 | n => n⟩
theorem Tryd.lays144 : Go.Proofs.Lays.n144 Tryd.prog Tryd.lays144_ren := {
  mixed := by kernel_rfl
  f143 := Tryd.func41.trans (congrArg some (by kernel_rfl))
  f144 := Tryd.func38.trans (congrArg some (by kernel_rfl))
  f217 := Tryd.func47.trans (congrArg some (by kernel_rfl))
  f219 := Tryd.func45.trans (congrArg some (by kernel_rfl))
  f224 := Tryd.func49.trans (congrArg some (by kernel_rfl))
  f225 := Tryd.func48.trans (congrArg some (by kernel_rfl))
  f266 := Tryd.func51.trans (congrArg some (by kernel_rfl))
  f267 := Tryd.func50.trans (congrArg some (by kernel_rfl))
  f314 := Tryd.func52.trans (congrArg some (by kernel_rfl))
  t3 := Tryd.underlying3
  a3 := Tryd.isAgg3
  z3 := Tryd.sizeOf3
  v3 := Tryd.zeroValue3
  t4 := Tryd.underlying4
  a4 := Tryd.isAgg4
  z4 := Tryd.sizeOf4
  v4 := Tryd.zeroValue4
  t5 := Tryd.underlying5
  a5 := Tryd.isAgg5
  z5 := Tryd.sizeOf5
  v5 := Tryd.zeroValue5
  t9 := Tryd.underlying9
  a9 := Tryd.isAgg9
  z9 := Tryd.sizeOf9
  v9 := Tryd.zeroValue9
  t46 := Tryd.underlying59
  a46 := Tryd.isAgg59
  z46 := Tryd.sizeOf59
  v46 := Tryd.zeroValue59
  t51 := Tryd.underlying64
  a51 := Tryd.isAgg64
  z51 := Tryd.sizeOf64
  v51 := Tryd.zeroValue64
  t146 := Tryd.underlying65
  a146 := Tryd.isAgg65
  z146 := Tryd.sizeOf65
  v146 := Tryd.zeroValue65
  g1 := by kernel_rfl }
open Go.RowKit Go.Lib in
theorem Tryd.strings_Contains_one (s : ByteArray) (c : UInt8) (w : World) :
    Calls Tryd.prog 38 #[.string s, .string ⟨#[c]⟩] w fun e w' => e = .returned (.bool (decide (0 ≤ Lib.indexByte s.data.toList c))) ∧ w' = w := Any.strings_Contains_one Tryd.lays144 s c w
open Go.RowKit Go.Lib in
theorem Tryd.strings_Contains (s sub : ByteArray) (m : Int) (w : World) (hs : s.size < 4294967281) (hm : w.cell? ⟨0, 0, none⟩ = some (.int .i64 m)) :
    Calls Tryd.prog 38 #[.string s, .string sub] w fun e w' => e = .returned (.bool (Lib.contains s.data.toList sub.data.toList)) ∧ w' = w := Any.strings_Contains Tryd.lays144 s sub m w hs hm
def Tryd.lays138_ren : Go.Shelf.Ren := ⟨fun | 138 => 40 | 195 => 42 | 218 => 44 | 143 => 41 | 219 => 45 | 217 => 47 | 225 => 48 | 224 => 49 | 267 => 50 | 266 => 51 | 314 => 52 | n => n, fun | 9 => 9 | 3 => 3 | 4 => 4 | 5 => 5 | 0 => 0 | 46 => 59 | 146 => 65 | 51 => 64 | n => n, fun | 1 => 0 | n => n⟩
theorem Tryd.lays138 : Go.Proofs.Lays.n138 Tryd.prog Tryd.lays138_ren := {
  mixed := by kernel_rfl
  f138 := Tryd.func40.trans (congrArg some (by kernel_rfl))
  f143 := Tryd.func41.trans (congrArg some (by kernel_rfl))
  f195 := Tryd.func42.trans (congrArg some (by kernel_rfl))
  f217 := Tryd.func47.trans (congrArg some (by kernel_rfl))
  f218 := Tryd.func44.trans (congrArg some (by kernel_rfl))
  f219 := Tryd.func45.trans (congrArg some (by kernel_rfl))
  f224 := Tryd.func49.trans (congrArg some (by kernel_rfl))
  f225 := Tryd.func48.trans (congrArg some (by kernel_rfl))
  f266 := Tryd.func51.trans (congrArg some (by kernel_rfl))
  f267 := Tryd.func50.trans (congrArg some (by kernel_rfl))
  f314 := Tryd.func52.trans (congrArg some (by kernel_rfl))
  t0 := Tryd.underlying0
  a0 := Tryd.isAgg0
  z0 := Tryd.sizeOf0
  v0 := Tryd.zeroValue0
  t3 := Tryd.underlying3
  a3 := Tryd.isAgg3
  z3 := Tryd.sizeOf3
  v3 := Tryd.zeroValue3
  t4 := Tryd.underlying4
  a4 := Tryd.isAgg4
  z4 := Tryd.sizeOf4
  v4 := Tryd.zeroValue4
  t5 := Tryd.underlying5
  a5 := Tryd.isAgg5
  z5 := Tryd.sizeOf5
  v5 := Tryd.zeroValue5
  t9 := Tryd.underlying9
  a9 := Tryd.isAgg9
  z9 := Tryd.sizeOf9
  v9 := Tryd.zeroValue9
  t46 := Tryd.underlying59
  a46 := Tryd.isAgg59
  z46 := Tryd.sizeOf59
  v46 := Tryd.zeroValue59
  t51 := Tryd.underlying64
  a51 := Tryd.isAgg64
  z51 := Tryd.sizeOf64
  v51 := Tryd.zeroValue64
  t146 := Tryd.underlying65
  a146 := Tryd.isAgg65
  z146 := Tryd.sizeOf65
  v146 := Tryd.zeroValue65
  g1 := by kernel_rfl }
open Go.RowKit Go.Lib in
theorem Tryd.strings_Count_one (s : ByteArray) (c : UInt8) (w : World) :
    Calls Tryd.prog 40 #[.string s, .string ⟨#[c]⟩] w fun e w' => e = .returned (.int .i64 (Lib.countByte s.data.toList c)) ∧ w' = w := Any.strings_Count_one Tryd.lays138 s c w
def Tryd.laysM219_ren : Go.Shelf.Ren := ⟨fun | 219 => 45 | 217 => 47 | 225 => 48 | 224 => 49 | 267 => 50 | 266 => 51 | 314 => 52 | n => n, fun | 9 => 9 | 3 => 3 | 4 => 4 | 5 => 5 | 46 => 59 | 146 => 65 | 51 => 64 | n => n, fun | 1 => 0 | n => n⟩
def Tryd.laysM143_ren : Go.Shelf.Ren := ⟨fun | 143 => 41 | 219 => 45 | 217 => 47 | 225 => 48 | 224 => 49 | 267 => 50 | 266 => 51 | 314 => 52 | n => n, fun | 9 => 9 | 3 => 3 | 4 => 4 | 5 => 5 | 46 => 59 | 146 => 65 | 51 => 64 | n => n, fun | 1 => 0 | n => n⟩
def Tryd.laysM144_ren : Go.Shelf.Ren := ⟨fun | 144 => 38 | 143 => 41 | 219 => 45 | 217 => 47 | 225 => 48 | 224 => 49 | 267 => 50 | 266 => 51 | 314 => 52 | n => n, fun | 9 => 9 | 4 => 4 | 3 => 3 | 5 => 5 | 46 => 59 | 146 => 65 | 51 => 64 | n => n, fun | 1 => 0 | n => n⟩
def Tryd.laysM138_ren : Go.Shelf.Ren := ⟨fun | 138 => 40 | 195 => 42 | 218 => 44 | 143 => 41 | 219 => 45 | 217 => 47 | 225 => 48 | 224 => 49 | 267 => 50 | 266 => 51 | 314 => 52 | n => n, fun | 9 => 9 | 3 => 3 | 4 => 4 | 5 => 5 | 0 => 0 | 46 => 59 | 146 => 65 | 51 => 64 | n => n, fun | 1 => 0 | n => n⟩
def Tryd.lays221_ren : Go.Shelf.Ren := ⟨fun | 221 => 32 | 268 => 39 | 138 => 40 | 143 => 41 | 195 => 42 | 197 => 43 | 218 => 44 | 219 => 45 | 260 => 46 | 217 => 47 | 225 => 48 | 224 => 49 | 267 => 50 | 266 => 51 | 314 => 52 | n => n, fun | 9 => 9 | 3 => 3 | 31 => 24 | 4 => 4 | 0 => 0 | 105 => 55 | 21 => 21 | 5 => 5 | 46 => 59 | 119 => 60 | 139 => 63 | 138 => 62 | 146 => 65 | 51 => 64 | n => n, fun | 1 => 0 | 3 => 1 | 4 => 2 | n => n⟩
theorem Tryd.lays221 : Go.Proofs.Lays.n221 Tryd.prog Tryd.lays221_ren := {
  mixed := by kernel_rfl
  f138 := Tryd.func40.trans (congrArg some (by kernel_rfl))
  f143 := Tryd.func41.trans (congrArg some (by kernel_rfl))
  f195 := Tryd.func42.trans (congrArg some (by kernel_rfl))
  f197 := Tryd.func43.trans (congrArg some (by kernel_rfl))
  f217 := Tryd.func47.trans (congrArg some (by kernel_rfl))
  f218 := Tryd.func44.trans (congrArg some (by kernel_rfl))
  f219 := Tryd.func45.trans (congrArg some (by kernel_rfl))
  f221 := Tryd.func32.trans (congrArg some (by kernel_rfl))
  f224 := Tryd.func49.trans (congrArg some (by kernel_rfl))
  f225 := Tryd.func48.trans (congrArg some (by kernel_rfl))
  f260 := Tryd.func46.trans (congrArg some (by kernel_rfl))
  f266 := Tryd.func51.trans (congrArg some (by kernel_rfl))
  f267 := Tryd.func50.trans (congrArg some (by kernel_rfl))
  f268 := Tryd.func39.trans (congrArg some (by kernel_rfl))
  f314 := Tryd.func52.trans (congrArg some (by kernel_rfl))
  t0 := Tryd.underlying0
  a0 := Tryd.isAgg0
  z0 := Tryd.sizeOf0
  v0 := Tryd.zeroValue0
  t3 := Tryd.underlying3
  a3 := Tryd.isAgg3
  z3 := Tryd.sizeOf3
  v3 := Tryd.zeroValue3
  t4 := Tryd.underlying4
  a4 := Tryd.isAgg4
  z4 := Tryd.sizeOf4
  v4 := Tryd.zeroValue4
  t5 := Tryd.underlying5
  a5 := Tryd.isAgg5
  z5 := Tryd.sizeOf5
  v5 := Tryd.zeroValue5
  t9 := Tryd.underlying9
  a9 := Tryd.isAgg9
  z9 := Tryd.sizeOf9
  v9 := Tryd.zeroValue9
  t21 := Tryd.underlying21
  a21 := Tryd.isAgg21
  z21 := Tryd.sizeOf21
  v21 := Tryd.zeroValue21
  t31 := Tryd.underlying24
  a31 := Tryd.isAgg24
  z31 := Tryd.sizeOf24
  v31 := Tryd.zeroValue24
  t46 := Tryd.underlying59
  a46 := Tryd.isAgg59
  z46 := Tryd.sizeOf59
  v46 := Tryd.zeroValue59
  t51 := Tryd.underlying64
  a51 := Tryd.isAgg64
  z51 := Tryd.sizeOf64
  v51 := Tryd.zeroValue64
  t105 := Tryd.underlying55
  a105 := Tryd.isAgg55
  z105 := Tryd.sizeOf55
  v105 := Tryd.zeroValue55
  t119 := Tryd.underlying60
  a119 := Tryd.isAgg60
  z119 := Tryd.sizeOf60
  t138 := Tryd.underlying62
  a138 := Tryd.isAgg62
  z138 := Tryd.sizeOf62
  v138 := Tryd.zeroValue62
  t139 := Tryd.underlying63
  a139 := Tryd.isAgg63
  z139 := Tryd.sizeOf63
  v139 := Tryd.zeroValue63
  t146 := Tryd.underlying65
  a146 := Tryd.isAgg65
  z146 := Tryd.sizeOf65
  v146 := Tryd.zeroValue65
  g1 := by kernel_rfl
  g3 := by kernel_rfl
  g4 := by kernel_rfl }
def Tryd.lays146_ren : Go.Shelf.Ren := ⟨fun | 146 => 24 | 221 => 32 | 268 => 39 | 138 => 40 | 143 => 41 | 195 => 42 | 197 => 43 | 218 => 44 | 219 => 45 | 260 => 46 | 217 => 47 | 225 => 48 | 224 => 49 | 267 => 50 | 266 => 51 | 314 => 52 | n => n, fun | 9 => 9 | 31 => 24 | 3 => 3 | 4 => 4 | 0 => 0 | 105 => 55 | 21 => 21 | 5 => 5 | 46 => 59 | 119 => 60 | 139 => 63 | 138 => 62 | 146 => 65 | 51 => 64 | n => n, fun | 1 => 0 | 3 => 1 | 4 => 2 | n => n⟩
theorem Tryd.lays146 : Go.Proofs.Lays.n146 Tryd.prog Tryd.lays146_ren := {
  mixed := by kernel_rfl
  f138 := Tryd.func40.trans (congrArg some (by kernel_rfl))
  f143 := Tryd.func41.trans (congrArg some (by kernel_rfl))
  f146 := Tryd.func24.trans (congrArg some (by kernel_rfl))
  f195 := Tryd.func42.trans (congrArg some (by kernel_rfl))
  f197 := Tryd.func43.trans (congrArg some (by kernel_rfl))
  f217 := Tryd.func47.trans (congrArg some (by kernel_rfl))
  f218 := Tryd.func44.trans (congrArg some (by kernel_rfl))
  f219 := Tryd.func45.trans (congrArg some (by kernel_rfl))
  f221 := Tryd.func32.trans (congrArg some (by kernel_rfl))
  f224 := Tryd.func49.trans (congrArg some (by kernel_rfl))
  f225 := Tryd.func48.trans (congrArg some (by kernel_rfl))
  f260 := Tryd.func46.trans (congrArg some (by kernel_rfl))
  f266 := Tryd.func51.trans (congrArg some (by kernel_rfl))
  f267 := Tryd.func50.trans (congrArg some (by kernel_rfl))
  f268 := Tryd.func39.trans (congrArg some (by kernel_rfl))
  f314 := Tryd.func52.trans (congrArg some (by kernel_rfl))
  t0 := Tryd.underlying0
  a0 := Tryd.isAgg0
  z0 := Tryd.sizeOf0
  v0 := Tryd.zeroValue0
  t3 := Tryd.underlying3
  a3 := Tryd.isAgg3
  z3 := Tryd.sizeOf3
  v3 := Tryd.zeroValue3
  t4 := Tryd.underlying4
  a4 := Tryd.isAgg4
  z4 := Tryd.sizeOf4
  v4 := Tryd.zeroValue4
  t5 := Tryd.underlying5
  a5 := Tryd.isAgg5
  z5 := Tryd.sizeOf5
  v5 := Tryd.zeroValue5
  t9 := Tryd.underlying9
  a9 := Tryd.isAgg9
  z9 := Tryd.sizeOf9
  v9 := Tryd.zeroValue9
  t21 := Tryd.underlying21
  a21 := Tryd.isAgg21
  z21 := Tryd.sizeOf21
  v21 := Tryd.zeroValue21
  t31 := Tryd.underlying24
  a31 := Tryd.isAgg24
  z31 := Tryd.sizeOf24
  v31 := Tryd.zeroValue24
  t46 := Tryd.underlying59
  a46 := Tryd.isAgg59
  z46 := Tryd.sizeOf59
  v46 := Tryd.zeroValue59
  t51 := Tryd.underlying64
  a51 := Tryd.isAgg64
  z51 := Tryd.sizeOf64
  v51 := Tryd.zeroValue64
  t105 := Tryd.underlying55
  a105 := Tryd.isAgg55
  z105 := Tryd.sizeOf55
  v105 := Tryd.zeroValue55
  t119 := Tryd.underlying60
  a119 := Tryd.isAgg60
  z119 := Tryd.sizeOf60
  t138 := Tryd.underlying62
  a138 := Tryd.isAgg62
  z138 := Tryd.sizeOf62
  v138 := Tryd.zeroValue62
  t139 := Tryd.underlying63
  a139 := Tryd.isAgg63
  z139 := Tryd.sizeOf63
  v139 := Tryd.zeroValue63
  t146 := Tryd.underlying65
  a146 := Tryd.isAgg65
  z146 := Tryd.sizeOf65
  v146 := Tryd.zeroValue65
  g1 := by kernel_rfl
  g3 := by kernel_rfl
  g4 := by kernel_rfl }
open Go.RowKit Go.Lib in
theorem Tryd.strings_Split (s sep : ByteArray) (m : Int) (w : World) (hs : s.size < 4294967281) (hm : w.cell? ⟨0, 0, none⟩ = some (.int .i64 m)) (h1 : 1 ≤ sep.size) :
    Calls Tryd.prog 24 #[.string s, .string sep] w fun e w' =>
      e = .returned (.slice (some ⟨w.heap.size, 0, none⟩) (Lib.countB s sep + 1) (Lib.countB s sep + 1)) ∧ w' = w.alloc (.cells ((Lib.splitB sep 0 (Lib.countB s sep) s).map Value.string).toArray 9) := Any.strings_Split Tryd.lays146 (by kernel_rfl) s sep m w hs hm h1
def Tryd.laysM146_ren : Go.Shelf.Ren := ⟨fun | 146 => 24 | 221 => 32 | 268 => 39 | 138 => 40 | 143 => 41 | 195 => 42 | 197 => 43 | 218 => 44 | 219 => 45 | 260 => 46 | 217 => 47 | 225 => 48 | 224 => 49 | 267 => 50 | 266 => 51 | 314 => 52 | n => n, fun | 9 => 9 | 31 => 24 | 3 => 3 | 4 => 4 | 0 => 0 | 105 => 55 | 21 => 21 | 5 => 5 | 46 => 59 | 119 => 60 | 139 => 63 | 138 => 62 | 146 => 65 | 51 => 64 | n => n, fun | 1 => 0 | 3 => 1 | 4 => 2 | n => n⟩
def Tryd.lays197_ren : Go.Shelf.Ren := ⟨fun | 197 => 43 | 260 => 46 | n => n, fun | 9 => 9 | 21 => 21 | 3 => 3 | 4 => 4 | 5 => 5 | 105 => 55 | 119 => 60 | 0 => 0 | 46 => 59 | 139 => 63 | 138 => 62 | n => n, fun | 3 => 1 | 4 => 2 | n => n⟩
def Tryd.lays268_ren : Go.Shelf.Ren := ⟨fun | 268 => 39 | 195 => 42 | 197 => 43 | 260 => 46 | n => n, fun | 9 => 9 | 3 => 3 | 31 => 24 | 4 => 4 | 105 => 55 | 21 => 21 | 0 => 0 | 5 => 5 | 119 => 60 | 46 => 59 | 139 => 63 | 138 => 62 | n => n, fun | 3 => 1 | 4 => 2 | n => n⟩
def Tryd.lays260_ren : Go.Shelf.Ren := ⟨fun | 260 => 46 | n => n, fun | 9 => 9 | 21 => 21 | 3 => 3 | 4 => 4 | 5 => 5 | 119 => 60 | 0 => 0 | 46 => 59 | 139 => 63 | 138 => 62 | n => n, fun | 3 => 1 | 4 => 2 | n => n⟩
def Tryd.lays229_ren : Go.Shelf.Ren := ⟨fun | 229 => 33 | n => n, fun | 9 => 9 | 40 => 46 | 31 => 24 | 152 => 51 | 3 => 3 | 0 => 0 | 4 => 4 | 21 => 21 | 154 => 53 | n => n, fun | n => n⟩
theorem Tryd.lays229 : Go.Proofs.Lays.n229 Tryd.prog Tryd.lays229_ren := {
  mixed := by kernel_rfl
  f229 := Tryd.func33.trans (congrArg some (by kernel_rfl))
  t0 := Tryd.underlying0
  a0 := Tryd.isAgg0
  z0 := Tryd.sizeOf0
  v0 := Tryd.zeroValue0
  t3 := Tryd.underlying3
  a3 := Tryd.isAgg3
  z3 := Tryd.sizeOf3
  v3 := Tryd.zeroValue3
  t4 := Tryd.underlying4
  a4 := Tryd.isAgg4
  z4 := Tryd.sizeOf4
  v4 := Tryd.zeroValue4
  t9 := Tryd.underlying9
  a9 := Tryd.isAgg9
  z9 := Tryd.sizeOf9
  v9 := Tryd.zeroValue9
  t21 := Tryd.underlying21
  a21 := Tryd.isAgg21
  z21 := Tryd.sizeOf21
  v21 := Tryd.zeroValue21
  t31 := Tryd.underlying24
  a31 := Tryd.isAgg24
  z31 := Tryd.sizeOf24
  v31 := Tryd.zeroValue24
  t40 := Tryd.underlying46
  a40 := Tryd.isAgg46
  z40 := Tryd.sizeOf46
  v40 := Tryd.zeroValue46
  t152 := Tryd.underlying51
  a152 := Tryd.isAgg51
  z152 := Tryd.sizeOf51
  v152 := Tryd.zeroValue51
  t154 := Tryd.underlying53
  a154 := Tryd.isAgg53
  z154 := Tryd.sizeOf53
  v154 := Tryd.zeroValue53 }
open Go.RowKit Go.Lib in
theorem Tryd.strings_FieldsFunc (g : Nat) (lb : Array Value) (eg : ∀ args w, (callFunc g args).run Tryd.prog w = .ok (.enter g args) w) (p : Nat → Bool) (s : ByteArray) (w : World) (hs : s.size ≤ 4294967296) (hp : PredAt Tryd.prog g lb encR p w) :
    Calls Tryd.prog 33 #[.string s, .func (.func g) #[] lb] w fun e w' => ∃ A, e = .returned (.slice (some ⟨A, 0, none⟩) (Lib.goFieldsP p s).length (Lib.goFieldsP p s).length) ∧ w.heap.size ≤ A ∧
      w'.ownsRow w.heap.size 9 1 (.slice (some ⟨A, 0, none⟩) (Lib.goFieldsP p s).length (Lib.goFieldsP p s).length) (Lib.goFieldsP p s).length ((Lib.goFieldsP p s).map Value.string) ∧ Below w.heap.size w w' := Any.strings_FieldsFunc Tryd.lays229 g lb eg p s w hs hp (by kernel_rfl) (by kernel_rfl)
def Tryd.lays109_ren : Go.Shelf.Ren := ⟨fun | 109 => 36 | n => n, fun | 31 => 24 | 9 => 9 | 3 => 3 | 0 => 0 | 4 => 4 | n => n, fun | n => n⟩
def Tryd.lays110_ren : Go.Shelf.Ren := ⟨fun | 110 => 28 | 109 => 36 | n => n, fun | 31 => 24 | 9 => 9 | 4 => 4 | 3 => 3 | 0 => 0 | n => n, fun | n => n⟩
end Go.Proofs
/- Plain lemmas on lists of bytes: what stands ahead and behind, letters, schemes. No Go in it. -/
namespace Go.Proofs.YthblohknnlkidaaDoor
set_option linter.unusedVariables false
set_option linter.unusedSimpArgs false

/-! ### ahead and behind -/
/-- How many at the head meet p. -/
def lead (p : UInt8 → Bool) (l : List UInt8) : Nat := (l.takeWhile p).length
/-- Without those at the end that meet p. -/
def rcut (p : UInt8 → Bool) (l : List UInt8) : List UInt8 := (l.reverse.dropWhile p).reverse
/-- How many are left then. -/
def tail (p : UInt8 → Bool) (l : List UInt8) : Nat := (rcut p l).length

theorem take_succ' {l : List UInt8} {k : Nat} {c : UInt8} (hc : l[k]? = some c) : l.take (k + 1) = l.take k ++ [c] := by
  rw [List.take_add_one, hc]; rfl
/-! ### bytes that do not count in an address -/
def ws (c : UInt8) : Bool := decide (c.toNat ≤ 32)
def keep (c : UInt8) : Bool := c.toNat != 9 && c.toNat != 10 && c.toNat != 13
def strip (l : List UInt8) : List UInt8 := (rcut ws (l.dropWhile ws)).filter keep
end Go.Proofs.YthblohknnlkidaaDoor
/- Small lemmas for the walks. -/
namespace Go.Proofs.YthblohknnlkidaaDoor
set_option linter.unusedVariables false
set_option linter.unusedSimpArgs false
open Go.RowKit

theorem hid {p : Prop} (h : p) : Hid p := h
theorem byte_at (s : ByteArray) (k : Nat) (h : k < s.size) : s.data.toList[k]? = some (s[k]'h) := by
  rw [List.getElem?_eq_getElem (by simpa using h)]; rfl
theorem ret_str {a b : List UInt8} (h : a = b) : Ending.returned (.string ⟨a.toArray⟩) = .returned (.string ⟨b.toArray⟩) := by rw [h]
theorem ret_bool {a b : Bool} (h : a = b) : Ending.returned (.bool a) = .returned (.bool b) := by rw [h]
theorem extract_pre (s : ByteArray) (i : Nat) : s.extract 0 i = ⟨(s.data.toList.take i).toArray⟩ := by rw [Lib.extract_eq]; simp
theorem extract_suf (s : ByteArray) (i : Nat) : s.extract i s.size = ⟨(s.data.toList.drop i).toArray⟩ := by
  rw [Lib.extract_eq]
  congr 2
  exact List.take_of_length_le (by rw [List.length_drop, ← Lib.size_eq]; exact Nat.le_refl _)
theorem drop_one {l : List UInt8} {i : Nat} {c : UInt8} (h0 : l[i]? = some c) : l.drop i = c :: l.drop (i + 1) := by
  rw [List.drop_eq_getElem?_toList_append, h0]
  simp
def bnd {α : Type} (s : ByteArray) (x : α) : Option α := if s.size ≤ 140737488351232 then some x else none
theorem bnd_some {α : Type} {s : ByteArray} {x r : α} (h : bnd s x = some r) : s.size ≤ 140737488351232 ∧ x = r := by
  unfold bnd at h
  split at h
  · exact ⟨by assumption, Option.some.inj h⟩
  · cases h
theorem bnd_of {α : Type} {s : ByteArray} (x : α) (h : s.size ≤ 140737488351232) : bnd s x = some x := by unfold bnd; rw [if_pos h]
def mkS (l : List UInt8) : ByteArray := ⟨l.toArray⟩
end Go.Proofs.YthblohknnlkidaaDoor
/- A []byte of the call's own that a string was turned into; fold.Lower's and the reference's Lower's contracts. -/
namespace Go.Proofs.YthblohknnlkidaaDoor
set_option linter.unusedVariables false
set_option linter.unusedSimpArgs false
open Go.RowKit

def Buf (w : World) (g : Nat) (l : List UInt8) : Prop := ∀ j c, l[j]? = some c → w.cell? ⟨g, j, none⟩ = some (.int .u8 c.toNat) ∧ w.frozen? ⟨g, j, none⟩ = false
theorem Buf.of_conv {P : Program} (w : World) (src dst e : TypeId) (s : ByteArray) {u : TypeDesc} (hs : P.underlying src = some u) (hd : P.underlying dst = some (.slice e)) (he : P.underlying e = some (.int .u8)) :
    ∃ (W : World) (cap : Nat), (convert src dst (.string s)).run P w = .ok (.slice (some ⟨w.heap.size, 0, none⟩) s.size cap) W ∧ Buf W w.heap.size s.data.toList ∧ Below w.heap.size w W := by
  refine ⟨_, _, Lib.run_convert_string_bytes w src dst e s hs hd he, fun j c hj => ?_, ⟨rfl, rfl, rfl, by rw [Lib.bytesWorld_size]; omega, fun k hk => Lib.bytesWorld_at_old w e s k hk⟩⟩
  have hl : j < s.data.toList.length := (List.getElem?_eq_some_iff.1 hj).1
  have hl' : j < s.size := by simpa using hl
  refine ⟨by rw [Lib.bytesWorld_cell w e s j hl']; simp [List.getD, hj], ?_⟩
  have hsz : s.size ≤ (Lib.bytesCells w e s).size := by unfold Lib.bytesCells; rw [Array.size_append, Array.size_map]; exact Nat.le_add_right _ _
  unfold World.frozen?
  rw [Lib.bytesWorld_at_new]
  simp
  omega
theorem Buf.set_ {w : World} {g : Nat} {l : List UInt8} (h : Buf w g l) (i : Nat) (c : UInt8) : Buf (w.setCell ⟨g, i, none⟩ (.int .u8 c.toNat)) g (l.set i c) := by
  intro j d hj
  rw [World.frozen?_setCell]
  rw [List.getElem?_set] at hj
  split at hj
  · rename_i he
    subst he
    split at hj
    · cases hj
      rename_i hl
      obtain ⟨h1, h2⟩ := h i _ (List.getElem?_eq_getElem hl)
      exact ⟨World.cell?_setCell_same _ _ _ (by rw [h1]), h2⟩
    · cases hj
  · rename_i he
    obtain ⟨h1, h2⟩ := h j d hj
    exact ⟨(World.cell?_setCell_other w _ _ _ (by intro e; injection e with _ e; exact he e)).trans h1, h2⟩
theorem Buf.string {P : Program} {w : World} {g : Nat} {l : List UInt8} (h : Buf w g l) (src e dst : TypeId) (n cap : Nat) (hn : l.length = n) (hs : P.underlying src = some (.slice e)) (he : P.underlying e = some (.int .u8)) (hd : P.underlying dst = some .string) :
    (convert src dst (.slice (some ⟨g, 0, none⟩) n cap)).run P w = .ok (.string ⟨l.toArray⟩) w := by
  have := run_convert_bytes_arg (P := P) w src e hs he g 0 n cap (l.map fun c => (c.toNat : Int)) (by simp [hn]) (fun i hi => by
    have := (h i _ (List.getElem?_eq_getElem (show i < l.length by omega))).1
    rw [Nat.zero_add, this]
    simp [List.getD, List.getElem?_eq_getElem (show i < l.length by omega)]) dst hd
  rw [this]
  congr 2
  simp [strOfNums, List.map_map, Function.comp_def]

def low (c : UInt8) : UInt8 := if 65 ≤ c.toNat ∧ c.toNat ≤ 90 then c + 32 else c
theorem low_hi {c : UInt8} (h0 : 65 ≤ c.toNat) (h1 : c.toNat ≤ 90) : (low c).toNat = c.toNat + 32 := by
  unfold low
  rw [if_pos ⟨h0, h1⟩, UInt8.toNat_add]
  show (c.toNat + 32) % 256 = _
  omega
theorem low_id {c : UInt8} (h : ¬ (65 ≤ c.toNat ∧ c.toNat ≤ 90)) : low c = c := by unfold low; rw [if_neg h]
def lower (l : List UInt8) : List UInt8 := l.map low
/-- What stands after k rounds. -/
def cur (l : List UInt8) (k : Nat) : List UInt8 := lower (l.take k) ++ l.drop k
theorem cur_len (l : List UInt8) (k : Nat) : (cur l k).length = l.length := by simp [cur, lower]; omega
theorem cur_at (l : List UInt8) (k : Nat) (h : k < l.length) : (cur l k)[k]? = l[k]? := by
  unfold cur lower
  rw [List.getElem?_append_right (by simp; omega)]
  simp [Nat.min_eq_left (Nat.le_of_lt h)]
theorem cur_step {l : List UInt8} {k : Nat} {c : UInt8} (h : l[k]? = some c) : (cur l k).set k (low c) = cur l (k + 1) := by
  have hl : k < l.length := (List.getElem?_eq_some_iff.1 h).1
  have hd : l.drop k = c :: l.drop (k + 1) := by rw [List.drop_eq_getElem?_toList_append, h]; simp
  unfold cur lower
  rw [hd, List.set_append_right _ _ (by simp; omega), take_succ' h]
  simp [Nat.min_eq_left (Nat.le_of_lt hl)]
theorem cur_same {l : List UInt8} {k : Nat} {c : UInt8} (h : l[k]? = some c) (hc : low c = c) : cur l k = cur l (k + 1) := by
  have hl : k < l.length := (List.getElem?_eq_some_iff.1 h).1
  rw [← cur_step h, hc]
  apply List.ext_getElem?
  intro i
  rw [List.getElem?_set]
  split
  · rename_i he
    subst he
    rw [if_pos (by rw [cur_len]; exact hl), cur_at l k hl, h]
  · rfl
theorem cur_end (l : List UInt8) : cur l l.length = lower l := by simp [cur]

set_option maxHeartbeats 4000000 in
set_option maxRecDepth 100000 in
theorem lower_calls (s : ByteArray) (w : World) (hs : s.size ≤ 140737488351232) :
    Calls Tryd.prog 26 #[.string s] w fun e w' => e = .returned (.string ⟨(lower s.data.toList).toArray⟩) ∧ Below w.heap.size w w' := by
  obtain ⟨W, cap, hcv, hbuf, hbel⟩ := Buf.of_conv (P := Tryd.prog) w 9 42 5 s Tryd.underlying9 Tryd.underlying42 Tryd.underlying5
  go_enter Tryd.func26, Tryd.ntmps26
  go_wp2_with fail
  go_loopw [10] (fun f wr => ∃ k : Nat, Buf wr w.heap.size (cur s.data.toList k) ∧ Below w.heap.size w wr ∧ k ≤ s.size ∧ f = .int .i64 k) (fun f _ => s.size - (intOf f).toNat)
  case atStart => exact ⟨0, by simpa [cur, lower] using hbuf, hbel, Nat.zero_le _, rfl⟩
  case round =>
    obtain ⟨k, hb, hbw, hks, rfl⟩ := hrel
    clear hcv hbuf
    by_cases hlt : k < s.size
    · have hc := byte_at s k hlt
      obtain ⟨c, hcc⟩ : ∃ c, s[k] = c := ⟨_, rfl⟩
      rw [hcc] at hc
      clear hcc
      obtain ⟨hcell, hfr⟩ := hb k c (by rw [cur_at _ _ (by simpa using hlt)]; exact hc)
      have hc' := hid hc
      clear hc
      by_cases hup : 65 ≤ c.toNat ∧ c.toNat ≤ 90
      · obtain ⟨u0, u1⟩ := hup
        have hlow := hid (low_hi u0 u1)
        go_wp2_with fail
        go_roundw
        case rel => exact ⟨k + 1, by rw [← cur_step hc'.out]; have := hb.set_ k (low c); rwa [show ((low c).toNat : Int) = (c.toNat : Int) + 97 - 65 from by have := hlow.out; omega] at this, hbw.setCell (p := ⟨w.heap.size, k, none⟩) (Nat.le_refl _) _, hlt, by go_num⟩
        case measure => simp [intOf]; omega
      · have hsame := hid (cur_same hc'.out (low_id hup))
        rcases (by omega : c.toNat < 65 ∨ (65 ≤ c.toNat ∧ 90 < c.toNat)) with u0 | ⟨u0, u1⟩
        all_goals
          clear hup
          go_wp2_with fail
          go_roundw
          case rel => exact ⟨k + 1, by rw [← hsame.out]; exact hb, hbw, hlt, by go_num⟩
          case measure => simp [intOf]; omega
    · have hcv2 := hb.string (P := Tryd.prog) 42 5 9 s.size cap (by rw [cur_len]; rfl) Tryd.underlying42 Tryd.underlying5 Tryd.underlying9
      go_wp2_with fail
      go_ret
      obtain rfl : k = s.size := by omega
      exact ⟨ret_str (cur_end _), hbw⟩

set_option maxHeartbeats 4000000 in
set_option maxRecDepth 100000 in
theorem ref_lower_calls (s : ByteArray) (w : World) (hs : s.size ≤ 140737488351232) :
    Calls Tryd.prog 19 #[.string s] w fun e w' => e = .returned (.string ⟨(lower s.data.toList).toArray⟩) ∧ Below w.heap.size w w' := by
  obtain ⟨W, cap, hcv, hbuf, hbel⟩ := Buf.of_conv (P := Tryd.prog) w 9 42 5 s Tryd.underlying9 Tryd.underlying42 Tryd.underlying5
  go_enter Tryd.func19, Tryd.ntmps19
  go_wp2_with fail
  go_loopw [4] (fun f wr => ∃ k : Nat, Buf wr w.heap.size (cur s.data.toList k) ∧ Below w.heap.size w wr ∧ k ≤ s.size ∧ f = .int .i64 k) (fun f _ => s.size - (intOf f).toNat)
  case atStart => exact ⟨0, by simpa [cur, lower] using hbuf, hbel, Nat.zero_le _, rfl⟩
  case round =>
    obtain ⟨k, hb, hbw, hks, rfl⟩ := hrel
    clear hcv hbuf
    by_cases hlt : k < s.size
    · have hc := byte_at s k hlt
      obtain ⟨c, hcc⟩ : ∃ c, s[k] = c := ⟨_, rfl⟩
      rw [hcc] at hc
      clear hcc
      obtain ⟨hcell, hfr⟩ := hb k c (by rw [cur_at _ _ (by simpa using hlt)]; exact hc)
      have hc' := hid hc
      clear hc
      by_cases hup : 65 ≤ c.toNat ∧ c.toNat ≤ 90
      · obtain ⟨u0, u1⟩ := hup
        have hlow := hid (low_hi u0 u1)
        go_wp2_with fail
        go_roundw
        case rel => exact ⟨k + 1, by rw [← cur_step hc'.out]; have := hb.set_ k (low c); rwa [show ((low c).toNat : Int) = (c.toNat : Int) + 32 from by have := hlow.out; omega] at this, hbw.setCell (p := ⟨w.heap.size, k, none⟩) (Nat.le_refl _) _, hlt, by go_num⟩
        case measure => simp [intOf]; omega
      · have hsame := hid (cur_same hc'.out (low_id hup))
        rcases (by omega : c.toNat < 65 ∨ (65 ≤ c.toNat ∧ 90 < c.toNat)) with u0 | ⟨u0, u1⟩
        all_goals
          clear hup
          go_wp2_with fail
          go_roundw
          case rel => exact ⟨k + 1, by rw [← hsame.out]; exact hb, hbw, hlt, by go_num⟩
          case measure => simp [intOf]; omega
    · have hcv2 := hb.string (P := Tryd.prog) 42 5 9 s.size cap (by rw [cur_len]; rfl) Tryd.underlying42 Tryd.underlying5 Tryd.underlying9
      go_wp2_with fail
      go_ret
      obtain rfl : k = s.size := by omega
      exact ⟨ret_str (cur_end _), hbw⟩
end Go.Proofs.YthblohknnlkidaaDoor
/- fold.Space's and fold.Words' contracts; what stands between spaces, in plain Lean. -/
namespace Go.Proofs.YthblohknnlkidaaDoor
set_option linter.unusedVariables false
set_option linter.unusedSimpArgs false
open Go.RowKit Go.Lib

/-- What stands between the bytes that meet p; w: what has been gathered. -/
def fieldsAux (p : UInt8 → Bool) : List UInt8 → List UInt8 → List (List UInt8)
  | [], w => if w = [] then [] else [w]
  | c :: t, w => if p c then (if w = [] then fieldsAux p t [] else w :: fieldsAux p t []) else fieldsAux p t (w ++ [c])
theorem fieldsAux_keep {p : UInt8 → Bool} : ∀ (a b w : List UInt8), (∀ c ∈ a, p c = false) → fieldsAux p (a ++ b) w = fieldsAux p b (w ++ a)
  | [], b, w, _ => by simp
  | c :: t, b, w, h => by
    rw [List.cons_append]
    show (if p c then _ else _) = _
    rw [h c (by simp)]
    simp only [Bool.false_eq_true, if_false]
    rw [fieldsAux_keep t b (w ++ [c]) (fun d hd => h d (by simp [hd]))]
    simp
/-- Behind a rune's first byte, inside it, no byte is below 128. -/
theorem decode_rest (s : ByteArray) (pos j : Nat) (h0 : 0 < j) (hj : j < (Utf8.decode s pos).2) : ∃ c, s.data.toList[pos + j]? = some c ∧ 128 ≤ c.toNat := by
  have key : ∀ k, (decide (pos + k < s.size) && (s.get! (pos + k)).toNat / 64 == 2) = true → ∃ c, s.data.toList[pos + k]? = some c ∧ 128 ≤ c.toNat := by
    intro k h
    simp only [Bool.and_eq_true, decide_eq_true_eq, beq_iff_eq] at h
    obtain ⟨h1, h2⟩ := h
    refine ⟨s[pos + k]'h1, byte_at s (pos + k) h1, ?_⟩
    have e : s.get! (pos + k) = s[pos + k]'h1 := by
      simp [ByteArray.get!, getElem!_pos, h1]
      rfl
    rw [e] at h2
    omega
  simp only [Utf8.decode] at hj
  repeat' split at hj
  all_goals first
    | omega
    | (simp only at hj; omega)
    | (rename_i h1 h2; simp only [Bool.and_eq_true] at h1 h2; simp only at hj
       rcases (by omega : j = 1 ∨ j = 2 ∨ j = 3) with rfl | rfl | rfl
       all_goals first | omega | (apply key; simp_all))
theorem decode_piece (s : ByteArray) (pos : Nat) (h : pos < s.size) (ha : 128 ≤ (s[pos]'h).toNat) :
    ∃ a, s.data.toList.drop pos = a ++ s.data.toList.drop (pos + (Utf8.decode s pos).2) ∧ a.length = (Utf8.decode s pos).2 ∧ ∀ c ∈ a, 128 ≤ c.toNat := by
  have hw := (decode_high s pos h ha).2
  have hle : pos + (Utf8.decode s pos).2 ≤ s.size := by
    rcases Nat.lt_or_ge 1 (Utf8.decode s pos).2 with h1 | h1
    · obtain ⟨c, hc, _⟩ := decode_rest s pos ((Utf8.decode s pos).2 - 1) (by omega) (by omega)
      have := (List.getElem?_eq_some_iff.1 hc).1
      rw [← Lib.size_eq] at this
      omega
    · omega
  refine ⟨(s.data.toList.drop pos).take (Utf8.decode s pos).2, ?_, ?_, ?_⟩
  · rw [← List.drop_drop, List.take_append_drop]
  · rw [List.length_take, List.length_drop, ← Lib.size_eq]; omega
  · intro c hc
    obtain ⟨j, hj⟩ := List.mem_iff_getElem?.1 hc
    rw [List.getElem?_take] at hj
    split at hj
    · rename_i hlt
      rw [List.getElem?_drop] at hj
      rcases Nat.eq_zero_or_pos j with h0 | h0
      · subst h0
        rw [Nat.add_zero, byte_at s pos h] at hj
        cases hj; exact ha
      · obtain ⟨d, hd, hd2⟩ := decode_rest s pos j h0 hlt
        rw [hd] at hj
        cases hj; exact hd2
    · cases hj
theorem extract_piece (s : ByteArray) (a b : Nat) : s.extract a b = mkS ((s.data.toList.drop a).take (b - a)) := Lib.extract_eq s a b
theorem cur_grow (l : List UInt8) (a pos k : Nat) (x y : List UInt8) (hap : a ≤ pos) (h : l.drop pos = x ++ y) (hx : x.length = k) : (l.drop a).take (pos - a) ++ x = (l.drop a).take (pos + k - a) := by
  have e : l.drop pos = (l.drop a).drop (pos - a) := by rw [List.drop_drop]; congr 1; omega
  rw [e] at h
  rw [show pos + k - a = (pos - a) + k by omega, List.take_add, h]
  congr 1
  rw [← hx]; simp
theorem take_ne {l : List UInt8} {a pos : Nat} (h1 : a < pos) (h2 : pos ≤ l.length) : (l.drop a).take (pos - a) ≠ [] := by
  intro h
  have := congrArg List.length h
  rw [List.length_take, List.length_drop, List.length_nil] at this
  omega
/-- strings.FieldsFunc, byte by byte, at a predicate that no rune from 128 on meets. -/
theorem spans_fields (p : UInt8 → Bool) (pN : Nat → Bool) (hp : ∀ c : UInt8, c.toNat < 128 → pN c.toNat = p c) (hb : ∀ n, 128 ≤ n → pN n = false) (hc : ∀ c : UInt8, 128 ≤ c.toNat → p c = false) (s : ByteArray) :
    ∀ (f pos : Nat) (st : Option Nat) (acc : List (Nat × Nat)), s.size ≤ pos + f → pos ≤ s.size → (∀ a, st = some a → a < pos) →
    (closeSpans s (spansFromP pN s f pos st acc)).map (fun x => s.extract x.1 x.2) = acc.map (fun x => s.extract x.1 x.2) ++ (fieldsAux p (s.data.toList.drop pos) (match st with | none => [] | some a => (s.data.toList.drop a).take (pos - a))).map mkS := by
  intro f
  induction f with
  | zero =>
    intro pos st acc h0 h1 hst
    rw [List.drop_of_length_le (by rw [← Lib.size_eq]; omega)]
    obtain rfl : pos = s.size := by omega
    cases st with
    | none => simp [spansFromP, closeSpans, fieldsAux]
    | some a =>
      have := take_ne (l := s.data.toList) (hst a rfl) (by rw [← Lib.size_eq]; exact Nat.le_refl _)
      simp only [spansFromP, closeSpans, fieldsAux]
      rw [if_neg this]
      simp [extract_piece]
  | succ f ih =>
    intro pos st acc h0 h1 hst
    by_cases hlt : pos < s.size
    · unfold spansFromP
      rw [if_pos hlt]
      by_cases ha : (s[pos]'hlt).toNat < 128
      · rw [decode_ascii s pos hlt ha]
        simp only
        rw [hp _ ha]
        have hd := drop_one (byte_at s pos hlt)
        rw [hd]
        cases hsp : p (s[pos]'hlt) with
        | true =>
          cases st with
          | none =>
            simp only [if_true, fieldsAux, hsp]
            exact ih (pos + 1) none acc (by omega) (by omega) (by simp)
          | some a =>
            have hne := take_ne (l := s.data.toList) (hst a rfl) (by rw [← Lib.size_eq]; omega)
            simp only [if_true, fieldsAux, hsp]
            rw [if_neg hne, ih (pos + 1) none (acc ++ [(a, pos)]) (by omega) (by omega) (by simp)]
            simp [extract_piece]
        | false =>
          cases st with
          | none =>
            simp only [Bool.false_eq_true, if_false, fieldsAux, hsp]
            rw [ih (pos + 1) (some pos) acc (by omega) (by omega) (by intro a h; cases h; omega)]
            simp only [List.nil_append]
            congr 3
            have := cur_grow s.data.toList pos pos 1 [s[pos]'hlt] _ (Nat.le_refl _) (by rw [hd]; rfl) rfl
            simpa using this.symm
          | some a =>
            simp only [Bool.false_eq_true, if_false, fieldsAux, hsp]
            have hlt2 := hst a rfl
            rw [ih (pos + 1) (some a) acc (by omega) (by omega) (by intro b h; cases h; omega)]
            simp only
            congr 3
            exact (cur_grow s.data.toList a pos 1 [s[pos]'hlt] _ (by omega) (by rw [hd]; rfl) rfl).symm
      · obtain ⟨x, hx1, hx2, hx3⟩ := decode_piece s pos hlt (by omega)
        have hhi := decode_high s pos hlt (by omega)
        have hxl : pos + (Utf8.decode s pos).2 ≤ s.size := by
          have := congrArg List.length hx1
          rw [List.length_append, hx2, List.length_drop, ← Lib.size_eq] at this
          omega
        have hg := fun (a : Nat) (h : a ≤ pos) => cur_grow s.data.toList a pos _ x _ h hx1 hx2
        have hfk := fun w => fieldsAux_keep (p := p) x (s.data.toList.drop (pos + (Utf8.decode s pos).2)) w (fun c h => hc c (hx3 c h))
        rw [hx1]
        obtain ⟨W, hW⟩ : ∃ W, (Utf8.decode s pos).2 = W := ⟨_, rfl⟩
        obtain ⟨R, hR⟩ : ∃ R, (Utf8.decode s pos).1 = R := ⟨_, rfl⟩
        rw [hW] at hg hfk hxl hhi ⊢
        rw [hR] at hhi ⊢
        rw [hb R hhi.1]
        cases st with
        | none =>
          simp only [Bool.false_eq_true, if_false]
          rw [ih (pos + W) (some pos) acc (by omega) hxl (by intro a h; cases h; omega), hfk]
          simp only [List.nil_append]
          congr 3
          have := hg pos (Nat.le_refl _)
          simpa using this.symm
        | some a =>
          have hlt2 := hst a rfl
          simp only [Bool.false_eq_true, if_false]
          rw [ih (pos + W) (some a) acc (by omega) hxl (by intro b h; cases h; omega), hfk]
          simp only
          congr 3
          exact (hg a (by omega)).symm
    · unfold spansFromP
      rw [if_neg hlt, List.drop_of_length_le (by rw [← Lib.size_eq]; omega)]
      obtain rfl : pos = s.size := by omega
      cases st with
      | none => simp [closeSpans, fieldsAux]
      | some a =>
        have := take_ne (l := s.data.toList) (hst a rfl) (by rw [← Lib.size_eq]; exact Nat.le_refl _)
        simp only [closeSpans, fieldsAux]
        rw [if_neg this]
        simp [extract_piece]
theorem fields_eq (p : UInt8 → Bool) (pN : Nat → Bool) (hp : ∀ c : UInt8, c.toNat < 128 → pN c.toNat = p c) (hb : ∀ n, 128 ≤ n → pN n = false) (hc : ∀ c : UInt8, 128 ≤ c.toNat → p c = false) (s : ByteArray) :
    goFieldsP pN s = (fieldsAux p s.data.toList []).map mkS := by
  have := spans_fields p pN hp hb hc s s.size 0 none [] (by omega) (Nat.zero_le _) (by simp)
  simpa [goFieldsP, spansOfP] using this

/-! ### Space, Words -/
def spaceI (c : Int) : Bool := decide (c = 32) || decide (c = 9) || decide (c = 10) || decide (c = 12) || decide (c = 13)
theorem spaceI_iff (c : Int) : spaceI c = true ↔ (c = 32 ∨ c = 9 ∨ c = 10 ∨ c = 12 ∨ c = 13) := by
  unfold spaceI
  simp only [Bool.or_eq_true, decide_eq_true_eq, or_assoc]
def space (c : UInt8) : Bool := spaceI c.toNat
def words (l : List UInt8) : List (List UInt8) := fieldsAux space l []
set_option maxHeartbeats 1000000 in
theorem space_calls (c : Int) (w : World) (h0 : 0 ≤ c) (h1 : c < 256) : Calls Tryd.prog 35 #[.int .u8 c] w fun e w' => e = .returned (.bool (spaceI c)) ∧ w' = w := by
  rcases (by omega : c < 9 ∨ (9 ≤ c ∧ c ≤ 9) ∨ (10 ≤ c ∧ c ≤ 10) ∨ (11 ≤ c ∧ c ≤ 11) ∨ (12 ≤ c ∧ c ≤ 12) ∨ (13 ≤ c ∧ c ≤ 13) ∨ (14 ≤ c ∧ c ≤ 31) ∨ (32 ≤ c ∧ c ≤ 32) ∨ 33 ≤ c) with h | ⟨h, h'⟩ | ⟨h, h'⟩ | ⟨h, h'⟩ | ⟨h, h'⟩ | ⟨h, h'⟩ | ⟨h, h'⟩ | ⟨h, h'⟩ | h
  all_goals
    obtain ⟨B, hB⟩ : ∃ B, spaceI c = B := ⟨_, rfl⟩
    have hB' : Hid (B = true ↔ (c = 32 ∨ c = 9 ∨ c = 10 ∨ c = 12 ∨ c = 13)) := hid (hB ▸ spaceI_iff c)
    rw [hB]
    clear hB
    go_enter Tryd.func35, Tryd.ntmps35
    go_wp2
    go_ret
    refine ⟨ret_bool ?_, rfl⟩
    have hb := hB'.out
    rw [Bool.eq_iff_iff, hb]
    simp
    try omega
/-- What the closure of Words tells of a rune. -/
def spaceN (r : Int) : Bool := decide (r < 128) && spaceI r
set_option maxHeartbeats 4000000 in
theorem space_at (w : World) : PredAt Tryd.prog 34 #[] encR (fun r : Nat => spaceN r) w := fun W n _ => by
  unfold FnGives
  obtain ⟨r, hr⟩ : ∃ r : Int, (n : Int) = r := ⟨_, rfl⟩
  have h0 : 0 ≤ r := by omega
  show Calls Tryd.prog _ #[.int .i32 (n : Int)] W fun e w' => e = .returned (.bool (spaceN (n : Int))) ∧ ∃ q, w' = W.drewN q
  rw [hr]
  clear hr
  unfold spaceN
  rcases (by omega : r < 128 ∨ 128 ≤ r) with h | h
  · rw [decide_eq_true h, Bool.true_and]
    have cl := hid (space_calls r W h0 (by omega))
    go_enter Tryd.func34, Tryd.ntmps34
    go_wp2_with (go_at_call 35; refine cl.out.mono ?_; rintro e w' ⟨rfl, rfl⟩)
    go_ret
    exact ⟨rfl, 0, rfl⟩
  · rw [decide_eq_false (by omega), Bool.false_and]
    go_enter Tryd.func34, Tryd.ntmps34
    go_wp2_with fail
    go_ret
    exact ⟨rfl, 0, rfl⟩
theorem space_lt {c : UInt8} (h : 128 ≤ c.toNat) : space c = false := by
  cases hs : space c with
  | false => rfl
  | true =>
    have := (spaceI_iff c.toNat).1 hs
    omega
theorem goFields_words (s : ByteArray) : goFieldsP (fun r : Nat => spaceN r) s = (words s.data.toList).map mkS :=
  fields_eq space _ (fun c h => by
    show (decide ((c.toNat : Int) < 128) && spaceI c.toNat) = spaceI c.toNat
    rw [decide_eq_true (by omega), Bool.true_and]) (fun n h => by
    show (decide ((n : Int) < 128) && spaceI n) = false
    rw [decide_eq_false (by omega), Bool.false_and]) (fun c h => space_lt h) s
set_option maxHeartbeats 1000000 in
theorem words_calls (s : ByteArray) (w : World) (hs : s.size ≤ 4294967296) :
    Calls Tryd.prog 25 #[.string s] w fun e w' => ∃ v : Value, e = .returned v ∧ w'.ownsRow w.heap.size 9 1 v ((words s.data.toList).map mkS).length (((words s.data.toList).map mkS).map Value.string) ∧ Below w.heap.size w w' := by
  have hc := Tryd.strings_FieldsFunc 34 #[] (enters_of Tryd.func34 (by kernel_rfl) rfl) _ s w hs (space_at w)
  rw [goFields_words] at hc
  obtain ⟨L, hL⟩ : ∃ L, (words s.data.toList).map mkS = L := ⟨_, rfl⟩
  rw [hL] at hc ⊢
  clear hL
  have hc' := hid hc
  clear hc
  go_enter Tryd.func25, Tryd.ntmps25
  go_wp2_with (go_at_call 33; refine hc'.out.mono ?_; rintro e w' ⟨A, rfl, hA, hrow, hb⟩)
  go_ret
  exact ⟨_, rfl, hrow, hb⟩
end Go.Proofs.YthblohknnlkidaaDoor
/- strings.Split at a separator of one byte. -/
namespace Go.Proofs.YthblohknnlkidaaDoor
set_option linter.unusedVariables false
set_option linter.unusedSimpArgs false
open Go.RowKit Go.Lib

/-- The pieces between the bytes c. -/
def cutAt (c : UInt8) : List UInt8 → List (List UInt8)
  | [] => [[]]
  | b :: t => if b = c then [] :: cutAt c t else match cutAt c t with
    | [] => [[b]]
    | w :: r => (b :: w) :: r
theorem cutAt_none {c : UInt8} : ∀ {l : List UInt8}, (∀ x ∈ l, x ≠ c) → cutAt c l = [l]
  | [], _ => rfl
  | b :: t, h => by
    unfold cutAt
    rw [if_neg (h b (by simp)), cutAt_none (fun x hx => h x (by simp [hx]))]
theorem cutAt_app {c : UInt8} : ∀ {a : List UInt8} (b : List UInt8), (∀ x ∈ a, x ≠ c) → cutAt c (a ++ c :: b) = a :: cutAt c b
  | [], b, _ => by simp [cutAt]
  | x :: t, b, h => by
    rw [List.cons_append]
    show (if x = c then _ else _) = _
    rw [if_neg (h x (by simp)), cutAt_app b (fun y hy => h y (by simp [hy]))]
theorem indexB_one (s : ByteArray) (c : UInt8) : indexB s ⟨#[c]⟩ = indexByte s.data.toList c := index_one _ _
theorem splitB_cut (c : UInt8) : ∀ (k : Nat) (s : ByteArray), s.data.toList.count c ≤ k → splitB ⟨#[c]⟩ 0 k s = (cutAt c s.data.toList).map mkS
  | 0, s, h => by
    rw [splitB_zero, cutAt_none (fun x hx e => by
      subst e
      have := List.count_pos_iff.2 hx
      omega)]
    simp [mkS]
  | k + 1, s, h => by
    by_cases hi : indexByte s.data.toList c = -1
    · rw [splitB_miss _ _ _ _ (by rw [indexB_one]; exact hi)]
      have hn := indexByte_none hi
      rw [cutAt_none (fun x hx e => by
        subst e
        obtain ⟨j, hj⟩ := List.mem_iff_getElem?.1 hx
        exact hn j hj)]
      simp [mkS]
    · have hge := indexByte_ge s.data.toList c
      obtain ⟨i, hi'⟩ : ∃ i : Nat, indexByte s.data.toList c = i := ⟨(indexByte s.data.toList c).toNat, by omega⟩
      obtain ⟨h1, h2⟩ := indexByte_some hi'
      have hlt : i < s.data.toList.length := (List.getElem?_eq_some_iff.1 h1).1
      have hsplit : s.data.toList = s.data.toList.take i ++ c :: s.data.toList.drop (i + 1) := by
        conv => lhs; rw [← List.take_append_drop i s.data.toList, drop_one h1]
      have hno : ∀ x ∈ s.data.toList.take i, x ≠ c := by
        intro x hx e
        subst e
        obtain ⟨j, hj⟩ := List.mem_iff_getElem?.1 hx
        rw [List.getElem?_take] at hj
        split at hj
        · exact h2 j (by assumption) hj
        · cases hj
      rw [splitB_hit _ _ k s i (by rw [indexB_one]; exact hi')]
      have e1 : s.extract 0 (i + 0) = mkS (s.data.toList.take i) := by rw [Nat.add_zero, extract_pre]; rfl
      have e2 : s.extract (i + (⟨#[c]⟩ : ByteArray).size) s.size = mkS (s.data.toList.drop (i + 1)) := extract_suf s (i + 1)
      rw [e1, e2, splitB_cut c k _ (by
        show (s.data.toList.drop (i + 1)).count c ≤ k
        rw [hsplit, List.count_append, List.count_cons] at h
        simp at h
        omega)]
      conv => rhs; rw [hsplit, cutAt_app _ hno]
      rfl
theorem countB_one (s : ByteArray) (c : UInt8) : countB s ⟨#[c]⟩ = s.data.toList.count c := Lib.count_one c _
set_option maxHeartbeats 2000000 in
set_option maxRecDepth 100000 in
theorem split_calls (c : UInt8) (s : ByteArray) (w : World) (hs : s.size < 4294967281) :
    Calls Tryd.prog 24 #[.string s, .string ⟨#[c]⟩] w fun e w' => ∃ v : Value, e = .returned v ∧ w'.ownsRow w.heap.size 9 1 v ((cutAt c s.data.toList).map mkS).length (((cutAt c s.data.toList).map mkS).map Value.string) ∧ Below w.heap.size w w' := by
  have h1 : 1 ≤ (⟨#[c]⟩ : ByteArray).size := Nat.le_refl _
  have hle := Lib.countB_le ⟨#[c]⟩ h1 s.size s (Nat.le_refl _)
  have hlen := Lib.splitB_all ⟨#[c]⟩ h1 0 _ s rfl
  have hC := Tryd.strings_Count_one s c w
  rw [show (Lib.countByte s.data.toList c : Int) = (Lib.countB s ⟨#[c]⟩ : Int) by rw [countB_one]; rfl] at hC
  have cc := Any.strings_genSplit_core Tryd.lays221 (by kernel_rfl) s ⟨#[c]⟩ 0 (-1) (Lib.countB s ⟨#[c]⟩ + 1) w hs h1 (Nat.zero_le _) (fun x cl _ => by
    have := Tryd.strings_Index_one x c (w.alloc (.cells cl 9))
    rw [← indexB_one] at this
    exact this) hC (by decide) (by decide) (by rw [if_pos (by decide)]; omega)
  rw [Nat.add_sub_cancel, hlen] at cc
  have e2 : Lib.cellsOf (Lib.splitB ⟨#[c]⟩ 0 (Lib.countB s ⟨#[c]⟩) s) (Lib.countB s ⟨#[c]⟩ + 1) = ((Lib.splitB ⟨#[c]⟩ 0 (Lib.countB s ⟨#[c]⟩) s).map Value.string).toArray := by rw [← hlen]; exact Lib.cellsOf_full _
  rw [e2, ← hlen, splitB_cut c _ s (by rw [countB_one]; exact Nat.le_refl _)] at cc
  have hn : ((cutAt c s.data.toList).map mkS).length ≤ 9223372036854775807 := by
    rw [← splitB_cut c (Lib.countB s ⟨#[c]⟩) s (by rw [countB_one]; exact Nat.le_refl _), hlen]
    omega
  change Calls Tryd.prog 32 _ _ _ at cc
  obtain ⟨L, hL⟩ : ∃ L, (cutAt c s.data.toList).map mkS = L := ⟨_, rfl⟩
  rw [hL] at cc hn ⊢
  clear hL hlen hle e2 hC
  have cc' := hid cc
  clear cc
  go_enter Tryd.func24, Tryd.ntmps24
  go_wp2_with (go_at_call 32; refine cc'.out.mono ?_; rintro e w' ⟨rfl, hw⟩; rw [hw])
  go_ret
  refine ⟨_, rfl, ?_, (Below.refl _ w).alloc (Nat.le_refl _) _⟩
  exact Go.Proofs.YthblohknnlkidaaDoorW.PrintWords.own_lit_of (enc := Value.string) w w.heap.size 9 L (Nat.le_refl _) hn
end Go.Proofs.YthblohknnlkidaaDoor
/- fold's and strings' contracts in the form that the printed texts take. -/
namespace Go.Proofs.YthblohknnlkidaaDoor
set_option linter.unusedVariables false
set_option linter.unusedSimpArgs false
open Go.RowKit Go.Lib Go.Proofs.YthblohknnlkidaaDoorW.PrintWords

def fold_Lower.f (a0 : ByteArray) : Option ByteArray := bnd a0 (mkS (lower a0.data.toList))
theorem fold_Lower.calls (a0 : ByteArray) (r : ByteArray) (w : World) (h : fold_Lower.f a0 = some r) :
    Calls Tryd.prog 26 #[.string a0] w fun e w' => e = .returned (.string r) ∧ Below w.heap.size w w' := by
  obtain ⟨hs, rfl⟩ := bnd_some h
  exact lower_calls a0 w hs
def boltingref02_Lower.f (a0 : ByteArray) : Option ByteArray := bnd a0 (mkS (lower a0.data.toList))
theorem boltingref02_Lower.calls (a0 : ByteArray) (r : ByteArray) (w : World) (h : boltingref02_Lower.f a0 = some r) :
    Calls Tryd.prog 19 #[.string a0] w fun e w' => e = .returned (.string r) ∧ Below w.heap.size w w' := by
  obtain ⟨hs, rfl⟩ := bnd_some h
  exact ref_lower_calls a0 w hs
def bnd32 {α : Type} (s : ByteArray) (x : α) : Option α := if s.size < 4294967281 then some x else none
theorem bnd32_some {α : Type} {s : ByteArray} {x r : α} (h : bnd32 s x = some r) : s.size < 4294967281 ∧ x = r := by
  unfold bnd32 at h
  split at h
  · exact ⟨by assumption, Option.some.inj h⟩
  · cases h
theorem bnd32_of {α : Type} {s : ByteArray} (x : α) (h : s.size < 4294967281) : bnd32 s x = some x := by unfold bnd32; rw [if_pos h]
def fold_Words.f (a0 : ByteArray) : Option (List ByteArray) := bnd32 a0 ((words a0.data.toList).map mkS)
theorem fold_Words.calls (a0 : ByteArray) (r : List ByteArray) (w : World) (h : fold_Words.f a0 = some r) :
    Calls Tryd.prog 25 #[.string a0] w fun e w' => ∃ v0_ : Value, e = .returned (v0_) ∧ Kd.R Kd.string 9 w' w.heap.size (fun _ => True) v0_ r ∧ Below w.heap.size w w' := by
  obtain ⟨hs, rfl⟩ := bnd32_some h
  refine (words_calls a0 w (by omega)).mono ?_
  rintro e w' ⟨v, he, ho, hb⟩
  exact ⟨v, he, Kd.R_of_own (enc := Value.string) ho (fun _ _ => trivial), hb⟩
/-- strings.Split, at a separator of one byte alone. -/
def strings_Split.f (a0 a1 : ByteArray) : Option (List ByteArray) := match a1.data.toList with
  | [c] => bnd32 a0 ((cutAt c a0.data.toList).map mkS)
  | _ => none
theorem one_byte {a : ByteArray} {c : UInt8} (h : a.data.toList = [c]) : a = ⟨#[c]⟩ := by rw [← Lib.mk_data a, h]
theorem strings_Split.calls (a0 a1 : ByteArray) (r : List ByteArray) (w : World) (h : strings_Split.f a0 a1 = some r) :
    Calls Tryd.prog 24 #[.string a0, .string a1] w fun e w' => ∃ v0_ : Value, e = .returned (v0_) ∧ Kd.R Kd.string 9 w' w.heap.size (fun _ => True) v0_ r ∧ Below w.heap.size w w' := by
  unfold strings_Split.f at h
  split at h
  · rename_i c hc
    obtain ⟨hs, rfl⟩ := bnd32_some h
    rw [one_byte hc]
    refine (split_calls c a0 w (by omega)).mono ?_
    rintro e w' ⟨v, he, ho, hb⟩
    exact ⟨v, he, Kd.R_of_own (enc := Value.string) ho (fun _ _ => trivial), hb⟩
  · cases h
/-- strings.Contains, at a text of one byte alone. -/
def strings_Contains.f (a0 a1 : ByteArray) : Option Bool := match a1.data.toList with
  | [c] => some (decide (0 ≤ Lib.indexByte a0.data.toList c))
  | _ => none
theorem strings_Contains.calls (a0 a1 : ByteArray) (r : Bool) (w : World) (h : strings_Contains.f a0 a1 = some r) :
    Calls Tryd.prog 38 #[.string a0, .string a1] w fun e w' => e = .returned (.bool r) ∧ Drawn0 w w' := by
  unfold strings_Contains.f at h
  split at h
  · rename_i c hc
    obtain rfl := Option.some.inj h
    rw [one_byte hc]
    refine (Tryd.strings_Contains_one a0 c w).mono ?_
    rintro e w' ⟨rfl, rfl⟩
    exact ⟨rfl, Drawn0.refl _⟩
  · cases h
end Go.Proofs.YthblohknnlkidaaDoor
namespace Go.Proofs.YthblohknnlkidaaDoor.Pr
open Go.RowKit Go.Proofs.YthblohknnlkidaaDoorW.PrintWords Go.Proofs.YthblohknnlkidaaDoorW.PrintLast Go.Proofs.YthblohknnlkidaaDoorW.PrintMore
attribute [local go_sem] max2_int min2_int max_two min_two max_three min_three max_four min_four   -- for this text's walks alone
set_option linter.unusedVariables false
set_option linter.unusedSimpArgs false



def errW : Option Int → Value
  | none => .nilIface
  | some c => .iface 0 (.int .i64 c)
theorem errW_none : errW none = .nilIface := rfl
theorem errW_some (c : Int) : errW (some c) = .iface 0 (.int .i64 c) := rfl

theorem info9 : (Tryd.prog.info? 9).map (fun i => (i.zero, i.size, i.bytes)) = some (some (.string ⟨#[]⟩), 1, 16) := by kernel_rfl
theorem info24 : (Tryd.prog.info? 24).map (fun i => (i.zero, i.size, i.bytes)) = some (some (.slice none 0 0), 1, 24) := by kernel_rfl
-- the values' own types
def rd_L1 (xs : List (List ByteArray)) (i : Int) : (List ByteArray) := xs.getD i.toNat ([] : List ByteArray)
theorem at_L1 {w : World} {A : Option Addr} {n : Nat} {xs : List (List ByteArray)} (h : Kd.C (Kd.slice 9 Kd.string) w A n xs) (i : Int) (h0 : 0 ≤ i) (h1 : i < n) : ∃ ad A0 c0, A = some ad ∧ w.cell? (ad.add i.toNat) = some (.slice A0 (rd_L1 xs i).length c0) ∧ (rd_L1 xs i).length ≤ c0 ∧ Kd.string.C w A0 (rd_L1 xs i).length (rd_L1 xs i) := by
  obtain ⟨ad, c, e, _, hK, hc0⟩ := Kd.C_get h ([] : List ByteArray) i h0 h1
  have hc : ∀ j u, c[j]? = some u → w.cell? (ad.add (i.toNat * 1 + j)) = some u := hc0
  obtain ⟨A0, c0, rfl, l0, g0⟩ := hK
  exact ⟨ad, A0, c0, e, by have hq := hc 0 _ rfl; rwa [Nat.mul_one, Nat.add_zero] at hq, l0, g0⟩

end Go.Proofs.YthblohknnlkidaaDoor.Pr
namespace Go.Proofs.YthblohknnlkidaaDoor.Pr
open Go.RowKit Go.Proofs.YthblohknnlkidaaDoorW.PrintWords Go.Proofs.YthblohknnlkidaaDoorW.PrintLast Go.Proofs.YthblohknnlkidaaDoorW.PrintMore
attribute [local go_sem] max2_int min2_int max_two min_two max_three min_three max_four min_four   -- for this text's walks alone
set_option linter.unusedVariables false
set_option linter.unusedSimpArgs false

/-! ### header_Parts: function 12 -/
mutual
def header_Parts.l0 : Nat → List (List ByteArray) → List ByteArray → Int → Int → Option ((List (List ByteArray)))
  | 0, _, _, _, _ => none
  | k + 1, x3, x10, x11, x12 => if x12 < x11 then (if 0 ≤ x12 then (if x12 < (x10.length : Int) then ((fold_Words.f (rdOf ByteArray.empty x10 x12)).bind fun t178 => (if (t178.length : Int) = 0 then (header_Parts.l0 k x3 x10 x11 (wrap64 (x12 + 1))) else (if 0 < (t178.length : Int) then ((fold_Lower.f (rdOf ByteArray.empty t178 0)).bind fun t182 => (header_Parts.l1 k x3 (t178.set (0 : Int).toNat t182) x10 x11 x12 x3 (x3.length : Int) 0)) else (none)))) else (none)) else (none)) else (some x3)
def header_Parts.l1 : Nat → List (List ByteArray) → List ByteArray → List ByteArray → Int → Int → List (List ByteArray) → Int → Int → Option ((List (List ByteArray)))
  | 0, _, _, _, _, _, _, _, _ => none
  | k + 1, x3, x6, x10, x11, x12, x27, x28, x29 => if x29 < x28 then (if 0 ≤ x29 then (if x29 < (x27.length : Int) then (if 0 < ((rd_L1 x27 x29).length : Int) then (if 0 < (x6.length : Int) then (if (rdOf ByteArray.empty (rd_L1 x27 x29) 0).toList = (rdOf ByteArray.empty x6 0).toList then (header_Parts.l0 k x3 x10 x11 (wrap64 (x12 + 1))) else (header_Parts.l1 k x3 x6 x10 x11 x12 x27 x28 (wrap64 (x29 + 1)))) else (none)) else (none)) else (none)) else (none)) else (if x3.length < 5864062014805 then (header_Parts.l0 k (x3 ++ [x6]) x10 x11 (wrap64 (x12 + 1))) else (none))
end
def header_Parts.f (k : Nat) (a0 : ByteArray) : Option ((List (List ByteArray))) := (strings_Split.f a0 (⟨#[59]⟩ : ByteArray)).bind fun t174 => (header_Parts.l0 k ([] : List (List ByteArray)) t174 (t174.length : Int) 0)
theorem header_Parts.mono_l : ∀ k, (∀ y0 y1 y2 y3, LeO (header_Parts.l0 k y0 y1 y2 y3) (header_Parts.l0 (k + 1) y0 y1 y2 y3)) ∧ (∀ y0 y1 y2 y3 y4 y5 y6 y7, LeO (header_Parts.l1 k y0 y1 y2 y3 y4 y5 y6 y7) (header_Parts.l1 (k + 1) y0 y1 y2 y3 y4 y5 y6 y7))
  | 0 => ⟨fun _ _ _ _ r h => by simp [header_Parts.l0] at h, fun _ _ _ _ _ _ _ _ r h => by simp [header_Parts.l1] at h⟩
  | k + 1 => by
    obtain ⟨ih0, ih1⟩ := header_Parts.mono_l k
    refine ⟨?_, ?_⟩
    · intro y0 y1 y2 y3
      unfold header_Parts.l0
      repeat' first
      | (with_reducible exact ih0 _ _ _ _)
      | (with_reducible exact ih1 _ _ _ _ _ _ _ _)
      | (with_reducible exact LeO.refl _)
      | (with_reducible exact LeO.none _)
      | (with_reducible refine LeO.ite ?_ ?_)
      | (with_reducible refine LeO.bind ?_ (fun _ => ?_))
      | exact ih0 _ _ _ _
      | exact ih1 _ _ _ _ _ _ _ _
      | exact LeO.none _
      | refine LeO.ite ?_ ?_
      | refine LeO.bind ?_ (fun _ => ?_)
    · intro y0 y1 y2 y3 y4 y5 y6 y7
      unfold header_Parts.l1
      repeat' first
      | (with_reducible exact ih0 _ _ _ _)
      | (with_reducible exact ih1 _ _ _ _ _ _ _ _)
      | (with_reducible exact LeO.refl _)
      | (with_reducible exact LeO.none _)
      | (with_reducible refine LeO.ite ?_ ?_)
      | (with_reducible refine LeO.bind ?_ (fun _ => ?_))
      | exact ih0 _ _ _ _
      | exact ih1 _ _ _ _ _ _ _ _
      | exact LeO.none _
      | refine LeO.ite ?_ ?_
      | refine LeO.bind ?_ (fun _ => ?_)
theorem header_Parts.mono : ∀ a0 k, LeO (header_Parts.f k a0) (header_Parts.f (k + 1) a0) := by
  intro a0 k
  obtain ⟨ih0, ih1⟩ := header_Parts.mono_l k
  unfold header_Parts.f
  repeat' first
      | (with_reducible exact ih0 _ _ _ _)
      | (with_reducible exact ih1 _ _ _ _ _ _ _ _)
      | (with_reducible exact LeO.refl _)
      | (with_reducible exact LeO.none _)
      | (with_reducible refine LeO.ite ?_ ?_)
      | (with_reducible refine LeO.bind ?_ (fun _ => ?_))
      | exact ih0 _ _ _ _
      | exact ih1 _ _ _ _ _ _ _ _
      | exact LeO.none _
      | refine LeO.ite ?_ ?_
      | refine LeO.bind ?_ (fun _ => ?_)
set_option maxHeartbeats 8000000 in
set_option maxRecDepth 100000 in
theorem header_Parts.calls (k : Nat) (a0 : ByteArray) (r : List (List ByteArray)) (w : World) (h : header_Parts.f k a0 = some r) :
    Calls Tryd.prog 12 #[.string a0] w fun e w' => ∃ v0_ : Value, e = .returned (v0_) ∧ Kd.S (Kd.slice 9 Kd.string) 24 w' w.heap.size (fun _ => True) v0_ r ∧ Below w.heap.size w w' := by
  have HB := Aside0.mk (Below.refl w.heap.size w)
  have H : ((strings_Split.f a0 (⟨#[59]⟩ : ByteArray)).bind fun t174 => (header_Parts.l0 k ([] : List (List ByteArray)) t174 (t174.length : Int) 0)) = some r := h
  clear h
  replace H := Option.bind_eq_some_iff.mp H
  obtain ⟨t174, A20, H⟩ := H
  replace H : (header_Parts.l0 k ([] : List (List ByteArray)) t174 (t174.length : Int) 0) = some r := H
  have A2 := Aside0.mk A20
  clear A20
  have H' := Aside0.mk H
  clear H
  go_enter Tryd.func12, Tryd.ntmps12
  go_wp2_with (first | (go_step3) | (go_at_call 24; (with_reducible refine (strings_Split.calls a0 (⟨#[59]⟩ : ByteArray) t174 _ A2.out).mono ?_); rintro e w3 ⟨v175, rfl, ho0, hb⟩; have n0_ := Aside0.mk (Kd.R_lower ho0 (below_size (by repeat (first | (with_reducible first | exact HB.out | apply below_alloc | apply pw_below_drewN | apply below_drew1) | exact HB.out)))); have n1_ := Aside0.mk (below_step (by repeat (first | (with_reducible first | exact HB.out | apply below_alloc | apply pw_below_drewN | apply below_drew1) | exact HB.out)) hb); clear HB; have HO176 := n0_; have HB := n1_; clear n0_ n1_; (try clear hb); (try clear hb2); (try clear hk); (try clear hi); (try clear ho0); obtain ⟨Ao4, co4, eo4⟩ := Kd.R_slice HO176.out; subst eo4))
  repeat (go_quiet (first | (go_at_call 24; (with_reducible refine (strings_Split.calls a0 (⟨#[59]⟩ : ByteArray) t174 _ A2.out).mono ?_); rintro e w3 ⟨v175, rfl, ho0, hb⟩; have n0_ := Aside0.mk (Kd.R_lower ho0 (below_size (by repeat (first | (with_reducible first | exact HB.out | apply below_alloc | apply pw_below_drewN | apply below_drew1) | exact HB.out)))); have n1_ := Aside0.mk (below_step (by repeat (first | (with_reducible first | exact HB.out | apply below_alloc | apply pw_below_drewN | apply below_drew1) | exact HB.out)) hb); clear HB; have HO176 := n0_; have HB := n1_; clear n0_ n1_; (try clear hb); (try clear hb2); (try clear hk); (try clear hi); (try clear ho0); obtain ⟨Ao4, co4, eo4⟩ := Kd.R_slice HO176.out; subst eo4)); try go_wp2_with (first | (go_step3) | (go_at_call 24; (with_reducible refine (strings_Split.calls a0 (⟨#[59]⟩ : ByteArray) t174 _ A2.out).mono ?_); rintro e w3 ⟨v175, rfl, ho0, hb⟩; have n0_ := Aside0.mk (Kd.R_lower ho0 (below_size (by repeat (first | (with_reducible first | exact HB.out | apply below_alloc | apply pw_below_drewN | apply below_drew1) | exact HB.out)))); have n1_ := Aside0.mk (below_step (by repeat (first | (with_reducible first | exact HB.out | apply below_alloc | apply pw_below_drewN | apply below_drew1) | exact HB.out)) hb); clear HB; have HO176 := n0_; have HB := n1_; clear n0_ n1_; (try clear hb); (try clear hb2); (try clear hk); (try clear hi); (try clear ho0); obtain ⟨Ao4, co4, eo4⟩ := Kd.R_slice HO176.out; subst eo4)))
  go_loopg [3, 12] k (fun kq v3 v12 w' => ∃ (x3_1 : List (List ByteArray)) (x10_1 : List ByteArray) (x12_1 : Int), v12 = .int .i64 x12_1 ∧ Aside0 (header_Parts.l0 kq x3_1 x10_1 (t174.length : Int) x12_1 = some r) ∧ Aside0 (kq ≤ k) ∧ Aside0 (Kd.S (Kd.slice 9 Kd.string) 24 w' w.heap.size (fun k_ => some k_ ≠ ((.slice Ao4 t174.length co4) : Value).ownBlock) v3 x3_1) ∧ Aside0 (Kd.R Kd.string 9 w' w.heap.size (fun _ => True) (.slice Ao4 t174.length co4) x10_1) ∧ Aside0 (Below w.heap.size w w'))
  case atStart => exact ⟨(([] : List (List ByteArray))), (t174), (0), (by first | rfl | (simp; done) | (simp [*]; done)), H', ⟨Nat.le_refl _⟩, ⟨by first | exact Kd.S_nil _ _ _ _ _ | exact Kd.N_nil _ _ _ _ _ | exact Kd.V_nil _ _ _ _ _ | exact Kd.Q_nil _ _ _ _ _ | exact Kd.R_nil _ _ _ _ _⟩, ⟨by (with_reducible repeat (first | apply Kd.R_alloc | apply Kd.R_drewN | apply Kd.R_drew)); exact HO176.out⟩, ⟨by repeat (first | (with_reducible first | exact HB.out | apply below_alloc | apply pw_below_drewN | apply below_drew1) | exact HB.out)⟩⟩
  case round =>
    clear H'
    try clear c1
    try clear p2
    obtain ⟨x3_1, x10_1, x12_1, rfl, HA, HK1, HO_3, HO_10, HB⟩ := hrel
    have hl10_1 := (Kd.R_reads' HO_10.out).1
    rw [hl10_1] at HO_10
    (try simp only [hl10_1])
    (try simp only [hl10_1] at HO_3)
    cases gk with
    | zero => exact absurd HA.out (by simp [header_Parts.l0])
    | succ k1 =>
      have H := HA.out
      clear HA
      simp only [header_Parts.l0] at H
      by_cases c5 : x12_1 < (t174.length : Int)
      · rw [if_pos c5] at H
        have c5b0 : decide (x12_1 < (t174.length : Int)) = true := decide_eq_true c5
        (try (have c5h0 := c5b0; simp only [hl10_1] at c5h0))
        clear c5
        by_cases c6 : 0 ≤ x12_1
        · rw [if_pos c6] at H
          have c6b0 : decide (0 ≤ x12_1) = true := decide_eq_true c6
          clear c6
          by_cases c7 : x12_1 < (x10_1.length : Int)
          · rw [if_pos c7] at H
            have c7b0 : decide (x12_1 < (x10_1.length : Int)) = true := decide_eq_true c7
            (try (have c7h0 := c7b0; simp only [hl10_1] at c7h0))
            clear c7
            replace H := Option.bind_eq_some_iff.mp H
            obtain ⟨t178, A80, H⟩ := H
            replace H : (if (t178.length : Int) = 0 then (header_Parts.l0 k1 x3_1 x10_1 (t174.length : Int) (wrap64 (x12_1 + 1))) else (if 0 < (t178.length : Int) then ((fold_Lower.f (rdOf ByteArray.empty t178 0)).bind fun t182 => (header_Parts.l1 k1 x3_1 (t178.set (0 : Int).toNat t182) x10_1 (t174.length : Int) x12_1 x3_1 (x3_1.length : Int) 0)) else (none))) = some r := H
            have A8 := Aside0.mk A80
            clear A80
            by_cases c9 : (t178.length : Int) = 0
            · rw [if_pos c9] at H
              have c9b0 : ((t178.length : Int) == 0) = true := beq_iff_eq.mpr c9
              have c9b1 : ((t178.length : Int) != 0) = false := bne_eq_false_iff_eq.mpr c9
              (try (have c9h0 := c9b0; simp only [hl10_1] at c9h0))
              clear c9
              have H' := Aside0.mk H
              clear H
              have p177 : 0 ≤ (x12_1 : Int) := of_decide_eq_true (by first | (with_reducible assumption) | assumption)
              have q177 : x12_1 < (x10_1.length : Int) := of_decide_eq_true (by first | (with_reducible assumption) | assumption)
              obtain ⟨ad177, e177, hx177_0⟩ := Kd.at_string (Kd.R_reads' HO_10.out).2.2 x12_1 p177 q177
              cases e177
              replace p177 := eq_true p177
              replace q177 := eq_true q177
              go_wp2_with (first | (go_step3) | (go_at_call 25; (with_reducible refine (fold_Words.calls (rdOf ByteArray.empty x10_1 x12_1) t178 _ A8.out).mono ?_); rintro e w10 ⟨v179, rfl, ho0, hb⟩; have n0_ := Aside0.mk (Kd.S_elder' (by (with_reducible repeat (first | apply Kd.S_alloc | apply Kd.S_drewN | apply Kd.S_drew)); exact HO_3.out) (Kd.R_base ho0) hb); have n1_ := Aside0.mk (Kd.R_elder' (by (with_reducible repeat (first | apply Kd.R_alloc | apply Kd.R_drewN | apply Kd.R_drew)); exact HO_10.out) (Kd.R_base ho0) hb); have n2_ := Aside0.mk (Kd.R_lower (Kd.R_new' ho0 (Kd.R_lt (by (with_reducible repeat (first | apply Kd.R_alloc | apply Kd.R_drewN | apply Kd.R_drew)); exact HO_10.out))) (below_size (by repeat (first | (with_reducible first | exact HB.out | apply below_alloc | apply pw_below_drewN | apply below_drew1) | exact HB.out)))); have n3_ := Aside0.mk (below_step (by repeat (first | (with_reducible first | exact HB.out | apply below_alloc | apply pw_below_drewN | apply below_drew1) | exact HB.out)) hb); clear HO_3; clear HO_10; clear HB; have HO_3 := n0_; have HO_10 := n1_; have HO180 := n2_; have HB := n3_; clear n0_ n1_ n2_ n3_; (try clear hb); (try clear hb2); (try clear hk); (try clear hi); (try clear ho0); obtain ⟨Ao11, co11, eo11⟩ := Kd.R_slice HO180.out; subst eo11))
              repeat (go_quiet (first | (go_at_call 25; (with_reducible refine (fold_Words.calls (rdOf ByteArray.empty x10_1 x12_1) t178 _ A8.out).mono ?_); rintro e w10 ⟨v179, rfl, ho0, hb⟩; have n0_ := Aside0.mk (Kd.S_elder' (by (with_reducible repeat (first | apply Kd.S_alloc | apply Kd.S_drewN | apply Kd.S_drew)); exact HO_3.out) (Kd.R_base ho0) hb); have n1_ := Aside0.mk (Kd.R_elder' (by (with_reducible repeat (first | apply Kd.R_alloc | apply Kd.R_drewN | apply Kd.R_drew)); exact HO_10.out) (Kd.R_base ho0) hb); have n2_ := Aside0.mk (Kd.R_lower (Kd.R_new' ho0 (Kd.R_lt (by (with_reducible repeat (first | apply Kd.R_alloc | apply Kd.R_drewN | apply Kd.R_drew)); exact HO_10.out))) (below_size (by repeat (first | (with_reducible first | exact HB.out | apply below_alloc | apply pw_below_drewN | apply below_drew1) | exact HB.out)))); have n3_ := Aside0.mk (below_step (by repeat (first | (with_reducible first | exact HB.out | apply below_alloc | apply pw_below_drewN | apply below_drew1) | exact HB.out)) hb); clear HO_3; clear HO_10; clear HB; have HO_3 := n0_; have HO_10 := n1_; have HO180 := n2_; have HB := n3_; clear n0_ n1_ n2_ n3_; (try clear hb); (try clear hb2); (try clear hk); (try clear hi); (try clear ho0); obtain ⟨Ao11, co11, eo11⟩ := Kd.R_slice HO180.out; subst eo11)); try go_wp2_with (first | (go_step3) | (go_at_call 25; (with_reducible refine (fold_Words.calls (rdOf ByteArray.empty x10_1 x12_1) t178 _ A8.out).mono ?_); rintro e w10 ⟨v179, rfl, ho0, hb⟩; have n0_ := Aside0.mk (Kd.S_elder' (by (with_reducible repeat (first | apply Kd.S_alloc | apply Kd.S_drewN | apply Kd.S_drew)); exact HO_3.out) (Kd.R_base ho0) hb); have n1_ := Aside0.mk (Kd.R_elder' (by (with_reducible repeat (first | apply Kd.R_alloc | apply Kd.R_drewN | apply Kd.R_drew)); exact HO_10.out) (Kd.R_base ho0) hb); have n2_ := Aside0.mk (Kd.R_lower (Kd.R_new' ho0 (Kd.R_lt (by (with_reducible repeat (first | apply Kd.R_alloc | apply Kd.R_drewN | apply Kd.R_drew)); exact HO_10.out))) (below_size (by repeat (first | (with_reducible first | exact HB.out | apply below_alloc | apply pw_below_drewN | apply below_drew1) | exact HB.out)))); have n3_ := Aside0.mk (below_step (by repeat (first | (with_reducible first | exact HB.out | apply below_alloc | apply pw_below_drewN | apply below_drew1) | exact HB.out)) hb); clear HO_3; clear HO_10; clear HB; have HO_3 := n0_; have HO_10 := n1_; have HO180 := n2_; have HB := n3_; clear n0_ n1_ n2_ n3_; (try clear hb); (try clear hb2); (try clear hk); (try clear hi); (try clear ho0); obtain ⟨Ao11, co11, eo11⟩ := Kd.R_slice HO180.out; subst eo11)))
              (try simp only [← hl10_1])
              go_roundg k1
              case measure => have := HK1.out; omega
              case rel => exact ⟨(x3_1), (x10_1), (wrap64 (x12_1 + 1)), (by first | rfl | (simp; done) | (simp [*]; done)), H', ⟨by have := HK1.out; omega⟩, ⟨by (try simp only [hl10_1]); (with_reducible repeat (first | apply Kd.S_alloc | apply Kd.S_drewN | apply Kd.S_drew)); exact Kd.S_mono HO_3.out (fun _ hk => hk.1)⟩, ⟨by (try simp only [hl10_1]); (with_reducible repeat (first | apply Kd.R_alloc | apply Kd.R_drewN | apply Kd.R_drew)); exact Kd.R_mono HO_10.out (fun _ hk => trivial)⟩, ⟨by repeat (first | (with_reducible first | exact HB.out | apply below_alloc | apply pw_below_drewN | apply below_drew1) | exact HB.out)⟩⟩
            · rw [if_neg c9] at H
              have c9b0 : ((t178.length : Int) == 0) = false := beq_eq_false_iff_ne.mpr c9
              have c9b1 : ((t178.length : Int) != 0) = true := bne_iff_ne.mpr c9
              have c9b2 : ¬ (t178 = []) := fun h_ => c9 (by rw [h_]; rfl)
              (try (have c9h0 := c9b0; simp only [hl10_1] at c9h0))
              by_cases c12 : 0 < (t178.length : Int)
              · rw [if_pos c12] at H
                have c12b0 : decide (0 < (t178.length : Int)) = true := decide_eq_true c12
                have c12b1 : decide (0 < t178.length) = true := decide_eq_true (by omega)
                (try (have c12h0 := c12b0; simp only [hl10_1] at c12h0))
                clear c12
                replace H := Option.bind_eq_some_iff.mp H
                obtain ⟨t182, A130, H⟩ := H
                replace H : (header_Parts.l1 k1 x3_1 (t178.set (0 : Int).toNat t182) x10_1 (t174.length : Int) x12_1 x3_1 (x3_1.length : Int) 0) = some r := H
                have A13 := Aside0.mk A130
                clear A130
                obtain ⟨y183, hy183⟩ : ∃ y_ : List ByteArray, y_ = (t178.set (0 : Int).toNat t182) := ⟨_, rfl⟩
                replace H : (header_Parts.l1 k1 x3_1 y183 x10_1 (t174.length : Int) x12_1 x3_1 (x3_1.length : Int) 0) = some r := by first | (rw [hy183]; with_reducible exact H) | (have H2_ := (Option.bind_some _ _).symm.trans H; rw [hy183]; with_reducible exact H2_) | (have H2_ := (Option.bind_some _ _).symm.trans H; with_reducible exact H2_) | with_reducible exact H | (rw [hy183]; exact H) | exact H
                have Ny183 := Aside0.mk hy183
                clear hy183
                have H' := Aside0.mk H
                clear H
                have p177 : 0 ≤ (x12_1 : Int) := of_decide_eq_true (by first | (with_reducible assumption) | assumption)
                have q177 : x12_1 < (x10_1.length : Int) := of_decide_eq_true (by first | (with_reducible assumption) | assumption)
                obtain ⟨ad177, e177, hx177_0⟩ := Kd.at_string (Kd.R_reads' HO_10.out).2.2 x12_1 p177 q177
                cases e177
                replace p177 := eq_true p177
                replace q177 := eq_true q177
                go_wp2_with (first | (go_step3) | (go_at_call 25; (with_reducible refine (fold_Words.calls (rdOf ByteArray.empty x10_1 x12_1) t178 _ A8.out).mono ?_); rintro e w15 ⟨v179, rfl, ho0, hb⟩; have n0_ := Aside0.mk (Kd.S_elder' (by (with_reducible repeat (first | apply Kd.S_alloc | apply Kd.S_drewN | apply Kd.S_drew)); exact HO_3.out) (Kd.R_base ho0) hb); have n1_ := Aside0.mk (Kd.R_elder' (by (with_reducible repeat (first | apply Kd.R_alloc | apply Kd.R_drewN | apply Kd.R_drew)); exact HO_10.out) (Kd.R_base ho0) hb); have n2_ := Aside0.mk (Kd.R_lower (Kd.R_new' ho0 (Kd.R_lt (by (with_reducible repeat (first | apply Kd.R_alloc | apply Kd.R_drewN | apply Kd.R_drew)); exact HO_10.out))) (below_size (by repeat (first | (with_reducible first | exact HB.out | apply below_alloc | apply pw_below_drewN | apply below_drew1) | exact HB.out)))); have n3_ := Aside0.mk (below_step (by repeat (first | (with_reducible first | exact HB.out | apply below_alloc | apply pw_below_drewN | apply below_drew1) | exact HB.out)) hb); clear HO_3; clear HO_10; clear HB; have HO_3 := n0_; have HO_10 := n1_; have HO180 := n2_; have HB := n3_; clear n0_ n1_ n2_ n3_; (try clear hb); (try clear hb2); (try clear hk); (try clear hi); (try clear ho0); obtain ⟨Ao16, co16, eo16⟩ := Kd.R_slice HO180.out; subst eo16; have p181 : 0 ≤ (0 : Int) := (by omega); have q181 : 0 < (t178.length : Int) := of_decide_eq_true (by first | (with_reducible assumption) | assumption); obtain ⟨ad181, e181, hx181_0⟩ := Kd.at_string (Kd.R_reads' HO180.out).2.2 0 p181 q181; cases e181; have qi181 : (0 < t178.length) = True := eq_true (by omega); (try rw [show ((0 : Int)).toNat = 0 from rfl] at hx181_0); (try rw [Addr.add_zero'] at hx181_0); replace p181 := eq_true p181; replace q181 := eq_true q181) | (go_at_call 26; (with_reducible refine (fold_Lower.calls (rdOf ByteArray.empty t178 0) t182 _ A13.out).mono ?_); rintro e w17 ⟨rfl, hb⟩; have n0_ := Aside0.mk (Kd.S_below (by (with_reducible repeat (first | apply Kd.S_alloc | apply Kd.S_drewN | apply Kd.S_drew)); exact HO_3.out) hb); have n1_ := Aside0.mk (Kd.R_below (by (with_reducible repeat (first | apply Kd.R_alloc | apply Kd.R_drewN | apply Kd.R_drew)); exact HO_10.out) hb); have n2_ := Aside0.mk (Kd.R_below (by (with_reducible repeat (first | apply Kd.R_alloc | apply Kd.R_drewN | apply Kd.R_drew)); exact HO180.out) hb); have n3_ := Aside0.mk (below_step (by repeat (first | (with_reducible first | exact HB.out | apply below_alloc | apply pw_below_drewN | apply below_drew1) | exact HB.out)) hb); clear HO_3; clear HO_10; clear HO180; clear HB; have HO_3 := n0_; have HO_10 := n1_; have HO180 := n2_; have HB := n3_; clear n0_ n1_ n2_ n3_; (try clear hb); (try clear hb2); (try clear hk); (try clear hi); have p14 : 0 ≤ (0 : Int) := (by omega); have q14 : (0 : Int) < ((t178.length : Int) : Int) := of_decide_eq_true (by first | (with_reducible assumption) | assumption); have qi14 : (0 < t178.length) = True := eq_true (by omega); obtain ⟨go14, co14, eo14, gb14, gl14, cl14, HG14⟩ := Kd.R_form HO180.out (by omega); (first | cases eo14 | (injection eo14 with ea_ en_ ec_; (first | subst ea_ | (injection ea_ with ea_; subst ea_)); subst ec_; clear en_)); have GB14 := Aside0.mk gb14; have GG14 := Aside0.mk HG14; clear gb14 gl14 HG14; (first | simp only [add_plain] at hx181_0 | skip); obtain ⟨hx14_0, hf14_0⟩ := Kd.R_celln (⟨#[]⟩ : ByteArray) HO180.out (0 : Int) p14 q14; (try rw [show ((0 : Int)).toNat = 0 from rfl] at hx14_0); (try simp only [Nat.reduceMul, Nat.zero_mul, Nat.zero_add, Nat.reduceAdd] at hx14_0); (try rw [show ((0 : Int)).toNat = 0 from rfl] at hf14_0); (try simp only [Nat.reduceMul, Nat.zero_mul, Nat.zero_add, Nat.reduceAdd] at hf14_0); replace p14 := eq_true p14; replace q14 := eq_true q14; have n_ := Aside0.mk (Kd.R_mono (ok' := (fun k_ => some k_ ≠ (.slice (some ad177) x10_1.length co4 : Value).ownBlock)) HO180.out (fun k_ hk => hk.2)); clear HO180; have HO180 := n_; clear n_; obtain ⟨hy18_, hz18_⟩ := Kd.R_celln (⟨#[]⟩ : ByteArray) HO180.out (0 : Int) (by omega) (of_decide_eq_true (by first | (with_reducible assumption) | assumption)); (try simp only [Int.reduceToNat, Int.toNat_zero, Int.toNat_ofNat, Nat.reduceMul, Nat.zero_mul, Nat.zero_add] at hy18_ hz18_); (try rw [show ((0 : Int)).toNat = 0 from rfl] at hy18_); (try rw [show ((0 : Int)).toNat = 0 from rfl] at hz18_); have HP18 := Kd.R_putg HO180.out (0 : Int) t182) | ((with_reducible refine gate_store (t := 9) (p := 26) rfl ?_); (try (rw [drewN_self w17]; generalize hq_ : World.drewN w17 _ = w17; have n0_ := Aside0.mk (Kd.S_at hq_ HO_3.out); have n1_ := Aside0.mk (Kd.R_at hq_ HO_10.out); have n2_ := Aside0.mk (Kd.R_at hq_ HO180.out); have n3_ := Aside0.mk (below_at hq_ HB.out); clear hq_ HO_3 HO_10 HO180 HB; have HO_3 := n0_; have HO_10 := n1_; have HO180 := n2_; have HB := n3_; clear n0_ n1_ n2_ n3_; (try (have n_ := Aside0.mk (Kd.R_mono (ok' := (fun k_ => some k_ ≠ (.slice (some ad177) x10_1.length co4 : Value).ownBlock)) HO180.out (fun k_ hk => hk.2)); clear HO180; have HO180 := n_; clear n_)); (try (obtain ⟨hy18_, hz18_⟩ := Kd.R_celln (⟨#[]⟩ : ByteArray) HO180.out (0 : Int) (by omega) (of_decide_eq_true (by first | (with_reducible assumption) | assumption)))); (try (try simp only [Int.reduceToNat, Int.toNat_zero, Int.toNat_ofNat, Nat.reduceMul, Nat.zero_mul, Nat.zero_add] at hy18_ hz18_)); (try (try rw [show ((0 : Int)).toNat = 0 from rfl] at hy18_)); (try (try rw [show ((0 : Int)).toNat = 0 from rfl] at hz18_)); (try (have HP18 := Kd.R_putg HO180.out (0 : Int) t182)))); refine store_event (t := 9) (p := 26) (v := ?vo_w19) (w1 := (w17.setCell ⟨go14, (0 : Int).toNat, none⟩ (.string t182))) ?hg ?ho ?hn ?hr ?_; (case ho => rfl); (case hg => rfl); (case hn => rfl); (case hr => first | (go_simp; done) | (go_simp; rfl)); intro w19 hw; have hg : w17.grownBy w19 (some go14) := (by rw [hw]; exact HP18.2); have hp_ : Kd.R Kd.string 9 w19 w.heap.size (fun k_ => some k_ ≠ (.slice (some ad177) x10_1.length co4 : Value).ownBlock) (.slice (some ⟨go14, 0, none⟩) t178.length co16) y183 := (by rw [hw, Ny183.out]; exact HP18.1); clear HP18; have n0_ := Aside0.mk (Kd.S_after (v := (.slice (some ⟨go14, 0, none⟩) t178.length co16)) (v1 := (.slice (some ⟨go14, 0, none⟩) t178.length co16)) (ok := (fun k_ => some k_ ≠ (.slice (some ad177) x10_1.length co4 : Value).ownBlock)) (by (with_reducible repeat (first | apply Kd.S_alloc | apply Kd.S_drewN | apply Kd.S_drew)); exact HO_3.out) hg (.inl rfl)); have n1_ := Aside0.mk (Kd.R_after (v := (.slice (some ⟨go14, 0, none⟩) t178.length co16)) (v1 := (.slice (some ⟨go14, 0, none⟩) t178.length co16)) (ok := (fun _ => True)) (by (with_reducible repeat (first | apply Kd.R_alloc | apply Kd.R_drewN | apply Kd.R_drew)); exact HO_10.out) hg (.inl rfl)); have n2_ := Aside0.mk (hp_); have n3_ := Aside0.mk ((by rw [hw]; exact below_set (HB.out) GB14.out : Below w.heap.size w w19)); clear HO_3; clear HO_10; clear HO180; clear HB; have HO_3 := n0_; have HO_10 := n1_; have HO180 := n2_; have HB := n3_; clear n0_ n1_ n2_ n3_; clear hg hw hp_; obtain ⟨Ao20, co20, eo20⟩ := Kd.S_slice HO_3.out; subst eo20))
                repeat (go_quiet (first | (go_at_call 25; (with_reducible refine (fold_Words.calls (rdOf ByteArray.empty x10_1 x12_1) t178 _ A8.out).mono ?_); rintro e w15 ⟨v179, rfl, ho0, hb⟩; have n0_ := Aside0.mk (Kd.S_elder' (by (with_reducible repeat (first | apply Kd.S_alloc | apply Kd.S_drewN | apply Kd.S_drew)); exact HO_3.out) (Kd.R_base ho0) hb); have n1_ := Aside0.mk (Kd.R_elder' (by (with_reducible repeat (first | apply Kd.R_alloc | apply Kd.R_drewN | apply Kd.R_drew)); exact HO_10.out) (Kd.R_base ho0) hb); have n2_ := Aside0.mk (Kd.R_lower (Kd.R_new' ho0 (Kd.R_lt (by (with_reducible repeat (first | apply Kd.R_alloc | apply Kd.R_drewN | apply Kd.R_drew)); exact HO_10.out))) (below_size (by repeat (first | (with_reducible first | exact HB.out | apply below_alloc | apply pw_below_drewN | apply below_drew1) | exact HB.out)))); have n3_ := Aside0.mk (below_step (by repeat (first | (with_reducible first | exact HB.out | apply below_alloc | apply pw_below_drewN | apply below_drew1) | exact HB.out)) hb); clear HO_3; clear HO_10; clear HB; have HO_3 := n0_; have HO_10 := n1_; have HO180 := n2_; have HB := n3_; clear n0_ n1_ n2_ n3_; (try clear hb); (try clear hb2); (try clear hk); (try clear hi); (try clear ho0); obtain ⟨Ao16, co16, eo16⟩ := Kd.R_slice HO180.out; subst eo16; have p181 : 0 ≤ (0 : Int) := (by omega); have q181 : 0 < (t178.length : Int) := of_decide_eq_true (by first | (with_reducible assumption) | assumption); obtain ⟨ad181, e181, hx181_0⟩ := Kd.at_string (Kd.R_reads' HO180.out).2.2 0 p181 q181; cases e181; have qi181 : (0 < t178.length) = True := eq_true (by omega); (try rw [show ((0 : Int)).toNat = 0 from rfl] at hx181_0); (try rw [Addr.add_zero'] at hx181_0); replace p181 := eq_true p181; replace q181 := eq_true q181) | (go_at_call 26; (with_reducible refine (fold_Lower.calls (rdOf ByteArray.empty t178 0) t182 _ A13.out).mono ?_); rintro e w17 ⟨rfl, hb⟩; have n0_ := Aside0.mk (Kd.S_below (by (with_reducible repeat (first | apply Kd.S_alloc | apply Kd.S_drewN | apply Kd.S_drew)); exact HO_3.out) hb); have n1_ := Aside0.mk (Kd.R_below (by (with_reducible repeat (first | apply Kd.R_alloc | apply Kd.R_drewN | apply Kd.R_drew)); exact HO_10.out) hb); have n2_ := Aside0.mk (Kd.R_below (by (with_reducible repeat (first | apply Kd.R_alloc | apply Kd.R_drewN | apply Kd.R_drew)); exact HO180.out) hb); have n3_ := Aside0.mk (below_step (by repeat (first | (with_reducible first | exact HB.out | apply below_alloc | apply pw_below_drewN | apply below_drew1) | exact HB.out)) hb); clear HO_3; clear HO_10; clear HO180; clear HB; have HO_3 := n0_; have HO_10 := n1_; have HO180 := n2_; have HB := n3_; clear n0_ n1_ n2_ n3_; (try clear hb); (try clear hb2); (try clear hk); (try clear hi); have p14 : 0 ≤ (0 : Int) := (by omega); have q14 : (0 : Int) < ((t178.length : Int) : Int) := of_decide_eq_true (by first | (with_reducible assumption) | assumption); have qi14 : (0 < t178.length) = True := eq_true (by omega); obtain ⟨go14, co14, eo14, gb14, gl14, cl14, HG14⟩ := Kd.R_form HO180.out (by omega); (first | cases eo14 | (injection eo14 with ea_ en_ ec_; (first | subst ea_ | (injection ea_ with ea_; subst ea_)); subst ec_; clear en_)); have GB14 := Aside0.mk gb14; have GG14 := Aside0.mk HG14; clear gb14 gl14 HG14; (first | simp only [add_plain] at hx181_0 | skip); obtain ⟨hx14_0, hf14_0⟩ := Kd.R_celln (⟨#[]⟩ : ByteArray) HO180.out (0 : Int) p14 q14; (try rw [show ((0 : Int)).toNat = 0 from rfl] at hx14_0); (try simp only [Nat.reduceMul, Nat.zero_mul, Nat.zero_add, Nat.reduceAdd] at hx14_0); (try rw [show ((0 : Int)).toNat = 0 from rfl] at hf14_0); (try simp only [Nat.reduceMul, Nat.zero_mul, Nat.zero_add, Nat.reduceAdd] at hf14_0); replace p14 := eq_true p14; replace q14 := eq_true q14; have n_ := Aside0.mk (Kd.R_mono (ok' := (fun k_ => some k_ ≠ (.slice (some ad177) x10_1.length co4 : Value).ownBlock)) HO180.out (fun k_ hk => hk.2)); clear HO180; have HO180 := n_; clear n_; obtain ⟨hy18_, hz18_⟩ := Kd.R_celln (⟨#[]⟩ : ByteArray) HO180.out (0 : Int) (by omega) (of_decide_eq_true (by first | (with_reducible assumption) | assumption)); (try simp only [Int.reduceToNat, Int.toNat_zero, Int.toNat_ofNat, Nat.reduceMul, Nat.zero_mul, Nat.zero_add] at hy18_ hz18_); (try rw [show ((0 : Int)).toNat = 0 from rfl] at hy18_); (try rw [show ((0 : Int)).toNat = 0 from rfl] at hz18_); have HP18 := Kd.R_putg HO180.out (0 : Int) t182) | ((with_reducible refine gate_store (t := 9) (p := 26) rfl ?_); (try (rw [drewN_self w17]; generalize hq_ : World.drewN w17 _ = w17; have n0_ := Aside0.mk (Kd.S_at hq_ HO_3.out); have n1_ := Aside0.mk (Kd.R_at hq_ HO_10.out); have n2_ := Aside0.mk (Kd.R_at hq_ HO180.out); have n3_ := Aside0.mk (below_at hq_ HB.out); clear hq_ HO_3 HO_10 HO180 HB; have HO_3 := n0_; have HO_10 := n1_; have HO180 := n2_; have HB := n3_; clear n0_ n1_ n2_ n3_; (try (have n_ := Aside0.mk (Kd.R_mono (ok' := (fun k_ => some k_ ≠ (.slice (some ad177) x10_1.length co4 : Value).ownBlock)) HO180.out (fun k_ hk => hk.2)); clear HO180; have HO180 := n_; clear n_)); (try (obtain ⟨hy18_, hz18_⟩ := Kd.R_celln (⟨#[]⟩ : ByteArray) HO180.out (0 : Int) (by omega) (of_decide_eq_true (by first | (with_reducible assumption) | assumption)))); (try (try simp only [Int.reduceToNat, Int.toNat_zero, Int.toNat_ofNat, Nat.reduceMul, Nat.zero_mul, Nat.zero_add] at hy18_ hz18_)); (try (try rw [show ((0 : Int)).toNat = 0 from rfl] at hy18_)); (try (try rw [show ((0 : Int)).toNat = 0 from rfl] at hz18_)); (try (have HP18 := Kd.R_putg HO180.out (0 : Int) t182)))); refine store_event (t := 9) (p := 26) (v := ?vo_w19) (w1 := (w17.setCell ⟨go14, (0 : Int).toNat, none⟩ (.string t182))) ?hg ?ho ?hn ?hr ?_; (case ho => rfl); (case hg => rfl); (case hn => rfl); (case hr => first | (go_simp; done) | (go_simp; rfl)); intro w19 hw; have hg : w17.grownBy w19 (some go14) := (by rw [hw]; exact HP18.2); have hp_ : Kd.R Kd.string 9 w19 w.heap.size (fun k_ => some k_ ≠ (.slice (some ad177) x10_1.length co4 : Value).ownBlock) (.slice (some ⟨go14, 0, none⟩) t178.length co16) y183 := (by rw [hw, Ny183.out]; exact HP18.1); clear HP18; have n0_ := Aside0.mk (Kd.S_after (v := (.slice (some ⟨go14, 0, none⟩) t178.length co16)) (v1 := (.slice (some ⟨go14, 0, none⟩) t178.length co16)) (ok := (fun k_ => some k_ ≠ (.slice (some ad177) x10_1.length co4 : Value).ownBlock)) (by (with_reducible repeat (first | apply Kd.S_alloc | apply Kd.S_drewN | apply Kd.S_drew)); exact HO_3.out) hg (.inl rfl)); have n1_ := Aside0.mk (Kd.R_after (v := (.slice (some ⟨go14, 0, none⟩) t178.length co16)) (v1 := (.slice (some ⟨go14, 0, none⟩) t178.length co16)) (ok := (fun _ => True)) (by (with_reducible repeat (first | apply Kd.R_alloc | apply Kd.R_drewN | apply Kd.R_drew)); exact HO_10.out) hg (.inl rfl)); have n2_ := Aside0.mk (hp_); have n3_ := Aside0.mk ((by rw [hw]; exact below_set (HB.out) GB14.out : Below w.heap.size w w19)); clear HO_3; clear HO_10; clear HO180; clear HB; have HO_3 := n0_; have HO_10 := n1_; have HO180 := n2_; have HB := n3_; clear n0_ n1_ n2_ n3_; clear hg hw hp_; obtain ⟨Ao20, co20, eo20⟩ := Kd.S_slice HO_3.out; subst eo20)); try go_wp2_with (first | (go_step3) | (go_at_call 25; (with_reducible refine (fold_Words.calls (rdOf ByteArray.empty x10_1 x12_1) t178 _ A8.out).mono ?_); rintro e w15 ⟨v179, rfl, ho0, hb⟩; have n0_ := Aside0.mk (Kd.S_elder' (by (with_reducible repeat (first | apply Kd.S_alloc | apply Kd.S_drewN | apply Kd.S_drew)); exact HO_3.out) (Kd.R_base ho0) hb); have n1_ := Aside0.mk (Kd.R_elder' (by (with_reducible repeat (first | apply Kd.R_alloc | apply Kd.R_drewN | apply Kd.R_drew)); exact HO_10.out) (Kd.R_base ho0) hb); have n2_ := Aside0.mk (Kd.R_lower (Kd.R_new' ho0 (Kd.R_lt (by (with_reducible repeat (first | apply Kd.R_alloc | apply Kd.R_drewN | apply Kd.R_drew)); exact HO_10.out))) (below_size (by repeat (first | (with_reducible first | exact HB.out | apply below_alloc | apply pw_below_drewN | apply below_drew1) | exact HB.out)))); have n3_ := Aside0.mk (below_step (by repeat (first | (with_reducible first | exact HB.out | apply below_alloc | apply pw_below_drewN | apply below_drew1) | exact HB.out)) hb); clear HO_3; clear HO_10; clear HB; have HO_3 := n0_; have HO_10 := n1_; have HO180 := n2_; have HB := n3_; clear n0_ n1_ n2_ n3_; (try clear hb); (try clear hb2); (try clear hk); (try clear hi); (try clear ho0); obtain ⟨Ao16, co16, eo16⟩ := Kd.R_slice HO180.out; subst eo16; have p181 : 0 ≤ (0 : Int) := (by omega); have q181 : 0 < (t178.length : Int) := of_decide_eq_true (by first | (with_reducible assumption) | assumption); obtain ⟨ad181, e181, hx181_0⟩ := Kd.at_string (Kd.R_reads' HO180.out).2.2 0 p181 q181; cases e181; have qi181 : (0 < t178.length) = True := eq_true (by omega); (try rw [show ((0 : Int)).toNat = 0 from rfl] at hx181_0); (try rw [Addr.add_zero'] at hx181_0); replace p181 := eq_true p181; replace q181 := eq_true q181) | (go_at_call 26; (with_reducible refine (fold_Lower.calls (rdOf ByteArray.empty t178 0) t182 _ A13.out).mono ?_); rintro e w17 ⟨rfl, hb⟩; have n0_ := Aside0.mk (Kd.S_below (by (with_reducible repeat (first | apply Kd.S_alloc | apply Kd.S_drewN | apply Kd.S_drew)); exact HO_3.out) hb); have n1_ := Aside0.mk (Kd.R_below (by (with_reducible repeat (first | apply Kd.R_alloc | apply Kd.R_drewN | apply Kd.R_drew)); exact HO_10.out) hb); have n2_ := Aside0.mk (Kd.R_below (by (with_reducible repeat (first | apply Kd.R_alloc | apply Kd.R_drewN | apply Kd.R_drew)); exact HO180.out) hb); have n3_ := Aside0.mk (below_step (by repeat (first | (with_reducible first | exact HB.out | apply below_alloc | apply pw_below_drewN | apply below_drew1) | exact HB.out)) hb); clear HO_3; clear HO_10; clear HO180; clear HB; have HO_3 := n0_; have HO_10 := n1_; have HO180 := n2_; have HB := n3_; clear n0_ n1_ n2_ n3_; (try clear hb); (try clear hb2); (try clear hk); (try clear hi); have p14 : 0 ≤ (0 : Int) := (by omega); have q14 : (0 : Int) < ((t178.length : Int) : Int) := of_decide_eq_true (by first | (with_reducible assumption) | assumption); have qi14 : (0 < t178.length) = True := eq_true (by omega); obtain ⟨go14, co14, eo14, gb14, gl14, cl14, HG14⟩ := Kd.R_form HO180.out (by omega); (first | cases eo14 | (injection eo14 with ea_ en_ ec_; (first | subst ea_ | (injection ea_ with ea_; subst ea_)); subst ec_; clear en_)); have GB14 := Aside0.mk gb14; have GG14 := Aside0.mk HG14; clear gb14 gl14 HG14; (first | simp only [add_plain] at hx181_0 | skip); obtain ⟨hx14_0, hf14_0⟩ := Kd.R_celln (⟨#[]⟩ : ByteArray) HO180.out (0 : Int) p14 q14; (try rw [show ((0 : Int)).toNat = 0 from rfl] at hx14_0); (try simp only [Nat.reduceMul, Nat.zero_mul, Nat.zero_add, Nat.reduceAdd] at hx14_0); (try rw [show ((0 : Int)).toNat = 0 from rfl] at hf14_0); (try simp only [Nat.reduceMul, Nat.zero_mul, Nat.zero_add, Nat.reduceAdd] at hf14_0); replace p14 := eq_true p14; replace q14 := eq_true q14; have n_ := Aside0.mk (Kd.R_mono (ok' := (fun k_ => some k_ ≠ (.slice (some ad177) x10_1.length co4 : Value).ownBlock)) HO180.out (fun k_ hk => hk.2)); clear HO180; have HO180 := n_; clear n_; obtain ⟨hy18_, hz18_⟩ := Kd.R_celln (⟨#[]⟩ : ByteArray) HO180.out (0 : Int) (by omega) (of_decide_eq_true (by first | (with_reducible assumption) | assumption)); (try simp only [Int.reduceToNat, Int.toNat_zero, Int.toNat_ofNat, Nat.reduceMul, Nat.zero_mul, Nat.zero_add] at hy18_ hz18_); (try rw [show ((0 : Int)).toNat = 0 from rfl] at hy18_); (try rw [show ((0 : Int)).toNat = 0 from rfl] at hz18_); have HP18 := Kd.R_putg HO180.out (0 : Int) t182) | ((with_reducible refine gate_store (t := 9) (p := 26) rfl ?_); (try (rw [drewN_self w17]; generalize hq_ : World.drewN w17 _ = w17; have n0_ := Aside0.mk (Kd.S_at hq_ HO_3.out); have n1_ := Aside0.mk (Kd.R_at hq_ HO_10.out); have n2_ := Aside0.mk (Kd.R_at hq_ HO180.out); have n3_ := Aside0.mk (below_at hq_ HB.out); clear hq_ HO_3 HO_10 HO180 HB; have HO_3 := n0_; have HO_10 := n1_; have HO180 := n2_; have HB := n3_; clear n0_ n1_ n2_ n3_; (try (have n_ := Aside0.mk (Kd.R_mono (ok' := (fun k_ => some k_ ≠ (.slice (some ad177) x10_1.length co4 : Value).ownBlock)) HO180.out (fun k_ hk => hk.2)); clear HO180; have HO180 := n_; clear n_)); (try (obtain ⟨hy18_, hz18_⟩ := Kd.R_celln (⟨#[]⟩ : ByteArray) HO180.out (0 : Int) (by omega) (of_decide_eq_true (by first | (with_reducible assumption) | assumption)))); (try (try simp only [Int.reduceToNat, Int.toNat_zero, Int.toNat_ofNat, Nat.reduceMul, Nat.zero_mul, Nat.zero_add] at hy18_ hz18_)); (try (try rw [show ((0 : Int)).toNat = 0 from rfl] at hy18_)); (try (try rw [show ((0 : Int)).toNat = 0 from rfl] at hz18_)); (try (have HP18 := Kd.R_putg HO180.out (0 : Int) t182)))); refine store_event (t := 9) (p := 26) (v := ?vo_w19) (w1 := (w17.setCell ⟨go14, (0 : Int).toNat, none⟩ (.string t182))) ?hg ?ho ?hn ?hr ?_; (case ho => rfl); (case hg => rfl); (case hn => rfl); (case hr => first | (go_simp; done) | (go_simp; rfl)); intro w19 hw; have hg : w17.grownBy w19 (some go14) := (by rw [hw]; exact HP18.2); have hp_ : Kd.R Kd.string 9 w19 w.heap.size (fun k_ => some k_ ≠ (.slice (some ad177) x10_1.length co4 : Value).ownBlock) (.slice (some ⟨go14, 0, none⟩) t178.length co16) y183 := (by rw [hw, Ny183.out]; exact HP18.1); clear HP18; have n0_ := Aside0.mk (Kd.S_after (v := (.slice (some ⟨go14, 0, none⟩) t178.length co16)) (v1 := (.slice (some ⟨go14, 0, none⟩) t178.length co16)) (ok := (fun k_ => some k_ ≠ (.slice (some ad177) x10_1.length co4 : Value).ownBlock)) (by (with_reducible repeat (first | apply Kd.S_alloc | apply Kd.S_drewN | apply Kd.S_drew)); exact HO_3.out) hg (.inl rfl)); have n1_ := Aside0.mk (Kd.R_after (v := (.slice (some ⟨go14, 0, none⟩) t178.length co16)) (v1 := (.slice (some ⟨go14, 0, none⟩) t178.length co16)) (ok := (fun _ => True)) (by (with_reducible repeat (first | apply Kd.R_alloc | apply Kd.R_drewN | apply Kd.R_drew)); exact HO_10.out) hg (.inl rfl)); have n2_ := Aside0.mk (hp_); have n3_ := Aside0.mk ((by rw [hw]; exact below_set (HB.out) GB14.out : Below w.heap.size w w19)); clear HO_3; clear HO_10; clear HO180; clear HB; have HO_3 := n0_; have HO_10 := n1_; have HO180 := n2_; have HB := n3_; clear n0_ n1_ n2_ n3_; clear hg hw hp_; obtain ⟨Ao20, co20, eo20⟩ := Kd.S_slice HO_3.out; subst eo20)))
                go_loopg [29] k1 (fun kq v29 w' => ∃ (x29_2 : Int), v29 = .int .i64 x29_2 ∧ Aside0 (header_Parts.l1 kq x3_1 y183 x10_1 (t174.length : Int) x12_1 x3_1 (x3_1.length : Int) x29_2 = some r) ∧ Aside0 (kq ≤ k1) ∧ Aside0 (Kd.S (Kd.slice 9 Kd.string) 24 w' w.heap.size (fun k_ => some k_ ≠ ((.slice (some ⟨go14, 0, none⟩) t178.length co16) : Value).ownBlock ∧ some k_ ≠ ((.slice (some ad177) x10_1.length co4) : Value).ownBlock) (.slice Ao20 x3_1.length co20) x3_1) ∧ Aside0 (Kd.R Kd.string 9 w' w.heap.size (fun k_ => some k_ ≠ ((.slice (some ad177) x10_1.length co4) : Value).ownBlock) (.slice (some ⟨go14, 0, none⟩) t178.length co16) y183) ∧ Aside0 (Kd.R Kd.string 9 w' w.heap.size (fun k_ => some k_ ≠ ((.slice (some ⟨go14, 0, none⟩) t178.length co16) : Value).ownBlock) (.slice (some ad177) x10_1.length co4) x10_1) ∧ Aside0 (Kd.S (Kd.slice 9 Kd.string) 24 w' w.heap.size (fun k_ => some k_ ≠ ((.slice (some ⟨go14, 0, none⟩) t178.length co16) : Value).ownBlock ∧ some k_ ≠ ((.slice (some ad177) x10_1.length co4) : Value).ownBlock) (.slice Ao20 x3_1.length co20) x3_1) ∧ Aside0 (Below w.heap.size w w'))
                case atStart => exact ⟨(0), (by first | rfl | (simp; done) | (simp [*]; done)), H', ⟨Nat.le_refl _⟩, ⟨by (try simp only [hl10_1]); (with_reducible repeat (first | apply Kd.S_alloc | apply Kd.S_drewN | apply Kd.S_drew)); exact Kd.S_mono HO_3.out (fun _ hk => ⟨hk.2, hk.1⟩)⟩, ⟨by (try simp only [hl10_1]); (with_reducible repeat (first | apply Kd.R_alloc | apply Kd.R_drewN | apply Kd.R_drew)); exact HO180.out⟩, ⟨by (try simp only [hl10_1]); (with_reducible repeat (first | apply Kd.R_alloc | apply Kd.R_drewN | apply Kd.R_drew)); exact Kd.R_mono HO_10.out (fun _ hk => hk.2)⟩, ⟨by (try simp only [hl10_1]); (with_reducible repeat (first | apply Kd.S_alloc | apply Kd.S_drewN | apply Kd.S_drew)); exact Kd.S_mono HO_3.out (fun _ hk => ⟨hk.2, hk.1⟩)⟩, ⟨by repeat (first | (with_reducible first | exact HB.out | apply below_alloc | apply pw_below_drewN | apply below_drew1) | exact HB.out)⟩⟩
                case round =>
                  clear H'
                  try clear c1
                  try clear p1
                  try clear q1
                  try clear hx1
                  try clear qi1
                  try clear hf1
                  try clear p2
                  try clear c5
                  try clear c5b0
                  try clear c6
                  try clear c6b0
                  try clear p6
                  try clear c7
                  try clear c7b0
                  try clear c9
                  try clear c9b0
                  try clear c9b1
                  try clear c9b2
                  try clear c12
                  try clear c12b0
                  try clear c12b1
                  try clear p14
                  try clear q14
                  try clear hx14
                  try clear qi14
                  try clear hf14
                  try clear p17
                  try clear q17
                  try clear hx17
                  try clear p18
                  try clear q18
                  try clear hx18
                  try clear qi18
                  try clear hx14_0
                  try clear hx177_0
                  try clear hx181_0
                  try clear p14
                  try clear p177
                  try clear p181
                  try clear p2
                  try clear q14
                  try clear q177
                  try clear q181
                  obtain ⟨x29_2, rfl, HA, HK2, HO_3, HO_6, HO_10, HO_27, HB⟩ := hrel
                  have hl6_2 := (Kd.R_reads' HO_6.out).1
                  rw [hl6_2] at HO_6
                  (try simp only [hl6_2])
                  (try simp only [hl6_2] at HO_3)
                  (try simp only [hl6_2] at HO_10)
                  (try simp only [hl6_2] at HO_27)
                  cases gk with
                  | zero => exact absurd HA.out (by simp [header_Parts.l1])
                  | succ k2 =>
                    have H := HA.out
                    clear HA
                    simp only [header_Parts.l1] at H
                    by_cases c21 : x29_2 < (x3_1.length : Int)
                    · rw [if_pos c21] at H
                      have c21b0 : decide (x29_2 < (x3_1.length : Int)) = true := decide_eq_true c21
                      (try (have c21h0 := c21b0; simp only [hl10_1, hl6_2] at c21h0))
                      clear c21
                      by_cases c22 : 0 ≤ x29_2
                      · rw [if_pos c22] at H
                        have c22b0 : decide (0 ≤ x29_2) = true := decide_eq_true c22
                        clear c22
                        by_cases c23 : x29_2 < (x3_1.length : Int)
                        · rw [if_pos c23] at H
                          have c23b0 : decide (x29_2 < (x3_1.length : Int)) = true := decide_eq_true c23
                          (try (have c23h0 := c23b0; simp only [hl10_1, hl6_2] at c23h0))
                          clear c23
                          by_cases c24 : 0 < ((rd_L1 x3_1 x29_2).length : Int)
                          · rw [if_pos c24] at H
                            have c24b0 : decide (0 < ((rd_L1 x3_1 x29_2).length : Int)) = true := decide_eq_true c24
                            have c24b1 : decide (0 < (rd_L1 x3_1 x29_2).length) = true := decide_eq_true (by omega)
                            (try (have c24h0 := c24b0; simp only [hl10_1, hl6_2] at c24h0))
                            clear c24
                            by_cases c25 : 0 < (y183.length : Int)
                            · rw [if_pos c25] at H
                              have c25b0 : decide (0 < (y183.length : Int)) = true := decide_eq_true c25
                              have c25b1 : decide (0 < y183.length) = true := decide_eq_true (by omega)
                              (try (have c25h0 := c25b0; simp only [hl10_1, hl6_2] at c25h0))
                              clear c25
                              by_cases c26 : (rdOf ByteArray.empty (rd_L1 x3_1 x29_2) 0).toList = (rdOf ByteArray.empty y183 0).toList
                              · rw [if_pos c26] at H
                                have c26b0 : ((rdOf ByteArray.empty (rd_L1 x3_1 x29_2) 0).toList == (rdOf ByteArray.empty y183 0).toList) = true := beq_iff_eq.mpr c26
                                have c26b1 : ((rdOf ByteArray.empty (rd_L1 x3_1 x29_2) 0).toList != (rdOf ByteArray.empty y183 0).toList) = false := bne_eq_false_iff_eq.mpr c26
                                clear c26
                                have H' := Aside0.mk H
                                clear H
                                have p184 : 0 ≤ (x29_2 : Int) := of_decide_eq_true (by first | (with_reducible assumption) | assumption)
                                have q184 : x29_2 < (x3_1.length : Int) := of_decide_eq_true (by first | (with_reducible assumption) | assumption)
                                obtain ⟨ad184, A184_0, c184_0, e184, hx184_0, hl184_0, hi184_0⟩ := at_L1 (Kd.S_reads' HO_27.out).2.2 x29_2 p184 q184
                                cases e184
                                obtain ⟨ce184, hce184, hMe184, hcc184⟩ := Kd.S_get HO_27.out [] x29_2 p184 (by first | exact q184 | exact of_decide_eq_true (by first | (with_reducible assumption) | assumption) | (have e_ := (Kd.S_reads' HO_27.out).1; omega))
                                obtain ⟨ve184_0, rfl, ge184_0⟩ := hMe184
                                have hv184_0 := hcc184 0 _ rfl
                                rw [Nat.add_zero, show ((Kd.slice 9 Kd.string)).sz = 1 from rfl, Nat.mul_one] at hv184_0
                                replace hv184_0 := Option.some.inj (hv184_0.symm.trans hx184_0)
                                rw [hv184_0] at ge184_0
                                have HL184_0 := Aside0.mk (show Kd.R Kd.string 9 _ _ _ _ (rd_L1 x3_1 x29_2) from ge184_0)
                                clear hv184_0 ge184_0
                                clear hcc184 hce184
                                have HR184_0 := Aside0.mk hi184_0
                                have HC184_0 := Aside0.mk hl184_0
                                clear hi184_0 hl184_0
                                replace p184 := eq_true p184
                                replace q184 := eq_true q184
                                have p185 : 0 ≤ (0 : Int) := (by omega)
                                have q185 : 0 < ((rd_L1 x3_1 x29_2).length : Int) := of_decide_eq_true (by first | (with_reducible assumption) | assumption)
                                obtain ⟨ad185, e185, hx185_0⟩ := Kd.at_string (by repeat (first | (with_reducible exact HR184_0.out) | (with_reducible refine Kd.C_alloc ?_ _) | (with_reducible refine Kd.C_drewN ?_ _) | (with_reducible refine Kd.C_drew ?_) | exact HR184_0.out)) 0 p185 q185
                                cases e185
                                have qi185 : (0 < (rd_L1 x3_1 x29_2).length) = True := eq_true (by omega)
                                (try rw [show ((0 : Int)).toNat = 0 from rfl] at hx185_0)
                                (try rw [Addr.add_zero'] at hx185_0)
                                replace p185 := eq_true p185
                                replace q185 := eq_true q185
                                have p186 : 0 ≤ (0 : Int) := (by omega)
                                have q186 : 0 < (y183.length : Int) := of_decide_eq_true (by first | (with_reducible assumption) | assumption)
                                obtain ⟨ad186, e186, hx186_0⟩ := Kd.at_string (Kd.R_reads' HO_6.out).2.2 0 p186 q186
                                obtain rfl : (⟨go14, 0, none⟩ : Addr) = ad186 := (by injection e186)
                                (first | simp only [add_plain] at hx186_0 | simp only [add_at] at hx186_0 | simp only [Addr.add, Nat.zero_add] at hx186_0 | skip)
                                have qi186 : (0 < y183.length) = True := eq_true (by omega)
                                (try rw [show ((0 : Int)).toNat = 0 from rfl] at hx186_0)
                                (try rw [Addr.add_zero'] at hx186_0)
                                replace p186 := eq_true p186
                                replace q186 := eq_true q186
                                go_wp2_with (go_step3)
                                repeat (go_quiet (fail); try go_wp2_with (go_step3))
                                (try simp only [← hl10_1, ← hl6_2])
                                go_roundg k2
                                case measure => have := HK1.out; have := HK2.out; omega
                                case rel => exact ⟨(x3_1), (x10_1), (wrap64 (x12_1 + 1)), (by first | rfl | (simp; done) | (simp [*]; done)), H', ⟨by have := HK1.out; have := HK2.out; omega⟩, ⟨by (try simp only [hl10_1]); (try simp only [hl6_2]); (with_reducible repeat (first | apply Kd.S_alloc | apply Kd.S_drewN | apply Kd.S_drew)); exact Kd.S_mono HO_3.out (fun _ hk => hk.2)⟩, ⟨by (try simp only [hl10_1]); (try simp only [hl6_2]); (with_reducible repeat (first | apply Kd.R_alloc | apply Kd.R_drewN | apply Kd.R_drew)); exact Kd.R_mono HO_10.out (fun _ hk => trivial)⟩, ⟨by repeat (first | (with_reducible first | exact HB.out | apply below_alloc | apply pw_below_drewN | apply below_drew1) | exact HB.out)⟩⟩
                              · rw [if_neg c26] at H
                                have c26b0 : ((rdOf ByteArray.empty (rd_L1 x3_1 x29_2) 0).toList == (rdOf ByteArray.empty y183 0).toList) = false := beq_eq_false_iff_ne.mpr c26
                                have c26b1 : ((rdOf ByteArray.empty (rd_L1 x3_1 x29_2) 0).toList != (rdOf ByteArray.empty y183 0).toList) = true := bne_iff_ne.mpr c26
                                have H' := Aside0.mk H
                                clear H
                                have p184 : 0 ≤ (x29_2 : Int) := of_decide_eq_true (by first | (with_reducible assumption) | assumption)
                                have q184 : x29_2 < (x3_1.length : Int) := of_decide_eq_true (by first | (with_reducible assumption) | assumption)
                                obtain ⟨ad184, A184_0, c184_0, e184, hx184_0, hl184_0, hi184_0⟩ := at_L1 (Kd.S_reads' HO_27.out).2.2 x29_2 p184 q184
                                cases e184
                                obtain ⟨ce184, hce184, hMe184, hcc184⟩ := Kd.S_get HO_27.out [] x29_2 p184 (by first | exact q184 | exact of_decide_eq_true (by first | (with_reducible assumption) | assumption) | (have e_ := (Kd.S_reads' HO_27.out).1; omega))
                                obtain ⟨ve184_0, rfl, ge184_0⟩ := hMe184
                                have hv184_0 := hcc184 0 _ rfl
                                rw [Nat.add_zero, show ((Kd.slice 9 Kd.string)).sz = 1 from rfl, Nat.mul_one] at hv184_0
                                replace hv184_0 := Option.some.inj (hv184_0.symm.trans hx184_0)
                                rw [hv184_0] at ge184_0
                                have HL184_0 := Aside0.mk (show Kd.R Kd.string 9 _ _ _ _ (rd_L1 x3_1 x29_2) from ge184_0)
                                clear hv184_0 ge184_0
                                clear hcc184 hce184
                                have HR184_0 := Aside0.mk hi184_0
                                have HC184_0 := Aside0.mk hl184_0
                                clear hi184_0 hl184_0
                                replace p184 := eq_true p184
                                replace q184 := eq_true q184
                                have p185 : 0 ≤ (0 : Int) := (by omega)
                                have q185 : 0 < ((rd_L1 x3_1 x29_2).length : Int) := of_decide_eq_true (by first | (with_reducible assumption) | assumption)
                                obtain ⟨ad185, e185, hx185_0⟩ := Kd.at_string (by repeat (first | (with_reducible exact HR184_0.out) | (with_reducible refine Kd.C_alloc ?_ _) | (with_reducible refine Kd.C_drewN ?_ _) | (with_reducible refine Kd.C_drew ?_) | exact HR184_0.out)) 0 p185 q185
                                cases e185
                                have qi185 : (0 < (rd_L1 x3_1 x29_2).length) = True := eq_true (by omega)
                                (try rw [show ((0 : Int)).toNat = 0 from rfl] at hx185_0)
                                (try rw [Addr.add_zero'] at hx185_0)
                                replace p185 := eq_true p185
                                replace q185 := eq_true q185
                                have p186 : 0 ≤ (0 : Int) := (by omega)
                                have q186 : 0 < (y183.length : Int) := of_decide_eq_true (by first | (with_reducible assumption) | assumption)
                                obtain ⟨ad186, e186, hx186_0⟩ := Kd.at_string (Kd.R_reads' HO_6.out).2.2 0 p186 q186
                                obtain rfl : (⟨go14, 0, none⟩ : Addr) = ad186 := (by injection e186)
                                (first | simp only [add_plain] at hx186_0 | simp only [add_at] at hx186_0 | simp only [Addr.add, Nat.zero_add] at hx186_0 | skip)
                                have qi186 : (0 < y183.length) = True := eq_true (by omega)
                                (try rw [show ((0 : Int)).toNat = 0 from rfl] at hx186_0)
                                (try rw [Addr.add_zero'] at hx186_0)
                                replace p186 := eq_true p186
                                replace q186 := eq_true q186
                                go_wp2_with (go_step3)
                                repeat (go_quiet (fail); try go_wp2_with (go_step3))
                                (try simp only [← hl6_2])
                                go_roundg k2
                                case measure => have := HK1.out; have := HK2.out; omega
                                case rel => exact ⟨(wrap64 (x29_2 + 1)), (by first | rfl | (simp; done) | (simp [*]; done)), H', ⟨by have := HK1.out; have := HK2.out; omega⟩, ⟨by (try simp only [hl10_1]); (try simp only [hl6_2]); (with_reducible repeat (first | apply Kd.S_alloc | apply Kd.S_drewN | apply Kd.S_drew)); exact HO_3.out⟩, ⟨by (try simp only [hl10_1]); (try simp only [hl6_2]); (with_reducible repeat (first | apply Kd.R_alloc | apply Kd.R_drewN | apply Kd.R_drew)); exact HO_6.out⟩, ⟨by (try simp only [hl10_1]); (try simp only [hl6_2]); (with_reducible repeat (first | apply Kd.R_alloc | apply Kd.R_drewN | apply Kd.R_drew)); exact HO_10.out⟩, ⟨by (try simp only [hl10_1]); (try simp only [hl6_2]); (with_reducible repeat (first | apply Kd.S_alloc | apply Kd.S_drewN | apply Kd.S_drew)); exact HO_27.out⟩, ⟨by repeat (first | (with_reducible first | exact HB.out | apply below_alloc | apply pw_below_drewN | apply below_drew1) | exact HB.out)⟩⟩
                            · rw [if_neg c25] at H
                              exact absurd H (by simp)
                          · rw [if_neg c24] at H
                            exact absurd H (by simp)
                        · rw [if_neg c23] at H
                          exact absurd H (by simp)
                      · rw [if_neg c22] at H
                        exact absurd H (by simp)
                    · rw [if_neg c21] at H
                      have c21b0 : decide (x29_2 < (x3_1.length : Int)) = false := decide_eq_false c21
                      (try (have c21h0 := c21b0; simp only [hl10_1, hl6_2] at c21h0))
                      clear c21
                      by_cases c27 : x3_1.length < 5864062014805
                      · rw [if_pos c27] at H
                        have LMc27 := Aside0.mk c27
                        clear c27
                        obtain ⟨y187, hy187⟩ : ∃ y_ : List (List ByteArray), y_ = (x3_1 ++ [y183]) := ⟨_, rfl⟩
                        replace H : (header_Parts.l0 k2 y187 x10_1 (t174.length : Int) (wrap64 (x12_1 + 1))) = some r := by first | (rw [hy187]; with_reducible exact H) | (have H2_ := (Option.bind_some _ _).symm.trans H; rw [hy187]; with_reducible exact H2_) | (have H2_ := (Option.bind_some _ _).symm.trans H; with_reducible exact H2_) | with_reducible exact H | (rw [hy187]; exact H) | exact H
                        have Ny187 := Aside0.mk hy187
                        clear hy187
                        have H' := Aside0.mk H
                        clear H
                        go_wp2_with (first | (go_step3) | ((with_reducible refine gate_builtin (b := .append) (xs := #[.tmp 41, .tmp 43]) rfl ?_); at_builtin; refine Kd.S_append (Kd.slice 9 Kd.string) (w0 := w) w.heap.size rfl (.tmp 41) (.tmp 43) 22 24 (.slice none 0 0) 24 rfl Tryd.underlying22 info24 rfl (by decide) (by omega) (.slice Ao20 x3_1.length co20) x3_1 y183 [.slice (some ⟨go14, 0, none⟩) y183.length co16] (fun k_ => some k_ ≠ (.slice (some ad177) x10_1.length co4 : Value).ownBlock) (fun k_ => some k_ = (.slice (some ⟨go14, 0, none⟩) y183.length co16 : Value).ownBlock) rfl rfl ?aP (fun k_ hk_ => ((Kd.R_mono (ok' := fun k_ => ((fun k_ => some k_ ≠ (.slice (some ad177) x10_1.length co4 : Value).ownBlock)) k_ ∧ some k_ ≠ (.slice Ao20 x3_1.length co20 : Value).ownBlock) (Kd.R_apart' (HO_6.out) (Kd.S_typed HO_3.out) (by decide)) (fun k_ hk => ⟨hk.1, hk.2⟩))).1 k_ hk_.symm) ?aF ?aO ?aB ?aS ?aL ?_; (case aP => exact Kd.M_row (Kd.R_mono (Kd.R_tight rfl (Kd.R_mono (ok' := fun k_ => ((fun k_ => some k_ ≠ (.slice (some ad177) x10_1.length co4 : Value).ownBlock)) k_ ∧ some k_ ≠ (.slice Ao20 x3_1.length co20 : Value).ownBlock) (Kd.R_apart' (HO_6.out) (Kd.S_typed HO_3.out) (by decide)) (fun k_ hk => ⟨hk.1, hk.2⟩))) (fun _ h_ => h_))); (case aB => exact (by repeat (first | (with_reducible first | exact HB.out | apply below_alloc | apply pw_below_drewN | apply below_drew1) | exact HB.out))); (case aF => exact (fun k_ hk => Kd.fresh' (Kd.R_lt (by (with_reducible repeat (first | apply Kd.R_alloc | apply Kd.R_drewN | apply Kd.R_drew)); exact HO_10.out)) k_ hk)); (case aO => exact (by (with_reducible repeat (first | apply Kd.S_alloc | apply Kd.S_drewN | apply Kd.S_drew)); exact Kd.S_mono HO_3.out (fun k_ hk => ⟨hk.2, fun e_ => hk.1 e_⟩))); (case aS => exact (below_size (by repeat (first | (with_reducible first | exact HB.out | apply below_alloc | apply pw_below_drewN | apply below_drew1) | exact HB.out)))); (case aL => have := LMc27.out; omega); intro v188 w28 ho hb hg hat; rw [← Ny187.out] at ho; have n0_ := Aside0.mk (Kd.R_over' (by (with_reducible repeat (first | apply Kd.R_alloc | apply Kd.R_drewN | apply Kd.R_drew)); exact HO_10.out) (Kd.S_typed (by (with_reducible repeat (first | apply Kd.S_alloc | apply Kd.S_drewN | apply Kd.S_drew)); exact HO_3.out)) (by decide) hg); have n1_ := Aside0.mk (hb); have n2_ := Aside0.mk (ho); clear HO_10; clear HB; clear HO_3; clear HO_6; have HO_10 := n0_; have HB := n1_; have HO189 := n2_; clear n0_ n1_ n2_; clear ho hb hg hat))
                        repeat (go_quiet (first | ((with_reducible refine gate_builtin (b := .append) (xs := #[.tmp 41, .tmp 43]) rfl ?_); at_builtin; refine Kd.S_append (Kd.slice 9 Kd.string) (w0 := w) w.heap.size rfl (.tmp 41) (.tmp 43) 22 24 (.slice none 0 0) 24 rfl Tryd.underlying22 info24 rfl (by decide) (by omega) (.slice Ao20 x3_1.length co20) x3_1 y183 [.slice (some ⟨go14, 0, none⟩) y183.length co16] (fun k_ => some k_ ≠ (.slice (some ad177) x10_1.length co4 : Value).ownBlock) (fun k_ => some k_ = (.slice (some ⟨go14, 0, none⟩) y183.length co16 : Value).ownBlock) rfl rfl ?aP (fun k_ hk_ => ((Kd.R_mono (ok' := fun k_ => ((fun k_ => some k_ ≠ (.slice (some ad177) x10_1.length co4 : Value).ownBlock)) k_ ∧ some k_ ≠ (.slice Ao20 x3_1.length co20 : Value).ownBlock) (Kd.R_apart' (HO_6.out) (Kd.S_typed HO_3.out) (by decide)) (fun k_ hk => ⟨hk.1, hk.2⟩))).1 k_ hk_.symm) ?aF ?aO ?aB ?aS ?aL ?_; (case aP => exact Kd.M_row (Kd.R_mono (Kd.R_tight rfl (Kd.R_mono (ok' := fun k_ => ((fun k_ => some k_ ≠ (.slice (some ad177) x10_1.length co4 : Value).ownBlock)) k_ ∧ some k_ ≠ (.slice Ao20 x3_1.length co20 : Value).ownBlock) (Kd.R_apart' (HO_6.out) (Kd.S_typed HO_3.out) (by decide)) (fun k_ hk => ⟨hk.1, hk.2⟩))) (fun _ h_ => h_))); (case aB => exact (by repeat (first | (with_reducible first | exact HB.out | apply below_alloc | apply pw_below_drewN | apply below_drew1) | exact HB.out))); (case aF => exact (fun k_ hk => Kd.fresh' (Kd.R_lt (by (with_reducible repeat (first | apply Kd.R_alloc | apply Kd.R_drewN | apply Kd.R_drew)); exact HO_10.out)) k_ hk)); (case aO => exact (by (with_reducible repeat (first | apply Kd.S_alloc | apply Kd.S_drewN | apply Kd.S_drew)); exact Kd.S_mono HO_3.out (fun k_ hk => ⟨hk.2, fun e_ => hk.1 e_⟩))); (case aS => exact (below_size (by repeat (first | (with_reducible first | exact HB.out | apply below_alloc | apply pw_below_drewN | apply below_drew1) | exact HB.out)))); (case aL => have := LMc27.out; omega); intro v188 w28 ho hb hg hat; rw [← Ny187.out] at ho; have n0_ := Aside0.mk (Kd.R_over' (by (with_reducible repeat (first | apply Kd.R_alloc | apply Kd.R_drewN | apply Kd.R_drew)); exact HO_10.out) (Kd.S_typed (by (with_reducible repeat (first | apply Kd.S_alloc | apply Kd.S_drewN | apply Kd.S_drew)); exact HO_3.out)) (by decide) hg); have n1_ := Aside0.mk (hb); have n2_ := Aside0.mk (ho); clear HO_10; clear HB; clear HO_3; clear HO_6; have HO_10 := n0_; have HB := n1_; have HO189 := n2_; clear n0_ n1_ n2_; clear ho hb hg hat)); try go_wp2_with (first | (go_step3) | ((with_reducible refine gate_builtin (b := .append) (xs := #[.tmp 41, .tmp 43]) rfl ?_); at_builtin; refine Kd.S_append (Kd.slice 9 Kd.string) (w0 := w) w.heap.size rfl (.tmp 41) (.tmp 43) 22 24 (.slice none 0 0) 24 rfl Tryd.underlying22 info24 rfl (by decide) (by omega) (.slice Ao20 x3_1.length co20) x3_1 y183 [.slice (some ⟨go14, 0, none⟩) y183.length co16] (fun k_ => some k_ ≠ (.slice (some ad177) x10_1.length co4 : Value).ownBlock) (fun k_ => some k_ = (.slice (some ⟨go14, 0, none⟩) y183.length co16 : Value).ownBlock) rfl rfl ?aP (fun k_ hk_ => ((Kd.R_mono (ok' := fun k_ => ((fun k_ => some k_ ≠ (.slice (some ad177) x10_1.length co4 : Value).ownBlock)) k_ ∧ some k_ ≠ (.slice Ao20 x3_1.length co20 : Value).ownBlock) (Kd.R_apart' (HO_6.out) (Kd.S_typed HO_3.out) (by decide)) (fun k_ hk => ⟨hk.1, hk.2⟩))).1 k_ hk_.symm) ?aF ?aO ?aB ?aS ?aL ?_; (case aP => exact Kd.M_row (Kd.R_mono (Kd.R_tight rfl (Kd.R_mono (ok' := fun k_ => ((fun k_ => some k_ ≠ (.slice (some ad177) x10_1.length co4 : Value).ownBlock)) k_ ∧ some k_ ≠ (.slice Ao20 x3_1.length co20 : Value).ownBlock) (Kd.R_apart' (HO_6.out) (Kd.S_typed HO_3.out) (by decide)) (fun k_ hk => ⟨hk.1, hk.2⟩))) (fun _ h_ => h_))); (case aB => exact (by repeat (first | (with_reducible first | exact HB.out | apply below_alloc | apply pw_below_drewN | apply below_drew1) | exact HB.out))); (case aF => exact (fun k_ hk => Kd.fresh' (Kd.R_lt (by (with_reducible repeat (first | apply Kd.R_alloc | apply Kd.R_drewN | apply Kd.R_drew)); exact HO_10.out)) k_ hk)); (case aO => exact (by (with_reducible repeat (first | apply Kd.S_alloc | apply Kd.S_drewN | apply Kd.S_drew)); exact Kd.S_mono HO_3.out (fun k_ hk => ⟨hk.2, fun e_ => hk.1 e_⟩))); (case aS => exact (below_size (by repeat (first | (with_reducible first | exact HB.out | apply below_alloc | apply pw_below_drewN | apply below_drew1) | exact HB.out)))); (case aL => have := LMc27.out; omega); intro v188 w28 ho hb hg hat; rw [← Ny187.out] at ho; have n0_ := Aside0.mk (Kd.R_over' (by (with_reducible repeat (first | apply Kd.R_alloc | apply Kd.R_drewN | apply Kd.R_drew)); exact HO_10.out) (Kd.S_typed (by (with_reducible repeat (first | apply Kd.S_alloc | apply Kd.S_drewN | apply Kd.S_drew)); exact HO_3.out)) (by decide) hg); have n1_ := Aside0.mk (hb); have n2_ := Aside0.mk (ho); clear HO_10; clear HB; clear HO_3; clear HO_6; have HO_10 := n0_; have HB := n1_; have HO189 := n2_; clear n0_ n1_ n2_; clear ho hb hg hat)))
                        (try simp only [← hl10_1, ← hl6_2])
                        go_roundg k2
                        case measure => have := HK1.out; have := HK2.out; omega
                        case rel => exact ⟨(y187), (x10_1), (wrap64 (x12_1 + 1)), (by first | rfl | (simp; done) | (simp [*]; done)), H', ⟨by have := HK1.out; have := HK2.out; omega⟩, ⟨by (try simp only [hl10_1]); (try simp only [hl6_2]); (with_reducible repeat (first | apply Kd.S_alloc | apply Kd.S_drewN | apply Kd.S_drew)); exact HO189.out⟩, ⟨by (try simp only [hl10_1]); (try simp only [hl6_2]); (with_reducible repeat (first | apply Kd.R_alloc | apply Kd.R_drewN | apply Kd.R_drew)); exact Kd.R_mono HO_10.out (fun _ hk => trivial)⟩, ⟨by repeat (first | (with_reducible first | exact HB.out | apply below_alloc | apply pw_below_drewN | apply below_drew1) | exact HB.out)⟩⟩
                      · rw [if_neg c27] at H
                        exact absurd H (by simp)
              · rw [if_neg c12] at H
                exact absurd H (by simp)
          · rw [if_neg c7] at H
            exact absurd H (by simp)
        · rw [if_neg c6] at H
          exact absurd H (by simp)
      · rw [if_neg c5] at H
        have c5b0 : decide (x12_1 < (t174.length : Int)) = false := decide_eq_false c5
        (try (have c5h0 := c5b0; simp only [hl10_1] at c5h0))
        clear c5
        obtain rfl := Option.some.inj H
        go_wp2_with (go_step3)
        repeat (go_quiet (fail); try go_wp2_with (go_step3))
        (try rw [Exit.noGoto_ret]); go_ret
        exact ⟨_, by first | rfl | (simp [errW_none, errW_some] <;> rfl) | (simp [*, errW_none, errW_some] <;> rfl), by (with_reducible repeat (first | apply Kd.S_alloc | apply Kd.S_drewN | apply Kd.S_drew)); exact Kd.S_mono HO_3.out (fun _ hk => trivial), by repeat (first | (with_reducible first | exact HB.out | apply below_alloc | apply pw_below_drewN | apply below_drew1) | exact HB.out)⟩

/-! ### header_named: function 27 -/
def header_named.l0 : Nat → ByteArray → List (List ByteArray) → Int → Int → Option (List ByteArray × Bool)
  | 0, _, _, _, _ => none
  | k + 1, x1, x8, x9, x10 => if x10 < x9 then (if 0 ≤ x10 then (if x10 < (x8.length : Int) then (if 0 < ((rd_L1 x8 x10).length : Int) then (if (rdOf ByteArray.empty (rd_L1 x8 x10) 0).toList = x1.toList then (if 1 ≤ ((rd_L1 x8 x10).length : Int) then (some (((rd_L1 x8 x10).drop 1), true)) else (none)) else (header_named.l0 k x1 x8 x9 (wrap64 (x10 + 1)))) else (none)) else (none)) else (none)) else (some (([] : List ByteArray), false))
def header_named.f (k : Nat) (l0 : List (List ByteArray)) (a1 : ByteArray) : Option (List ByteArray × Bool) := header_named.l0 k a1 l0 (l0.length : Int) 0
theorem header_named.mono_l : ∀ k, (∀ y0 y1 y2 y3, LeO (header_named.l0 k y0 y1 y2 y3) (header_named.l0 (k + 1) y0 y1 y2 y3))
  | 0 => fun _ _ _ _ r h => by simp [header_named.l0] at h
  | k + 1 => by
    have ih0 := header_named.mono_l k
    · intro y0 y1 y2 y3
      unfold header_named.l0
      repeat' first
      | (with_reducible exact ih0 _ _ _ _)
      | (with_reducible exact LeO.refl _)
      | (with_reducible exact LeO.none _)
      | (with_reducible refine LeO.ite ?_ ?_)
      | (with_reducible refine LeO.bind ?_ (fun _ => ?_))
      | exact ih0 _ _ _ _
      | exact LeO.none _
      | refine LeO.ite ?_ ?_
      | refine LeO.bind ?_ (fun _ => ?_)
theorem header_named.mono : ∀ a0 a1 k, LeO (header_named.f k a0 a1) (header_named.f (k + 1) a0 a1) := by
  intro a0 a1 k
  have ih0 := header_named.mono_l k
  unfold header_named.f
  repeat' first
      | (with_reducible exact ih0 _ _ _ _)
      | (with_reducible exact LeO.refl _)
      | (with_reducible exact LeO.none _)
      | (with_reducible refine LeO.ite ?_ ?_)
      | (with_reducible refine LeO.bind ?_ (fun _ => ?_))
      | exact ih0 _ _ _ _
      | exact LeO.none _
      | refine LeO.ite ?_ ?_
      | refine LeO.bind ?_ (fun _ => ?_)
set_option maxHeartbeats 8000000 in
set_option maxRecDepth 100000 in
theorem header_named.calls (k : Nat) (P0_ : Nat → Prop) (A0 : Option Addr) (c0 : Nat) (l0 : List (List ByteArray)) (a1 : ByteArray) (r1 : List ByteArray) (r2 : Bool) (w : World) (hs0 : Kd.V (Kd.slice 9 Kd.string) 24 w w.heap.size (fun k_ => P0_ k_) (.slice A0 l0.length c0) l0) (h : header_named.f k l0 a1 = some (r1, r2)) :
    Calls Tryd.prog 27 #[.slice A0 l0.length c0, .string a1] w fun e w' => ∃ v0_ : Value, e = .returned (.tuple #[v0_, .bool r2]) ∧ Kd.V Kd.string 9 w' w.heap.size (fun k_ => (P0_ k_ ∨ w.heap.size ≤ k_)) v0_ r1 ∧ Below w.heap.size w w' := by
  have HO0 := Aside0.mk (show Kd.V (Kd.slice 9 Kd.string) 24 w w.heap.size (fun k_ => (P0_ k_ ∨ w.heap.size ≤ k_)) (.slice A0 l0.length c0) l0 from Kd.V_mono hs0 (fun k_ hk => .inl hk))
  have HB := Aside0.mk (Below.refl w.heap.size w)
  have H : (header_named.l0 k a1 l0 (l0.length : Int) 0) = some (r1, r2) := h
  clear h
  have H' := Aside0.mk H
  clear H
  go_enter Tryd.func27, Tryd.ntmps27
  go_wp2
  go_loopg [10] k (fun kq v10 w' => ∃ (x10_1 : Int), v10 = .int .i64 x10_1 ∧ Aside0 (header_named.l0 kq a1 l0 (l0.length : Int) x10_1 = some (r1, r2)) ∧ Aside0 (kq ≤ k) ∧ Aside0 (Kd.V (Kd.slice 9 Kd.string) 24 w' w.heap.size (fun k_ => (P0_ k_ ∨ w.heap.size ≤ k_)) (.slice A0 l0.length c0) l0) ∧ Aside0 (Below w.heap.size w w'))
  case atStart => exact ⟨(0), (by first | rfl | (simp; done) | (simp [*]; done)), H', ⟨Nat.le_refl _⟩, ⟨by (with_reducible repeat (first | apply Kd.V_alloc | apply Kd.V_drewN | apply Kd.V_drew)); exact HO0.out⟩, ⟨by repeat (first | (with_reducible first | exact HB.out | apply below_alloc | apply pw_below_drewN | apply below_drew1) | exact HB.out)⟩⟩
  case round =>
    clear H'
    try clear c2
    try clear p2
    obtain ⟨x10_1, rfl, HA, HK1, HO_8, HB⟩ := hrel
    cases gk with
    | zero => exact absurd HA.out (by simp [header_named.l0])
    | succ k1 =>
      have H := HA.out
      clear HA
      simp only [header_named.l0] at H
      by_cases c3 : x10_1 < (l0.length : Int)
      · rw [if_pos c3] at H
        have c3b0 : decide (x10_1 < (l0.length : Int)) = true := decide_eq_true c3
        clear c3
        by_cases c4 : 0 ≤ x10_1
        · rw [if_pos c4] at H
          have c4b0 : decide (0 ≤ x10_1) = true := decide_eq_true c4
          clear c4
          by_cases c5 : x10_1 < (l0.length : Int)
          · rw [if_pos c5] at H
            have c5b0 : decide (x10_1 < (l0.length : Int)) = true := decide_eq_true c5
            clear c5
            by_cases c6 : 0 < ((rd_L1 l0 x10_1).length : Int)
            · rw [if_pos c6] at H
              have c6b0 : decide (0 < ((rd_L1 l0 x10_1).length : Int)) = true := decide_eq_true c6
              have c6b1 : decide (0 < (rd_L1 l0 x10_1).length) = true := decide_eq_true (by omega)
              clear c6
              by_cases c7 : (rdOf ByteArray.empty (rd_L1 l0 x10_1) 0).toList = a1.toList
              · rw [if_pos c7] at H
                have c7b0 : ((rdOf ByteArray.empty (rd_L1 l0 x10_1) 0).toList == a1.toList) = true := beq_iff_eq.mpr c7
                have c7b1 : ((rdOf ByteArray.empty (rd_L1 l0 x10_1) 0).toList != a1.toList) = false := bne_eq_false_iff_eq.mpr c7
                clear c7
                by_cases c8 : 1 ≤ ((rd_L1 l0 x10_1).length : Int)
                · rw [if_pos c8] at H
                  have c8b0 := eq_true c8
                  have c8b1 : decide (1 ≤ ((rd_L1 l0 x10_1).length : Int)) = true := decide_eq_true c8
                  clear c8
                  obtain ⟨y192, hy192⟩ : ∃ y_ : List ByteArray, y_ = ((rd_L1 l0 x10_1).drop 1) := ⟨_, rfl⟩
                  replace H : (some (y192, true)) = some (r1, r2) := by first | (rw [hy192]; with_reducible exact H) | (have H2_ := (Option.bind_some _ _).symm.trans H; rw [hy192]; with_reducible exact H2_) | (have H2_ := (Option.bind_some _ _).symm.trans H; with_reducible exact H2_) | with_reducible exact H | (rw [hy192]; exact H) | exact H
                  have Ny192 := Aside0.mk hy192
                  clear hy192
                  simp only [Option.some.injEq, Prod.mk.injEq] at H
                  obtain ⟨rfl, rfl⟩ := H
                  have p190 : 0 ≤ (x10_1 : Int) := of_decide_eq_true (by first | (with_reducible assumption) | assumption)
                  have q190 : x10_1 < (l0.length : Int) := of_decide_eq_true (by first | (with_reducible assumption) | assumption)
                  obtain ⟨ad190, A190_0, c190_0, e190, hx190_0, hl190_0, hi190_0⟩ := at_L1 (Kd.V_reads' HO_8.out).2.2 x10_1 p190 q190
                  cases e190
                  obtain ⟨ce190, hce190, hMe190, hcc190⟩ := Kd.V_get HO_8.out [] x10_1 p190 (by first | exact q190 | exact of_decide_eq_true (by first | (with_reducible assumption) | assumption) | (have e_ := (Kd.V_reads' HO_8.out).1; omega))
                  obtain ⟨ua190_0, uc190_0, rfl, ul190_0, ge190_0⟩ := Kd.FK_slice_open hMe190
                  have hv190_0 := hcc190 0 _ rfl
                  rw [Nat.add_zero, show ((Kd.slice 9 Kd.string)).sz = 1 from rfl, Nat.mul_one] at hv190_0
                  replace hv190_0 := Option.some.inj (hv190_0.symm.trans hx190_0)
                  injection hv190_0 with hva_ hvn_ hvc_
                  rw [hva_] at ge190_0
                  rw [hvc_] at ul190_0
                  have HL190_0 := Aside0.mk (show Kd.V Kd.string 9 _ w.heap.size _ _ (rd_L1 l0 x10_1) from Kd.V_mk ul190_0 ge190_0)
                  clear hva_ hvn_ hvc_ ge190_0 ul190_0
                  clear hcc190 hce190
                  have HR190_0 := Aside0.mk hi190_0
                  have HC190_0 := Aside0.mk hl190_0
                  clear hi190_0 hl190_0
                  replace p190 := eq_true p190
                  replace q190 := eq_true q190
                  have p191 : 0 ≤ (0 : Int) := (by omega)
                  have q191 : 0 < ((rd_L1 l0 x10_1).length : Int) := of_decide_eq_true (by first | (with_reducible assumption) | assumption)
                  obtain ⟨ad191, e191, hx191_0⟩ := Kd.at_string (by repeat (first | (with_reducible exact HR190_0.out) | (with_reducible refine Kd.C_alloc ?_ _) | (with_reducible refine Kd.C_drewN ?_ _) | (with_reducible refine Kd.C_drew ?_) | exact HR190_0.out)) 0 p191 q191
                  cases e191
                  have qi191 : (0 < (rd_L1 l0 x10_1).length) = True := eq_true (by omega)
                  (try rw [show ((0 : Int)).toNat = 0 from rfl] at hx191_0)
                  (try rw [Addr.add_zero'] at hx191_0)
                  replace p191 := eq_true p191
                  replace q191 := eq_true q191
                  have q9 : (1 : Int) ≤ (((rd_L1 l0 x10_1).length : Int) : Int) := of_decide_eq_true (by first | (with_reducible assumption) | assumption)
                  obtain ⟨i09, hi09, _, hsz9, _⟩ := info_parts info9
                  have hroom9 : (rd_L1 l0 x10_1).length ≤ c190_0 := HC190_0.out
                  have hC9 : Kd.F Kd.string _ _ (some ad191) (rd_L1 l0 x10_1).length (rd_L1 l0 x10_1) := (Kd.V_at (base := w.heap.size) HL190_0.out).2.2
                  have hcut9 := cut_from (P := Tryd.prog) 24 9 .i64 Tryd.underlying24 hi09 1 hsz9 (some ad191) (rd_L1 l0 x10_1).length c190_0 1 (by omega) q9
                  have hr9 := Kd.F_cut (m := (1 : Int).toNat) (c := c190_0) hC9 (by omega) hroom9
                  obtain ⟨A9, hA9⟩ : ∃ A1, A1 = (if c190_0 = (1 : Int).toNat then (some ad191) else ((some ad191) : Option Addr).map (·.add ((1 : Int).toNat * 1))) := ⟨_, rfl⟩
                  obtain ⟨c9, hc9⟩ : ∃ c1, c1 = c190_0 - (1 : Int).toNat := ⟨_, rfl⟩
                  have hy9 : y192.length = (rd_L1 l0 x10_1).length - (1 : Int).toNat := (by rw [Ny192.out, List.length_drop] <;> omega)
                  rw [show (rd_L1 l0 x10_1).drop (1 : Int).toNat = y192 from Ny192.out.symm] at hr9
                  replace hr9 : Kd.F Kd.string _ _ A9 y192.length y192 := (by rw [hA9]; exact hr9)
                  rw [← hy9, ← hA9, ← hc9] at hcut9
                  have HO196 := Aside0.mk (show Kd.V Kd.string 9 _ w.heap.size _ (.slice A9 y192.length c9) y192 from Kd.V_mk (by rw [hy9, hc9]; exact Nat.sub_le_sub_right hroom9 _) hr9)
                  have HC196 := Aside0.mk (show y192.length ≤ c9 from by rw [hy9, hc9]; exact Nat.sub_le_sub_right hroom9 _)
                  clear hr9 hC9 hroom9 hi09 hsz9 hc9
                  have KY9 := Aside0.mk hy9
                  have KA9 := Aside0.mk hA9
                  clear hy9 hA9
                  replace q9 := eq_true q9
                  go_wp2
                  go_ret2
                  exact ⟨_, by first | rfl | (simp [errW_none, errW_some] <;> rfl) | (simp [*, errW_none, errW_some] <;> rfl), by (with_reducible repeat (first | apply Kd.V_alloc | apply Kd.V_drewN | apply Kd.V_drew)); exact HO196.out, by repeat (first | (with_reducible first | exact HB.out | apply below_alloc | apply pw_below_drewN | apply below_drew1) | exact HB.out)⟩
                · rw [if_neg c8] at H
                  exact absurd H (by simp)
              · rw [if_neg c7] at H
                have c7b0 : ((rdOf ByteArray.empty (rd_L1 l0 x10_1) 0).toList == a1.toList) = false := beq_eq_false_iff_ne.mpr c7
                have c7b1 : ((rdOf ByteArray.empty (rd_L1 l0 x10_1) 0).toList != a1.toList) = true := bne_iff_ne.mpr c7
                have H' := Aside0.mk H
                clear H
                have p190 : 0 ≤ (x10_1 : Int) := of_decide_eq_true (by first | (with_reducible assumption) | assumption)
                have q190 : x10_1 < (l0.length : Int) := of_decide_eq_true (by first | (with_reducible assumption) | assumption)
                obtain ⟨ad190, A190_0, c190_0, e190, hx190_0, hl190_0, hi190_0⟩ := at_L1 (Kd.V_reads' HO_8.out).2.2 x10_1 p190 q190
                cases e190
                obtain ⟨ce190, hce190, hMe190, hcc190⟩ := Kd.V_get HO_8.out [] x10_1 p190 (by first | exact q190 | exact of_decide_eq_true (by first | (with_reducible assumption) | assumption) | (have e_ := (Kd.V_reads' HO_8.out).1; omega))
                obtain ⟨ua190_0, uc190_0, rfl, ul190_0, ge190_0⟩ := Kd.FK_slice_open hMe190
                have hv190_0 := hcc190 0 _ rfl
                rw [Nat.add_zero, show ((Kd.slice 9 Kd.string)).sz = 1 from rfl, Nat.mul_one] at hv190_0
                replace hv190_0 := Option.some.inj (hv190_0.symm.trans hx190_0)
                injection hv190_0 with hva_ hvn_ hvc_
                rw [hva_] at ge190_0
                rw [hvc_] at ul190_0
                have HL190_0 := Aside0.mk (show Kd.V Kd.string 9 _ w.heap.size _ _ (rd_L1 l0 x10_1) from Kd.V_mk ul190_0 ge190_0)
                clear hva_ hvn_ hvc_ ge190_0 ul190_0
                clear hcc190 hce190
                have HR190_0 := Aside0.mk hi190_0
                have HC190_0 := Aside0.mk hl190_0
                clear hi190_0 hl190_0
                replace p190 := eq_true p190
                replace q190 := eq_true q190
                have p191 : 0 ≤ (0 : Int) := (by omega)
                have q191 : 0 < ((rd_L1 l0 x10_1).length : Int) := of_decide_eq_true (by first | (with_reducible assumption) | assumption)
                obtain ⟨ad191, e191, hx191_0⟩ := Kd.at_string (by repeat (first | (with_reducible exact HR190_0.out) | (with_reducible refine Kd.C_alloc ?_ _) | (with_reducible refine Kd.C_drewN ?_ _) | (with_reducible refine Kd.C_drew ?_) | exact HR190_0.out)) 0 p191 q191
                cases e191
                have qi191 : (0 < (rd_L1 l0 x10_1).length) = True := eq_true (by omega)
                (try rw [show ((0 : Int)).toNat = 0 from rfl] at hx191_0)
                (try rw [Addr.add_zero'] at hx191_0)
                replace p191 := eq_true p191
                replace q191 := eq_true q191
                go_wp2
                go_roundg k1
                case measure => have := HK1.out; omega
                case rel => exact ⟨(wrap64 (x10_1 + 1)), (by first | rfl | (simp; done) | (simp [*]; done)), H', ⟨by have := HK1.out; omega⟩, ⟨by (with_reducible repeat (first | apply Kd.V_alloc | apply Kd.V_drewN | apply Kd.V_drew)); exact HO_8.out⟩, ⟨by repeat (first | (with_reducible first | exact HB.out | apply below_alloc | apply pw_below_drewN | apply below_drew1) | exact HB.out)⟩⟩
            · rw [if_neg c6] at H
              exact absurd H (by simp)
          · rw [if_neg c5] at H
            exact absurd H (by simp)
        · rw [if_neg c4] at H
          exact absurd H (by simp)
      · rw [if_neg c3] at H
        have c3b0 : decide (x10_1 < (l0.length : Int)) = false := decide_eq_false c3
        clear c3
        simp only [Option.some.injEq, Prod.mk.injEq] at H
        obtain ⟨rfl, rfl⟩ := H
        go_wp2
        go_ret2
        exact ⟨.slice none 0 0, by first | rfl | (simp [errW_none, errW_some] <;> rfl) | (simp [*, errW_none, errW_some] <;> rfl), (by first | exact Kd.V_nil _ _ _ _ _ | exact Kd.V_mono (Kd.R_V (Kd.R_nil _ _ _ _ _)) (fun k_ hk => by first | exact ⟨(.inr (hk.1)), hk.2⟩ | exact (.inr (hk)))), by repeat (first | (with_reducible first | exact HB.out | apply below_alloc | apply pw_below_drewN | apply below_drew1) | exact HB.out)⟩

/-! ### slices_Index_string_string: function 36 -/
def slices_Index_string_string.l0 : Nat → List ByteArray → ByteArray → Int → Int → Option (Int)
  | 0, _, _, _, _ => none
  | k + 1, x0, x1, x7, x8 => if x8 < x7 then (if 0 ≤ x8 then (if x8 < (x0.length : Int) then (if x1.toList = (rdOf ByteArray.empty x0 x8).toList then (some x8) else (slices_Index_string_string.l0 k x0 x1 x7 (wrap64 (x8 + 1)))) else (none)) else (none)) else (some (-1))
def slices_Index_string_string.f (k : Nat) (l0 : List ByteArray) (a1 : ByteArray) : Option (Int) := slices_Index_string_string.l0 k l0 a1 (l0.length : Int) 0
theorem slices_Index_string_string.mono_l : ∀ k, (∀ y0 y1 y2 y3, LeO (slices_Index_string_string.l0 k y0 y1 y2 y3) (slices_Index_string_string.l0 (k + 1) y0 y1 y2 y3))
  | 0 => fun _ _ _ _ r h => by simp [slices_Index_string_string.l0] at h
  | k + 1 => by
    have ih0 := slices_Index_string_string.mono_l k
    · intro y0 y1 y2 y3
      unfold slices_Index_string_string.l0
      repeat' first
      | (with_reducible exact ih0 _ _ _ _)
      | (with_reducible exact LeO.refl _)
      | (with_reducible exact LeO.none _)
      | (with_reducible refine LeO.ite ?_ ?_)
      | (with_reducible refine LeO.bind ?_ (fun _ => ?_))
      | exact ih0 _ _ _ _
      | exact LeO.none _
      | refine LeO.ite ?_ ?_
      | refine LeO.bind ?_ (fun _ => ?_)
theorem slices_Index_string_string.mono : ∀ a0 a1 k, LeO (slices_Index_string_string.f k a0 a1) (slices_Index_string_string.f (k + 1) a0 a1) := by
  intro a0 a1 k
  have ih0 := slices_Index_string_string.mono_l k
  unfold slices_Index_string_string.f
  repeat' first
      | (with_reducible exact ih0 _ _ _ _)
      | (with_reducible exact LeO.refl _)
      | (with_reducible exact LeO.none _)
      | (with_reducible refine LeO.ite ?_ ?_)
      | (with_reducible refine LeO.bind ?_ (fun _ => ?_))
      | exact ih0 _ _ _ _
      | exact LeO.none _
      | refine LeO.ite ?_ ?_
      | refine LeO.bind ?_ (fun _ => ?_)
set_option maxHeartbeats 8000000 in
set_option maxRecDepth 100000 in
theorem slices_Index_string_string.calls (k : Nat) (A0 : Option Addr) (c0 : Nat) (l0 : List ByteArray) (a1 : ByteArray) (r : Int) (w : World) (hr0 : Kd.C Kd.string w A0 l0.length l0) (hc0 : l0.length ≤ c0) (h : slices_Index_string_string.f k l0 a1 = some r) :
    Calls Tryd.prog 36 #[.slice A0 l0.length c0, .string a1] w fun e w' => e = .returned (.int .i64 r) ∧ Drawn0 w w' := by
  have HR0 := Aside0.mk hr0
  have HC0 := Aside0.mk hc0
  clear hr0 hc0
  have H : (slices_Index_string_string.l0 k l0 a1 (l0.length : Int) 0) = some r := h
  clear h
  have H' := Aside0.mk H
  clear H
  go_enter Tryd.func36, Tryd.ntmps36
  go_wp2
  go_loopg [8] k (fun kq v8 w' => ∃ (x8_1 : Int), v8 = .int .i64 x8_1 ∧ Aside0 (slices_Index_string_string.l0 kq l0 a1 (l0.length : Int) x8_1 = some r) ∧ Aside0 (kq ≤ k) ∧ Drawn0 w w')
  case atStart => exact ⟨(0), (by first | rfl | (simp; done) | (simp [*]; done)), H', ⟨Nat.le_refl _⟩, by repeat (first | exact Drawn0.refl _ | apply Drawn0.step)⟩
  case round =>
    clear H'
    try clear p2
    obtain ⟨x8_1, rfl, HA, HK1, ⟨m1, rfl⟩⟩ := hrel
    cases gk with
    | zero => exact absurd HA.out (by simp [slices_Index_string_string.l0])
    | succ k1 =>
      have H := HA.out
      clear HA
      simp only [slices_Index_string_string.l0] at H
      by_cases c3 : x8_1 < (l0.length : Int)
      · rw [if_pos c3] at H
        have c3b0 : decide (x8_1 < (l0.length : Int)) = true := decide_eq_true c3
        clear c3
        by_cases c4 : 0 ≤ x8_1
        · rw [if_pos c4] at H
          have c4b0 : decide (0 ≤ x8_1) = true := decide_eq_true c4
          clear c4
          by_cases c5 : x8_1 < (l0.length : Int)
          · rw [if_pos c5] at H
            have c5b0 : decide (x8_1 < (l0.length : Int)) = true := decide_eq_true c5
            clear c5
            by_cases c6 : a1.toList = (rdOf ByteArray.empty l0 x8_1).toList
            · rw [if_pos c6] at H
              have c6b0 : (a1.toList == (rdOf ByteArray.empty l0 x8_1).toList) = true := beq_iff_eq.mpr c6
              have c6b1 : (a1.toList != (rdOf ByteArray.empty l0 x8_1).toList) = false := bne_eq_false_iff_eq.mpr c6
              clear c6
              obtain rfl := Option.some.inj H
              have p197 : 0 ≤ (x8_1 : Int) := of_decide_eq_true (by first | (with_reducible assumption) | assumption)
              have q197 : x8_1 < (l0.length : Int) := of_decide_eq_true (by first | (with_reducible assumption) | assumption)
              obtain ⟨ad197, e197, hx197_0⟩ := Kd.at_string HR0.out x8_1 p197 q197
              cases e197
              replace p197 := eq_true p197
              replace q197 := eq_true q197
              go_wp2
              go_ret
              exact ⟨by first | rfl | (simp; done) | (simp [*]; done) | (simp; generalize ByteArray.toList _ = l_; cases l_ <;> rfl), by repeat (first | exact Drawn0.refl _ | apply Drawn0.step)⟩
            · rw [if_neg c6] at H
              have c6b0 : (a1.toList == (rdOf ByteArray.empty l0 x8_1).toList) = false := beq_eq_false_iff_ne.mpr c6
              have c6b1 : (a1.toList != (rdOf ByteArray.empty l0 x8_1).toList) = true := bne_iff_ne.mpr c6
              have H' := Aside0.mk H
              clear H
              have p197 : 0 ≤ (x8_1 : Int) := of_decide_eq_true (by first | (with_reducible assumption) | assumption)
              have q197 : x8_1 < (l0.length : Int) := of_decide_eq_true (by first | (with_reducible assumption) | assumption)
              obtain ⟨ad197, e197, hx197_0⟩ := Kd.at_string HR0.out x8_1 p197 q197
              cases e197
              replace p197 := eq_true p197
              replace q197 := eq_true q197
              go_wp2
              go_roundg k1
              case measure => have := HK1.out; omega
              case rel => exact ⟨(wrap64 (x8_1 + 1)), (by first | rfl | (simp; done) | (simp [*]; done)), H', ⟨by have := HK1.out; omega⟩, by repeat (first | exact Drawn0.refl _ | apply Drawn0.step)⟩
          · rw [if_neg c5] at H
            exact absurd H (by simp)
        · rw [if_neg c4] at H
          exact absurd H (by simp)
      · rw [if_neg c3] at H
        have c3b0 : decide (x8_1 < (l0.length : Int)) = false := decide_eq_false c3
        clear c3
        obtain rfl := Option.some.inj H
        go_wp2
        go_ret
        exact ⟨by first | rfl | (simp; done) | (simp [*]; done) | (simp; generalize ByteArray.toList _ = l_; cases l_ <;> rfl), by repeat (first | exact Drawn0.refl _ | apply Drawn0.step)⟩

/-! ### slices_Contains_string_string: function 28 -/
def slices_Contains_string_string.f (k : Nat) (l0 : List ByteArray) (a1 : ByteArray) : Option (Bool) := (slices_Index_string_string.f k l0 a1).bind fun t198 => (some (decide (t198 ≥ 0)))
theorem slices_Contains_string_string.mono : ∀ a0 a1 k, LeO (slices_Contains_string_string.f k a0 a1) (slices_Contains_string_string.f (k + 1) a0 a1) := by
  intro a0 a1 k
  unfold slices_Contains_string_string.f
  repeat' first
      | (with_reducible exact slices_Index_string_string.mono _ _ _)
      | (with_reducible exact LeO.refl _)
      | (with_reducible exact LeO.none _)
      | (with_reducible refine LeO.ite ?_ ?_)
      | (with_reducible refine LeO.bind ?_ (fun _ => ?_))
      | exact slices_Index_string_string.mono _ _ _
      | exact LeO.none _
      | refine LeO.ite ?_ ?_
      | refine LeO.bind ?_ (fun _ => ?_)
set_option maxHeartbeats 8000000 in
set_option maxRecDepth 100000 in
theorem slices_Contains_string_string.calls (k : Nat) (A0 : Option Addr) (c0 : Nat) (l0 : List ByteArray) (a1 : ByteArray) (r : Bool) (w : World) (hr0 : Kd.C Kd.string w A0 l0.length l0) (hc0 : l0.length ≤ c0) (h : slices_Contains_string_string.f k l0 a1 = some r) :
    Calls Tryd.prog 28 #[.slice A0 l0.length c0, .string a1] w fun e w' => e = .returned (.bool r) ∧ Drawn0 w w' := by
  have HR0 := Aside0.mk hr0
  have HC0 := Aside0.mk hc0
  clear hr0 hc0
  have H : ((slices_Index_string_string.f k l0 a1).bind fun t198 => (some (decide (t198 ≥ 0)))) = some r := h
  clear h
  replace H := Option.bind_eq_some_iff.mp H
  obtain ⟨t198, A30, H⟩ := H
  replace H : (some (decide (t198 ≥ 0))) = some r := H
  have A3 := Aside0.mk A30
  clear A30
  obtain rfl := Option.some.inj H
  go_enter Tryd.func28, Tryd.ntmps28
  go_wp2_with (first | ((with_reducible refine gate_callee (f := 36) rfl ?_); refine goesL_ (some 7) rfl rfl Tryd.func36 (by kernel_rfl) rfl #[.slice A0 l0.length c0, .string a1] rfl (by (try simp only [List.map_toArray, List.map_cons, List.map_nil]); first | done | rfl | (simp only [List.length_drop, List.length_take]; rfl)) ?_; (with_reducible refine (slices_Index_string_string.calls k _ _ l0 a1 t198 _ ?side1 ?side2 A3.out).mono ?_); (case side1 => repeat (first | exact HR0.out | (with_reducible refine Kd.C_alloc ?_ _) | (with_reducible refine Kd.C_drewN ?_ _) | (with_reducible refine Kd.C_drew ?_))); (case side2 => exact HC0.out); rintro e w' ⟨rfl, ⟨nd, rfl⟩⟩; refine ⟨_, rfl, ?_⟩))
  go_ret
  exact ⟨by first | rfl | (simp; done) | (simp [*]; done) | (simp; generalize ByteArray.toList _ = l_; cases l_ <;> rfl), by repeat (first | exact Drawn0.refl _ | apply Drawn0.step)⟩

/-! ### fold_Letter: function 37 -/
def fold_Letter.f (a0 : Int) : Option (Bool) := if a0 ≥ 97 then (if a0 ≤ 122 then (some true) else (if a0 ≥ 65 then (some (decide (a0 ≤ 90))) else (some false))) else (if a0 ≥ 65 then (some (decide (a0 ≤ 90))) else (some false))
set_option maxHeartbeats 8000000 in
set_option maxRecDepth 100000 in
theorem fold_Letter.calls (a0 : Int) (r : Bool) (w : World) (h : fold_Letter.f a0 = some r) :
    Calls Tryd.prog 37 #[.int .u8 a0] w fun e w' => e = .returned (.bool r) ∧ Drawn0 w w' := by
  have H : (if a0 ≥ 97 then (if a0 ≤ 122 then (some true) else (if a0 ≥ 65 then (some (decide (a0 ≤ 90))) else (some false))) else (if a0 ≥ 65 then (some (decide (a0 ≤ 90))) else (some false))) = some r := h
  clear h
  by_cases c2 : a0 ≥ 97
  · rw [if_pos c2] at H
    have c2b0 : decide (97 ≤ a0) = true := decide_eq_true c2
    clear c2
    by_cases c3 : a0 ≤ 122
    · rw [if_pos c3] at H
      have c3b0 : decide (a0 ≤ 122) = true := decide_eq_true c3
      clear c3
      obtain rfl := Option.some.inj H
      go_enter Tryd.func37, Tryd.ntmps37
      go_wp2
      go_ret
      exact ⟨by first | rfl | (simp; done) | (simp [*]; done) | (simp; generalize ByteArray.toList _ = l_; cases l_ <;> rfl), by repeat (first | exact Drawn0.refl _ | apply Drawn0.step)⟩
    · rw [if_neg c3] at H
      have c3b0 : decide (a0 ≤ 122) = false := decide_eq_false c3
      clear c3
      by_cases c4 : a0 ≥ 65
      · rw [if_pos c4] at H
        have c4b0 : decide (65 ≤ a0) = true := decide_eq_true c4
        clear c4
        obtain rfl := Option.some.inj H
        go_enter Tryd.func37, Tryd.ntmps37
        go_wp2
        go_ret
        exact ⟨by first | rfl | (simp; done) | (simp [*]; done) | (simp; generalize ByteArray.toList _ = l_; cases l_ <;> rfl), by repeat (first | exact Drawn0.refl _ | apply Drawn0.step)⟩
      · rw [if_neg c4] at H
        have c4b0 : decide (65 ≤ a0) = false := decide_eq_false c4
        clear c4
        obtain rfl := Option.some.inj H
        go_enter Tryd.func37, Tryd.ntmps37
        go_wp2
        go_ret
        exact ⟨by first | rfl | (simp; done) | (simp [*]; done) | (simp; generalize ByteArray.toList _ = l_; cases l_ <;> rfl), by repeat (first | exact Drawn0.refl _ | apply Drawn0.step)⟩
  · rw [if_neg c2] at H
    have c2b0 : decide (97 ≤ a0) = false := decide_eq_false c2
    clear c2
    by_cases c5 : a0 ≥ 65
    · rw [if_pos c5] at H
      have c5b0 : decide (65 ≤ a0) = true := decide_eq_true c5
      clear c5
      obtain rfl := Option.some.inj H
      go_enter Tryd.func37, Tryd.ntmps37
      go_wp2
      go_ret
      exact ⟨by first | rfl | (simp; done) | (simp [*]; done) | (simp; generalize ByteArray.toList _ = l_; cases l_ <;> rfl), by repeat (first | exact Drawn0.refl _ | apply Drawn0.step)⟩
    · rw [if_neg c5] at H
      have c5b0 : decide (65 ≤ a0) = false := decide_eq_false c5
      clear c5
      obtain rfl := Option.some.inj H
      go_enter Tryd.func37, Tryd.ntmps37
      go_wp2
      go_ret
      exact ⟨by first | rfl | (simp; done) | (simp [*]; done) | (simp; generalize ByteArray.toList _ = l_; cases l_ <;> rfl), by repeat (first | exact Drawn0.refl _ | apply Drawn0.step)⟩

end Go.Proofs.YthblohknnlkidaaDoor.Pr
