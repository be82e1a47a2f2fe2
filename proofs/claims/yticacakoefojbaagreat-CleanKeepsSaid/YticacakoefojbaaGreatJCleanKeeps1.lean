import Derived.Test.YticacakoefojbaaGreatJCleanKeeps0
import Derived.Deep.Slices
import Derived.ChangeArms
import Derived.ChangeSame
import Derived.SizedLaws
import Derived.Shelf.Strings.Builder1
import Derived.Shelf.Small.Bits
import Derived.Shelf.Small.Strs
import Derived.Shelf.Strings.BuilderF
import Derived.Shelf.Strings.BuilderK
import Derived.Shelf.Strconv.Itoa0
import Derived.Shelf.Strings.Search1
import Derived.Shelf.Strings.Search2
import Derived.Shelf.Strings.Cut
import Derived.Shelf.LaysM
import Derived.Shelf.Strings.Shaped
import Derived.Shelf.Sort.Plain
import Derived.Shelf.GgClosure.StringsIndexFunc
import Derived.Ground.GgwProg
import Derived.Shelf.GgClosure.StringsIndexFuncTop
import Derived.Shelf.GgClosure.StringsRunes
import Derived.Shelf.Strings.Prefix
import Derived.Shelf.Slices.Turned
import Derived.Ground.Names2Prog
import Derived.Shelf.Slices.Clone
import Derived.Shelf.Slices.CompactS
import Derived.Shelf.Slices.Cells
import Derived.Shelf.Slices.In.SortNone
import Derived.Ground.SlgnProg
import Derived.Shelf.SlicesE.Compact
import Derived.Shelf.SlicesE.Clone
import Derived.Ground.SlgfProg
import Derived.Shelf.SlicesE.IndexFunc
import Derived.Test.YticacakoefojbaaGreatProg
import Derived.Lib.IndexMore
import Derived.WalkKit
import Derived.BigCall
import Derived.Deep.DeepCutAuto
import Derived.Deep.CutBlock
import Derived.Shelf.GgClosure.Gives
import Derived.Lib.CutLaws
import Derived.Lib.IndexLaws
import Derived.Sort.OwnSorted
import Derived.WalkMore
import Derived.Below
import Derived.Deep.Draws
import Derived.Deep.AppendLies
import Derived.Maps.AppendAt
import Derived.OwnWalk
import Derived.Laws.BytesArg
import Derived.Laws.MakeOwn
import Derived.Laws.OwnMore
import Derived.Deep.OwnRows
import Derived.Tactics
import Derived.Lib.ConvBytes
import Derived.Laws.Slices
import Derived.KernelRfl
import Derived.RowKit3
import Derived.Deep.LoopGhost
import Derived.Deep.QuietTactic
import Derived.BigQuiet
import Derived.WideLaws
import Derived.Deep.RegionHeld3
import Derived.Laws.Rows
import Derived.Lib.AppendStr
import Derived.ArgAppend
import Derived.Laws.IdiomCopy
import Derived.OrdersHeld
import Derived.Laws.BitsLemmas
import Derived.RowKit
import Derived.Shelf.SlicesQ.Load
import Derived.RegionTactic
import Derived.Lib.TrimU
import Derived.Maps.Keyed
set_option linter.unusedSimpArgs false
set_option linter.unusedVariables false
namespace Go.Proofs.YticacakoefojbaaGreat
open Go.RowKit Go.ChangeShapes Go.WideShapes Go.Deep Go.Proofs.YticacakoefojbaaGreatW.PrintWords

def Opens {α : Type} (P : Program) (t : TypeId) (d : Kd α) : Prop :=
 P.cellsOf t = d.sz ∧ ∀ {H : Type} (enc : TypeId × Value → H) (w : World) (base : Nat) (spare : Nat → Bool) (held : Bool) (fuel : Nat) (cs : List Value) (x : DataW H × List MemPlace),
  DataW.trod enc P w base spare held fuel t cs = some x → ∃ a, d.K w a cs
theorem list_of {α : Type} {p : Nat → α → Prop} : ∀ (n : Nat), (∀ i, i < n → ∃ a, p i a) → ∃ l : List α, l.length = n ∧ ∀ (i : Nat) (a : α), l[i]? = some a → p i a
 | 0, _ => ⟨[], rfl, fun i a h => by simp at h⟩
 | n + 1, h => by
  obtain ⟨l, hl, hp⟩ := list_of n (fun i hi => h i (by omega))
  obtain ⟨a, ha⟩ := h n (by omega)
  refine ⟨l ++ [a], by simp [hl], fun i b hb => ?_⟩
  rcases Nat.lt_or_ge i l.length with hi | hi
  ·rw [List.getElem?_append_left hi] at hb
   exact hp i b hb
  ·rw [List.getElem?_append_right hi] at hb
   have : i - l.length = 0 := by
    have := (List.getElem?_eq_some_iff.1 hb).1
    simp at this; omega
   rw [this] at hb
   simp at hb; subst hb
   rw [show i = n by omega]; exact ha

def OpensS {α : Type} (P : Program) (t : TypeId) (d : Kd α) (S : α → Prop) : Prop :=
 P.cellsOf t = d.sz ∧ ∀ {H : Type} (enc : TypeId × Value → H) (w : World) (base : Nat) (spare : Nat → Bool) (held : Bool) (fuel : Nat) (cs : List Value) (x : DataW H × List MemPlace),
  DataW.trod enc P w base spare held fuel t cs = some x → (∀ n ∈ x.1.weights P t, n ≤ reachBytes) → ∃ a, d.K w a cs ∧ S a
theorem opensS_string {P : Program} {t : TypeId} (hC : P.cellsOf t = 1) (ht : P.underlying t = some .string) : OpensS P t Kd.string (fun s => s.size ≤ 140737488351232) := by
 refine ⟨hC, fun enc w base spare held fuel cs x h hw => ?_⟩
 obtain ⟨s, rfl, rfl, _⟩ := DataW.trod_string ht h
 refine ⟨s, rfl, ?_⟩
 have := hw s.data.toList.length (by simp [DataW.weights])
 rw [Array.length_toList] at this
 exact this
theorem opensS_int {P : Program} {t : TypeId} {k : IntKind} (hC : P.cellsOf t = 1) (ht : P.underlying t = some (.int k)) : OpensS P t (Kd.int k) (fun n => (Lit.int k n).wf = true) := by
 refine ⟨hC, fun enc w base spare held fuel cs x h hw => ?_⟩
 obtain ⟨s, rfl, _, hwf⟩ := DataW.trod_int ht h
 exact ⟨s, rfl, hwf⟩
theorem weights_all {H : Type} {P : Program} {e : TypeId} : ∀ {l : List (DataW H)} {d : DataW H}, d ∈ l → ∀ n ∈ d.weights P e, n ∈ DataW.weightsAll P e l
 | [], d, h, _, _ => by simp at h
 | x :: l, d, h, n, hn => by
  unfold DataW.weightsAll
  rw [List.mem_append]
  rcases List.mem_cons.1 h with h | h
  ·subst h; exact .inl hn
  ·exact .inr (weights_all h n hn)
theorem opensS_row {α : Type} {P : Program} {t e : TypeId} {d : Kd α} {S : α → Prop} (ht : P.underlying t = some (.slice e)) (hd : OpensS P e d S) {H : Type} {enc : TypeId × Value → H} {w : World} {base : Nat} {spare : Nat → Bool} {held : Bool} {fuel : Nat} {cs : List Value} {x : DataW H × List MemPlace}
  (h : DataW.trod enc P w base spare held fuel t cs = some x) (hw : ∀ n ∈ x.1.weights P t, n ≤ reachBytes) : ∃ A c xs, cs = [.slice A xs.length c] ∧ xs.length ≤ c ∧ c ≤ maxLen ∧ d.C w A xs.length xs ∧ ∀ a ∈ xs, S a := by
 rcases open_slice ht h with ⟨rfl, _⟩ | ⟨a, len, cap, m, n, D, Pl, rfl, hb, hl, hm, hmm, rfl, hi⟩
 ·exact ⟨none, 0, [], rfl, Nat.le_refl _, Nat.zero_le _, ⟨rfl, by simp, fun h => absurd h (Nat.lt_irrefl _)⟩, fun a h => by simp at h⟩
 ·have hlm : len ≤ m := by rw [hmm]; split <;> omega
  obtain ⟨xs, hxl, hx⟩ := list_of (p := fun i (y : α) => (∃ c, c.length = d.sz ∧ d.K w y c ∧ ∀ q u, c[q]? = some u → w.cell? (a.add (i * d.sz + q)) = some u) ∧ S y) len (fun i hil => by
   obtain ⟨cs', hc, ht'⟩ := hi i (by omega)
   obtain ⟨y, hy, hS⟩ := hd.2 enc w base spare held n cs' _ ht' (fun z hz => hw z (by
    simp only [DataW.weights, ht]
    refine List.mem_cons_of_mem _ (List.mem_append_left _ (weights_all ?_ z hz))
    exact List.mem_map.2 ⟨i, List.mem_range.2 hil, rfl⟩))
   obtain ⟨_, hcl, hat⟩ := World.cells?_some hc
   refine ⟨y, ⟨cs', by rw [hcl, hd.1], hy, fun q u hu => ?_⟩, hS⟩
   have hq : q < cs'.length := (List.getElem?_eq_some_iff.1 hu).1
   have := hat q (by omega)
   rw [hd.1, Deep.add_add] at this
   rw [this, hu])
  have h64 : maxLen ≤ 9223372036854775807 := by decide
  exact ⟨some a, cap, xs, by rw [hxl], by omega, hm, by rw [hxl]; exact ⟨hxl, by omega, fun _ => ⟨a, rfl, fun j p hj => (hx j p hj).1⟩⟩, fun y hy => by
   obtain ⟨j, hj⟩ := List.mem_iff_getElem?.1 hy
   exact (hx j y hj).2⟩
theorem opensS_slice {α : Type} {P : Program} {t e : TypeId} {d : Kd α} {S : α → Prop} (hC : P.cellsOf t = 1) (ht : P.underlying t = some (.slice e)) (hd : OpensS P e d S) : OpensS P t (Kd.slice e d) (fun xs => ∀ a ∈ xs, S a) := by
 refine ⟨hC, fun enc w base spare held fuel cs x h hw => ?_⟩
 obtain ⟨A, c, xs, rfl, h1, _, h2, h3⟩ := opensS_row ht hd h hw
 exact ⟨xs, ⟨A, c, rfl, h1, h2⟩, h3⟩

def OpensTail {α : Type} (P : Program) (fs : List Field) (off : Nat) (d : Kd α) (S : α → Prop) : Prop :=
 ∀ {H : Type} (enc : TypeId × Value → H) (w : World) (base : Nat) (spare : Nat → Bool) (held : Bool) (n : Nat) (cs : List Value) (xs : List (DataW H × List MemPlace)),
  xs.length = fs.length → cs.length = off + d.sz → (∀ (i : Nat) (f : Field), fs[i]? = some f → DataW.trod enc P w base spare held n f.type ((cs.drop f.offset).take (P.cellsOf f.type)) = xs[i]?) →
  (∀ m ∈ DataW.weightsEach P (fs.map (·.type)) (xs.map (·.1)), m ≤ reachBytes) → ∃ a, d.K w a (cs.drop off) ∧ S a
theorem opensTail_last {α : Type} {P : Program} {f : Field} {off : Nat} {d : Kd α} {S : α → Prop} (ho : f.offset = off) (hd : OpensS P f.type d S) : OpensTail P [f] off d S := by
 intro H enc w base spare held n cs xs hx hl h hw
 obtain ⟨x, rfl⟩ : ∃ x, xs = [x] := by
  match xs, hx with
  | [x], _ => exact ⟨x, rfl⟩
 have h0 := h 0 f rfl
 rw [ho, hd.1, List.take_of_length_le (by rw [List.length_drop]; omega)] at h0
 exact hd.2 enc w base spare held n _ x h0 (fun m hm => hw m (by simp [DataW.weightsEach, hm]))
theorem opensTail_cons {α β : Type} {P : Program} {f : Field} {fs : List Field} {off : Nat} {d : Kd α} {e : Kd β} {S : α → Prop} {T : β → Prop} (ho : f.offset = off) (hd : OpensS P f.type d S) (he : OpensTail P fs (off + d.sz) e T) :
  OpensTail P (f :: fs) off (Kd.pair d e) (fun x => S x.1 ∧ T x.2) := by
 intro H enc w base spare held n cs xs hx hl h hw
 obtain ⟨x, xs, rfl⟩ : ∃ x r, xs = x :: r := by
  match xs, hx with
  | x :: r, _ => exact ⟨x, r, rfl⟩
 have hsz : (Kd.pair d e).sz = d.sz + e.sz := rfl
 rw [hsz] at hl
 have h0 := h 0 f rfl
 rw [ho, hd.1] at h0
 obtain ⟨a, ha, hS⟩ := hd.2 enc w base spare held n _ x h0 (fun m hm => hw m (by simp [DataW.weightsEach, hm]))
 obtain ⟨b, hb, hT⟩ := he enc w base spare held n cs xs (by simpa using hx) (by omega) (fun i g hg => h (i + 1) g (by simpa using hg)) (fun m hm => hw m (by simp [DataW.weightsEach] at hm ⊢; exact .inr hm))
 refine ⟨(a, b), ⟨(cs.drop off).take d.sz, cs.drop (off + d.sz), ?_, ha, hb⟩, hS, hT⟩
 rw [← List.drop_drop, List.take_append_drop]
theorem opensS_struct {α β : Type} {P : Program} {t : TypeId} {fs : Array Field} {l : List Field} {d : Kd α} {S : α → Prop} (f : β → α) (ht : P.underlying t = some (.struct fs)) (hl : fs.toList = l) (hC : P.cellsOf t = d.sz) (hT : OpensTail P l 0 d S) (hf : ∀ a, ∃ x, f x = a) :
  OpensS P t (Kd.iso d f) (fun x => S (f x)) := by
 subst hl
 refine ⟨hC, fun enc w base spare held fuel cs x h hw => ?_⟩
 obtain ⟨ys, n, _, rfl, hlen, hyl, hfl⟩ := DataW.trod_struct ht h
 obtain ⟨a, ha, hS⟩ := hT enc w base spare held n cs ys (by rw [hyl]; simp) (by rw [hlen, hC]; omega) (fun i g hg => hfl i g (by rw [← hg]; simp)) (fun m hm => hw m (by simp only [DataW.weights, ht]; exact hm))
 obtain ⟨y, rfl⟩ := hf a
 exact ⟨y, by rw [List.drop_zero] at ha; exact ha, hS⟩
end Go.Proofs.YticacakoefojbaaGreat
namespace Go.Proofs
open Go.Shelf
def Tryz.lays169_ren : Go.Shelf.Ren := ⟨fun | 169 => 142 | n => n, fun | 70 => 129 | 9 => 9 | 0 => 0 | 72 => 131 | 37 => 128 | 127 => 143 | 3 => 3 | 5 => 5 | n => n, fun | n => n⟩
theorem Tryz.lays169 : Go.Proofs.Lays.n169 Tryz.prog Tryz.lays169_ren := {
 mixed := by kernel_rfl
 f169 := Tryz.func142.trans (congrArg some (by kernel_rfl))
 t0 := Tryz.underlying0
 a0 := Tryz.isAgg0
 z0 := Tryz.sizeOf0
 v0 := Tryz.zeroValue0
 t3 := Tryz.underlying3
 a3 := Tryz.isAgg3
 z3 := Tryz.sizeOf3
 v3 := Tryz.zeroValue3
 t9 := Tryz.underlying9
 a9 := Tryz.isAgg9
 z9 := Tryz.sizeOf9
 v9 := Tryz.zeroValue9
 t37 := Tryz.underlying128
 a37 := Tryz.isAgg128
 z37 := Tryz.sizeOf128
 v37 := Tryz.zeroValue128
 t70 := Tryz.underlying129
 a70 := Tryz.isAgg129
 z70 := Tryz.sizeOf129
 v70 := Tryz.zeroValue129
 t72 := Tryz.underlying131
 a72 := Tryz.isAgg131
 z72 := Tryz.sizeOf131
 v72 := Tryz.zeroValue131
 t127 := Tryz.underlying143
 a127 := Tryz.isAgg143
 z127 := Tryz.sizeOf143
 v127 := Tryz.zeroValue143 }
theorem Tryz.Builder_Extra_169 : Builder.Extra Tryz.prog Tryz.lays169_ren := {
 sizeBuilder := by kernel_rfl
 liesBuilder := by kernel_rfl
 t5 := Tryz.underlying5
 a5 := Tryz.isAgg5
 z5 := Tryz.sizeOf5
 v5 := Tryz.zeroValue5
 infoByte := by kernel_rfl
 cellsByte := by kernel_rfl
 sizeByte := by kernel_rfl
 neB5 := by decide }
open Go.RowKit in
theorem Tryz.Builder_String_any (B b : Nat) (l : List UInt8) (w : World) (h : Lib.IsBuilder 131 5 B b (Lib.byteCells l) w) (hBw : B ≤ w.heap.size) :
  Calls Tryz.prog 142 #[.pointer (some ⟨b, 0, none⟩)] w fun e w' => e = .returned (.string ⟨l.toArray⟩) ∧ Below B w w' := Any.Builder_String_any Tryz.lays169 Tryz.Builder_Extra_169 B b l w h hBw
def Tryz.lays128_ren : Go.Shelf.Ren := ⟨fun | 128 => 134 | n => n, fun | 51 => 124 | 3 => 3 | 4 => 4 | 46 => 101 | 5 => 5 | 9 => 9 | n => n, fun | n => n⟩
def Tryz.lays125_ren : Go.Shelf.Ren := ⟨fun | 125 => 103 | 128 => 134 | 129 => 135 | n => n, fun | 46 => 101 | 3 => 3 | 51 => 124 | 53 => 126 | 4 => 4 | 5 => 5 | 9 => 9 | n => n, fun | n => n⟩
def Tryz.lays213_ren : Go.Shelf.Ren := ⟨fun | 213 => 71 | 265 => 106 | n => n, fun | 9 => 9 | 3 => 3 | n => n, fun | n => n⟩
def Tryz.lays106_ren : Go.Shelf.Ren := ⟨fun | 106 => 42 | 213 => 71 | 265 => 106 | n => n, fun | 9 => 9 | 3 => 3 | n => n, fun | n => n⟩
def Tryz.lays129_ren : Go.Shelf.Ren := ⟨fun | 129 => 135 | n => n, fun | 53 => 126 | 3 => 3 | 4 => 4 | 46 => 101 | 5 => 5 | 9 => 9 | n => n, fun | n => n⟩
def Tryz.lays217_ren : Go.Shelf.Ren := ⟨fun | 217 => 156 | 266 => 161 | n => n, fun | 9 => 9 | 5 => 5 | 3 => 3 | n => n, fun | n => n⟩
def Tryz.lays224_ren : Go.Shelf.Ren := ⟨fun | 224 => 158 | n => n, fun | 3 => 3 | n => n, fun | n => n⟩
def Tryz.lays314_ren : Go.Shelf.Ren := ⟨fun | 314 => 162 | n => n, fun | 9 => 9 | 51 => 124 | 3 => 3 | 4 => 4 | 5 => 5 | 46 => 101 | n => n, fun | n => n⟩
def Tryz.lays267_ren : Go.Shelf.Ren := ⟨fun | 267 => 159 | 314 => 162 | n => n, fun | 9 => 9 | 3 => 3 | 146 => 152 | 51 => 124 | 4 => 4 | 5 => 5 | 46 => 101 | n => n, fun | n => n⟩
def Tryz.lays219_ren : Go.Shelf.Ren := ⟨fun | 219 => 152 | 217 => 156 | 225 => 157 | 224 => 158 | 267 => 159 | 266 => 161 | 314 => 162 | n => n, fun | 9 => 9 | 3 => 3 | 4 => 4 | 5 => 5 | 46 => 101 | 146 => 152 | 51 => 124 | n => n, fun | 1 => 0 | n => n⟩
theorem Tryz.lays219 : Go.Proofs.Lays.n219 Tryz.prog Tryz.lays219_ren := {
 mixed := by kernel_rfl
 f217 := Tryz.func156.trans (congrArg some (by kernel_rfl))
 f219 := Tryz.func152.trans (congrArg some (by kernel_rfl))
 f224 := Tryz.func158.trans (congrArg some (by kernel_rfl))
 f225 := Tryz.func157.trans (congrArg some (by kernel_rfl))
 f266 := Tryz.func161.trans (congrArg some (by kernel_rfl))
 f267 := Tryz.func159.trans (congrArg some (by kernel_rfl))
 f314 := Tryz.func162.trans (congrArg some (by kernel_rfl))
 t3 := Tryz.underlying3
 a3 := Tryz.isAgg3
 z3 := Tryz.sizeOf3
 v3 := Tryz.zeroValue3
 t4 := Tryz.underlying4
 a4 := Tryz.isAgg4
 z4 := Tryz.sizeOf4
 v4 := Tryz.zeroValue4
 t5 := Tryz.underlying5
 a5 := Tryz.isAgg5
 z5 := Tryz.sizeOf5
 v5 := Tryz.zeroValue5
 t9 := Tryz.underlying9
 a9 := Tryz.isAgg9
 z9 := Tryz.sizeOf9
 v9 := Tryz.zeroValue9
 t46 := Tryz.underlying101
 a46 := Tryz.isAgg101
 z46 := Tryz.sizeOf101
 v46 := Tryz.zeroValue101
 t51 := Tryz.underlying124
 a51 := Tryz.isAgg124
 z51 := Tryz.sizeOf124
 v51 := Tryz.zeroValue124
 t146 := Tryz.underlying152
 a146 := Tryz.isAgg152
 z146 := Tryz.sizeOf152
 v146 := Tryz.zeroValue152
 g1 := by kernel_rfl }
open Go.RowKit Go.Lib in
theorem Tryz.stringslite_Index_one (s : ByteArray) (c : UInt8) (w : World) :
  Calls Tryz.prog 152 #[.string s, .string ⟨#[c]⟩] w fun e w' => e = .returned (.int .i64 (Lib.indexByte s.data.toList c)) ∧ w' = w := Any.stringslite_Index_one Tryz.lays219 s c w
def Tryz.lays220_ren : Go.Shelf.Ren := ⟨fun | 220 => 140 | 219 => 152 | 217 => 156 | 225 => 157 | 224 => 158 | 267 => 159 | 266 => 161 | 314 => 162 | n => n, fun | 9 => 9 | 4 => 4 | 3 => 3 | 5 => 5 | 46 => 101 | 146 => 152 | 51 => 124 | n => n, fun | 1 => 0 | n => n⟩
def Tryz.lays145_ren : Go.Shelf.Ren := ⟨fun | 145 => 120 | 220 => 140 | 219 => 152 | 217 => 156 | 225 => 157 | 224 => 158 | 267 => 159 | 266 => 161 | 314 => 162 | n => n, fun | 9 => 9 | 4 => 4 | 59 => 111 | 3 => 3 | 5 => 5 | 46 => 101 | 146 => 152 | 51 => 124 | n => n, fun | 1 => 0 | n => n⟩
def Tryz.laysM219_ren : Go.Shelf.Ren := ⟨fun | 219 => 152 | 217 => 156 | 225 => 157 | 224 => 158 | 267 => 159 | 266 => 161 | 314 => 162 | n => n, fun | 9 => 9 | 3 => 3 | 4 => 4 | 5 => 5 | 46 => 101 | 146 => 152 | 51 => 124 | n => n, fun | 1 => 0 | n => n⟩
def Tryz.laysM220_ren : Go.Shelf.Ren := ⟨fun | 220 => 140 | 219 => 152 | 217 => 156 | 225 => 157 | 224 => 158 | 267 => 159 | 266 => 161 | 314 => 162 | n => n, fun | 9 => 9 | 4 => 4 | 3 => 3 | 5 => 5 | 46 => 101 | 146 => 152 | 51 => 124 | n => n, fun | 1 => 0 | n => n⟩
def Tryz.laysM145_ren : Go.Shelf.Ren := ⟨fun | 145 => 120 | 220 => 140 | 219 => 152 | 217 => 156 | 225 => 157 | 224 => 158 | 267 => 159 | 266 => 161 | 314 => 162 | n => n, fun | 9 => 9 | 4 => 4 | 59 => 111 | 3 => 3 | 5 => 5 | 46 => 101 | 146 => 152 | 51 => 124 | n => n, fun | 1 => 0 | n => n⟩
def Tryz.lays190_ren : Go.Shelf.Ren := ⟨fun | 190 => 68 | 125 => 103 | 258 => 102 | 128 => 134 | 129 => 135 | 302 => 125 | 303 => 126 | 304 => 127 | 305 => 128 | 306 => 129 | 307 => 130 | 308 => 131 | 309 => 132 | 310 => 133 | 333 => 144 | 329 => 145 | 330 => 146 | 334 => 147 | 335 => 148 | 336 => 149 | 344 => 155 | n => n, fun | 31 => 29 | 9 => 9 | 3 => 3 | 46 => 101 | 0 => 0 | 51 => 124 | 53 => 126 | 4 => 4 | 183 => 117 | 182 => 116 | 131 => 121 | 5 => 5 | 218 => 137 | 222 => 141 | 228 => 145 | 229 => 146 | n => n, fun | n => n⟩
theorem Tryz.lays190 : Go.Proofs.Lays.n190 Tryz.prog Tryz.lays190_ren := {
 mixed := by kernel_rfl
 f125 := Tryz.func103.trans (congrArg some (by kernel_rfl))
 f128 := Tryz.func134.trans (congrArg some (by kernel_rfl))
 f129 := Tryz.func135.trans (congrArg some (by kernel_rfl))
 f190 := Tryz.func68.trans (congrArg some (by kernel_rfl))
 f258 := Tryz.func102.trans (congrArg some (by kernel_rfl))
 f302 := Tryz.func125.trans (congrArg some (by kernel_rfl))
 f303 := Tryz.func126.trans (congrArg some (by kernel_rfl))
 f304 := Tryz.func127.trans (congrArg some (by kernel_rfl))
 f305 := Tryz.func128.trans (congrArg some (by kernel_rfl))
 f306 := Tryz.func129.trans (congrArg some (by kernel_rfl))
 f307 := Tryz.func130.trans (congrArg some (by kernel_rfl))
 f308 := Tryz.func131.trans (congrArg some (by kernel_rfl))
 f309 := Tryz.func132.trans (congrArg some (by kernel_rfl))
 f310 := Tryz.func133.trans (congrArg some (by kernel_rfl))
 f329 := Tryz.func145.trans (congrArg some (by kernel_rfl))
 f330 := Tryz.func146.trans (congrArg some (by kernel_rfl))
 f333 := Tryz.func144.trans (congrArg some (by kernel_rfl))
 f334 := Tryz.func147.trans (congrArg some (by kernel_rfl))
 f335 := Tryz.func148.trans (congrArg some (by kernel_rfl))
 f336 := Tryz.func149.trans (congrArg some (by kernel_rfl))
 f344 := Tryz.func155.trans (congrArg some (by kernel_rfl))
 t0 := Tryz.underlying0
 a0 := Tryz.isAgg0
 z0 := Tryz.sizeOf0
 v0 := Tryz.zeroValue0
 t3 := Tryz.underlying3
 a3 := Tryz.isAgg3
 z3 := Tryz.sizeOf3
 v3 := Tryz.zeroValue3
 t4 := Tryz.underlying4
 a4 := Tryz.isAgg4
 z4 := Tryz.sizeOf4
 v4 := Tryz.zeroValue4
 t5 := Tryz.underlying5
 a5 := Tryz.isAgg5
 z5 := Tryz.sizeOf5
 v5 := Tryz.zeroValue5
 t9 := Tryz.underlying9
 a9 := Tryz.isAgg9
 z9 := Tryz.sizeOf9
 v9 := Tryz.zeroValue9
 t31 := Tryz.underlying29
 a31 := Tryz.isAgg29
 z31 := Tryz.sizeOf29
 v31 := Tryz.zeroValue29
 t46 := Tryz.underlying101
 a46 := Tryz.isAgg101
 z46 := Tryz.sizeOf101
 v46 := Tryz.zeroValue101
 t51 := Tryz.underlying124
 a51 := Tryz.isAgg124
 z51 := Tryz.sizeOf124
 v51 := Tryz.zeroValue124
 t53 := Tryz.underlying126
 a53 := Tryz.isAgg126
 z53 := Tryz.sizeOf126
 v53 := Tryz.zeroValue126
 t131 := Tryz.underlying121
 a131 := Tryz.isAgg121
 z131 := Tryz.sizeOf121
 v131 := Tryz.zeroValue121
 t182 := Tryz.underlying116
 a182 := Tryz.isAgg116
 z182 := Tryz.sizeOf116
 v182 := Tryz.zeroValue116
 t183 := Tryz.underlying117
 a183 := Tryz.isAgg117
 z183 := Tryz.sizeOf117
 v183 := Tryz.zeroValue117
 t218 := Tryz.underlying137
 a218 := Tryz.isAgg137
 z218 := Tryz.sizeOf137
 v218 := Tryz.zeroValue137
 t222 := Tryz.underlying141
 a222 := Tryz.isAgg141
 z222 := Tryz.sizeOf141
 v222 := Tryz.zeroValue141
 t228 := Tryz.underlying145
 a228 := Tryz.isAgg145
 z228 := Tryz.sizeOf145
 v228 := Tryz.zeroValue145
 t229 := Tryz.underlying146
 a229 := Tryz.isAgg146
 z229 := Tryz.sizeOf146
 v229 := Tryz.zeroValue146 }
open Go.Sort Go.RowKit in
theorem Tryz.slices_Sort_string (blk off cap : Nat) (ss : List (List UInt8)) (w : World) (hH : Holds encStr w blk off ss.toArray) (hblk : blk < w.heap.size) (hsz : ss.length < 4611686018427387904) :
  Calls Tryz.prog 68 #[.slice (some ⟨blk, off, none⟩) ss.length cap] w fun e w' =>
   e = .returned (.tuple #[]) ∧ ∃ n os, w' = grow (putRow encStr (Sort.ahead w n) blk off (ss.mergeSort fun x y => decide (x ≤ y)).toArray) os := Any.slices_Sort_string Tryz.lays190 blk off cap ss w hH hblk hsz
def Tryz.lays315_ren : Go.Shelf.Ren := ⟨fun | 315 => 154 | n => n, fun | 9 => 9 | 40 => 113 | 4 => 4 | 3 => 3 | 0 => 0 | 21 => 21 | n => n, fun | n => n⟩
def Tryz.laysGw15_ren : Go.Shelf.Ren := ⟨fun | 15 => 143 | 20 => 154 | n => n, fun | 9 => 9 | 23 => 113 | 3 => 3 | 4 => 4 | 0 => 0 | 21 => 21 | n => n, fun | n => n⟩
def Tryz.laysGw17_ren : Go.Shelf.Ren := ⟨fun | 17 => 123 | 15 => 143 | 20 => 154 | n => n, fun | 9 => 9 | 23 => 113 | 4 => 4 | 3 => 3 | 0 => 0 | 21 => 21 | n => n, fun | n => n⟩
theorem Tryz.laysGw17 : Go.Proofs.LaysGw.n17 Tryz.prog Tryz.laysGw17_ren := {
 mixed := by kernel_rfl
 f15 := Tryz.func143.trans (congrArg some (by kernel_rfl))
 f17 := Tryz.func123.trans (congrArg some (by kernel_rfl))
 f20 := Tryz.func154.trans (congrArg some (by kernel_rfl))
 t0 := Tryz.underlying0
 a0 := Tryz.isAgg0
 z0 := Tryz.sizeOf0
 v0 := Tryz.zeroValue0
 i0 := by kernel_rfl
 t3 := Tryz.underlying3
 a3 := Tryz.isAgg3
 z3 := Tryz.sizeOf3
 v3 := Tryz.zeroValue3
 i3 := by kernel_rfl
 t4 := Tryz.underlying4
 a4 := Tryz.isAgg4
 z4 := Tryz.sizeOf4
 v4 := Tryz.zeroValue4
 i4 := by kernel_rfl
 t9 := Tryz.underlying9
 a9 := Tryz.isAgg9
 z9 := Tryz.sizeOf9
 v9 := Tryz.zeroValue9
 i9 := by kernel_rfl
 t21 := Tryz.underlying21
 a21 := Tryz.isAgg21
 z21 := Tryz.sizeOf21
 v21 := Tryz.zeroValue21
 i21 := by kernel_rfl
 t23 := Tryz.underlying113
 a23 := Tryz.isAgg113
 z23 := Tryz.sizeOf113
 v23 := Tryz.zeroValue113
 i23 := by kernel_rfl }
open Go.RowKit Go.Lib in
theorem Tryz.strings_ContainsFunc (g : Nat) (lb : Array Value) (eg : ∀ args w, (callFunc g args).run Tryz.prog w = .ok (.enter g args) w) (p : Nat → Bool) (s : ByteArray) (w : World) (hp : PredAt Tryz.prog g lb encR p w) :
  Calls Tryz.prog 123 #[.string s, .func (.func g) #[] lb] w fun e w' => e = .returned (.bool (decide (0 ≤ Lib.idxFunc p true s))) ∧ Below w.heap.size w w' := Any.strings_ContainsFunc Tryz.laysGw17 g lb eg p s w hp
def Tryz.lays206_ren : Go.Shelf.Ren := ⟨fun | 206 => 109 | n => n, fun | 9 => 9 | 4 => 4 | 3 => 3 | n => n, fun | n => n⟩
def Tryz.lays99_ren : Go.Shelf.Ren := ⟨fun | 99 => 82 | 206 => 109 | n => n, fun | 9 => 9 | 4 => 4 | 3 => 3 | n => n, fun | n => n⟩
theorem Tryz.lays99 : Go.Proofs.Lays.n99 Tryz.prog Tryz.lays99_ren := {
 mixed := by kernel_rfl
 f99 := Tryz.func82.trans (congrArg some (by kernel_rfl))
 f206 := Tryz.func109.trans (congrArg some (by kernel_rfl))
 t3 := Tryz.underlying3
 a3 := Tryz.isAgg3
 z3 := Tryz.sizeOf3
 v3 := Tryz.zeroValue3
 t4 := Tryz.underlying4
 a4 := Tryz.isAgg4
 z4 := Tryz.sizeOf4
 v4 := Tryz.zeroValue4
 t9 := Tryz.underlying9
 a9 := Tryz.isAgg9
 z9 := Tryz.sizeOf9
 v9 := Tryz.zeroValue9 }
open Go.RowKit Go.Lib in
theorem Tryz.strings_HasPrefix (s p : ByteArray) (w : World) :
  Calls Tryz.prog 82 #[.string s, .string p] w fun e w' => e = .returned (.bool (Lib.hasPrefix s.data.toList p.data.toList)) ∧ w' = w := Any.strings_HasPrefix Tryz.lays99 s p w
def Tryz.lays109_ren : Go.Shelf.Ren := ⟨fun | 109 => 86 | n => n, fun | 31 => 29 | 9 => 9 | 3 => 3 | 0 => 0 | 4 => 4 | n => n, fun | n => n⟩
def Tryz.lays110_ren : Go.Shelf.Ren := ⟨fun | 110 => 49 | 109 => 86 | n => n, fun | 31 => 29 | 9 => 9 | 4 => 4 | 3 => 3 | 0 => 0 | n => n, fun | n => n⟩
def Tryz.laysNm216_ren : Go.Shelf.Ren := ⟨fun | 16 => 67 | n => n, fun | 24 => 29 | 9 => 9 | 4 => 4 | n => n, fun | n => n⟩
theorem Tryz.laysNm216 : Go.Proofs.Lays2.n16 Tryz.prog Tryz.laysNm216_ren := {
 mixed := by kernel_rfl
 f16 := Tryz.func67.trans (congrArg some (by kernel_rfl))
 t4 := Tryz.underlying4
 a4 := Tryz.isAgg4
 z4 := Tryz.sizeOf4
 v4 := Tryz.zeroValue4
 t9 := Tryz.underlying9
 a9 := Tryz.isAgg9
 z9 := Tryz.sizeOf9
 v9 := Tryz.zeroValue9
 t24 := Tryz.underlying29
 a24 := Tryz.isAgg29
 z24 := Tryz.sizeOf29
 v24 := Tryz.zeroValue29
 i9 := by kernel_rfl }
open Go.RowKit Go.Lib in
theorem Tryz.slices_Clone_string (b off n c : Nat) (zs : List ByteArray) (w : World) (hz : n ≤ zs.length) (hbig : n * 16 ≤ 140737488355328) (hc : ∀ j, j < zs.length → w.cell? ⟨b, off + j, none⟩ = some (.string (zs.getD j ByteArray.empty))) :
  Calls Tryz.prog 67 #[.slice (some ⟨b, off, none⟩) n c] w fun e w' => ∃ v', e = .returned v' ∧ w'.ownsRow w.heap.size 9 1 v' n ((zs.take n).map (Value.string)) ∧ v' ≠ .slice none 0 0 ∧ Below w.heap.size w w' := Any.slices_Clone_string Tryz.laysNm216 b off n c zs w hz hbig hc
open Go.RowKit Go.Lib in
theorem Tryz.slices_Clone_string_nil (n c : Nat) (w : World) :
  Calls Tryz.prog 67 #[.slice none n c] w fun e w' => e = .returned (.slice none 0 0) ∧ w' = w := Any.slices_Clone_string_nil Tryz.laysNm216 n c w
open Go.RowKit Go.Lib in
theorem Tryz.slices_Clone_string_zero (a : Addr) (c : Nat) (w : World) :
  Calls Tryz.prog 67 #[.slice (some a) 0 c] w fun e w' => ∃ v', e = .returned v' ∧ w'.ownsRow w.heap.size 9 1 v' 0 [] ∧ v' ≠ .slice none 0 0 ∧ Below w.heap.size w w' := Any.slices_Clone_string_zero Tryz.laysNm216 a c w
def Tryz.lays194_ren : Go.Shelf.Ren := ⟨fun | 194 => 69 | n => n, fun | 31 => 29 | 9 => 9 | 3 => 3 | 4 => 4 | 0 => 0 | n => n, fun | n => n⟩
theorem Tryz.lays194 : Go.Proofs.Lays.n194 Tryz.prog Tryz.lays194_ren := {
 mixed := by kernel_rfl
 f194 := Tryz.func69.trans (congrArg some (by kernel_rfl))
 t0 := Tryz.underlying0
 a0 := Tryz.isAgg0
 z0 := Tryz.sizeOf0
 v0 := Tryz.zeroValue0
 t3 := Tryz.underlying3
 a3 := Tryz.isAgg3
 z3 := Tryz.sizeOf3
 v3 := Tryz.zeroValue3
 t4 := Tryz.underlying4
 a4 := Tryz.isAgg4
 z4 := Tryz.sizeOf4
 v4 := Tryz.zeroValue4
 t9 := Tryz.underlying9
 a9 := Tryz.isAgg9
 z9 := Tryz.sizeOf9
 v9 := Tryz.zeroValue9
 t31 := Tryz.underlying29
 a31 := Tryz.isAgg29
 z31 := Tryz.sizeOf29
 v31 := Tryz.zeroValue29 }
open Go.RowKit Go.Lib Go.Sort in
theorem Tryz.slices_Compact_string (blk off cap : Nat) (zs : List (List UInt8)) (w : World) (hH : Holds encStr w blk off zs.toArray) (hsz : zs.length ≤ 9223372036854775807) (hcap : zs.length ≤ cap) :
  Calls Tryz.prog 69 #[.slice (some ⟨blk, off, none⟩) zs.length cap] w fun e w' => e = .returned (.slice (some ⟨blk, off, none⟩) (Lib.compact zs).length cap) ∧ ∃ q, w' = putRow encStr (Sort.ahead w q) blk off (Lib.compact zs ++ List.replicate (zs.length - (Lib.compact zs).length) []).toArray := Any.slices_Compact_string Tryz.lays194 blk off cap zs w hH hsz hcap
open Go.RowKit Go.Lib Go.Sort in
theorem Tryz.slices_Compact_string_empty (a : Option Addr) (cap : Nat) (w : World) :
  Calls Tryz.prog 69 #[.slice a 0 cap] w fun e w' => e = .returned (.slice a 0 cap) ∧ w' = w := Any.slices_Compact_string_empty Tryz.lays194 a cap w
open Go.RowKit Go.Sort in
theorem Tryz.slices_Sort_string_none (p : Option Addr) (cap : Nat) (w : World) :
  Calls Tryz.prog 68 #[.slice p 0 cap] w fun e w' => e = .returned (.tuple #[]) ∧ w' = w := Any.slices_Sort_string_none Tryz.lays190 p cap w
def Tryz.laysSlE43_f69_ren : Go.Shelf.Ren := ⟨fun | 43 => 69 | n => n, fun | 22 => 29 | 23 => 9 | 3 => 3 | 4 => 4 | 0 => 0 | n => n, fun | n => n⟩
def Tryz.laysSlE041_f67_ren : Go.Shelf.Ren := ⟨fun | 41 => 67 | n => n, fun | 22 => 29 | 23 => 9 | 4 => 4 | n => n, fun | n => n⟩
def Tryz.laysSlH6_f87_ren : Go.Shelf.Ren := ⟨fun | 6 => 87 | n => n, fun | 22 => 68 | 23 => 29 | 25 => 72 | 3 => 3 | 0 => 0 | 4 => 4 | n => n, fun | n => n⟩
def Tryz.laysSlH6_f117_ren : Go.Shelf.Ren := ⟨fun | 6 => 117 | n => n, fun | 22 => 29 | 23 => 9 | 25 => 56 | 3 => 3 | 0 => 0 | 4 => 4 | n => n, fun | n => n⟩
def Tryz.laysSlH8_f52_ren : Go.Shelf.Ren := ⟨fun | 8 => 52 | 6 => 87 | n => n, fun | 22 => 68 | 23 => 29 | 25 => 72 | 4 => 4 | 3 => 3 | 0 => 0 | n => n, fun | n => n⟩
def Tryz.laysSlH8_f89_ren : Go.Shelf.Ren := ⟨fun | 8 => 89 | 6 => 117 | n => n, fun | 22 => 29 | 23 => 9 | 25 => 56 | 4 => 4 | 3 => 3 | 0 => 0 | n => n, fun | n => n⟩
def Tryz.lays240_ren : Go.Shelf.Ren := ⟨fun | 240 => 153 | 276 => 160 | n => n, fun | 0 => 0 | 4 => 4 | 9 => 9 | 20 => 20 | 37 => 128 | 70 => 129 | 72 => 131 | 164 => 150 | n => n, fun n => n⟩
def Tryz.lays167_ren : Go.Shelf.Ren := ⟨fun | 167 => 141 | 240 => 153 | 276 => 160 | n => n, fun | 0 => 0 | 4 => 4 | 5 => 5 | 9 => 9 | 20 => 20 | 37 => 128 | 70 => 129 | 72 => 131 | 75 => 133 | 80 => 135 | 164 => 150 | n => n, fun n => n⟩
theorem Tryz.lays167 : Go.Proofs.Lays.n167 Tryz.prog Tryz.lays167_ren := {
 mixed := by kernel_rfl
 f167 := Tryz.func141.trans (congrArg some (by kernel_rfl))
 f240 := Tryz.func153.trans (congrArg some (by kernel_rfl))
 f276 := Tryz.func160.trans (congrArg some (by kernel_rfl))
 t0 := Tryz.underlying0
 a0 := Tryz.isAgg0
 z0 := Tryz.sizeOf0
 v0 := Tryz.zeroValue0
 t4 := Tryz.underlying4
 a4 := Tryz.isAgg4
 z4 := Tryz.sizeOf4
 v4 := Tryz.zeroValue4
 t5 := Tryz.underlying5
 a5 := Tryz.isAgg5
 z5 := Tryz.sizeOf5
 v5 := Tryz.zeroValue5
 t9 := Tryz.underlying9
 a9 := Tryz.isAgg9
 z9 := Tryz.sizeOf9
 v9 := Tryz.zeroValue9
 t20 := Tryz.underlying20
 a20 := Tryz.isAgg20
 z20 := Tryz.sizeOf20
 v20 := Tryz.zeroValue20
 t37 := Tryz.underlying128
 a37 := Tryz.isAgg128
 z37 := Tryz.sizeOf128
 v37 := Tryz.zeroValue128
 t70 := Tryz.underlying129
 a70 := Tryz.isAgg129
 z70 := Tryz.sizeOf129
 v70 := Tryz.zeroValue129
 t72 := Tryz.underlying131
 a72 := Tryz.isAgg131
 z72 := Tryz.sizeOf131
 v72 := Tryz.zeroValue131
 t75 := Tryz.underlying133
 a75 := Tryz.isAgg133
 z75 := Tryz.sizeOf133
 v75 := Tryz.zeroValue133
 t164 := Tryz.underlying150
 a164 := Tryz.isAgg150
 z164 := Tryz.sizeOf150
 v164 := Tryz.zeroValue150 }
theorem Tryz.Builder_Extra_167 : Builder.Extra Tryz.prog Tryz.lays167_ren where
 sizeBuilder := by kernel_rfl
 liesBuilder := by kernel_rfl
 t5 := Tryz.underlying5
 a5 := Tryz.isAgg5
 z5 := Tryz.sizeOf5
 v5 := Tryz.zeroValue5
 infoByte := by kernel_rfl
 cellsByte := by kernel_rfl
 sizeByte := by kernel_rfl
 neB5 := by decide
open Go.RowKit in
theorem Tryz.Builder_WriteByte (B b : Nat) (bs : List Value) (c : Int) (w : World) (h : Lib.IsBuilder 131 5 B b bs w) (hlen : bs.length + 1 ≤ 140737488355328) (hBw : B ≤ w.heap.size) :
  Calls Tryz.prog 141 #[.pointer (some ⟨b, 0, none⟩), .int .u8 c] w fun e w' => e = .returned .nilIface ∧ (Lib.BuilderAt 131 5 B b (.pointer (some ⟨b, 0, none⟩)) (bs ++ [.int .u8 c]) w' ∧ Below B w w') := Any.Builder_WriteByte Tryz.lays167 Tryz.Builder_Extra_167 B b bs c w h hlen hBw
end Go.Proofs
namespace Go.Proofs.YticacakoefojbaaGreat

def lead (p : UInt8 → Bool) (l : List UInt8) : Nat := (l.takeWhile p).length
def rcut (p : UInt8 → Bool) (l : List UInt8) : List UInt8 := (l.reverse.dropWhile p).reverse
def tail (p : UInt8 → Bool) (l : List UInt8) : Nat := (rcut p l).length

theorem lead_le (p : UInt8 → Bool) (l : List UInt8) : lead p l ≤ l.length := by
 unfold lead
 induction l with
 | nil => simp
 | cons a t ih => simp only [List.takeWhile_cons]; split <;> simp <;> omega
theorem lead_at (p : UInt8 → Bool) : ∀ (l : List UInt8) (k : Nat), k < lead p l → ∃ c, l[k]? = some c ∧ p c = true
 | [], k, h => by simp [lead] at h
 | a :: t, k, h => by
  unfold lead at h
  simp only [List.takeWhile_cons] at h
  split at h
  ·rename_i ha
   cases k with
   | zero => exact ⟨a, rfl, ha⟩
   | succ k => exact lead_at p t k (by unfold lead; simpa using h)
  ·simp at h
theorem lead_stop_at (p : UInt8 → Bool) : ∀ (l : List UInt8) (c : UInt8), l[lead p l]? = some c → p c = false
 | [], c, h => by simp [lead] at h
 | a :: t, c, h => by
  unfold lead at h
  simp only [List.takeWhile_cons] at h
  split at h
  ·exact lead_stop_at p t c (by unfold lead; simpa using h)
  ·rename_i ha
   simp at h
   subst h
   simpa using ha
theorem lead_step {p : UInt8 → Bool} {l : List UInt8} {k : Nat} {c : UInt8} (hk : k ≤ lead p l) (hc : l[k]? = some c) (hp : p c = true) : k + 1 ≤ lead p l := by
 rcases Nat.lt_or_ge k (lead p l) with h | h
 ·exact h
 ·obtain rfl : k = lead p l := by omega
  rw [lead_stop_at p l c hc] at hp
  cases hp
theorem lead_done {p : UInt8 → Bool} {l : List UInt8} {k : Nat} {c : UInt8} (hk : k ≤ lead p l) (hc : l[k]? = some c) (hp : p c = false) : k = lead p l := by
 rcases Nat.lt_or_ge k (lead p l) with h | h
 ·obtain ⟨d, hd, hpd⟩ := lead_at p l k h
  rw [hc] at hd
  cases hd
  rw [hp] at hpd
  cases hpd
 ·omega
theorem lead_full {p : UInt8 → Bool} {l : List UInt8} {k : Nat} (hk : k ≤ lead p l) (hl : l.length ≤ k) : k = lead p l := by
 have := lead_le p l
 omega
theorem drop_lead (p : UInt8 → Bool) : ∀ l : List UInt8, l.drop (lead p l) = l.dropWhile p
 | [] => by simp [lead]
 | a :: t => by
  unfold lead
  simp only [List.takeWhile_cons, List.dropWhile_cons]
  split
  ·have := drop_lead p t
   unfold lead at this
   simpa using this
  ·simp

theorem rcut_append_one (p : UInt8 → Bool) (l : List UInt8) (c : UInt8) : rcut p (l ++ [c]) = if p c then rcut p l else l ++ [c] := by
 unfold rcut
 rw [List.reverse_append]
 simp only [List.reverse_cons, List.reverse_nil, List.nil_append, List.cons_append, List.dropWhile_cons]
 split <;> simp
theorem rcut_nil (p : UInt8 → Bool) : rcut p [] = [] := by simp [rcut]
theorem tail_le (p : UInt8 → Bool) (l : List UInt8) : tail p l ≤ l.length := by
 unfold tail rcut
 rw [List.length_reverse]
 have := (List.dropWhile_sublist p (l := l.reverse)).length_le
 simpa using this
theorem take_succ' {l : List UInt8} {k : Nat} {c : UInt8} (hc : l[k]? = some c) : l.take (k + 1) = l.take k ++ [c] := by
 rw [List.take_add_one, hc]; rfl
theorem rcut_take_step {p : UInt8 → Bool} {l : List UInt8} {k : Nat} {c : UInt8} (h : rcut p (l.take (k + 1)) = rcut p l) (hc : l[k]? = some c) (hp : p c = true) : rcut p (l.take k) = rcut p l := by
 rw [take_succ' hc, rcut_append_one, hp] at h
 simpa using h
theorem rcut_take_done {p : UInt8 → Bool} {l : List UInt8} {k : Nat} {c : UInt8} (h : rcut p (l.take (k + 1)) = rcut p l) (hc : l[k]? = some c) (hp : p c = false) : rcut p l = l.take (k + 1) := by
 rw [take_succ' hc, rcut_append_one, hp] at h
 rw [take_succ' hc]
 simpa using h.symm

def ws (c : UInt8) : Bool := decide (c.toNat ≤ 32)
def keep (c : UInt8) : Bool := c.toNat != 9 && c.toNat != 10 && c.toNat != 13
def strip (l : List UInt8) : List UInt8 := (rcut ws (l.dropWhile ws)).filter keep
end Go.Proofs.YticacakoefojbaaGreat
namespace Go.Proofs.YticacakoefojbaaGreat
open Go.RowKit

theorem hid {p : Prop} (h : p) : Hid p := h
theorem byte_at (s : ByteArray) (k : Nat) (h : k < s.size) : s.data.toList[k]? = some (s[k]'h) := by
 rw [List.getElem?_eq_getElem (by simpa using h)]; rfl
theorem byte_drop (s : ByteArray) (a j : Nat) (h : a + j < s.size) : (s.data.toList.drop a)[j]? = some (s[a + j]'h) := by
 rw [List.getElem?_drop]; exact byte_at s (a + j) h
theorem ret_str {a b : List UInt8} (h : a = b) : Ending.returned (.string ⟨a.toArray⟩) = .returned (.string ⟨b.toArray⟩) := by rw [h]
theorem ret_bool {a b : Bool} (h : a = b) : Ending.returned (.bool a) = .returned (.bool b) := by rw [h]
theorem extract_pre (s : ByteArray) (i : Nat) : s.extract 0 i = ⟨(s.data.toList.take i).toArray⟩ := by rw [Lib.extract_eq]; simp
theorem extract_suf (s : ByteArray) (i : Nat) : s.extract i s.size = ⟨(s.data.toList.drop i).toArray⟩ := by
 rw [Lib.extract_eq]
 congr 2
 exact List.take_of_length_le (by rw [List.length_drop, ← Lib.size_eq]; exact Nat.le_refl _)
theorem drop_one {l : List UInt8} {i : Nat} {c : UInt8} (h0 : l[i]? = some c) : l.drop i = c :: l.drop (i + 1) := by
 rw [List.drop_eq_getElem?_toList_append, h0]
 simp
def bnd {α : Type} (s : ByteArray) (x : α) : Option α := if s.size ≤ 140737488351232 then some x else none
theorem bnd_some {α : Type} {s : ByteArray} {x r : α} (h : bnd s x = some r) : s.size ≤ 140737488351232 ∧ x = r := by
 unfold bnd at h
 split at h
 ·exact ⟨by assumption, Option.some.inj h⟩
 ·cases h
theorem bnd_of {α : Type} {s : ByteArray} (x : α) (h : s.size ≤ 140737488351232) : bnd s x = some x := by unfold bnd; rw [if_pos h]
def mkS (l : List UInt8) : ByteArray := ⟨l.toArray⟩
end Go.Proofs.YticacakoefojbaaGreat
namespace Go.Proofs.YticacakoefojbaaGreat
open Go.RowKit Go.Lib Go.Shelf Go.Sort Go.Proofs.YticacakoefojbaaGreatW.PrintWords

def sorted (l : List (List UInt8)) : List (List UInt8) := Lib.compact (l.mergeSort fun x y => decide (x ≤ y))
def fold_Sorted.f (l0 : List ByteArray) : Option (List ByteArray) := if l0.length ≤ 4294967296 then some ((sorted (l0.map (·.data.toList))).map mkS) else none
theorem spot_none {w : World} {ad : Addr} {v : Value} (h : w.cell? ad = some v) : ad.spot = none := by
 unfold World.cell? at h
 cases hs : ad.spot with
 | none => rfl
 | some x => rw [hs] at h; simp at h; split at h <;> cases h
theorem enc_mkS (l : List (List UInt8)) : l.map encStr = (l.map mkS).map Value.string := by
 rw [List.map_map]; rfl
theorem enc_of (l : List ByteArray) : (l.map (·.data.toList)).map encStr = l.map Value.string := by
 rw [List.map_map]
 apply List.map_congr_left
 intro s _
 show Value.string ⟨s.data.toList.toArray⟩ = Value.string s
 congr 1
theorem own_shrink {w : World} {base g cap n m : Nat} {e : TypeId} {xs : List Value} (hm : m ≤ n) (h : w.ownsRow base e 1 (.slice (some ⟨g, 0, none⟩) n cap) n xs) : w.ownsRow base e 1 (.slice (some ⟨g, 0, none⟩) m cap) m (xs.take m) := by
 obtain ⟨h0, h1⟩ := h
 refine ⟨by rw [List.length_take]; omega, ?_⟩
 rcases h1 with ⟨h2, _⟩ | ⟨g', cap', cur, hv, hb, hg, h3, h4, h5, h6⟩
 ·cases h2
 ·cases hv
  refine .inr ⟨_, _, cur, rfl, hb, hg, by omega, h4, h5, ?_⟩
  rw [← h6, List.take_take]
  congr 1
  omega
set_option maxHeartbeats 2000000 in
theorem sort_compact {base g cap : Nat} {ss : List (List UInt8)} {w : World} (hss : ss.length ≤ 4294967296) (h : w.ownsRow base 9 1 (.slice (some ⟨g, 0, none⟩) ss.length cap) ss.length (ss.map encStr)) :
  Calls Tryz.prog 68 #[.slice (some ⟨g, 0, none⟩) ss.length cap] w fun e w1 => e = .returned (.tuple #[]) ∧
   Hid (Calls Tryz.prog 69 #[.slice (some ⟨g, 0, none⟩) ss.length cap] w1 fun e w2 => e = .returned (.slice (some ⟨g, 0, none⟩) (sorted ss).length cap) ∧
    w2.ownsRow base 9 1 (.slice (some ⟨g, 0, none⟩) (sorted ss).length cap) (sorted ss).length ((sorted ss).map encStr) ∧ w.grownBy w2 (some g)) := by
 have hg := h.2
 rcases hg with ⟨h2, _⟩ | ⟨g', cap', cur, hv, hbase, hb, h3, h4, h5, h6⟩
 ·cases h2
 cases hv
 have hcell : Holds encStr w g 0 ss.toArray := holds_of_block hb (by simpa using h6)
 have hlt : g < w.heap.size := (Array.getElem?_eq_some_iff.1 hb).1
 refine (Tryz.slices_Sort_string g 0 cap ss w hcell hlt (by omega)).mono ?_
 rintro e w1 ⟨rfl, n, os, rfl⟩
 refine ⟨rfl, hid ?_⟩
 obtain ⟨ts, hts⟩ : ∃ ts, (ss.mergeSort fun x y => decide (x ≤ y)) = ts := ⟨_, rfl⟩
 have hl : ts.length = ss.length := by rw [← hts]; simp
 rw [hts]
 have ho := ownsRow_sorted (n := n) (os := os) hl hbase hb h3 h4 h5
 have hgr := grownBy_sorted (w := w) (g := g) (n := n) (os := os) ts.toArray
 obtain ⟨w1, hw1⟩ : ∃ w1, grow (putRow encStr (Sort.ahead w n) g 0 ts.toArray) os = w1 := ⟨_, rfl⟩
 rw [hw1] at ho hgr ⊢
 have ho' := ho.2
 rcases ho' with ⟨h2, _⟩ | ⟨g', cap', cur1, hv, _, hb1, k3, k4, k5, k6⟩
 ·cases h2
 cases hv
 have hcell1 : Holds encStr w1 g 0 ts.toArray := holds_of_block hb1 (by rw [hl]; simpa using k6)
 have hC := Tryz.slices_Compact_string g 0 cap ts w1 hcell1 (by omega) (by omega)
 rw [hl] at hC
 refine hC.mono ?_
 rintro e w2 ⟨rfl, q, rfl⟩
 have hsd : sorted ss = Lib.compact ts := by unfold sorted; rw [hts]
 rw [hsd]
 have hle := Lib.compact_length_le ts
 have hl2 : (Lib.compact ts ++ List.replicate (ss.length - (Lib.compact ts).length) ([] : List UInt8)).length = ts.length := by rw [List.length_append, List.length_replicate]; omega
 have hgl : ∀ W : World, grow W #[] = W := fun W => grow_empty W
 have ho2 := ownsRow_sorted (n := q) (os := #[]) (w := w1) hl2 hbase hb1 (by omega) k4 k5
 have hgr2 := grownBy_sorted (w := w1) (g := g) (n := q) (os := #[]) (Lib.compact ts ++ List.replicate (ss.length - (Lib.compact ts).length) ([] : List UInt8)).toArray
 rw [hgl] at ho2 hgr2
 refine ⟨rfl, ?_, hgr.trans hgr2⟩
 have := own_shrink (m := (Lib.compact ts).length) (by omega) ho2
 rw [List.map_append, List.take_left' (by simp)] at this
 exact this
theorem R_own {w : World} {base : Nat} {v : Value} {n : Nat} {ss : List (List UInt8)} (hn : ss.length = n) (h : w.ownsRow base 9 1 v n (ss.map encStr)) : Kd.R Kd.string 9 w base (fun _ => True) v (ss.map mkS) := by
 refine Kd.R_of_own (enc := Value.string) ?_ (fun _ _ => trivial)
 rw [List.length_map, hn]
 rw [enc_mkS] at h
 exact h
set_option maxHeartbeats 4000000 in
theorem fold_Sorted.calls (A0 : Option Addr) (c0 : Nat) (l0 : List ByteArray) (r : List ByteArray) (w : World) (hr0 : Kd.C Kd.string w A0 l0.length l0) (hc0 : l0.length ≤ c0) (h : fold_Sorted.f l0 = some r) :
  Calls Tryz.prog 39 #[.slice A0 l0.length c0] w fun e w' => ∃ v0_ : Value, e = .returned (v0_) ∧ Kd.R Kd.string 9 w' w.heap.size (fun _ => True) v0_ r ∧ Below w.heap.size w w' := by
 unfold fold_Sorted.f at h
 split at h
 case isFalse => cases h
 rename_i hlen
 obtain rfl := Option.some.inj h
 clear h
 have hrd := Kd.reads_of_C (d := ByteArray.empty) hr0
 clear hr0
 have mixed : Tryz.prog.follows Departure.mixedOrders = true := by kernel_rfl
 rcases Nat.eq_zero_or_pos l0.length with h0 | h0
 ·obtain rfl := List.eq_nil_of_length_eq_zero h0
  have hs0 : (sorted (([] : List ByteArray).map (·.data.toList))).map mkS = [] := by simp [sorted, Lib.compact, Lib.compactUpTo]
  rw [hs0]
  have key : Hid (Calls Tryz.prog 67 #[.slice A0 0 c0] w fun e w1 => ∃ p cap, e = .returned (.slice p 0 cap) ∧ Kd.R Kd.string 9 w1 w.heap.size (fun _ => True) (.slice p 0 cap) [] ∧ Below w.heap.size w w1) := by
   apply hid
   cases A0 with
   | none =>
    refine (Tryz.slices_Clone_string_nil 0 c0 w).mono ?_
    rintro e w1 ⟨rfl, rfl⟩
    exact ⟨none, 0, rfl, Kd.R_nil _ _ _ _ _, Below.refl _ _⟩
   | some a =>
    refine (Tryz.slices_Clone_string_zero a c0 w).mono ?_
    rintro e w1 ⟨v', rfl, ho, _, hb⟩
    rcases ho.2 with ⟨h2, _⟩ | ⟨g', cap', cur, hv, _⟩
    ·subst h2; exact ⟨none, 0, rfl, Kd.R_nil _ _ _ _ _, hb⟩
    ·subst hv
     exact ⟨_, _, rfl, R_own (ss := []) rfl ho, hb⟩
  clear hrd hs0 hlen h0 hc0
  show Calls Tryz.prog 39 #[.slice A0 0 c0] w _
  go_enter Tryz.func39, Tryz.ntmps39
  go_wp2_with first
   | (go_at_call 67; refine key.out.mono ?_; rintro e w1 ⟨p, cap, rfl, hR, hB⟩; have HR := hid hR; clear hR)
   | (go_at_call 68; refine (Tryz.slices_Sort_string_none p cap _).mono ?_; rintro e w2 ⟨rfl, rfl⟩)
   | (go_at_call 69; refine (Tryz.slices_Compact_string_empty p cap _).mono ?_; rintro e w3 ⟨rfl, rfl⟩)
  go_ret
  exact ⟨_, rfl, HR.out, hB⟩
 ·obtain ⟨ad, rfl, hcell⟩ := hrd.2.2 h0
  obtain ⟨bk, of, sp⟩ := ad
  have hsp := spot_none (by simpa [Addr.add] using hcell 0 h0)
  simp only at hsp
  subst hsp
  have hcl := Tryz.slices_Clone_string bk of l0.length c0 l0 w (Nat.le_refl _) (by omega) (fun j hj => by
   have := hcell j hj
   unfold Addr.add at this
   split at this
   ·rename_i hj0; subst hj0; simpa using this
   ·exact this)
  rw [List.take_length] at hcl
  obtain ⟨ss, hss⟩ : ∃ ss, l0.map (·.data.toList) = ss := ⟨_, rfl⟩
  have hsl : ss.length = l0.length := by rw [← hss, List.length_map]
  have henc : l0.map Value.string = ss.map encStr := by rw [← hss, enc_of]
  have key : Hid (Calls Tryz.prog 67 #[.slice (some ⟨bk, of, none⟩) l0.length c0] w fun e w1 => ∃ g cap, e = .returned (.slice (some ⟨g, 0, none⟩) ss.length cap) ∧ w1.ownsRow w.heap.size 9 1 (.slice (some ⟨g, 0, none⟩) ss.length cap) ss.length (ss.map encStr) ∧ w.heap.size ≤ g ∧ Below w.heap.size w w1) := by
   apply hid
   refine hcl.mono ?_
   rintro e w1 ⟨v', rfl, ho, _, hb⟩
   rw [henc, ← hsl] at ho
   rcases ho.2 with ⟨_, h2⟩ | ⟨g', cap', cur, hv, hg, _⟩
   ·omega
   ·subst hv
    exact ⟨_, _, rfl, ho, hg, hb⟩
  have hlen' : ss.length ≤ 4294967296 := by omega
  rw [hss]
  rw [← hsl] at key ⊢
  clear hcl hcell hrd henc hss hsl hc0 hlen h0
  go_enter Tryz.func39, Tryz.ntmps39
  go_wp2_with first
   | (go_at_call 67; refine key.out.mono ?_; rintro e w1 ⟨g, cap, rfl, ho, hg, hB⟩; have HS := hid (sort_compact hlen' ho); clear ho)
   | (go_at_call 68; refine HS.out.mono ?_; rintro e w2 ⟨rfl, HC⟩)
   | (go_at_call 69; refine HC.out.mono ?_; rintro e w3 ⟨rfl, ho, hgr⟩; have HO := hid ho; have HG := hid hgr; clear ho hgr)
  go_ret
  exact ⟨_, rfl, R_own rfl HO.out, hB.grown HG.out hB.size (fun k hk => by cases hk; exact hg)⟩
end Go.Proofs.YticacakoefojbaaGreat
namespace Go.Proofs.YticacakoefojbaaGreat.Pr
open Go.RowKit Go.Proofs.YticacakoefojbaaGreatW.PrintWords Go.Proofs.YticacakoefojbaaGreatW.PrintLast Go.Proofs.YticacakoefojbaaGreatW.PrintMore
attribute [local go_sem] max2_int min2_int max_two min_two max_three min_three max_four min_four   -- for this text's walks alone



def errW : Option Int → Value
 | none => .nilIface
 | some c => .iface 0 (.int .i64 c)
theorem errW_none : errW none = .nilIface := rfl
theorem errW_some (c : Int) : errW (some c) = .iface 0 (.int .i64 c) := rfl

theorem info3 : (Tryz.prog.info? 3).map (fun i => (i.zero, i.size, i.bytes)) = some (some (.int .i64 0), 1, 8) := by kernel_rfl
theorem info9 : (Tryz.prog.info? 9).map (fun i => (i.zero, i.size, i.bytes)) = some (some (.string ⟨#[]⟩), 1, 16) := by kernel_rfl
theorem info29 : (Tryz.prog.info? 29).map (fun i => (i.zero, i.size, i.bytes)) = some (some (.slice none 0 0), 1, 24) := by kernel_rfl
theorem info38 : (Tryz.prog.info? 38).map (fun i => (i.zero, i.size, i.bytes)) = some (some (.agg #[(.int .i64 0), (.int .i64 0), (.string ⟨#[]⟩), (.string ⟨#[]⟩), (.slice none 0 0)]), 5, 72) := by kernel_rfl
theorem info45 : (Tryz.prog.info? 45).map (fun i => (i.zero, i.size, i.bytes)) = some (some (.agg #[(.string ⟨#[]⟩), (.string ⟨#[]⟩)]), 2, 32) := by kernel_rfl
def rd_L1 (xs : List (List ByteArray)) (i : Int) : (List ByteArray) := xs.getD i.toNat ([] : List ByteArray)
structure S60 where
 f0 : ByteArray
 f1 : (List ByteArray)
def z60 : S60 := ⟨(⟨#[]⟩ : ByteArray), ([] : List ByteArray)⟩
def k60 : Kd S60 := Kd.iso (Kd.pair Kd.string (Kd.slice 9 Kd.string)) (fun x : S60 => (x.f0, x.f1))
theorem k60_open {w : World} {x : S60} {cs : List Value} (h : k60.K w x cs) : ∃ A1 c1, cs = [.string x.f0, .slice A1 x.f1.length c1] ∧ x.f1.length ≤ c1 ∧ Kd.string.C w A1 x.f1.length x.f1 := by
 obtain ⟨_, _, rfl, rfl, ⟨A1, c1, rfl, l1, g1⟩⟩ := h
 exact ⟨A1, c1, rfl, l1, g1⟩
theorem k60_openF {W : World} {ok : Nat → Prop} {x : S60} {cs : List Value} (h : Kd.FK k60 W ok x cs) : ∃ A1 c1, cs = [.string x.f0, .slice A1 x.f1.length c1] ∧ x.f1.length ≤ c1 ∧ Kd.F Kd.string W ok A1 x.f1.length x.f1 := by
 obtain ⟨A1, c1, rfl, l1, _⟩ := k60_open (Kd.FK_now h)
 exact ⟨A1, c1, rfl, l1, (fun W' hW => by obtain ⟨A1_, c1_, he, l1_, g1_⟩ := k60_open (h W' hW); injection (Option.some.inj (show some (Value.slice A1 x.f1.length c1) = some (Value.slice A1_ x.f1.length c1_) from congrArg (fun l => l[1]?) he)) with ha_ _ _; rw [ha_]; exact g1_)⟩
def rd_T60 (xs : List S60) (i : Int) : S60 := xs.getD i.toNat z60
theorem at_T60 {w : World} {A : Option Addr} {n : Nat} {xs : List S60} (h : Kd.C k60 w A n xs) (i : Int) (h0 : 0 ≤ i) (h1 : i < n) : ∃ ad A1 c1, A = some ad ∧ w.cell? (ad.add (i.toNat * 2)) = some (.string (rd_T60 xs i).f0) ∧ w.cell? ⟨(ad.add (i.toNat * 2)).block, (ad.add (i.toNat * 2)).off + 1, none⟩ = some (.slice A1 (rd_T60 xs i).f1.length c1) ∧ (rd_T60 xs i).f1.length ≤ c1 ∧ Kd.string.C w A1 (rd_T60 xs i).f1.length (rd_T60 xs i).f1 := by
 obtain ⟨ad, c, e, _, hK, hc0⟩ := Kd.C_get h z60 i h0 h1
 have hc : ∀ j u, c[j]? = some u → w.cell? (ad.add (i.toNat * 2 + j)) = some u := hc0
 obtain ⟨A1, c1, rfl, l1, g1⟩ := k60_open hK
 exact ⟨ad, A1, c1, e, hc 0 _ rfl, by rw [← add_field _ _ 1 (by omega)]; exact hc 1 _ rfl, l1, g1⟩

structure S45 where
 f0 : ByteArray
 f1 : ByteArray
def z45 : S45 := ⟨(⟨#[]⟩ : ByteArray), (⟨#[]⟩ : ByteArray)⟩
def k45 : Kd S45 := Kd.iso (Kd.pair Kd.string Kd.string) (fun x : S45 => (x.f0, x.f1))
theorem k45_heap : Kd.Heap k45 := Kd.heap_iso _ (Kd.heap_pair Kd.heap_string Kd.heap_string)
theorem k45_open {w : World} {x : S45} {cs : List Value} (h : k45.K w x cs) : cs = [.string x.f0, .string x.f1] := by
 obtain ⟨_, _, rfl, rfl, rfl⟩ := h
 exact rfl
theorem k45_mkM (w : World) (base : Nat) (ok : Nat → Prop) (x : S45)  : k45.M w base ok x [.string x.f0, .string x.f1] := ⟨[.string x.f0], [.string x.f1], rfl, rfl, rfl⟩
def rd_T45 (xs : List S45) (i : Int) : S45 := xs.getD i.toNat z45
theorem at_T45 {w : World} {A : Option Addr} {n : Nat} {xs : List S45} (h : Kd.C k45 w A n xs) (i : Int) (h0 : 0 ≤ i) (h1 : i < n) : ∃ ad , A = some ad ∧ w.cell? (ad.add (i.toNat * 2)) = some (.string (rd_T45 xs i).f0) ∧ w.cell? ⟨(ad.add (i.toNat * 2)).block, (ad.add (i.toNat * 2)).off + 1, none⟩ = some (.string (rd_T45 xs i).f1) := by
 obtain ⟨ad, c, e, _, hK, hc0⟩ := Kd.C_get h z45 i h0 h1
 have hc : ∀ j u, c[j]? = some u → w.cell? (ad.add (i.toNat * 2 + j)) = some u := hc0
 obtain rfl := k45_open hK
 exact ⟨ad, e, hc 0 _ rfl, by rw [← add_field _ _ 1 (by omega)]; exact hc 1 _ rfl⟩

def rd_L5 (xs : List (List S45)) (i : Int) : (List S45) := xs.getD i.toNat ([] : List S45)
structure S38 where
 f0 : Int
 f1 : Int
 f2 : ByteArray
 f3 : ByteArray
 f4 : (List S45)
def z38 : S38 := ⟨(0 : Int), (0 : Int), (⟨#[]⟩ : ByteArray), (⟨#[]⟩ : ByteArray), ([] : List S45)⟩
def k38 : Kd S38 := Kd.iso (Kd.pair (Kd.int .i64) (Kd.pair (Kd.int .i64) (Kd.pair Kd.string (Kd.pair Kd.string (Kd.slice 45 k45))))) (fun x : S38 => (x.f0, x.f1, x.f2, x.f3, x.f4))
theorem k38_heap : Kd.Heap k38 := Kd.heap_iso _ (Kd.heap_pair (Kd.heap_int .i64) (Kd.heap_pair (Kd.heap_int .i64) (Kd.heap_pair Kd.heap_string (Kd.heap_pair Kd.heap_string (Kd.heap_slice 45 k45_heap)))))
theorem k38_open {w : World} {x : S38} {cs : List Value} (h : k38.K w x cs) : ∃ A4 c4, cs = [.int .i64 x.f0, .int .i64 x.f1, .string x.f2, .string x.f3, .slice A4 x.f4.length c4] ∧ x.f4.length ≤ c4 ∧ k45.C w A4 x.f4.length x.f4 := by
 obtain ⟨_, _, rfl, rfl, ⟨_, _, rfl, rfl, ⟨_, _, rfl, rfl, ⟨_, _, rfl, rfl, ⟨A4, c4, rfl, l4, g4⟩⟩⟩⟩⟩ := h
 exact ⟨A4, c4, rfl, l4, g4⟩
theorem k38_mk (w : World) (x : S38) {A4 : Option Addr} {c4 : Nat} (l4 : x.f4.length ≤ c4) (g4 : k45.C w A4 x.f4.length x.f4) : k38.K w x [.int .i64 x.f0, .int .i64 x.f1, .string x.f2, .string x.f3, .slice A4 x.f4.length c4] := ⟨[.int .i64 x.f0], [.int .i64 x.f1, .string x.f2, .string x.f3, .slice A4 x.f4.length c4], rfl, rfl, ⟨[.int .i64 x.f1], [.string x.f2, .string x.f3, .slice A4 x.f4.length c4], rfl, rfl, ⟨[.string x.f2], [.string x.f3, .slice A4 x.f4.length c4], rfl, rfl, ⟨[.string x.f3], [.slice A4 x.f4.length c4], rfl, rfl, ⟨A4, c4, rfl, l4, g4⟩⟩⟩⟩⟩
theorem k38_mkM (w : World) (base : Nat) (ok : Nat → Prop) (x : S38) {v4 : Value} (g4 : k45.R 45 w base ok v4 x.f4) : k38.M w base ok x [.int .i64 x.f0, .int .i64 x.f1, .string x.f2, .string x.f3, v4] := ⟨[.int .i64 x.f0], [.int .i64 x.f1, .string x.f2, .string x.f3, v4], rfl, rfl, ⟨[.int .i64 x.f1], [.string x.f2, .string x.f3, v4], rfl, rfl, ⟨[.string x.f2], [.string x.f3, v4], rfl, rfl, ⟨[.string x.f3], [v4], rfl, rfl, ⟨v4, rfl, g4⟩⟩⟩⟩⟩
theorem k38_openF {W : World} {ok : Nat → Prop} {x : S38} {cs : List Value} (h : Kd.FK k38 W ok x cs) : ∃ A4 c4, cs = [.int .i64 x.f0, .int .i64 x.f1, .string x.f2, .string x.f3, .slice A4 x.f4.length c4] ∧ x.f4.length ≤ c4 ∧ Kd.F k45 W ok A4 x.f4.length x.f4 := by
 obtain ⟨A4, c4, rfl, l4, _⟩ := k38_open (Kd.FK_now h)
 exact ⟨A4, c4, rfl, l4, (fun W' hW => by obtain ⟨A4_, c4_, he, l4_, g4_⟩ := k38_open (h W' hW); injection (Option.some.inj (show some (Value.slice A4 x.f4.length c4) = some (Value.slice A4_ x.f4.length c4_) from congrArg (fun l => l[4]?) he)) with ha_ _ _; rw [ha_]; exact g4_)⟩
theorem k38_mkF (W : World) (ok : Nat → Prop) (x : S38) {A4 : Option Addr} {c4 : Nat} (l4 : x.f4.length ≤ c4) (g4 : Kd.F k45 W ok A4 x.f4.length x.f4) : Kd.FK k38 W ok x [.int .i64 x.f0, .int .i64 x.f1, .string x.f2, .string x.f3, .slice A4 x.f4.length c4] := fun W2 hW => k38_mk W2 x l4 (g4 W2 hW)
def rd_T38 (xs : List S38) (i : Int) : S38 := xs.getD i.toNat z38
theorem at_T38 {w : World} {A : Option Addr} {n : Nat} {xs : List S38} (h : Kd.C k38 w A n xs) (i : Int) (h0 : 0 ≤ i) (h1 : i < n) : ∃ ad A4 c4, A = some ad ∧ w.cell? (ad.add (i.toNat * 5)) = some (.int .i64 (rd_T38 xs i).f0) ∧ w.cell? ⟨(ad.add (i.toNat * 5)).block, (ad.add (i.toNat * 5)).off + 1, none⟩ = some (.int .i64 (rd_T38 xs i).f1) ∧ w.cell? ⟨(ad.add (i.toNat * 5)).block, (ad.add (i.toNat * 5)).off + 2, none⟩ = some (.string (rd_T38 xs i).f2) ∧ w.cell? ⟨(ad.add (i.toNat * 5)).block, (ad.add (i.toNat * 5)).off + 3, none⟩ = some (.string (rd_T38 xs i).f3) ∧ w.cell? ⟨(ad.add (i.toNat * 5)).block, (ad.add (i.toNat * 5)).off + 4, none⟩ = some (.slice A4 (rd_T38 xs i).f4.length c4) ∧ (rd_T38 xs i).f4.length ≤ c4 ∧ k45.C w A4 (rd_T38 xs i).f4.length (rd_T38 xs i).f4 := by
 obtain ⟨ad, c, e, _, hK, hc0⟩ := Kd.C_get h z38 i h0 h1
 have hc : ∀ j u, c[j]? = some u → w.cell? (ad.add (i.toNat * 5 + j)) = some u := hc0
 obtain ⟨A4, c4, rfl, l4, g4⟩ := k38_open hK
 exact ⟨ad, A4, c4, e, hc 0 _ rfl, by rw [← add_field _ _ 1 (by omega)]; exact hc 1 _ rfl, by rw [← add_field _ _ 2 (by omega)]; exact hc 2 _ rfl, by rw [← add_field _ _ 3 (by omega)]; exact hc 3 _ rfl, by rw [← add_field _ _ 4 (by omega)]; exact hc 4 _ rfl, l4, g4⟩

end Go.Proofs.YticacakoefojbaaGreat.Pr
namespace Go.Proofs.YticacakoefojbaaGreat
open Go.RowKit Go.Lib Go.Shelf Go.Proofs.YticacakoefojbaaGreatW.PrintWords Go.Proofs.YticacakoefojbaaGreat.Pr

def idxI {α : Type} (p : α → Bool) (l : List α) : Int := if l.any p then (l.findIdx p : Int) else -1
theorem idxI_hit {α : Type} (p : α → Bool) (l : List α) (k : Nat) (x : α) (hk : l[k]? = some x) (hx : p x = true) (hb : ∀ (j : Nat) (y : α), j < k → l[j]? = some y → p y = false) : idxI p l = k := by
 obtain ⟨hlt, hg⟩ := List.getElem?_eq_some_iff.1 hk
 have ha : l.any p = true := List.any_eq_true.2 ⟨x, List.mem_of_getElem? hk, hx⟩
 have : l.findIdx p = k := by
  rw [List.findIdx_eq hlt]
  refine ⟨by rw [hg]; exact hx, fun j hj => hb j _ hj (List.getElem?_eq_getElem (by omega))⟩
 unfold idxI
 rw [if_pos ha, this]
theorem idxI_miss {α : Type} (p : α → Bool) (l : List α) (hb : ∀ (j : Nat) (y : α), l[j]? = some y → p y = false) : idxI p l = -1 := by
 have ha : l.any p = false := List.any_eq_false.2 fun x hx => by
  obtain ⟨j, hj, rfl⟩ := List.mem_iff_getElem.1 hx
  rw [hb j _ (List.getElem?_eq_getElem hj)]
  simp
 unfold idxI
 rw [ha]
 simp
theorem idxI_nonneg {α : Type} (p : α → Bool) (l : List α) : decide (0 ≤ idxI p l) = l.any p := by
 unfold idxI
 cases h : l.any p <;> simp
def Asks {α : Type} (d : Kd α) (arg : List Value → Value) (g : Nat) (lb : Array Value) (p : α → Bool) (w : World) (l : List α) : Prop :=
 ∀ (W : World) (x : α) (cs : List Value), x ∈ l → Below w.heap.size w W → d.K w x cs → Calls Tryz.prog g (#[arg cs] ++ lb) W fun e w' => e = .returned (.bool (p x)) ∧ Below w.heap.size w w'
theorem C_block {α : Type} {d : Kd α} (hs : 0 < d.sz) {w : World} {A : Option Addr} {l : List α} (h : d.C w A l.length l) (h0 : 0 < l.length) :
  ∃ b off, A = some ⟨b, off, none⟩ ∧ b < w.heap.size ∧ ∀ j x, l[j]? = some x → ∃ c, c.length = d.sz ∧ d.K w x c ∧ ∀ q u, c[q]? = some u → w.cell? ⟨b, off + (j * d.sz + q), none⟩ = some u := by
 obtain ⟨ad, rfl, hc⟩ := h.2.2 h0
 obtain ⟨b, off, sp⟩ := ad
 obtain ⟨c, hcl, hK, hcell⟩ := hc 0 _ (List.getElem?_eq_getElem h0)
 have h1 := hcell 0 _ (List.getElem?_eq_getElem (by omega))
 have hsp := spot_none (by simpa [Addr.add] using h1)
 simp only at hsp
 subst hsp
 refine ⟨b, off, rfl, ?_, fun j x hj => ?_⟩
 ·have := World.block_lt_of_cell? w _ h1
  simpa [Addr.add] using this
 ·obtain ⟨c, hcl, hK, hcell⟩ := hc j x hj
  refine ⟨c, hcl, hK, fun q u hu => ?_⟩
  have := hcell q u hu
  rwa [Addr.add_lit] at this

set_option maxHeartbeats 2000000 in
theorem idxPer_calls {A : Option Addr} {c : Nat} {l : List S60} (p : S60 → Bool) (g : Nat) (lb : Array Value) (eg : ∀ args w, (callFunc g args).run Tryz.prog w = .ok (.enter g args) w) (w : World)
  (hC : k60.C w A l.length l) (hp : Asks k60 (fun cs => .agg cs.toArray) g lb p w l) :
  Calls Tryz.prog 108 #[.slice A l.length c, .func (.func g) #[] lb] w fun e w' => e = .returned (.int .i64 (idxI p l)) ∧ Below w.heap.size w w' := by
 obtain ⟨n, hn⟩ : ∃ n, l.length = n := ⟨_, rfl⟩
 have hbig : n ≤ 9223372036854775807 := by have := hC.2.1; omega
 rcases Nat.eq_zero_or_pos l.length with h0 | h0
 ·obtain rfl := List.eq_nil_of_length_eq_zero h0
  clear hC hp
  subst hn
  show Calls Tryz.prog _ #[.slice A 0 c, _] w _
  go_enter Tryz.func108, Tryz.ntmps108
  go_wp2
  go_loopg [5, 8] 0 (fun gg _ s8 wr => s8 = .int .i64 0 ∧ wr = w)
  case atStart => exact ⟨rfl, rfl⟩
  case round =>
   obtain ⟨rfl, rfl⟩ := hrel
   go_wp2
   go_ret
   exact ⟨by rw [idxI_miss _ _ (fun j y h => by simp at h)]; rfl, Below.refl _ _⟩
 obtain ⟨b, off, rfl, hb, hrow0⟩ := C_block (d := k60) (by decide) hC h0
 have hrow : ∀ (W : World), Below w.heap.size w W → ∀ j x, l[j]? = some x → ∃ v1, k60.K w x [.string x.f0, v1] ∧ W.cell? ⟨b, off + j * 2, none⟩ = some (.string x.f0) ∧ W.cell? ⟨b, off + j * 2 + 1, none⟩ = some v1 := fun W hW j x hj => by
  obtain ⟨cs, hl, hK, hc⟩ := hrow0 j x hj
  obtain ⟨A1, c1, rfl, _, _⟩ := k60_open hK
  refine ⟨_, hK, ?_, ?_⟩
  ·rw [hW.cell (p := ⟨b, off + j * 2, none⟩) hb]
   exact hc 0 _ rfl
  ·rw [hW.cell (p := ⟨b, off + j * 2 + 1, none⟩) hb]
   exact hc 1 _ rfl
 clear hrow0 hC
 have HL := hid hn
 have HX : Hid (∀ j, j < n → ∃ x, l[j]? = some x) := fun j h => ⟨_, List.getElem?_eq_getElem (l := l) (i := j) (by omega)⟩
 rw [hn]
 clear hn h0
 go_enter Tryz.func108, Tryz.ntmps108
 go_wp2
 go_loopg [5, 8] n (fun gg _ s8 wr => ∃ kk : Nat, kk ≤ n ∧ n - kk ≤ gg ∧ s8 = .int .i64 kk ∧ Aside (Below w.heap.size w wr) ∧ Aside (∀ j y, j < kk → l[j]? = some y → p y = false))
 case atStart => exact ⟨0, Nat.zero_le _, by omega, rfl, Below.refl _ w, fun j y hj => absurd hj (Nat.not_lt_zero _)⟩
 case round =>
  obtain ⟨kk, hkk, hg, rfl, BW, HA⟩ := hrel
  by_cases hlt : kk < n
  ·have hltz : (kk : Int) < (n : Int) := by omega
   obtain ⟨y, hy⟩ := HX.out kk hlt
   have HK := hid hy
   obtain ⟨v1, hK, l2, l3⟩ := hrow wr BW.out kk _ HK.out
   have hcall := hp wr _ [.string y.f0, v1] (List.mem_of_getElem? HK.out) BW.out hK
   clear hrow hp hK hy
   cases hq : p y with
   | true =>
    rw [hq] at hcall
    have HQ := hid hq
    clear hq
    go_wp2_with (go_at_fn g; refine hcall.mono ?_; rintro e w' ⟨rfl, hb'⟩)
    go_ret
    exact ⟨by rw [idxI_hit p l kk y HK.out HQ.out HA.out]; rfl, hb'⟩
   | false =>
    rw [hq] at hcall
    have HQ := hid hq
    clear hq
    go_wp2_with (go_at_fn g; refine hcall.mono ?_; rintro e w' ⟨rfl, hb'⟩)
    go_roundg (n - (kk + 1))
    case measure => omega
    case rel =>
     refine ⟨kk + 1, by omega, by omega, by go_num, hb', (show Aside _ from fun j z hj hz => ?_)⟩
     by_cases e : j = kk
     ·subst e
      have := hz.symm.trans HK.out
      injection this with this
      subst this
      exact HQ.out
     ·exact HA.out j z (by omega) hz
  ·have hltz : ¬ (kk : Int) < (n : Int) := by omega
   have : kk = n := by omega
   subst this
   go_wp2
   go_ret
   refine ⟨?_, BW.out⟩
   rw [idxI_miss p l (fun j y hj => HA.out j y (by have := (List.getElem?_eq_some_iff.1 hj).1; have := HL.out; omega) hj)]
   rfl
set_option maxHeartbeats 2000000 in
theorem idxStr_calls {A : Option Addr} {c : Nat} {l : List ByteArray} (p : ByteArray → Bool) (g : Nat) (lb : Array Value) (eg : ∀ args w, (callFunc g args).run Tryz.prog w = .ok (.enter g args) w) (w : World)
  (hC : Kd.string.C w A l.length l) (hp : Asks Kd.string (fun cs => cs.headD .nilIface) g lb p w l) :
  Calls Tryz.prog 117 #[.slice A l.length c, .func (.func g) #[] lb] w fun e w' => e = .returned (.int .i64 (idxI p l)) ∧ Below w.heap.size w w' := by
 obtain ⟨n, hn⟩ : ∃ n, l.length = n := ⟨_, rfl⟩
 have hbig : n ≤ 9223372036854775807 := by have := hC.2.1; omega
 rcases Nat.eq_zero_or_pos l.length with h0 | h0
 ·obtain rfl := List.eq_nil_of_length_eq_zero h0
  clear hC hp
  subst hn
  show Calls Tryz.prog _ #[.slice A 0 c, _] w _
  go_enter Tryz.func117, Tryz.ntmps117
  go_wp2
  go_loopg [5, 8] 0 (fun gg _ s8 wr => s8 = .int .i64 0 ∧ wr = w)
  case atStart => exact ⟨rfl, rfl⟩
  case round =>
   obtain ⟨rfl, rfl⟩ := hrel
   go_wp2
   go_ret
   exact ⟨by rw [idxI_miss _ _ (fun j y h => by simp at h)]; rfl, Below.refl _ _⟩
 obtain ⟨b, off, rfl, hb, hrow0⟩ := C_block (d := Kd.string) (by decide) hC h0
 have hrow : ∀ (W : World), Below w.heap.size w W → ∀ j x, l[j]? = some x → ∃ v, Kd.string.K w x [v] ∧ W.cell? ⟨b, off + j, none⟩ = some v := fun W hW j x hj => by
  obtain ⟨cs, hl, hK, hc⟩ := hrow0 j x hj
  obtain ⟨v, rfl⟩ : ∃ v, cs = [v] := by
   match cs, hl with
   | [v], _ => exact ⟨v, rfl⟩
  refine ⟨v, hK, ?_⟩
  rw [hW.cell (p := ⟨b, off + j, none⟩) hb]
  have := hc 0 v rfl
  rw [show off + j = off + (j * (Kd.string).sz + 0) from by show _ = off + (j * 1 + 0); omega]
  exact this
 clear hrow0 hC
 have HL := hid hn
 have HX : Hid (∀ j, j < n → ∃ x, l[j]? = some x) := fun j h => ⟨_, List.getElem?_eq_getElem (l := l) (i := j) (by omega)⟩
 rw [hn]
 clear hn h0
 go_enter Tryz.func117, Tryz.ntmps117
 go_wp2
 go_loopg [5, 8] n (fun gg _ s8 wr => ∃ kk : Nat, kk ≤ n ∧ n - kk ≤ gg ∧ s8 = .int .i64 kk ∧ Aside (Below w.heap.size w wr) ∧ Aside (∀ j y, j < kk → l[j]? = some y → p y = false))
 case atStart => exact ⟨0, Nat.zero_le _, by omega, rfl, Below.refl _ w, fun j y hj => absurd hj (Nat.not_lt_zero _)⟩
 case round =>
  obtain ⟨kk, hkk, hg, rfl, BW, HA⟩ := hrel
  by_cases hlt : kk < n
  ·have hltz : (kk : Int) < (n : Int) := by omega
   obtain ⟨y, hy⟩ := HX.out kk hlt
   have HK := hid hy
   obtain ⟨v, hK, l2⟩ := hrow wr BW.out kk _ HK.out
   have hcall := hp wr _ [v] (List.mem_of_getElem? HK.out) BW.out hK
   simp only [List.headD_cons] at hcall
   clear hrow hp hK hy
   cases hq : p y with
   | true =>
    rw [hq] at hcall
    have HQ := hid hq
    clear hq
    go_wp2_with (go_at_fn g; refine hcall.mono ?_; rintro e w' ⟨rfl, hb'⟩)
    go_ret
    exact ⟨by rw [idxI_hit p l kk y HK.out HQ.out HA.out]; rfl, hb'⟩
   | false =>
    rw [hq] at hcall
    have HQ := hid hq
    clear hq
    go_wp2_with (go_at_fn g; refine hcall.mono ?_; rintro e w' ⟨rfl, hb'⟩)
    go_roundg (n - (kk + 1))
    case measure => omega
    case rel =>
     refine ⟨kk + 1, by omega, by omega, by go_num, hb', (show Aside _ from fun j z hj hz => ?_)⟩
     by_cases e : j = kk
     ·subst e
      have := hz.symm.trans HK.out
      injection this with this
      subst this
      exact HQ.out
     ·exact HA.out j z (by omega) hz
  ·have hltz : ¬ (kk : Int) < (n : Int) := by omega
   have : kk = n := by omega
   subst this
   go_wp2
   go_ret
   refine ⟨?_, BW.out⟩
   rw [idxI_miss p l (fun j y hj => HA.out j y (by have := (List.getElem?_eq_some_iff.1 hj).1; have := HL.out; omega) hj)]
   rfl
set_option maxHeartbeats 2000000 in
theorem idxRow_calls {A : Option Addr} {c : Nat} {l : List (List ByteArray)} (p : (List ByteArray) → Bool) (g : Nat) (lb : Array Value) (eg : ∀ args w, (callFunc g args).run Tryz.prog w = .ok (.enter g args) w) (w : World)
  (hC : (Kd.slice 9 Kd.string).C w A l.length l) (hp : Asks (Kd.slice 9 Kd.string) (fun cs => cs.headD .nilIface) g lb p w l) :
  Calls Tryz.prog 87 #[.slice A l.length c, .func (.func g) #[] lb] w fun e w' => e = .returned (.int .i64 (idxI p l)) ∧ Below w.heap.size w w' := by
 obtain ⟨n, hn⟩ : ∃ n, l.length = n := ⟨_, rfl⟩
 have hbig : n ≤ 9223372036854775807 := by have := hC.2.1; omega
 rcases Nat.eq_zero_or_pos l.length with h0 | h0
 ·obtain rfl := List.eq_nil_of_length_eq_zero h0
  clear hC hp
  subst hn
  show Calls Tryz.prog _ #[.slice A 0 c, _] w _
  go_enter Tryz.func87, Tryz.ntmps87
  go_wp2
  go_loopg [5, 8] 0 (fun gg _ s8 wr => s8 = .int .i64 0 ∧ wr = w)
  case atStart => exact ⟨rfl, rfl⟩
  case round =>
   obtain ⟨rfl, rfl⟩ := hrel
   go_wp2
   go_ret
   exact ⟨by rw [idxI_miss _ _ (fun j y h => by simp at h)]; rfl, Below.refl _ _⟩
 obtain ⟨b, off, rfl, hb, hrow0⟩ := C_block (d := (Kd.slice 9 Kd.string)) (by decide) hC h0
 have hrow : ∀ (W : World), Below w.heap.size w W → ∀ j x, l[j]? = some x → ∃ v, (Kd.slice 9 Kd.string).K w x [v] ∧ W.cell? ⟨b, off + j, none⟩ = some v := fun W hW j x hj => by
  obtain ⟨cs, hl, hK, hc⟩ := hrow0 j x hj
  obtain ⟨v, rfl⟩ : ∃ v, cs = [v] := by
   match cs, hl with
   | [v], _ => exact ⟨v, rfl⟩
  refine ⟨v, hK, ?_⟩
  rw [hW.cell (p := ⟨b, off + j, none⟩) hb]
  have := hc 0 v rfl
  rw [show off + j = off + (j * ((Kd.slice 9 Kd.string)).sz + 0) from by show _ = off + (j * 1 + 0); omega]
  exact this
 clear hrow0 hC
 have HL := hid hn
 have HX : Hid (∀ j, j < n → ∃ x, l[j]? = some x) := fun j h => ⟨_, List.getElem?_eq_getElem (l := l) (i := j) (by omega)⟩
 rw [hn]
 clear hn h0
 go_enter Tryz.func87, Tryz.ntmps87
 go_wp2
 go_loopg [5, 8] n (fun gg _ s8 wr => ∃ kk : Nat, kk ≤ n ∧ n - kk ≤ gg ∧ s8 = .int .i64 kk ∧ Aside (Below w.heap.size w wr) ∧ Aside (∀ j y, j < kk → l[j]? = some y → p y = false))
 case atStart => exact ⟨0, Nat.zero_le _, by omega, rfl, Below.refl _ w, fun j y hj => absurd hj (Nat.not_lt_zero _)⟩
 case round =>
  obtain ⟨kk, hkk, hg, rfl, BW, HA⟩ := hrel
  by_cases hlt : kk < n
  ·have hltz : (kk : Int) < (n : Int) := by omega
   obtain ⟨y, hy⟩ := HX.out kk hlt
   have HK := hid hy
   obtain ⟨v, hK, l2⟩ := hrow wr BW.out kk _ HK.out
   have hcall := hp wr _ [v] (List.mem_of_getElem? HK.out) BW.out hK
   simp only [List.headD_cons] at hcall
   clear hrow hp hK hy
   cases hq : p y with
   | true =>
    rw [hq] at hcall
    have HQ := hid hq
    clear hq
    go_wp2_with (go_at_fn g; refine hcall.mono ?_; rintro e w' ⟨rfl, hb'⟩)
    go_ret
    exact ⟨by rw [idxI_hit p l kk y HK.out HQ.out HA.out]; rfl, hb'⟩
   | false =>
    rw [hq] at hcall
    have HQ := hid hq
    clear hq
    go_wp2_with (go_at_fn g; refine hcall.mono ?_; rintro e w' ⟨rfl, hb'⟩)
    go_roundg (n - (kk + 1))
    case measure => omega
    case rel =>
     refine ⟨kk + 1, by omega, by omega, by go_num, hb', (show Aside _ from fun j z hj hz => ?_)⟩
     by_cases e : j = kk
     ·subst e
      have := hz.symm.trans HK.out
      injection this with this
      subst this
      exact HQ.out
     ·exact HA.out j z (by omega) hz
  ·have hltz : ¬ (kk : Int) < (n : Int) := by omega
   have : kk = n := by omega
   subst this
   go_wp2
   go_ret
   refine ⟨?_, BW.out⟩
   rw [idxI_miss p l (fun j y hj => HA.out j y (by have := (List.getElem?_eq_some_iff.1 hj).1; have := HL.out; omega) hj)]
   rfl
set_option maxHeartbeats 2000000 in
theorem hasPer_calls {A : Option Addr} {c : Nat} {l : List S60} (p : S60 → Bool) (g : Nat) (lb : Array Value) (eg : ∀ args w, (callFunc g args).run Tryz.prog w = .ok (.enter g args) w) (w : World)
  (hC : k60.C w A l.length l) (hp : Asks k60 (fun cs => .agg cs.toArray) g lb p w l) :
  Calls Tryz.prog 80 #[.slice A l.length c, .func (.func g) #[] lb] w fun e w' => e = .returned (.bool (l.any p)) ∧ Below w.heap.size w w' := by
 have key := hid (idxPer_calls (c := c) p g lb eg w hC hp)
 have HN := hid (idxI_nonneg p l)
 obtain ⟨r, hr⟩ : ∃ r, idxI p l = r := ⟨_, rfl⟩
 obtain ⟨q, hq⟩ : ∃ q, l.any p = q := ⟨_, rfl⟩
 rw [hr] at key HN
 rw [hq] at HN ⊢
 clear hr hq hC hp
 go_enter Tryz.func80, Tryz.ntmps80
 go_wp2_with (go_at_call 108; refine key.out.mono ?_; rintro e w' ⟨rfl, hb'⟩)
 go_ret
 exact ⟨by have := HN.out; rw [← this]; rfl, hb'⟩
set_option maxHeartbeats 2000000 in
theorem hasStr_calls {A : Option Addr} {c : Nat} {l : List ByteArray} (p : ByteArray → Bool) (g : Nat) (lb : Array Value) (eg : ∀ args w, (callFunc g args).run Tryz.prog w = .ok (.enter g args) w) (w : World)
  (hC : Kd.string.C w A l.length l) (hp : Asks Kd.string (fun cs => cs.headD .nilIface) g lb p w l) :
  Calls Tryz.prog 89 #[.slice A l.length c, .func (.func g) #[] lb] w fun e w' => e = .returned (.bool (l.any p)) ∧ Below w.heap.size w w' := by
 have key := hid (idxStr_calls (c := c) p g lb eg w hC hp)
 have HN := hid (idxI_nonneg p l)
 obtain ⟨r, hr⟩ : ∃ r, idxI p l = r := ⟨_, rfl⟩
 obtain ⟨q, hq⟩ : ∃ q, l.any p = q := ⟨_, rfl⟩
 rw [hr] at key HN
 rw [hq] at HN ⊢
 clear hr hq hC hp
 go_enter Tryz.func89, Tryz.ntmps89
 go_wp2_with (go_at_call 117; refine key.out.mono ?_; rintro e w' ⟨rfl, hb'⟩)
 go_ret
 exact ⟨by have := HN.out; rw [← this]; rfl, hb'⟩
set_option maxHeartbeats 2000000 in
theorem hasRow_calls {A : Option Addr} {c : Nat} {l : List (List ByteArray)} (p : (List ByteArray) → Bool) (g : Nat) (lb : Array Value) (eg : ∀ args w, (callFunc g args).run Tryz.prog w = .ok (.enter g args) w) (w : World)
  (hC : (Kd.slice 9 Kd.string).C w A l.length l) (hp : Asks (Kd.slice 9 Kd.string) (fun cs => cs.headD .nilIface) g lb p w l) :
  Calls Tryz.prog 52 #[.slice A l.length c, .func (.func g) #[] lb] w fun e w' => e = .returned (.bool (l.any p)) ∧ Below w.heap.size w w' := by
 have key := hid (idxRow_calls (c := c) p g lb eg w hC hp)
 have HN := hid (idxI_nonneg p l)
 obtain ⟨r, hr⟩ : ∃ r, idxI p l = r := ⟨_, rfl⟩
 obtain ⟨q, hq⟩ : ∃ q, l.any p = q := ⟨_, rfl⟩
 rw [hr] at key HN
 rw [hq] at HN ⊢
 clear hr hq hC hp
 go_enter Tryz.func52, Tryz.ntmps52
 go_wp2_with (go_at_call 87; refine key.out.mono ?_; rintro e w' ⟨rfl, hb'⟩)
 go_ret
 exact ⟨by have := HN.out; rw [← this]; rfl, hb'⟩
end Go.Proofs.YticacakoefojbaaGreat
namespace Go.Proofs.YticacakoefojbaaGreat
open Go.RowKit Go.Proofs.YticacakoefojbaaGreatW.PrintWords Go.Proofs.YticacakoefojbaaGreatW.PrintMore

theorem wrap_succ {i : Int} (h0 : -1 ≤ i) (h : i < 9000000000000000000) : wrap64 (i + 1) = i + 1 := by unfold wrap64; omega
theorem wrap_id {i : Int} (h0 : -9000000000000000000 ≤ i) (h : i < 9000000000000000000) : wrap64 i = i := by unfold wrap64; omega
theorem bt_c {s : ByteArray} {k : Nat} {c : UInt8} (h : s.data.toList[k]? = some c) : bt s (k : Int) = (c.toNat : Int) := by
 have hl : k < s.data.toList.length := (List.getElem?_eq_some_iff.1 h).1
 have hl' : k < s.size := by simpa using hl
 have := byte_at s k hl'
 rw [h] at this
 unfold bt
 rw [dif_pos (by simpa using hl')]
 simp only [Int.toNat_natCast]
 rw [← Option.some.inj this]
theorem at_some (s : ByteArray) {k : Nat} (h : k < s.size) : ∃ c, s.data.toList[k]? = some c := ⟨_, byte_at s k h⟩
theorem at_lt {s : ByteArray} {k : Nat} {c : UInt8} (h : s.data.toList[k]? = some c) : k < s.size := by
 have hl : k < s.data.toList.length := (List.getElem?_eq_some_iff.1 h).1
 simpa using hl
theorem mkS_data (s : ByteArray) : mkS s.data.toList = s := Lib.mk_data s
theorem mkS_toList (l : List UInt8) : (mkS l).toList = l := by rw [Lib.toList_data]; rfl
theorem mkS_size (l : List UInt8) : (mkS l).size = l.length := by rw [Lib.size_eq]; rfl
theorem data_app (a b : ByteArray) : (a ++ b).data.toList = a.data.toList ++ b.data.toList := by simp
theorem mkS_app (a b : List UInt8) : mkS a ++ mkS b = mkS (a ++ b) := by
 rw [← mkS_data (mkS a ++ mkS b), data_app]; rfl
def SS (l : List (List UInt8)) : List ByteArray := l.map mkS
theorem SS_len (l : List (List UInt8)) : (SS l).length = l.length := List.length_map _
theorem drop_at {α : Type} {l : List α} {i : Nat} {x : α} (h : l[i]? = some x) : l.drop i = x :: l.drop (i + 1) := by
 rw [List.drop_eq_getElem?_toList_append, h]
 simp
theorem take_at {α : Type} {l : List α} {i : Nat} {x : α} (h : l[i]? = some x) : l.take (i + 1) = l.take i ++ [x] := by
 rw [List.take_add_one, h]; rfl
theorem get_some {α : Type} {l : List α} {i : Nat} (h : i < l.length) : ∃ x, l[i]? = some x := ⟨_, List.getElem?_eq_getElem h⟩
end Go.Proofs.YticacakoefojbaaGreat
namespace Go.Proofs.YticacakoefojbaaGreat.Pr
open Go.RowKit Go.Proofs.YticacakoefojbaaGreatW.PrintWords Go.Proofs.YticacakoefojbaaGreatW.PrintLast Go.Proofs.YticacakoefojbaaGreatW.PrintMore
section
variable {p q s t u : Prop}
theorem am {p : Prop} (h : p) : Aside0 p := Aside0.mk h
theorem zb (h : Aside0 q) (g : Aside0 q → p := by intro h; repeat (first | (with_reducible first | exact h.out | apply below_alloc | apply pw_below_drewN | apply below_drew1) | exact h.out)) : p := g h
theorem zb1 (h : Aside0 q) (a : Aside0 s) (g : Aside0 q → Aside0 s → p := by intro h a; repeat (first | (with_reducible first | exact h.out | apply below_alloc | apply pw_below_drewN | apply below_drew1 | refine below_set ?_ a.out) | exact h.out)) : p := g h a
theorem zb2 (h : Aside0 q) (a : Aside0 s) (b : Aside0 t) (g : Aside0 q → Aside0 s → Aside0 t → p := by intro h a b; repeat (first | (with_reducible first | exact h.out | apply below_alloc | apply pw_below_drewN | apply below_drew1 | refine below_set ?_ a.out | refine below_set ?_ b.out) | exact h.out)) : p := g h a b
theorem zb3 (h : Aside0 q) (a : Aside0 s) (b : Aside0 t) (c : Aside0 u) (g : Aside0 q → Aside0 s → Aside0 t → Aside0 u → p := by intro h a b c; repeat (first | (with_reducible first | exact h.out | apply below_alloc | apply pw_below_drewN | apply below_drew1 | refine below_set ?_ a.out | refine below_set ?_ b.out | refine below_set ?_ c.out) | exact h.out)) : p := g h a b c
theorem za (g : p := by first | (with_reducible assumption) | assumption) : p := g
theorem zm (g : p := by (try simp only [List.map_toArray, List.map_cons, List.map_nil]); first | done | rfl | (simp only [List.length_drop, List.length_take]; rfl)) : p := g
theorem zn (h : q) (g : Aside0 q → p := by intro h; first | exact Kd.N_base h.out | exact Kd.N_base (Kd.S_N h.out) | exact Kd.N_base (Kd.S_N (Kd.S_bound h.out))) : p := g ⟨h⟩
theorem zc (h : q) (g : Aside0 q → p := by intro h; repeat (first | exact h.out | (with_reducible refine Kd.C_alloc ?_ _) | (with_reducible refine Kd.C_drewN ?_ _) | (with_reducible refine Kd.C_drew ?_))) : p := g ⟨h⟩
theorem ze (g : p := by first | rfl | (simp [errW_none, errW_some] <;> rfl) | (simp [*, errW_none, errW_some] <;> rfl)) : p := g
theorem zt (g : p := by first | rfl | (simp; done) | (simp [*]; done) | (simp; generalize ByteArray.toList _ = l_; cases l_ <;> rfl)) : p := g
theorem zu (g : p := by first | exact ⟨rfl, _, World.drewN_drewN _ _ _⟩ | exact ⟨rfl, _, Eq.trans (World.drewN_drewN _ _ _) (congrArg (World.drewN _) (Nat.add_assoc _ _ _))⟩) : p := g
theorem zw (g : p := by repeat (first | exact Drawn0.refl _ | apply Drawn0.step)) : p := g
theorem zr (g : p := by first | rfl | (simp; done) | (simp [*]; done)) : p := g
end
theorem cz2 {w : World} {g : Nat} {t : TypeId} {v0 v1 : Value} (h : w.heap[g]? = some (.cells #[v0, v1] t (0, 0))) : w.cell? ⟨g, 0, none⟩ = some v0 ∧ w.cell? ⟨g, 1, none⟩ = some v1 ∧ w.frozen? ⟨g, 0, none⟩ = false ∧ w.frozen? ⟨g, 1, none⟩ = false :=
 ⟨(blk_cell h 0).trans rfl, (blk_cell h 1).trans rfl, blk_frozen h 0, blk_frozen h 1⟩
theorem cz5 {w : World} {g : Nat} {t : TypeId} {v0 v1 v2 v3 v4 : Value} (h : w.heap[g]? = some (.cells #[v0, v1, v2, v3, v4] t (0, 0))) : w.cell? ⟨g, 0, none⟩ = some v0 ∧ w.cell? ⟨g, 1, none⟩ = some v1 ∧ w.cell? ⟨g, 2, none⟩ = some v2 ∧ w.cell? ⟨g, 3, none⟩ = some v3 ∧ w.cell? ⟨g, 4, none⟩ = some v4 ∧ w.frozen? ⟨g, 0, none⟩ = false ∧ w.frozen? ⟨g, 1, none⟩ = false ∧ w.frozen? ⟨g, 2, none⟩ = false ∧ w.frozen? ⟨g, 3, none⟩ = false ∧ w.frozen? ⟨g, 4, none⟩ = false :=
 ⟨(blk_cell h 0).trans rfl, (blk_cell h 1).trans rfl, (blk_cell h 2).trans rfl, (blk_cell h 3).trans rfl, (blk_cell h 4).trans rfl, blk_frozen h 0, blk_frozen h 1, blk_frozen h 2, blk_frozen h 3, blk_frozen h 4⟩
theorem cz8 {w : World} {g : Nat} {t : TypeId} {v0 v1 v2 v3 v4 v5 v6 v7 : Value} (h : w.heap[g]? = some (.cells #[v0, v1, v2, v3, v4, v5, v6, v7] t (0, 0))) : w.cell? ⟨g, 0, none⟩ = some v0 ∧ w.cell? ⟨g, 1, none⟩ = some v1 ∧ w.cell? ⟨g, 2, none⟩ = some v2 ∧ w.cell? ⟨g, 3, none⟩ = some v3 ∧ w.cell? ⟨g, 4, none⟩ = some v4 ∧ w.cell? ⟨g, 5, none⟩ = some v5 ∧ w.cell? ⟨g, 6, none⟩ = some v6 ∧ w.cell? ⟨g, 7, none⟩ = some v7 ∧ w.frozen? ⟨g, 0, none⟩ = false ∧ w.frozen? ⟨g, 1, none⟩ = false ∧ w.frozen? ⟨g, 2, none⟩ = false ∧ w.frozen? ⟨g, 3, none⟩ = false ∧ w.frozen? ⟨g, 4, none⟩ = false ∧ w.frozen? ⟨g, 5, none⟩ = false ∧ w.frozen? ⟨g, 6, none⟩ = false ∧ w.frozen? ⟨g, 7, none⟩ = false :=
 ⟨(blk_cell h 0).trans rfl, (blk_cell h 1).trans rfl, (blk_cell h 2).trans rfl, (blk_cell h 3).trans rfl, (blk_cell h 4).trans rfl, (blk_cell h 5).trans rfl, (blk_cell h 6).trans rfl, (blk_cell h 7).trans rfl, blk_frozen h 0, blk_frozen h 1, blk_frozen h 2, blk_frozen h 3, blk_frozen h 4, blk_frozen h 5, blk_frozen h 6, blk_frozen h 7⟩
section
variable {α : Type} {d : Kd α} {e : Nat} {w : World} {base : Nat} {ok : Nat → Prop} {v : Value} {xs : List α}
theorem Rf2 {g : Nat} (h : Kd.R d e w base ok v xs) (hok : ∀ k, ok k → k ≠ g) (u0 u1 : Value) : Kd.R d e ((w.setCell ⟨g, 0, none⟩ u0).setCell ⟨g, 1, none⟩ u1) base ok v xs := (Kd.R_far (p := ⟨g, 1, none⟩) (Kd.R_far (p := ⟨g, 0, none⟩) h hok u0) hok u1)
theorem Rf5 {g : Nat} (h : Kd.R d e w base ok v xs) (hok : ∀ k, ok k → k ≠ g) (u0 u1 u2 u3 u4 : Value) : Kd.R d e (((((w.setCell ⟨g, 0, none⟩ u0).setCell ⟨g, 1, none⟩ u1).setCell ⟨g, 2, none⟩ u2).setCell ⟨g, 3, none⟩ u3).setCell ⟨g, 4, none⟩ u4) base ok v xs := (Kd.R_far (p := ⟨g, 4, none⟩) (Kd.R_far (p := ⟨g, 3, none⟩) (Kd.R_far (p := ⟨g, 2, none⟩) (Kd.R_far (p := ⟨g, 1, none⟩) (Kd.R_far (p := ⟨g, 0, none⟩) h hok u0) hok u1) hok u2) hok u3) hok u4)
theorem Nf2 {g : Nat} (h : Kd.N d e w base ok v xs) (hok : ∀ k, ok k → k ≠ g) (u0 u1 : Value) : Kd.N d e ((w.setCell ⟨g, 0, none⟩ u0).setCell ⟨g, 1, none⟩ u1) base ok v xs := (Kd.N_far (p := ⟨g, 1, none⟩) (Kd.N_far (p := ⟨g, 0, none⟩) h hok u0) hok u1)
theorem Nf5 {g : Nat} (h : Kd.N d e w base ok v xs) (hok : ∀ k, ok k → k ≠ g) (u0 u1 u2 u3 u4 : Value) : Kd.N d e (((((w.setCell ⟨g, 0, none⟩ u0).setCell ⟨g, 1, none⟩ u1).setCell ⟨g, 2, none⟩ u2).setCell ⟨g, 3, none⟩ u3).setCell ⟨g, 4, none⟩ u4) base ok v xs := (Kd.N_far (p := ⟨g, 4, none⟩) (Kd.N_far (p := ⟨g, 3, none⟩) (Kd.N_far (p := ⟨g, 2, none⟩) (Kd.N_far (p := ⟨g, 1, none⟩) (Kd.N_far (p := ⟨g, 0, none⟩) h hok u0) hok u1) hok u2) hok u3) hok u4)
theorem Vf2 {g : Nat} (h : Kd.V d e w base ok v xs) (hok : ∀ k, ok k → k ≠ g) (u0 u1 : Value) : Kd.V d e ((w.setCell ⟨g, 0, none⟩ u0).setCell ⟨g, 1, none⟩ u1) base ok v xs := (Kd.V_far (p := ⟨g, 1, none⟩) (Kd.V_far (p := ⟨g, 0, none⟩) h hok u0) hok u1)
theorem Vf5 {g : Nat} (h : Kd.V d e w base ok v xs) (hok : ∀ k, ok k → k ≠ g) (u0 u1 u2 u3 u4 : Value) : Kd.V d e (((((w.setCell ⟨g, 0, none⟩ u0).setCell ⟨g, 1, none⟩ u1).setCell ⟨g, 2, none⟩ u2).setCell ⟨g, 3, none⟩ u3).setCell ⟨g, 4, none⟩ u4) base ok v xs := (Kd.V_far (p := ⟨g, 4, none⟩) (Kd.V_far (p := ⟨g, 3, none⟩) (Kd.V_far (p := ⟨g, 2, none⟩) (Kd.V_far (p := ⟨g, 1, none⟩) (Kd.V_far (p := ⟨g, 0, none⟩) h hok u0) hok u1) hok u2) hok u3) hok u4)
end
end Go.Proofs.YticacakoefojbaaGreat.Pr
namespace Go.Proofs.YticacakoefojbaaGreat.Pr
open Go.RowKit Go.Proofs.YticacakoefojbaaGreatW.PrintWords Go.Proofs.YticacakoefojbaaGreatW.PrintLast Go.Proofs.YticacakoefojbaaGreatW.PrintMore
attribute [local go_sem] max2_int min2_int max_two min_two max_three min_three max_four min_four   -- for this text's walks alone

def risk_Element.f (a0 : ByteArray) : Option (Bool) := if a0.toList = ([98, 97, 115, 101] : List UInt8) then (some true) else (if a0.toList = ([101, 109, 98, 101, 100] : List UInt8) then (some true) else (if a0.toList = ([102, 114, 97, 109, 101] : List UInt8) then (some true) else (if a0.toList = ([105, 102, 114, 97, 109, 101] : List UInt8) then (some true) else (if a0.toList = ([108, 105, 110, 107] : List UInt8) then (some true) else (if a0.toList = ([109, 101, 116, 97] : List UInt8) then (some true) else (if a0.toList = ([111, 98, 106, 101, 99, 116] : List UInt8) then (some true) else (if a0.toList = ([115, 99, 114, 105, 112, 116] : List UInt8) then (some true) else (some false))))))))
set_option maxHeartbeats 8000000 in
set_option maxRecDepth 100000 in
theorem risk_Element.calls (a0 : ByteArray) (r : Bool) (w : World) (h : risk_Element.f a0 = some r) :
  Calls Tryz.prog 37 #[.string a0] w fun e w' => e = .returned (.bool r) ∧ Drawn0 w w' := by
 have H : (if a0.toList = ([98, 97, 115, 101] : List UInt8) then (some true) else (if a0.toList = ([101, 109, 98, 101, 100] : List UInt8) then (some true) else (if a0.toList = ([102, 114, 97, 109, 101] : List UInt8) then (some true) else (if a0.toList = ([105, 102, 114, 97, 109, 101] : List UInt8) then (some true) else (if a0.toList = ([108, 105, 110, 107] : List UInt8) then (some true) else (if a0.toList = ([109, 101, 116, 97] : List UInt8) then (some true) else (if a0.toList = ([111, 98, 106, 101, 99, 116] : List UInt8) then (some true) else (if a0.toList = ([115, 99, 114, 105, 112, 116] : List UInt8) then (some true) else (some false))))))))) = some r := h
 clear h
 by_cases c2 : a0.toList = ([98, 97, 115, 101] : List UInt8)
 ·rw [if_pos c2] at H
  have c2b0 : (a0.toList == ([98, 97, 115, 101] : List UInt8)) = true := beq_iff_eq.mpr c2
  have c2b1 : (a0.toList != ([98, 97, 115, 101] : List UInt8)) = false := bne_eq_false_iff_eq.mpr c2
  clear c2
  obtain rfl := Option.some.inj H
  go_enter Tryz.func37, Tryz.ntmps37
  go_wp2
  go_ret
  exact ⟨zt, zw⟩
 ·rw [if_neg c2] at H
  have c2b0 : (a0.toList == ([98, 97, 115, 101] : List UInt8)) = false := beq_eq_false_iff_ne.mpr c2
  have c2b1 : (a0.toList != ([98, 97, 115, 101] : List UInt8)) = true := bne_iff_ne.mpr c2
  by_cases c3 : a0.toList = ([101, 109, 98, 101, 100] : List UInt8)
  ·rw [if_pos c3] at H
   have c3b0 : (a0.toList == ([101, 109, 98, 101, 100] : List UInt8)) = true := beq_iff_eq.mpr c3
   have c3b1 : (a0.toList != ([101, 109, 98, 101, 100] : List UInt8)) = false := bne_eq_false_iff_eq.mpr c3
   clear c3
   obtain rfl := Option.some.inj H
   go_enter Tryz.func37, Tryz.ntmps37
   go_wp2
   go_ret
   exact ⟨zt, zw⟩
  ·rw [if_neg c3] at H
   have c3b0 : (a0.toList == ([101, 109, 98, 101, 100] : List UInt8)) = false := beq_eq_false_iff_ne.mpr c3
   have c3b1 : (a0.toList != ([101, 109, 98, 101, 100] : List UInt8)) = true := bne_iff_ne.mpr c3
   by_cases c4 : a0.toList = ([102, 114, 97, 109, 101] : List UInt8)
   ·rw [if_pos c4] at H
    have c4b0 : (a0.toList == ([102, 114, 97, 109, 101] : List UInt8)) = true := beq_iff_eq.mpr c4
    have c4b1 : (a0.toList != ([102, 114, 97, 109, 101] : List UInt8)) = false := bne_eq_false_iff_eq.mpr c4
    clear c4
    obtain rfl := Option.some.inj H
    go_enter Tryz.func37, Tryz.ntmps37
    go_wp2
    go_ret
    exact ⟨zt, zw⟩
   ·rw [if_neg c4] at H
    have c4b0 : (a0.toList == ([102, 114, 97, 109, 101] : List UInt8)) = false := beq_eq_false_iff_ne.mpr c4
    have c4b1 : (a0.toList != ([102, 114, 97, 109, 101] : List UInt8)) = true := bne_iff_ne.mpr c4
    by_cases c5 : a0.toList = ([105, 102, 114, 97, 109, 101] : List UInt8)
    ·rw [if_pos c5] at H
     have c5b0 : (a0.toList == ([105, 102, 114, 97, 109, 101] : List UInt8)) = true := beq_iff_eq.mpr c5
     have c5b1 : (a0.toList != ([105, 102, 114, 97, 109, 101] : List UInt8)) = false := bne_eq_false_iff_eq.mpr c5
     clear c5
     obtain rfl := Option.some.inj H
     go_enter Tryz.func37, Tryz.ntmps37
     go_wp2
     go_ret
     exact ⟨zt, zw⟩
    ·rw [if_neg c5] at H
     have c5b0 : (a0.toList == ([105, 102, 114, 97, 109, 101] : List UInt8)) = false := beq_eq_false_iff_ne.mpr c5
     have c5b1 : (a0.toList != ([105, 102, 114, 97, 109, 101] : List UInt8)) = true := bne_iff_ne.mpr c5
     by_cases c6 : a0.toList = ([108, 105, 110, 107] : List UInt8)
     ·rw [if_pos c6] at H
      have c6b0 : (a0.toList == ([108, 105, 110, 107] : List UInt8)) = true := beq_iff_eq.mpr c6
      have c6b1 : (a0.toList != ([108, 105, 110, 107] : List UInt8)) = false := bne_eq_false_iff_eq.mpr c6
      clear c6
      obtain rfl := Option.some.inj H
      go_enter Tryz.func37, Tryz.ntmps37
      go_wp2
      go_ret
      exact ⟨zt, zw⟩
     ·rw [if_neg c6] at H
      have c6b0 : (a0.toList == ([108, 105, 110, 107] : List UInt8)) = false := beq_eq_false_iff_ne.mpr c6
      have c6b1 : (a0.toList != ([108, 105, 110, 107] : List UInt8)) = true := bne_iff_ne.mpr c6
      by_cases c7 : a0.toList = ([109, 101, 116, 97] : List UInt8)
      ·rw [if_pos c7] at H
       have c7b0 : (a0.toList == ([109, 101, 116, 97] : List UInt8)) = true := beq_iff_eq.mpr c7
       have c7b1 : (a0.toList != ([109, 101, 116, 97] : List UInt8)) = false := bne_eq_false_iff_eq.mpr c7
       clear c7
       obtain rfl := Option.some.inj H
       go_enter Tryz.func37, Tryz.ntmps37
       go_wp2
       go_ret
       exact ⟨zt, zw⟩
      ·rw [if_neg c7] at H
       have c7b0 : (a0.toList == ([109, 101, 116, 97] : List UInt8)) = false := beq_eq_false_iff_ne.mpr c7
       have c7b1 : (a0.toList != ([109, 101, 116, 97] : List UInt8)) = true := bne_iff_ne.mpr c7
       by_cases c8 : a0.toList = ([111, 98, 106, 101, 99, 116] : List UInt8)
       ·rw [if_pos c8] at H
        have c8b0 : (a0.toList == ([111, 98, 106, 101, 99, 116] : List UInt8)) = true := beq_iff_eq.mpr c8
        have c8b1 : (a0.toList != ([111, 98, 106, 101, 99, 116] : List UInt8)) = false := bne_eq_false_iff_eq.mpr c8
        clear c8
        obtain rfl := Option.some.inj H
        go_enter Tryz.func37, Tryz.ntmps37
        go_wp2
        go_ret
        exact ⟨zt, zw⟩
       ·rw [if_neg c8] at H
        have c8b0 : (a0.toList == ([111, 98, 106, 101, 99, 116] : List UInt8)) = false := beq_eq_false_iff_ne.mpr c8
        have c8b1 : (a0.toList != ([111, 98, 106, 101, 99, 116] : List UInt8)) = true := bne_iff_ne.mpr c8
        by_cases c9 : a0.toList = ([115, 99, 114, 105, 112, 116] : List UInt8)
        ·rw [if_pos c9] at H
         have c9b0 : (a0.toList == ([115, 99, 114, 105, 112, 116] : List UInt8)) = true := beq_iff_eq.mpr c9
         have c9b1 : (a0.toList != ([115, 99, 114, 105, 112, 116] : List UInt8)) = false := bne_eq_false_iff_eq.mpr c9
         clear c9
         obtain rfl := Option.some.inj H
         go_enter Tryz.func37, Tryz.ntmps37
         go_wp2
         go_ret
         exact ⟨zt, zw⟩
        ·rw [if_neg c9] at H
         have c9b0 : (a0.toList == ([115, 99, 114, 105, 112, 116] : List UInt8)) = false := beq_eq_false_iff_ne.mpr c9
         have c9b1 : (a0.toList != ([115, 99, 114, 105, 112, 116] : List UInt8)) = true := bne_iff_ne.mpr c9
         obtain rfl := Option.some.inj H
         go_enter Tryz.func37, Tryz.ntmps37
         go_wp2
         go_ret
         exact ⟨zt, zw⟩

def slices_Index_string_string.l0 : Nat → List ByteArray → ByteArray → Int → Int → Option (Int)
 | 0, _, _, _, _ => none
 | k + 1, x0, x1, x7, x8 => if x8 < x7 then (if 0 ≤ x8 then (if x8 < (x0.length : Int) then (if x1.toList = (rdOf ByteArray.empty x0 x8).toList then (some x8) else (slices_Index_string_string.l0 k x0 x1 x7 (wrap64 (x8 + 1)))) else (none)) else (none)) else (some (-1))
def slices_Index_string_string.f (k : Nat) (l0 : List ByteArray) (a1 : ByteArray) : Option (Int) := slices_Index_string_string.l0 k l0 a1 (l0.length : Int) 0
theorem slices_Index_string_string.mono_l : ∀ k, (∀ y0 y1 y2 y3, LeO (slices_Index_string_string.l0 k y0 y1 y2 y3) (slices_Index_string_string.l0 (k + 1) y0 y1 y2 y3))
 | 0 => fun _ _ _ _ r h => by simp [slices_Index_string_string.l0] at h
 | k + 1 => by
  have ih0 := slices_Index_string_string.mono_l k
  ·intro y0 y1 y2 y3
   unfold slices_Index_string_string.l0
   repeat' first
   | (with_reducible exact ih0 _ _ _ _)
   | (with_reducible exact LeO.refl _)
   | (with_reducible exact LeO.none _)
   | (with_reducible refine LeO.ite ?_ ?_)
   | (with_reducible refine LeO.bind ?_ (fun _ => ?_))
   | exact ih0 _ _ _ _
   | exact LeO.none _
   | refine LeO.ite ?_ ?_
   | refine LeO.bind ?_ (fun _ => ?_)
theorem slices_Index_string_string.mono : ∀ a0 a1 k, LeO (slices_Index_string_string.f k a0 a1) (slices_Index_string_string.f (k + 1) a0 a1) := by
 intro a0 a1 k
 have ih0 := slices_Index_string_string.mono_l k
 unfold slices_Index_string_string.f
 repeat' first
   | (with_reducible exact ih0 _ _ _ _)
   | (with_reducible exact LeO.refl _)
   | (with_reducible exact LeO.none _)
   | (with_reducible refine LeO.ite ?_ ?_)
   | (with_reducible refine LeO.bind ?_ (fun _ => ?_))
   | exact ih0 _ _ _ _
   | exact LeO.none _
   | refine LeO.ite ?_ ?_
   | refine LeO.bind ?_ (fun _ => ?_)
set_option maxHeartbeats 8000000 in
set_option maxRecDepth 100000 in
theorem slices_Index_string_string.calls (k : Nat) (A0 : Option Addr) (c0 : Nat) (l0 : List ByteArray) (a1 : ByteArray) (r : Int) (w : World) (hr0 : Kd.C Kd.string w A0 l0.length l0) (hc0 : l0.length ≤ c0) (h : slices_Index_string_string.f k l0 a1 = some r) :
  Calls Tryz.prog 86 #[.slice A0 l0.length c0, .string a1] w fun e w' => e = .returned (.int .i64 r) ∧ Drawn0 w w' := by
 have HR0 := am hr0
 have HC0 := am hc0
 clear hr0 hc0
 have H : (slices_Index_string_string.l0 k l0 a1 (l0.length : Int) 0) = some r := h
 clear h
 have H' := am H
 clear H
 go_enter Tryz.func86, Tryz.ntmps86
 go_wp2
 go_loopg [8] k (fun kq v8 w' => ∃ (x8_1 : Int), v8 = .int .i64 x8_1 ∧ Aside0 (slices_Index_string_string.l0 kq l0 a1 (l0.length : Int) x8_1 = some r) ∧ Aside0 (kq ≤ k) ∧ Drawn0 w w')
 case atStart => exact ⟨(0), zr, H', ⟨Nat.le_refl _⟩, zw⟩
 case round =>
  clear H'
  try clear p2
  obtain ⟨x8_1, rfl, HA, HK1, ⟨m1, rfl⟩⟩ := hrel
  cases gk with
  | zero => exact absurd HA.out (by simp [slices_Index_string_string.l0])
  | succ k1 =>
   have H := HA.out
   clear HA
   simp only [slices_Index_string_string.l0] at H
   by_cases c3 : x8_1 < (l0.length : Int)
   ·rw [if_pos c3] at H
    have c3b0 : decide (x8_1 < (l0.length : Int)) = true := decide_eq_true c3
    clear c3
    by_cases c4 : 0 ≤ x8_1
    ·rw [if_pos c4] at H
     have c4b0 : decide (0 ≤ x8_1) = true := decide_eq_true c4
     clear c4
     by_cases c5 : x8_1 < (l0.length : Int)
     ·rw [if_pos c5] at H
      have c5b0 : decide (x8_1 < (l0.length : Int)) = true := decide_eq_true c5
      clear c5
      by_cases c6 : a1.toList = (rdOf ByteArray.empty l0 x8_1).toList
      ·rw [if_pos c6] at H
       have c6b0 : (a1.toList == (rdOf ByteArray.empty l0 x8_1).toList) = true := beq_iff_eq.mpr c6
       have c6b1 : (a1.toList != (rdOf ByteArray.empty l0 x8_1).toList) = false := bne_eq_false_iff_eq.mpr c6
       clear c6
       obtain rfl := Option.some.inj H
       have p123 : 0 ≤ (x8_1 : Int) := of_decide_eq_true za
       have q123 : x8_1 < (l0.length : Int) := of_decide_eq_true za
       obtain ⟨ad123, e123, hx123_0⟩ := Kd.at_string HR0.out x8_1 p123 q123
       cases e123
       replace p123 := eq_true p123
       replace q123 := eq_true q123
       go_wp2
       go_ret
       exact ⟨zt, zw⟩
      ·rw [if_neg c6] at H
       have c6b0 : (a1.toList == (rdOf ByteArray.empty l0 x8_1).toList) = false := beq_eq_false_iff_ne.mpr c6
       have c6b1 : (a1.toList != (rdOf ByteArray.empty l0 x8_1).toList) = true := bne_iff_ne.mpr c6
       have H' := am H
       clear H
       have p123 : 0 ≤ (x8_1 : Int) := of_decide_eq_true za
       have q123 : x8_1 < (l0.length : Int) := of_decide_eq_true za
       obtain ⟨ad123, e123, hx123_0⟩ := Kd.at_string HR0.out x8_1 p123 q123
       cases e123
       replace p123 := eq_true p123
       replace q123 := eq_true q123
       go_wp2
       go_roundg k1
       case measure => have := HK1.out; omega
       case rel => exact ⟨(wrap64 (x8_1 + 1)), zr, H', ⟨by have := HK1.out; omega⟩, zw⟩
     ·rw [if_neg c5] at H
      exact absurd H (by simp)
    ·rw [if_neg c4] at H
     exact absurd H (by simp)
   ·rw [if_neg c3] at H
    have c3b0 : decide (x8_1 < (l0.length : Int)) = false := decide_eq_false c3
    clear c3
    obtain rfl := Option.some.inj H
    go_wp2
    go_ret
    exact ⟨zt, zw⟩

def slices_Contains_string_string.f (k : Nat) (l0 : List ByteArray) (a1 : ByteArray) : Option (Bool) := (slices_Index_string_string.f k l0 a1).bind fun t124 => (some (decide (t124 ≥ 0)))
theorem slices_Contains_string_string.mono : ∀ a0 a1 k, LeO (slices_Contains_string_string.f k a0 a1) (slices_Contains_string_string.f (k + 1) a0 a1) := by
 intro a0 a1 k
 unfold slices_Contains_string_string.f
 repeat' first
   | (with_reducible exact slices_Index_string_string.mono _ _ _)
   | (with_reducible exact LeO.refl _)
   | (with_reducible exact LeO.none _)
   | (with_reducible refine LeO.ite ?_ ?_)
   | (with_reducible refine LeO.bind ?_ (fun _ => ?_))
   | exact slices_Index_string_string.mono _ _ _
   | exact LeO.none _
   | refine LeO.ite ?_ ?_
   | refine LeO.bind ?_ (fun _ => ?_)
set_option maxHeartbeats 8000000 in
set_option maxRecDepth 100000 in
theorem slices_Contains_string_string.calls (k : Nat) (A0 : Option Addr) (c0 : Nat) (l0 : List ByteArray) (a1 : ByteArray) (r : Bool) (w : World) (hr0 : Kd.C Kd.string w A0 l0.length l0) (hc0 : l0.length ≤ c0) (h : slices_Contains_string_string.f k l0 a1 = some r) :
  Calls Tryz.prog 49 #[.slice A0 l0.length c0, .string a1] w fun e w' => e = .returned (.bool r) ∧ Drawn0 w w' := by
 have HR0 := am hr0
 have HC0 := am hc0
 clear hr0 hc0
 have H : ((slices_Index_string_string.f k l0 a1).bind fun t124 => (some (decide (t124 ≥ 0)))) = some r := h
 clear h
 replace H := Option.bind_eq_some_iff.mp H
 obtain ⟨t124, A30, H⟩ := H
 replace H : (some (decide (t124 ≥ 0))) = some r := H
 have A3 := am A30
 clear A30
 obtain rfl := Option.some.inj H
 go_enter Tryz.func49, Tryz.ntmps49
 go_wp2_with (first | ((with_reducible refine gate_callee (f := 86) rfl ?_); refine goesL_ (some 7) rfl rfl Tryz.func86 (by kernel_rfl) rfl #[.slice A0 l0.length c0, .string a1] rfl zm ?_; (with_reducible refine (slices_Index_string_string.calls k _ _ l0 a1 t124 _ ?side1 ?side2 A3.out).mono ?_); (case side1 => repeat (first | exact HR0.out | (with_reducible refine Kd.C_alloc ?_ _) | (with_reducible refine Kd.C_drewN ?_ _) | (with_reducible refine Kd.C_drew ?_))); (case side2 => exact HC0.out); rintro e w' ⟨rfl, ⟨nd, rfl⟩⟩; refine ⟨_, rfl, ?_⟩))
 go_ret
 exact ⟨zt, zw⟩

def config_Element.f (k : Nat) (a0_0 : Bool) (a0_1 : Bool) (l0_2 : List ByteArray) (l0_3 : List ByteArray) (l0_4 : List ByteArray) (l0_5 : List (S60)) (a0_6 : Bool) (a0_7 : Bool) (a1 : ByteArray) : Option (Int) := (slices_Contains_string_string.f k l0_3 a1).bind fun t126 => (if t126 = true then (some 2) else ((slices_Contains_string_string.f k l0_2 a1).bind fun t127 => (if (t127 != a0_0) = true then (some 1) else (some 0))))
theorem config_Element.mono : ∀ a0 a1 a2 a3 a4 a5 a6 a7 a8 k, LeO (config_Element.f k a0 a1 a2 a3 a4 a5 a6 a7 a8) (config_Element.f (k + 1) a0 a1 a2 a3 a4 a5 a6 a7 a8) := by
 intro a0 a1 a2 a3 a4 a5 a6 a7 a8 k
 unfold config_Element.f
 repeat' first
   | (with_reducible exact slices_Contains_string_string.mono _ _ _)
   | (with_reducible exact LeO.refl _)
   | (with_reducible exact LeO.none _)
   | (with_reducible refine LeO.ite ?_ ?_)
   | (with_reducible refine LeO.bind ?_ (fun _ => ?_))
   | exact slices_Contains_string_string.mono _ _ _
   | exact LeO.none _
   | refine LeO.ite ?_ ?_
   | refine LeO.bind ?_ (fun _ => ?_)
set_option maxHeartbeats 8000000 in
set_option maxRecDepth 100000 in
theorem config_Element.calls (k : Nat) (a0_0 : Bool) (a0_1 : Bool) (A0_2 : Option Addr) (c0_2 : Nat) (l0_2 : List ByteArray) (A0_3 : Option Addr) (c0_3 : Nat) (l0_3 : List ByteArray) (A0_4 : Option Addr) (c0_4 : Nat) (l0_4 : List ByteArray) (A0_5 : Option Addr) (c0_5 : Nat) (l0_5 : List (S60)) (a0_6 : Bool) (a0_7 : Bool) (a1 : ByteArray) (r : Int) (w : World) (hr0_2 : Kd.C Kd.string w A0_2 l0_2.length l0_2) (hc0_2 : l0_2.length ≤ c0_2) (hr0_3 : Kd.C Kd.string w A0_3 l0_3.length l0_3) (hc0_3 : l0_3.length ≤ c0_3) (hr0_4 : Kd.C Kd.string w A0_4 l0_4.length l0_4) (hc0_4 : l0_4.length ≤ c0_4) (hr0_5 : Kd.C k60 w A0_5 l0_5.length l0_5) (hc0_5 : l0_5.length ≤ c0_5) (h : config_Element.f k a0_0 a0_1 l0_2 l0_3 l0_4 l0_5 a0_6 a0_7 a1 = some r) :
  Calls Tryz.prog 26 #[.agg #[.bool a0_0, .bool a0_1, .slice A0_2 l0_2.length c0_2, .slice A0_3 l0_3.length c0_3, .slice A0_4 l0_4.length c0_4, .slice A0_5 l0_5.length c0_5, .bool a0_6, .bool a0_7], .string a1] w fun e w' => e = .returned (.int .i64 r) ∧ Below w.heap.size w w' := by
 have hu32 := Tryz.underlying32
 have HR0_2 := am hr0_2
 have HC0_2 := am hc0_2
 clear hr0_2 hc0_2
 have HR0_3 := am hr0_3
 have HC0_3 := am hc0_3
 clear hr0_3 hc0_3
 have HR0_4 := am hr0_4
 have HC0_4 := am hc0_4
 clear hr0_4 hc0_4
 have HR0_5 := am hr0_5
 have HC0_5 := am hc0_5
 clear hr0_5 hc0_5
 have HB := am (Below.refl w.heap.size w)
 have H : ((slices_Contains_string_string.f k l0_3 a1).bind fun t126 => (if t126 = true then (some 2) else ((slices_Contains_string_string.f k l0_2 a1).bind fun t127 => (if (t127 != a0_0) = true then (some 1) else (some 0))))) = some r := h
 clear h
 replace H := Option.bind_eq_some_iff.mp H
 obtain ⟨t126, A30, H⟩ := H
 have A3 := am A30
 clear A30
 by_cases c4 : t126 = true
 ·subst c4
  replace H : (some 2) = some r := by rw [if_pos rfl] at H; exact H
  obtain rfl := Option.some.inj H
  go_enter Tryz.func26, Tryz.ntmps26
  go_wp2_with (first | ((with_reducible refine gate_dst (N := 2) rfl ?_); refine box_event ?hg (N := 2) ?hd (cs := #[.bool a0_0, .bool a0_1, .slice A0_2 l0_2.length c0_2, .slice A0_3 l0_3.length c0_3, .slice A0_4 l0_4.length c0_4, .slice A0_5 l0_5.length c0_5, .bool a0_6, .bool a0_7]) (t := 32) ?hr ?_; (case hd => rfl); (case hg => rfl); (case hr => first | (go_simp; done) | (go_simp; rfl)); intro gb125 hg w5 hbox hb; have n0_ := am (below_step (zb HB) hb); have n1_ := am (hbox); clear HB; have HB := n0_; have BK125 := n1_; clear n0_ n1_; clear hb hbox hg; obtain ⟨hcz6_0, hcz6_1, hcz6_2, hcz6_3, hcz6_4, hcz6_5, hcz6_6, hcz6_7, hfz6_0, hfz6_1, hfz6_2, hfz6_3, hfz6_4, hfz6_5, hfz6_6, hfz6_7⟩ := cz8 BK125.out) | (go_at_call 49; (with_reducible refine (slices_Contains_string_string.calls k _ _ l0_3 a1 true _ ?side1 ?side2 A3.out).mono ?_); (case side1 => exact zc (Kd.C_below HR0_3.out HB.out)); (case side2 => exact HC0_3.out); rintro e w' ⟨rfl, ⟨nd, rfl⟩⟩; (try exact zu)))
  repeat (go_quiet (first | ((with_reducible refine gate_dst (N := 2) rfl ?_); refine box_event ?hg (N := 2) ?hd (cs := #[.bool a0_0, .bool a0_1, .slice A0_2 l0_2.length c0_2, .slice A0_3 l0_3.length c0_3, .slice A0_4 l0_4.length c0_4, .slice A0_5 l0_5.length c0_5, .bool a0_6, .bool a0_7]) (t := 32) ?hr ?_; (case hd => rfl); (case hg => rfl); (case hr => first | (go_simp; done) | (go_simp; rfl)); intro gb125 hg w5 hbox hb; have n0_ := am (below_step (zb HB) hb); have n1_ := am (hbox); have n2_ := am ((by rw [hg]; exact (below_size (zb HB)) : w.heap.size ≤ gb125)); have n3_ := am ((by rw [hg]; exact (below_size (zb HB)) : w.heap.size ≤ gb125)); clear HB; have HB := n0_; have BK125 := n1_; have GW125 := n2_; have GE125 := n3_; clear n0_ n1_ n2_ n3_; clear hb hbox hg; obtain ⟨hcz6_0, hcz6_1, hcz6_2, hcz6_3, hcz6_4, hcz6_5, hcz6_6, hcz6_7, hfz6_0, hfz6_1, hfz6_2, hfz6_3, hfz6_4, hfz6_5, hfz6_6, hfz6_7⟩ := cz8 BK125.out) | (go_at_call 49; (with_reducible refine (slices_Contains_string_string.calls k _ _ l0_3 a1 true _ ?side1 ?side2 A3.out).mono ?_); (case side1 => exact zc (Kd.C_below HR0_3.out HB.out)); (case side2 => exact HC0_3.out); rintro e w' ⟨rfl, ⟨nd, rfl⟩⟩; (try exact zu))); try go_wp2_with (first | ((with_reducible refine gate_dst (N := 2) rfl ?_); refine box_event ?hg (N := 2) ?hd (cs := #[.bool a0_0, .bool a0_1, .slice A0_2 l0_2.length c0_2, .slice A0_3 l0_3.length c0_3, .slice A0_4 l0_4.length c0_4, .slice A0_5 l0_5.length c0_5, .bool a0_6, .bool a0_7]) (t := 32) ?hr ?_; (case hd => rfl); (case hg => rfl); (case hr => first | (go_simp; done) | (go_simp; rfl)); intro gb125 hg w5 hbox hb; have n0_ := am (below_step (zb HB) hb); have n1_ := am (hbox); have n3_ := am ((by rw [hg]; exact (below_size (zb HB)) : w.heap.size ≤ gb125)); clear HB; have HB := n0_; have BK125 := n1_; have GE125 := n3_; clear n0_ n1_ n3_; clear hb hbox hg; obtain ⟨hcz6_0, hcz6_1, hcz6_2, hcz6_3, hcz6_4, hcz6_5, hcz6_6, hcz6_7, hfz6_0, hfz6_1, hfz6_2, hfz6_3, hfz6_4, hfz6_5, hfz6_6, hfz6_7⟩ := cz8 BK125.out) | (go_at_call 49; (with_reducible refine (slices_Contains_string_string.calls k _ _ l0_3 a1 true _ ?side1 ?side2 A3.out).mono ?_); (case side1 => exact zc (Kd.C_below HR0_3.out HB.out)); (case side2 => exact HC0_3.out); rintro e w' ⟨rfl, ⟨nd, rfl⟩⟩; (try exact zu))))
  go_ret
  exact ⟨ze, zb HB⟩
 ·replace c4 := Bool.eq_false_iff.mpr c4
  subst c4
  replace H : ((slices_Contains_string_string.f k l0_2 a1).bind fun t127 => (if (t127 != a0_0) = true then (some 1) else (some 0))) = some r := by rw [if_neg (show ¬ (false = true) by decide)] at H; exact H
  replace H := Option.bind_eq_some_iff.mp H
  obtain ⟨t127, A70, H⟩ := H
  have A7 := am A70
  clear A70
  by_cases c8 : (t127 != a0_0) = true
  ·rw [if_pos c8] at H
   have c8b0 : (t127 != a0_0) = true := c8
   (try (have c8b1 : decide (t127 = a0_0) = false := by simpa using c8))
   (try (have c8b2 : (t127 == a0_0) = false := by simpa using c8))
   (try (have c8b3 : ¬ (t127 = a0_0) := by simpa using c8))
   clear c8
   obtain rfl := Option.some.inj H
   go_enter Tryz.func26, Tryz.ntmps26
   go_wp2_with (first | ((with_reducible refine gate_dst (N := 2) rfl ?_); refine box_event ?hg (N := 2) ?hd (cs := #[.bool a0_0, .bool a0_1, .slice A0_2 l0_2.length c0_2, .slice A0_3 l0_3.length c0_3, .slice A0_4 l0_4.length c0_4, .slice A0_5 l0_5.length c0_5, .bool a0_6, .bool a0_7]) (t := 32) ?hr ?_; (case hd => rfl); (case hg => rfl); (case hr => first | (go_simp; done) | (go_simp; rfl)); intro gb125 hg w9 hbox hb; have n0_ := am (below_step (zb HB) hb); have n1_ := am (hbox); have n3_ := am ((by rw [hg]; exact (below_size (zb HB)) : w.heap.size ≤ gb125)); clear HB; have HB := n0_; have BK125 := n1_; have GE125 := n3_; clear n0_ n1_ n3_; clear hb hbox hg; obtain ⟨hcz10_0, hcz10_1, hcz10_2, hcz10_3, hcz10_4, hcz10_5, hcz10_6, hcz10_7, hfz10_0, hfz10_1, hfz10_2, hfz10_3, hfz10_4, hfz10_5, hfz10_6, hfz10_7⟩ := cz8 BK125.out) | (go_at_call 49; (with_reducible refine (slices_Contains_string_string.calls k _ _ l0_3 a1 false _ ?side1 ?side2 A3.out).mono ?_); (case side1 => exact zc (Kd.C_below HR0_3.out HB.out)); (case side2 => exact HC0_3.out); rintro e w' ⟨rfl, ⟨nd, rfl⟩⟩; (try exact zu)) | (go_at_call 49; (with_reducible refine (slices_Contains_string_string.calls k _ _ l0_2 a1 t127 _ ?side1 ?side2 A7.out).mono ?_); (case side1 => exact Kd.C_below HR0_2.out (zb1 HB GE125)); (case side2 => exact HC0_2.out); rintro e w' ⟨rfl, ⟨nd, rfl⟩⟩; (try exact zu)))
   repeat (go_quiet (first | ((with_reducible refine gate_dst (N := 2) rfl ?_); refine box_event ?hg (N := 2) ?hd (cs := #[.bool a0_0, .bool a0_1, .slice A0_2 l0_2.length c0_2, .slice A0_3 l0_3.length c0_3, .slice A0_4 l0_4.length c0_4, .slice A0_5 l0_5.length c0_5, .bool a0_6, .bool a0_7]) (t := 32) ?hr ?_; (case hd => rfl); (case hg => rfl); (case hr => first | (go_simp; done) | (go_simp; rfl)); intro gb125 hg w9 hbox hb; have n0_ := am (below_step (zb HB) hb); have n1_ := am (hbox); have n2_ := am ((by rw [hg]; exact (below_size (zb HB)) : w.heap.size ≤ gb125)); have n3_ := am ((by rw [hg]; exact (below_size (zb HB)) : w.heap.size ≤ gb125)); clear HB; have HB := n0_; have BK125 := n1_; have GW125 := n2_; have GE125 := n3_; clear n0_ n1_ n2_ n3_; clear hb hbox hg; obtain ⟨hcz10_0, hcz10_1, hcz10_2, hcz10_3, hcz10_4, hcz10_5, hcz10_6, hcz10_7, hfz10_0, hfz10_1, hfz10_2, hfz10_3, hfz10_4, hfz10_5, hfz10_6, hfz10_7⟩ := cz8 BK125.out) | (go_at_call 49; (with_reducible refine (slices_Contains_string_string.calls k _ _ l0_3 a1 false _ ?side1 ?side2 A3.out).mono ?_); (case side1 => exact zc (Kd.C_below HR0_3.out HB.out)); (case side2 => exact HC0_3.out); rintro e w' ⟨rfl, ⟨nd, rfl⟩⟩; (try exact zu)) | (go_at_call 49; (with_reducible refine (slices_Contains_string_string.calls k _ _ l0_2 a1 t127 _ ?side1 ?side2 A7.out).mono ?_); (case side1 => exact Kd.C_below HR0_2.out (zb1 HB GE125)); (case side2 => exact HC0_2.out); rintro e w' ⟨rfl, ⟨nd, rfl⟩⟩; (try exact zu))); try go_wp2_with (first | ((with_reducible refine gate_dst (N := 2) rfl ?_); refine box_event ?hg (N := 2) ?hd (cs := #[.bool a0_0, .bool a0_1, .slice A0_2 l0_2.length c0_2, .slice A0_3 l0_3.length c0_3, .slice A0_4 l0_4.length c0_4, .slice A0_5 l0_5.length c0_5, .bool a0_6, .bool a0_7]) (t := 32) ?hr ?_; (case hd => rfl); (case hg => rfl); (case hr => first | (go_simp; done) | (go_simp; rfl)); intro gb125 hg w9 hbox hb; have n0_ := am (below_step (zb HB) hb); have n1_ := am (hbox); have n3_ := am ((by rw [hg]; exact (below_size (zb HB)) : w.heap.size ≤ gb125)); clear HB; have HB := n0_; have BK125 := n1_; have GE125 := n3_; clear n0_ n1_ n3_; clear hb hbox hg; obtain ⟨hcz10_0, hcz10_1, hcz10_2, hcz10_3, hcz10_4, hcz10_5, hcz10_6, hcz10_7, hfz10_0, hfz10_1, hfz10_2, hfz10_3, hfz10_4, hfz10_5, hfz10_6, hfz10_7⟩ := cz8 BK125.out) | (go_at_call 49; (with_reducible refine (slices_Contains_string_string.calls k _ _ l0_3 a1 false _ ?side1 ?side2 A3.out).mono ?_); (case side1 => exact zc (Kd.C_below HR0_3.out HB.out)); (case side2 => exact HC0_3.out); rintro e w' ⟨rfl, ⟨nd, rfl⟩⟩; (try exact zu)) | (go_at_call 49; (with_reducible refine (slices_Contains_string_string.calls k _ _ l0_2 a1 t127 _ ?side1 ?side2 A7.out).mono ?_); (case side1 => exact Kd.C_below HR0_2.out (zb1 HB GE125)); (case side2 => exact HC0_2.out); rintro e w' ⟨rfl, ⟨nd, rfl⟩⟩; (try exact zu))))
   go_ret
   exact ⟨ze, zb1 HB GE125⟩
  ·rw [if_neg c8] at H
   have c8b0 : (t127 != a0_0) = false := by simpa using c8
   (try (have c8b1 : decide (t127 = a0_0) = true := by simpa using c8))
   (try (have c8b2 : (t127 == a0_0) = true := by simpa using c8))
   clear c8
   obtain rfl := Option.some.inj H
   go_enter Tryz.func26, Tryz.ntmps26
   go_wp2_with (first | ((with_reducible refine gate_dst (N := 2) rfl ?_); refine box_event ?hg (N := 2) ?hd (cs := #[.bool a0_0, .bool a0_1, .slice A0_2 l0_2.length c0_2, .slice A0_3 l0_3.length c0_3, .slice A0_4 l0_4.length c0_4, .slice A0_5 l0_5.length c0_5, .bool a0_6, .bool a0_7]) (t := 32) ?hr ?_; (case hd => rfl); (case hg => rfl); (case hr => first | (go_simp; done) | (go_simp; rfl)); intro gb125 hg w11 hbox hb; have n0_ := am (below_step (zb HB) hb); have n1_ := am (hbox); have n3_ := am ((by rw [hg]; exact (below_size (zb HB)) : w.heap.size ≤ gb125)); clear HB; have HB := n0_; have BK125 := n1_; have GE125 := n3_; clear n0_ n1_ n3_; clear hb hbox hg; obtain ⟨hcz12_0, hcz12_1, hcz12_2, hcz12_3, hcz12_4, hcz12_5, hcz12_6, hcz12_7, hfz12_0, hfz12_1, hfz12_2, hfz12_3, hfz12_4, hfz12_5, hfz12_6, hfz12_7⟩ := cz8 BK125.out) | (go_at_call 49; (with_reducible refine (slices_Contains_string_string.calls k _ _ l0_3 a1 false _ ?side1 ?side2 A3.out).mono ?_); (case side1 => exact zc (Kd.C_below HR0_3.out HB.out)); (case side2 => exact HC0_3.out); rintro e w' ⟨rfl, ⟨nd, rfl⟩⟩; (try exact zu)) | (go_at_call 49; (with_reducible refine (slices_Contains_string_string.calls k _ _ l0_2 a1 t127 _ ?side1 ?side2 A7.out).mono ?_); (case side1 => exact Kd.C_below HR0_2.out (zb1 HB GE125)); (case side2 => exact HC0_2.out); rintro e w' ⟨rfl, ⟨nd, rfl⟩⟩; (try exact zu)))
   repeat (go_quiet (first | ((with_reducible refine gate_dst (N := 2) rfl ?_); refine box_event ?hg (N := 2) ?hd (cs := #[.bool a0_0, .bool a0_1, .slice A0_2 l0_2.length c0_2, .slice A0_3 l0_3.length c0_3, .slice A0_4 l0_4.length c0_4, .slice A0_5 l0_5.length c0_5, .bool a0_6, .bool a0_7]) (t := 32) ?hr ?_; (case hd => rfl); (case hg => rfl); (case hr => first | (go_simp; done) | (go_simp; rfl)); intro gb125 hg w11 hbox hb; have n0_ := am (below_step (zb HB) hb); have n1_ := am (hbox); have n2_ := am ((by rw [hg]; exact (below_size (zb HB)) : w.heap.size ≤ gb125)); have n3_ := am ((by rw [hg]; exact (below_size (zb HB)) : w.heap.size ≤ gb125)); clear HB; have HB := n0_; have BK125 := n1_; have GW125 := n2_; have GE125 := n3_; clear n0_ n1_ n2_ n3_; clear hb hbox hg; obtain ⟨hcz12_0, hcz12_1, hcz12_2, hcz12_3, hcz12_4, hcz12_5, hcz12_6, hcz12_7, hfz12_0, hfz12_1, hfz12_2, hfz12_3, hfz12_4, hfz12_5, hfz12_6, hfz12_7⟩ := cz8 BK125.out) | (go_at_call 49; (with_reducible refine (slices_Contains_string_string.calls k _ _ l0_3 a1 false _ ?side1 ?side2 A3.out).mono ?_); (case side1 => exact zc (Kd.C_below HR0_3.out HB.out)); (case side2 => exact HC0_3.out); rintro e w' ⟨rfl, ⟨nd, rfl⟩⟩; (try exact zu)) | (go_at_call 49; (with_reducible refine (slices_Contains_string_string.calls k _ _ l0_2 a1 t127 _ ?side1 ?side2 A7.out).mono ?_); (case side1 => exact Kd.C_below HR0_2.out (zb1 HB GE125)); (case side2 => exact HC0_2.out); rintro e w' ⟨rfl, ⟨nd, rfl⟩⟩; (try exact zu))); try go_wp2_with (first | ((with_reducible refine gate_dst (N := 2) rfl ?_); refine box_event ?hg (N := 2) ?hd (cs := #[.bool a0_0, .bool a0_1, .slice A0_2 l0_2.length c0_2, .slice A0_3 l0_3.length c0_3, .slice A0_4 l0_4.length c0_4, .slice A0_5 l0_5.length c0_5, .bool a0_6, .bool a0_7]) (t := 32) ?hr ?_; (case hd => rfl); (case hg => rfl); (case hr => first | (go_simp; done) | (go_simp; rfl)); intro gb125 hg w11 hbox hb; have n0_ := am (below_step (zb HB) hb); have n1_ := am (hbox); have n3_ := am ((by rw [hg]; exact (below_size (zb HB)) : w.heap.size ≤ gb125)); clear HB; have HB := n0_; have BK125 := n1_; have GE125 := n3_; clear n0_ n1_ n3_; clear hb hbox hg; obtain ⟨hcz12_0, hcz12_1, hcz12_2, hcz12_3, hcz12_4, hcz12_5, hcz12_6, hcz12_7, hfz12_0, hfz12_1, hfz12_2, hfz12_3, hfz12_4, hfz12_5, hfz12_6, hfz12_7⟩ := cz8 BK125.out) | (go_at_call 49; (with_reducible refine (slices_Contains_string_string.calls k _ _ l0_3 a1 false _ ?side1 ?side2 A3.out).mono ?_); (case side1 => exact zc (Kd.C_below HR0_3.out HB.out)); (case side2 => exact HC0_3.out); rintro e w' ⟨rfl, ⟨nd, rfl⟩⟩; (try exact zu)) | (go_at_call 49; (with_reducible refine (slices_Contains_string_string.calls k _ _ l0_2 a1 t127 _ ?side1 ?side2 A7.out).mono ?_); (case side1 => exact Kd.C_below HR0_2.out (zb1 HB GE125)); (case side2 => exact HC0_2.out); rintro e w' ⟨rfl, ⟨nd, rfl⟩⟩; (try exact zu))))
   go_ret
   exact ⟨ze, zb1 HB GE125⟩

def boltingref02_Has.l0 : Nat → List ByteArray → ByteArray → Int → Option (Bool)
 | 0, _, _, _ => none
 | k + 1, x0, x1, x5 => if x5 < (x0.length : Int) then (if 0 ≤ x5 then (if (rdOf ByteArray.empty x0 x5).toList = x1.toList then (some true) else (boltingref02_Has.l0 k x0 x1 (wrap64 (x5 + 1)))) else (none)) else (some false)
def boltingref02_Has.f (k : Nat) (l0 : List ByteArray) (a1 : ByteArray) : Option (Bool) := boltingref02_Has.l0 k l0 a1 0
def boltingref12_Element.f (k : Nat) (a0_0 : Bool) (a0_1 : Bool) (l0_2 : List ByteArray) (l0_3 : List ByteArray) (l0_4 : List ByteArray) (l0_5 : List (S60)) (a0_6 : Bool) (a0_7 : Bool) (a1 : ByteArray) : Option (Int) := (boltingref02_Has.f k l0_3 a1).bind fun t130 => (if t130 = true then (some 2) else ((boltingref02_Has.f k l0_2 a1).bind fun t131 => (if (t131 == a0_0) = true then (some 0) else (some 1))))
end Go.Proofs.YticacakoefojbaaGreat.Pr
namespace Go.Proofs.YticacakoefojbaaGreat
open Go.RowKit Go.Proofs.YticacakoefojbaaGreatW.PrintWords

theorem toList_inj {a b : ByteArray} (h : a.toList = b.toList) : a = b := by
 rw [Lib.toList_data, Lib.toList_data] at h
 rw [← Lib.mk_data a, h, Lib.mk_data b]
theorem toList_iff (a b : ByteArray) : a.toList = b.toList ↔ a = b := ⟨toList_inj, fun h => h ▸ rfl⟩
abbrev dat (s : ByteArray) : List UInt8 := s.data.toList
theorem dat_inj {a b : ByteArray} (h : dat a = dat b) : a = b := toList_inj (by rw [Lib.toList_data, Lib.toList_data]; exact h)
theorem lt_irr (a : List UInt8) : ¬ a < a := List.lt_irrefl a
theorem le_or (a b : List UInt8) : a < b ∨ a = b ∨ b < a := by
 rcases Classical.em (a < b) with h | h
 ·exact .inl h
 ·rcases Classical.em (b < a) with g | g
  ·exact .inr (.inr g)
  ·exact .inr (.inl (List.le_antisymm g h))
def Up (l : List (List UInt8)) : Prop := l.Pairwise (· < ·)
theorem compact_up {d : Array (List UInt8)} (hd : ∀ i j, i ≤ j → j < d.size → d[i]! ≤ d[j]!) : ∀ m, m ≤ d.size → Up (Lib.compactUpTo d m) ∧ ∀ x, x ∈ Lib.compactUpTo d m ↔ ∃ j, j < m ∧ d[j]! = x
 | 0, _ => ⟨by simp [Lib.compactUpTo, Up], fun x => by simp [Lib.compactUpTo]⟩
 | m + 1, hm => by
  obtain ⟨h1, h2⟩ := compact_up hd m (by omega)
  rw [Lib.compactUpTo_succ]
  cases hk : Lib.keeps d m with
  | true =>
   rw [if_pos rfl]
   refine ⟨?_, fun x => ?_⟩
   ·refine List.pairwise_append.2 ⟨h1, by simp, fun x hx y hy => ?_⟩
    rw [List.mem_singleton] at hy; subst hy
    obtain ⟨j, hj, rfl⟩ := (h2 x).1 hx
    have hne : d[m - 1]! ≠ d[m]! := by
     unfold Lib.keeps at hk
     simp at hk
     rcases hk with h | h
     ·omega
     ·exact fun e => h e.symm
    have a := hd j (m - 1) (by omega) (by omega)
    have b := hd (m - 1) m (by omega) (by omega)
    rcases le_or d[m - 1]! d[m]! with h | h | h
    ·exact List.lt_of_le_of_lt a h
    ·exact absurd h hne
    ·exact absurd h b
   ·rw [List.mem_append, List.mem_singleton, h2]
    constructor
    ·rintro (⟨j, hj, e⟩ | e)
     ·exact ⟨j, by omega, e⟩
     ·exact ⟨m, by omega, e.symm⟩
    ·rintro ⟨j, hj, e⟩
     rcases Nat.lt_or_ge j m with h | h
     ·exact .inl ⟨j, h, e⟩
     ·obtain rfl : j = m := by omega
      exact .inr e.symm
  | false =>
   rw [if_neg (by simp), List.append_nil]
   refine ⟨h1, fun x => ?_⟩
   rw [h2]
   have he : m ≠ 0 ∧ d[m]! = d[m - 1]! := by
    unfold Lib.keeps at hk
    simp at hk
    exact ⟨by omega, by simpa using hk.2⟩
   constructor
   ·rintro ⟨j, hj, e⟩; exact ⟨j, by omega, e⟩
   ·rintro ⟨j, hj, e⟩
    rcases Nat.lt_or_ge j m with h | h
    ·exact ⟨j, h, e⟩
    ·obtain rfl : j = m := by omega
     exact ⟨j - 1, by omega, by rw [← he.2, e]⟩
theorem merge_up (l : List (List UInt8)) : (l.mergeSort fun x y => decide (x ≤ y)).Pairwise (· ≤ ·) := by
 have h := List.pairwise_mergeSort (le := fun x y : List UInt8 => decide (x ≤ y)) (fun a b c h g => by simp only [decide_eq_true_eq] at *; exact List.le_trans h g) (fun a b => by
  simp only [Bool.or_eq_true, decide_eq_true_eq]
  exact List.le_total a b) l
 exact h.imp (fun h => by simpa using h)
theorem sorted_up (l : List (List UInt8)) : Up (sorted l) := by
 unfold sorted
 obtain ⟨m, hm⟩ : ∃ m, (l.mergeSort fun x y => decide (x ≤ y)) = m := ⟨_, rfl⟩
 have h := merge_up l
 rw [hm] at h ⊢
 refine (compact_up (d := m.toArray) (fun i j hij hj => ?_) m.length (by simp)).1
 have hj' : j < m.length := by simpa using hj
 rcases Nat.lt_or_ge i j with hlt | hge
 ·have := List.pairwise_iff_getElem.1 h i j (by omega) hj' hlt
  simpa [getElem!_pos, hj', show i < m.length by omega] using this
 ·obtain rfl : i = j := by omega
  exact List.le_refl _
theorem sorted_mem (l : List (List UInt8)) (x : List UInt8) : x ∈ sorted l ↔ x ∈ l := by
 unfold sorted
 have h := merge_up l
 have hme : x ∈ (l.mergeSort fun x y => decide (x ≤ y)) ↔ x ∈ l := List.mem_mergeSort
 obtain ⟨m, hm⟩ : ∃ m, (l.mergeSort fun x y => decide (x ≤ y)) = m := ⟨_, rfl⟩
 rw [hm] at h hme ⊢
 rw [← hme]
 refine ((compact_up (d := m.toArray) (fun i j hij hj => ?_) m.length (by simp)).2 x).trans ?_
 ·have hj' : j < m.length := by simpa using hj
  rcases Nat.lt_or_ge i j with hlt | hge
  ·have := List.pairwise_iff_getElem.1 h i j (by omega) hj' hlt
   simpa [getElem!_pos, hj', show i < m.length by omega] using this
  ·obtain rfl : i = j := by omega
   exact List.le_refl _
 ·rw [List.mem_iff_getElem?]
  constructor
  ·rintro ⟨j, hj, e⟩
   refine ⟨j, ?_⟩
   rw [← e, List.getElem?_eq_getElem hj]
   simp [getElem!_pos, hj]
  ·rintro ⟨j, e⟩
   have hj := (List.getElem?_eq_some_iff.1 e).1
   refine ⟨j, hj, ?_⟩
   rw [List.getElem?_eq_getElem hj] at e
   simpa [getElem!_pos, hj] using e
def insert1 (x : List UInt8) : List (List UInt8) → List (List UInt8)
 | [] => [x]
 | y :: t => if x < y then x :: y :: t else y :: insert1 x t
def insAll : List (List UInt8) → List (List UInt8) → List (List UInt8)
 | out, [] => out
 | out, x :: t => insAll (if x ∈ out then out else insert1 x out) t
theorem sorted_f (l : List ByteArray) (hl : l.length ≤ 4294967296) : fold_Sorted.f l = some (SS (sorted (l.map dat))) := by
 unfold fold_Sorted.f; rw [if_pos hl]; rfl

end Go.Proofs.YticacakoefojbaaGreat
namespace Go.Proofs.YticacakoefojbaaGreat.Pure
open Go.RowKit Go.Proofs.YticacakoefojbaaGreat.Pr Go.Proofs.YticacakoefojbaaGreatW.PrintWords Go.Proofs.YticacakoefojbaaGreatW.PrintLast
theorem rd_at {l : List ByteArray} {i : Nat} {x : ByteArray} (h : l[i]? = some x) : rdOf ByteArray.empty l (i : Int) = x := by
 unfold rdOf
 rw [Int.toNat_natCast, List.getD_eq_getElem?_getD, h]
 rfl
def mem (l : List ByteArray) (s : ByteArray) : Bool := l.any fun x => decide (x = s)
theorem mem_iff (l : List ByteArray) (s : ByteArray) : mem l s = true ↔ s ∈ l := by
 unfold mem
 rw [List.any_eq_true]
 constructor
 ·rintro ⟨x, h, e⟩; rw [decide_eq_true_eq] at e; subst e; exact h
 ·intro h; exact ⟨s, h, by simp⟩
theorem mem_drop_at {l : List ByteArray} {i : Nat} {x : ByteArray} (h : l[i]? = some x) (s : ByteArray) : mem (l.drop i) s = (decide (x = s) || mem (l.drop (i + 1)) s) := by
 rw [drop_at h]
 unfold mem
 rw [List.any_cons]
theorem index_l0 (l : List ByteArray) (s : ByteArray) (hl : l.length ≤ 4000000000000000000) : ∀ (d i : Nat), i + d = l.length → ∀ k, d < k → ∃ r, slices_Index_string_string.l0 k l s (l.length : Int) (i : Int) = some r ∧ decide (r ≥ 0) = mem (l.drop i) s
 | 0, i, h, k, hk => by
  obtain ⟨k, rfl⟩ : ∃ m, k = m + 1 := ⟨k - 1, by omega⟩
  simp only [slices_Index_string_string.l0]
  rw [if_neg (by omega), List.drop_of_length_le (by omega)]
  exact ⟨_, rfl, by simp [mem]⟩
 | d + 1, i, h, k, hk => by
  obtain ⟨k, rfl⟩ : ∃ m, k = m + 1 := ⟨k - 1, by omega⟩
  obtain ⟨x, hx⟩ := get_some (show i < l.length by omega)
  simp only [slices_Index_string_string.l0]
  rw [if_pos (by omega), if_pos (by omega), if_pos (by omega), rd_at hx, mem_drop_at hx]
  by_cases e : x = s
  ·subst e; rw [if_pos rfl]; exact ⟨_, rfl, by simp⟩
  ·rw [if_neg (fun g => e (toList_inj g.symm)), wrap_succ (by omega) (by omega), decide_eq_false e, Bool.false_or]
   exact index_l0 l s hl d (i + 1) (by omega) k (by omega)
theorem contains_f (l : List ByteArray) (s : ByteArray) (hl : l.length ≤ 4000000000000000000) {k : Nat} (hk : l.length < k) : slices_Contains_string_string.f k l s = some (mem l s) := by
 obtain ⟨r, h1, h2⟩ := index_l0 l s hl l.length 0 (by omega) k hk
 unfold slices_Contains_string_string.f slices_Index_string_string.f
 rw [show ((0 : Nat) : Int) = 0 from rfl] at h1
 rw [h1]
 simp only [Option.bind_some]
 rw [h2]; rfl
def minus (a b : List ByteArray) : List ByteArray := a.filter fun x => !mem b x
theorem mem_SS (l : List (List UInt8)) (s : ByteArray) : mem (SS l) s = decide (dat s ∈ l) := by
 rw [Bool.eq_iff_iff, mem_iff, decide_eq_true_eq]
 unfold SS
 rw [List.mem_map]
 constructor
 ·rintro ⟨x, hx, rfl⟩; exact hx
 ·intro h; exact ⟨_, h, mkS_data s⟩
end Go.Proofs.YticacakoefojbaaGreat.Pure
namespace Go.Proofs.YticacakoefojbaaGreat.Pr
open Go.RowKit Go.Proofs.YticacakoefojbaaGreatW.PrintWords Go.Proofs.YticacakoefojbaaGreatW.PrintLast Go.Proofs.YticacakoefojbaaGreatW.PrintMore
attribute [local go_sem] max2_int min2_int max_two min_two max_three min_three max_four min_four   -- for this text's walks alone

def boltingref12_Attr.l0 : Nat → ByteArray → ByteArray → Bool → Int → Bool → Bool → List ByteArray → List ByteArray → List ByteArray → List (S60) → Bool → Bool → Option (Bool)
 | 0, _, _, _, _, _, _, _, _, _, _, _, _ => none
 | k + 1, x1, x2, x7, x8, x133000, x133001, x133002, x133003, x133004, x133005, x133006, x133007 => if x8 < (x133005.length : Int) then (if x7 = true then (boltingref12_Attr.l0 k x1 x2 true (wrap64 (x8 + 1)) x133000 x133001 x133002 x133003 x133004 x133005 x133006 x133007) else (if 0 ≤ x8 then (if ((rd_T60 x133005 x8).f0).toList = x1.toList then ((boltingref02_Has.f k ((rd_T60 x133005 x8).f1) x2).bind fun t136 => (boltingref12_Attr.l0 k x1 x2 t136 (wrap64 (x8 + 1)) x133000 x133001 x133002 x133003 x133004 x133005 x133006 x133007)) else (boltingref12_Attr.l0 k x1 x2 false (wrap64 (x8 + 1)) x133000 x133001 x133002 x133003 x133004 x133005 x133006 x133007)) else (none))) else (if x133001 = true then (if x7 = true then (some true) else (if x133007 = true then (if (x2.size : Int) > 5 then (if 0 ≤ 5 then (if 5 ≤ (x2.size : Int) then (some ((x2.extract 0 5).toList == ([100, 97, 116, 97, 45] : List UInt8))) else (none)) else (none)) else (some false)) else (some false))) else (some (!x7)))
def boltingref12_Attr.f (k : Nat) (a0_0 : Bool) (a0_1 : Bool) (l0_2 : List ByteArray) (l0_3 : List ByteArray) (l0_4 : List ByteArray) (l0_5 : List (S60)) (a0_6 : Bool) (a0_7 : Bool) (a1 : ByteArray) (a2 : ByteArray) : Option (Bool) := (boltingref02_Has.f k l0_4 a2).bind fun t133 => (boltingref12_Attr.l0 k a1 a2 t133 0 a0_0 a0_1 l0_2 l0_3 l0_4 l0_5 a0_6 a0_7)
def boltingref02_Space.f (a0 : Int) : Option (Bool) := if a0 = 32 then (some true) else (if a0 = 9 then (some true) else (if a0 = 10 then (some true) else (if a0 = 12 then (some true) else (some (a0 == 13)))))
def boltingref05_bad.f (a0 : Int) (a1 : Bool) : Option (Bool) := (boltingref02_Space.f a0).bind fun t137 => (if t137 = true then (some true) else (if a0 ≥ 65 then (if a0 ≤ 90 then (some true) else (if a0 = 0 then (some true) else (if a0 = 47 then (some true) else (if a0 = 62 then (some true) else (if a1 = true then (if a0 = 34 then (some true) else (if a0 = 39 then (some true) else (if a0 = 60 then (some true) else (some (a0 == 61))))) else (some false)))))) else (if a0 = 0 then (some true) else (if a0 = 47 then (some true) else (if a0 = 62 then (some true) else (if a1 = true then (if a0 = 34 then (some true) else (if a0 = 39 then (some true) else (if a0 = 60 then (some true) else (some (a0 == 61))))) else (some false)))))))
def boltingref05_May.l0 : Nat → ByteArray → Bool → Int → Option (Bool)
 | 0, _, _, _ => none
 | k + 1, x0, x1, x5 => if x5 < (x0.size : Int) then (if 0 ≤ x5 then ((boltingref05_bad.f (bt x0 x5) x1).bind fun t138 => (if t138 = true then (some false) else (boltingref05_May.l0 k x0 x1 (wrap64 (x5 + 1))))) else (none)) else (if (x0.size : Int) > 0 then (if x1 = true then (some true) else (if 0 < (x0.size : Int) then (if (bt x0 0) ≥ 97 then (some (decide ((bt x0 0) ≤ 122))) else (some false)) else (none))) else (some false))
def boltingref05_May.f (k : Nat) (a0 : ByteArray) (a1 : Bool) : Option (Bool) := boltingref05_May.l0 k a0 a1 0
end Go.Proofs.YticacakoefojbaaGreat.Pr
namespace Go.Proofs.YticacakoefojbaaGreat
open Go.RowKit

def bef (c : UInt8) (l : List UInt8) : List UInt8 := l.takeWhile (· != c)
def aft (c : UInt8) (l : List UInt8) : List UInt8 := (l.dropWhile (· != c)).drop 1
theorem indexByte_bef (c : UInt8) : ∀ l : List UInt8, Lib.indexByte l c = if l.contains c then ((bef c l).length : Int) else -1
 | [] => rfl
 | b :: l => by
  unfold Lib.indexByte bef
  have ih := indexByte_bef c l
  by_cases hb : b = c
  ·subst hb; simp
  ·have h1 : (b == c) = false := by simpa using hb
   have h2 : (b != c) = true := by simpa using hb
   have h3 : (b :: l).contains c = l.contains c := by rw [List.contains_cons]; simp [Ne.symm hb]
   rw [h1, h3]
   simp only [Bool.false_eq_true, if_false, List.takeWhile_cons, h2, if_true, List.length_cons]
   rw [ih]
   unfold bef
   split
   ·rw [if_neg (by rw [beq_iff_eq]; omega)]
    push_cast
    rfl
   ·simp
theorem bef_take (c : UInt8) (l : List UInt8) : l.take (bef c l).length = bef c l := (List.prefix_iff_eq_take.1 (List.takeWhile_prefix _)).symm
theorem bef_all {c : UInt8} : ∀ {l : List UInt8}, l.contains c = false → bef c l = l ∧ aft c l = []
 | [], _ => ⟨rfl, rfl⟩
 | b :: l, h => by
  have h1 : b ≠ c ∧ l.contains c = false := by
   rw [List.contains_cons] at h
   simp at h
   exact ⟨fun e => h.1 e.symm, by simpa using h.2⟩
  obtain ⟨e1, e2⟩ := bef_all h1.2
  have h2 : (b != c) = true := by simpa using h1.1
  unfold bef aft at *
  simp only [List.takeWhile_cons, List.dropWhile_cons, h2, if_true]
  exact ⟨by rw [e1], e2⟩
theorem aft_drop (c : UInt8) : ∀ l : List UInt8, l.drop ((bef c l).length + 1) = aft c l
 | [] => rfl
 | b :: l => by
  have ih := aft_drop c l
  unfold bef aft at *
  simp only [List.takeWhile_cons, List.dropWhile_cons]
  split
  ·simpa using ih
  ·simp
theorem bef_lt {c : UInt8} : ∀ {l : List UInt8}, l.contains c = true → (bef c l).length < l.length
 | [], h => by simp at h
 | b :: l, h => by
  unfold bef
  simp only [List.takeWhile_cons]
  by_cases hb : b = c
  ·subst hb; simp
  ·have h2 : (b != c) = true := by simpa using hb
   rw [h2]
   have h3 : l.contains c = true := by rw [List.contains_cons] at h; simpa [Ne.symm hb] using h
   have := bef_lt h3
   unfold bef at this
   simpa using this
theorem bef_le (c : UInt8) (l : List UInt8) : (bef c l).length ≤ l.length := (List.takeWhile_sublist _).length_le
set_option maxHeartbeats 1000000 in
set_option maxRecDepth 100000 in
theorem slite_cut_calls (c : UInt8) (s : ByteArray) (w : World) (hs : s.size ≤ 140737488351232) :
  Calls Tryz.prog 140 #[.string s, .string ⟨#[c]⟩] w fun e w' => e = .returned (.tuple #[.string ⟨(bef c s.data.toList).toArray⟩, .string ⟨(aft c s.data.toList).toArray⟩, .bool (s.data.toList.contains c)]) ∧ ∃ n, w' = w.drewN n := by
 have hix := indexByte_bef c s.data.toList
 cases hcon : s.data.toList.contains c with
 | false =>
  rw [hcon, if_neg (by simp)] at hix
  obtain ⟨e1, e2⟩ := bef_all hcon
  rw [e1, e2, show (⟨s.data.toList.toArray⟩ : ByteArray) = s from by simp]
  clear hcon e1 e2
  have hix' := hid hix
  clear hix
  go_enter Tryz.func140, Tryz.ntmps140
  go_wp2_with (go_at_call 152; refine (Tryz.stringslite_Index_one s c w).mono ?_; rintro e w' ⟨rfl, rfl⟩; rw [hix'.out])
  go_ret3
  exact ⟨rfl, 0, rfl⟩
 | true =>
  rw [hcon, if_pos rfl] at hix
  have hlt := bef_lt hcon
  rw [← Lib.size_eq] at hlt
  clear hcon
  have e1 := bef_take c s.data.toList
  have e2 := aft_drop c s.data.toList
  obtain ⟨n, hn⟩ : ∃ n, (bef c s.data.toList).length = n := ⟨_, rfl⟩
  rw [hn] at hix hlt e1 e2
  have hix' := hid hix
  have e1' := hid e1
  have e2' := hid e2
  clear hix e1 e2 hn
  have c1 : (0 : Int) ≤ ↑n := by omega
  have c2 : (↑n : Int) ≤ ↑s.size := by omega
  have c3 : (0 : Int) ≤ ↑n + 1 := by omega
  have c4 : (↑n + 1 : Int) ≤ ↑s.size := by omega
  go_enter Tryz.func140, Tryz.ntmps140
  go_wp2_with (go_at_call 152; refine (Tryz.stringslite_Index_one s c w).mono ?_; rintro e w' ⟨rfl, rfl⟩; rw [hix'.out])
  go_region
  go_wp2
  go_ret3
  refine ⟨?_, 1, rfl⟩
  rw [← e1'.out, ← e2'.out, ← extract_pre, ← extract_suf]
  rfl

set_option maxHeartbeats 1000000 in
theorem cut_calls (c : UInt8) (s : ByteArray) (w : World) (hs : s.size ≤ 140737488351232) :
  Calls Tryz.prog 120 #[.string s, .string ⟨#[c]⟩] w fun e w' => e = .returned (.tuple #[.string ⟨(bef c s.data.toList).toArray⟩, .string ⟨(aft c s.data.toList).toArray⟩, .bool (s.data.toList.contains c)]) ∧ ∃ n, w' = w.drewN n := by
 obtain ⟨B, hB⟩ : ∃ B, (⟨(bef c s.data.toList).toArray⟩ : ByteArray) = B := ⟨_, rfl⟩
 obtain ⟨A, hA⟩ : ∃ A, (⟨(aft c s.data.toList).toArray⟩ : ByteArray) = A := ⟨_, rfl⟩
 obtain ⟨C, hC⟩ : ∃ C, s.data.toList.contains c = C := ⟨_, rfl⟩
 have h := slite_cut_calls c s w hs
 rw [hB, hA, hC] at h ⊢
 clear hB hA hC
 have h' := hid h
 clear h
 go_enter Tryz.func120, Tryz.ntmps120
 go_wp2_with (go_at_call 140; refine h'.out.mono ?_; rintro e w' ⟨rfl, n, rfl⟩)
 go_ret3
 exact ⟨rfl, n, rfl⟩


def letterI (c : Int) : Bool := decide (97 ≤ c ∧ c ≤ 122) || decide (65 ≤ c ∧ c ≤ 90)
def letter (c : UInt8) : Bool := letterI c.toNat
set_option maxHeartbeats 1000000 in
theorem letter_calls (c : Int) (w : World) (h0 : 0 ≤ c) (h1 : c < 256) : Calls Tryz.prog 92 #[.int .u8 c] w fun e w' => e = .returned (.bool (letterI c)) ∧ w' = w := by
 rcases (by omega : c < 65 ∨ (65 ≤ c ∧ c ≤ 90) ∨ (90 < c ∧ c < 97) ∨ (97 ≤ c ∧ c ≤ 122) ∨ 122 < c) with h | ⟨h, h'⟩ | ⟨h, h'⟩ | ⟨h, h'⟩ | h
 all_goals
  go_enter Tryz.func92, Tryz.ntmps92
  go_wp2
  go_ret
  exact ⟨ret_bool (by unfold letterI; rw [Bool.eq_iff_iff]; simp only [Bool.or_eq_true, Bool.and_eq_true, decide_eq_true_eq, Bool.false_eq_true, eq_self, true_iff, false_iff]; omega), rfl⟩
theorem letter_at (c : UInt8) (w : World) : Calls Tryz.prog 92 #[.int .u8 (c.toNat : Int)] w fun e w' => e = .returned (.bool (letter c)) ∧ w' = w :=
 letter_calls _ w (by omega) (by have := c.toNat_lt; omega)

def Buf (w : World) (g : Nat) (l : List UInt8) : Prop := ∀ j c, l[j]? = some c → w.cell? ⟨g, j, none⟩ = some (.int .u8 c.toNat) ∧ w.frozen? ⟨g, j, none⟩ = false
theorem Buf.of_conv {P : Program} (w : World) (src dst e : TypeId) (s : ByteArray) {u : TypeDesc} (hs : P.underlying src = some u) (hd : P.underlying dst = some (.slice e)) (he : P.underlying e = some (.int .u8)) :
  ∃ (W : World) (cap : Nat), (convert src dst (.string s)).run P w = .ok (.slice (some ⟨w.heap.size, 0, none⟩) s.size cap) W ∧ Buf W w.heap.size s.data.toList ∧ Below w.heap.size w W := by
 refine ⟨_, _, Lib.run_convert_string_bytes w src dst e s hs hd he, fun j c hj => ?_, ⟨rfl, rfl, rfl, by rw [Lib.bytesWorld_size]; omega, fun k hk => Lib.bytesWorld_at_old w e s k hk⟩⟩
 have hl : j < s.data.toList.length := (List.getElem?_eq_some_iff.1 hj).1
 have hl' : j < s.size := by simpa using hl
 refine ⟨by rw [Lib.bytesWorld_cell w e s j hl']; simp [List.getD, hj], ?_⟩
 have hsz : s.size ≤ (Lib.bytesCells w e s).size := by unfold Lib.bytesCells; rw [Array.size_append, Array.size_map]; exact Nat.le_add_right _ _
 unfold World.frozen?
 rw [Lib.bytesWorld_at_new]
 simp
 omega
theorem Buf.set_ {w : World} {g : Nat} {l : List UInt8} (h : Buf w g l) (i : Nat) (c : UInt8) : Buf (w.setCell ⟨g, i, none⟩ (.int .u8 c.toNat)) g (l.set i c) := by
 intro j d hj
 rw [World.frozen?_setCell]
 rw [List.getElem?_set] at hj
 split at hj
 ·rename_i he
  subst he
  split at hj
  ·cases hj
   rename_i hl
   obtain ⟨h1, h2⟩ := h i _ (List.getElem?_eq_getElem hl)
   exact ⟨World.cell?_setCell_same _ _ _ (by rw [h1]), h2⟩
  ·cases hj
 ·rename_i he
  obtain ⟨h1, h2⟩ := h j d hj
  exact ⟨(World.cell?_setCell_other w _ _ _ (by intro e; injection e with _ e; exact he e)).trans h1, h2⟩
theorem Buf.string {P : Program} {w : World} {g : Nat} {l : List UInt8} (h : Buf w g l) (src e dst : TypeId) (n cap : Nat) (hn : l.length = n) (hs : P.underlying src = some (.slice e)) (he : P.underlying e = some (.int .u8)) (hd : P.underlying dst = some .string) :
  (convert src dst (.slice (some ⟨g, 0, none⟩) n cap)).run P w = .ok (.string ⟨l.toArray⟩) w := by
 have := run_convert_bytes_arg (P := P) w src e hs he g 0 n cap (l.map fun c => (c.toNat : Int)) (by simp [hn]) (fun i hi => by
  have := (h i _ (List.getElem?_eq_getElem (show i < l.length by omega))).1
  rw [Nat.zero_add, this]
  simp [List.getD, List.getElem?_eq_getElem (show i < l.length by omega)]) dst hd
 rw [this]
 congr 2
 simp [strOfNums, List.map_map, Function.comp_def]

def low (c : UInt8) : UInt8 := if 65 ≤ c.toNat ∧ c.toNat ≤ 90 then c + 32 else c
theorem low_hi {c : UInt8} (h0 : 65 ≤ c.toNat) (h1 : c.toNat ≤ 90) : (low c).toNat = c.toNat + 32 := by
 unfold low
 rw [if_pos ⟨h0, h1⟩, UInt8.toNat_add]
 show (c.toNat + 32) % 256 = _
 omega
theorem low_id {c : UInt8} (h : ¬ (65 ≤ c.toNat ∧ c.toNat ≤ 90)) : low c = c := by unfold low; rw [if_neg h]
def lower (l : List UInt8) : List UInt8 := l.map low
def cur (l : List UInt8) (k : Nat) : List UInt8 := lower (l.take k) ++ l.drop k
theorem cur_len (l : List UInt8) (k : Nat) : (cur l k).length = l.length := by simp [cur, lower]; omega
theorem cur_at (l : List UInt8) (k : Nat) (h : k < l.length) : (cur l k)[k]? = l[k]? := by
 unfold cur lower
 rw [List.getElem?_append_right (by simp; omega)]
 simp [Nat.min_eq_left (Nat.le_of_lt h)]
theorem cur_step {l : List UInt8} {k : Nat} {c : UInt8} (h : l[k]? = some c) : (cur l k).set k (low c) = cur l (k + 1) := by
 have hl : k < l.length := (List.getElem?_eq_some_iff.1 h).1
 have hd : l.drop k = c :: l.drop (k + 1) := by rw [List.drop_eq_getElem?_toList_append, h]; simp
 unfold cur lower
 rw [hd, List.set_append_right _ _ (by simp; omega), take_succ' h]
 simp [Nat.min_eq_left (Nat.le_of_lt hl)]
theorem cur_same {l : List UInt8} {k : Nat} {c : UInt8} (h : l[k]? = some c) (hc : low c = c) : cur l k = cur l (k + 1) := by
 have hl : k < l.length := (List.getElem?_eq_some_iff.1 h).1
 rw [← cur_step h, hc]
 apply List.ext_getElem?
 intro i
 rw [List.getElem?_set]
 split
 ·rename_i he
  subst he
  rw [if_pos (by rw [cur_len]; exact hl), cur_at l k hl, h]
 ·rfl
theorem cur_end (l : List UInt8) : cur l l.length = lower l := by simp [cur]

set_option maxHeartbeats 4000000 in
set_option maxRecDepth 100000 in
theorem lower_calls (s : ByteArray) (w : World) (hs : s.size ≤ 140737488351232) :
  Calls Tryz.prog 124 #[.string s] w fun e w' => e = .returned (.string ⟨(lower s.data.toList).toArray⟩) ∧ Below w.heap.size w w' := by
 obtain ⟨W, cap, hcv, hbuf, hbel⟩ := Buf.of_conv (P := Tryz.prog) w 9 128 5 s Tryz.underlying9 Tryz.underlying128 Tryz.underlying5
 go_enter Tryz.func124, Tryz.ntmps124
 go_wp2_with fail
 go_loopw [10] (fun f wr => ∃ k : Nat, Buf wr w.heap.size (cur s.data.toList k) ∧ Below w.heap.size w wr ∧ k ≤ s.size ∧ f = .int .i64 k) (fun f _ => s.size - (intOf f).toNat)
 case atStart => exact ⟨0, by simpa [cur, lower] using hbuf, hbel, Nat.zero_le _, rfl⟩
 case round =>
  obtain ⟨k, hb, hbw, hks, rfl⟩ := hrel
  clear hcv hbuf
  by_cases hlt : k < s.size
  ·have hc := byte_at s k hlt
   obtain ⟨c, hcc⟩ : ∃ c, s[k] = c := ⟨_, rfl⟩
   rw [hcc] at hc
   clear hcc
   obtain ⟨hcell, hfr⟩ := hb k c (by rw [cur_at _ _ (by simpa using hlt)]; exact hc)
   have hc' := hid hc
   clear hc
   by_cases hup : 65 ≤ c.toNat ∧ c.toNat ≤ 90
   ·obtain ⟨u0, u1⟩ := hup
    have hlow := hid (low_hi u0 u1)
    go_wp2_with fail
    go_roundw
    case rel => exact ⟨k + 1, by rw [← cur_step hc'.out]; have := hb.set_ k (low c); rwa [show ((low c).toNat : Int) = (c.toNat : Int) + 97 - 65 from by have := hlow.out; omega] at this, hbw.setCell (p := ⟨w.heap.size, k, none⟩) (Nat.le_refl _) _, hlt, by go_num⟩
    case measure => simp [intOf]; omega
   ·have hsame := hid (cur_same hc'.out (low_id hup))
    rcases (by omega : c.toNat < 65 ∨ (65 ≤ c.toNat ∧ 90 < c.toNat)) with u0 | ⟨u0, u1⟩
    all_goals
     clear hup
     go_wp2_with fail
     go_roundw
     case rel => exact ⟨k + 1, by rw [← hsame.out]; exact hb, hbw, hlt, by go_num⟩
     case measure => simp [intOf]; omega
  ·have hcv2 := hb.string (P := Tryz.prog) 128 5 9 s.size cap (by rw [cur_len]; rfl) Tryz.underlying128 Tryz.underlying5 Tryz.underlying9
   go_wp2_with fail
   go_ret
   obtain rfl : k = s.size := by omega
   exact ⟨ret_str (cur_end _), hbw⟩


set_option maxHeartbeats 4000000 in
set_option maxRecDepth 100000 in
theorem strip_calls (s : ByteArray) (w : World) (hs : s.size ≤ 140737488351232) :
  Calls Tryz.prog 121 #[.string s] w fun e w' => e = .returned (.string ⟨(strip s.data.toList).toArray⟩) ∧ Below w.heap.size w w' := by
 go_enter Tryz.func121, Tryz.ntmps121
 go_upto_block 0 with fail
 go_cut [3] (fun f wx => ∃ a : Nat, Hid (a = lead ws s.data.toList) ∧ a ≤ s.size ∧ f = .int .i64 a ∧ w = wx)
 case first =>
  go_wp2_with fail
  go_loop [3] (fun f => ∃ k : Nat, k ≤ lead ws s.data.toList ∧ k ≤ s.size ∧ f = .int .i64 k) (fun f => s.size - (intOf f).toNat)
  case atStart => exact ⟨0, Nat.zero_le _, Nat.zero_le _, rfl⟩
  case round =>
   obtain ⟨k, hk, hks, rfl⟩ := hrel
   by_cases hlt : k < s.size
   ·have hc := byte_at s k hlt
    by_cases h32 : s[k].toNat ≤ 32
    ·have hst := lead_step hk hc (by simpa [ws] using h32)
     clear hc
     go_wp2_with fail
     go_round
     case rel => exact ⟨k + 1, hst, hlt, by go_num⟩
     case measure => simp [intOf]; omega
    ·have hst := hid (lead_done hk hc (by simpa [ws] using h32))
     clear hc
     go_wp2_with fail
     go_meet
     exact ⟨k, hst, hks, rfl, rfl⟩
   ·have hst := hid (lead_full hk (by simp; omega))
    go_wp2_with fail
    go_meet
    exact ⟨k, hst, hks, rfl, rfl⟩
 case rest =>
  obtain ⟨a, ha, has, rfl, rfl⟩ := hcut
  go_upto_block 2 with fail
  go_cut [4] (fun f wx => ∃ b : Nat, Hid (rcut ws (s.data.toList.drop a) = (s.data.toList.drop a).take (b - a)) ∧ a ≤ b ∧ b ≤ s.size ∧ f = .int .i64 b ∧ w = wx)
  case first =>
   go_wp2_with fail
   go_loop [4] (fun f => ∃ b : Nat, Hid (rcut ws ((s.data.toList.drop a).take (b - a)) = rcut ws (s.data.toList.drop a)) ∧ a ≤ b ∧ b ≤ s.size ∧ f = .int .i64 b) (fun f => (intOf f).toNat)
   case atStart => exact ⟨s.size, hid (by rw [List.take_of_length_le (by simp)]), has, Nat.le_refl _, rfl⟩
   case round =>
    obtain ⟨b, hb, hab, hbs, rfl⟩ := hrel
    by_cases hlt : a < b
    ·obtain ⟨j, rfl⟩ : ∃ j, b = a + j + 1 := ⟨b - a - 1, by omega⟩
     have hc := byte_drop s a j (by omega)
     have hb' : rcut ws ((s.data.toList.drop a).take (j + 1)) = rcut ws (s.data.toList.drop a) := by have := hb.out; rwa [show a + j + 1 - a = j + 1 from by omega] at this
     by_cases h32 : (s[a + j]'(by omega)).toNat ≤ 32
     ·have hst := hid (rcut_take_step hb' hc (by simpa [ws] using h32))
      clear hc hb' hb
      go_wp2_with fail
      go_round
      case rel => exact ⟨a + j, by rw [show a + j - a = j from by omega]; exact hst, by omega, by omega, by go_num⟩
      case measure => simp [intOf]; omega
     ·have hst := hid (rcut_take_done hb' hc (by simpa [ws] using h32))
      clear hc hb' hb
      go_wp2_with fail
      go_meet
      exact ⟨a + j + 1, by rw [show a + j + 1 - a = j + 1 from by omega]; exact hst, by omega, hbs, rfl, rfl⟩
    ·obtain rfl : b = a := by omega
     go_wp2_with fail
     go_meet
     exact ⟨b, hid (by have := hb.out; simp only [Nat.sub_self, List.take_zero, rcut_nil] at this ⊢; exact this.symm), Nat.le_refl _, hbs, rfl, rfl⟩
  case rest =>
   obtain ⟨b, hb, hab, hbs, rfl, rfl⟩ := hcut
   go_wp2_with fail
   go_loopw [6] (fun f wr => ∃ (i : Nat) (acc : List UInt8), Lib.IsBuilder 131 5 w.heap.size w.heap.size (Lib.byteCells acc) wr ∧ Below w.heap.size w wr ∧ Hid (acc = ((s.data.toList.drop a).take (i - a)).filter keep) ∧ a ≤ i ∧ i ≤ b ∧ acc.length ≤ i ∧ f = .int .i64 i) (fun f _ => b - (intOf f).toNat)
   case atStart => exact ⟨a, [], Lib.fresh_isBuilder _ _ w, (Below.refl _ w).alloc (Nat.le_refl _) _, hid (by simp), Nat.le_refl _, hab, by simp, rfl⟩
   case round =>
    obtain ⟨i, acc, hI, hbw, hacc, hai, hib, hal, rfl⟩ := hrel
    have hsz : w.heap.size ≤ wr.heap.size := hbw.size
    by_cases hlt : i < b
    ·obtain ⟨j, rfl⟩ : ∃ j, i = a + j := ⟨i - a, by omega⟩
     have hc := byte_drop s a j (by omega)
     have hst : ((s.data.toList.drop a).take (a + j + 1 - a)).filter keep = ((s.data.toList.drop a).take (a + j - a)).filter keep ++ (if keep (s[a + j]'(by omega)) then [s[a + j]'(by omega)] else []) := by
      rw [show a + j + 1 - a = j + 1 from by omega, show a + j - a = j from by omega, take_succ' hc, List.filter_append]
      congr 1
      simp only [List.filter_cons, List.filter_nil]
     clear hc
     by_cases hk : keep (s[a + j]'(by omega)) = true
     ·have hst' := hid hst
      clear hst
      have hk2 := hk
      simp only [keep, Bool.and_eq_true, bne_iff_ne, ne_eq] at hk2
      obtain ⟨⟨k9, k10⟩, k13⟩ := hk2
      have j9 : (((s[a + j]'(by omega)).toNat : Int) != 9) = true := by rw [bne_iff_ne]; omega
      have j10 : (((s[a + j]'(by omega)).toNat : Int) != 10) = true := by rw [bne_iff_ne]; omega
      have j13 : (((s[a + j]'(by omega)).toNat : Int) != 13) = true := by rw [bne_iff_ne]; omega
      have hkk := hid hk
      clear hk
      have hbyte : Lib.byteCells (acc ++ [s[a + j]'(by omega)]) = Lib.byteCells acc ++ [Value.int .u8 (s[a + j]'(by omega)).toNat] := by simp [Lib.byteCells]
      have hbyte' := hid hbyte
      clear hbyte
      go_wp2_with (go_at_call 141; refine (Tryz.Builder_WriteByte w.heap.size w.heap.size _ _ _ hI (by rw [Lib.byteCells_length]; omega) hsz).mono ?_; rintro e w' ⟨rfl, h1, b1⟩)
      go_roundw
      case rel => exact ⟨a + j + 1, acc ++ [s[a + j]'(by omega)], by rw [hbyte'.out]; exact Or.inr h1, hbw.trans b1, hid (by rw [hst'.out, if_pos hkk.out, ← hacc.out]), by omega, by omega, by simp; omega, by go_num⟩
      case measure => simp [intOf]; omega
     ·rw [if_neg hk, List.append_nil] at hst
      have hst' := hid hst
      clear hst
      have hk2 : (s[a + j]'(by omega)).toNat = 9 ∨ (s[a + j]'(by omega)).toNat = 10 ∨ (s[a + j]'(by omega)).toNat = 13 := by
       simp only [keep, Bool.and_eq_true, bne_iff_ne, ne_eq] at hk; omega
      clear hk
      rcases hk2 with k9 | k9 | k9
      all_goals
       go_wp2_with fail
       go_roundw
       case rel => exact ⟨a + j + 1, acc, hI, hbw, hid (by rw [hst'.out, ← hacc.out]), by omega, by omega, by omega, by go_num⟩
       case measure => simp [intOf]; omega
    ·go_wp2_with (go_at_call 142; refine (Tryz.Builder_String_any w.heap.size w.heap.size _ _ hI hsz).mono ?_; rintro e w' ⟨rfl, b1⟩)
     go_ret
     obtain rfl : i = b := by omega
     refine ⟨?_, hbw.trans b1⟩
     rw [hacc.out]
     unfold strip
     rw [← drop_lead, ← ha.out, hb.out]
     rfl
end Go.Proofs.YticacakoefojbaaGreat
namespace Go.Proofs.YticacakoefojbaaGreat
open Go.RowKit Go.Lib

def oddI (r : Int) : Bool := !(decide (r < 128) && letterI r) && !decide (48 ≤ r ∧ r ≤ 57) && decide (r ≠ 43) && decide (r ≠ 45) && decide (r ≠ 46)
theorem oddI_true (r : Int) : oddI r = true ↔ (r < 128 → letterI r = false) ∧ ¬ (48 ≤ r ∧ r ≤ 57) ∧ r ≠ 43 ∧ r ≠ 45 ∧ r ≠ 46 := by
  unfold oddI
  simp only [Bool.and_eq_true, Bool.not_eq_true', Bool.and_eq_false_imp, decide_eq_true_eq, decide_eq_false_iff_not, and_assoc]
set_option maxHeartbeats 4000000 in
theorem odd_at (w : World) : PredAt Tryz.prog 122 #[] encR (fun r : Nat => oddI r) w := fun W n _ => by
  unfold FnGives
  obtain ⟨r, hr⟩ : ∃ r : Int, (n : Int) = r := ⟨_, rfl⟩
  have h0 : 0 ≤ r := by omega
  show Calls Tryz.prog _ #[.int .i32 (n : Int)] W fun e w' => e = .returned (.bool (oddI (n : Int))) ∧ ∃ q, w' = W.drewN q
  rw [hr]
  clear hr
  obtain ⟨B, hB⟩ : ∃ B, oddI r = B := ⟨_, rfl⟩
  have hB' : Hid (B = true ↔ (r < 128 → letterI r = false) ∧ ¬ (48 ≤ r ∧ r ≤ 57) ∧ r ≠ 43 ∧ r ≠ 45 ∧ r ≠ 46) := hB ▸ oddI_true r
  rw [hB]
  clear hB
  rcases (by omega : r < 43 ∨ (43 ≤ r ∧ r ≤ 43) ∨ (44 ≤ r ∧ r ≤ 44) ∨ (45 ≤ r ∧ r ≤ 45) ∨ (46 ≤ r ∧ r ≤ 46) ∨ (47 ≤ r ∧ r ≤ 47) ∨ (48 ≤ r ∧ r ≤ 57) ∨ (58 ≤ r ∧ r ≤ 64) ∨ (65 ≤ r ∧ r ≤ 90) ∨ (91 ≤ r ∧ r ≤ 96) ∨ (97 ≤ r ∧ r ≤ 122) ∨ (123 ≤ r ∧ r ≤ 127) ∨ 128 ≤ r) with h | ⟨h, h'⟩ | ⟨h, h'⟩ | ⟨h, h'⟩ | ⟨h, h'⟩ | ⟨h, h'⟩ | ⟨h, h'⟩ | ⟨h, h'⟩ | ⟨h, h'⟩ | ⟨h, h'⟩ | ⟨h, h'⟩ | ⟨h, h'⟩ | h
  all_goals
    cases hl : letterI r
    all_goals
      first
        | (exfalso; simp [letterI] at hl; omega)
        | (have cl : r < 256 → Calls Tryz.prog 92 #[.int .u8 r] W _ := fun h1 => letter_calls r W h0 h1
           rw [hl] at cl
           have hl' := hid hl
           clear hl
           go_enter Tryz.func122, Tryz.ntmps122
           go_wp2_with (go_at_call 92; refine (cl (by omega)).mono ?_; rintro e w' ⟨rfl, rfl⟩)
           go_ret
           refine ⟨ret_bool ?_, 0, rfl⟩
           have hb := hB'.out
           rw [hl'.out] at hb
           rw [Bool.eq_iff_iff, hb]
           simp
           try omega)

def inScheme (c : UInt8) : Bool := letter c || decide (48 ≤ c.toNat ∧ c.toNat ≤ 57) || decide (c.toNat = 43) || decide (c.toNat = 45) || decide (c.toNat = 46)
theorem letter_lt {c : UInt8} (h : letter c = true) : c.toNat < 128 := by
  unfold letter letterI at h
  simp only [Bool.or_eq_true, decide_eq_true_eq] at h
  omega
theorem inScheme_lt {c : UInt8} (h : inScheme c = true) : c.toNat < 128 := by
  unfold inScheme at h
  simp only [Bool.or_eq_true, decide_eq_true_eq] at h
  rcases h with (((h | h) | h) | h) | h
  · exact letter_lt h
  all_goals omega
theorem odd_in (c : UInt8) (h : c.toNat < 128) : oddI (c.toNat : Int) = true ↔ inScheme c = false := by
  rw [oddI_true]
  unfold inScheme
  simp only [Bool.or_eq_false_iff, decide_eq_false_iff_not]
  show ((c.toNat : Int) < 128 → letter c = false) ∧ _ ↔ _
  constructor
  · rintro ⟨h1, h2, h3, h4, h5⟩
    exact ⟨⟨⟨⟨h1 (by omega), by omega⟩, by omega⟩, by omega⟩, by omega⟩
  · rintro ⟨⟨⟨⟨h1, h2⟩, h3⟩, h4⟩, h5⟩
    exact ⟨fun _ => h1, by omega, by omega, by omega, by omega⟩
theorem odd_big (n : Nat) (h : 128 ≤ n) : oddI (n : Int) = true := by
  rw [oddI_true]
  exact ⟨fun h' => by omega, by omega, by omega, by omega, by omega⟩
theorem idx_odd (s : ByteArray) : ∀ f pos, s.size ≤ pos + f → (0 ≤ Lib.idxFuncFrom (fun r : Nat => oddI r) true s f pos ↔ (s.data.toList.drop pos).all inScheme = false)
  | 0, pos, h => by
    rw [List.drop_of_length_le (by rw [← Lib.size_eq]; omega)]
    simp [Lib.idxFuncFrom]
  | f + 1, pos, h => by
    unfold Lib.idxFuncFrom
    by_cases hp : pos < s.size
    · rw [if_pos hp, drop_one (byte_at s pos hp), List.all_cons]
      by_cases ha : s[pos].toNat < 128
      · rw [decode_ascii s pos hp ha]
        have hoi := odd_in s[pos] ha
        cases hin : inScheme s[pos] with
        | true =>
          have hno : oddI (s[pos].toNat : Int) = false := by
            cases ho : oddI (s[pos].toNat : Int) with
            | true => rw [hoi.1 ho] at hin; cases hin
            | false => rfl
          simp only [hno, Bool.false_eq_true, if_false, Bool.true_and]
          exact idx_odd s f (pos + 1) (by omega)
        | false =>
          simp only [hoi.2 hin, if_true, Bool.false_and, iff_true]
          omega
      · have hb := (decode_high s pos hp (by omega)).1
        have hin : inScheme s[pos] = false := by
          cases hin : inScheme s[pos] with
          | true => exact absurd (inScheme_lt hin) ha
          | false => rfl
        simp only [odd_big _ hb, if_true, hin, Bool.false_and, iff_true]
        omega
    · rw [if_neg hp, List.drop_of_length_le (by rw [← Lib.size_eq]; omega)]
      simp
theorem contains_odd (s : ByteArray) : decide (0 ≤ Lib.idxFunc (fun r : Nat => oddI r) true s) = !s.data.toList.all inScheme := by
  have h := idx_odd s s.size 0 (by omega)
  rw [List.drop_zero] at h
  unfold Lib.idxFunc
  rw [Bool.eq_iff_iff, decide_eq_true_eq, h]
  simp

def okName : List UInt8 → Bool
  | [] => false
  | c :: t => letter c && (c :: t).all inScheme
def scheme (l : List UInt8) : Option (List UInt8) :=
  if (strip l).contains 58 && okName (bef 58 (strip l)) then some (lower (bef 58 (strip l))) else none

theorem strip_le (l : List UInt8) : (strip l).length ≤ l.length := by
  unfold strip
  refine Nat.le_trans (List.length_filter_le _ _) ?_
  have h1 := tail_le ws (l.dropWhile ws)
  have h2 := (List.dropWhile_sublist ws (l := l)).length_le
  unfold tail at h1
  omega

set_option maxHeartbeats 4000000 in
set_option maxRecDepth 100000 in
theorem scheme_calls (s : ByteArray) (w : World) (hs : s.size ≤ 140737488351232) :
    Calls Tryz.prog 101 #[.string s] w fun e w' => e = .returned (.tuple #[.string ⟨((scheme s.data.toList).getD []).toArray⟩, .bool (scheme s.data.toList).isSome]) ∧ Below w.heap.size w w' := by
  have hst := strip_calls s w hs
  have hl := strip_le s.data.toList
  rw [← Lib.size_eq] at hl
  unfold scheme
  obtain ⟨T, hT⟩ : ∃ T : ByteArray, (⟨(strip s.data.toList).toArray⟩ : ByteArray) = T := ⟨_, rfl⟩
  have hT' : strip s.data.toList = T.data.toList := by rw [← hT]
  rw [hT'] at hst hl ⊢
  rw [Lib.mk_data] at hst
  rw [← Lib.size_eq] at hl
  clear hT hT'
  have hcut := fun (W : World) => cut_calls 58 T W (by omega)
  obtain ⟨N, hN⟩ : ∃ N : ByteArray, (⟨(bef 58 T.data.toList).toArray⟩ : ByteArray) = N := ⟨_, rfl⟩
  have hN' : bef 58 T.data.toList = N.data.toList := by rw [← hN]
  have hNl := bef_le 58 T.data.toList
  rw [hN', ← Lib.size_eq, ← Lib.size_eq] at hNl
  rw [hN'] at hcut ⊢
  rw [Lib.mk_data] at hcut
  have hlow := fun (W : World) => lower_calls N W (by omega)
  have hcon := fun (W : World) => Tryz.strings_ContainsFunc 122 #[] (enters_of Tryz.func122 (by kernel_rfl) rfl) _ N W (odd_at W)
  rw [contains_odd] at hcon
  obtain ⟨R, hR⟩ : ∃ R : ByteArray, (⟨(aft 58 T.data.toList).toArray⟩ : ByteArray) = R := ⟨_, rfl⟩
  rw [hR] at hcut
  clear hR hN hN'
  have hst' := hid hst
  have hcut' := hid hcut
  have hlow' := hid hlow
  have hcon' := hid hcon
  clear hst hcut hlow hcon
  cases hc : T.data.toList.contains 58 with
  | false =>
    rw [hc] at hcut'
    clear hc
    rw [Bool.false_and, if_neg (by simp)]
    go_enter Tryz.func101, Tryz.ntmps101
    go_wp2_with (first | (go_at_call 121; refine hst'.out.mono ?_; rintro e w1 ⟨rfl, b1⟩) | (go_at_call 120; refine (hcut'.out _).mono ?_; rintro e w2 ⟨rfl, n2, rfl⟩))
    go_ret2
    exact ⟨rfl, below_drewN' b1 n2⟩
  | true =>
    rw [hc] at hcut'
    clear hc
    rw [Bool.true_and]
    cases hn : N.data.toList with
    | nil =>
      have hN : N = ⟨#[]⟩ := by rw [← Lib.mk_data N, hn]
      subst hN
      rw [show okName [] = false from rfl, if_neg (by simp)]
      clear hn
      go_enter Tryz.func101, Tryz.ntmps101
      go_wp2_with (first | (go_at_call 121; refine hst'.out.mono ?_; rintro e w1 ⟨rfl, b1⟩) | (go_at_call 120; refine (hcut'.out _).mono ?_; rintro e w2 ⟨rfl, n2, rfl⟩))
      go_ret2
      exact ⟨rfl, below_drewN' b1 n2⟩
    | cons c t =>
      have hpos : 0 < N.size := by rw [Lib.size_eq, hn]; simp
      have hc0 : N[0] = c := by have := byte_at N 0 hpos; rw [hn] at this; simpa using this.symm
      have hne : ¬ N.toList = [] := by rw [Lib.toList_data, hn]; simp
      have hne' : N.toList.isEmpty = false := by rw [Lib.toList_data, hn]; rfl
      have hlet : ∀ W : World, Calls Tryz.prog 92 #[.int .u8 ((N[0]'hpos).toNat : Int)] W fun e w' => e = .returned (.bool (letter c)) ∧ w' = W := by rw [hc0]; exact letter_at c
      have hok : okName N.data.toList = (letter c && N.data.toList.all inScheme) := by rw [hn]; rfl
      rw [← hn, hok]
      clear hok hn hc0
      cases hlc : letter c with
      | false =>
        rw [hlc] at hlet
        clear hlc
        have hlet' := hid hlet
        clear hlet
        rw [Bool.false_and, if_neg (by simp)]
        go_enter Tryz.func101, Tryz.ntmps101
        go_wp2_with (first | (go_at_call 121; refine hst'.out.mono ?_; rintro e w1 ⟨rfl, b1⟩) | (go_at_call 120; refine (hcut'.out _).mono ?_; rintro e w2 ⟨rfl, n2, rfl⟩) | (go_at_call 92; refine (hlet'.out _).mono ?_; rintro e w3 ⟨rfl, rfl⟩))
        go_ret2
        exact ⟨rfl, below_drewN' b1 n2⟩
      | true =>
        rw [hlc] at hlet
        clear hlc
        have hlet' := hid hlet
        clear hlet
        rw [Bool.true_and]
        cases hal : N.data.toList.all inScheme with
        | false =>
          rw [hal] at hcon'
          clear hal
          rw [if_neg (by simp)]
          go_enter Tryz.func101, Tryz.ntmps101
          go_wp2_with (first | (go_at_call 121; refine hst'.out.mono ?_; rintro e w1 ⟨rfl, b1⟩) | (go_at_call 120; refine (hcut'.out _).mono ?_; rintro e w2 ⟨rfl, n2, rfl⟩) | (go_at_call 92; refine (hlet'.out _).mono ?_; rintro e w3 ⟨rfl, rfl⟩) | (go_at_call 123; refine (hcon'.out _).mono ?_; rintro e w4 ⟨rfl, b4⟩))
          go_ret2
          exact ⟨rfl, (below_drewN' b1 n2).trans (b4.mono b1.size)⟩
        | true =>
          rw [hal] at hcon'
          clear hal
          rw [if_pos rfl]
          go_enter Tryz.func101, Tryz.ntmps101
          go_wp2_with (first | (go_at_call 121; refine hst'.out.mono ?_; rintro e w1 ⟨rfl, b1⟩) | (go_at_call 120; refine (hcut'.out _).mono ?_; rintro e w2 ⟨rfl, n2, rfl⟩) | (go_at_call 92; refine (hlet'.out _).mono ?_; rintro e w3 ⟨rfl, rfl⟩) | (go_at_call 123; refine (hcon'.out _).mono ?_; rintro e w4 ⟨rfl, b4⟩) | (go_at_call 124; refine (hlow'.out _).mono ?_; rintro e w5 ⟨rfl, b5⟩))
          go_ret2
          exact ⟨rfl, ((below_drewN' b1 n2).trans (b4.mono b1.size)).trans (b5.mono (Nat.le_trans b1.size b4.size))⟩

end Go.Proofs.YticacakoefojbaaGreat
namespace Go.Proofs.YticacakoefojbaaGreat
open Go.RowKit Go.Lib Go.ChangeMaps Go.Proofs.YticacakoefojbaaGreatW.PrintWords Go.Proofs.YticacakoefojbaaGreatW.PrintLast

def pk (a b : ByteArray) : Value := .agg #[.string a, .string b]
theorem pk_inj {a b c d : ByteArray} (h : pk a b = pk c d) : a = c ∧ b = d := by
 unfold pk at h
 simp at h
 exact h
section
variable (w : World)
theorem part_el (a b : ByteArray) : (part 9 #[.string a, .string b] 0).run Tryz.prog w = .ok (.string a) w := by
 simp [part, Tryz.isAgg9]
theorem part_at (a b : ByteArray) : (part 9 #[.string a, .string b] 1).run Tryz.prog w = .ok (.string b) w := by
 simp [part, Tryz.isAgg9]
theorem str_eq (d : Nat) (a c : ByteArray) : (Op.equalIn (d + 1) 9 (.string a) (.string c)).run Tryz.prog w = .ok (a == c) w := by
 simp [Op.equalIn, run_underlying Tryz.underlying9]
theorem pk_eq (a b c d : ByteArray) : (Op.equal 96 (pk a b) (pk c d)).run Tryz.prog w = .ok (a == c && b == d) w := by
 unfold Op.equal
 obtain ⟨m, hm⟩ : ∃ m, Op.maxDepth = m + 2 := ⟨_, rfl⟩
 rw [hm]
 exact eqA_of Tryz.underlying96 (by kernel_rfl) (eqf_cons rfl (part_el w a b) (part_el w c d) (str_eq w m a c) (eqf_last rfl (part_at w a b) (part_at w c d) (str_eq w m b d)))
theorem str_check (em : Bool) (n : Nat) (a : ByteArray) : (Instr.checkKey em (n + 1) 9 (.string a)).run Tryz.prog w = .ok () w := by
 simp [Instr.checkKey, run_underlying Tryz.underlying9]
theorem pk_check (em : Bool) (a b : ByteArray) : (Instr.checkKey em 10000 96 (pk a b)).run Tryz.prog w = .ok () w := by
 show (Instr.checkKey em (9998 + 1 + 1) _ _).run _ _ = _
 generalize 9998 = m
 have h0 := part_el w a b
 have h1 := part_at w a b
 have c0 := str_check w em m a
 have c1 := str_check w em m b
 unfold pk
 simp [Instr.checkKey, run_underlying Tryz.underlying96, Result.andThen, h0, h1, c0, c1]
open Classical in
noncomputable def findp (a b : ByteArray) : List MapEntry → Nat → Option (Nat × Value)
 | [], _ => none
 | e :: es, i => if e.key = pk a b then some (i, e.val) else findp a b es (i + 1)
theorem find_run (a b : ByteArray) : ∀ (es : List MapEntry) (i : Nat), (∀ e ∈ es, ∃ c d, e.key = pk c d) → (Instr.findAsking 96 (pk a b) es i).run Tryz.prog w = .ok (findp a b es i) w
 | [], i, _ => by simp [Instr.findAsking, findp]
 | e :: es, i, h => by
  obtain ⟨c, d, hk⟩ := h e (by simp)
  have he := pk_eq w a b c d
  have ih := find_run a b es (i + 1) (fun x hx => h x (by simp [hx]))
  unfold findp
  by_cases hc : e.key = pk a b
  ·rw [if_pos hc]
   have := pk_inj (hk.symm.trans hc)
   rw [this.1, this.2] at hk he
   rw [show (a == a && b == b) = true by rw [Bool.and_eq_true]; exact ⟨(MapKept.bytes_beq a a).2 rfl, (MapKept.bytes_beq b b).2 rfl⟩] at he
   simp [Instr.findAsking, hk, he, Result.andThen]
  ·rw [if_neg hc]
   have hb : (a == c && b == d) = false := by
    cases hb : (a == c && b == d) with
    | false => rfl
    | true =>
     rw [Bool.and_eq_true] at hb
     exact absurd (by rw [hk, ← (MapKept.bytes_beq _ _).1 hb.1, ← (MapKept.bytes_beq _ _).1 hb.2]) hc
   rw [hb] at he
   simp [Instr.findAsking, hk, he, Result.andThen]
   exact ih
theorem findKey_run (a b : ByteArray) (es : List MapEntry) (h : ∀ e ∈ es, ∃ c d, e.key = pk c d) : (Instr.findKey 96 (pk a b) es).run Tryz.prog w = .ok (findp a b es 0) w := by
 have hr := find_run w a b es 0 h
 cases es with
 | nil => simp [Instr.findKey, run_underlying Tryz.underlying96, Instr.findNow, findp, Result.andThen]
 | cons e t => simp [Instr.findKey, run_underlying Tryz.underlying96, Instr.findNow, Instr.sameNow, Result.andThen, hr]
end
structure Put where
 op : Nat
 el : ByteArray
 att : ByteArray
 val : Value
def Ent (L : List Put) (b : Nat → Bool) (es : Array MapEntry) : Prop :=
 (∀ e ∈ es.toList, ∃ q ∈ L, b q.op = true ∧ e.key = pk q.el q.att ∧ e.val = q.val) ∧ ∀ q ∈ L, b q.op = true → ∃ e ∈ es.toList, e.key = pk q.el q.att
def Apart (L : List Put) : Prop := ∀ p ∈ L, ∀ q ∈ L, p.el = q.el → p.att = q.att → p = q
theorem Ent.keys {L : List Put} {b : Nat → Bool} {es : Array MapEntry} (h : Ent L b es) : ∀ e ∈ es.toList, ∃ c d, e.key = pk c d := fun e he => by
 obtain ⟨q, _, _, hk, _⟩ := h.1 e he
 exact ⟨_, _, hk⟩
theorem Ent.start {L : List Put} {b : Nat → Bool} (h : ∀ q ∈ L, b q.op = false) : Ent L b #[] :=
 ⟨fun e he => by simp at he, fun q hq hb => by rw [h q hq] at hb; cases hb⟩
theorem Ent.push {L : List Put} {b : Nat → Bool} {es : Array MapEntry} (h : Ent L b es) {q : Put} (hq : q ∈ L) (ck : Nat) (hu : ∀ p ∈ L, p.op = q.op → p = q) : Ent L (up b q.op) (es.push ⟨pk q.el q.att, q.val, ck⟩) := by
 have hup : ∀ i, b i = true → up b q.op i = true := fun i hi => by unfold up; split <;> simp [hi]
 refine ⟨fun e he => ?_, fun p hp hb => ?_⟩
 ·rw [Array.toList_push, List.mem_append, List.mem_singleton] at he
  rcases he with he | he
  ·obtain ⟨p, hp, hb, h1, h2⟩ := h.1 e he
   exact ⟨p, hp, hup _ hb, h1, h2⟩
  ·subst he
   exact ⟨q, hq, up_self b q.op, rfl, rfl⟩
 ·by_cases e : p.op = q.op
  ·obtain rfl := hu p hp e
   exact ⟨⟨pk p.el p.att, p.val, ck⟩, by rw [Array.toList_push]; simp, rfl⟩
  ·rw [up_ne e] at hb
   obtain ⟨x, hx, hk⟩ := h.2 p hp hb
   exact ⟨x, by rw [Array.toList_push]; simp [hx], hk⟩
theorem findp_none {a b : ByteArray} : ∀ {es : List MapEntry} {i : Nat}, (∀ e ∈ es, e.key ≠ pk a b) → findp a b es i = Option.none
 | [], i, _ => rfl
 | e :: es, i, h => by
  unfold findp
  rw [if_neg (h e (by simp))]
  exact findp_none (fun x hx => h x (by simp [hx]))
theorem findp_some {a b : ByteArray} : ∀ {es : List MapEntry} {i : Nat}, (∃ e ∈ es, e.key = pk a b) → ∃ e ∈ es, e.key = pk a b ∧ ∃ j, findp a b es i = some (j, e.val)
 | [], i, h => by obtain ⟨e, he, _⟩ := h; simp at he
 | e :: es, i, h => by
  unfold findp
  by_cases hk : e.key = pk a b
  ·exact ⟨e, by simp, hk, i, by rw [if_pos hk]⟩
  ·obtain ⟨x, hx, hxk⟩ := h
   have hx' : x ∈ es := by
    rcases List.mem_cons.1 hx with e1 | e1
    ·subst e1; exact absurd hxk hk
    ·exact e1
   obtain ⟨y, hy, hyk, j, hj⟩ := findp_some (a := a) (b := b) (es := es) (i := i + 1) ⟨x, hx', hxk⟩
   exact ⟨y, by simp [hy], hyk, j, by rw [if_neg hk]; exact hj⟩
def tell (L : List Put) (z : Value) (a b : ByteArray) : Value := match L.find? fun q => decide (q.el = a ∧ q.att = b) with
 | some q => q.val
 | none => z
theorem Ent.tells {L : List Put} {b : Nat → Bool} {es : Array MapEntry} (h : Ent L b es) (hA : Apart L) (hall : ∀ q ∈ L, b q.op = true) (x y : ByteArray) (z : Value) :
  (match findp x y es.toList 0 with | some (_, v) => v | none => z) = tell L z x y := by
 unfold tell
 cases hf : L.find? fun q => decide (q.el = x ∧ q.att = y) with
 | some q =>
  have hq := List.mem_of_find?_eq_some hf
  have hp := List.find?_some hf
  rw [decide_eq_true_eq] at hp
  obtain ⟨e, he, hk⟩ := h.2 q hq (hall q hq)
  rw [hp.1, hp.2] at hk
  obtain ⟨e', he', hk', j, hj⟩ := findp_some (i := 0) ⟨e, he, hk⟩
  rw [hj]
  obtain ⟨p, hp2, _, hpk, hpv⟩ := h.1 e' he'
  have := pk_inj (hpk.symm.trans hk')
  have : p = q := hA p hp2 q hq (by rw [this.1, hp.1]) (by rw [this.2, hp.2])
  subst this
  exact hpv
 | none =>
  rw [findp_none (fun e he hk => ?_)]
  obtain ⟨p, hp2, _, hpk, _⟩ := h.1 e he
  have hh := pk_inj (hpk.symm.trans hk)
  have := List.find?_eq_none.1 hf p hp2
  exact this (by rw [decide_eq_true_eq]; exact hh)
section
variable {w : World} {g ck : Nat} {es : Array MapEntry} {L : List Put} {b : Nat → Bool} {t e : TypeId}
theorem store_run (ht : Tryz.prog.underlying t = some (.map 96 e)) (hb : w.heap[g]? = some (.map es ck)) (h : Ent L b es) (hA : Apart L) {q : Put} (hq : q ∈ L) (hn : b q.op = false) :
  (Instr.mapUpdate t (.map (some g)) (pk q.el q.att) q.val).run Tryz.prog w = .ok () (setBlock w g (.map (es.push ⟨pk q.el q.att, q.val, ck⟩) (ck + 1))) := by
 have hf := findKey_run w q.el q.att es.toList h.keys
 rw [findp_none (fun x hx hk => by
  obtain ⟨p, hp, hpb, hpk, _⟩ := h.1 x hx
  have := pk_inj (hpk.symm.trans hk)
  have := hA p hp q hq this.1 this.2
  subst this
  rw [hn] at hpb; cases hpb)] at hf
 simp [Instr.mapUpdate, run_underlying ht, MapKept.run_getObj_map hb, pk_check w false q.el q.att, hf, MapKept.run_setObj_map _ hb, Result.andThen, setBlock]
theorem look_run (ht : Tryz.prog.underlying t = some (.map 96 e)) {z : Value} (hz : ∀ w, (zeroValue e).run Tryz.prog w = .ok z w) (hb : w.heap[g]? = some (.map es ck)) (h : Ent L b es) (hA : Apart L) (hall : ∀ q ∈ L, b q.op = true) (x y : ByteArray) :
  (Instr.lookup t (.map (some g)) (pk x y) false).run Tryz.prog w = .ok (tell L z x y) w := by
 have hf := findKey_run w x y es.toList h.keys
 have ht2 := h.tells hA hall x y z
 rw [← ht2]
 cases hfp : findp x y es.toList 0 with
 | none =>
  rw [hfp] at hf
  simp [Instr.lookup, run_underlying ht, MapKept.run_getObj_map hb, pk_check w es.isEmpty x y, hf, Result.andThen, hz]
 | some r =>
  rw [hfp] at hf
  simp [Instr.lookup, run_underlying ht, MapKept.run_getObj_map hb, pk_check w es.isEmpty x y, hf, Result.andThen]
end

theorem op_inj : ∀ {L : List Put}, (L.map (·.op)).Nodup → ∀ p ∈ L, ∀ q ∈ L, p.op = q.op → p = q
 | [], _, p, hp, _, _, _ => by simp at hp
 | x :: L, h, p, hp, q, hq, e => by
  rw [List.map_cons, List.nodup_cons] at h
  rcases List.mem_cons.1 hp with h1 | h1 <;> rcases List.mem_cons.1 hq with h2 | h2
  ·rw [h1, h2]
  ·exact absurd (List.mem_map.2 ⟨q, h2, by rw [← e, h1]⟩) h.1
  ·exact absurd (List.mem_map.2 ⟨p, h1, by rw [e, h2]⟩) h.1
  ·exact op_inj h.2 p h1 q h2 e
theorem apart_of {L : List Put} (h : (L.map (·.op)).Nodup) (h2 : ∀ p ∈ L, ∀ q ∈ L, p.el = q.el → p.att = q.att → p.op = q.op) : Apart L := fun p hp q hq h3 h4 => op_inj h p hp q hq (h2 p hp q hq h3 h4)
theorem exec_insert {oi : Oper} {a : Act} {P : Program} {w w1 : World} {t : TypeId} {m k : Tmp} {val M K : Value} (hop : oi.op = Op.insert t (.tmp m) (.tmp k) (.const val)) (e1 : a.tmps[m]? = some M) (e2 : a.tmps[k]? = some K)
  (h : (Instr.mapUpdate t M K val).run P w = .ok () w1) : (execOp a.eval oi).run P w = .ok .skip w1 := by
 simp [execOp, hop, Act.eval, e1, e2, h, Result.andThen]
theorem exec_move {oi : Oper} {a : Act} {P : Program} {w : World} {m : Tmp} {M : Value} (hop : oi.op = Op.move (.tmp m)) (e1 : a.tmps[m]? = some M) : (execOp a.eval oi).run P w = .ok (.value M) w := by
 simp [execOp, hop, Act.eval, e1, Result.andThen]
theorem exec_assign {oi : Oper} {a : Act} {P : Program} {w : World} {m : Tmp} {M : Value} (hop : oi.op = Op.assign (.tmp m)) (e1 : a.tmps[m]? = some M) : (execOp a.eval oi).run P w = .ok (.value M) w := by
 simp [execOp, hop, Act.eval, e1, Result.andThen]
theorem below_block {w w' : World} {g : Nat} {o o' : Obj} (h : Below w.heap.size w w') (hg : w.heap.size ≤ g) : Below w.heap.size w (setBlock w' g o) :=
 h.trans ⟨rfl, rfl, rfl, by simp [setBlock], fun i hi => by
  show (w'.heap.setIfInBounds g o)[i]? = _
  rw [Array.getElem?_setIfInBounds, if_neg (by omega)]⟩

def leads_T : Bool × List (List Nat × List Nat) := (true, [([], []), ([], []), ([0, 1], [0, 1]), ([], []), ([0, 3], [0, 3]), ([], []), ([0, 5], [0, 5]), ([], []), ([0, 7], [0, 7]), ([], []), ([0, 9], [0, 9]), ([], []), ([0, 11], [0, 11]), ([], []), ([0, 13], [0, 13]), ([], []), ([0, 15], [0, 15]), ([], []), ([0, 17], [0, 17]), ([0, 1, 2, 3, 4, 5, 6, 7, 8, 9, 10, 11, 12, 13, 14, 15, 16, 17, 18], [0]), ([19, 0, 1, 2, 3, 4, 5, 6, 7, 8, 9, 10, 11, 12, 13, 14, 15, 16, 17, 18, 19], [19])])
def leads_B : List Nat := [0, 0, 3, 0, 9, 0, 33, 0, 129, 0, 513, 0, 2049, 0, 8193, 0, 32769, 0, 131073, 524287, 1048575]
theorem leads_tab : rtab .any (opsOf Tryz.f100 1) = leads_T := by kernel_rfl
theorem leads_bits : waitsOk leads_T.2 leads_B = true := by kernel_rfl
def leadsL : List Put := [⟨2, ⟨#[97]⟩, ⟨#[104, 114, 101, 102]⟩, .bool true⟩, ⟨4, ⟨#[97, 114, 101, 97]⟩, ⟨#[104, 114, 101, 102]⟩, .bool true⟩, ⟨6, ⟨#[98, 117, 116, 116, 111, 110]⟩, ⟨#[102, 111, 114, 109, 97, 99, 116, 105, 111, 110]⟩, .bool true⟩, ⟨8, ⟨#[101, 109, 98, 101, 100]⟩, ⟨#[115, 114, 99]⟩, .bool true⟩, ⟨10, ⟨#[102, 111, 114, 109]⟩, ⟨#[97, 99, 116, 105, 111, 110]⟩, .bool true⟩, ⟨12, ⟨#[102, 114, 97, 109, 101]⟩, ⟨#[115, 114, 99]⟩, .bool true⟩, ⟨14, ⟨#[105, 102, 114, 97, 109, 101]⟩, ⟨#[115, 114, 99]⟩, .bool true⟩, ⟨16, ⟨#[105, 110, 112, 117, 116]⟩, ⟨#[102, 111, 114, 109, 97, 99, 116, 105, 111, 110]⟩, .bool true⟩, ⟨18, ⟨#[111, 98, 106, 101, 99, 116]⟩, ⟨#[100, 97, 116, 97]⟩, .bool true⟩]
theorem leads_apart : Apart leadsL := apart_of (by decide) (by unfold leadsL; decide +kernel)
theorem leads_ops : ∀ p ∈ leadsL, ∀ q ∈ leadsL, p.op = q.op → p = q := op_inj (by decide)
set_option maxHeartbeats 4000000 in
set_option maxRecDepth 100000 in
theorem leads_calls (w : World) : Calls Tryz.prog 100 #[] w fun e w' => ∃ (g : Nat) (es : Array MapEntry) (ck : Nat) (b : Nat → Bool), e = .returned (.map (some g)) ∧ w.heap.size ≤ g ∧ w'.heap[g]? = some (.map es ck) ∧ Ent leadsL b es ∧ (∀ q ∈ leadsL, b q.op = true) ∧ Below w.heap.size w w' := by
 have mixed : Tryz.prog.follows Departure.mixedOrders = true := by kernel_rfl
 go_enter Tryz.func100, Tryz.ntmps100
 go_upto_region 1 with fail
 refine start_ (n := 21) (S := fun w' => True) (ds := []) #[false, false, false, false, false, false, false, false, false, false, false, false, false, false, false, false, false, false, false, false, false] mixed rfl rfl trivial (fun hHeld => ?_)
 refine with_tabW leads_tab leads_bits (fun HT_ HW_ => ?_)
 refine pure_ (i := 1) (N := some 2) (v := pk ⟨#[97]⟩ ⟨#[104, 114, 101, 102]⟩) #[false, true, false, false, false, false, false, false, false, false, false, false, false, false, false, false, false, false, false, false, false] rfl rfl (any_of HT_.out (by kernel_rfl)) (fun _ _ _ h => h) (Or.inl ⟨by rfl, fun w' => ?_⟩) rfl ?_
 ·go_simp
  rfl
 simp only [Act.put, List.setIfInBounds_toArray, List.set_cons_zero, List.set_cons_succ]
 refine pure_ (i := 3) (N := some 3) (v := pk ⟨#[97, 114, 101, 97]⟩ ⟨#[104, 114, 101, 102]⟩) #[false, true, false, true, false, false, false, false, false, false, false, false, false, false, false, false, false, false, false, false, false] rfl rfl (any_of HT_.out (by kernel_rfl)) (fun _ _ _ h => h) (Or.inl ⟨by rfl, fun w' => ?_⟩) rfl ?_
 ·go_simp
  rfl
 simp only [Act.put, List.setIfInBounds_toArray, List.set_cons_zero, List.set_cons_succ]
 refine pure_ (i := 5) (N := some 4) (v := pk ⟨#[98, 117, 116, 116, 111, 110]⟩ ⟨#[102, 111, 114, 109, 97, 99, 116, 105, 111, 110]⟩) #[false, true, false, true, false, true, false, false, false, false, false, false, false, false, false, false, false, false, false, false, false] rfl rfl (any_of HT_.out (by kernel_rfl)) (fun _ _ _ h => h) (Or.inl ⟨by rfl, fun w' => ?_⟩) rfl ?_
 ·go_simp
  rfl
 simp only [Act.put, List.setIfInBounds_toArray, List.set_cons_zero, List.set_cons_succ]
 refine pure_ (i := 7) (N := some 5) (v := pk ⟨#[101, 109, 98, 101, 100]⟩ ⟨#[115, 114, 99]⟩) #[false, true, false, true, false, true, false, true, false, false, false, false, false, false, false, false, false, false, false, false, false] rfl rfl (any_of HT_.out (by kernel_rfl)) (fun _ _ _ h => h) (Or.inl ⟨by rfl, fun w' => ?_⟩) rfl ?_
 ·go_simp
  rfl
 simp only [Act.put, List.setIfInBounds_toArray, List.set_cons_zero, List.set_cons_succ]
 refine pure_ (i := 9) (N := some 6) (v := pk ⟨#[102, 111, 114, 109]⟩ ⟨#[97, 99, 116, 105, 111, 110]⟩) #[false, true, false, true, false, true, false, true, false, true, false, false, false, false, false, false, false, false, false, false, false] rfl rfl (any_of HT_.out (by kernel_rfl)) (fun _ _ _ h => h) (Or.inl ⟨by rfl, fun w' => ?_⟩) rfl ?_
 ·go_simp
  rfl
 simp only [Act.put, List.setIfInBounds_toArray, List.set_cons_zero, List.set_cons_succ]
 refine pure_ (i := 11) (N := some 7) (v := pk ⟨#[102, 114, 97, 109, 101]⟩ ⟨#[115, 114, 99]⟩) #[false, true, false, true, false, true, false, true, false, true, false, true, false, false, false, false, false, false, false, false, false] rfl rfl (any_of HT_.out (by kernel_rfl)) (fun _ _ _ h => h) (Or.inl ⟨by rfl, fun w' => ?_⟩) rfl ?_
 ·go_simp
  rfl
 simp only [Act.put, List.setIfInBounds_toArray, List.set_cons_zero, List.set_cons_succ]
 refine pure_ (i := 13) (N := some 8) (v := pk ⟨#[105, 102, 114, 97, 109, 101]⟩ ⟨#[115, 114, 99]⟩) #[false, true, false, true, false, true, false, true, false, true, false, true, false, true, false, false, false, false, false, false, false] rfl rfl (any_of HT_.out (by kernel_rfl)) (fun _ _ _ h => h) (Or.inl ⟨by rfl, fun w' => ?_⟩) rfl ?_
 ·go_simp
  rfl
 simp only [Act.put, List.setIfInBounds_toArray, List.set_cons_zero, List.set_cons_succ]
 refine pure_ (i := 15) (N := some 9) (v := pk ⟨#[105, 110, 112, 117, 116]⟩ ⟨#[102, 111, 114, 109, 97, 99, 116, 105, 111, 110]⟩) #[false, true, false, true, false, true, false, true, false, true, false, true, false, true, false, true, false, false, false, false, false] rfl rfl (any_of HT_.out (by kernel_rfl)) (fun _ _ _ h => h) (Or.inl ⟨by rfl, fun w' => ?_⟩) rfl ?_
 ·go_simp
  rfl
 simp only [Act.put, List.setIfInBounds_toArray, List.set_cons_zero, List.set_cons_succ]
 refine pure_ (i := 17) (N := some 10) (v := pk ⟨#[111, 98, 106, 101, 99, 116]⟩ ⟨#[100, 97, 116, 97]⟩) #[false, true, false, true, false, true, false, true, false, true, false, true, false, true, false, true, false, true, false, false, false] rfl rfl (any_of HT_.out (by kernel_rfl)) (fun _ _ _ h => h) (Or.inl ⟨by rfl, fun w' => ?_⟩) rfl ?_
 ·go_simp
  rfl
 simp only [Act.put, List.setIfInBounds_toArray, List.set_cons_zero, List.set_cons_succ]
 refine inv_at [0, 2, 4, 6, 8, 10, 12, 14, 16, 18, 19, 20] (fun a0_ b a w' => ∃ (g : Nat) (es : Array MapEntry) (ck : Nat) (m1 m2 : Value), a = putSel a0_ b [(0, 1, .map (some g)), (19, 11, m1), (20, 0, m2)] ∧ Below w.heap.size w w' ∧ (b 0 = true → w.heap.size ≤ g ∧ w'.heap[g]? = some (.map es ck) ∧ Ent leadsL b es) ∧ (b 19 = true → b 0 = true ∧ m1 = .map (some g)) ∧ (b 20 = true → b 0 = true ∧ m2 = .map (some g))) HT_.out HW_.out (by kernel_rfl) (by kernel_rfl) ?_ ?_ ?_
 ·exact ⟨0, #[], 0, .bool false, .bool false, by simp only [putSel, Bool.false_eq_true, if_false], below_drew (Below.refl _ _), fun h_ => absurd h_ (by decide), fun h_ => absurd h_ (by decide), fun h_ => absurd h_ (by decide)⟩
 ·refine steps_cons ?_ ?_
  ·rintro b a w' ⟨g, es, ck, m1, m2, ha, hb, h0, h1, h2⟩ hb_ hon hoff
   refine ⟨_, rfl, fun K hK => ?_⟩
   refine value_ (w1 := w'.alloc (.map #[] 0)) (v := .map (some w'.heap.size)) (by rfl) rfl ?_ ?_
   ·go_simp
    rfl
   ·refine hK.out _ _ ⟨w'.heap.size, #[], 0, m1, m2, by rw [ha]; exact putSel_upk 0 hb_ rfl rfl rfl, hb.alloc hb.size _, fun _ => ⟨hb.size, (MapKept.heap_alloc w' _).1, Ent.start (fun q hq => ?_)⟩, fun h_ => ?_, fun h_ => ?_⟩
    ·simp only [leadsL, List.mem_cons, List.not_mem_nil, or_false] at hq
     rcases hq with rfl | rfl | rfl | rfl | rfl | rfl | rfl | rfl | rfl
     all_goals exact (up_ne (by decide)).trans (hoff _ (by kernel_rfl))
    ·rw [up_ne (by decide)] at h_; rw [(h1 h_).1] at hb_; cases hb_
    ·rw [up_ne (by decide)] at h_; rw [(h2 h_).1] at hb_; cases hb_
  refine steps_cons ?_ ?_
  ·rintro b a w' ⟨g, es, ck, m1, m2, ha, hb, h0, h1, h2⟩ hb_ hon hoff
   refine ⟨_, rfl, fun K hK => ?_⟩
   have hb0 := hon 0 (by kernel_rfl)
   have e1 : a.tmps[1]? = some (.map (some g)) := by rw [ha]; exact putSel_on (e := (0, 1, .map (some g))) 0 rfl rfl hb0 rfl
   have e2 : a.tmps[2]? = some (pk ⟨#[97]⟩ ⟨#[104, 114, 101, 102]⟩) := by rw [ha]; exact (putSel_off rfl).trans rfl
   obtain ⟨k1, k2, k3⟩ := h0 hb0
   have hq : (⟨2, ⟨#[97]⟩, ⟨#[104, 114, 101, 102]⟩, .bool true⟩ : Put) ∈ leadsL := by unfold leadsL; repeat (first | exact List.mem_cons_self | apply List.mem_cons_of_mem)
   refine skip_ (by rfl) rfl (exec_insert rfl e1 e2 (store_run Tryz.underlying97 k2 k3 leads_apart hq hb_)) ?_
   refine hK.out _ _ ⟨g, _, _, m1, m2, ha.trans (putSel_same rfl).symm, below_block hb k1 (o' := .map #[] 0), fun _ => ⟨k1, heap_setBlock_same k2 _, k3.push hq ck (fun p hp he => leads_ops p hp _ hq he)⟩, fun h_ => ?_, fun h_ => ?_⟩
   ·rw [up_ne (by decide)] at h_; exact ⟨(up_ne (by decide)).trans hb0, (h1 h_).2⟩
   ·rw [up_ne (by decide)] at h_; exact ⟨(up_ne (by decide)).trans hb0, (h2 h_).2⟩
  refine steps_cons ?_ ?_
  ·rintro b a w' ⟨g, es, ck, m1, m2, ha, hb, h0, h1, h2⟩ hb_ hon hoff
   refine ⟨_, rfl, fun K hK => ?_⟩
   have hb0 := hon 0 (by kernel_rfl)
   have e1 : a.tmps[1]? = some (.map (some g)) := by rw [ha]; exact putSel_on (e := (0, 1, .map (some g))) 0 rfl rfl hb0 rfl
   have e2 : a.tmps[3]? = some (pk ⟨#[97, 114, 101, 97]⟩ ⟨#[104, 114, 101, 102]⟩) := by rw [ha]; exact (putSel_off rfl).trans rfl
   obtain ⟨k1, k2, k3⟩ := h0 hb0
   have hq : (⟨4, ⟨#[97, 114, 101, 97]⟩, ⟨#[104, 114, 101, 102]⟩, .bool true⟩ : Put) ∈ leadsL := by unfold leadsL; repeat (first | exact List.mem_cons_self | apply List.mem_cons_of_mem)
   refine skip_ (by rfl) rfl (exec_insert rfl e1 e2 (store_run Tryz.underlying97 k2 k3 leads_apart hq hb_)) ?_
   refine hK.out _ _ ⟨g, _, _, m1, m2, ha.trans (putSel_same rfl).symm, below_block hb k1 (o' := .map #[] 0), fun _ => ⟨k1, heap_setBlock_same k2 _, k3.push hq ck (fun p hp he => leads_ops p hp _ hq he)⟩, fun h_ => ?_, fun h_ => ?_⟩
   ·rw [up_ne (by decide)] at h_; exact ⟨(up_ne (by decide)).trans hb0, (h1 h_).2⟩
   ·rw [up_ne (by decide)] at h_; exact ⟨(up_ne (by decide)).trans hb0, (h2 h_).2⟩
  refine steps_cons ?_ ?_
  ·rintro b a w' ⟨g, es, ck, m1, m2, ha, hb, h0, h1, h2⟩ hb_ hon hoff
   refine ⟨_, rfl, fun K hK => ?_⟩
   have hb0 := hon 0 (by kernel_rfl)
   have e1 : a.tmps[1]? = some (.map (some g)) := by rw [ha]; exact putSel_on (e := (0, 1, .map (some g))) 0 rfl rfl hb0 rfl
   have e2 : a.tmps[4]? = some (pk ⟨#[98, 117, 116, 116, 111, 110]⟩ ⟨#[102, 111, 114, 109, 97, 99, 116, 105, 111, 110]⟩) := by rw [ha]; exact (putSel_off rfl).trans rfl
   obtain ⟨k1, k2, k3⟩ := h0 hb0
   have hq : (⟨6, ⟨#[98, 117, 116, 116, 111, 110]⟩, ⟨#[102, 111, 114, 109, 97, 99, 116, 105, 111, 110]⟩, .bool true⟩ : Put) ∈ leadsL := by unfold leadsL; repeat (first | exact List.mem_cons_self | apply List.mem_cons_of_mem)
   refine skip_ (by rfl) rfl (exec_insert rfl e1 e2 (store_run Tryz.underlying97 k2 k3 leads_apart hq hb_)) ?_
   refine hK.out _ _ ⟨g, _, _, m1, m2, ha.trans (putSel_same rfl).symm, below_block hb k1 (o' := .map #[] 0), fun _ => ⟨k1, heap_setBlock_same k2 _, k3.push hq ck (fun p hp he => leads_ops p hp _ hq he)⟩, fun h_ => ?_, fun h_ => ?_⟩
   ·rw [up_ne (by decide)] at h_; exact ⟨(up_ne (by decide)).trans hb0, (h1 h_).2⟩
   ·rw [up_ne (by decide)] at h_; exact ⟨(up_ne (by decide)).trans hb0, (h2 h_).2⟩
  refine steps_cons ?_ ?_
  ·rintro b a w' ⟨g, es, ck, m1, m2, ha, hb, h0, h1, h2⟩ hb_ hon hoff
   refine ⟨_, rfl, fun K hK => ?_⟩
   have hb0 := hon 0 (by kernel_rfl)
   have e1 : a.tmps[1]? = some (.map (some g)) := by rw [ha]; exact putSel_on (e := (0, 1, .map (some g))) 0 rfl rfl hb0 rfl
   have e2 : a.tmps[5]? = some (pk ⟨#[101, 109, 98, 101, 100]⟩ ⟨#[115, 114, 99]⟩) := by rw [ha]; exact (putSel_off rfl).trans rfl
   obtain ⟨k1, k2, k3⟩ := h0 hb0
   have hq : (⟨8, ⟨#[101, 109, 98, 101, 100]⟩, ⟨#[115, 114, 99]⟩, .bool true⟩ : Put) ∈ leadsL := by unfold leadsL; repeat (first | exact List.mem_cons_self | apply List.mem_cons_of_mem)
   refine skip_ (by rfl) rfl (exec_insert rfl e1 e2 (store_run Tryz.underlying97 k2 k3 leads_apart hq hb_)) ?_
   refine hK.out _ _ ⟨g, _, _, m1, m2, ha.trans (putSel_same rfl).symm, below_block hb k1 (o' := .map #[] 0), fun _ => ⟨k1, heap_setBlock_same k2 _, k3.push hq ck (fun p hp he => leads_ops p hp _ hq he)⟩, fun h_ => ?_, fun h_ => ?_⟩
   ·rw [up_ne (by decide)] at h_; exact ⟨(up_ne (by decide)).trans hb0, (h1 h_).2⟩
   ·rw [up_ne (by decide)] at h_; exact ⟨(up_ne (by decide)).trans hb0, (h2 h_).2⟩
  refine steps_cons ?_ ?_
  ·rintro b a w' ⟨g, es, ck, m1, m2, ha, hb, h0, h1, h2⟩ hb_ hon hoff
   refine ⟨_, rfl, fun K hK => ?_⟩
   have hb0 := hon 0 (by kernel_rfl)
   have e1 : a.tmps[1]? = some (.map (some g)) := by rw [ha]; exact putSel_on (e := (0, 1, .map (some g))) 0 rfl rfl hb0 rfl
   have e2 : a.tmps[6]? = some (pk ⟨#[102, 111, 114, 109]⟩ ⟨#[97, 99, 116, 105, 111, 110]⟩) := by rw [ha]; exact (putSel_off rfl).trans rfl
   obtain ⟨k1, k2, k3⟩ := h0 hb0
   have hq : (⟨10, ⟨#[102, 111, 114, 109]⟩, ⟨#[97, 99, 116, 105, 111, 110]⟩, .bool true⟩ : Put) ∈ leadsL := by unfold leadsL; repeat (first | exact List.mem_cons_self | apply List.mem_cons_of_mem)
   refine skip_ (by rfl) rfl (exec_insert rfl e1 e2 (store_run Tryz.underlying97 k2 k3 leads_apart hq hb_)) ?_
   refine hK.out _ _ ⟨g, _, _, m1, m2, ha.trans (putSel_same rfl).symm, below_block hb k1 (o' := .map #[] 0), fun _ => ⟨k1, heap_setBlock_same k2 _, k3.push hq ck (fun p hp he => leads_ops p hp _ hq he)⟩, fun h_ => ?_, fun h_ => ?_⟩
   ·rw [up_ne (by decide)] at h_; exact ⟨(up_ne (by decide)).trans hb0, (h1 h_).2⟩
   ·rw [up_ne (by decide)] at h_; exact ⟨(up_ne (by decide)).trans hb0, (h2 h_).2⟩
  refine steps_cons ?_ ?_
  ·rintro b a w' ⟨g, es, ck, m1, m2, ha, hb, h0, h1, h2⟩ hb_ hon hoff
   refine ⟨_, rfl, fun K hK => ?_⟩
   have hb0 := hon 0 (by kernel_rfl)
   have e1 : a.tmps[1]? = some (.map (some g)) := by rw [ha]; exact putSel_on (e := (0, 1, .map (some g))) 0 rfl rfl hb0 rfl
   have e2 : a.tmps[7]? = some (pk ⟨#[102, 114, 97, 109, 101]⟩ ⟨#[115, 114, 99]⟩) := by rw [ha]; exact (putSel_off rfl).trans rfl
   obtain ⟨k1, k2, k3⟩ := h0 hb0
   have hq : (⟨12, ⟨#[102, 114, 97, 109, 101]⟩, ⟨#[115, 114, 99]⟩, .bool true⟩ : Put) ∈ leadsL := by unfold leadsL; repeat (first | exact List.mem_cons_self | apply List.mem_cons_of_mem)
   refine skip_ (by rfl) rfl (exec_insert rfl e1 e2 (store_run Tryz.underlying97 k2 k3 leads_apart hq hb_)) ?_
   refine hK.out _ _ ⟨g, _, _, m1, m2, ha.trans (putSel_same rfl).symm, below_block hb k1 (o' := .map #[] 0), fun _ => ⟨k1, heap_setBlock_same k2 _, k3.push hq ck (fun p hp he => leads_ops p hp _ hq he)⟩, fun h_ => ?_, fun h_ => ?_⟩
   ·rw [up_ne (by decide)] at h_; exact ⟨(up_ne (by decide)).trans hb0, (h1 h_).2⟩
   ·rw [up_ne (by decide)] at h_; exact ⟨(up_ne (by decide)).trans hb0, (h2 h_).2⟩
  refine steps_cons ?_ ?_
  ·rintro b a w' ⟨g, es, ck, m1, m2, ha, hb, h0, h1, h2⟩ hb_ hon hoff
   refine ⟨_, rfl, fun K hK => ?_⟩
   have hb0 := hon 0 (by kernel_rfl)
   have e1 : a.tmps[1]? = some (.map (some g)) := by rw [ha]; exact putSel_on (e := (0, 1, .map (some g))) 0 rfl rfl hb0 rfl
   have e2 : a.tmps[8]? = some (pk ⟨#[105, 102, 114, 97, 109, 101]⟩ ⟨#[115, 114, 99]⟩) := by rw [ha]; exact (putSel_off rfl).trans rfl
   obtain ⟨k1, k2, k3⟩ := h0 hb0
   have hq : (⟨14, ⟨#[105, 102, 114, 97, 109, 101]⟩, ⟨#[115, 114, 99]⟩, .bool true⟩ : Put) ∈ leadsL := by unfold leadsL; repeat (first | exact List.mem_cons_self | apply List.mem_cons_of_mem)
   refine skip_ (by rfl) rfl (exec_insert rfl e1 e2 (store_run Tryz.underlying97 k2 k3 leads_apart hq hb_)) ?_
   refine hK.out _ _ ⟨g, _, _, m1, m2, ha.trans (putSel_same rfl).symm, below_block hb k1 (o' := .map #[] 0), fun _ => ⟨k1, heap_setBlock_same k2 _, k3.push hq ck (fun p hp he => leads_ops p hp _ hq he)⟩, fun h_ => ?_, fun h_ => ?_⟩
   ·rw [up_ne (by decide)] at h_; exact ⟨(up_ne (by decide)).trans hb0, (h1 h_).2⟩
   ·rw [up_ne (by decide)] at h_; exact ⟨(up_ne (by decide)).trans hb0, (h2 h_).2⟩
  refine steps_cons ?_ ?_
  ·rintro b a w' ⟨g, es, ck, m1, m2, ha, hb, h0, h1, h2⟩ hb_ hon hoff
   refine ⟨_, rfl, fun K hK => ?_⟩
   have hb0 := hon 0 (by kernel_rfl)
   have e1 : a.tmps[1]? = some (.map (some g)) := by rw [ha]; exact putSel_on (e := (0, 1, .map (some g))) 0 rfl rfl hb0 rfl
   have e2 : a.tmps[9]? = some (pk ⟨#[105, 110, 112, 117, 116]⟩ ⟨#[102, 111, 114, 109, 97, 99, 116, 105, 111, 110]⟩) := by rw [ha]; exact (putSel_off rfl).trans rfl
   obtain ⟨k1, k2, k3⟩ := h0 hb0
   have hq : (⟨16, ⟨#[105, 110, 112, 117, 116]⟩, ⟨#[102, 111, 114, 109, 97, 99, 116, 105, 111, 110]⟩, .bool true⟩ : Put) ∈ leadsL := by unfold leadsL; repeat (first | exact List.mem_cons_self | apply List.mem_cons_of_mem)
   refine skip_ (by rfl) rfl (exec_insert rfl e1 e2 (store_run Tryz.underlying97 k2 k3 leads_apart hq hb_)) ?_
   refine hK.out _ _ ⟨g, _, _, m1, m2, ha.trans (putSel_same rfl).symm, below_block hb k1 (o' := .map #[] 0), fun _ => ⟨k1, heap_setBlock_same k2 _, k3.push hq ck (fun p hp he => leads_ops p hp _ hq he)⟩, fun h_ => ?_, fun h_ => ?_⟩
   ·rw [up_ne (by decide)] at h_; exact ⟨(up_ne (by decide)).trans hb0, (h1 h_).2⟩
   ·rw [up_ne (by decide)] at h_; exact ⟨(up_ne (by decide)).trans hb0, (h2 h_).2⟩
  refine steps_cons ?_ ?_
  ·rintro b a w' ⟨g, es, ck, m1, m2, ha, hb, h0, h1, h2⟩ hb_ hon hoff
   refine ⟨_, rfl, fun K hK => ?_⟩
   have hb0 := hon 0 (by kernel_rfl)
   have e1 : a.tmps[1]? = some (.map (some g)) := by rw [ha]; exact putSel_on (e := (0, 1, .map (some g))) 0 rfl rfl hb0 rfl
   have e2 : a.tmps[10]? = some (pk ⟨#[111, 98, 106, 101, 99, 116]⟩ ⟨#[100, 97, 116, 97]⟩) := by rw [ha]; exact (putSel_off rfl).trans rfl
   obtain ⟨k1, k2, k3⟩ := h0 hb0
   have hq : (⟨18, ⟨#[111, 98, 106, 101, 99, 116]⟩, ⟨#[100, 97, 116, 97]⟩, .bool true⟩ : Put) ∈ leadsL := by unfold leadsL; repeat (first | exact List.mem_cons_self | apply List.mem_cons_of_mem)
   refine skip_ (by rfl) rfl (exec_insert rfl e1 e2 (store_run Tryz.underlying97 k2 k3 leads_apart hq hb_)) ?_
   refine hK.out _ _ ⟨g, _, _, m1, m2, ha.trans (putSel_same rfl).symm, below_block hb k1 (o' := .map #[] 0), fun _ => ⟨k1, heap_setBlock_same k2 _, k3.push hq ck (fun p hp he => leads_ops p hp _ hq he)⟩, fun h_ => ?_, fun h_ => ?_⟩
   ·rw [up_ne (by decide)] at h_; exact ⟨(up_ne (by decide)).trans hb0, (h1 h_).2⟩
   ·rw [up_ne (by decide)] at h_; exact ⟨(up_ne (by decide)).trans hb0, (h2 h_).2⟩
  refine steps_cons ?_ ?_
  ·rintro b a w' ⟨g, es, ck, m1, m2, ha, hb, h0, h1, h2⟩ hb_ hon hoff
   refine ⟨_, rfl, fun K hK => ?_⟩
   have hb0 := hon 0 (by kernel_rfl)
   have e1 : a.tmps[1]? = some (.map (some g)) := by rw [ha]; exact putSel_on (e := (0, 1, .map (some g))) 0 rfl rfl hb0 rfl
   refine value_ (w1 := w') (v := .map (some g)) (by rfl) rfl (exec_move rfl e1) ?_
   obtain ⟨k1, k2, k3⟩ := h0 hb0
   refine hK.out _ _ ⟨g, es, ck, .map (some g), m2, by rw [ha]; exact putSel_upk 1 hb_ rfl rfl rfl, hb, fun _ => ⟨k1, k2, ⟨fun e he => by obtain ⟨q, hq, hqb, hh⟩ := k3.1 e he; exact ⟨q, hq, (by unfold up; split <;> simp [hqb]), hh⟩, fun q hq hqb => k3.2 q hq (by rw [up_ne (by revert hq; unfold leadsL; intro hq h_; simp only [List.mem_cons, List.not_mem_nil, or_false] at hq; rcases hq with rfl | rfl | rfl | rfl | rfl | rfl | rfl | rfl | rfl <;> cases h_)] at hqb; exact hqb)⟩⟩, fun h_ => ?_, fun h_ => ?_⟩
   ·exact ⟨(up_ne (by decide)).trans hb0, rfl⟩
   ·rw [up_ne (by decide)] at h_; exact ⟨(up_ne (by decide)).trans hb0, (h2 h_).2⟩
  refine steps_cons ?_ ?_
  ·rintro b a w' ⟨g, es, ck, m1, m2, ha, hb, h0, h1, h2⟩ hb_ hon hoff
   refine ⟨_, rfl, fun K hK => ?_⟩
   have hb0 := hon 0 (by kernel_rfl)
   have e1 : a.tmps[11]? = some (.map (some g)) := by rw [ha, ← (h1 (hon 19 (by kernel_rfl))).2]; exact putSel_on (e := (19, 11, m1)) 1 rfl rfl (hon 19 (by kernel_rfl)) rfl
   refine value_ (w1 := w') (v := .map (some g)) (by rfl) rfl (exec_assign rfl e1) ?_
   obtain ⟨k1, k2, k3⟩ := h0 hb0
   refine hK.out _ _ ⟨g, es, ck, m1, .map (some g), by rw [ha]; exact putSel_upk 2 hb_ rfl rfl rfl, hb, fun _ => ⟨k1, k2, ⟨fun e he => by obtain ⟨q, hq, hqb, hh⟩ := k3.1 e he; exact ⟨q, hq, (by unfold up; split <;> simp [hqb]), hh⟩, fun q hq hqb => k3.2 q hq (by rw [up_ne (by revert hq; unfold leadsL; intro hq h_; simp only [List.mem_cons, List.not_mem_nil, or_false] at hq; rcases hq with rfl | rfl | rfl | rfl | rfl | rfl | rfl | rfl | rfl <;> cases h_)] at hqb; exact hqb)⟩⟩, fun h_ => ?_, fun h_ => ?_⟩
   ·rw [up_ne (by decide)] at h_; exact ⟨(up_ne (by decide)).trans hb0, (h1 h_).2⟩
   ·exact ⟨(up_ne (by decide)).trans hb0, rfl⟩
  exact steps_nil
 ·rintro b a w' hall ⟨g, es, ck, m1, m2, ha, hb, h0, h1, h2⟩
  have hb0 := hall 0 (by kernel_rfl)
  have hb19 := hall 19 (by kernel_rfl)
  have hb20 := hall 20 (by kernel_rfl)
  obtain rfl := (h1 hb19).2
  obtain rfl := (h2 hb20).2
  obtain ⟨k1, k2, k3⟩ := h0 hb0
  have hops : ∀ q ∈ leadsL, b q.op = true := fun q hq => by
   simp only [leadsL, List.mem_cons, List.not_mem_nil, or_false] at hq
   rcases hq with rfl | rfl | rfl | rfl | rfl | rfl | rfl | rfl | rfl
   all_goals exact hall _ (by kernel_rfl)
  have fin := hid (show ∃ (g' : Nat) (es : Array MapEntry) (ck : Nat) (b : Nat → Bool), (Ending.returned (.map (some g)) = .returned (.map (some g'))) ∧ w.heap.size ≤ g' ∧ w'.heap[g']? = some (.map es ck) ∧ Ent leadsL b es ∧ (∀ q ∈ leadsL, b q.op = true) ∧ Below w.heap.size w w' from ⟨g, es, ck, b, rfl, k1, k2, k3, hops, hb⟩)
  subst ha
  simp only [putSel, hb0, hb19, hb20, if_true, Act.put, List.setIfInBounds_toArray, List.set_cons_zero, List.set_cons_succ]
  clear hall h0 h1 h2 k1 k2 k3 hops hb hb0 hb19 hb20
  go_wp2
  go_ret
  exact fin.out
def sinks_T : Bool × List (List Nat × List Nat) := (true, [([], []), ([], []), ([0, 1], [0, 1]), ([], []), ([0, 3], [0, 3]), ([], []), ([0, 5], [0, 5]), ([], []), ([0, 7], [0, 7]), ([0, 1, 2, 3, 4, 5, 6, 7, 8], [0]), ([9, 0, 1, 2, 3, 4, 5, 6, 7, 8, 9], [9])])
def sinks_B : List Nat := [0, 0, 3, 0, 9, 0, 33, 0, 129, 511, 1023]
theorem sinks_tab : rtab .any (opsOf Tryz.f99 1) = sinks_T := by kernel_rfl
theorem sinks_bits : waitsOk sinks_T.2 sinks_B = true := by kernel_rfl
def sinksL : List Put := [⟨2, ⟨#[115, 99, 114, 105, 112, 116]⟩, ⟨#[115, 114, 99]⟩, .int .i64 3⟩, ⟨4, ⟨#[101, 109, 98, 101, 100]⟩, ⟨#[115, 114, 99]⟩, .int .i64 3⟩, ⟨6, ⟨#[111, 98, 106, 101, 99, 116]⟩, ⟨#[100, 97, 116, 97]⟩, .int .i64 3⟩, ⟨8, ⟨#[105, 102, 114, 97, 109, 101]⟩, ⟨#[115, 114, 99, 100, 111, 99]⟩, .int .i64 1⟩]
theorem sinks_apart : Apart sinksL := apart_of (by decide) (by unfold sinksL; decide +kernel)
theorem sinks_ops : ∀ p ∈ sinksL, ∀ q ∈ sinksL, p.op = q.op → p = q := op_inj (by decide)
set_option maxHeartbeats 4000000 in
set_option maxRecDepth 100000 in
theorem sinks_calls (w : World) : Calls Tryz.prog 99 #[] w fun e w' => ∃ (g : Nat) (es : Array MapEntry) (ck : Nat) (b : Nat → Bool), e = .returned (.map (some g)) ∧ w.heap.size ≤ g ∧ w'.heap[g]? = some (.map es ck) ∧ Ent sinksL b es ∧ (∀ q ∈ sinksL, b q.op = true) ∧ Below w.heap.size w w' := by
 have mixed : Tryz.prog.follows Departure.mixedOrders = true := by kernel_rfl
 go_enter Tryz.func99, Tryz.ntmps99
 go_upto_region 1 with fail
 refine start_ (n := 11) (S := fun w' => True) (ds := []) #[false, false, false, false, false, false, false, false, false, false, false] mixed rfl rfl trivial (fun hHeld => ?_)
 refine with_tabW sinks_tab sinks_bits (fun HT_ HW_ => ?_)
 refine pure_ (i := 1) (N := some 2) (v := pk ⟨#[115, 99, 114, 105, 112, 116]⟩ ⟨#[115, 114, 99]⟩) #[false, true, false, false, false, false, false, false, false, false, false] rfl rfl (any_of HT_.out (by kernel_rfl)) (fun _ _ _ h => h) (Or.inl ⟨by rfl, fun w' => ?_⟩) rfl ?_
 ·go_simp
  rfl
 simp only [Act.put, List.setIfInBounds_toArray, List.set_cons_zero, List.set_cons_succ]
 refine pure_ (i := 3) (N := some 3) (v := pk ⟨#[101, 109, 98, 101, 100]⟩ ⟨#[115, 114, 99]⟩) #[false, true, false, true, false, false, false, false, false, false, false] rfl rfl (any_of HT_.out (by kernel_rfl)) (fun _ _ _ h => h) (Or.inl ⟨by rfl, fun w' => ?_⟩) rfl ?_
 ·go_simp
  rfl
 simp only [Act.put, List.setIfInBounds_toArray, List.set_cons_zero, List.set_cons_succ]
 refine pure_ (i := 5) (N := some 4) (v := pk ⟨#[111, 98, 106, 101, 99, 116]⟩ ⟨#[100, 97, 116, 97]⟩) #[false, true, false, true, false, true, false, false, false, false, false] rfl rfl (any_of HT_.out (by kernel_rfl)) (fun _ _ _ h => h) (Or.inl ⟨by rfl, fun w' => ?_⟩) rfl ?_
 ·go_simp
  rfl
 simp only [Act.put, List.setIfInBounds_toArray, List.set_cons_zero, List.set_cons_succ]
 refine pure_ (i := 7) (N := some 5) (v := pk ⟨#[105, 102, 114, 97, 109, 101]⟩ ⟨#[115, 114, 99, 100, 111, 99]⟩) #[false, true, false, true, false, true, false, true, false, false, false] rfl rfl (any_of HT_.out (by kernel_rfl)) (fun _ _ _ h => h) (Or.inl ⟨by rfl, fun w' => ?_⟩) rfl ?_
 ·go_simp
  rfl
 simp only [Act.put, List.setIfInBounds_toArray, List.set_cons_zero, List.set_cons_succ]
 refine inv_at [0, 2, 4, 6, 8, 9, 10] (fun a0_ b a w' => ∃ (g : Nat) (es : Array MapEntry) (ck : Nat) (m1 m2 : Value), a = putSel a0_ b [(0, 1, .map (some g)), (9, 6, m1), (10, 0, m2)] ∧ Below w.heap.size w w' ∧ (b 0 = true → w.heap.size ≤ g ∧ w'.heap[g]? = some (.map es ck) ∧ Ent sinksL b es) ∧ (b 9 = true → b 0 = true ∧ m1 = .map (some g)) ∧ (b 10 = true → b 0 = true ∧ m2 = .map (some g))) HT_.out HW_.out (by kernel_rfl) (by kernel_rfl) ?_ ?_ ?_
 ·exact ⟨0, #[], 0, .bool false, .bool false, by simp only [putSel, Bool.false_eq_true, if_false], below_drew (Below.refl _ _), fun h_ => absurd h_ (by decide), fun h_ => absurd h_ (by decide), fun h_ => absurd h_ (by decide)⟩
 ·refine steps_cons ?_ ?_
  ·rintro b a w' ⟨g, es, ck, m1, m2, ha, hb, h0, h1, h2⟩ hb_ hon hoff
   refine ⟨_, rfl, fun K hK => ?_⟩
   refine value_ (w1 := w'.alloc (.map #[] 0)) (v := .map (some w'.heap.size)) (by rfl) rfl ?_ ?_
   ·go_simp
    rfl
   ·refine hK.out _ _ ⟨w'.heap.size, #[], 0, m1, m2, by rw [ha]; exact putSel_upk 0 hb_ rfl rfl rfl, hb.alloc hb.size _, fun _ => ⟨hb.size, (MapKept.heap_alloc w' _).1, Ent.start (fun q hq => ?_)⟩, fun h_ => ?_, fun h_ => ?_⟩
    ·simp only [sinksL, List.mem_cons, List.not_mem_nil, or_false] at hq
     rcases hq with rfl | rfl | rfl | rfl
     all_goals exact (up_ne (by decide)).trans (hoff _ (by kernel_rfl))
    ·rw [up_ne (by decide)] at h_; rw [(h1 h_).1] at hb_; cases hb_
    ·rw [up_ne (by decide)] at h_; rw [(h2 h_).1] at hb_; cases hb_
  refine steps_cons ?_ ?_
  ·rintro b a w' ⟨g, es, ck, m1, m2, ha, hb, h0, h1, h2⟩ hb_ hon hoff
   refine ⟨_, rfl, fun K hK => ?_⟩
   have hb0 := hon 0 (by kernel_rfl)
   have e1 : a.tmps[1]? = some (.map (some g)) := by rw [ha]; exact putSel_on (e := (0, 1, .map (some g))) 0 rfl rfl hb0 rfl
   have e2 : a.tmps[2]? = some (pk ⟨#[115, 99, 114, 105, 112, 116]⟩ ⟨#[115, 114, 99]⟩) := by rw [ha]; exact (putSel_off rfl).trans rfl
   obtain ⟨k1, k2, k3⟩ := h0 hb0
   have hq : (⟨2, ⟨#[115, 99, 114, 105, 112, 116]⟩, ⟨#[115, 114, 99]⟩, .int .i64 3⟩ : Put) ∈ sinksL := by unfold sinksL; repeat (first | exact List.mem_cons_self | apply List.mem_cons_of_mem)
   refine skip_ (by rfl) rfl (exec_insert rfl e1 e2 (store_run Tryz.underlying93 k2 k3 sinks_apart hq hb_)) ?_
   refine hK.out _ _ ⟨g, _, _, m1, m2, ha.trans (putSel_same rfl).symm, below_block hb k1 (o' := .map #[] 0), fun _ => ⟨k1, heap_setBlock_same k2 _, k3.push hq ck (fun p hp he => sinks_ops p hp _ hq he)⟩, fun h_ => ?_, fun h_ => ?_⟩
   ·rw [up_ne (by decide)] at h_; exact ⟨(up_ne (by decide)).trans hb0, (h1 h_).2⟩
   ·rw [up_ne (by decide)] at h_; exact ⟨(up_ne (by decide)).trans hb0, (h2 h_).2⟩
  refine steps_cons ?_ ?_
  ·rintro b a w' ⟨g, es, ck, m1, m2, ha, hb, h0, h1, h2⟩ hb_ hon hoff
   refine ⟨_, rfl, fun K hK => ?_⟩
   have hb0 := hon 0 (by kernel_rfl)
   have e1 : a.tmps[1]? = some (.map (some g)) := by rw [ha]; exact putSel_on (e := (0, 1, .map (some g))) 0 rfl rfl hb0 rfl
   have e2 : a.tmps[3]? = some (pk ⟨#[101, 109, 98, 101, 100]⟩ ⟨#[115, 114, 99]⟩) := by rw [ha]; exact (putSel_off rfl).trans rfl
   obtain ⟨k1, k2, k3⟩ := h0 hb0
   have hq : (⟨4, ⟨#[101, 109, 98, 101, 100]⟩, ⟨#[115, 114, 99]⟩, .int .i64 3⟩ : Put) ∈ sinksL := by unfold sinksL; repeat (first | exact List.mem_cons_self | apply List.mem_cons_of_mem)
   refine skip_ (by rfl) rfl (exec_insert rfl e1 e2 (store_run Tryz.underlying93 k2 k3 sinks_apart hq hb_)) ?_
   refine hK.out _ _ ⟨g, _, _, m1, m2, ha.trans (putSel_same rfl).symm, below_block hb k1 (o' := .map #[] 0), fun _ => ⟨k1, heap_setBlock_same k2 _, k3.push hq ck (fun p hp he => sinks_ops p hp _ hq he)⟩, fun h_ => ?_, fun h_ => ?_⟩
   ·rw [up_ne (by decide)] at h_; exact ⟨(up_ne (by decide)).trans hb0, (h1 h_).2⟩
   ·rw [up_ne (by decide)] at h_; exact ⟨(up_ne (by decide)).trans hb0, (h2 h_).2⟩
  refine steps_cons ?_ ?_
  ·rintro b a w' ⟨g, es, ck, m1, m2, ha, hb, h0, h1, h2⟩ hb_ hon hoff
   refine ⟨_, rfl, fun K hK => ?_⟩
   have hb0 := hon 0 (by kernel_rfl)
   have e1 : a.tmps[1]? = some (.map (some g)) := by rw [ha]; exact putSel_on (e := (0, 1, .map (some g))) 0 rfl rfl hb0 rfl
   have e2 : a.tmps[4]? = some (pk ⟨#[111, 98, 106, 101, 99, 116]⟩ ⟨#[100, 97, 116, 97]⟩) := by rw [ha]; exact (putSel_off rfl).trans rfl
   obtain ⟨k1, k2, k3⟩ := h0 hb0
   have hq : (⟨6, ⟨#[111, 98, 106, 101, 99, 116]⟩, ⟨#[100, 97, 116, 97]⟩, .int .i64 3⟩ : Put) ∈ sinksL := by unfold sinksL; repeat (first | exact List.mem_cons_self | apply List.mem_cons_of_mem)
   refine skip_ (by rfl) rfl (exec_insert rfl e1 e2 (store_run Tryz.underlying93 k2 k3 sinks_apart hq hb_)) ?_
   refine hK.out _ _ ⟨g, _, _, m1, m2, ha.trans (putSel_same rfl).symm, below_block hb k1 (o' := .map #[] 0), fun _ => ⟨k1, heap_setBlock_same k2 _, k3.push hq ck (fun p hp he => sinks_ops p hp _ hq he)⟩, fun h_ => ?_, fun h_ => ?_⟩
   ·rw [up_ne (by decide)] at h_; exact ⟨(up_ne (by decide)).trans hb0, (h1 h_).2⟩
   ·rw [up_ne (by decide)] at h_; exact ⟨(up_ne (by decide)).trans hb0, (h2 h_).2⟩
  refine steps_cons ?_ ?_
  ·rintro b a w' ⟨g, es, ck, m1, m2, ha, hb, h0, h1, h2⟩ hb_ hon hoff
   refine ⟨_, rfl, fun K hK => ?_⟩
   have hb0 := hon 0 (by kernel_rfl)
   have e1 : a.tmps[1]? = some (.map (some g)) := by rw [ha]; exact putSel_on (e := (0, 1, .map (some g))) 0 rfl rfl hb0 rfl
   have e2 : a.tmps[5]? = some (pk ⟨#[105, 102, 114, 97, 109, 101]⟩ ⟨#[115, 114, 99, 100, 111, 99]⟩) := by rw [ha]; exact (putSel_off rfl).trans rfl
   obtain ⟨k1, k2, k3⟩ := h0 hb0
   have hq : (⟨8, ⟨#[105, 102, 114, 97, 109, 101]⟩, ⟨#[115, 114, 99, 100, 111, 99]⟩, .int .i64 1⟩ : Put) ∈ sinksL := by unfold sinksL; repeat (first | exact List.mem_cons_self | apply List.mem_cons_of_mem)
   refine skip_ (by rfl) rfl (exec_insert rfl e1 e2 (store_run Tryz.underlying93 k2 k3 sinks_apart hq hb_)) ?_
   refine hK.out _ _ ⟨g, _, _, m1, m2, ha.trans (putSel_same rfl).symm, below_block hb k1 (o' := .map #[] 0), fun _ => ⟨k1, heap_setBlock_same k2 _, k3.push hq ck (fun p hp he => sinks_ops p hp _ hq he)⟩, fun h_ => ?_, fun h_ => ?_⟩
   ·rw [up_ne (by decide)] at h_; exact ⟨(up_ne (by decide)).trans hb0, (h1 h_).2⟩
   ·rw [up_ne (by decide)] at h_; exact ⟨(up_ne (by decide)).trans hb0, (h2 h_).2⟩
  refine steps_cons ?_ ?_
  ·rintro b a w' ⟨g, es, ck, m1, m2, ha, hb, h0, h1, h2⟩ hb_ hon hoff
   refine ⟨_, rfl, fun K hK => ?_⟩
   have hb0 := hon 0 (by kernel_rfl)
   have e1 : a.tmps[1]? = some (.map (some g)) := by rw [ha]; exact putSel_on (e := (0, 1, .map (some g))) 0 rfl rfl hb0 rfl
   refine value_ (w1 := w') (v := .map (some g)) (by rfl) rfl (exec_move rfl e1) ?_
   obtain ⟨k1, k2, k3⟩ := h0 hb0
   refine hK.out _ _ ⟨g, es, ck, .map (some g), m2, by rw [ha]; exact putSel_upk 1 hb_ rfl rfl rfl, hb, fun _ => ⟨k1, k2, ⟨fun e he => by obtain ⟨q, hq, hqb, hh⟩ := k3.1 e he; exact ⟨q, hq, (by unfold up; split <;> simp [hqb]), hh⟩, fun q hq hqb => k3.2 q hq (by rw [up_ne (by revert hq; unfold sinksL; intro hq h_; simp only [List.mem_cons, List.not_mem_nil, or_false] at hq; rcases hq with rfl | rfl | rfl | rfl <;> cases h_)] at hqb; exact hqb)⟩⟩, fun h_ => ?_, fun h_ => ?_⟩
   ·exact ⟨(up_ne (by decide)).trans hb0, rfl⟩
   ·rw [up_ne (by decide)] at h_; exact ⟨(up_ne (by decide)).trans hb0, (h2 h_).2⟩
  refine steps_cons ?_ ?_
  ·rintro b a w' ⟨g, es, ck, m1, m2, ha, hb, h0, h1, h2⟩ hb_ hon hoff
   refine ⟨_, rfl, fun K hK => ?_⟩
   have hb0 := hon 0 (by kernel_rfl)
   have e1 : a.tmps[6]? = some (.map (some g)) := by rw [ha, ← (h1 (hon 9 (by kernel_rfl))).2]; exact putSel_on (e := (9, 6, m1)) 1 rfl rfl (hon 9 (by kernel_rfl)) rfl
   refine value_ (w1 := w') (v := .map (some g)) (by rfl) rfl (exec_assign rfl e1) ?_
   obtain ⟨k1, k2, k3⟩ := h0 hb0
   refine hK.out _ _ ⟨g, es, ck, m1, .map (some g), by rw [ha]; exact putSel_upk 2 hb_ rfl rfl rfl, hb, fun _ => ⟨k1, k2, ⟨fun e he => by obtain ⟨q, hq, hqb, hh⟩ := k3.1 e he; exact ⟨q, hq, (by unfold up; split <;> simp [hqb]), hh⟩, fun q hq hqb => k3.2 q hq (by rw [up_ne (by revert hq; unfold sinksL; intro hq h_; simp only [List.mem_cons, List.not_mem_nil, or_false] at hq; rcases hq with rfl | rfl | rfl | rfl <;> cases h_)] at hqb; exact hqb)⟩⟩, fun h_ => ?_, fun h_ => ?_⟩
   ·rw [up_ne (by decide)] at h_; exact ⟨(up_ne (by decide)).trans hb0, (h1 h_).2⟩
   ·exact ⟨(up_ne (by decide)).trans hb0, rfl⟩
  exact steps_nil
 ·rintro b a w' hall ⟨g, es, ck, m1, m2, ha, hb, h0, h1, h2⟩
  have hb0 := hall 0 (by kernel_rfl)
  have hb9 := hall 9 (by kernel_rfl)
  have hb10 := hall 10 (by kernel_rfl)
  obtain rfl := (h1 hb9).2
  obtain rfl := (h2 hb10).2
  obtain ⟨k1, k2, k3⟩ := h0 hb0
  have hops : ∀ q ∈ sinksL, b q.op = true := fun q hq => by
   simp only [sinksL, List.mem_cons, List.not_mem_nil, or_false] at hq
   rcases hq with rfl | rfl | rfl | rfl
   all_goals exact hall _ (by kernel_rfl)
  have fin := hid (show ∃ (g' : Nat) (es : Array MapEntry) (ck : Nat) (b : Nat → Bool), (Ending.returned (.map (some g)) = .returned (.map (some g'))) ∧ w.heap.size ≤ g' ∧ w'.heap[g']? = some (.map es ck) ∧ Ent sinksL b es ∧ (∀ q ∈ sinksL, b q.op = true) ∧ Below w.heap.size w w' from ⟨g, es, ck, b, rfl, k1, k2, k3, hops, hb⟩)
  subst ha
  simp only [putSel, hb0, hb9, hb10, if_true, Act.put, List.setIfInBounds_toArray, List.set_cons_zero, List.set_cons_succ]
  clear hall h0 h1 h2 k1 k2 k3 hops hb hb0 hb9 hb10
  go_wp2
  go_ret
  exact fin.out

def isAt (x y : ByteArray) (q : Put) : Bool := decide (q.el = x ∧ q.att = y)
def navB (x y : ByteArray) : Bool := leadsL.any (isAt x y)
def numOf : Value → Int
 | .int _ n => n
 | _ => 0
def sinkI (x y : ByteArray) : Int := match sinksL.find? (isAt x y) with
 | some q => numOf q.val
 | none => 0
theorem tell_nav (x y : ByteArray) : tell leadsL (.bool false) x y = .bool (navB x y) := by
 unfold tell navB
 have hv : ∀ q ∈ leadsL, q.val = .bool true := by
  intro q hq
  simp only [leadsL, List.mem_cons, List.not_mem_nil, or_false] at hq
  rcases hq with rfl | rfl | rfl | rfl | rfl | rfl | rfl | rfl | rfl <;> rfl
 show (match leadsL.find? (isAt x y) with | some q => q.val | none => _) = _
 cases hf : leadsL.find? (isAt x y) with
 | some q =>
  have h1 := List.mem_of_find?_eq_some hf
  have h2 := List.find?_some hf
  rw [List.any_eq_true.2 ⟨q, h1, h2⟩]
  exact hv q h1
 | none =>
  have : leadsL.any (isAt x y) = false := List.any_eq_false.2 (fun q hq => by have := List.find?_eq_none.1 hf q hq; exact this)
  rw [this]
theorem tell_sink (x y : ByteArray) : tell sinksL (.int .i64 0) x y = .int .i64 (sinkI x y) := by
 unfold tell sinkI
 have hv : ∀ q ∈ sinksL, q.val = .int .i64 (numOf q.val) := by
  intro q hq
  simp only [sinksL, List.mem_cons, List.not_mem_nil, or_false] at hq
  rcases hq with rfl | rfl | rfl | rfl <;> rfl
 show (match sinksL.find? (isAt x y) with | some q => q.val | none => _) = _
 cases hf : sinksL.find? (isAt x y) with
 | some q => exact hv q (List.mem_of_find?_eq_some hf)
 | none => rfl
set_option maxHeartbeats 2000000 in
theorem nav_calls (x y : ByteArray) (w : World) : Calls Tryz.prog 65 #[.string x, .string y] w fun e w' => e = .returned (.bool (navB x y)) ∧ Below w.heap.size w w' := by
 have hl := hid (leads_calls w)
 obtain ⟨B, hBn⟩ : ∃ B, navB x y = B := ⟨_, rfl⟩
 have HT := hid (hBn ▸ tell_nav x y)
 rw [hBn]
 clear hBn
 go_enter Tryz.func65, Tryz.ntmps65
 go_wp2_with (go_at_call 100; refine hl.out.mono ?_; rintro e w1 ⟨g, es, ck, b, rfl, hg, hb, hE, hall, hB⟩; have hlk := look_run (t := 97) Tryz.underlying97 (z := .bool false) Tryz.zeroValue4 hb hE leads_apart hall x y; rw [HT.out] at hlk; unfold pk at hlk; have HB := hid hB; clear hg hb hE hall hB)
 go_ret
 exact ⟨rfl, HB.out⟩
def handlerB (x : ByteArray) : Bool := Lib.hasPrefix x.data.toList [111, 110] && decide (2 < x.size)
set_option maxHeartbeats 2000000 in
theorem handler_calls (x : ByteArray) (w : World) : Calls Tryz.prog 98 #[.string x] w fun e w' => e = .returned (.bool (handlerB x)) ∧ w' = w := by
 have hp := hid (Tryz.strings_HasPrefix x ⟨#[111, 110]⟩ w)
 unfold handlerB
 obtain ⟨B, hB⟩ : ∃ B, Lib.hasPrefix x.data.toList [111, 110] = B := ⟨_, rfl⟩
 have hp2 := hp.out
 rw [show (⟨#[111, 110]⟩ : ByteArray).data.toList = [111, 110] from rfl, hB] at hp2
 have HP := hid hp2
 rw [hB]
 clear hB hp hp2
 cases B with
 | true =>
  go_enter Tryz.func98, Tryz.ntmps98
  go_wp2_with (go_at_call 82; refine HP.out.mono ?_; rintro e w1 ⟨rfl, rfl⟩)
  go_ret
  exact ⟨by simp; omega, rfl⟩
 | false =>
  go_enter Tryz.func98, Tryz.ntmps98
  go_wp2_with (go_at_call 82; refine HP.out.mono ?_; rintro e w1 ⟨rfl, rfl⟩)
  go_ret
  exact ⟨by simp, rfl⟩
set_option maxHeartbeats 2000000 in
set_option maxRecDepth 100000 in
theorem sink_calls (x y : ByteArray) (w : World) : Calls Tryz.prog 64 #[.string x, .string y] w fun e w' => e = .returned (.int .i64 (if handlerB y = true then 2 else sinkI x y)) ∧ Below w.heap.size w w' := by
 have hl := hid (sinks_calls w)
 have hh := handler_calls y w
 obtain ⟨I, hI⟩ : ∃ I, sinkI x y = I := ⟨_, rfl⟩
 have HT := hid (hI ▸ tell_sink x y)
 rw [hI]
 clear hI
 cases hb : handlerB y with
 | true =>
  rw [hb] at hh
  have HH := hid hh
  clear hh hb
  go_enter Tryz.func64, Tryz.ntmps64
  go_wp2_with (go_at_call 98; refine HH.out.mono ?_; rintro e w1 ⟨rfl, rfl⟩)
  go_ret
  exact ⟨by simp, Below.refl _ _⟩
 | false =>
  rw [hb] at hh
  have HH := hid hh
  clear hh hb
  go_enter Tryz.func64, Tryz.ntmps64
  go_wp2_with first
   | (go_at_call 98; refine HH.out.mono ?_; rintro e w1 ⟨rfl, rfl⟩)
   | (go_at_call 99; refine hl.out.mono ?_; rintro e w1 ⟨g, es, ck, b, rfl, hg, hb, hE, hall, hB⟩; have hlk := look_run (t := 93) Tryz.underlying93 (z := .int .i64 0) Tryz.zeroValue3 hb hE sinks_apart hall x y; rw [HT.out] at hlk; unfold pk at hlk; have HB := hid hB; clear hg hb hE hall hB)
  go_ret
  exact ⟨by simp, HB.out⟩
end Go.Proofs.YticacakoefojbaaGreat
namespace Go.Proofs.YticacakoefojbaaGreat
open Go.RowKit Go.Lib

def link_Scheme.f (a0 : ByteArray) : Option (ByteArray × Bool) := bnd a0 (mkS ((scheme a0.data.toList).getD []), (scheme a0.data.toList).isSome)
theorem link_Scheme.calls (a0 : ByteArray) (r1 : ByteArray) (r2 : Bool) (w : World) (h : link_Scheme.f a0 = some (r1, r2)) :
  Calls Tryz.prog 101 #[.string a0] w fun e w' => e = .returned (.tuple #[.string r1, .bool r2]) ∧ Below w.heap.size w w' := by
 obtain ⟨hs, he⟩ := bnd_some h
 injection he with h1 h2
 subst h1 h2
 exact scheme_calls a0 w hs
def boltingref02_Lower.f (a0 : ByteArray) : Option ByteArray := bnd a0 (mkS (lower a0.data.toList))
def risk_Nav.f (a0 a1 : ByteArray) : Option Bool := some (navB a0 a1)
theorem risk_Nav.calls (a0 a1 : ByteArray) (r : Bool) (w : World) (h : risk_Nav.f a0 a1 = some r) :
  Calls Tryz.prog 65 #[.string a0, .string a1] w fun e w' => e = .returned (.bool r) ∧ Below w.heap.size w w' := by
 obtain rfl := Option.some.inj h
 exact nav_calls a0 a1 w
def risk_Sink.f (a0 a1 : ByteArray) : Option Int := some (if handlerB a1 = true then 2 else sinkI a0 a1)
theorem risk_Sink.calls (a0 a1 : ByteArray) (r : Int) (w : World) (h : risk_Sink.f a0 a1 = some r) :
  Calls Tryz.prog 64 #[.string a0, .string a1] w fun e w' => e = .returned (.int .i64 r) ∧ Below w.heap.size w w' := by
 obtain rfl := Option.some.inj h
 exact sink_calls a0 a1 w
end Go.Proofs.YticacakoefojbaaGreat
namespace Go.Proofs.YticacakoefojbaaGreat.Pr
open Go.RowKit Go.Proofs.YticacakoefojbaaGreatW.PrintWords Go.Proofs.YticacakoefojbaaGreatW.PrintLast Go.Proofs.YticacakoefojbaaGreatW.PrintMore
attribute [local go_sem] max2_int min2_int max_two min_two max_three min_three max_four min_four   -- for this text's walks alone

def config_All.f  : Option (Bool × Bool × List ByteArray × List ByteArray × List ByteArray × (List (S60)) × Bool × Bool) := some (false, false, ([] : List ByteArray), ([] : List ByteArray), ([] : List ByteArray), ([] : List (S60)), true, false)
set_option maxHeartbeats 8000000 in
set_option maxRecDepth 100000 in
theorem config_All.calls  (r1 : Bool) (r2 : Bool) (r3 : List ByteArray) (r4 : List ByteArray) (r5 : List ByteArray) (r6 : List (S60)) (r7 : Bool) (r8 : Bool) (w : World) (h : config_All.f  = some (r1, r2, r3, r4, r5, r6, r7, r8)) :
  Calls Tryz.prog 15 #[] w fun e w' => ∃ v2_ v3_ v4_ v5_ : Value, e = .returned (.agg #[.bool r1, .bool r2, v2_, v3_, v4_, v5_, .bool r7, .bool r8]) ∧ Kd.R Kd.string 9 w' w.heap.size (fun k_ => some k_ ≠ (v3_ : Value).ownBlock ∧ some k_ ≠ (v4_ : Value).ownBlock) v2_ r3 ∧ Kd.R Kd.string 9 w' w.heap.size (fun k_ => some k_ ≠ (v2_ : Value).ownBlock ∧ some k_ ≠ (v4_ : Value).ownBlock) v3_ r4 ∧ Kd.R Kd.string 9 w' w.heap.size (fun k_ => some k_ ≠ (v2_ : Value).ownBlock ∧ some k_ ≠ (v3_ : Value).ownBlock) v4_ r5 ∧ Kd.S k60 60 w' w.heap.size (fun k_ => some k_ ≠ (v2_ : Value).ownBlock ∧ some k_ ≠ (v3_ : Value).ownBlock ∧ some k_ ≠ (v4_ : Value).ownBlock) v5_ r6 ∧ Below w.heap.size w w' := by
 have hu32 := Tryz.underlying32
 have HB := am (Below.refl w.heap.size w)
 have H : (some (false, false, ([] : List ByteArray), ([] : List ByteArray), ([] : List ByteArray), ([] : List (S60)), true, false)) = some (r1, r2, r3, r4, r5, r6, r7, r8) := h
 clear h
 simp only [Option.some.injEq, Prod.mk.injEq] at H
 obtain ⟨rfl, rfl, rfl, rfl, rfl, rfl, rfl, rfl⟩ := H
 go_enter Tryz.func15, Tryz.ntmps15
 go_wp2_with (first | ((with_reducible refine gate_dst (N := 0) rfl ?_); refine box_event ?hg (N := 0) ?hd (cs := #[.bool false, .bool false, .slice none 0 0, .slice none 0 0, .slice none 0 0, .slice none 0 0, .bool false, .bool false]) (t := 32) ?hr ?_; (case hd => rfl); (case hg => rfl); (case hr => first | (go_simp; done) | (go_simp; rfl)); intro gb240 hg w1 hbox hb; have n0_ := am (below_step (zb HB) hb); have n1_ := am (hbox); have n3_ := am ((by rw [hg]; exact (below_size (zb HB)) : w.heap.size ≤ gb240)); clear HB; have HB := n0_; have BK240 := n1_; have GE240 := n3_; clear n0_ n1_ n3_; clear hb hbox hg; obtain ⟨hcz2_0, hcz2_1, hcz2_2, hcz2_3, hcz2_4, hcz2_5, hcz2_6, hcz2_7, hfz2_0, hfz2_1, hfz2_2, hfz2_3, hfz2_4, hfz2_5, hfz2_6, hfz2_7⟩ := cz8 BK240.out))
 refine bodyPost_ret (results_cell_row rfl _ _ gb240 32 #[.bool false, .bool false, .slice none 0 0, .slice none 0 0, .slice none 0 0, .slice none 0 0, .bool true, .bool false] (0, 0) _ rfl (by refine blk_put (cs := #[.bool false, .bool false, .slice none 0 0, .slice none 0 0, .slice none 0 0, .slice none 0 0, .bool true, .bool false]) ?_ 7 _ rfl; refine blk_put (cs := #[.bool false, .bool false, .slice none 0 0, .slice none 0 0, .slice none 0 0, .slice none 0 0, .bool false, .bool false]) ?_ 6 _ rfl; refine blk_put (cs := #[.bool false, .bool false, .slice none 0 0, .slice none 0 0, .slice none 0 0, .slice none 0 0, .bool false, .bool false]) ?_ 5 _ rfl; refine blk_put (cs := #[.bool false, .bool false, .slice none 0 0, .slice none 0 0, .slice none 0 0, .slice none 0 0, .bool false, .bool false]) ?_ 4 _ rfl; refine blk_put (cs := #[.bool false, .bool false, .slice none 0 0, .slice none 0 0, .slice none 0 0, .slice none 0 0, .bool false, .bool false]) ?_ 3 _ rfl; refine blk_put (cs := #[.bool false, .bool false, .slice none 0 0, .slice none 0 0, .slice none 0 0, .slice none 0 0, .bool false, .bool false]) ?_ 2 _ rfl; refine blk_put (cs := #[.bool false, .bool false, .slice none 0 0, .slice none 0 0, .slice none 0 0, .slice none 0 0, .bool false, .bool false]) ?_ 1 _ rfl; refine blk_put (cs := #[.bool false, .bool false, .slice none 0 0, .slice none 0 0, .slice none 0 0, .slice none 0 0, .bool false, .bool false]) ?_ 0 _ rfl; exact BK240.out) Tryz.underlying32 rfl (by kernel_rfl)) rfl ?_
 exact ⟨.slice none 0 0, .slice none 0 0, .slice none 0 0, .slice none 0 0, ze, by first | exact Kd.R_nil _ _ _ _ _ | exact Kd.N_nil _ _ _ _ _ | exact Kd.V_nil _ _ _ _ _ | exact Kd.Q_nil _ _ _ _ _ | exact Kd.S_nil _ _ _ _ _, by first | exact Kd.R_nil _ _ _ _ _ | exact Kd.N_nil _ _ _ _ _ | exact Kd.V_nil _ _ _ _ _ | exact Kd.Q_nil _ _ _ _ _ | exact Kd.S_nil _ _ _ _ _, by first | exact Kd.R_nil _ _ _ _ _ | exact Kd.N_nil _ _ _ _ _ | exact Kd.V_nil _ _ _ _ _ | exact Kd.Q_nil _ _ _ _ _ | exact Kd.S_nil _ _ _ _ _, by first | exact Kd.S_nil _ _ _ _ _ | exact Kd.N_nil _ _ _ _ _ | exact Kd.V_nil _ _ _ _ _ | exact Kd.Q_nil _ _ _ _ _ | exact Kd.R_nil _ _ _ _ _, zb1 HB GE240⟩

mutual
def boltingref09_Strip.l0 : Nat → ByteArray → Int → Int → Int → Option (ByteArray)
 | 0, _, _, _, _ => none
 | k + 1, x0, x3, x4, x5 => if x5 < (x0.size : Int) then (if 0 ≤ x5 then (if (bt x0 x5) > 32 then (if x3 < 0 then (boltingref09_Strip.l0 k x0 x5 x5 (wrap64 (x5 + 1))) else (boltingref09_Strip.l0 k x0 x3 x5 (wrap64 (x5 + 1)))) else (boltingref09_Strip.l0 k x0 x3 x4 (wrap64 (x5 + 1)))) else (none)) else (boltingref09_Strip.l1 k x0 x4 (([] : List Int)) (mx 0 x3))
def boltingref09_Strip.l1 : Nat → ByteArray → Int → List Int → Int → Option (ByteArray)
 | 0, _, _, _, _ => none
 | k + 1, x0, x4, x6, x7 => if x7 ≤ x4 then (if 0 ≤ x7 then (if x7 < (x0.size : Int) then (if (bt x0 x7) = 9 then (boltingref09_Strip.l1 k x0 x4 x6 (wrap64 (x7 + 1))) else (if (bt x0 x7) = 10 then (boltingref09_Strip.l1 k x0 x4 x6 (wrap64 (x7 + 1))) else (if (bt x0 x7) = 13 then (boltingref09_Strip.l1 k x0 x4 x6 (wrap64 (x7 + 1))) else (if x6.length < 140737488355328 then (boltingref09_Strip.l1 k x0 x4 (x6 ++ [bt x0 x7]) (wrap64 (x7 + 1))) else (none))))) else (none)) else (none)) else (some (strOfNums x6))
end
def boltingref09_Strip.f (k : Nat) (a0 : ByteArray) : Option (ByteArray) := boltingref09_Strip.l0 k a0 (-1) (-1) 0
def boltingref02_Letter.f (a0 : Int) : Option (Bool) := if a0 ≥ 65 then (if a0 ≤ 90 then (some true) else (if a0 ≥ 97 then (some (decide (a0 ≤ 122))) else (some false))) else (if a0 ≥ 97 then (some (decide (a0 ≤ 122))) else (some false))
mutual
def boltingref09_colon.l0 : Nat → ByteArray → Int → Option (Int)
 | 0, _, _ => none
 | k + 1, x0, x3 => if x3 < (x0.size : Int) then (if 0 ≤ x3 then (if (bt x0 x3) = 58 then (boltingref09_colon.j1 k x0 x3 (bt x0 x3) (decide (x3 > 0))) else (boltingref09_colon.j1 k x0 x3 (bt x0 x3) false)) else (none)) else (some (-1))
def boltingref09_colon.j1 : Nat → ByteArray → Int → Int → Bool → Option (Int)
 | 0, _, _, _, _ => none
 | k + 1, x0, x3, x4, x19 => if x19 = true then (some x3) else ((boltingref02_Letter.f x4).bind fun t247 => (if t247 = true then (boltingref09_colon.l0 k x0 (wrap64 (x3 + 1))) else (if x3 = 0 then (some (-1)) else (if x4 ≥ 48 then (if x4 ≤ 57 then (boltingref09_colon.l0 k x0 (wrap64 (x3 + 1))) else (if x4 = 43 then (boltingref09_colon.l0 k x0 (wrap64 (x3 + 1))) else (if x4 = 45 then (boltingref09_colon.l0 k x0 (wrap64 (x3 + 1))) else (if x4 = 46 then (boltingref09_colon.l0 k x0 (wrap64 (x3 + 1))) else (some (-1)))))) else (if x4 = 43 then (boltingref09_colon.l0 k x0 (wrap64 (x3 + 1))) else (if x4 = 45 then (boltingref09_colon.l0 k x0 (wrap64 (x3 + 1))) else (if x4 = 46 then (boltingref09_colon.l0 k x0 (wrap64 (x3 + 1))) else (some (-1)))))))))
end
def boltingref09_colon.f (k : Nat) (a0 : ByteArray) : Option (Int) := boltingref09_colon.l0 k a0 0
def boltingref09_Scheme.f (k : Nat) (a0 : ByteArray) : Option (ByteArray × Bool) := (boltingref09_Strip.f k a0).bind fun t248 => ((boltingref09_colon.f k t248).bind fun t249 => (if t249 < 0 then (some ((⟨#[]⟩ : ByteArray), false)) else (if 0 ≤ t249 then (if t249 ≤ (t248.size : Int) then ((boltingref02_Lower.f (t248.extract 0 (t249 : Int).toNat)).bind fun t250 => (some (t250, true))) else (none)) else (none))))
def boltingref10_Handler.f (a0 : ByteArray) : Option (Bool) := if (a0.size : Int) > 2 then (if 0 < (a0.size : Int) then (if (bt a0 0) = 111 then (if 1 < (a0.size : Int) then (some ((bt a0 1) == 110)) else (none)) else (some false)) else (none)) else (some false)

def boltingref10_Unsafe.f  : Option (List ByteArray) := some (([(⟨#[98, 97, 115, 101]⟩ : ByteArray), (⟨#[101, 109, 98, 101, 100]⟩ : ByteArray), (⟨#[102, 114, 97, 109, 101]⟩ : ByteArray), (⟨#[105, 102, 114, 97, 109, 101]⟩ : ByteArray), (⟨#[108, 105, 110, 107]⟩ : ByteArray), (⟨#[109, 101, 116, 97]⟩ : ByteArray), (⟨#[111, 98, 106, 101, 99, 116]⟩ : ByteArray), (⟨#[115, 99, 114, 105, 112, 116]⟩ : ByteArray)] : List ByteArray))
mutual
def boltingref04_End.j0 : Nat → List (S38) → Int → Bool → Option (Int)
 | 0, _, _, _ => none
 | k + 1, x0, x1, x13 => if x13 = true then (some 0) else (boltingref04_End.l0 k x0 x1 (wrap64 (x1 + 1)))
def boltingref04_End.l0 : Nat → List (S38) → Int → Int → Option (Int)
 | 0, _, _, _ => none
 | k + 1, x0, x1, x5 => if x5 < (x0.length : Int) then (if 0 ≤ x5 then (if 0 ≤ x1 then (if x1 < (x0.length : Int) then (if ((rd_T38 x0 x5).f0) ≤ ((rd_T38 x0 x1).f0) then (some x5) else (boltingref04_End.l0 k x0 x1 (wrap64 (x5 + 1)))) else (none)) else (none)) else (none)) else (some (x0.length : Int))
end
def boltingref04_End.f (k : Nat) (l0 : List (S38)) (a1 : Int) : Option (Int) := if a1 < 0 then (boltingref04_End.j0 k l0 a1 true) else (boltingref04_End.j0 k l0 a1 (decide (a1 ≥ (l0.length : Int))))
set_option maxHeartbeats 8000000 in
set_option maxRecDepth 100000 in
theorem boltingref04_End.calls (k : Nat) (A0 : Option Addr) (c0 : Nat) (l0 : List (S38)) (a1 : Int) (r : Int) (w : World) (hr0 : Kd.C k38 w A0 l0.length l0) (hc0 : l0.length ≤ c0) (h : boltingref04_End.f k l0 a1 = some r) :
  Calls Tryz.prog 43 #[.slice A0 l0.length c0, .int .i64 a1] w fun e w' => e = .returned (.int .i64 r) ∧ Drawn0 w w' := by
 have HR0 := am hr0
 have HC0 := am hc0
 clear hr0 hc0
 have H : (if a1 < 0 then (boltingref04_End.j0 k l0 a1 true) else (boltingref04_End.j0 k l0 a1 (decide (a1 ≥ (l0.length : Int))))) = some r := h
 clear h
 have HC3 := am H
 clear H
 go_enter Tryz.func43, Tryz.ntmps43
 go_upto_region 1 with (fail)
 repeat (go_quiet (fail); go_upto_region 1 with (fail))
 go_cut [13] (fun v13 wc => ∃ (kq : Nat) (x13_2 : Bool), v13 = .bool x13_2 ∧ Aside0 (boltingref04_End.j0 kq l0 a1 x13_2 = some r) ∧ Aside0 (kq ≤ k) ∧ Drawn0 w wc)
 case first =>
  have H := HC3.out
  clear HC3
  by_cases c4 : a1 < 0
  ·rw [if_pos c4] at H
   have c4b0 : decide (a1 < 0) = true := decide_eq_true c4
   clear c4
   (first | rw [c4b0] | (simp only [i64_w, i32_w]; rw [c4b0]) | skip)
   have H' := am H
   clear H
   go_wp2
   repeat (go_quiet (fail); try go_wp2)
   go_meet
   case rel => exact ⟨_, (true), zr, H', ⟨by first | omega | exact Nat.le_refl _⟩, zw⟩
  ·rw [if_neg c4] at H
   have c4b0 : decide (a1 < 0) = false := decide_eq_false c4
   clear c4
   (first | rw [c4b0] | (simp only [i64_w, i32_w]; rw [c4b0]) | skip)
   have H' := am H
   clear H
   go_wp2
   repeat (go_quiet (fail); try go_wp2)
   go_meet
   case rel => exact ⟨_, (decide (a1 ≥ (l0.length : Int))), zr, H', ⟨by first | omega | exact Nat.le_refl _⟩, zw⟩
 case rest =>
  clear HC3
  try clear p2
  try clear c4
  try clear c4b0
  obtain ⟨kq, x13_2, rfl, HA, HJ2, ⟨mc2, rfl⟩⟩ := hcut
  cases kq with
  | zero => exact absurd HA.out (by simp [boltingref04_End.j0])
  | succ kj2 =>
   have H := HA.out
   clear HA
   simp only [boltingref04_End.j0] at H
   by_cases c5 : x13_2 = true
   ·subst c5
    replace H : (some 0) = some r := by rw [if_pos rfl] at H; exact H
    obtain rfl := Option.some.inj H
    go_wp2
    repeat (go_quiet (fail); try go_wp2)
    go_ret
    exact ⟨zt, zw⟩
   ·replace c5 := Bool.eq_false_iff.mpr c5
    subst c5
    replace H : (boltingref04_End.l0 kj2 l0 a1 (wrap64 (a1 + 1))) = some r := by rw [if_neg (show ¬ (false = true) by decide)] at H; exact H
    have H' := am H
    clear H
    go_wp2
    repeat (go_quiet (fail); try go_wp2)
    go_loopg [5] kj2 (fun kq v5 w' => ∃ (x5_2 : Int), v5 = .int .i64 x5_2 ∧ Aside0 (boltingref04_End.l0 kq l0 a1 x5_2 = some r) ∧ Aside0 (kq ≤ kj2) ∧ Drawn0 w w')
    case atStart => exact ⟨(wrap64 (a1 + 1)), zr, H', ⟨Nat.le_refl _⟩, zw⟩
    case round =>
     clear H'
     try clear c2
     try clear p2
     try clear c4
     try clear c4b0
     try clear c5
     try clear p2
     obtain ⟨x5_2, rfl, HA, HK2, ⟨m2, rfl⟩⟩ := hrel
     cases gk with
     | zero => exact absurd HA.out (by simp [boltingref04_End.l0])
     | succ k2 =>
      have H := HA.out
      clear HA
      simp only [boltingref04_End.l0] at H
      by_cases c6 : x5_2 < (l0.length : Int)
      ·rw [if_pos c6] at H
       have c6b0 : decide (x5_2 < (l0.length : Int)) = true := decide_eq_true c6
       clear c6
       by_cases c7 : 0 ≤ x5_2
       ·rw [if_pos c7] at H
        have c7b0 : decide (0 ≤ x5_2) = true := decide_eq_true c7
        clear c7
        by_cases c8 : 0 ≤ a1
        ·rw [if_pos c8] at H
         have c8b0 : decide (0 ≤ a1) = true := decide_eq_true c8
         clear c8
         by_cases c9 : a1 < (l0.length : Int)
         ·rw [if_pos c9] at H
          have c9b0 : decide (a1 < (l0.length : Int)) = true := decide_eq_true c9
          clear c9
          by_cases c10 : ((rd_T38 l0 x5_2).f0) ≤ ((rd_T38 l0 a1).f0)
          ·rw [if_pos c10] at H
           have c10b0 : decide (((rd_T38 l0 x5_2).f0) ≤ ((rd_T38 l0 a1).f0)) = true := decide_eq_true c10
           clear c10
           obtain rfl := Option.some.inj H
           have p188 : 0 ≤ (x5_2 : Int) := of_decide_eq_true za
           have q188 : x5_2 < (l0.length : Int) := of_decide_eq_true za
           obtain ⟨ad188, A188_4, c188_4, e188, hx188_0, hx188_1, hx188_2, hx188_3, hx188_4, hl188_4, hi188_4⟩ := at_T38 HR0.out x5_2 p188 q188
           cases e188
           have HR188_4 := am hi188_4
           have HC188_4 := am hl188_4
           clear hi188_4 hl188_4
           replace p188 := eq_true p188
           replace q188 := eq_true q188
           have p189 : 0 ≤ (a1 : Int) := of_decide_eq_true za
           have q189 : a1 < (l0.length : Int) := of_decide_eq_true za
           obtain ⟨ad189, A189_4, c189_4, e189, hx189_0, hx189_1, hx189_2, hx189_3, hx189_4, hl189_4, hi189_4⟩ := at_T38 HR0.out a1 p189 q189
           obtain rfl : ad188 = ad189 := (by injection e189)
           have HR189_4 := am hi189_4
           have HC189_4 := am hl189_4
           clear hi189_4 hl189_4
           replace p189 := eq_true p189
           replace q189 := eq_true q189
           go_wp2
           repeat (go_quiet (fail); try go_wp2)
           go_ret
           exact ⟨zt, zw⟩
          ·rw [if_neg c10] at H
           have c10b0 : decide (((rd_T38 l0 x5_2).f0) ≤ ((rd_T38 l0 a1).f0)) = false := decide_eq_false c10
           clear c10
           have H' := am H
           clear H
           have p188 : 0 ≤ (x5_2 : Int) := of_decide_eq_true za
           have q188 : x5_2 < (l0.length : Int) := of_decide_eq_true za
           obtain ⟨ad188, A188_4, c188_4, e188, hx188_0, hx188_1, hx188_2, hx188_3, hx188_4, hl188_4, hi188_4⟩ := at_T38 HR0.out x5_2 p188 q188
           cases e188
           have HR188_4 := am hi188_4
           have HC188_4 := am hl188_4
           clear hi188_4 hl188_4
           replace p188 := eq_true p188
           replace q188 := eq_true q188
           have p189 : 0 ≤ (a1 : Int) := of_decide_eq_true za
           have q189 : a1 < (l0.length : Int) := of_decide_eq_true za
           obtain ⟨ad189, A189_4, c189_4, e189, hx189_0, hx189_1, hx189_2, hx189_3, hx189_4, hl189_4, hi189_4⟩ := at_T38 HR0.out a1 p189 q189
           obtain rfl : ad188 = ad189 := (by injection e189)
           have HR189_4 := am hi189_4
           have HC189_4 := am hl189_4
           clear hi189_4 hl189_4
           replace p189 := eq_true p189
           replace q189 := eq_true q189
           go_wp2
           repeat (go_quiet (fail); try go_wp2)
           go_roundg k2
           case measure => have := HJ2.out; have := HK2.out; omega
           case rel => exact ⟨(wrap64 (x5_2 + 1)), zr, H', ⟨by have := HJ2.out; have := HK2.out; omega⟩, zw⟩
         ·rw [if_neg c9] at H
          exact absurd H (by simp)
        ·rw [if_neg c8] at H
         exact absurd H (by simp)
       ·rw [if_neg c7] at H
        exact absurd H (by simp)
      ·rw [if_neg c6] at H
       have c6b0 : decide (x5_2 < (l0.length : Int)) = false := decide_eq_false c6
       clear c6
       obtain rfl := Option.some.inj H
       go_wp2
       repeat (go_quiet (fail); try go_wp2)
       go_ret
       exact ⟨zt, zw⟩

end Go.Proofs.YticacakoefojbaaGreat.Pr
namespace Go.Proofs.YticacakoefojbaaGreat.Pure
open Go.RowKit Go.Lib Go.Shelf Go.Proofs.YticacakoefojbaaGreatW.PrintWords Go.Proofs.YticacakoefojbaaGreatW.PrintLast Go.Proofs.YticacakoefojbaaGreatW.PrintMore Go.Proofs.YticacakoefojbaaGreat.Pr

structure Cf where
 al : Bool
 aal : Bool
 els : List ByteArray
 rep : List ByteArray
 ats : List ByteArray
 per : List S60
 com : Bool
 dt : Bool
def Sl {α : Type} (d : Kd α) (w : World) (v : Value) (xs : List α) : Prop := ∃ A c, v = .slice A xs.length c ∧ xs.length ≤ c ∧ d.C w A xs.length xs
theorem Sl.below {α : Type} {d : Kd α} {w w' : World} {v : Value} {xs : List α} (h : Sl d w v xs) (hb : Below w.heap.size w w') : Sl d w' v xs := by
 obtain ⟨A, c, rfl, hl, hC⟩ := h
 exact ⟨A, c, rfl, hl, Kd.C_below hC hb⟩
def CfV (w : World) (v : Value) (c : Cf) : Prop := ∃ v2 v3 v4 v5, v = .agg #[.bool c.al, .bool c.aal, v2, v3, v4, v5, .bool c.com, .bool c.dt] ∧ Sl Kd.string w v2 c.els ∧ Sl Kd.string w v3 c.rep ∧ Sl Kd.string w v4 c.ats ∧ Sl k60 w v5 c.per
theorem CfV.below {w w' : World} {v : Value} {c : Cf} (h : CfV w v c) (hb : Below w.heap.size w w') : CfV w' v c := by
 obtain ⟨v2, v3, v4, v5, hv, h2, h3, h4, h5⟩ := h
 exact ⟨v2, v3, v4, v5, hv, h2.below hb, h3.below hb, h4.below hb, h5.below hb⟩
structure Fit (c : Cf) : Prop where
 els : c.els.length ≤ 1000
 rep : c.rep.length ≤ 1000
 ats : c.ats.length ≤ 1000
 per : c.per.length ≤ 1000
 sub : ∀ p ∈ c.per, p.f1.length ≤ 1000
theorem drawn_below {w w' : World} (h : Drawn0 w w') : Below w.heap.size w w' := by
 obtain ⟨n, rfl⟩ := h
 exact pw_below_drewN (Below.refl _ _) n

def elemI (c : Cf) (n : ByteArray) : Int := if mem c.rep n = true then 2 else if (mem c.els n != c.al) = true then 1 else 0
def dataB (a : ByteArray) : Bool := hasPrefix (dat a) [100, 97, 116, 97, 45] && decide (5 < a.size)
def perB (e a : ByteArray) (p : S60) : Bool := decide (p.f0 = e) && mem p.f1 a
def namedB (c : Cf) (e a : ByteArray) : Bool := mem c.ats a || c.per.any (perB e a)
def attrB (c : Cf) (e a : ByteArray) : Bool := if c.aal = true then (namedB c e a || (c.dt && dataB a)) else !namedB c e a
def finB (c : Cf) (a : ByteArray) (nm : Bool) : Bool := if c.aal = true then (nm || (c.dt && dataB a)) else !nm
theorem rd35_at {l : List S60} {i : Nat} {x : S60} (h : l[i]? = some x) : rd_T60 l (i : Int) = x := by
 unfold rd_T60
 rw [Int.toNat_natCast, List.getD_eq_getElem?_getD, h]
 rfl
def cfOf (x : Bool × Bool × List ByteArray × List ByteArray × List ByteArray × List S60 × Bool × Bool) : Cf := ⟨x.1, x.2.1, x.2.2.1, x.2.2.2.1, x.2.2.2.2.1, x.2.2.2.2.2.1, x.2.2.2.2.2.2.1, x.2.2.2.2.2.2.2⟩
def allC : Cf := ⟨false, false, [], [], [], [], true, false⟩

theorem contains_calls {v : Value} {l : List ByteArray} (hl : l.length ≤ 1000) (s : ByteArray) {w : World} (h : Sl Kd.string w v l) :
  Calls Tryz.prog 49 #[v, .string s] w fun e w' => e = .returned (.bool (mem l s)) ∧ Below w.heap.size w w' := by
 obtain ⟨A, c, rfl, hc, hC⟩ := h
 refine (slices_Contains_string_string.calls 2000 A c l s _ w hC hc (contains_f l s (by omega) (by omega))).mono ?_
 rintro e w' ⟨rfl, hd⟩
 exact ⟨rfl, drawn_below hd⟩
set_option maxHeartbeats 2000000 in
theorem attr1_calls (e a : ByteArray) (p : S60) (hp : p.f1.length ≤ 1000) {cs : List Value} {W : World} (hK : k60.K W p cs) (b1 b2 : Nat) (h1 : W.cell? ⟨b1, 0, none⟩ = some (.string e)) (h2 : W.cell? ⟨b2, 0, none⟩ = some (.string a)) :
  Calls Tryz.prog 81 (#[.agg cs.toArray] ++ #[.pointer (some ⟨b1, 0, none⟩), .pointer (some ⟨b2, 0, none⟩)]) W fun r w' => r = .returned (.bool (perB e a p)) ∧ Below W.heap.size W w' := by
 obtain ⟨A1, c1, rfl, hl, hC⟩ := k60_open hK
 show Calls Tryz.prog _ #[.agg #[.string p.f0, .slice A1 p.f1.length c1], .pointer (some ⟨b1, 0, none⟩), .pointer (some ⟨b2, 0, none⟩)] W _
 have hb : ∀ o, Below W.heap.size W (W.alloc o) := fun o => below_alloc (Below.refl _ _) o
 have g1 : ∀ o, (W.alloc o).cell? ⟨b1, 0, none⟩ = some (.string e) := fun o => ((hb o).cell (p := ⟨b1, 0, none⟩) (World.block_lt_of_cell? W _ h1)).trans h1
 have g2 : ∀ o, (W.alloc o).cell? ⟨b2, 0, none⟩ = some (.string a) := fun o => ((hb o).cell (p := ⟨b2, 0, none⟩) (World.block_lt_of_cell? W _ h2)).trans h2
 have HC : Hid (∀ o, Sl Kd.string (W.alloc o) (.slice A1 p.f1.length c1) p.f1) := fun o => Sl.below ⟨A1, c1, rfl, hl, hC⟩ (hb o)
 have HB := hid hb
 have HP := hid hp
 obtain ⟨m, hm⟩ : ∃ m, mem p.f1 a = m := ⟨_, rfl⟩
 have HM := hid hm
 unfold perB
 rw [hm]
 obtain ⟨f0, hf0⟩ : ∃ f0, p.f0 = f0 := ⟨_, rfl⟩
 rw [hf0]
 clear hb hC hl hK hp hm hf0
 by_cases he : f0 = e
 ·subst he
  go_enter Tryz.func81, Tryz.ntmps81
  go_wp2_with (go_at_call 49; refine (contains_calls HP.out a (HC.out _)).mono ?_; rintro r w' ⟨rfl, hb'⟩)
  go_ret
  exact ⟨by simp only [decide_true, Bool.true_and]; rw [← HM.out]; rfl, below_step (HB.out _) hb'⟩
 ·have he1 : ¬ f0.toList = e.toList := fun g => he (toList_inj g)
  go_enter Tryz.func81, Tryz.ntmps81
  go_wp2
  go_ret
  exact ⟨by rw [decide_eq_false he, Bool.false_and]; rfl, HB.out _⟩
theorem at_old {w w' : World} {p : Addr} {v : Value} (h : w.cell? p = some v) (hb : Below w.heap.size w w') : w'.cell? p = some v :=
 (hb.cell (p := p) (World.block_lt_of_cell? w p h)).trans h
theorem at_new (w : World) (cs : Array Value) (t : TypeId) (i : Nat) {v : Value} (h : cs[i]? = some v) : (w.alloc (.cells cs t (0, 0))).cell? ⟨w.heap.size, i, none⟩ = some v :=
 (blk_cell (blk_new w _) i).trans h
theorem bl_alloc (w : World) (o : Obj) : Below w.heap.size w (w.alloc o) := below_alloc (Below.refl _ _) o
theorem bl_two (w : World) (o o' : Obj) : Below w.heap.size w ((w.alloc o).alloc o') := below_step (bl_alloc w o) (bl_alloc _ o')
theorem bl_three (w : World) (o o' o'' : Obj) : Below w.heap.size w (((w.alloc o).alloc o').alloc o'') := below_step (bl_two w o o') (bl_alloc _ o'')
theorem pre_calls (a : ByteArray) (w : World) : Calls Tryz.prog 82 #[.string a, .string ⟨#[100, 97, 116, 97, 45]⟩] w fun r w' => r = .returned (.bool (hasPrefix (dat a) [100, 97, 116, 97, 45])) ∧ w' = w := Tryz.strings_HasPrefix a ⟨#[100, 97, 116, 97, 45]⟩ w
set_option maxHeartbeats 4000000 in
theorem attr_calls {v : Value} {c : Cf} (hf : Fit c) (e a : ByteArray) {w : World} (h : CfV w v c) :
  Calls Tryz.prog 46 #[v, .string e, .string a] w fun r w' => r = .returned (.bool (attrB c e a)) ∧ Below w.heap.size w w' := by
 obtain ⟨v2, v3, v4, v5, rfl, h2, h3, h4, h5⟩ := h
 obtain ⟨A4, c4, rfl, l4, h4⟩ := h4
 obtain ⟨A5, c5, rfl, l5, h5⟩ := h5
 obtain ⟨al, aal, els, rep, ats, per, com, dt⟩ := c
 simp only at h4 h5 l4 l5
 unfold attrB namedB
 simp only
 obtain ⟨m, hm⟩ : ∃ m, mem ats a = m := ⟨_, rfl⟩
 obtain ⟨q, hq⟩ : ∃ q, per.any (perB e a) = q := ⟨_, rfl⟩
 have HS : Hid (∀ o o' o'', Sl Kd.string (((w.alloc o).alloc o').alloc o'') (.slice A4 ats.length c4) ats) := fun o o' o'' => Sl.below ⟨A4, c4, rfl, l4, h4⟩ (bl_three w o o' o'')
 have HC : Hid (∀ W, Below w.heap.size w W → k60.C W A5 per.length per) := fun W hb => Kd.C_below h5 hb
 have HF1 := hid hf.ats
 have HF2 := hid hf.sub
 have HA : Hid (∀ (w1 : World), Below w.heap.size w w1 → w1.cell? ⟨w.heap.size + 1, 0, none⟩ = some (.string e) → w1.cell? ⟨w.heap.size + 1 + 1, 0, none⟩ = some (.string a) →
   Calls Tryz.prog 80 #[.slice A5 per.length c5, .func (.func 81) #[] #[.pointer (some ⟨w.heap.size + 1, 0, none⟩), .pointer (some ⟨w.heap.size + 1 + 1, 0, none⟩)]] w1 fun r w' => r = .returned (.bool q) ∧ Below w1.heap.size w1 w') := fun w1 hb g1 g2 => by
  rw [← hq]
  refine hasPer_calls (c := c5) (perB e a) 81 _ (fun args w => enters_ Tryz.func81 (by kernel_rfl) rfl args w) w1 (HC.out w1 hb) ?_
  intro W x cs hx hBW hK
  refine (attr1_calls e a x (hf.sub x hx) (k60.K_below hBW hK) _ _ (at_old g1 hBW) (at_old g2 hBW)).mono ?_
  rintro r w' ⟨rfl, hb'⟩
  exact ⟨rfl, below_step hBW hb'⟩
 have HB := hid (bl_three w)
 have HM := hid hm
 rw [hm, hq]
 have HO : Hid (∀ o1 o2 w1, Below (((w.alloc (.cells #[.bool al, .bool aal, v2, v3, .slice A4 ats.length c4, .slice A5 per.length c5, .bool com, .bool dt] 32)).alloc o1).alloc o2).heap.size (((w.alloc (.cells #[.bool al, .bool aal, v2, v3, .slice A4 ats.length c4, .slice A5 per.length c5, .bool com, .bool dt] 32)).alloc o1).alloc o2) w1 →
   w1.cell? ⟨w.heap.size, 1, none⟩ = some (.bool aal) ∧ w1.cell? ⟨w.heap.size, 5, none⟩ = some (.slice A5 per.length c5) ∧ w1.cell? ⟨w.heap.size, 7, none⟩ = some (.bool dt)) := fun o1 o2 w1 hb =>
  ⟨at_old (at_old (at_new w _ 32 1 rfl) (bl_two _ o1 o2)) hb, at_old (at_old (at_new w _ 32 5 rfl) (bl_two _ o1 o2)) hb, at_old (at_old (at_new w _ 32 7 rfl) (bl_two _ o1 o2)) hb⟩
 have HE : Hid (∀ o w1, Below (((w.alloc o).alloc (.cells #[.string e] 9)).alloc (.cells #[.string a] 9)).heap.size (((w.alloc o).alloc (.cells #[.string e] 9)).alloc (.cells #[.string a] 9)) w1 →
   w1.cell? ⟨w.heap.size + 1, 0, none⟩ = some (.string e) ∧ w1.cell? ⟨w.heap.size + 1 + 1, 0, none⟩ = some (.string a)) := fun o w1 hb => by
  have s1 : (w.alloc o).heap.size = w.heap.size + 1 := World.size_alloc ..
  have s2 : ((w.alloc o).alloc (.cells #[.string e] 9)).heap.size = w.heap.size + 1 + 1 := by rw [World.size_alloc, s1]
  have g1 := at_new (w.alloc o) #[.string e] 9 0 (v := .string e) rfl
  have g2 := at_new ((w.alloc o).alloc (.cells #[.string e] 9)) #[.string a] 9 0 (v := .string a) rfl
  rw [s1] at g1
  rw [s2] at g2
  exact ⟨at_old (at_old g1 (bl_alloc _ _)) hb, at_old g2 hb⟩
 have HP := hid (pre_calls a)
 obtain ⟨pr, hpr⟩ : ∃ pr, hasPrefix (dat a) [100, 97, 116, 97, 45] = pr := ⟨_, rfl⟩
 unfold dataB
 rw [hpr] at HP ⊢
 clear h2 h3 h4 h5 hf hq hm hpr l4 l5
 cases m <;> cases aal <;> cases dt <;> cases pr <;> cases q
 all_goals
  go_enter Tryz.func46, Tryz.ntmps46
  go_wp2_with first
   | (go_at_call 49; refine (contains_calls HF1.out a (HS.out _ _ _)).mono ?_; rw [HM.out]; rintro r w1 ⟨rfl, hb1⟩; obtain ⟨k1, k5, k7⟩ := HO.out _ _ _ hb1; obtain ⟨k8, k9⟩ := HE.out _ _ hb1; have HB1 := hid (below_step (HB.out _ _ _) hb1); clear hb1)
   | (go_at_call 80; refine (HA.out _ HB1.out k8 k9).mono ?_; rintro r w2 ⟨rfl, hb2⟩; have j1 := at_old k1 hb2; have j7 := at_old k7 hb2; have j8 := at_old k8 hb2; have j9 := at_old k9 hb2; have HB2 := hid (below_step HB1.out hb2); clear hb2 HB1)
   | (go_at_call 82; refine (HP.out _).mono ?_; rintro r w3 ⟨rfl, rfl⟩)
  go_ret
  exact ⟨by first | rfl | (simp; done) | (simp; omega), by first | exact HB2.out | exact HB1.out⟩
end Go.Proofs.YticacakoefojbaaGreat.Pure
