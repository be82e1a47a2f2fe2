/- Texts under the row of RunTemplates (part 2).. -/
import Derived.Test.YtakhldahohooiaaJRunTemplates0
import Derived.Deep.Slices
import Derived.ChangeArms
import Derived.ChangeSame
import Derived.Test.YtakhldahohooiaaRows
import Derived.Shelf.Strings.Builder1
import Derived.Shelf.Strings.BuilderF
import Derived.Shelf.Strings.BuilderK
import Derived.Shelf.Strings.Search1
import Derived.Shelf.Strings.Search2
import Derived.Shelf.Strings.Cut
import Derived.Shelf.LaysM
import Derived.Shelf.Strings.Shaped
import Derived.Shelf.GgClosure.StringsIndexFunc
import Derived.Ground.GgwProg
import Derived.Shelf.GgClosure.StringsIndexFuncTop
import Derived.Shelf.GgClosure.StringsRunes
import Derived.Shelf.Strings.Prefix
import Derived.Test.YtakhldahohooiaaProg
import Derived.Lib.IndexMore
import Derived.WalkKit
import Derived.BigCall
import Derived.Deep.DeepCutAuto
import Derived.Deep.CutBlock
import Derived.Shelf.GgClosure.Gives
import Derived.Lib.CutLaws
import Derived.Lib.IndexLaws
import Derived.RegionTactic
import Derived.Lib.ConvBytes
import Derived.Laws.BytesArg
import Derived.Deep.QuietTactic
import Derived.BigQuiet
import Derived.IntWalk
import Derived.Lib.TrimU
import Derived.Test.YtakhldahohooiaaJRunTemplates1
import Derived.Maps.Keyed
import Derived.WalkMore
import Derived.Below
import Derived.Deep.Draws
import Derived.Deep.AppendLies
import Derived.Maps.AppendAt
import Derived.OwnWalk
import Derived.Laws.MakeOwn
import Derived.Laws.OwnMore
import Derived.Deep.OwnRows
import Derived.Tactics
import Derived.Laws.Slices
import Derived.KernelRfl
import Derived.RowKit3
import Derived.Deep.LoopGhost
import Derived.WideLaws
import Derived.Deep.RegionHeld3
import Derived.Laws.Rows
import Derived.Lib.AppendStr
import Derived.ArgAppend
import Derived.Laws.IdiomCopy
import Derived.OrdersHeld
import Derived.Laws.BitsLemmas
import Derived.RowKit
/- Values that came in, read as the printed functions read them, whatever their type is made of. -/
namespace Go.Proofs.Ytakhldahohooiaa
set_option linter.unusedVariables false
open Go.RowKit Go.ChangeShapes Go.WideShapes Go.Deep Go.Proofs.YtakhldahohooiaaW.PrintWords

/-- What is read as data at type t is, cell by cell, of kind d. -/
def Opens {α : Type} (P : Program) (t : TypeId) (d : Kd α) : Prop :=
  P.cellsOf t = d.sz ∧ ∀ {H : Type} (enc : TypeId × Value → H) (w : World) (base : Nat) (spare : Nat → Bool) (held : Bool) (fuel : Nat) (cs : List Value) (x : DataW H × List MemPlace),
    DataW.trod enc P w base spare held fuel t cs = some x → ∃ a, d.K w a cs
theorem list_of {α : Type} {p : Nat → α → Prop} : ∀ (n : Nat), (∀ i, i < n → ∃ a, p i a) → ∃ l : List α, l.length = n ∧ ∀ (i : Nat) (a : α), l[i]? = some a → p i a
  | 0, _ => ⟨[], rfl, fun i a h => by simp at h⟩
  | n + 1, h => by
    obtain ⟨l, hl, hp⟩ := list_of n (fun i hi => h i (by omega))
    obtain ⟨a, ha⟩ := h n (by omega)
    refine ⟨l ++ [a], by simp [hl], fun i b hb => ?_⟩
    rcases Nat.lt_or_ge i l.length with hi | hi
    · rw [List.getElem?_append_left hi] at hb
      exact hp i b hb
    · rw [List.getElem?_append_right hi] at hb
      have : i - l.length = 0 := by
        have := (List.getElem?_eq_some_iff.1 hb).1
        simp at this; omega
      rw [this] at hb
      simp at hb; subst hb
      rw [show i = n by omega]; exact ha
/-- A slice that came in: a row that is read. -/
theorem opens_row {α : Type} {P : Program} {t e : TypeId} {d : Kd α} (ht : P.underlying t = some (.slice e)) (hd : Opens P e d) {H : Type} {enc : TypeId × Value → H} {w : World} {base : Nat} {spare : Nat → Bool} {held : Bool} {fuel : Nat} {cs : List Value} {x : DataW H × List MemPlace}
    (h : DataW.trod enc P w base spare held fuel t cs = some x) : ∃ A c xs, cs = [.slice A xs.length c] ∧ xs.length ≤ c ∧ c ≤ maxLen ∧ d.C w A xs.length xs := by
  rcases open_slice ht h with ⟨rfl, _⟩ | ⟨a, len, cap, m, n, D, Pl, rfl, hb, hl, hm, hmm, _, hi⟩
  · exact ⟨none, 0, [], rfl, Nat.le_refl _, Nat.zero_le _, rfl, by simp, fun h => absurd h (Nat.lt_irrefl _)⟩
  · have hlm : len ≤ m := by rw [hmm]; split <;> omega
    obtain ⟨xs, hxl, hx⟩ := list_of (p := fun i (y : α) => ∃ c, c.length = d.sz ∧ d.K w y c ∧ ∀ q u, c[q]? = some u → w.cell? (a.add (i * d.sz + q)) = some u) len (fun i hil => by
      obtain ⟨cs', hc, ht'⟩ := hi i (by omega)
      obtain ⟨y, hy⟩ := hd.2 enc w base spare held n cs' _ ht'
      obtain ⟨_, hcl, hat⟩ := World.cells?_some hc
      refine ⟨y, cs', by rw [hcl, hd.1], hy, fun q u hu => ?_⟩
      have hq : q < cs'.length := (List.getElem?_eq_some_iff.1 hu).1
      have := hat q (by omega)
      rw [hd.1, Deep.add_add] at this
      rw [this, hu])
    have h64 : maxLen ≤ 9223372036854775807 := by decide
    exact ⟨some a, cap, xs, by rw [hxl], by omega, hm, by rw [hxl]; exact ⟨hxl, by omega, fun _ => ⟨a, rfl, fun j p hj => hx j p hj⟩⟩⟩
end Go.Proofs.Ytakhldahohooiaa
/- Values that came in, read as the printed functions read them, with what they weigh in the bulk of the second form ('..UptoSaid'). -/
namespace Go.Proofs.Ytakhldahohooiaa
set_option linter.unusedVariables false
open Go.RowKit Go.ChangeShapes Go.WideShapes Go.Deep Go.Proofs.YtakhldahohooiaaW.PrintWords

/-- What is read as data at type t is, cell by cell, of kind d, meets S, and weighs B at least. -/
def OpensU {α : Type} (P : Program) (t : TypeId) (d : Kd α) (S : α → Prop) (B : α → Nat) : Prop :=
  P.cellsOf t = d.sz ∧ ∀ {H : Type} (enc : TypeId × Value → H) (w : World) (base : Nat) (spare : Nat → Bool) (held : Bool) (fuel : Nat) (cs : List Value) (x : DataW H × List MemPlace),
    DataW.trod enc P w base spare held fuel t cs = some x → ∃ a, d.K w a cs ∧ S a ∧ B a ≤ Rows.uptoBulk x.1
def wS (s : ByteArray) : Nat := s.size + 1
def wN {α : Type} (_ : α) : Nat := 1
def wL {α : Type} (B : α → Nat) (l : List α) : Nat := (l.map B).sum + 1
def yes {α : Type} (_ : α) : Prop := True
theorem opensU_string {P : Program} {t : TypeId} (hC : P.cellsOf t = 1) (ht : P.underlying t = some .string) : OpensU P t Kd.string yes wS := by
  refine ⟨hC, fun enc w base spare held fuel cs x h => ?_⟩
  obtain ⟨s, rfl, rfl, _⟩ := DataW.trod_string ht h
  refine ⟨s, rfl, trivial, ?_⟩
  simp only [Rows.uptoBulk, wS]
  rw [Array.length_toList]
  exact Nat.le_refl _
theorem opensU_int {P : Program} {t : TypeId} {k : IntKind} (hC : P.cellsOf t = 1) (ht : P.underlying t = some (.int k)) : OpensU P t (Kd.int k) (fun n => (Lit.int k n).wf = true) wN := by
  refine ⟨hC, fun enc w base spare held fuel cs x h => ?_⟩
  obtain ⟨s, rfl, rfl, hwf⟩ := DataW.trod_int ht h
  exact ⟨s, rfl, hwf, Nat.le_refl _⟩
theorem bulk_sum {α : Type} {H : Type} (B : α → Nat) : ∀ (xs : List α) (D : Nat → DataW H), (∀ (j : Nat) (y : α), xs[j]? = some y → B y ≤ Rows.uptoBulk (D j)) → (xs.map B).sum ≤ Rows.uptoBulkAll ((List.range xs.length).map D)
  | [], _, _ => Nat.zero_le _
  | x :: xs, D, h => by
    have h0 := h 0 x rfl
    have ih := bulk_sum B xs (fun j => D (j + 1)) (fun j y hy => h (j + 1) y (by simpa using hy))
    rw [List.length_cons, List.range_succ_eq_map, List.map_cons, List.map_cons, List.map_map, List.sum_cons]
    simp only [Rows.uptoBulkAll]
    have e : (List.map (D ∘ Nat.succ) (List.range xs.length)) = (List.range xs.length).map (fun j => D (j + 1)) := rfl
    rw [e]
    omega
/-- A slice that came in: a row that is read. -/
theorem opensU_row {α : Type} {P : Program} {t e : TypeId} {d : Kd α} {S : α → Prop} {B : α → Nat} (ht : P.underlying t = some (.slice e)) (hd : OpensU P e d S B) {H : Type} {enc : TypeId × Value → H} {w : World} {base : Nat} {spare : Nat → Bool} {held : Bool} {fuel : Nat} {cs : List Value} {x : DataW H × List MemPlace}
    (h : DataW.trod enc P w base spare held fuel t cs = some x) : ∃ A c xs, cs = [.slice A xs.length c] ∧ xs.length ≤ c ∧ c ≤ maxLen ∧ d.C w A xs.length xs ∧ (∀ a ∈ xs, S a) ∧ wL B xs ≤ Rows.uptoBulk x.1 := by
  rcases open_slice ht h with ⟨rfl, rfl⟩ | ⟨a, len, cap, m, n, D, Pl, rfl, hb, hl, hm, hmm, rfl, hi⟩
  · exact ⟨none, 0, [], rfl, Nat.le_refl _, Nat.zero_le _, ⟨rfl, by simp, fun h => absurd h (Nat.lt_irrefl _)⟩, fun a h => by simp at h, Nat.le_refl _⟩
  · have hlm : len ≤ m := by rw [hmm]; split <;> omega
    obtain ⟨xs, hxl, hx⟩ := list_of (p := fun i (y : α) => ((∃ c, c.length = d.sz ∧ d.K w y c ∧ ∀ q u, c[q]? = some u → w.cell? (a.add (i * d.sz + q)) = some u) ∧ S y) ∧ B y ≤ Rows.uptoBulk (D i)) len (fun i hil => by
      obtain ⟨cs', hc, ht'⟩ := hi i (by omega)
      obtain ⟨y, hy, hS, hB⟩ := hd.2 enc w base spare held n cs' _ ht'
      obtain ⟨_, hcl, hat⟩ := World.cells?_some hc
      refine ⟨y, ⟨⟨cs', by rw [hcl, hd.1], hy, fun q u hu => ?_⟩, hS⟩, hB⟩
      have hq : q < cs'.length := (List.getElem?_eq_some_iff.1 hu).1
      have := hat q (by omega)
      rw [hd.1, Deep.add_add] at this
      rw [this, hu])
    have h64 : maxLen ≤ 9223372036854775807 := by decide
    refine ⟨some a, cap, xs, by rw [hxl], by omega, hm, by rw [hxl]; exact ⟨hxl, by omega, fun _ => ⟨a, rfl, fun j p hj => (hx j p hj).1.1⟩⟩, fun y hy => ?_, ?_⟩
    · obtain ⟨j, hj⟩ := List.mem_iff_getElem?.1 hy
      exact (hx j y hj).1.2
    · have := bulk_sum B xs D (fun j y hj => (hx j y hj).2)
      rw [hxl] at this
      simp only [Rows.uptoBulk, wL]
      omega
theorem opensU_slice {α : Type} {P : Program} {t e : TypeId} {d : Kd α} {S : α → Prop} {B : α → Nat} (hC : P.cellsOf t = 1) (ht : P.underlying t = some (.slice e)) (hd : OpensU P e d S B) : OpensU P t (Kd.slice e d) (fun xs => ∀ a ∈ xs, S a) (wL B) := by
  refine ⟨hC, fun enc w base spare held fuel cs x h => ?_⟩
  obtain ⟨A, c, xs, rfl, h1, _, h2, h3, h4⟩ := opensU_row ht hd h
  exact ⟨xs, ⟨A, c, rfl, h1, h2⟩, h3, h4⟩

/-! ### structs: the fields from one on -/
def OpensTailU {α : Type} (P : Program) (fs : List Field) (off : Nat) (d : Kd α) (S : α → Prop) (B : α → Nat) : Prop :=
  ∀ {H : Type} (enc : TypeId × Value → H) (w : World) (base : Nat) (spare : Nat → Bool) (held : Bool) (n : Nat) (cs : List Value) (xs : List (DataW H × List MemPlace)),
    xs.length = fs.length → cs.length = off + d.sz → (∀ (i : Nat) (f : Field), fs[i]? = some f → DataW.trod enc P w base spare held n f.type ((cs.drop f.offset).take (P.cellsOf f.type)) = xs[i]?) →
    ∃ a, d.K w a (cs.drop off) ∧ S a ∧ B a ≤ Rows.uptoBulkAll (xs.map (·.1))
theorem opensTailU_last {α : Type} {P : Program} {f : Field} {off : Nat} {d : Kd α} {S : α → Prop} {B : α → Nat} (ho : f.offset = off) (hd : OpensU P f.type d S B) : OpensTailU P [f] off d S B := by
  intro H enc w base spare held n cs xs hx hl h
  obtain ⟨x, rfl⟩ : ∃ x, xs = [x] := by
    match xs, hx with
    | [x], _ => exact ⟨x, rfl⟩
  have h0 := h 0 f rfl
  rw [ho, hd.1, List.take_of_length_le (by rw [List.length_drop]; omega)] at h0
  obtain ⟨a, h1, h2, h3⟩ := hd.2 enc w base spare held n _ x h0
  exact ⟨a, h1, h2, by simp only [List.map_cons, List.map_nil, Rows.uptoBulkAll]; omega⟩
theorem opensTailU_cons {α β : Type} {P : Program} {f : Field} {fs : List Field} {off : Nat} {d : Kd α} {e : Kd β} {S : α → Prop} {T : β → Prop} {B : α → Nat} {C : β → Nat} (ho : f.offset = off) (hd : OpensU P f.type d S B) (he : OpensTailU P fs (off + d.sz) e T C) :
    OpensTailU P (f :: fs) off (Kd.pair d e) (fun x => S x.1 ∧ T x.2) (fun x => B x.1 + C x.2) := by
  intro H enc w base spare held n cs xs hx hl h
  obtain ⟨x, xs, rfl⟩ : ∃ x r, xs = x :: r := by
    match xs, hx with
    | x :: r, _ => exact ⟨x, r, rfl⟩
  have hsz : (Kd.pair d e).sz = d.sz + e.sz := rfl
  rw [hsz] at hl
  have h0 := h 0 f rfl
  rw [ho, hd.1] at h0
  obtain ⟨a, ha, hS, hB⟩ := hd.2 enc w base spare held n _ x h0
  obtain ⟨b, hb, hT, hC⟩ := he enc w base spare held n cs xs (by simpa using hx) (by omega) (fun i g hg => h (i + 1) g (by simpa using hg))
  refine ⟨(a, b), ⟨(cs.drop off).take d.sz, cs.drop (off + d.sz), ?_, ha, hb⟩, ⟨hS, hT⟩, ?_⟩
  · rw [← List.drop_drop, List.take_append_drop]
  · simp only [List.map_cons, Rows.uptoBulkAll]; omega
theorem opensU_struct {α β : Type} {P : Program} {t : TypeId} {fs : Array Field} {l : List Field} {d : Kd α} {S : α → Prop} {B : α → Nat} (f : β → α) (ht : P.underlying t = some (.struct fs)) (hl : fs.toList = l) (hC : P.cellsOf t = d.sz) (hT : OpensTailU P l 0 d S B) (hf : ∀ a, ∃ x, f x = a) :
    OpensU P t (Kd.iso d f) (fun x => S (f x)) (fun x => B (f x) + 1) := by
  subst hl
  refine ⟨hC, fun enc w base spare held fuel cs x h => ?_⟩
  obtain ⟨ys, n, _, rfl, hlen, hyl, hfl⟩ := DataW.trod_struct ht h
  obtain ⟨a, ha, hS, hB⟩ := hT enc w base spare held n cs ys (by rw [hyl]; simp) (by rw [hlen, hC]; omega) (fun i g hg => hfl i g (by rw [← hg]; simp))
  obtain ⟨y, rfl⟩ := hf a
  exact ⟨y, by rw [List.drop_zero] at ha; exact ha, hS, by simp only [Rows.uptoBulk]; omega⟩
/-- A parameter of any such type, by itself. -/
theorem opensU_val {α : Type} {P : Program} {t : TypeId} {d : Kd α} {S : α → Prop} {B : α → Nat} (hd : OpensU P t d S B) {H : Type} {enc : TypeId × Value → H} {w : World} {base : Nat} {spare : Nat → Bool} {held : Bool} {v : Value} {x : DataW H} {p : List MemPlace}
    (h : DataW.Trod enc P w base spare held t v x p) : ∃ a, d.K w a v.cells.toList ∧ S a ∧ B a ≤ Rows.uptoBulk x := by
  obtain ⟨fuel, hf⟩ := h
  exact hd.2 enc w base spare held fuel _ (x, p) hf
end Go.Proofs.Ytakhldahohooiaa
/- The shelf's contracts at this seat, in plain words: written by the kit's lay-shelf and lay-plain, and by wip/tools/shelf.py. -/
namespace Go.Proofs
open Go.Shelf
def Try.lays169_ren : Go.Shelf.Ren := ⟨fun | 169 => 38 | n => n, fun | 70 => 51 | 9 => 9 | 0 => 0 | 72 => 54 | 37 => 52 | 127 => 68 | 3 => 3 | 5 => 5 | n => n, fun | n => n⟩
theorem Try.lays169 : Go.Proofs.Lays.n169 Try.prog Try.lays169_ren := {
  mixed := by kernel_rfl
  f169 := Try.func38.trans (congrArg some (by kernel_rfl))
  t0 := Try.underlying0
  a0 := Try.isAgg0
  z0 := Try.sizeOf0
  v0 := Try.zeroValue0
  t3 := Try.underlying3
  a3 := Try.isAgg3
  z3 := Try.sizeOf3
  v3 := Try.zeroValue3
  t9 := Try.underlying9
  a9 := Try.isAgg9
  z9 := Try.sizeOf9
  v9 := Try.zeroValue9
  t37 := Try.underlying52
  a37 := Try.isAgg52
  z37 := Try.sizeOf52
  v37 := Try.zeroValue52
  t70 := Try.underlying51
  a70 := Try.isAgg51
  z70 := Try.sizeOf51
  v70 := Try.zeroValue51
  t72 := Try.underlying54
  a72 := Try.isAgg54
  z72 := Try.sizeOf54
  v72 := Try.zeroValue54
  t127 := Try.underlying68
  a127 := Try.isAgg68
  z127 := Try.sizeOf68
  v127 := Try.zeroValue68 }
theorem Try.Builder_Extra_169 : Builder.Extra Try.prog Try.lays169_ren := {
  sizeBuilder := by kernel_rfl
  liesBuilder := by kernel_rfl
  t5 := Try.underlying5
  a5 := Try.isAgg5
  z5 := Try.sizeOf5
  v5 := Try.zeroValue5
  infoByte := by kernel_rfl
  cellsByte := by kernel_rfl
  sizeByte := by kernel_rfl
  neB5 := by decide }
open Go.RowKit in
theorem Try.Builder_String_any (B b : Nat) (l : List UInt8) (w : World) (h : Lib.IsBuilder 54 5 B b (Lib.byteCells l) w) (hBw : B ≤ w.heap.size) :
    Calls Try.prog 38 #[.pointer (some ⟨b, 0, none⟩)] w fun e w' => e = .returned (.string ⟨l.toArray⟩) ∧ Below B w w' := Any.Builder_String_any Try.lays169 Try.Builder_Extra_169 B b l w h hBw
def Try.lays217_ren : Go.Shelf.Ren := ⟨fun | 217 => 75 | 266 => 79 | n => n, fun | 9 => 9 | 5 => 5 | 3 => 3 | n => n, fun | n => n⟩
def Try.lays224_ren : Go.Shelf.Ren := ⟨fun | 224 => 77 | n => n, fun | 3 => 3 | n => n, fun | n => n⟩
def Try.lays314_ren : Go.Shelf.Ren := ⟨fun | 314 => 80 | n => n, fun | 9 => 9 | 51 => 88 | 3 => 3 | 4 => 4 | 5 => 5 | 46 => 78 | n => n, fun | n => n⟩
def Try.lays267_ren : Go.Shelf.Ren := ⟨fun | 267 => 78 | 314 => 80 | n => n, fun | 9 => 9 | 3 => 3 | 146 => 89 | 51 => 88 | 4 => 4 | 5 => 5 | 46 => 78 | n => n, fun | n => n⟩
def Try.lays219_ren : Go.Shelf.Ren := ⟨fun | 219 => 73 | 217 => 75 | 225 => 76 | 224 => 77 | 267 => 78 | 266 => 79 | 314 => 80 | n => n, fun | 9 => 9 | 3 => 3 | 4 => 4 | 5 => 5 | 46 => 78 | 146 => 89 | 51 => 88 | n => n, fun | 1 => 0 | n => n⟩
theorem Try.lays219 : Go.Proofs.Lays.n219 Try.prog Try.lays219_ren := {
  mixed := by kernel_rfl
  f217 := Try.func75.trans (congrArg some (by kernel_rfl))
  f219 := Try.func73.trans (congrArg some (by kernel_rfl))
  f224 := Try.func77.trans (congrArg some (by kernel_rfl))
  f225 := Try.func76.trans (congrArg some (by kernel_rfl))
  f266 := Try.func79.trans (congrArg some (by kernel_rfl))
  f267 := Try.func78.trans (congrArg some (by kernel_rfl))
  f314 := Try.func80.trans (congrArg some (by kernel_rfl))
  t3 := Try.underlying3
  a3 := Try.isAgg3
  z3 := Try.sizeOf3
  v3 := Try.zeroValue3
  t4 := Try.underlying4
  a4 := Try.isAgg4
  z4 := Try.sizeOf4
  v4 := Try.zeroValue4
  t5 := Try.underlying5
  a5 := Try.isAgg5
  z5 := Try.sizeOf5
  v5 := Try.zeroValue5
  t9 := Try.underlying9
  a9 := Try.isAgg9
  z9 := Try.sizeOf9
  v9 := Try.zeroValue9
  t46 := Try.underlying78
  a46 := Try.isAgg78
  z46 := Try.sizeOf78
  v46 := Try.zeroValue78
  t51 := Try.underlying88
  a51 := Try.isAgg88
  z51 := Try.sizeOf88
  v51 := Try.zeroValue88
  t146 := Try.underlying89
  a146 := Try.isAgg89
  z146 := Try.sizeOf89
  v146 := Try.zeroValue89
  g1 := by kernel_rfl }
open Go.RowKit Go.Lib in
theorem Try.stringslite_Index_one (s : ByteArray) (c : UInt8) (w : World) :
    Calls Try.prog 73 #[.string s, .string ⟨#[c]⟩] w fun e w' => e = .returned (.int .i64 (Lib.indexByte s.data.toList c)) ∧ w' = w := Any.stringslite_Index_one Try.lays219 s c w
def Try.lays220_ren : Go.Shelf.Ren := ⟨fun | 220 => 62 | 219 => 73 | 217 => 75 | 225 => 76 | 224 => 77 | 267 => 78 | 266 => 79 | 314 => 80 | n => n, fun | 9 => 9 | 4 => 4 | 3 => 3 | 5 => 5 | 46 => 78 | 146 => 89 | 51 => 88 | n => n, fun | 1 => 0 | n => n⟩
def Try.lays145_ren : Go.Shelf.Ren := ⟨fun | 145 => 46 | 220 => 62 | 219 => 73 | 217 => 75 | 225 => 76 | 224 => 77 | 267 => 78 | 266 => 79 | 314 => 80 | n => n, fun | 9 => 9 | 4 => 4 | 59 => 64 | 3 => 3 | 5 => 5 | 46 => 78 | 146 => 89 | 51 => 88 | n => n, fun | 1 => 0 | n => n⟩
def Try.laysM219_ren : Go.Shelf.Ren := ⟨fun | 219 => 73 | 217 => 75 | 225 => 76 | 224 => 77 | 267 => 78 | 266 => 79 | 314 => 80 | n => n, fun | 9 => 9 | 3 => 3 | 4 => 4 | 5 => 5 | 46 => 78 | 146 => 89 | 51 => 88 | n => n, fun | 1 => 0 | n => n⟩
def Try.laysM220_ren : Go.Shelf.Ren := ⟨fun | 220 => 62 | 219 => 73 | 217 => 75 | 225 => 76 | 224 => 77 | 267 => 78 | 266 => 79 | 314 => 80 | n => n, fun | 9 => 9 | 4 => 4 | 3 => 3 | 5 => 5 | 46 => 78 | 146 => 89 | 51 => 88 | n => n, fun | 1 => 0 | n => n⟩
def Try.laysM145_ren : Go.Shelf.Ren := ⟨fun | 145 => 46 | 220 => 62 | 219 => 73 | 217 => 75 | 225 => 76 | 224 => 77 | 267 => 78 | 266 => 79 | 314 => 80 | n => n, fun | 9 => 9 | 4 => 4 | 59 => 64 | 3 => 3 | 5 => 5 | 46 => 78 | 146 => 89 | 51 => 88 | n => n, fun | 1 => 0 | n => n⟩
def Try.lays315_ren : Go.Shelf.Ren := ⟨fun | 315 => 74 | n => n, fun | 9 => 9 | 40 => 74 | 4 => 4 | 3 => 3 | 0 => 0 | 21 => 21 | n => n, fun | n => n⟩
def Try.laysGw15_ren : Go.Shelf.Ren := ⟨fun | 15 => 72 | 20 => 74 | n => n, fun | 9 => 9 | 23 => 74 | 3 => 3 | 4 => 4 | 0 => 0 | 21 => 21 | n => n, fun | n => n⟩
def Try.laysGw17_ren : Go.Shelf.Ren := ⟨fun | 17 => 60 | 15 => 72 | 20 => 74 | n => n, fun | 9 => 9 | 23 => 74 | 4 => 4 | 3 => 3 | 0 => 0 | 21 => 21 | n => n, fun | n => n⟩
theorem Try.laysGw17 : Go.Proofs.LaysGw.n17 Try.prog Try.laysGw17_ren := {
  mixed := by kernel_rfl
  f15 := Try.func72.trans (congrArg some (by kernel_rfl))
  f17 := Try.func60.trans (congrArg some (by kernel_rfl))
  f20 := Try.func74.trans (congrArg some (by kernel_rfl))
  t0 := Try.underlying0
  a0 := Try.isAgg0
  z0 := Try.sizeOf0
  v0 := Try.zeroValue0
  i0 := by kernel_rfl
  t3 := Try.underlying3
  a3 := Try.isAgg3
  z3 := Try.sizeOf3
  v3 := Try.zeroValue3
  i3 := by kernel_rfl
  t4 := Try.underlying4
  a4 := Try.isAgg4
  z4 := Try.sizeOf4
  v4 := Try.zeroValue4
  i4 := by kernel_rfl
  t9 := Try.underlying9
  a9 := Try.isAgg9
  z9 := Try.sizeOf9
  v9 := Try.zeroValue9
  i9 := by kernel_rfl
  t21 := Try.underlying21
  a21 := Try.isAgg21
  z21 := Try.sizeOf21
  v21 := Try.zeroValue21
  i21 := by kernel_rfl
  t23 := Try.underlying74
  a23 := Try.isAgg74
  z23 := Try.sizeOf74
  v23 := Try.zeroValue74
  i23 := by kernel_rfl }
open Go.RowKit Go.Lib in
theorem Try.strings_ContainsFunc (g : Nat) (lb : Array Value) (eg : ∀ args w, (callFunc g args).run Try.prog w = .ok (.enter g args) w) (p : Nat → Bool) (s : ByteArray) (w : World) (hp : PredAt Try.prog g lb encR p w) :
    Calls Try.prog 60 #[.string s, .func (.func g) #[] lb] w fun e w' => e = .returned (.bool (decide (0 ≤ Lib.idxFunc p true s))) ∧ Below w.heap.size w w' := Any.strings_ContainsFunc Try.laysGw17 g lb eg p s w hp
def Try.lays206_ren : Go.Shelf.Ren := ⟨fun | 206 => 51 | n => n, fun | 9 => 9 | 4 => 4 | 3 => 3 | n => n, fun | n => n⟩
theorem Try.lays206 : Go.Proofs.Lays.n206 Try.prog Try.lays206_ren := {
  mixed := by kernel_rfl
  f206 := Try.func51.trans (congrArg some (by kernel_rfl))
  t3 := Try.underlying3
  a3 := Try.isAgg3
  z3 := Try.sizeOf3
  v3 := Try.zeroValue3
  t4 := Try.underlying4
  a4 := Try.isAgg4
  z4 := Try.sizeOf4
  v4 := Try.zeroValue4
  t9 := Try.underlying9
  a9 := Try.isAgg9
  z9 := Try.sizeOf9
  v9 := Try.zeroValue9 }
open Go.RowKit Go.Lib in
theorem Try.stringslite_HasPrefix (s p : ByteArray) (w : World) :
    Calls Try.prog 51 #[.string s, .string p] w fun e w' => e = .returned (.bool (Lib.hasPrefix s.data.toList p.data.toList)) ∧ w' = w := Any.stringslite_HasPrefix Try.lays206 s p w
def Try.lays99_ren : Go.Shelf.Ren := ⟨fun | 99 => 41 | 206 => 51 | n => n, fun | 9 => 9 | 4 => 4 | 3 => 3 | n => n, fun | n => n⟩
theorem Try.lays99 : Go.Proofs.Lays.n99 Try.prog Try.lays99_ren := {
  mixed := by kernel_rfl
  f99 := Try.func41.trans (congrArg some (by kernel_rfl))
  f206 := Try.func51.trans (congrArg some (by kernel_rfl))
  t3 := Try.underlying3
  a3 := Try.isAgg3
  z3 := Try.sizeOf3
  v3 := Try.zeroValue3
  t4 := Try.underlying4
  a4 := Try.isAgg4
  z4 := Try.sizeOf4
  v4 := Try.zeroValue4
  t9 := Try.underlying9
  a9 := Try.isAgg9
  z9 := Try.sizeOf9
  v9 := Try.zeroValue9 }
open Go.RowKit Go.Lib in
theorem Try.strings_HasPrefix (s p : ByteArray) (w : World) :
    Calls Try.prog 41 #[.string s, .string p] w fun e w' => e = .returned (.bool (Lib.hasPrefix s.data.toList p.data.toList)) ∧ w' = w := Any.strings_HasPrefix Try.lays99 s p w
def Try.lays240_ren : Go.Shelf.Ren := ⟨fun | 240 => 50 | 276 => 66 | n => n, fun | 0 => 0 | 4 => 4 | 9 => 9 | 20 => 20 | 37 => 52 | 70 => 51 | 72 => 54 | 164 => 81 | n => n, fun n => n⟩
def Try.lays167_ren : Go.Shelf.Ren := ⟨fun | 167 => 63 | 240 => 50 | 276 => 66 | n => n, fun | 0 => 0 | 4 => 4 | 5 => 5 | 9 => 9 | 20 => 20 | 37 => 52 | 70 => 51 | 72 => 54 | 75 => 56 | 80 => 59 | 164 => 81 | n => n, fun n => n⟩
theorem Try.lays167 : Go.Proofs.Lays.n167 Try.prog Try.lays167_ren := {
  mixed := by kernel_rfl
  f167 := Try.func63.trans (congrArg some (by kernel_rfl))
  f240 := Try.func50.trans (congrArg some (by kernel_rfl))
  f276 := Try.func66.trans (congrArg some (by kernel_rfl))
  t0 := Try.underlying0
  a0 := Try.isAgg0
  z0 := Try.sizeOf0
  v0 := Try.zeroValue0
  t4 := Try.underlying4
  a4 := Try.isAgg4
  z4 := Try.sizeOf4
  v4 := Try.zeroValue4
  t5 := Try.underlying5
  a5 := Try.isAgg5
  z5 := Try.sizeOf5
  v5 := Try.zeroValue5
  t9 := Try.underlying9
  a9 := Try.isAgg9
  z9 := Try.sizeOf9
  v9 := Try.zeroValue9
  t20 := Try.underlying20
  a20 := Try.isAgg20
  z20 := Try.sizeOf20
  v20 := Try.zeroValue20
  t37 := Try.underlying52
  a37 := Try.isAgg52
  z37 := Try.sizeOf52
  v37 := Try.zeroValue52
  t70 := Try.underlying51
  a70 := Try.isAgg51
  z70 := Try.sizeOf51
  v70 := Try.zeroValue51
  t72 := Try.underlying54
  a72 := Try.isAgg54
  z72 := Try.sizeOf54
  v72 := Try.zeroValue54
  t75 := Try.underlying56
  a75 := Try.isAgg56
  z75 := Try.sizeOf56
  v75 := Try.zeroValue56
  t164 := Try.underlying81
  a164 := Try.isAgg81
  z164 := Try.sizeOf81
  v164 := Try.zeroValue81 }
theorem Try.Builder_Extra_167 : Builder.Extra Try.prog Try.lays167_ren where
  sizeBuilder := by kernel_rfl
  liesBuilder := by kernel_rfl
  t5 := Try.underlying5
  a5 := Try.isAgg5
  z5 := Try.sizeOf5
  v5 := Try.zeroValue5
  infoByte := by kernel_rfl
  cellsByte := by kernel_rfl
  sizeByte := by kernel_rfl
  neB5 := by decide
open Go.RowKit in
theorem Try.Builder_WriteByte (B b : Nat) (bs : List Value) (c : Int) (w : World) (h : Lib.IsBuilder 54 5 B b bs w) (hlen : bs.length + 1 ≤ 140737488355328) (hBw : B ≤ w.heap.size) :
    Calls Try.prog 63 #[.pointer (some ⟨b, 0, none⟩), .int .u8 c] w fun e w' => e = .returned .nilIface ∧ (Lib.BuilderAt 54 5 B b (.pointer (some ⟨b, 0, none⟩)) (bs ++ [.int .u8 c]) w' ∧ Below B w w') := Any.Builder_WriteByte Try.lays167 Try.Builder_Extra_167 B b bs c w h hlen hBw
def Try.lays166_ren : Go.Shelf.Ren := ⟨fun | 166 => 37 | 240 => 50 | 276 => 66 | n => n, fun | 0 => 0 | 3 => 3 | 4 => 4 | 5 => 5 | 9 => 9 | 20 => 20 | 37 => 52 | 70 => 51 | 72 => 54 | 75 => 56 | 80 => 59 | 164 => 81 | n => n, fun n => n⟩
theorem Try.lays166 : Go.Proofs.Lays.n166 Try.prog Try.lays166_ren := {
  mixed := by kernel_rfl
  f166 := Try.func37.trans (congrArg some (by kernel_rfl))
  f240 := Try.func50.trans (congrArg some (by kernel_rfl))
  f276 := Try.func66.trans (congrArg some (by kernel_rfl))
  t0 := Try.underlying0
  a0 := Try.isAgg0
  z0 := Try.sizeOf0
  v0 := Try.zeroValue0
  t3 := Try.underlying3
  a3 := Try.isAgg3
  z3 := Try.sizeOf3
  v3 := Try.zeroValue3
  t4 := Try.underlying4
  a4 := Try.isAgg4
  z4 := Try.sizeOf4
  v4 := Try.zeroValue4
  t9 := Try.underlying9
  a9 := Try.isAgg9
  z9 := Try.sizeOf9
  v9 := Try.zeroValue9
  t20 := Try.underlying20
  a20 := Try.isAgg20
  z20 := Try.sizeOf20
  v20 := Try.zeroValue20
  t37 := Try.underlying52
  a37 := Try.isAgg52
  z37 := Try.sizeOf52
  v37 := Try.zeroValue52
  t70 := Try.underlying51
  a70 := Try.isAgg51
  z70 := Try.sizeOf51
  v70 := Try.zeroValue51
  t72 := Try.underlying54
  a72 := Try.isAgg54
  z72 := Try.sizeOf54
  v72 := Try.zeroValue54
  t75 := Try.underlying56
  a75 := Try.isAgg56
  z75 := Try.sizeOf56
  v75 := Try.zeroValue56
  t164 := Try.underlying81
  a164 := Try.isAgg81
  z164 := Try.sizeOf81
  v164 := Try.zeroValue81 }
theorem Try.Builder_Extra_166 : Builder.Extra Try.prog Try.lays166_ren where
  sizeBuilder := by kernel_rfl
  liesBuilder := by kernel_rfl
  t5 := Try.underlying5
  a5 := Try.isAgg5
  z5 := Try.sizeOf5
  v5 := Try.zeroValue5
  infoByte := by kernel_rfl
  cellsByte := by kernel_rfl
  sizeByte := by kernel_rfl
  neB5 := by decide
open Go.RowKit in
theorem Try.Builder_WriteString (B b : Nat) (bs : List Value) (s : ByteArray) (w : World) (h : Lib.IsBuilder 54 5 B b bs w) (hlen : bs.length + s.size ≤ 140737488355328) (hBw : B ≤ w.heap.size) :
    Calls Try.prog 37 #[.pointer (some ⟨b, 0, none⟩), .string s] w fun e w' => e = .returned (.tuple #[.int .i64 s.size, .nilIface]) ∧ (Lib.BuilderAt 54 5 B b (.pointer (some ⟨b, 0, none⟩)) (bs ++ Lib.strCells s) w' ∧ Below B w w') := Any.Builder_WriteString Try.lays166 Try.Builder_Extra_166 B b bs s w h hlen hBw
end Go.Proofs
/- Plain lemmas on lists of bytes: what stands ahead and behind, letters, schemes. No Go in it. -/
namespace Go.Proofs.Ytakhldahohooiaa
set_option linter.unusedVariables false
set_option linter.unusedSimpArgs false

/-! ### ahead and behind -/
/-- How many at the head meet p. -/
def lead (p : UInt8 → Bool) (l : List UInt8) : Nat := (l.takeWhile p).length
/-- Without those at the end that meet p. -/
def rcut (p : UInt8 → Bool) (l : List UInt8) : List UInt8 := (l.reverse.dropWhile p).reverse
/-- How many are left then. -/
def tail (p : UInt8 → Bool) (l : List UInt8) : Nat := (rcut p l).length

theorem lead_le (p : UInt8 → Bool) (l : List UInt8) : lead p l ≤ l.length := by
  unfold lead
  induction l with
  | nil => simp
  | cons a t ih => simp only [List.takeWhile_cons]; split <;> simp <;> omega
theorem lead_at (p : UInt8 → Bool) : ∀ (l : List UInt8) (k : Nat), k < lead p l → ∃ c, l[k]? = some c ∧ p c = true
  | [], k, h => by simp [lead] at h
  | a :: t, k, h => by
    unfold lead at h
    simp only [List.takeWhile_cons] at h
    split at h
    · rename_i ha
      cases k with
      | zero => exact ⟨a, rfl, ha⟩
      | succ k => exact lead_at p t k (by unfold lead; simpa using h)
    · simp at h
theorem lead_stop_at (p : UInt8 → Bool) : ∀ (l : List UInt8) (c : UInt8), l[lead p l]? = some c → p c = false
  | [], c, h => by simp [lead] at h
  | a :: t, c, h => by
    unfold lead at h
    simp only [List.takeWhile_cons] at h
    split at h
    · exact lead_stop_at p t c (by unfold lead; simpa using h)
    · rename_i ha
      simp at h
      subst h
      simpa using ha
theorem lead_step {p : UInt8 → Bool} {l : List UInt8} {k : Nat} {c : UInt8} (hk : k ≤ lead p l) (hc : l[k]? = some c) (hp : p c = true) : k + 1 ≤ lead p l := by
  rcases Nat.lt_or_ge k (lead p l) with h | h
  · exact h
  · obtain rfl : k = lead p l := by omega
    rw [lead_stop_at p l c hc] at hp
    cases hp
theorem lead_done {p : UInt8 → Bool} {l : List UInt8} {k : Nat} {c : UInt8} (hk : k ≤ lead p l) (hc : l[k]? = some c) (hp : p c = false) : k = lead p l := by
  rcases Nat.lt_or_ge k (lead p l) with h | h
  · obtain ⟨d, hd, hpd⟩ := lead_at p l k h
    rw [hc] at hd
    cases hd
    rw [hp] at hpd
    cases hpd
  · omega
theorem lead_full {p : UInt8 → Bool} {l : List UInt8} {k : Nat} (hk : k ≤ lead p l) (hl : l.length ≤ k) : k = lead p l := by
  have := lead_le p l
  omega
theorem drop_lead (p : UInt8 → Bool) : ∀ l : List UInt8, l.drop (lead p l) = l.dropWhile p
  | [] => by simp [lead]
  | a :: t => by
    unfold lead
    simp only [List.takeWhile_cons, List.dropWhile_cons]
    split
    · have := drop_lead p t
      unfold lead at this
      simpa using this
    · simp

theorem rcut_append_one (p : UInt8 → Bool) (l : List UInt8) (c : UInt8) : rcut p (l ++ [c]) = if p c then rcut p l else l ++ [c] := by
  unfold rcut
  rw [List.reverse_append]
  simp only [List.reverse_cons, List.reverse_nil, List.nil_append, List.cons_append, List.dropWhile_cons]
  split <;> simp
theorem rcut_nil (p : UInt8 → Bool) : rcut p [] = [] := by simp [rcut]
theorem tail_le (p : UInt8 → Bool) (l : List UInt8) : tail p l ≤ l.length := by
  unfold tail rcut
  rw [List.length_reverse]
  have := (List.dropWhile_sublist p (l := l.reverse)).length_le
  simpa using this
/-- What is cut is a beginning. -/
theorem rcut_take (p : UInt8 → Bool) (l : List UInt8) : rcut p l = l.take (tail p l) := by
  unfold tail
  have h : rcut p l <+: l := by
    unfold rcut
    have := List.dropWhile_suffix p (l := l.reverse)
    rw [← List.reverse_prefix] at this
    simpa using this
  exact (List.prefix_iff_eq_take.1 h)
theorem take_succ' {l : List UInt8} {k : Nat} {c : UInt8} (hc : l[k]? = some c) : l.take (k + 1) = l.take k ++ [c] := by
  rw [List.take_add_one, hc]; rfl
/-- From k on all meet p. -/
theorem tail_from {p : UInt8 → Bool} {l : List UInt8} : ∀ {k : Nat}, rcut p (l.take k) = rcut p l → tail p l ≤ k := by
  intro k h
  unfold tail
  rw [← h]
  have := tail_le p (l.take k)
  unfold tail at this
  have h2 : (l.take k).length ≤ k := List.length_take_le _ _
  omega
theorem rcut_take_step {p : UInt8 → Bool} {l : List UInt8} {k : Nat} {c : UInt8} (h : rcut p (l.take (k + 1)) = rcut p l) (hc : l[k]? = some c) (hp : p c = true) : rcut p (l.take k) = rcut p l := by
  rw [take_succ' hc, rcut_append_one, hp] at h
  simpa using h
theorem rcut_take_done {p : UInt8 → Bool} {l : List UInt8} {k : Nat} {c : UInt8} (h : rcut p (l.take (k + 1)) = rcut p l) (hc : l[k]? = some c) (hp : p c = false) : rcut p l = l.take (k + 1) := by
  rw [take_succ' hc, rcut_append_one, hp] at h
  rw [take_succ' hc]
  simpa using h.symm

/-! ### bytes that do not count in an address -/
def ws (c : UInt8) : Bool := decide (c.toNat ≤ 32)
def keep (c : UInt8) : Bool := c.toNat != 9 && c.toNat != 10 && c.toNat != 13
def strip (l : List UInt8) : List UInt8 := (rcut ws (l.dropWhile ws)).filter keep
end Go.Proofs.Ytakhldahohooiaa
/- Small lemmas for the walks. -/
namespace Go.Proofs.Ytakhldahohooiaa
set_option linter.unusedVariables false
set_option linter.unusedSimpArgs false
open Go.RowKit

theorem hid {p : Prop} (h : p) : Hid p := h
theorem byte_at (s : ByteArray) (k : Nat) (h : k < s.size) : s.data.toList[k]? = some (s[k]'h) := by
  rw [List.getElem?_eq_getElem (by simpa using h)]; rfl
theorem byte_drop (s : ByteArray) (a j : Nat) (h : a + j < s.size) : (s.data.toList.drop a)[j]? = some (s[a + j]'h) := by
  rw [List.getElem?_drop]; exact byte_at s (a + j) h
theorem ret_int {k : IntKind} {a b : Int} (h : a = b) : Ending.returned (.int k a) = .returned (.int k b) := by rw [h]
theorem ret_str {a b : List UInt8} (h : a = b) : Ending.returned (.string ⟨a.toArray⟩) = .returned (.string ⟨b.toArray⟩) := by rw [h]
theorem ret_bool {a b : Bool} (h : a = b) : Ending.returned (.bool a) = .returned (.bool b) := by rw [h]
theorem extract_pre (s : ByteArray) (i : Nat) : s.extract 0 i = ⟨(s.data.toList.take i).toArray⟩ := by rw [Lib.extract_eq]; simp
theorem extract_suf (s : ByteArray) (i : Nat) : s.extract i s.size = ⟨(s.data.toList.drop i).toArray⟩ := by
  rw [Lib.extract_eq]
  congr 2
  exact List.take_of_length_le (by rw [List.length_drop, ← Lib.size_eq]; exact Nat.le_refl _)
theorem drop_one {l : List UInt8} {i : Nat} {c : UInt8} (h0 : l[i]? = some c) : l.drop i = c :: l.drop (i + 1) := by
  rw [List.drop_eq_getElem?_toList_append, h0]
  simp
theorem drop_three {l : List UInt8} {i : Nat} {c x y : UInt8} (h0 : l[i]? = some c) (h1 : l[i + 1]? = some x) (h2 : l[i + 2]? = some y) : l.drop i = c :: x :: y :: l.drop (i + 3) := by
  rw [List.drop_eq_getElem?_toList_append, h0, List.drop_eq_getElem?_toList_append, h1, List.drop_eq_getElem?_toList_append, h2]
  simp
def bnd {α : Type} (s : ByteArray) (x : α) : Option α := if s.size ≤ 140737488351232 then some x else none
theorem bnd_some {α : Type} {s : ByteArray} {x r : α} (h : bnd s x = some r) : s.size ≤ 140737488351232 ∧ x = r := by
  unfold bnd at h
  split at h
  · exact ⟨by assumption, Option.some.inj h⟩
  · cases h
theorem bnd_of {α : Type} {s : ByteArray} (x : α) (h : s.size ≤ 140737488351232) : bnd s x = some x := by unfold bnd; rw [if_pos h]
def mkS (l : List UInt8) : ByteArray := ⟨l.toArray⟩
end Go.Proofs.Ytakhldahohooiaa
/- strings.Cut at a separator of one byte; fold.Letter. -/
namespace Go.Proofs.Ytakhldahohooiaa
set_option linter.unusedVariables false
set_option linter.unusedSimpArgs false
open Go.RowKit

def bef (c : UInt8) (l : List UInt8) : List UInt8 := l.takeWhile (· != c)
def aft (c : UInt8) (l : List UInt8) : List UInt8 := (l.dropWhile (· != c)).drop 1
theorem indexByte_bef (c : UInt8) : ∀ l : List UInt8, Lib.indexByte l c = if l.contains c then ((bef c l).length : Int) else -1
  | [] => rfl
  | b :: l => by
    unfold Lib.indexByte bef
    have ih := indexByte_bef c l
    by_cases hb : b = c
    · subst hb; simp
    · have h1 : (b == c) = false := by simpa using hb
      have h2 : (b != c) = true := by simpa using hb
      have h3 : (b :: l).contains c = l.contains c := by rw [List.contains_cons]; simp [Ne.symm hb]
      rw [h1, h3]
      simp only [Bool.false_eq_true, if_false, List.takeWhile_cons, h2, if_true, List.length_cons]
      rw [ih]
      unfold bef
      split
      · rw [if_neg (by rw [beq_iff_eq]; omega)]
        push_cast
        rfl
      · simp
theorem bef_take (c : UInt8) (l : List UInt8) : l.take (bef c l).length = bef c l := (List.prefix_iff_eq_take.1 (List.takeWhile_prefix _)).symm
theorem bef_all {c : UInt8} : ∀ {l : List UInt8}, l.contains c = false → bef c l = l ∧ aft c l = []
  | [], _ => ⟨rfl, rfl⟩
  | b :: l, h => by
    have h1 : b ≠ c ∧ l.contains c = false := by
      rw [List.contains_cons] at h
      simp at h
      exact ⟨fun e => h.1 e.symm, by simpa using h.2⟩
    obtain ⟨e1, e2⟩ := bef_all h1.2
    have h2 : (b != c) = true := by simpa using h1.1
    unfold bef aft at *
    simp only [List.takeWhile_cons, List.dropWhile_cons, h2, if_true]
    exact ⟨by rw [e1], e2⟩
theorem aft_drop (c : UInt8) : ∀ l : List UInt8, l.drop ((bef c l).length + 1) = aft c l
  | [] => rfl
  | b :: l => by
    have ih := aft_drop c l
    unfold bef aft at *
    simp only [List.takeWhile_cons, List.dropWhile_cons]
    split
    · simpa using ih
    · simp
theorem bef_lt {c : UInt8} : ∀ {l : List UInt8}, l.contains c = true → (bef c l).length < l.length
  | [], h => by simp at h
  | b :: l, h => by
    unfold bef
    simp only [List.takeWhile_cons]
    by_cases hb : b = c
    · subst hb; simp
    · have h2 : (b != c) = true := by simpa using hb
      rw [h2]
      have h3 : l.contains c = true := by rw [List.contains_cons] at h; simpa [Ne.symm hb] using h
      have := bef_lt h3
      unfold bef at this
      simpa using this
theorem bef_le (c : UInt8) (l : List UInt8) : (bef c l).length ≤ l.length := (List.takeWhile_sublist _).length_le
theorem aft_le (c : UInt8) (l : List UInt8) : (aft c l).length ≤ l.length := by rw [← aft_drop]; simp
set_option maxHeartbeats 1000000 in
set_option maxRecDepth 100000 in
theorem slite_cut_calls (c : UInt8) (s : ByteArray) (w : World) (hs : s.size ≤ 140737488351232) :
    Calls Try.prog 62 #[.string s, .string ⟨#[c]⟩] w fun e w' => e = .returned (.tuple #[.string ⟨(bef c s.data.toList).toArray⟩, .string ⟨(aft c s.data.toList).toArray⟩, .bool (s.data.toList.contains c)]) ∧ ∃ n, w' = w.drewN n := by
  have hix := indexByte_bef c s.data.toList
  cases hcon : s.data.toList.contains c with
  | false =>
    rw [hcon, if_neg (by simp)] at hix
    obtain ⟨e1, e2⟩ := bef_all hcon
    rw [e1, e2, show (⟨s.data.toList.toArray⟩ : ByteArray) = s from by simp]
    clear hcon e1 e2
    have hix' := hid hix
    clear hix
    go_enter Try.func62, Try.ntmps62
    go_wp2_with (go_at_call 73; refine (Try.stringslite_Index_one s c w).mono ?_; rintro e w' ⟨rfl, rfl⟩; rw [hix'.out])
    go_ret3
    exact ⟨rfl, 0, rfl⟩
  | true =>
    rw [hcon, if_pos rfl] at hix
    have hlt := bef_lt hcon
    rw [← Lib.size_eq] at hlt
    clear hcon
    have e1 := bef_take c s.data.toList
    have e2 := aft_drop c s.data.toList
    obtain ⟨n, hn⟩ : ∃ n, (bef c s.data.toList).length = n := ⟨_, rfl⟩
    rw [hn] at hix hlt e1 e2
    have hix' := hid hix
    have e1' := hid e1
    have e2' := hid e2
    clear hix e1 e2 hn
    have c1 : (0 : Int) ≤ ↑n := by omega
    have c2 : (↑n : Int) ≤ ↑s.size := by omega
    have c3 : (0 : Int) ≤ ↑n + 1 := by omega
    have c4 : (↑n + 1 : Int) ≤ ↑s.size := by omega
    go_enter Try.func62, Try.ntmps62
    go_wp2_with (go_at_call 73; refine (Try.stringslite_Index_one s c w).mono ?_; rintro e w' ⟨rfl, rfl⟩; rw [hix'.out])
    go_region
    go_wp2
    go_ret3
    refine ⟨?_, 1, rfl⟩
    rw [← e1'.out, ← e2'.out, ← extract_pre, ← extract_suf]
    rfl

set_option maxHeartbeats 1000000 in
theorem cut_calls (c : UInt8) (s : ByteArray) (w : World) (hs : s.size ≤ 140737488351232) :
    Calls Try.prog 46 #[.string s, .string ⟨#[c]⟩] w fun e w' => e = .returned (.tuple #[.string ⟨(bef c s.data.toList).toArray⟩, .string ⟨(aft c s.data.toList).toArray⟩, .bool (s.data.toList.contains c)]) ∧ ∃ n, w' = w.drewN n := by
  obtain ⟨B, hB⟩ : ∃ B, (⟨(bef c s.data.toList).toArray⟩ : ByteArray) = B := ⟨_, rfl⟩
  obtain ⟨A, hA⟩ : ∃ A, (⟨(aft c s.data.toList).toArray⟩ : ByteArray) = A := ⟨_, rfl⟩
  obtain ⟨C, hC⟩ : ∃ C, s.data.toList.contains c = C := ⟨_, rfl⟩
  have h := slite_cut_calls c s w hs
  rw [hB, hA, hC] at h ⊢
  clear hB hA hC
  have h' := hid h
  clear h
  go_enter Try.func46, Try.ntmps46
  go_wp2_with (go_at_call 62; refine h'.out.mono ?_; rintro e w' ⟨rfl, n, rfl⟩)
  go_ret3
  exact ⟨rfl, n, rfl⟩

end Go.Proofs.Ytakhldahohooiaa
/- fold.Letter. -/
namespace Go.Proofs.Ytakhldahohooiaa
set_option linter.unusedVariables false
set_option linter.unusedSimpArgs false
open Go.RowKit

def letterI (c : Int) : Bool := decide (97 ≤ c ∧ c ≤ 122) || decide (65 ≤ c ∧ c ≤ 90)
def letter (c : UInt8) : Bool := letterI c.toNat
set_option maxHeartbeats 1000000 in
theorem letter_calls (c : Int) (w : World) (h0 : 0 ≤ c) (h1 : c < 256) : Calls Try.prog 58 #[.int .u8 c] w fun e w' => e = .returned (.bool (letterI c)) ∧ w' = w := by
  rcases (by omega : c < 65 ∨ (65 ≤ c ∧ c ≤ 90) ∨ (90 < c ∧ c < 97) ∨ (97 ≤ c ∧ c ≤ 122) ∨ 122 < c) with h | ⟨h, h'⟩ | ⟨h, h'⟩ | ⟨h, h'⟩ | h
  all_goals
    go_enter Try.func58, Try.ntmps58
    go_wp2
    go_ret
    exact ⟨ret_bool (by unfold letterI; rw [Bool.eq_iff_iff]; simp only [Bool.or_eq_true, Bool.and_eq_true, decide_eq_true_eq, Bool.false_eq_true, eq_self, true_iff, false_iff]; omega), rfl⟩
theorem letter_at (c : UInt8) (w : World) : Calls Try.prog 58 #[.int .u8 (c.toNat : Int)] w fun e w' => e = .returned (.bool (letter c)) ∧ w' = w :=
  letter_calls _ w (by omega) (by have := c.toNat_lt; omega)
end Go.Proofs.Ytakhldahohooiaa
/- A []byte of the call's own that a string was turned into; fold.Lower's and the reference's Lower's contracts. -/
namespace Go.Proofs.Ytakhldahohooiaa
set_option linter.unusedVariables false
set_option linter.unusedSimpArgs false
open Go.RowKit

def Buf (w : World) (g : Nat) (l : List UInt8) : Prop := ∀ j c, l[j]? = some c → w.cell? ⟨g, j, none⟩ = some (.int .u8 c.toNat) ∧ w.frozen? ⟨g, j, none⟩ = false
theorem Buf.of_conv {P : Program} (w : World) (src dst e : TypeId) (s : ByteArray) {u : TypeDesc} (hs : P.underlying src = some u) (hd : P.underlying dst = some (.slice e)) (he : P.underlying e = some (.int .u8)) :
    ∃ (W : World) (cap : Nat), (convert src dst (.string s)).run P w = .ok (.slice (some ⟨w.heap.size, 0, none⟩) s.size cap) W ∧ Buf W w.heap.size s.data.toList ∧ Below w.heap.size w W := by
  refine ⟨_, _, Lib.run_convert_string_bytes w src dst e s hs hd he, fun j c hj => ?_, ⟨rfl, rfl, rfl, by rw [Lib.bytesWorld_size]; omega, fun k hk => Lib.bytesWorld_at_old w e s k hk⟩⟩
  have hl : j < s.data.toList.length := (List.getElem?_eq_some_iff.1 hj).1
  have hl' : j < s.size := by simpa using hl
  refine ⟨by rw [Lib.bytesWorld_cell w e s j hl']; simp [List.getD, hj], ?_⟩
  have hsz : s.size ≤ (Lib.bytesCells w e s).size := by unfold Lib.bytesCells; rw [Array.size_append, Array.size_map]; exact Nat.le_add_right _ _
  unfold World.frozen?
  rw [Lib.bytesWorld_at_new]
  simp
  omega
theorem Buf.set_ {w : World} {g : Nat} {l : List UInt8} (h : Buf w g l) (i : Nat) (c : UInt8) : Buf (w.setCell ⟨g, i, none⟩ (.int .u8 c.toNat)) g (l.set i c) := by
  intro j d hj
  rw [World.frozen?_setCell]
  rw [List.getElem?_set] at hj
  split at hj
  · rename_i he
    subst he
    split at hj
    · cases hj
      rename_i hl
      obtain ⟨h1, h2⟩ := h i _ (List.getElem?_eq_getElem hl)
      exact ⟨World.cell?_setCell_same _ _ _ (by rw [h1]), h2⟩
    · cases hj
  · rename_i he
    obtain ⟨h1, h2⟩ := h j d hj
    exact ⟨(World.cell?_setCell_other w _ _ _ (by intro e; injection e with _ e; exact he e)).trans h1, h2⟩
theorem Buf.string {P : Program} {w : World} {g : Nat} {l : List UInt8} (h : Buf w g l) (src e dst : TypeId) (n cap : Nat) (hn : l.length = n) (hs : P.underlying src = some (.slice e)) (he : P.underlying e = some (.int .u8)) (hd : P.underlying dst = some .string) :
    (convert src dst (.slice (some ⟨g, 0, none⟩) n cap)).run P w = .ok (.string ⟨l.toArray⟩) w := by
  have := run_convert_bytes_arg (P := P) w src e hs he g 0 n cap (l.map fun c => (c.toNat : Int)) (by simp [hn]) (fun i hi => by
    have := (h i _ (List.getElem?_eq_getElem (show i < l.length by omega))).1
    rw [Nat.zero_add, this]
    simp [List.getD, List.getElem?_eq_getElem (show i < l.length by omega)]) dst hd
  rw [this]
  congr 2
  simp [strOfNums, List.map_map, Function.comp_def]

def low (c : UInt8) : UInt8 := if 65 ≤ c.toNat ∧ c.toNat ≤ 90 then c + 32 else c
theorem low_hi {c : UInt8} (h0 : 65 ≤ c.toNat) (h1 : c.toNat ≤ 90) : (low c).toNat = c.toNat + 32 := by
  unfold low
  rw [if_pos ⟨h0, h1⟩, UInt8.toNat_add]
  show (c.toNat + 32) % 256 = _
  omega
theorem low_id {c : UInt8} (h : ¬ (65 ≤ c.toNat ∧ c.toNat ≤ 90)) : low c = c := by unfold low; rw [if_neg h]
def lower (l : List UInt8) : List UInt8 := l.map low
/-- What stands after k rounds. -/
def cur (l : List UInt8) (k : Nat) : List UInt8 := lower (l.take k) ++ l.drop k
theorem cur_len (l : List UInt8) (k : Nat) : (cur l k).length = l.length := by simp [cur, lower]; omega
theorem cur_at (l : List UInt8) (k : Nat) (h : k < l.length) : (cur l k)[k]? = l[k]? := by
  unfold cur lower
  rw [List.getElem?_append_right (by simp; omega)]
  simp [Nat.min_eq_left (Nat.le_of_lt h)]
theorem cur_step {l : List UInt8} {k : Nat} {c : UInt8} (h : l[k]? = some c) : (cur l k).set k (low c) = cur l (k + 1) := by
  have hl : k < l.length := (List.getElem?_eq_some_iff.1 h).1
  have hd : l.drop k = c :: l.drop (k + 1) := by rw [List.drop_eq_getElem?_toList_append, h]; simp
  unfold cur lower
  rw [hd, List.set_append_right _ _ (by simp; omega), take_succ' h]
  simp [Nat.min_eq_left (Nat.le_of_lt hl)]
theorem cur_same {l : List UInt8} {k : Nat} {c : UInt8} (h : l[k]? = some c) (hc : low c = c) : cur l k = cur l (k + 1) := by
  have hl : k < l.length := (List.getElem?_eq_some_iff.1 h).1
  rw [← cur_step h, hc]
  apply List.ext_getElem?
  intro i
  rw [List.getElem?_set]
  split
  · rename_i he
    subst he
    rw [if_pos (by rw [cur_len]; exact hl), cur_at l k hl, h]
  · rfl
theorem cur_end (l : List UInt8) : cur l l.length = lower l := by simp [cur]

set_option maxHeartbeats 4000000 in
set_option maxRecDepth 100000 in
theorem lower_calls (s : ByteArray) (w : World) (hs : s.size ≤ 140737488351232) :
    Calls Try.prog 61 #[.string s] w fun e w' => e = .returned (.string ⟨(lower s.data.toList).toArray⟩) ∧ Below w.heap.size w w' := by
  obtain ⟨W, cap, hcv, hbuf, hbel⟩ := Buf.of_conv (P := Try.prog) w 9 52 5 s Try.underlying9 Try.underlying52 Try.underlying5
  go_enter Try.func61, Try.ntmps61
  go_wp2_with fail
  go_loopw [10] (fun f wr => ∃ k : Nat, Buf wr w.heap.size (cur s.data.toList k) ∧ Below w.heap.size w wr ∧ k ≤ s.size ∧ f = .int .i64 k) (fun f _ => s.size - (intOf f).toNat)
  case atStart => exact ⟨0, by simpa [cur, lower] using hbuf, hbel, Nat.zero_le _, rfl⟩
  case round =>
    obtain ⟨k, hb, hbw, hks, rfl⟩ := hrel
    clear hcv hbuf
    by_cases hlt : k < s.size
    · have hc := byte_at s k hlt
      obtain ⟨c, hcc⟩ : ∃ c, s[k] = c := ⟨_, rfl⟩
      rw [hcc] at hc
      clear hcc
      obtain ⟨hcell, hfr⟩ := hb k c (by rw [cur_at _ _ (by simpa using hlt)]; exact hc)
      have hc' := hid hc
      clear hc
      by_cases hup : 65 ≤ c.toNat ∧ c.toNat ≤ 90
      · obtain ⟨u0, u1⟩ := hup
        have hlow := hid (low_hi u0 u1)
        go_wp2_with fail
        go_roundw
        case rel => exact ⟨k + 1, by rw [← cur_step hc'.out]; have := hb.set_ k (low c); rwa [show ((low c).toNat : Int) = (c.toNat : Int) + 97 - 65 from by have := hlow.out; omega] at this, hbw.setCell (p := ⟨w.heap.size, k, none⟩) (Nat.le_refl _) _, hlt, by go_num⟩
        case measure => simp [intOf]; omega
      · have hsame := hid (cur_same hc'.out (low_id hup))
        rcases (by omega : c.toNat < 65 ∨ (65 ≤ c.toNat ∧ 90 < c.toNat)) with u0 | ⟨u0, u1⟩
        all_goals
          clear hup
          go_wp2_with fail
          go_roundw
          case rel => exact ⟨k + 1, by rw [← hsame.out]; exact hb, hbw, hlt, by go_num⟩
          case measure => simp [intOf]; omega
    · have hcv2 := hb.string (P := Try.prog) 52 5 9 s.size cap (by rw [cur_len]; rfl) Try.underlying52 Try.underlying5 Try.underlying9
      go_wp2_with fail
      go_ret
      obtain rfl : k = s.size := by omega
      exact ⟨ret_str (cur_end _), hbw⟩

end Go.Proofs.Ytakhldahohooiaa
/- link.Strip's contract. -/
namespace Go.Proofs.Ytakhldahohooiaa
set_option linter.unusedVariables false
set_option linter.unusedSimpArgs false
open Go.RowKit

set_option maxHeartbeats 4000000 in
set_option maxRecDepth 100000 in
theorem strip_calls (s : ByteArray) (w : World) (hs : s.size ≤ 140737488351232) :
    Calls Try.prog 47 #[.string s] w fun e w' => e = .returned (.string ⟨(strip s.data.toList).toArray⟩) ∧ Below w.heap.size w w' := by
  go_enter Try.func47, Try.ntmps47
  go_upto_block 0 with fail
  go_cut [3] (fun f wx => ∃ a : Nat, Hid (a = lead ws s.data.toList) ∧ a ≤ s.size ∧ f = .int .i64 a ∧ w = wx)
  case first =>
    go_wp2_with fail
    go_loop [3] (fun f => ∃ k : Nat, k ≤ lead ws s.data.toList ∧ k ≤ s.size ∧ f = .int .i64 k) (fun f => s.size - (intOf f).toNat)
    case atStart => exact ⟨0, Nat.zero_le _, Nat.zero_le _, rfl⟩
    case round =>
      obtain ⟨k, hk, hks, rfl⟩ := hrel
      by_cases hlt : k < s.size
      · have hc := byte_at s k hlt
        by_cases h32 : s[k].toNat ≤ 32
        · have hst := lead_step hk hc (by simpa [ws] using h32)
          clear hc
          go_wp2_with fail
          go_round
          case rel => exact ⟨k + 1, hst, hlt, by go_num⟩
          case measure => simp [intOf]; omega
        · have hst := hid (lead_done hk hc (by simpa [ws] using h32))
          clear hc
          go_wp2_with fail
          go_meet
          exact ⟨k, hst, hks, rfl, rfl⟩
      · have hst := hid (lead_full hk (by simp; omega))
        go_wp2_with fail
        go_meet
        exact ⟨k, hst, hks, rfl, rfl⟩
  case rest =>
    obtain ⟨a, ha, has, rfl, rfl⟩ := hcut
    go_upto_block 2 with fail
    go_cut [4] (fun f wx => ∃ b : Nat, Hid (rcut ws (s.data.toList.drop a) = (s.data.toList.drop a).take (b - a)) ∧ a ≤ b ∧ b ≤ s.size ∧ f = .int .i64 b ∧ w = wx)
    case first =>
      go_wp2_with fail
      go_loop [4] (fun f => ∃ b : Nat, Hid (rcut ws ((s.data.toList.drop a).take (b - a)) = rcut ws (s.data.toList.drop a)) ∧ a ≤ b ∧ b ≤ s.size ∧ f = .int .i64 b) (fun f => (intOf f).toNat)
      case atStart => exact ⟨s.size, hid (by rw [List.take_of_length_le (by simp)]), has, Nat.le_refl _, rfl⟩
      case round =>
        obtain ⟨b, hb, hab, hbs, rfl⟩ := hrel
        by_cases hlt : a < b
        · obtain ⟨j, rfl⟩ : ∃ j, b = a + j + 1 := ⟨b - a - 1, by omega⟩
          have hc := byte_drop s a j (by omega)
          have hb' : rcut ws ((s.data.toList.drop a).take (j + 1)) = rcut ws (s.data.toList.drop a) := by have := hb.out; rwa [show a + j + 1 - a = j + 1 from by omega] at this
          by_cases h32 : (s[a + j]'(by omega)).toNat ≤ 32
          · have hst := hid (rcut_take_step hb' hc (by simpa [ws] using h32))
            clear hc hb' hb
            go_wp2_with fail
            go_round
            case rel => exact ⟨a + j, by rw [show a + j - a = j from by omega]; exact hst, by omega, by omega, by go_num⟩
            case measure => simp [intOf]; omega
          · have hst := hid (rcut_take_done hb' hc (by simpa [ws] using h32))
            clear hc hb' hb
            go_wp2_with fail
            go_meet
            exact ⟨a + j + 1, by rw [show a + j + 1 - a = j + 1 from by omega]; exact hst, by omega, hbs, rfl, rfl⟩
        · obtain rfl : b = a := by omega
          go_wp2_with fail
          go_meet
          exact ⟨b, hid (by have := hb.out; simp only [Nat.sub_self, List.take_zero, rcut_nil] at this ⊢; exact this.symm), Nat.le_refl _, hbs, rfl, rfl⟩
    case rest =>
      obtain ⟨b, hb, hab, hbs, rfl, rfl⟩ := hcut
      go_wp2_with fail
      go_loopw [6] (fun f wr => ∃ (i : Nat) (acc : List UInt8), Lib.IsBuilder 54 5 w.heap.size w.heap.size (Lib.byteCells acc) wr ∧ Below w.heap.size w wr ∧ Hid (acc = ((s.data.toList.drop a).take (i - a)).filter keep) ∧ a ≤ i ∧ i ≤ b ∧ acc.length ≤ i ∧ f = .int .i64 i) (fun f _ => b - (intOf f).toNat)
      case atStart => exact ⟨a, [], Lib.fresh_isBuilder _ _ w, (Below.refl _ w).alloc (Nat.le_refl _) _, hid (by simp), Nat.le_refl _, hab, by simp, rfl⟩
      case round =>
        obtain ⟨i, acc, hI, hbw, hacc, hai, hib, hal, rfl⟩ := hrel
        have hsz : w.heap.size ≤ wr.heap.size := hbw.size
        by_cases hlt : i < b
        · obtain ⟨j, rfl⟩ : ∃ j, i = a + j := ⟨i - a, by omega⟩
          have hc := byte_drop s a j (by omega)
          have hst : ((s.data.toList.drop a).take (a + j + 1 - a)).filter keep = ((s.data.toList.drop a).take (a + j - a)).filter keep ++ (if keep (s[a + j]'(by omega)) then [s[a + j]'(by omega)] else []) := by
            rw [show a + j + 1 - a = j + 1 from by omega, show a + j - a = j from by omega, take_succ' hc, List.filter_append]
            congr 1
            simp only [List.filter_cons, List.filter_nil]
          clear hc
          by_cases hk : keep (s[a + j]'(by omega)) = true
          · have hst' := hid hst
            clear hst
            have hk2 := hk
            simp only [keep, Bool.and_eq_true, bne_iff_ne, ne_eq] at hk2
            obtain ⟨⟨k9, k10⟩, k13⟩ := hk2
            have j9 : (((s[a + j]'(by omega)).toNat : Int) != 9) = true := by rw [bne_iff_ne]; omega
            have j10 : (((s[a + j]'(by omega)).toNat : Int) != 10) = true := by rw [bne_iff_ne]; omega
            have j13 : (((s[a + j]'(by omega)).toNat : Int) != 13) = true := by rw [bne_iff_ne]; omega
            have hkk := hid hk
            clear hk
            have hbyte : Lib.byteCells (acc ++ [s[a + j]'(by omega)]) = Lib.byteCells acc ++ [Value.int .u8 (s[a + j]'(by omega)).toNat] := by simp [Lib.byteCells]
            have hbyte' := hid hbyte
            clear hbyte
            go_wp2_with (go_at_call 63; refine (Try.Builder_WriteByte w.heap.size w.heap.size _ _ _ hI (by rw [Lib.byteCells_length]; omega) hsz).mono ?_; rintro e w' ⟨rfl, h1, b1⟩)
            go_roundw
            case rel => exact ⟨a + j + 1, acc ++ [s[a + j]'(by omega)], by rw [hbyte'.out]; exact Or.inr h1, hbw.trans b1, hid (by rw [hst'.out, if_pos hkk.out, ← hacc.out]), by omega, by omega, by simp; omega, by go_num⟩
            case measure => simp [intOf]; omega
          · rw [if_neg hk, List.append_nil] at hst
            have hst' := hid hst
            clear hst
            have hk2 : (s[a + j]'(by omega)).toNat = 9 ∨ (s[a + j]'(by omega)).toNat = 10 ∨ (s[a + j]'(by omega)).toNat = 13 := by
              simp only [keep, Bool.and_eq_true, bne_iff_ne, ne_eq] at hk; omega
            clear hk
            rcases hk2 with k9 | k9 | k9
            all_goals
              go_wp2_with fail
              go_roundw
              case rel => exact ⟨a + j + 1, acc, hI, hbw, hid (by rw [hst'.out, ← hacc.out]), by omega, by omega, by omega, by go_num⟩
              case measure => simp [intOf]; omega
        · go_wp2_with (go_at_call 38; refine (Try.Builder_String_any w.heap.size w.heap.size _ _ hI hsz).mono ?_; rintro e w' ⟨rfl, b1⟩)
          go_ret
          obtain rfl : i = b := by omega
          refine ⟨?_, hbw.trans b1⟩
          rw [hacc.out]
          unfold strip
          rw [← drop_lead, ← ha.out, hb.out]
          rfl
end Go.Proofs.Ytakhldahohooiaa
/- link.digit's and link.Percent's contracts. -/
namespace Go.Proofs.Ytakhldahohooiaa
set_option linter.unusedVariables false
set_option linter.unusedSimpArgs false
open Go.RowKit

/-- A digit's number of base sixteen; -1: it is none. -/
def hexI (c : Int) : Int := if 48 ≤ c ∧ c ≤ 57 then c - 48 else if 97 ≤ c ∧ c ≤ 102 then c - 87 else if 65 ≤ c ∧ c ≤ 70 then c - 55 else -1
theorem hexI_range (c : Int) : -1 ≤ hexI c ∧ hexI c ≤ 15 := by unfold hexI; repeat' split <;> omega
def hex (c : UInt8) : Int := hexI c.toNat
def percent : List UInt8 → List UInt8
  | [] => []
  | [c] => [c]
  | [c, d] => [c, d]
  | c :: x :: y :: t => if c = 37 ∧ 0 ≤ hex x ∧ 0 ≤ hex y then (16 * hex x + hex y).toNat.toUInt8 :: percent t else c :: percent (x :: y :: t)
termination_by l => l.length

theorem percent_short (l : List UInt8) (h : l.length ≤ 2) : percent l = l := by
  match l, h with
  | [], _ => simp [percent]
  | [c], _ => simp [percent]
  | [c, d], _ => simp [percent]
  | c :: x :: y :: t, h => simp at h
theorem percent_mark {l : List UInt8} {i : Nat} {c x y : UInt8} (h0 : l[i]? = some c) (h1 : l[i + 1]? = some x) (h2 : l[i + 2]? = some y) (hc : c.toNat = 37) (hx : 0 ≤ hex x) (hy : 0 ≤ hex y) :
    percent (l.drop i) = (16 * hex x + hex y).toNat.toUInt8 :: percent (l.drop (i + 3)) := by
  rw [drop_three h0 h1 h2]
  have hc' : c = 37 := UInt8.toNat_inj.1 (by simpa using hc)
  simp only [percent]
  rw [if_pos ⟨hc', hx, hy⟩]
theorem percent_one {l : List UInt8} {i : Nat} {c : UInt8} (h0 : l[i]? = some c) (h : c.toNat ≠ 37 ∨ l.length ≤ i + 2 ∨ ∃ x y, l[i + 1]? = some x ∧ l[i + 2]? = some y ∧ (hex x < 0 ∨ hex y < 0)) :
    percent (l.drop i) = c :: percent (l.drop (i + 1)) := by
  rcases Nat.lt_or_ge (i + 2) l.length with hl | hl
  · have h1 : l[i + 1]? = some (l[i + 1]'(by omega)) := List.getElem?_eq_getElem _
    have h2 : l[i + 2]? = some (l[i + 2]'(by omega)) := List.getElem?_eq_getElem _
    have hd := drop_three h0 h1 h2
    have hd1 : l.drop (i + 1) = l[i + 1]'(by omega) :: l[i + 2]'(by omega) :: l.drop (i + 3) := by
      have := drop_one h0
      rw [hd] at this
      exact (List.cons.inj this).2.symm
    rw [hd, hd1]
    simp only [percent]
    rw [if_neg]
    rintro ⟨hc, hx, hy⟩
    rcases h with h | h | ⟨x, y, e1, e2, h⟩
    · subst hc; exact h rfl
    · omega
    · rw [h1] at e1; rw [h2] at e2
      cases e1; cases e2
      omega
  · rw [drop_one h0, percent_short _ (by simp; omega), percent_short (l.drop (i + 1)) (by simp; omega)]


set_option maxHeartbeats 1000000 in
theorem digit_calls (c : Int) (w : World) (h0 : 0 ≤ c) (h1 : c < 256) : Calls Try.prog 64 #[.int .u8 c] w fun e w' => e = .returned (.int .i64 (hexI c)) ∧ w' = w := by
  rcases (by omega : c < 48 ∨ (48 ≤ c ∧ c ≤ 57) ∨ (57 < c ∧ c < 65) ∨ (65 ≤ c ∧ c ≤ 70) ∨ (70 < c ∧ c < 97) ∨ (97 ≤ c ∧ c ≤ 102) ∨ 102 < c) with h | ⟨h, h'⟩ | ⟨h, h'⟩ | ⟨h, h'⟩ | ⟨h, h'⟩ | ⟨h, h'⟩ | h
  all_goals
    go_enter Try.func64, Try.ntmps64
    go_wp2
    go_ret
    exact ⟨ret_int (by unfold hexI; repeat' split <;> omega), rfl⟩

theorem digit_at (c : UInt8) (w : World) : Calls Try.prog 64 #[.int .u8 (c.toNat : Int)] w fun e w' => e = .returned (.int .i64 (hex c)) ∧ w' = w :=
  digit_calls _ w (by omega) (by have := c.toNat_lt; omega)

theorem byte_snoc (acc : List UInt8) (c : UInt8) : Lib.byteCells (acc ++ [c]) = Lib.byteCells acc ++ [Value.int .u8 c.toNat] := by simp [Lib.byteCells]
theorem nib_fin : ∀ x y : Fin 16, bits BinOp.or IntKind.i64 ((x.val : Int) * 16) (y.val : Int) % 256 = ((16 * (x.val : Int) + (y.val : Int)).toNat.toUInt8.toNat : Int) := by decide +kernel
theorem nib (X Y : Int) (h0 : 0 ≤ X) (h1 : X ≤ 15) (h2 : 0 ≤ Y) (h3 : Y ≤ 15) : bits BinOp.or IntKind.i64 (X * 16) Y % 256 = ((16 * X + Y).toNat.toUInt8.toNat : Int) := by
  obtain ⟨x, rfl⟩ := Int.eq_ofNat_of_zero_le h0
  obtain ⟨y, rfl⟩ := Int.eq_ofNat_of_zero_le h2
  exact nib_fin ⟨x, by omega⟩ ⟨y, by omega⟩

set_option maxHeartbeats 4000000 in
set_option maxRecDepth 100000 in
theorem percent_calls (s : ByteArray) (w : World) (hs : s.size ≤ 140737488351232) :
    Calls Try.prog 48 #[.string s] w fun e w' => e = .returned (.string ⟨(percent s.data.toList).toArray⟩) ∧ Below w.heap.size w w' := by
  go_enter Try.func48, Try.ntmps48
  go_wp2_with fail
  go_loopw [4] (fun f wr => ∃ (i : Nat) (acc : List UInt8), Lib.IsBuilder 54 5 w.heap.size w.heap.size (Lib.byteCells acc) wr ∧ Below w.heap.size w wr ∧ Hid (acc ++ percent (s.data.toList.drop i) = percent s.data.toList) ∧ i ≤ s.size ∧ acc.length ≤ i ∧ f = .int .i64 i) (fun f _ => s.size - (intOf f).toNat)
  case atStart => exact ⟨0, [], Lib.fresh_isBuilder _ _ w, (Below.refl _ w).alloc (Nat.le_refl _) _, hid rfl, Nat.zero_le _, by simp, rfl⟩
  case round =>
    obtain ⟨i, acc, hI, hbw, hacc, his, hal, rfl⟩ := hrel
    have hsz : w.heap.size ≤ wr.heap.size := hbw.size
    by_cases hlt : i < s.size
    · have hc := byte_at s i hlt
      by_cases hm : s[i].toNat = 37 ∧ i + 2 < s.size
      · obtain ⟨h37, hlen⟩ := hm
        have hc1 := byte_at s (i + 1) (by omega)
        have hc2 := byte_at s (i + 2) (by omega)
        have j37 : ((s[i].toNat : Int) == 37) = true := by rw [beq_iff_eq]; omega
        have b1 : (0 : Int) ≤ (i : Int) + 1 ∧ (i : Int) + 1 < (s.size : Int) := by omega
        have b2 : (0 : Int) ≤ (i : Int) + 2 ∧ (i : Int) + 2 < (s.size : Int) := by omega
        have h37' := hid h37
        clear h37
        have hc' := hid hc
        have hc1' := hid hc1
        have hc2' := hid hc2
        clear hc hc1 hc2
        go_upto_region 6 with fail
        have w1 : IntKind.i64.wrap ((i : Int) + 1) = (i : Int) + 1 := IntWalk.i64_in _ (by omega)
        have w2 : IntKind.i64.wrap ((i : Int) + 2) = (i : Int) + 2 := IntWalk.i64_in _ (by omega)
        have p1 : (0 : Int) ≤ (i : Int) + 1 := by omega
        have p2 : (0 : Int) ≤ (i : Int) + 2 := by omega
        have n1 : ((i : Int) + 1).toNat = i + 1 := by omega
        have n2 : ((i : Int) + 2).toNat = i + 2 := by omega
        go_quiet ((go_at_call 64; exact Calls.quiet_of_same (digit_at _ _)))
        clear w1 w2
        have hI2 : Lib.IsBuilder 54 5 w.heap.size w.heap.size (Lib.byteCells acc) (wr.drewN nq) := hI
        have hsz2 : w.heap.size ≤ (wr.drewN nq).heap.size := hsz
        have rx := hexI_range (s[i + 1].toNat : Int)
        have ry := hexI_range (s[i + 2].toNat : Int)
        obtain ⟨X, hX⟩ : ∃ X, hex s[i + 1] = X := ⟨_, rfl⟩
        obtain ⟨Y, hY⟩ : ∃ Y, hex s[i + 2] = Y := ⟨_, rfl⟩
        rw [show hexI (s[i + 1].toNat : Int) = X from hX] at rx
        rw [show hexI (s[i + 2].toNat : Int) = Y from hY] at ry
        rw [hX, hY]
        have hX' := hid hX
        have hY' := hid hY
        clear hX hY
        by_cases hx : 0 ≤ X
        · by_cases hy : 0 ≤ Y
          · have hq := hid (percent_mark hc'.out hc1'.out hc2'.out h37'.out (by rw [hX'.out]; exact hx) (by rw [hY'.out]; exact hy))
            have hcell := hid (byte_snoc acc (16 * X + Y).toNat.toUInt8)
            go_wp2_with fail
            rw [nib X Y hx rx.2 hy ry.2]
            refine (Try.Builder_WriteByte w.heap.size w.heap.size _ _ _ hI2 (by rw [Lib.byteCells_length]; omega) hsz2).mono ?_
            rintro e w' ⟨rfl, h1, b3⟩
            go_wp2_with fail
            go_roundw
            case rel => exact ⟨i + 3, acc ++ [(16 * X + Y).toNat.toUInt8], by rw [hcell.out]; exact Or.inr h1, (below_drewN' hbw nq).trans b3, hid (by rw [List.append_assoc]; rw [hX'.out, hY'.out] at hq; rw [← hacc.out, hq.out]; rfl), by omega, by simp; omega, by go_num⟩
            case measure => simp [intOf]; omega
          · have hq := hid (percent_one hc'.out (.inr (.inr ⟨_, _, hc1'.out, hc2'.out, .inr (by rw [hY'.out]; omega)⟩)))
            have hcell := hid (byte_snoc acc s[i])
            go_wp2_with fail
            refine (Try.Builder_WriteByte w.heap.size w.heap.size _ _ _ hI2 (by rw [Lib.byteCells_length]; omega) hsz2).mono ?_
            rintro e w' ⟨rfl, h1, b3⟩
            go_wp2_with fail
            go_roundw
            case rel => exact ⟨i + 1, acc ++ [s[i]], by rw [hcell.out]; exact Or.inr h1, (below_drewN' hbw nq).trans b3, hid (by rw [List.append_assoc, ← hacc.out, hq.out]; rfl), by omega, by simp; omega, by go_num⟩
            case measure => simp [intOf]; omega
        · have hq := hid (percent_one hc'.out (.inr (.inr ⟨_, _, hc1'.out, hc2'.out, .inl (by rw [hX'.out]; omega)⟩)))
          have hcell := hid (byte_snoc acc s[i])
          go_wp2_with fail
          refine (Try.Builder_WriteByte w.heap.size w.heap.size _ _ _ hI2 (by rw [Lib.byteCells_length]; omega) hsz2).mono ?_
          rintro e w' ⟨rfl, h1, b3⟩
          go_wp2_with fail
          go_roundw
          case rel => exact ⟨i + 1, acc ++ [s[i]], by rw [hcell.out]; exact Or.inr h1, (below_drewN' hbw nq).trans b3, hid (by rw [List.append_assoc, ← hacc.out, hq.out]; rfl), by omega, by simp; omega, by go_num⟩
          case measure => simp [intOf]; omega
      · have hq := hid (percent_one hc (by simp only [Array.length_toList]; show _ ∨ s.size ≤ _ ∨ _; omega))
        have hcell := hid (byte_snoc acc s[i])
        clear hc
        by_cases h37 : s[i].toNat = 37
        · have hlen : ¬ (i : Int) + 2 < (s.size : Int) := by omega
          have j37 : ((s[i].toNat : Int) == 37) = true := by rw [beq_iff_eq]; omega
          have h37' := hid h37
          clear h37 hm
          go_wp2_with (go_at_call 63; refine (Try.Builder_WriteByte w.heap.size w.heap.size _ _ _ hI (by rw [Lib.byteCells_length]; omega) hsz).mono ?_; rintro e w' ⟨rfl, h1, b3⟩)
          go_roundw
          case rel => exact ⟨i + 1, acc ++ [s[i]], by rw [hcell.out]; exact Or.inr h1, hbw.trans b3, hid (by rw [List.append_assoc, ← hacc.out, hq.out]; rfl), by omega, by simp; omega, by go_num⟩
          case measure => simp [intOf]; omega
        · have j37 : ((s[i].toNat : Int) == 37) = false := by rw [beq_eq_false_iff_ne]; omega
          clear h37 hm
          go_wp2_with (go_at_call 63; refine (Try.Builder_WriteByte w.heap.size w.heap.size _ _ _ hI (by rw [Lib.byteCells_length]; omega) hsz).mono ?_; rintro e w' ⟨rfl, h1, b3⟩)
          go_roundw
          case rel => exact ⟨i + 1, acc ++ [s[i]], by rw [hcell.out]; exact Or.inr h1, hbw.trans b3, hid (by rw [List.append_assoc, ← hacc.out, hq.out]; rfl), by omega, by simp; omega, by go_num⟩
          case measure => simp [intOf]; omega
    · go_wp2_with (go_at_call 38; refine (Try.Builder_String_any w.heap.size w.heap.size _ _ hI hsz).mono ?_; rintro e w' ⟨rfl, b1⟩)
      go_ret
      obtain rfl : i = s.size := by omega
      refine ⟨ret_str ?_, hbw.trans b1⟩
      rw [← hacc.out]
      rw [List.drop_of_length_le (by simp), percent_short [] (by simp)]
      simp
end Go.Proofs.Ytakhldahohooiaa
/- link.Scheme, link.Script, link.Source. -/
namespace Go.Proofs.Ytakhldahohooiaa
set_option linter.unusedVariables false
set_option linter.unusedSimpArgs false
open Go.RowKit Go.Lib

/-- What the closure of Scheme tells of a rune. -/
def oddI (r : Int) : Bool := !(decide (r < 128) && letterI r) && !decide (48 ≤ r ∧ r ≤ 57) && decide (r ≠ 43) && decide (r ≠ 45) && decide (r ≠ 46)
theorem oddI_true (r : Int) : oddI r = true ↔ (r < 128 → letterI r = false) ∧ ¬ (48 ≤ r ∧ r ≤ 57) ∧ r ≠ 43 ∧ r ≠ 45 ∧ r ≠ 46 := by
  unfold oddI
  simp only [Bool.and_eq_true, Bool.not_eq_true', Bool.and_eq_false_imp, decide_eq_true_eq, decide_eq_false_iff_not, and_assoc]
set_option maxHeartbeats 4000000 in
theorem odd_at (w : World) : PredAt Try.prog 59 #[] encR (fun r : Nat => oddI r) w := fun W n _ => by
  unfold FnGives
  obtain ⟨r, hr⟩ : ∃ r : Int, (n : Int) = r := ⟨_, rfl⟩
  have h0 : 0 ≤ r := by omega
  show Calls Try.prog _ #[.int .i32 (n : Int)] W fun e w' => e = .returned (.bool (oddI (n : Int))) ∧ ∃ q, w' = W.drewN q
  rw [hr]
  clear hr
  obtain ⟨B, hB⟩ : ∃ B, oddI r = B := ⟨_, rfl⟩
  have hB' : Hid (B = true ↔ (r < 128 → letterI r = false) ∧ ¬ (48 ≤ r ∧ r ≤ 57) ∧ r ≠ 43 ∧ r ≠ 45 ∧ r ≠ 46) := hB ▸ oddI_true r
  rw [hB]
  clear hB
  rcases (by omega : r < 43 ∨ (43 ≤ r ∧ r ≤ 43) ∨ (44 ≤ r ∧ r ≤ 44) ∨ (45 ≤ r ∧ r ≤ 45) ∨ (46 ≤ r ∧ r ≤ 46) ∨ (47 ≤ r ∧ r ≤ 47) ∨ (48 ≤ r ∧ r ≤ 57) ∨ (58 ≤ r ∧ r ≤ 64) ∨ (65 ≤ r ∧ r ≤ 90) ∨ (91 ≤ r ∧ r ≤ 96) ∨ (97 ≤ r ∧ r ≤ 122) ∨ (123 ≤ r ∧ r ≤ 127) ∨ 128 ≤ r) with h | ⟨h, h'⟩ | ⟨h, h'⟩ | ⟨h, h'⟩ | ⟨h, h'⟩ | ⟨h, h'⟩ | ⟨h, h'⟩ | ⟨h, h'⟩ | ⟨h, h'⟩ | ⟨h, h'⟩ | ⟨h, h'⟩ | ⟨h, h'⟩ | h
  all_goals
    cases hl : letterI r
    all_goals
      first
        | (exfalso; simp [letterI] at hl; omega)
        | (have cl : r < 256 → Calls Try.prog 58 #[.int .u8 r] W _ := fun h1 => letter_calls r W h0 h1
           rw [hl] at cl
           have hl' := hid hl
           clear hl
           go_enter Try.func59, Try.ntmps59
           go_wp2_with (go_at_call 58; refine (cl (by omega)).mono ?_; rintro e w' ⟨rfl, rfl⟩)
           go_ret
           refine ⟨ret_bool ?_, 0, rfl⟩
           have hb := hB'.out
           rw [hl'.out] at hb
           rw [Bool.eq_iff_iff, hb]
           simp
           try omega)

/-- May a byte stand in a scheme? -/
def inScheme (c : UInt8) : Bool := letter c || decide (48 ≤ c.toNat ∧ c.toNat ≤ 57) || decide (c.toNat = 43) || decide (c.toNat = 45) || decide (c.toNat = 46)
theorem letter_lt {c : UInt8} (h : letter c = true) : c.toNat < 128 := by
  unfold letter letterI at h
  simp only [Bool.or_eq_true, decide_eq_true_eq] at h
  omega
theorem inScheme_lt {c : UInt8} (h : inScheme c = true) : c.toNat < 128 := by
  unfold inScheme at h
  simp only [Bool.or_eq_true, decide_eq_true_eq] at h
  rcases h with (((h | h) | h) | h) | h
  · exact letter_lt h
  all_goals omega
theorem odd_in (c : UInt8) (h : c.toNat < 128) : oddI (c.toNat : Int) = true ↔ inScheme c = false := by
  rw [oddI_true]
  unfold inScheme
  simp only [Bool.or_eq_false_iff, decide_eq_false_iff_not]
  show ((c.toNat : Int) < 128 → letter c = false) ∧ _ ↔ _
  constructor
  · rintro ⟨h1, h2, h3, h4, h5⟩
    exact ⟨⟨⟨⟨h1 (by omega), by omega⟩, by omega⟩, by omega⟩, by omega⟩
  · rintro ⟨⟨⟨⟨h1, h2⟩, h3⟩, h4⟩, h5⟩
    exact ⟨fun _ => h1, by omega, by omega, by omega, by omega⟩
theorem odd_big (n : Nat) (h : 128 ≤ n) : oddI (n : Int) = true := by
  rw [oddI_true]
  exact ⟨fun h' => by omega, by omega, by omega, by omega, by omega⟩
theorem idx_odd (s : ByteArray) : ∀ f pos, s.size ≤ pos + f → (0 ≤ Lib.idxFuncFrom (fun r : Nat => oddI r) true s f pos ↔ (s.data.toList.drop pos).all inScheme = false)
  | 0, pos, h => by
    rw [List.drop_of_length_le (by rw [← Lib.size_eq]; omega)]
    simp [Lib.idxFuncFrom]
  | f + 1, pos, h => by
    unfold Lib.idxFuncFrom
    by_cases hp : pos < s.size
    · rw [if_pos hp, drop_one (byte_at s pos hp), List.all_cons]
      by_cases ha : s[pos].toNat < 128
      · rw [decode_ascii s pos hp ha]
        have hoi := odd_in s[pos] ha
        cases hin : inScheme s[pos] with
        | true =>
          have hno : oddI (s[pos].toNat : Int) = false := by
            cases ho : oddI (s[pos].toNat : Int) with
            | true => rw [hoi.1 ho] at hin; cases hin
            | false => rfl
          simp only [hno, Bool.false_eq_true, if_false, Bool.true_and]
          exact idx_odd s f (pos + 1) (by omega)
        | false =>
          simp only [hoi.2 hin, if_true, Bool.false_and, iff_true]
          omega
      · have hb := (decode_high s pos hp (by omega)).1
        have hin : inScheme s[pos] = false := by
          cases hin : inScheme s[pos] with
          | true => exact absurd (inScheme_lt hin) ha
          | false => rfl
        simp only [odd_big _ hb, if_true, hin, Bool.false_and, iff_true]
        omega
    · rw [if_neg hp, List.drop_of_length_le (by rw [← Lib.size_eq]; omega)]
      simp
theorem contains_odd (s : ByteArray) : decide (0 ≤ Lib.idxFunc (fun r : Nat => oddI r) true s) = !s.data.toList.all inScheme := by
  have h := idx_odd s s.size 0 (by omega)
  rw [List.drop_zero] at h
  unfold Lib.idxFunc
  rw [Bool.eq_iff_iff, decide_eq_true_eq, h]
  simp

def okName : List UInt8 → Bool
  | [] => false
  | c :: t => letter c && (c :: t).all inScheme
/-- An address's scheme. -/
def scheme (l : List UInt8) : Option (List UInt8) :=
  if (strip l).contains 58 && okName (bef 58 (strip l)) then some (lower (bef 58 (strip l))) else none

theorem strip_le (l : List UInt8) : (strip l).length ≤ l.length := by
  unfold strip
  refine Nat.le_trans (List.length_filter_le _ _) ?_
  have h1 := tail_le ws (l.dropWhile ws)
  have h2 := (List.dropWhile_sublist ws (l := l)).length_le
  unfold tail at h1
  omega

set_option maxHeartbeats 4000000 in
set_option maxRecDepth 100000 in
theorem scheme_calls (s : ByteArray) (w : World) (hs : s.size ≤ 140737488351232) :
    Calls Try.prog 45 #[.string s] w fun e w' => e = .returned (.tuple #[.string ⟨((scheme s.data.toList).getD []).toArray⟩, .bool (scheme s.data.toList).isSome]) ∧ Below w.heap.size w w' := by
  have hst := strip_calls s w hs
  have hl := strip_le s.data.toList
  rw [← Lib.size_eq] at hl
  unfold scheme
  obtain ⟨T, hT⟩ : ∃ T : ByteArray, (⟨(strip s.data.toList).toArray⟩ : ByteArray) = T := ⟨_, rfl⟩
  have hT' : strip s.data.toList = T.data.toList := by rw [← hT]
  rw [hT'] at hst hl ⊢
  rw [Lib.mk_data] at hst
  rw [← Lib.size_eq] at hl
  clear hT hT'
  have hcut := fun (W : World) => cut_calls 58 T W (by omega)
  obtain ⟨N, hN⟩ : ∃ N : ByteArray, (⟨(bef 58 T.data.toList).toArray⟩ : ByteArray) = N := ⟨_, rfl⟩
  have hN' : bef 58 T.data.toList = N.data.toList := by rw [← hN]
  have hNl := bef_le 58 T.data.toList
  rw [hN', ← Lib.size_eq, ← Lib.size_eq] at hNl
  rw [hN'] at hcut ⊢
  rw [Lib.mk_data] at hcut
  have hlow := fun (W : World) => lower_calls N W (by omega)
  have hcon := fun (W : World) => Try.strings_ContainsFunc 59 #[] (enters_of Try.func59 (by kernel_rfl) rfl) _ N W (odd_at W)
  rw [contains_odd] at hcon
  obtain ⟨R, hR⟩ : ∃ R : ByteArray, (⟨(aft 58 T.data.toList).toArray⟩ : ByteArray) = R := ⟨_, rfl⟩
  rw [hR] at hcut
  clear hR hN hN'
  have hst' := hid hst
  have hcut' := hid hcut
  have hlow' := hid hlow
  have hcon' := hid hcon
  clear hst hcut hlow hcon
  cases hc : T.data.toList.contains 58 with
  | false =>
    rw [hc] at hcut'
    clear hc
    rw [Bool.false_and, if_neg (by simp)]
    go_enter Try.func45, Try.ntmps45
    go_wp2_with (first | (go_at_call 47; refine hst'.out.mono ?_; rintro e w1 ⟨rfl, b1⟩) | (go_at_call 46; refine (hcut'.out _).mono ?_; rintro e w2 ⟨rfl, n2, rfl⟩))
    go_ret2
    exact ⟨rfl, below_drewN' b1 n2⟩
  | true =>
    rw [hc] at hcut'
    clear hc
    rw [Bool.true_and]
    cases hn : N.data.toList with
    | nil =>
      have hN : N = ⟨#[]⟩ := by rw [← Lib.mk_data N, hn]
      subst hN
      rw [show okName [] = false from rfl, if_neg (by simp)]
      clear hn
      go_enter Try.func45, Try.ntmps45
      go_wp2_with (first | (go_at_call 47; refine hst'.out.mono ?_; rintro e w1 ⟨rfl, b1⟩) | (go_at_call 46; refine (hcut'.out _).mono ?_; rintro e w2 ⟨rfl, n2, rfl⟩))
      go_ret2
      exact ⟨rfl, below_drewN' b1 n2⟩
    | cons c t =>
      have hpos : 0 < N.size := by rw [Lib.size_eq, hn]; simp
      have hc0 : N[0] = c := by have := byte_at N 0 hpos; rw [hn] at this; simpa using this.symm
      have hne : ¬ N.toList = [] := by rw [Lib.toList_data, hn]; simp
      have hne' : N.toList.isEmpty = false := by rw [Lib.toList_data, hn]; rfl
      have hlet : ∀ W : World, Calls Try.prog 58 #[.int .u8 ((N[0]'hpos).toNat : Int)] W fun e w' => e = .returned (.bool (letter c)) ∧ w' = W := by rw [hc0]; exact letter_at c
      have hok : okName N.data.toList = (letter c && N.data.toList.all inScheme) := by rw [hn]; rfl
      rw [← hn, hok]
      clear hok hn hc0
      cases hlc : letter c with
      | false =>
        rw [hlc] at hlet
        clear hlc
        have hlet' := hid hlet
        clear hlet
        rw [Bool.false_and, if_neg (by simp)]
        go_enter Try.func45, Try.ntmps45
        go_wp2_with (first | (go_at_call 47; refine hst'.out.mono ?_; rintro e w1 ⟨rfl, b1⟩) | (go_at_call 46; refine (hcut'.out _).mono ?_; rintro e w2 ⟨rfl, n2, rfl⟩) | (go_at_call 58; refine (hlet'.out _).mono ?_; rintro e w3 ⟨rfl, rfl⟩))
        go_ret2
        exact ⟨rfl, below_drewN' b1 n2⟩
      | true =>
        rw [hlc] at hlet
        clear hlc
        have hlet' := hid hlet
        clear hlet
        rw [Bool.true_and]
        cases hal : N.data.toList.all inScheme with
        | false =>
          rw [hal] at hcon'
          clear hal
          rw [if_neg (by simp)]
          go_enter Try.func45, Try.ntmps45
          go_wp2_with (first | (go_at_call 47; refine hst'.out.mono ?_; rintro e w1 ⟨rfl, b1⟩) | (go_at_call 46; refine (hcut'.out _).mono ?_; rintro e w2 ⟨rfl, n2, rfl⟩) | (go_at_call 58; refine (hlet'.out _).mono ?_; rintro e w3 ⟨rfl, rfl⟩) | (go_at_call 60; refine (hcon'.out _).mono ?_; rintro e w4 ⟨rfl, b4⟩))
          go_ret2
          exact ⟨rfl, (below_drewN' b1 n2).trans (b4.mono b1.size)⟩
        | true =>
          rw [hal] at hcon'
          clear hal
          rw [if_pos rfl]
          go_enter Try.func45, Try.ntmps45
          go_wp2_with (first | (go_at_call 47; refine hst'.out.mono ?_; rintro e w1 ⟨rfl, b1⟩) | (go_at_call 46; refine (hcut'.out _).mono ?_; rintro e w2 ⟨rfl, n2, rfl⟩) | (go_at_call 58; refine (hlet'.out _).mono ?_; rintro e w3 ⟨rfl, rfl⟩) | (go_at_call 60; refine (hcon'.out _).mono ?_; rintro e w4 ⟨rfl, b4⟩) | (go_at_call 61; refine (hlow'.out _).mono ?_; rintro e w5 ⟨rfl, b5⟩))
          go_ret2
          exact ⟨rfl, ((below_drewN' b1 n2).trans (b4.mono b1.size)).trans (b5.mono (Nat.le_trans b1.size b4.size))⟩

end Go.Proofs.Ytakhldahohooiaa
/- link.Script's and link.Source's contracts. -/
namespace Go.Proofs.Ytakhldahohooiaa
set_option linter.unusedVariables false
set_option linter.unusedSimpArgs false
open Go.RowKit Go.Lib

/-! ### Script, Source -/
def js : List UInt8 := [106, 97, 118, 97, 115, 99, 114, 105, 112, 116]
def script (l : List UInt8) : Bool := ((scheme l).getD []) == js
def source (l : List UInt8) : Option (List UInt8) := if script l then some (percent (aft 58 (strip l))) else none

set_option maxHeartbeats 4000000 in
set_option maxRecDepth 100000 in
theorem script_calls (s : ByteArray) (w : World) (hs : s.size ≤ 140737488351232) :
    Calls Try.prog 32 #[.string s] w fun e w' => e = .returned (.bool (script s.data.toList)) ∧ Below w.heap.size w w' := by
  have hc := scheme_calls s w hs
  unfold script
  obtain ⟨N, hN⟩ : ∃ N : ByteArray, (⟨((scheme s.data.toList).getD []).toArray⟩ : ByteArray) = N := ⟨_, rfl⟩
  have hN' : (scheme s.data.toList).getD [] = N.data.toList := by rw [← hN]
  rw [hN'] at hc ⊢
  rw [Lib.mk_data] at hc
  obtain ⟨B, hB⟩ : ∃ B, (scheme s.data.toList).isSome = B := ⟨_, rfl⟩
  rw [hB] at hc
  clear hB hN' hN
  have hc' := hid hc
  clear hc
  go_enter Try.func32, Try.ntmps32
  go_wp2_with (go_at_call 45; refine hc'.out.mono ?_; rintro e w1 ⟨rfl, b1⟩)
  go_ret
  exact ⟨ret_bool (by rw [Lib.toList_data]; rfl), b1⟩

set_option maxHeartbeats 4000000 in
set_option maxRecDepth 100000 in
theorem source_calls (s : ByteArray) (w : World) (hs : s.size ≤ 140737488351232) :
    Calls Try.prog 33 #[.string s] w fun e w' => e = .returned (.tuple #[.string ⟨((source s.data.toList).getD []).toArray⟩, .bool (source s.data.toList).isSome]) ∧ Below w.heap.size w w' := by
  have hc := script_calls s w hs
  have hst := fun (W : World) => strip_calls s W hs
  have hl := strip_le s.data.toList
  rw [← Lib.size_eq] at hl
  unfold source
  obtain ⟨T, hT⟩ : ∃ T : ByteArray, (⟨(strip s.data.toList).toArray⟩ : ByteArray) = T := ⟨_, rfl⟩
  have hT' : strip s.data.toList = T.data.toList := by rw [← hT]
  rw [hT'] at hst hl ⊢
  rw [Lib.mk_data] at hst
  rw [← Lib.size_eq] at hl
  clear hT hT'
  have hcut := fun (W : World) => cut_calls 58 T W (by omega)
  obtain ⟨R, hR⟩ : ∃ R : ByteArray, (⟨(aft 58 T.data.toList).toArray⟩ : ByteArray) = R := ⟨_, rfl⟩
  have hR' : aft 58 T.data.toList = R.data.toList := by rw [← hR]
  have hRl := aft_le 58 T.data.toList
  rw [hR', ← Lib.size_eq, ← Lib.size_eq] at hRl
  rw [hR'] at hcut ⊢
  rw [Lib.mk_data] at hcut
  have hper := fun (W : World) => percent_calls R W (by omega)
  obtain ⟨N, hN⟩ : ∃ N : ByteArray, (⟨(bef 58 T.data.toList).toArray⟩ : ByteArray) = N := ⟨_, rfl⟩
  obtain ⟨B, hB⟩ : ∃ B, T.data.toList.contains 58 = B := ⟨_, rfl⟩
  rw [hN, hB] at hcut
  clear hN hB hR hR'
  cases hs' : script s.data.toList with
  | false =>
    rw [hs'] at hc
    rw [if_neg (by simp)]
    have hc' := hid hc
    clear hc hst hcut hper hs'
    go_enter Try.func33, Try.ntmps33
    go_wp2_with (go_at_call 32; refine hc'.out.mono ?_; rintro e w1 ⟨rfl, b1⟩)
    go_ret2
    exact ⟨rfl, b1⟩
  | true =>
    rw [hs'] at hc
    rw [if_pos rfl]
    have hc' := hid hc
    have hst' := hid hst
    have hcut' := hid hcut
    have hper' := hid hper
    clear hc hst hcut hper hs'
    go_enter Try.func33, Try.ntmps33
    go_wp2_with (first | (go_at_call 32; refine hc'.out.mono ?_; rintro e w1 ⟨rfl, b1⟩) | (go_at_call 47; refine (hst'.out _).mono ?_; rintro e w2 ⟨rfl, b2⟩) | (go_at_call 46; refine (hcut'.out _).mono ?_; rintro e w3 ⟨rfl, n3, rfl⟩) | (go_at_call 48; refine (hper'.out _).mono ?_; rintro e w4 ⟨rfl, b4⟩))
    go_ret2
    exact ⟨rfl, (b1.trans (below_drewN' (b2.mono b1.size) n3)).trans (b4.mono (Nat.le_trans b1.size b2.size))⟩
end Go.Proofs.Ytakhldahohooiaa
/- link's and Lower's contracts in the form that the printed texts take. -/
namespace Go.Proofs.Ytakhldahohooiaa
set_option linter.unusedVariables false
set_option linter.unusedSimpArgs false
open Go.RowKit Go.Lib

def link_Strip.f (a0 : ByteArray) : Option ByteArray := bnd a0 (mkS (strip a0.data.toList))
def link_Percent.f (a0 : ByteArray) : Option ByteArray := bnd a0 (mkS (percent a0.data.toList))
def link_Scheme.f (a0 : ByteArray) : Option (ByteArray × Bool) := bnd a0 (mkS ((scheme a0.data.toList).getD []), (scheme a0.data.toList).isSome)
def link_Script.f (a0 : ByteArray) : Option Bool := bnd a0 (script a0.data.toList)
theorem link_Script.calls (a0 : ByteArray) (r : Bool) (w : World) (h : link_Script.f a0 = some r) :
    Calls Try.prog 32 #[.string a0] w fun e w' => e = .returned (.bool r) ∧ Below w.heap.size w w' := by
  obtain ⟨hs, rfl⟩ := bnd_some h
  exact script_calls a0 w hs
def link_Source.f (a0 : ByteArray) : Option (ByteArray × Bool) := bnd a0 (mkS ((source a0.data.toList).getD []), (source a0.data.toList).isSome)
theorem link_Source.calls (a0 : ByteArray) (r1 : ByteArray) (r2 : Bool) (w : World) (h : link_Source.f a0 = some (r1, r2)) :
    Calls Try.prog 33 #[.string a0] w fun e w' => e = .returned (.tuple #[.string r1, .bool r2]) ∧ Below w.heap.size w w' := by
  obtain ⟨hs, he⟩ := bnd_some h
  injection he with h1 h2
  subst h1 h2
  exact source_calls a0 w hs
def boltingref02_Lower.f (a0 : ByteArray) : Option ByteArray := bnd a0 (mkS (lower a0.data.toList))
end Go.Proofs.Ytakhldahohooiaa
/- Maps keyed by a struct of two texts: their look-up and their store, whatever the order of their entries. -/
namespace Go.Proofs.Ytakhldahohooiaa
set_option linter.unusedVariables false
set_option linter.unusedSimpArgs false
open Go.RowKit Go.Lib Go.ChangeMaps Go.Proofs.YtakhldahohooiaaW.PrintWords Go.Proofs.YtakhldahohooiaaW.PrintLast

/-- A place: an element's name, an attribute's. -/
def pk (a b : ByteArray) : Value := .agg #[.string a, .string b]
theorem pk_inj {a b c d : ByteArray} (h : pk a b = pk c d) : a = c ∧ b = d := by
  unfold pk at h
  simp at h
  exact h
section
variable (w : World)
theorem part_el (a b : ByteArray) : (part 9 #[.string a, .string b] 0).run Try.prog w = .ok (.string a) w := by
  simp [part, Try.isAgg9]
theorem part_at (a b : ByteArray) : (part 9 #[.string a, .string b] 1).run Try.prog w = .ok (.string b) w := by
  simp [part, Try.isAgg9]
theorem str_eq (d : Nat) (a c : ByteArray) : (Op.equalIn (d + 1) 9 (.string a) (.string c)).run Try.prog w = .ok (a == c) w := by
  simp [Op.equalIn, run_underlying Try.underlying9]
theorem pk_eq (a b c d : ByteArray) : (Op.equal 63 (pk a b) (pk c d)).run Try.prog w = .ok (a == c && b == d) w := by
  unfold Op.equal
  obtain ⟨m, hm⟩ : ∃ m, Op.maxDepth = m + 2 := ⟨_, rfl⟩
  rw [hm]
  exact eqA_of Try.underlying63 (by kernel_rfl) (eqf_cons rfl (part_el w a b) (part_el w c d) (str_eq w m a c) (eqf_last rfl (part_at w a b) (part_at w c d) (str_eq w m b d)))
theorem str_check (em : Bool) (n : Nat) (a : ByteArray) : (Instr.checkKey em (n + 1) 9 (.string a)).run Try.prog w = .ok () w := by
  simp [Instr.checkKey, run_underlying Try.underlying9]
theorem pk_check (em : Bool) (a b : ByteArray) : (Instr.checkKey em 10000 63 (pk a b)).run Try.prog w = .ok () w := by
  show (Instr.checkKey em (9998 + 1 + 1) _ _).run _ _ = _
  generalize 9998 = m
  have h0 := part_el w a b
  have h1 := part_at w a b
  have c0 := str_check w em m a
  have c1 := str_check w em m b
  unfold pk
  simp [Instr.checkKey, run_underlying Try.underlying63, Result.andThen, h0, h1, c0, c1]
open Classical in
/-- The first entry at a place. -/
noncomputable def findp (a b : ByteArray) : List MapEntry → Nat → Option (Nat × Value)
  | [], _ => none
  | e :: es, i => if e.key = pk a b then some (i, e.val) else findp a b es (i + 1)
theorem find_run (a b : ByteArray) : ∀ (es : List MapEntry) (i : Nat), (∀ e ∈ es, ∃ c d, e.key = pk c d) → (Instr.findAsking 63 (pk a b) es i).run Try.prog w = .ok (findp a b es i) w
  | [], i, _ => by simp [Instr.findAsking, findp]
  | e :: es, i, h => by
    obtain ⟨c, d, hk⟩ := h e (by simp)
    have he := pk_eq w a b c d
    have ih := find_run a b es (i + 1) (fun x hx => h x (by simp [hx]))
    unfold findp
    by_cases hc : e.key = pk a b
    · rw [if_pos hc]
      have := pk_inj (hk.symm.trans hc)
      rw [this.1, this.2] at hk he
      rw [show (a == a && b == b) = true by rw [Bool.and_eq_true]; exact ⟨(MapKept.bytes_beq a a).2 rfl, (MapKept.bytes_beq b b).2 rfl⟩] at he
      simp [Instr.findAsking, hk, he, Result.andThen]
    · rw [if_neg hc]
      have hb : (a == c && b == d) = false := by
        cases hb : (a == c && b == d) with
        | false => rfl
        | true =>
          rw [Bool.and_eq_true] at hb
          exact absurd (by rw [hk, ← (MapKept.bytes_beq _ _).1 hb.1, ← (MapKept.bytes_beq _ _).1 hb.2]) hc
      rw [hb] at he
      simp [Instr.findAsking, hk, he, Result.andThen]
      exact ih
theorem findKey_run (a b : ByteArray) (es : List MapEntry) (h : ∀ e ∈ es, ∃ c d, e.key = pk c d) : (Instr.findKey 63 (pk a b) es).run Try.prog w = .ok (findp a b es 0) w := by
  have hr := find_run w a b es 0 h
  cases es with
  | nil => simp [Instr.findKey, run_underlying Try.underlying63, Instr.findNow, findp, Result.andThen]
  | cons e t => simp [Instr.findKey, run_underlying Try.underlying63, Instr.findNow, Instr.sameNow, Result.andThen, hr]
end
/-! ### what a table holds: by what has been put in -/
/-- A row of a table: by which operation it comes, its place, its value. -/
structure Put where
  op : Nat
  el : ByteArray
  att : ByteArray
  val : Value
def Ent (L : List Put) (b : Nat → Bool) (es : Array MapEntry) : Prop :=
  (∀ e ∈ es.toList, ∃ q ∈ L, b q.op = true ∧ e.key = pk q.el q.att ∧ e.val = q.val) ∧ ∀ q ∈ L, b q.op = true → ∃ e ∈ es.toList, e.key = pk q.el q.att
/-- No two rows at one place. -/
def Apart (L : List Put) : Prop := ∀ p ∈ L, ∀ q ∈ L, p.el = q.el → p.att = q.att → p = q
theorem Ent.keys {L : List Put} {b : Nat → Bool} {es : Array MapEntry} (h : Ent L b es) : ∀ e ∈ es.toList, ∃ c d, e.key = pk c d := fun e he => by
  obtain ⟨q, _, _, hk, _⟩ := h.1 e he
  exact ⟨_, _, hk⟩
theorem Ent.start {L : List Put} {b : Nat → Bool} (h : ∀ q ∈ L, b q.op = false) : Ent L b #[] :=
  ⟨fun e he => by simp at he, fun q hq hb => by rw [h q hq] at hb; cases hb⟩
theorem Ent.push {L : List Put} {b : Nat → Bool} {es : Array MapEntry} (h : Ent L b es) {q : Put} (hq : q ∈ L) (ck : Nat) (hu : ∀ p ∈ L, p.op = q.op → p = q) : Ent L (up b q.op) (es.push ⟨pk q.el q.att, q.val, ck⟩) := by
  have hup : ∀ i, b i = true → up b q.op i = true := fun i hi => by unfold up; split <;> simp [hi]
  refine ⟨fun e he => ?_, fun p hp hb => ?_⟩
  · rw [Array.toList_push, List.mem_append, List.mem_singleton] at he
    rcases he with he | he
    · obtain ⟨p, hp, hb, h1, h2⟩ := h.1 e he
      exact ⟨p, hp, hup _ hb, h1, h2⟩
    · subst he
      exact ⟨q, hq, up_self b q.op, rfl, rfl⟩
  · by_cases e : p.op = q.op
    · obtain rfl := hu p hp e
      exact ⟨⟨pk p.el p.att, p.val, ck⟩, by rw [Array.toList_push]; simp, rfl⟩
    · rw [up_ne e] at hb
      obtain ⟨x, hx, hk⟩ := h.2 p hp hb
      exact ⟨x, by rw [Array.toList_push]; simp [hx], hk⟩
theorem findp_none {a b : ByteArray} : ∀ {es : List MapEntry} {i : Nat}, (∀ e ∈ es, e.key ≠ pk a b) → findp a b es i = Option.none
  | [], i, _ => rfl
  | e :: es, i, h => by
    unfold findp
    rw [if_neg (h e (by simp))]
    exact findp_none (fun x hx => h x (by simp [hx]))
theorem findp_some {a b : ByteArray} : ∀ {es : List MapEntry} {i : Nat}, (∃ e ∈ es, e.key = pk a b) → ∃ e ∈ es, e.key = pk a b ∧ ∃ j, findp a b es i = some (j, e.val)
  | [], i, h => by obtain ⟨e, he, _⟩ := h; simp at he
  | e :: es, i, h => by
    unfold findp
    by_cases hk : e.key = pk a b
    · exact ⟨e, by simp, hk, i, by rw [if_pos hk]⟩
    · obtain ⟨x, hx, hxk⟩ := h
      have hx' : x ∈ es := by
        rcases List.mem_cons.1 hx with e1 | e1
        · subst e1; exact absurd hxk hk
        · exact e1
      obtain ⟨y, hy, hyk, j, hj⟩ := findp_some (a := a) (b := b) (es := es) (i := i + 1) ⟨x, hx', hxk⟩
      exact ⟨y, by simp [hy], hyk, j, by rw [if_neg hk]; exact hj⟩
/-- What a table tells of a place. -/
def tell (L : List Put) (z : Value) (a b : ByteArray) : Value := match L.find? fun q => decide (q.el = a ∧ q.att = b) with
  | some q => q.val
  | none => z
theorem Ent.tells {L : List Put} {b : Nat → Bool} {es : Array MapEntry} (h : Ent L b es) (hA : Apart L) (hall : ∀ q ∈ L, b q.op = true) (x y : ByteArray) (z : Value) :
    (match findp x y es.toList 0 with | some (_, v) => v | none => z) = tell L z x y := by
  unfold tell
  cases hf : L.find? fun q => decide (q.el = x ∧ q.att = y) with
  | some q =>
    have hq := List.mem_of_find?_eq_some hf
    have hp := List.find?_some hf
    rw [decide_eq_true_eq] at hp
    obtain ⟨e, he, hk⟩ := h.2 q hq (hall q hq)
    rw [hp.1, hp.2] at hk
    obtain ⟨e', he', hk', j, hj⟩ := findp_some (i := 0) ⟨e, he, hk⟩
    rw [hj]
    obtain ⟨p, hp2, _, hpk, hpv⟩ := h.1 e' he'
    have := pk_inj (hpk.symm.trans hk')
    have : p = q := hA p hp2 q hq (by rw [this.1, hp.1]) (by rw [this.2, hp.2])
    subst this
    exact hpv
  | none =>
    rw [findp_none (fun e he hk => ?_)]
    obtain ⟨p, hp2, _, hpk, _⟩ := h.1 e he
    have hh := pk_inj (hpk.symm.trans hk)
    have := List.find?_eq_none.1 hf p hp2
    exact this (by rw [decide_eq_true_eq]; exact hh)
section
variable {w : World} {g ck : Nat} {es : Array MapEntry} {L : List Put} {b : Nat → Bool} {t e : TypeId}
theorem store_run (ht : Try.prog.underlying t = some (.map 63 e)) (hb : w.heap[g]? = some (.map es ck)) (h : Ent L b es) (hA : Apart L) {q : Put} (hq : q ∈ L) (hn : b q.op = false) :
    (Instr.mapUpdate t (.map (some g)) (pk q.el q.att) q.val).run Try.prog w = .ok () (setBlock w g (.map (es.push ⟨pk q.el q.att, q.val, ck⟩) (ck + 1))) := by
  have hf := findKey_run w q.el q.att es.toList h.keys
  rw [findp_none (fun x hx hk => by
    obtain ⟨p, hp, hpb, hpk, _⟩ := h.1 x hx
    have := pk_inj (hpk.symm.trans hk)
    have := hA p hp q hq this.1 this.2
    subst this
    rw [hn] at hpb; cases hpb)] at hf
  simp [Instr.mapUpdate, run_underlying ht, MapKept.run_getObj_map hb, pk_check w false q.el q.att, hf, MapKept.run_setObj_map _ hb, Result.andThen, setBlock]
theorem look_run (ht : Try.prog.underlying t = some (.map 63 e)) {z : Value} (hz : ∀ w, (zeroValue e).run Try.prog w = .ok z w) (hb : w.heap[g]? = some (.map es ck)) (h : Ent L b es) (hA : Apart L) (hall : ∀ q ∈ L, b q.op = true) (x y : ByteArray) :
    (Instr.lookup t (.map (some g)) (pk x y) false).run Try.prog w = .ok (tell L z x y) w := by
  have hf := findKey_run w x y es.toList h.keys
  have ht2 := h.tells hA hall x y z
  rw [← ht2]
  cases hfp : findp x y es.toList 0 with
  | none =>
    rw [hfp] at hf
    simp [Instr.lookup, run_underlying ht, MapKept.run_getObj_map hb, pk_check w es.isEmpty x y, hf, Result.andThen, hz]
  | some r =>
    rw [hfp] at hf
    simp [Instr.lookup, run_underlying ht, MapKept.run_getObj_map hb, pk_check w es.isEmpty x y, hf, Result.andThen]
end
end Go.Proofs.Ytakhldahohooiaa
/- risk.leads, risk.sinks: what the tables hold, whatever the order in which they are laid; risk.Nav's contract. -/
namespace Go.Proofs.Ytakhldahohooiaa
set_option linter.unusedVariables false
set_option linter.unusedSimpArgs false
open Go.RowKit Go.Lib Go.ChangeMaps Go.Proofs.YtakhldahohooiaaW.PrintWords Go.Proofs.YtakhldahohooiaaW.PrintLast

theorem op_inj : ∀ {L : List Put}, (L.map (·.op)).Nodup → ∀ p ∈ L, ∀ q ∈ L, p.op = q.op → p = q
  | [], _, p, hp, _, _, _ => by simp at hp
  | x :: L, h, p, hp, q, hq, e => by
    rw [List.map_cons, List.nodup_cons] at h
    rcases List.mem_cons.1 hp with h1 | h1 <;> rcases List.mem_cons.1 hq with h2 | h2
    · rw [h1, h2]
    · exact absurd (List.mem_map.2 ⟨q, h2, by rw [← e, h1]⟩) h.1
    · exact absurd (List.mem_map.2 ⟨p, h1, by rw [e, h2]⟩) h.1
    · exact op_inj h.2 p h1 q h2 e
theorem apart_of {L : List Put} (h : (L.map (·.op)).Nodup) (h2 : ∀ p ∈ L, ∀ q ∈ L, p.el = q.el → p.att = q.att → p.op = q.op) : Apart L := fun p hp q hq h3 h4 => op_inj h p hp q hq (h2 p hp q hq h3 h4)
theorem exec_insert {oi : Oper} {a : Act} {P : Program} {w w1 : World} {t : TypeId} {m k : Tmp} {val M K : Value} (hop : oi.op = Op.insert t (.tmp m) (.tmp k) (.const val)) (e1 : a.tmps[m]? = some M) (e2 : a.tmps[k]? = some K)
    (h : (Instr.mapUpdate t M K val).run P w = .ok () w1) : (execOp a.eval oi).run P w = .ok .skip w1 := by
  simp [execOp, hop, Act.eval, e1, e2, h, Result.andThen]
theorem exec_move {oi : Oper} {a : Act} {P : Program} {w : World} {m : Tmp} {M : Value} (hop : oi.op = Op.move (.tmp m)) (e1 : a.tmps[m]? = some M) : (execOp a.eval oi).run P w = .ok (.value M) w := by
  simp [execOp, hop, Act.eval, e1, Result.andThen]
theorem exec_assign {oi : Oper} {a : Act} {P : Program} {w : World} {m : Tmp} {M : Value} (hop : oi.op = Op.assign (.tmp m)) (e1 : a.tmps[m]? = some M) : (execOp a.eval oi).run P w = .ok (.value M) w := by
  simp [execOp, hop, Act.eval, e1, Result.andThen]
theorem below_block {w w' : World} {g : Nat} {o o' : Obj} (h : Below w.heap.size w w') (hg : w.heap.size ≤ g) : Below w.heap.size w (setBlock w' g o) :=
  h.trans ⟨rfl, rfl, rfl, by simp [setBlock], fun i hi => by
    show (w'.heap.setIfInBounds g o)[i]? = _
    rw [Array.getElem?_setIfInBounds, if_neg (by omega)]⟩

def leads_T : Bool × List (List Nat × List Nat) := (true, [([], []), ([], []), ([0, 1], [0, 1]), ([], []), ([0, 3], [0, 3]), ([], []), ([0, 5], [0, 5]), ([], []), ([0, 7], [0, 7]), ([], []), ([0, 9], [0, 9]), ([], []), ([0, 11], [0, 11]), ([], []), ([0, 13], [0, 13]), ([], []), ([0, 15], [0, 15]), ([], []), ([0, 17], [0, 17]), ([0, 1, 2, 3, 4, 5, 6, 7, 8, 9, 10, 11, 12, 13, 14, 15, 16, 17, 18], [0]), ([19, 0, 1, 2, 3, 4, 5, 6, 7, 8, 9, 10, 11, 12, 13, 14, 15, 16, 17, 18, 19], [19])])
def leads_B : List Nat := [0, 0, 3, 0, 9, 0, 33, 0, 129, 0, 513, 0, 2049, 0, 8193, 0, 32769, 0, 131073, 524287, 1048575]
theorem leads_tab : rtab .any (opsOf Try.f44 1) = leads_T := by kernel_rfl
theorem leads_bits : waitsOk leads_T.2 leads_B = true := by kernel_rfl
def leadsL : List Put := [⟨2, ⟨#[97]⟩, ⟨#[104, 114, 101, 102]⟩, .bool true⟩, ⟨4, ⟨#[97, 114, 101, 97]⟩, ⟨#[104, 114, 101, 102]⟩, .bool true⟩, ⟨6, ⟨#[98, 117, 116, 116, 111, 110]⟩, ⟨#[102, 111, 114, 109, 97, 99, 116, 105, 111, 110]⟩, .bool true⟩, ⟨8, ⟨#[101, 109, 98, 101, 100]⟩, ⟨#[115, 114, 99]⟩, .bool true⟩, ⟨10, ⟨#[102, 111, 114, 109]⟩, ⟨#[97, 99, 116, 105, 111, 110]⟩, .bool true⟩, ⟨12, ⟨#[102, 114, 97, 109, 101]⟩, ⟨#[115, 114, 99]⟩, .bool true⟩, ⟨14, ⟨#[105, 102, 114, 97, 109, 101]⟩, ⟨#[115, 114, 99]⟩, .bool true⟩, ⟨16, ⟨#[105, 110, 112, 117, 116]⟩, ⟨#[102, 111, 114, 109, 97, 99, 116, 105, 111, 110]⟩, .bool true⟩, ⟨18, ⟨#[111, 98, 106, 101, 99, 116]⟩, ⟨#[100, 97, 116, 97]⟩, .bool true⟩]
theorem leads_apart : Apart leadsL := apart_of (by decide) (by unfold leadsL; decide +kernel)
theorem leads_ops : ∀ p ∈ leadsL, ∀ q ∈ leadsL, p.op = q.op → p = q := op_inj (by decide)
set_option maxHeartbeats 4000000 in
set_option maxRecDepth 100000 in
theorem leads_calls (w : World) : Calls Try.prog 44 #[] w fun e w' => ∃ (g : Nat) (es : Array MapEntry) (ck : Nat) (b : Nat → Bool), e = .returned (.map (some g)) ∧ w.heap.size ≤ g ∧ w'.heap[g]? = some (.map es ck) ∧ Ent leadsL b es ∧ (∀ q ∈ leadsL, b q.op = true) ∧ Below w.heap.size w w' := by
  have mixed : Try.prog.follows Departure.mixedOrders = true := by kernel_rfl
  go_enter Try.func44, Try.ntmps44
  go_upto_region 1 with fail
  refine start_ (n := 21) (S := fun w' => True) (ds := []) #[false, false, false, false, false, false, false, false, false, false, false, false, false, false, false, false, false, false, false, false, false] mixed rfl rfl trivial (fun hHeld => ?_)
  refine with_tabW leads_tab leads_bits (fun HT_ HW_ => ?_)
  refine pure_ (i := 1) (N := some 2) (v := pk ⟨#[97]⟩ ⟨#[104, 114, 101, 102]⟩) #[false, true, false, false, false, false, false, false, false, false, false, false, false, false, false, false, false, false, false, false, false] rfl rfl (any_of HT_.out (by kernel_rfl)) (fun _ _ _ h => h) (Or.inl ⟨by rfl, fun w' => ?_⟩) rfl ?_
  · go_simp
    rfl
  simp only [Act.put, List.setIfInBounds_toArray, List.set_cons_zero, List.set_cons_succ]
  refine pure_ (i := 3) (N := some 3) (v := pk ⟨#[97, 114, 101, 97]⟩ ⟨#[104, 114, 101, 102]⟩) #[false, true, false, true, false, false, false, false, false, false, false, false, false, false, false, false, false, false, false, false, false] rfl rfl (any_of HT_.out (by kernel_rfl)) (fun _ _ _ h => h) (Or.inl ⟨by rfl, fun w' => ?_⟩) rfl ?_
  · go_simp
    rfl
  simp only [Act.put, List.setIfInBounds_toArray, List.set_cons_zero, List.set_cons_succ]
  refine pure_ (i := 5) (N := some 4) (v := pk ⟨#[98, 117, 116, 116, 111, 110]⟩ ⟨#[102, 111, 114, 109, 97, 99, 116, 105, 111, 110]⟩) #[false, true, false, true, false, true, false, false, false, false, false, false, false, false, false, false, false, false, false, false, false] rfl rfl (any_of HT_.out (by kernel_rfl)) (fun _ _ _ h => h) (Or.inl ⟨by rfl, fun w' => ?_⟩) rfl ?_
  · go_simp
    rfl
  simp only [Act.put, List.setIfInBounds_toArray, List.set_cons_zero, List.set_cons_succ]
  refine pure_ (i := 7) (N := some 5) (v := pk ⟨#[101, 109, 98, 101, 100]⟩ ⟨#[115, 114, 99]⟩) #[false, true, false, true, false, true, false, true, false, false, false, false, false, false, false, false, false, false, false, false, false] rfl rfl (any_of HT_.out (by kernel_rfl)) (fun _ _ _ h => h) (Or.inl ⟨by rfl, fun w' => ?_⟩) rfl ?_
  · go_simp
    rfl
  simp only [Act.put, List.setIfInBounds_toArray, List.set_cons_zero, List.set_cons_succ]
  refine pure_ (i := 9) (N := some 6) (v := pk ⟨#[102, 111, 114, 109]⟩ ⟨#[97, 99, 116, 105, 111, 110]⟩) #[false, true, false, true, false, true, false, true, false, true, false, false, false, false, false, false, false, false, false, false, false] rfl rfl (any_of HT_.out (by kernel_rfl)) (fun _ _ _ h => h) (Or.inl ⟨by rfl, fun w' => ?_⟩) rfl ?_
  · go_simp
    rfl
  simp only [Act.put, List.setIfInBounds_toArray, List.set_cons_zero, List.set_cons_succ]
  refine pure_ (i := 11) (N := some 7) (v := pk ⟨#[102, 114, 97, 109, 101]⟩ ⟨#[115, 114, 99]⟩) #[false, true, false, true, false, true, false, true, false, true, false, true, false, false, false, false, false, false, false, false, false] rfl rfl (any_of HT_.out (by kernel_rfl)) (fun _ _ _ h => h) (Or.inl ⟨by rfl, fun w' => ?_⟩) rfl ?_
  · go_simp
    rfl
  simp only [Act.put, List.setIfInBounds_toArray, List.set_cons_zero, List.set_cons_succ]
  refine pure_ (i := 13) (N := some 8) (v := pk ⟨#[105, 102, 114, 97, 109, 101]⟩ ⟨#[115, 114, 99]⟩) #[false, true, false, true, false, true, false, true, false, true, false, true, false, true, false, false, false, false, false, false, false] rfl rfl (any_of HT_.out (by kernel_rfl)) (fun _ _ _ h => h) (Or.inl ⟨by rfl, fun w' => ?_⟩) rfl ?_
  · go_simp
    rfl
  simp only [Act.put, List.setIfInBounds_toArray, List.set_cons_zero, List.set_cons_succ]
  refine pure_ (i := 15) (N := some 9) (v := pk ⟨#[105, 110, 112, 117, 116]⟩ ⟨#[102, 111, 114, 109, 97, 99, 116, 105, 111, 110]⟩) #[false, true, false, true, false, true, false, true, false, true, false, true, false, true, false, true, false, false, false, false, false] rfl rfl (any_of HT_.out (by kernel_rfl)) (fun _ _ _ h => h) (Or.inl ⟨by rfl, fun w' => ?_⟩) rfl ?_
  · go_simp
    rfl
  simp only [Act.put, List.setIfInBounds_toArray, List.set_cons_zero, List.set_cons_succ]
  refine pure_ (i := 17) (N := some 10) (v := pk ⟨#[111, 98, 106, 101, 99, 116]⟩ ⟨#[100, 97, 116, 97]⟩) #[false, true, false, true, false, true, false, true, false, true, false, true, false, true, false, true, false, true, false, false, false] rfl rfl (any_of HT_.out (by kernel_rfl)) (fun _ _ _ h => h) (Or.inl ⟨by rfl, fun w' => ?_⟩) rfl ?_
  · go_simp
    rfl
  simp only [Act.put, List.setIfInBounds_toArray, List.set_cons_zero, List.set_cons_succ]
  refine inv_at [0, 2, 4, 6, 8, 10, 12, 14, 16, 18, 19, 20] (fun a0_ b a w' => ∃ (g : Nat) (es : Array MapEntry) (ck : Nat) (m1 m2 : Value), a = putSel a0_ b [(0, 1, .map (some g)), (19, 11, m1), (20, 0, m2)] ∧ Below w.heap.size w w' ∧ (b 0 = true → w.heap.size ≤ g ∧ w'.heap[g]? = some (.map es ck) ∧ Ent leadsL b es) ∧ (b 19 = true → b 0 = true ∧ m1 = .map (some g)) ∧ (b 20 = true → b 0 = true ∧ m2 = .map (some g))) HT_.out HW_.out (by kernel_rfl) (by kernel_rfl) ?_ ?_ ?_
  · exact ⟨0, #[], 0, .bool false, .bool false, by simp only [putSel, Bool.false_eq_true, if_false], below_drew (Below.refl _ _), fun h_ => absurd h_ (by decide), fun h_ => absurd h_ (by decide), fun h_ => absurd h_ (by decide)⟩
  · refine steps_cons ?_ ?_
    · rintro b a w' ⟨g, es, ck, m1, m2, ha, hb, h0, h1, h2⟩ hb_ hon hoff
      refine ⟨_, rfl, fun K hK => ?_⟩
      refine value_ (w1 := w'.alloc (.map #[] 0)) (v := .map (some w'.heap.size)) (by rfl) rfl ?_ ?_
      · go_simp
        rfl
      · refine hK.out _ _ ⟨w'.heap.size, #[], 0, m1, m2, by rw [ha]; exact putSel_upk 0 hb_ rfl rfl rfl, hb.alloc hb.size _, fun _ => ⟨hb.size, (MapKept.heap_alloc w' _).1, Ent.start (fun q hq => ?_)⟩, fun h_ => ?_, fun h_ => ?_⟩
        · simp only [leadsL, List.mem_cons, List.not_mem_nil, or_false] at hq
          rcases hq with rfl | rfl | rfl | rfl | rfl | rfl | rfl | rfl | rfl
          all_goals exact (up_ne (by decide)).trans (hoff _ (by kernel_rfl))
        · rw [up_ne (by decide)] at h_; rw [(h1 h_).1] at hb_; cases hb_
        · rw [up_ne (by decide)] at h_; rw [(h2 h_).1] at hb_; cases hb_
    refine steps_cons ?_ ?_
    · rintro b a w' ⟨g, es, ck, m1, m2, ha, hb, h0, h1, h2⟩ hb_ hon hoff
      refine ⟨_, rfl, fun K hK => ?_⟩
      have hb0 := hon 0 (by kernel_rfl)
      have e1 : a.tmps[1]? = some (.map (some g)) := by rw [ha]; exact putSel_on (e := (0, 1, .map (some g))) 0 rfl rfl hb0 rfl
      have e2 : a.tmps[2]? = some (pk ⟨#[97]⟩ ⟨#[104, 114, 101, 102]⟩) := by rw [ha]; exact (putSel_off rfl).trans rfl
      obtain ⟨k1, k2, k3⟩ := h0 hb0
      have hq : (⟨2, ⟨#[97]⟩, ⟨#[104, 114, 101, 102]⟩, .bool true⟩ : Put) ∈ leadsL := by unfold leadsL; repeat (first | exact List.mem_cons_self | apply List.mem_cons_of_mem)
      refine skip_ (by rfl) rfl (exec_insert rfl e1 e2 (store_run Try.underlying60 k2 k3 leads_apart hq hb_)) ?_
      refine hK.out _ _ ⟨g, _, _, m1, m2, ha.trans (putSel_same rfl).symm, below_block hb k1 (o' := .map #[] 0), fun _ => ⟨k1, heap_setBlock_same k2 _, k3.push hq ck (fun p hp he => leads_ops p hp _ hq he)⟩, fun h_ => ?_, fun h_ => ?_⟩
      · rw [up_ne (by decide)] at h_; exact ⟨(up_ne (by decide)).trans hb0, (h1 h_).2⟩
      · rw [up_ne (by decide)] at h_; exact ⟨(up_ne (by decide)).trans hb0, (h2 h_).2⟩
    refine steps_cons ?_ ?_
    · rintro b a w' ⟨g, es, ck, m1, m2, ha, hb, h0, h1, h2⟩ hb_ hon hoff
      refine ⟨_, rfl, fun K hK => ?_⟩
      have hb0 := hon 0 (by kernel_rfl)
      have e1 : a.tmps[1]? = some (.map (some g)) := by rw [ha]; exact putSel_on (e := (0, 1, .map (some g))) 0 rfl rfl hb0 rfl
      have e2 : a.tmps[3]? = some (pk ⟨#[97, 114, 101, 97]⟩ ⟨#[104, 114, 101, 102]⟩) := by rw [ha]; exact (putSel_off rfl).trans rfl
      obtain ⟨k1, k2, k3⟩ := h0 hb0
      have hq : (⟨4, ⟨#[97, 114, 101, 97]⟩, ⟨#[104, 114, 101, 102]⟩, .bool true⟩ : Put) ∈ leadsL := by unfold leadsL; repeat (first | exact List.mem_cons_self | apply List.mem_cons_of_mem)
      refine skip_ (by rfl) rfl (exec_insert rfl e1 e2 (store_run Try.underlying60 k2 k3 leads_apart hq hb_)) ?_
      refine hK.out _ _ ⟨g, _, _, m1, m2, ha.trans (putSel_same rfl).symm, below_block hb k1 (o' := .map #[] 0), fun _ => ⟨k1, heap_setBlock_same k2 _, k3.push hq ck (fun p hp he => leads_ops p hp _ hq he)⟩, fun h_ => ?_, fun h_ => ?_⟩
      · rw [up_ne (by decide)] at h_; exact ⟨(up_ne (by decide)).trans hb0, (h1 h_).2⟩
      · rw [up_ne (by decide)] at h_; exact ⟨(up_ne (by decide)).trans hb0, (h2 h_).2⟩
    refine steps_cons ?_ ?_
    · rintro b a w' ⟨g, es, ck, m1, m2, ha, hb, h0, h1, h2⟩ hb_ hon hoff
      refine ⟨_, rfl, fun K hK => ?_⟩
      have hb0 := hon 0 (by kernel_rfl)
      have e1 : a.tmps[1]? = some (.map (some g)) := by rw [ha]; exact putSel_on (e := (0, 1, .map (some g))) 0 rfl rfl hb0 rfl
      have e2 : a.tmps[4]? = some (pk ⟨#[98, 117, 116, 116, 111, 110]⟩ ⟨#[102, 111, 114, 109, 97, 99, 116, 105, 111, 110]⟩) := by rw [ha]; exact (putSel_off rfl).trans rfl
      obtain ⟨k1, k2, k3⟩ := h0 hb0
      have hq : (⟨6, ⟨#[98, 117, 116, 116, 111, 110]⟩, ⟨#[102, 111, 114, 109, 97, 99, 116, 105, 111, 110]⟩, .bool true⟩ : Put) ∈ leadsL := by unfold leadsL; repeat (first | exact List.mem_cons_self | apply List.mem_cons_of_mem)
      refine skip_ (by rfl) rfl (exec_insert rfl e1 e2 (store_run Try.underlying60 k2 k3 leads_apart hq hb_)) ?_
      refine hK.out _ _ ⟨g, _, _, m1, m2, ha.trans (putSel_same rfl).symm, below_block hb k1 (o' := .map #[] 0), fun _ => ⟨k1, heap_setBlock_same k2 _, k3.push hq ck (fun p hp he => leads_ops p hp _ hq he)⟩, fun h_ => ?_, fun h_ => ?_⟩
      · rw [up_ne (by decide)] at h_; exact ⟨(up_ne (by decide)).trans hb0, (h1 h_).2⟩
      · rw [up_ne (by decide)] at h_; exact ⟨(up_ne (by decide)).trans hb0, (h2 h_).2⟩
    refine steps_cons ?_ ?_
    · rintro b a w' ⟨g, es, ck, m1, m2, ha, hb, h0, h1, h2⟩ hb_ hon hoff
      refine ⟨_, rfl, fun K hK => ?_⟩
      have hb0 := hon 0 (by kernel_rfl)
      have e1 : a.tmps[1]? = some (.map (some g)) := by rw [ha]; exact putSel_on (e := (0, 1, .map (some g))) 0 rfl rfl hb0 rfl
      have e2 : a.tmps[5]? = some (pk ⟨#[101, 109, 98, 101, 100]⟩ ⟨#[115, 114, 99]⟩) := by rw [ha]; exact (putSel_off rfl).trans rfl
      obtain ⟨k1, k2, k3⟩ := h0 hb0
      have hq : (⟨8, ⟨#[101, 109, 98, 101, 100]⟩, ⟨#[115, 114, 99]⟩, .bool true⟩ : Put) ∈ leadsL := by unfold leadsL; repeat (first | exact List.mem_cons_self | apply List.mem_cons_of_mem)
      refine skip_ (by rfl) rfl (exec_insert rfl e1 e2 (store_run Try.underlying60 k2 k3 leads_apart hq hb_)) ?_
      refine hK.out _ _ ⟨g, _, _, m1, m2, ha.trans (putSel_same rfl).symm, below_block hb k1 (o' := .map #[] 0), fun _ => ⟨k1, heap_setBlock_same k2 _, k3.push hq ck (fun p hp he => leads_ops p hp _ hq he)⟩, fun h_ => ?_, fun h_ => ?_⟩
      · rw [up_ne (by decide)] at h_; exact ⟨(up_ne (by decide)).trans hb0, (h1 h_).2⟩
      · rw [up_ne (by decide)] at h_; exact ⟨(up_ne (by decide)).trans hb0, (h2 h_).2⟩
    refine steps_cons ?_ ?_
    · rintro b a w' ⟨g, es, ck, m1, m2, ha, hb, h0, h1, h2⟩ hb_ hon hoff
      refine ⟨_, rfl, fun K hK => ?_⟩
      have hb0 := hon 0 (by kernel_rfl)
      have e1 : a.tmps[1]? = some (.map (some g)) := by rw [ha]; exact putSel_on (e := (0, 1, .map (some g))) 0 rfl rfl hb0 rfl
      have e2 : a.tmps[6]? = some (pk ⟨#[102, 111, 114, 109]⟩ ⟨#[97, 99, 116, 105, 111, 110]⟩) := by rw [ha]; exact (putSel_off rfl).trans rfl
      obtain ⟨k1, k2, k3⟩ := h0 hb0
      have hq : (⟨10, ⟨#[102, 111, 114, 109]⟩, ⟨#[97, 99, 116, 105, 111, 110]⟩, .bool true⟩ : Put) ∈ leadsL := by unfold leadsL; repeat (first | exact List.mem_cons_self | apply List.mem_cons_of_mem)
      refine skip_ (by rfl) rfl (exec_insert rfl e1 e2 (store_run Try.underlying60 k2 k3 leads_apart hq hb_)) ?_
      refine hK.out _ _ ⟨g, _, _, m1, m2, ha.trans (putSel_same rfl).symm, below_block hb k1 (o' := .map #[] 0), fun _ => ⟨k1, heap_setBlock_same k2 _, k3.push hq ck (fun p hp he => leads_ops p hp _ hq he)⟩, fun h_ => ?_, fun h_ => ?_⟩
      · rw [up_ne (by decide)] at h_; exact ⟨(up_ne (by decide)).trans hb0, (h1 h_).2⟩
      · rw [up_ne (by decide)] at h_; exact ⟨(up_ne (by decide)).trans hb0, (h2 h_).2⟩
    refine steps_cons ?_ ?_
    · rintro b a w' ⟨g, es, ck, m1, m2, ha, hb, h0, h1, h2⟩ hb_ hon hoff
      refine ⟨_, rfl, fun K hK => ?_⟩
      have hb0 := hon 0 (by kernel_rfl)
      have e1 : a.tmps[1]? = some (.map (some g)) := by rw [ha]; exact putSel_on (e := (0, 1, .map (some g))) 0 rfl rfl hb0 rfl
      have e2 : a.tmps[7]? = some (pk ⟨#[102, 114, 97, 109, 101]⟩ ⟨#[115, 114, 99]⟩) := by rw [ha]; exact (putSel_off rfl).trans rfl
      obtain ⟨k1, k2, k3⟩ := h0 hb0
      have hq : (⟨12, ⟨#[102, 114, 97, 109, 101]⟩, ⟨#[115, 114, 99]⟩, .bool true⟩ : Put) ∈ leadsL := by unfold leadsL; repeat (first | exact List.mem_cons_self | apply List.mem_cons_of_mem)
      refine skip_ (by rfl) rfl (exec_insert rfl e1 e2 (store_run Try.underlying60 k2 k3 leads_apart hq hb_)) ?_
      refine hK.out _ _ ⟨g, _, _, m1, m2, ha.trans (putSel_same rfl).symm, below_block hb k1 (o' := .map #[] 0), fun _ => ⟨k1, heap_setBlock_same k2 _, k3.push hq ck (fun p hp he => leads_ops p hp _ hq he)⟩, fun h_ => ?_, fun h_ => ?_⟩
      · rw [up_ne (by decide)] at h_; exact ⟨(up_ne (by decide)).trans hb0, (h1 h_).2⟩
      · rw [up_ne (by decide)] at h_; exact ⟨(up_ne (by decide)).trans hb0, (h2 h_).2⟩
    refine steps_cons ?_ ?_
    · rintro b a w' ⟨g, es, ck, m1, m2, ha, hb, h0, h1, h2⟩ hb_ hon hoff
      refine ⟨_, rfl, fun K hK => ?_⟩
      have hb0 := hon 0 (by kernel_rfl)
      have e1 : a.tmps[1]? = some (.map (some g)) := by rw [ha]; exact putSel_on (e := (0, 1, .map (some g))) 0 rfl rfl hb0 rfl
      have e2 : a.tmps[8]? = some (pk ⟨#[105, 102, 114, 97, 109, 101]⟩ ⟨#[115, 114, 99]⟩) := by rw [ha]; exact (putSel_off rfl).trans rfl
      obtain ⟨k1, k2, k3⟩ := h0 hb0
      have hq : (⟨14, ⟨#[105, 102, 114, 97, 109, 101]⟩, ⟨#[115, 114, 99]⟩, .bool true⟩ : Put) ∈ leadsL := by unfold leadsL; repeat (first | exact List.mem_cons_self | apply List.mem_cons_of_mem)
      refine skip_ (by rfl) rfl (exec_insert rfl e1 e2 (store_run Try.underlying60 k2 k3 leads_apart hq hb_)) ?_
      refine hK.out _ _ ⟨g, _, _, m1, m2, ha.trans (putSel_same rfl).symm, below_block hb k1 (o' := .map #[] 0), fun _ => ⟨k1, heap_setBlock_same k2 _, k3.push hq ck (fun p hp he => leads_ops p hp _ hq he)⟩, fun h_ => ?_, fun h_ => ?_⟩
      · rw [up_ne (by decide)] at h_; exact ⟨(up_ne (by decide)).trans hb0, (h1 h_).2⟩
      · rw [up_ne (by decide)] at h_; exact ⟨(up_ne (by decide)).trans hb0, (h2 h_).2⟩
    refine steps_cons ?_ ?_
    · rintro b a w' ⟨g, es, ck, m1, m2, ha, hb, h0, h1, h2⟩ hb_ hon hoff
      refine ⟨_, rfl, fun K hK => ?_⟩
      have hb0 := hon 0 (by kernel_rfl)
      have e1 : a.tmps[1]? = some (.map (some g)) := by rw [ha]; exact putSel_on (e := (0, 1, .map (some g))) 0 rfl rfl hb0 rfl
      have e2 : a.tmps[9]? = some (pk ⟨#[105, 110, 112, 117, 116]⟩ ⟨#[102, 111, 114, 109, 97, 99, 116, 105, 111, 110]⟩) := by rw [ha]; exact (putSel_off rfl).trans rfl
      obtain ⟨k1, k2, k3⟩ := h0 hb0
      have hq : (⟨16, ⟨#[105, 110, 112, 117, 116]⟩, ⟨#[102, 111, 114, 109, 97, 99, 116, 105, 111, 110]⟩, .bool true⟩ : Put) ∈ leadsL := by unfold leadsL; repeat (first | exact List.mem_cons_self | apply List.mem_cons_of_mem)
      refine skip_ (by rfl) rfl (exec_insert rfl e1 e2 (store_run Try.underlying60 k2 k3 leads_apart hq hb_)) ?_
      refine hK.out _ _ ⟨g, _, _, m1, m2, ha.trans (putSel_same rfl).symm, below_block hb k1 (o' := .map #[] 0), fun _ => ⟨k1, heap_setBlock_same k2 _, k3.push hq ck (fun p hp he => leads_ops p hp _ hq he)⟩, fun h_ => ?_, fun h_ => ?_⟩
      · rw [up_ne (by decide)] at h_; exact ⟨(up_ne (by decide)).trans hb0, (h1 h_).2⟩
      · rw [up_ne (by decide)] at h_; exact ⟨(up_ne (by decide)).trans hb0, (h2 h_).2⟩
    refine steps_cons ?_ ?_
    · rintro b a w' ⟨g, es, ck, m1, m2, ha, hb, h0, h1, h2⟩ hb_ hon hoff
      refine ⟨_, rfl, fun K hK => ?_⟩
      have hb0 := hon 0 (by kernel_rfl)
      have e1 : a.tmps[1]? = some (.map (some g)) := by rw [ha]; exact putSel_on (e := (0, 1, .map (some g))) 0 rfl rfl hb0 rfl
      have e2 : a.tmps[10]? = some (pk ⟨#[111, 98, 106, 101, 99, 116]⟩ ⟨#[100, 97, 116, 97]⟩) := by rw [ha]; exact (putSel_off rfl).trans rfl
      obtain ⟨k1, k2, k3⟩ := h0 hb0
      have hq : (⟨18, ⟨#[111, 98, 106, 101, 99, 116]⟩, ⟨#[100, 97, 116, 97]⟩, .bool true⟩ : Put) ∈ leadsL := by unfold leadsL; repeat (first | exact List.mem_cons_self | apply List.mem_cons_of_mem)
      refine skip_ (by rfl) rfl (exec_insert rfl e1 e2 (store_run Try.underlying60 k2 k3 leads_apart hq hb_)) ?_
      refine hK.out _ _ ⟨g, _, _, m1, m2, ha.trans (putSel_same rfl).symm, below_block hb k1 (o' := .map #[] 0), fun _ => ⟨k1, heap_setBlock_same k2 _, k3.push hq ck (fun p hp he => leads_ops p hp _ hq he)⟩, fun h_ => ?_, fun h_ => ?_⟩
      · rw [up_ne (by decide)] at h_; exact ⟨(up_ne (by decide)).trans hb0, (h1 h_).2⟩
      · rw [up_ne (by decide)] at h_; exact ⟨(up_ne (by decide)).trans hb0, (h2 h_).2⟩
    refine steps_cons ?_ ?_
    · rintro b a w' ⟨g, es, ck, m1, m2, ha, hb, h0, h1, h2⟩ hb_ hon hoff
      refine ⟨_, rfl, fun K hK => ?_⟩
      have hb0 := hon 0 (by kernel_rfl)
      have e1 : a.tmps[1]? = some (.map (some g)) := by rw [ha]; exact putSel_on (e := (0, 1, .map (some g))) 0 rfl rfl hb0 rfl
      refine value_ (w1 := w') (v := .map (some g)) (by rfl) rfl (exec_move rfl e1) ?_
      obtain ⟨k1, k2, k3⟩ := h0 hb0
      refine hK.out _ _ ⟨g, es, ck, .map (some g), m2, by rw [ha]; exact putSel_upk 1 hb_ rfl rfl rfl, hb, fun _ => ⟨k1, k2, ⟨fun e he => by obtain ⟨q, hq, hqb, hh⟩ := k3.1 e he; exact ⟨q, hq, (by unfold up; split <;> simp [hqb]), hh⟩, fun q hq hqb => k3.2 q hq (by rw [up_ne (by revert hq; unfold leadsL; intro hq h_; simp only [List.mem_cons, List.not_mem_nil, or_false] at hq; rcases hq with rfl | rfl | rfl | rfl | rfl | rfl | rfl | rfl | rfl <;> cases h_)] at hqb; exact hqb)⟩⟩, fun h_ => ?_, fun h_ => ?_⟩
      · exact ⟨(up_ne (by decide)).trans hb0, rfl⟩
      · rw [up_ne (by decide)] at h_; exact ⟨(up_ne (by decide)).trans hb0, (h2 h_).2⟩
    refine steps_cons ?_ ?_
    · rintro b a w' ⟨g, es, ck, m1, m2, ha, hb, h0, h1, h2⟩ hb_ hon hoff
      refine ⟨_, rfl, fun K hK => ?_⟩
      have hb0 := hon 0 (by kernel_rfl)
      have e1 : a.tmps[11]? = some (.map (some g)) := by rw [ha, ← (h1 (hon 19 (by kernel_rfl))).2]; exact putSel_on (e := (19, 11, m1)) 1 rfl rfl (hon 19 (by kernel_rfl)) rfl
      refine value_ (w1 := w') (v := .map (some g)) (by rfl) rfl (exec_assign rfl e1) ?_
      obtain ⟨k1, k2, k3⟩ := h0 hb0
      refine hK.out _ _ ⟨g, es, ck, m1, .map (some g), by rw [ha]; exact putSel_upk 2 hb_ rfl rfl rfl, hb, fun _ => ⟨k1, k2, ⟨fun e he => by obtain ⟨q, hq, hqb, hh⟩ := k3.1 e he; exact ⟨q, hq, (by unfold up; split <;> simp [hqb]), hh⟩, fun q hq hqb => k3.2 q hq (by rw [up_ne (by revert hq; unfold leadsL; intro hq h_; simp only [List.mem_cons, List.not_mem_nil, or_false] at hq; rcases hq with rfl | rfl | rfl | rfl | rfl | rfl | rfl | rfl | rfl <;> cases h_)] at hqb; exact hqb)⟩⟩, fun h_ => ?_, fun h_ => ?_⟩
      · rw [up_ne (by decide)] at h_; exact ⟨(up_ne (by decide)).trans hb0, (h1 h_).2⟩
      · exact ⟨(up_ne (by decide)).trans hb0, rfl⟩
    exact steps_nil
  · rintro b a w' hall ⟨g, es, ck, m1, m2, ha, hb, h0, h1, h2⟩
    have hb0 := hall 0 (by kernel_rfl)
    have hb19 := hall 19 (by kernel_rfl)
    have hb20 := hall 20 (by kernel_rfl)
    obtain rfl := (h1 hb19).2
    obtain rfl := (h2 hb20).2
    obtain ⟨k1, k2, k3⟩ := h0 hb0
    have hops : ∀ q ∈ leadsL, b q.op = true := fun q hq => by
      simp only [leadsL, List.mem_cons, List.not_mem_nil, or_false] at hq
      rcases hq with rfl | rfl | rfl | rfl | rfl | rfl | rfl | rfl | rfl
      all_goals exact hall _ (by kernel_rfl)
    have fin := hid (show ∃ (g' : Nat) (es : Array MapEntry) (ck : Nat) (b : Nat → Bool), (Ending.returned (.map (some g)) = .returned (.map (some g'))) ∧ w.heap.size ≤ g' ∧ w'.heap[g']? = some (.map es ck) ∧ Ent leadsL b es ∧ (∀ q ∈ leadsL, b q.op = true) ∧ Below w.heap.size w w' from ⟨g, es, ck, b, rfl, k1, k2, k3, hops, hb⟩)
    subst ha
    simp only [putSel, hb0, hb19, hb20, if_true, Act.put, List.setIfInBounds_toArray, List.set_cons_zero, List.set_cons_succ]
    clear hall h0 h1 h2 k1 k2 k3 hops hb hb0 hb19 hb20
    go_wp2
    go_ret
    exact fin.out
def sinks_T : Bool × List (List Nat × List Nat) := (true, [([], []), ([], []), ([0, 1], [0, 1]), ([], []), ([0, 3], [0, 3]), ([], []), ([0, 5], [0, 5]), ([], []), ([0, 7], [0, 7]), ([0, 1, 2, 3, 4, 5, 6, 7, 8], [0]), ([9, 0, 1, 2, 3, 4, 5, 6, 7, 8, 9], [9])])
def sinks_B : List Nat := [0, 0, 3, 0, 9, 0, 33, 0, 129, 511, 1023]
def sinksL : List Put := [⟨2, ⟨#[115, 99, 114, 105, 112, 116]⟩, ⟨#[115, 114, 99]⟩, .int .i64 3⟩, ⟨4, ⟨#[101, 109, 98, 101, 100]⟩, ⟨#[115, 114, 99]⟩, .int .i64 3⟩, ⟨6, ⟨#[111, 98, 106, 101, 99, 116]⟩, ⟨#[100, 97, 116, 97]⟩, .int .i64 3⟩, ⟨8, ⟨#[105, 102, 114, 97, 109, 101]⟩, ⟨#[115, 114, 99, 100, 111, 99]⟩, .int .i64 1⟩]
end Go.Proofs.Ytakhldahohooiaa
/- risk.Handler, Nav, Sink: their contracts. -/
namespace Go.Proofs.Ytakhldahohooiaa
set_option linter.unusedVariables false
set_option linter.unusedSimpArgs false
open Go.RowKit Go.Lib Go.ChangeMaps Go.Proofs.YtakhldahohooiaaW.PrintWords Go.Proofs.YtakhldahohooiaaW.PrintLast

def isAt (x y : ByteArray) (q : Put) : Bool := decide (q.el = x ∧ q.att = y)
/-- Does an attribute lead somewhere? -/
def navB (x y : ByteArray) : Bool := leadsL.any (isAt x y)
def numOf : Value → Int
  | .int _ n => n
  | _ => 0
/-- Which kind of text an attribute takes, but for handlers. -/
def sinkI (x y : ByteArray) : Int := match sinksL.find? (isAt x y) with
  | some q => numOf q.val
  | none => 0
theorem tell_nav (x y : ByteArray) : tell leadsL (.bool false) x y = .bool (navB x y) := by
  unfold tell navB
  have hv : ∀ q ∈ leadsL, q.val = .bool true := by
    intro q hq
    simp only [leadsL, List.mem_cons, List.not_mem_nil, or_false] at hq
    rcases hq with rfl | rfl | rfl | rfl | rfl | rfl | rfl | rfl | rfl <;> rfl
  show (match leadsL.find? (isAt x y) with | some q => q.val | none => _) = _
  cases hf : leadsL.find? (isAt x y) with
  | some q =>
    have h1 := List.mem_of_find?_eq_some hf
    have h2 := List.find?_some hf
    rw [List.any_eq_true.2 ⟨q, h1, h2⟩]
    exact hv q h1
  | none =>
    have : leadsL.any (isAt x y) = false := List.any_eq_false.2 (fun q hq => by have := List.find?_eq_none.1 hf q hq; exact this)
    rw [this]
set_option maxHeartbeats 2000000 in
theorem nav_calls (x y : ByteArray) (w : World) : Calls Try.prog 31 #[.string x, .string y] w fun e w' => e = .returned (.bool (navB x y)) ∧ Below w.heap.size w w' := by
  have hl := hid (leads_calls w)
  obtain ⟨B, hBn⟩ : ∃ B, navB x y = B := ⟨_, rfl⟩
  have HT := hid (hBn ▸ tell_nav x y)
  rw [hBn]
  clear hBn
  go_enter Try.func31, Try.ntmps31
  go_wp2_with (go_at_call 44; refine hl.out.mono ?_; rintro e w1 ⟨g, es, ck, b, rfl, hg, hb, hE, hall, hB⟩; have hlk := look_run (t := 60) Try.underlying60 (z := .bool false) Try.zeroValue4 hb hE leads_apart hall x y; rw [HT.out] at hlk; unfold pk at hlk; have HB := hid hB; clear hg hb hE hall hB)
  go_ret
  exact ⟨rfl, HB.out⟩
/-- Is an attribute a handler? -/
def handlerB (x : ByteArray) : Bool := Lib.hasPrefix x.data.toList [111, 110] && decide (2 < x.size)
end Go.Proofs.Ytakhldahohooiaa
/- risk's contracts in the form that the printed texts take (chapter 19). -/
namespace Go.Proofs.Ytakhldahohooiaa
set_option linter.unusedVariables false
set_option linter.unusedSimpArgs false
open Go.RowKit Go.Lib

def risk_Nav.f (a0 a1 : ByteArray) : Option Bool := some (navB a0 a1)
theorem risk_Nav.calls (a0 a1 : ByteArray) (r : Bool) (w : World) (h : risk_Nav.f a0 a1 = some r) :
    Calls Try.prog 31 #[.string a0, .string a1] w fun e w' => e = .returned (.bool r) ∧ Below w.heap.size w w' := by
  obtain rfl := Option.some.inj h
  exact nav_calls a0 a1 w
def risk_Sink.f (a0 a1 : ByteArray) : Option Int := some (if handlerB a1 = true then 2 else sinkI a0 a1)
end Go.Proofs.Ytakhldahohooiaa
namespace Go.Proofs.Ytakhldahohooiaa.Pr
open Go.RowKit Go.Proofs.YtakhldahohooiaaW.PrintWords Go.Proofs.YtakhldahohooiaaW.PrintLast Go.Proofs.YtakhldahohooiaaW.PrintMore
attribute [local go_sem] max2_int min2_int max_two min_two max_three min_three max_four min_four   -- for this text's walks alone
set_option linter.unusedVariables false
set_option linter.unusedSimpArgs false



def errW : Option Int → Value
  | none => .nilIface
  | some c => .iface 0 (.int .i64 c)
theorem errW_none : errW none = .nilIface := rfl
theorem errW_some (c : Int) : errW (some c) = .iface 0 (.int .i64 c) := rfl

theorem info30 : (Try.prog.info? 30).map (fun i => (i.zero, i.size, i.bytes)) = some (some (.agg #[(.int .i64 0), (.int .i64 0), (.string ⟨#[]⟩)]), 3, 32) := by kernel_rfl
theorem info34 : (Try.prog.info? 34).map (fun i => (i.zero, i.size, i.bytes)) = some (some (.agg #[(.int .i64 0), (.int .i64 0), (.string ⟨#[]⟩), (.string ⟨#[]⟩), (.slice none 0 0)]), 5, 72) := by kernel_rfl
theorem info39 : (Try.prog.info? 39).map (fun i => (i.zero, i.size, i.bytes)) = some (some (.agg #[(.string ⟨#[]⟩), (.string ⟨#[]⟩)]), 2, 32) := by kernel_rfl
-- the values' own types
/-! #### struct type 39 -/
structure S39 where
  f0 : ByteArray
  f1 : ByteArray
def z39 : S39 := ⟨(⟨#[]⟩ : ByteArray), (⟨#[]⟩ : ByteArray)⟩
def k39 : Kd S39 := Kd.iso (Kd.pair Kd.string Kd.string) (fun x : S39 => (x.f0, x.f1))
theorem k39_heap : Kd.Heap k39 := Kd.heap_iso _ (Kd.heap_pair Kd.heap_string Kd.heap_string)
theorem k39_open {w : World} {x : S39} {cs : List Value} (h : k39.K w x cs) : cs = [.string x.f0, .string x.f1] := by
  obtain ⟨_, _, rfl, rfl, rfl⟩ := h
  exact rfl
theorem k39_mkM (w : World) (base : Nat) (ok : Nat → Prop) (x : S39)  : k39.M w base ok x [.string x.f0, .string x.f1] := ⟨[.string x.f0], [.string x.f1], rfl, rfl, rfl⟩
def rd_T39 (xs : List S39) (i : Int) : S39 := xs.getD i.toNat z39
theorem at_T39 {w : World} {A : Option Addr} {n : Nat} {xs : List S39} (h : Kd.C k39 w A n xs) (i : Int) (h0 : 0 ≤ i) (h1 : i < n) : ∃ ad , A = some ad ∧ w.cell? (ad.add (i.toNat * 2)) = some (.string (rd_T39 xs i).f0) ∧ w.cell? ⟨(ad.add (i.toNat * 2)).block, (ad.add (i.toNat * 2)).off + 1, none⟩ = some (.string (rd_T39 xs i).f1) := by
  obtain ⟨ad, c, e, _, hK, hc0⟩ := Kd.C_get h z39 i h0 h1
  have hc : ∀ j u, c[j]? = some u → w.cell? (ad.add (i.toNat * 2 + j)) = some u := hc0
  obtain rfl := k39_open hK
  exact ⟨ad, e, hc 0 _ rfl, by rw [← add_field _ _ 1 (by omega)]; exact hc 1 _ rfl⟩

def rd_L3 (xs : List (List S39)) (i : Int) : (List S39) := xs.getD i.toNat ([] : List S39)
/-! #### struct type 34 -/
structure S34 where
  f0 : Int
  f1 : Int
  f2 : ByteArray
  f3 : ByteArray
  f4 : (List S39)
def z34 : S34 := ⟨(0 : Int), (0 : Int), (⟨#[]⟩ : ByteArray), (⟨#[]⟩ : ByteArray), ([] : List S39)⟩
def k34 : Kd S34 := Kd.iso (Kd.pair (Kd.int .i64) (Kd.pair (Kd.int .i64) (Kd.pair Kd.string (Kd.pair Kd.string (Kd.slice 39 k39))))) (fun x : S34 => (x.f0, x.f1, x.f2, x.f3, x.f4))
theorem k34_heap : Kd.Heap k34 := Kd.heap_iso _ (Kd.heap_pair (Kd.heap_int .i64) (Kd.heap_pair (Kd.heap_int .i64) (Kd.heap_pair Kd.heap_string (Kd.heap_pair Kd.heap_string (Kd.heap_slice 39 k39_heap)))))
theorem k34_open {w : World} {x : S34} {cs : List Value} (h : k34.K w x cs) : ∃ A4 c4, cs = [.int .i64 x.f0, .int .i64 x.f1, .string x.f2, .string x.f3, .slice A4 x.f4.length c4] ∧ x.f4.length ≤ c4 ∧ k39.C w A4 x.f4.length x.f4 := by
  obtain ⟨_, _, rfl, rfl, ⟨_, _, rfl, rfl, ⟨_, _, rfl, rfl, ⟨_, _, rfl, rfl, ⟨A4, c4, rfl, l4, g4⟩⟩⟩⟩⟩ := h
  exact ⟨A4, c4, rfl, l4, g4⟩
theorem k34_mk (w : World) (x : S34) {A4 : Option Addr} {c4 : Nat} (l4 : x.f4.length ≤ c4) (g4 : k39.C w A4 x.f4.length x.f4) : k34.K w x [.int .i64 x.f0, .int .i64 x.f1, .string x.f2, .string x.f3, .slice A4 x.f4.length c4] := ⟨[.int .i64 x.f0], [.int .i64 x.f1, .string x.f2, .string x.f3, .slice A4 x.f4.length c4], rfl, rfl, ⟨[.int .i64 x.f1], [.string x.f2, .string x.f3, .slice A4 x.f4.length c4], rfl, rfl, ⟨[.string x.f2], [.string x.f3, .slice A4 x.f4.length c4], rfl, rfl, ⟨[.string x.f3], [.slice A4 x.f4.length c4], rfl, rfl, ⟨A4, c4, rfl, l4, g4⟩⟩⟩⟩⟩
theorem k34_mkM (w : World) (base : Nat) (ok : Nat → Prop) (x : S34) {v4 : Value} (g4 : k39.R 39 w base ok v4 x.f4) : k34.M w base ok x [.int .i64 x.f0, .int .i64 x.f1, .string x.f2, .string x.f3, v4] := ⟨[.int .i64 x.f0], [.int .i64 x.f1, .string x.f2, .string x.f3, v4], rfl, rfl, ⟨[.int .i64 x.f1], [.string x.f2, .string x.f3, v4], rfl, rfl, ⟨[.string x.f2], [.string x.f3, v4], rfl, rfl, ⟨[.string x.f3], [v4], rfl, rfl, ⟨v4, rfl, g4⟩⟩⟩⟩⟩
theorem k34_openF {W : World} {ok : Nat → Prop} {x : S34} {cs : List Value} (h : Kd.FK k34 W ok x cs) : ∃ A4 c4, cs = [.int .i64 x.f0, .int .i64 x.f1, .string x.f2, .string x.f3, .slice A4 x.f4.length c4] ∧ x.f4.length ≤ c4 ∧ Kd.F k39 W ok A4 x.f4.length x.f4 := by
  obtain ⟨A4, c4, rfl, l4, _⟩ := k34_open (Kd.FK_now h)
  exact ⟨A4, c4, rfl, l4, (fun W' hW => by obtain ⟨A4_, c4_, he, l4_, g4_⟩ := k34_open (h W' hW); injection (Option.some.inj (show some (Value.slice A4 x.f4.length c4) = some (Value.slice A4_ x.f4.length c4_) from congrArg (fun l => l[4]?) he)) with ha_ _ _; rw [ha_]; exact g4_)⟩
theorem k34_mkF (W : World) (ok : Nat → Prop) (x : S34) {A4 : Option Addr} {c4 : Nat} (l4 : x.f4.length ≤ c4) (g4 : Kd.F k39 W ok A4 x.f4.length x.f4) : Kd.FK k34 W ok x [.int .i64 x.f0, .int .i64 x.f1, .string x.f2, .string x.f3, .slice A4 x.f4.length c4] := fun W2 hW => k34_mk W2 x l4 (g4 W2 hW)
def rd_T34 (xs : List S34) (i : Int) : S34 := xs.getD i.toNat z34
theorem at_T34 {w : World} {A : Option Addr} {n : Nat} {xs : List S34} (h : Kd.C k34 w A n xs) (i : Int) (h0 : 0 ≤ i) (h1 : i < n) : ∃ ad A4 c4, A = some ad ∧ w.cell? (ad.add (i.toNat * 5)) = some (.int .i64 (rd_T34 xs i).f0) ∧ w.cell? ⟨(ad.add (i.toNat * 5)).block, (ad.add (i.toNat * 5)).off + 1, none⟩ = some (.int .i64 (rd_T34 xs i).f1) ∧ w.cell? ⟨(ad.add (i.toNat * 5)).block, (ad.add (i.toNat * 5)).off + 2, none⟩ = some (.string (rd_T34 xs i).f2) ∧ w.cell? ⟨(ad.add (i.toNat * 5)).block, (ad.add (i.toNat * 5)).off + 3, none⟩ = some (.string (rd_T34 xs i).f3) ∧ w.cell? ⟨(ad.add (i.toNat * 5)).block, (ad.add (i.toNat * 5)).off + 4, none⟩ = some (.slice A4 (rd_T34 xs i).f4.length c4) ∧ (rd_T34 xs i).f4.length ≤ c4 ∧ k39.C w A4 (rd_T34 xs i).f4.length (rd_T34 xs i).f4 := by
  obtain ⟨ad, c, e, _, hK, hc0⟩ := Kd.C_get h z34 i h0 h1
  have hc : ∀ j u, c[j]? = some u → w.cell? (ad.add (i.toNat * 5 + j)) = some u := hc0
  obtain ⟨A4, c4, rfl, l4, g4⟩ := k34_open hK
  exact ⟨ad, A4, c4, e, hc 0 _ rfl, by rw [← add_field _ _ 1 (by omega)]; exact hc 1 _ rfl, by rw [← add_field _ _ 2 (by omega)]; exact hc 2 _ rfl, by rw [← add_field _ _ 3 (by omega)]; exact hc 3 _ rfl, by rw [← add_field _ _ 4 (by omega)]; exact hc 4 _ rfl, l4, g4⟩

/-! #### struct type 30 -/
structure S30 where
  f0 : Int
  f1 : Int
  f2 : ByteArray
def z30 : S30 := ⟨(0 : Int), (0 : Int), (⟨#[]⟩ : ByteArray)⟩
def k30 : Kd S30 := Kd.iso (Kd.pair (Kd.int .i64) (Kd.pair (Kd.int .i64) Kd.string)) (fun x : S30 => (x.f0, x.f1, x.f2))
theorem k30_open {w : World} {x : S30} {cs : List Value} (h : k30.K w x cs) : cs = [.int .i64 x.f0, .int .i64 x.f1, .string x.f2] := by
  obtain ⟨_, _, rfl, rfl, ⟨_, _, rfl, rfl, rfl⟩⟩ := h
  exact rfl
theorem k30_mkM (w : World) (base : Nat) (ok : Nat → Prop) (x : S30)  : k30.M w base ok x [.int .i64 x.f0, .int .i64 x.f1, .string x.f2] := ⟨[.int .i64 x.f0], [.int .i64 x.f1, .string x.f2], rfl, rfl, ⟨[.int .i64 x.f1], [.string x.f2], rfl, rfl, rfl⟩⟩
def rd_T30 (xs : List S30) (i : Int) : S30 := xs.getD i.toNat z30
theorem at_T30 {w : World} {A : Option Addr} {n : Nat} {xs : List S30} (h : Kd.C k30 w A n xs) (i : Int) (h0 : 0 ≤ i) (h1 : i < n) : ∃ ad , A = some ad ∧ w.cell? (ad.add (i.toNat * 3)) = some (.int .i64 (rd_T30 xs i).f0) ∧ w.cell? ⟨(ad.add (i.toNat * 3)).block, (ad.add (i.toNat * 3)).off + 1, none⟩ = some (.int .i64 (rd_T30 xs i).f1) ∧ w.cell? ⟨(ad.add (i.toNat * 3)).block, (ad.add (i.toNat * 3)).off + 2, none⟩ = some (.string (rd_T30 xs i).f2) := by
  obtain ⟨ad, c, e, _, hK, hc0⟩ := Kd.C_get h z30 i h0 h1
  have hc : ∀ j u, c[j]? = some u → w.cell? (ad.add (i.toNat * 3 + j)) = some u := hc0
  obtain rfl := k30_open hK
  exact ⟨ad, e, hc 0 _ rfl, by rw [← add_field _ _ 1 (by omega)]; exact hc 1 _ rfl, by rw [← add_field _ _ 2 (by omega)]; exact hc 2 _ rfl⟩

end Go.Proofs.Ytakhldahohooiaa.Pr
namespace Go.Proofs.Ytakhldahohooiaa.Pr
open Go.RowKit Go.Proofs.YtakhldahohooiaaW.PrintWords Go.Proofs.YtakhldahohooiaaW.PrintLast Go.Proofs.YtakhldahohooiaaW.PrintMore
attribute [local go_sem] max2_int min2_int max_two min_two max_three min_three max_four min_four   -- for this text's walks alone
set_option linter.unusedVariables false
set_option linter.unusedSimpArgs false

/-! ### boltinglaw19_bound: function 7 -/
def boltinglaw19_bound.l0 : Nat → List (S34) → List (S34) → Int → Option ((List (S34)))
  | 0, _, _, _ => none
  | k + 1, x0, x3, x4 => if x4 < (x0.length : Int) then (if x4 < 40 then (if 0 ≤ x4 then (if 0 ≤ (mn (((rd_T34 x0 x4).f4).length : Int) 8) then (if (mn (((rd_T34 x0 x4).f4).length : Int) 8) ≤ (((rd_T34 x0 x4).f4).length : Int) then (if x3.length < 1954687338268 then (boltinglaw19_bound.l0 k x0 (x3 ++ [(⟨(rd_T34 x0 x4).f0, (rd_T34 x0 x4).f1, (rd_T34 x0 x4).f2, (rd_T34 x0 x4).f3, (((rd_T34 x0 x4).f4).take ((mn (((rd_T34 x0 x4).f4).length : Int) 8) : Int).toNat)⟩ : S34)]) (wrap64 (x4 + 1))) else (none)) else (none)) else (none)) else (none)) else (some x3)) else (some x3)
def boltinglaw19_bound.f (k : Nat) (l0 : List (S34)) : Option ((List (S34))) := boltinglaw19_bound.l0 k l0 (([] : List (S34))) 0
set_option maxHeartbeats 8000000 in
set_option maxRecDepth 100000 in
theorem boltinglaw19_bound.calls (k : Nat) (P0_ : Nat → Prop) (A0 : Option Addr) (c0 : Nat) (l0 : List (S34)) (r : List (S34)) (w : World) (hs0 : Kd.V k34 34 w w.heap.size (fun k_ => P0_ k_) (.slice A0 l0.length c0) l0) (h : boltinglaw19_bound.f k l0 = some r) :
    Calls Try.prog 7 #[.slice A0 l0.length c0] w fun e w' => ∃ v0_ : Value, e = .returned (v0_) ∧ Kd.N k34 34 w' w.heap.size (fun k_ => (P0_ k_ ∨ w.heap.size ≤ k_)) v0_ r ∧ Below w.heap.size w w' := by
  have hu34 := Try.underlying34
  have HO0 := Aside0.mk (show Kd.V k34 34 w w.heap.size (fun k_ => (P0_ k_ ∨ w.heap.size ≤ k_)) (.slice A0 l0.length c0) l0 from Kd.V_mono hs0 (fun k_ hk => .inl hk))
  have HB := Aside0.mk (Below.refl w.heap.size w)
  have H : (boltinglaw19_bound.l0 k l0 (([] : List (S34))) 0) = some r := h
  clear h
  obtain ⟨y101, hy101⟩ : ∃ y_ : List (S34), y_ = (([] : List (S34))) := ⟨_, rfl⟩
  replace H : (boltinglaw19_bound.l0 k l0 y101 0) = some r := by first | (rw [hy101]; with_reducible exact H) | (have H2_ := (Option.bind_some _ _).symm.trans H; rw [hy101]; with_reducible exact H2_) | (have H2_ := (Option.bind_some _ _).symm.trans H; with_reducible exact H2_) | with_reducible exact H | (rw [hy101]; exact H) | exact H
  have Ny101 := Aside0.mk hy101
  clear hy101
  have H' := Aside0.mk H
  clear H
  go_enter Try.func7, Try.ntmps7
  go_wp2_with (first | ((with_reducible refine gate_dst (N := 6) rfl ?_); refine Kd.N_lit k34 _ 34 ?hg (N' := 6) ?hd (xs := ([] : List (S34))) (inner := []) (ok := (fun k_ => (P0_ k_ ∨ w.heap.size ≤ k_))) (okp := (fun k_ => (P0_ k_ ∨ w.heap.size ≤ k_))) ?hr ?hp (fun _ hk => hk) ((show ∀ k_, w.heap.size ≤ k_ → (fun k_ => (P0_ k_ ∨ w.heap.size ≤ k_)) k_ from fun k_ hk => (.inr (Nat.le_trans (below_size (by repeat (first | (with_reducible first | exact HB.out | apply below_alloc | apply pw_below_drewN | apply below_drew1) | exact HB.out))) hk))) _ (Nat.le_refl _)) (Below.refl _ _) (Nat.le_refl _) (by simp) ?_; (case hd => rfl); (case hg => rfl); (case hr => first | (go_simp; done) | (go_simp; rfl)); (case hp => exact (Reps.none _ _)); intro v102 w2 ho3 hb hg_ hnew_; clear hg_ hnew_; (first | rw [← Ny101.out] at ho3 | (simp only [Int.reduceToNat] at ho3; rw [← Ny101.out] at ho3)); have n0_ := Aside0.mk (Kd.V_elder' (by (with_reducible repeat (first | apply Kd.V_alloc | apply Kd.V_drewN | apply Kd.V_drew)); exact HO0.out) (Kd.N_base ho3) hb); have n1_ := Aside0.mk (Kd.N_lower ho3 (below_size (by repeat (first | (with_reducible first | exact HB.out | apply below_alloc | apply pw_below_drewN | apply below_drew1) | exact HB.out)))); have n2_ := Aside0.mk (below_step (by repeat (first | (with_reducible first | exact HB.out | apply below_alloc | apply pw_below_drewN | apply below_drew1) | exact HB.out)) hb); clear HO0; clear HB; have HO0 := n0_; have HO103 := n1_; have HB := n2_; clear n0_ n1_ n2_; clear hb ho3))
  go_loopg [3, 4] k (fun kq v3 v4 w' => ∃ (x3_1 : List (S34)) (x4_1 : Int), v4 = .int .i64 x4_1 ∧ Aside0 (boltinglaw19_bound.l0 kq l0 x3_1 x4_1 = some r) ∧ Aside0 (kq ≤ k) ∧ Aside0 (Kd.V k34 34 w' w.heap.size (fun k_ => (P0_ k_ ∨ w.heap.size ≤ k_) ∧ some k_ ≠ (v3 : Value).ownBlock) (.slice A0 l0.length c0) l0) ∧ Aside0 (Kd.N k34 34 w' w.heap.size (fun k_ => (P0_ k_ ∨ w.heap.size ≤ k_)) v3 x3_1) ∧ Aside0 (Below w.heap.size w w'))
  case atStart => exact ⟨(y101), (0), (by first | rfl | (simp; done) | (simp [*]; done)), H', ⟨Nat.le_refl _⟩, ⟨by (with_reducible repeat (first | apply Kd.V_alloc | apply Kd.V_drewN | apply Kd.V_drew)); exact HO0.out⟩, ⟨by (with_reducible repeat (first | apply Kd.N_alloc | apply Kd.N_drewN | apply Kd.N_drew)); exact HO103.out⟩, ⟨by repeat (first | (with_reducible first | exact HB.out | apply below_alloc | apply pw_below_drewN | apply below_drew1) | exact HB.out)⟩⟩
  case round =>
    clear H'
    try clear p2
    obtain ⟨x3_1, x4_1, rfl, HA, HK1, HO_0, HO_3, HB⟩ := hrel
    cases gk with
    | zero => exact absurd HA.out (by simp [boltinglaw19_bound.l0])
    | succ k1 =>
      have H := HA.out
      clear HA
      simp only [boltinglaw19_bound.l0] at H
      by_cases c4 : x4_1 < (l0.length : Int)
      · rw [if_pos c4] at H
        have c4b0 : decide (x4_1 < (l0.length : Int)) = true := decide_eq_true c4
        clear c4
        by_cases c5 : x4_1 < 40
        · rw [if_pos c5] at H
          have c5b0 : decide (x4_1 < 40) = true := decide_eq_true c5
          clear c5
          by_cases c6 : 0 ≤ x4_1
          · rw [if_pos c6] at H
            have c6b0 : decide (0 ≤ x4_1) = true := decide_eq_true c6
            clear c6
            obtain ⟨ji7, hji7⟩ : ∃ j_ : Int, (mn (((rd_T34 l0 x4_1).f4).length : Int) 8) = j_ := ⟨_, rfl⟩
            replace H : (if 0 ≤ (ji7) then (if (ji7) ≤ (((rd_T34 l0 x4_1).f4).length : Int) then (if x3_1.length < 1954687338268 then (boltinglaw19_bound.l0 k1 l0 (x3_1 ++ [(⟨(rd_T34 l0 x4_1).f0, (rd_T34 l0 x4_1).f1, (rd_T34 l0 x4_1).f2, (rd_T34 l0 x4_1).f3, (((rd_T34 l0 x4_1).f4).take ((ji7) : Int).toNat)⟩ : S34)]) (wrap64 (x4_1 + 1))) else (none)) else (none)) else (none)) = some r := by first | (rw [hji7] at H; exact H) | (simp only [hji7] at H ⊢; exact H)
            have hji7_ : (if 8 < (((rd_T34 l0 x4_1).f4).length : Int) then 8 else (((rd_T34 l0 x4_1).f4).length : Int)) = ji7 := hji7
            by_cases c8 : 0 ≤ (ji7)
            · rw [if_pos c8] at H
              have c8b0 := eq_true c8
              have c8b1 : decide (0 ≤ (ji7)) = true := decide_eq_true c8
              clear c8
              by_cases c9 : (ji7) ≤ (((rd_T34 l0 x4_1).f4).length : Int)
              · rw [if_pos c9] at H
                have c9b0 := eq_true c9
                have c9b1 : decide ((ji7) ≤ (((rd_T34 l0 x4_1).f4).length : Int)) = true := decide_eq_true c9
                clear c9
                obtain ⟨y106, hy106⟩ : ∃ y_ : List (S39), y_ = (((rd_T34 l0 x4_1).f4).take ((ji7) : Int).toNat) := ⟨_, rfl⟩
                replace H : (if x3_1.length < 1954687338268 then (boltinglaw19_bound.l0 k1 l0 (x3_1 ++ [(⟨(rd_T34 l0 x4_1).f0, (rd_T34 l0 x4_1).f1, (rd_T34 l0 x4_1).f2, (rd_T34 l0 x4_1).f3, y106⟩ : S34)]) (wrap64 (x4_1 + 1))) else (none)) = some r := by first | (rw [hy106]; with_reducible exact H) | (have H2_ := (Option.bind_some _ _).symm.trans H; rw [hy106]; with_reducible exact H2_) | (have H2_ := (Option.bind_some _ _).symm.trans H; with_reducible exact H2_) | with_reducible exact H | (rw [hy106]; exact H) | exact H
                have Ny106 := Aside0.mk hy106
                clear hy106
                by_cases c10 : x3_1.length < 1954687338268
                · rw [if_pos c10] at H
                  have LMc10 := Aside0.mk c10
                  clear c10
                  obtain ⟨y111, hy111⟩ : ∃ y_ : List (S34), y_ = (x3_1 ++ [(⟨(rd_T34 l0 x4_1).f0, (rd_T34 l0 x4_1).f1, (rd_T34 l0 x4_1).f2, (rd_T34 l0 x4_1).f3, y106⟩ : S34)]) := ⟨_, rfl⟩
                  replace H : (boltinglaw19_bound.l0 k1 l0 y111 (wrap64 (x4_1 + 1))) = some r := by first | (rw [hy111]; with_reducible exact H) | (have H2_ := (Option.bind_some _ _).symm.trans H; rw [hy111]; with_reducible exact H2_) | (have H2_ := (Option.bind_some _ _).symm.trans H; with_reducible exact H2_) | with_reducible exact H | (rw [hy111]; exact H) | exact H
                  have Ny111 := Aside0.mk hy111
                  clear hy111
                  have H' := Aside0.mk H
                  clear H
                  have p104 : 0 ≤ (x4_1 : Int) := of_decide_eq_true (by first | (with_reducible assumption) | assumption)
                  have q104 : x4_1 < (l0.length : Int) := of_decide_eq_true (by first | (with_reducible assumption) | assumption)
                  obtain ⟨ad104, A104_4, c104_4, e104, hx104_0, hx104_1, hx104_2, hx104_3, hx104_4, hl104_4, hi104_4⟩ := at_T34 (Kd.V_reads' HO_0.out).2.2 x4_1 p104 q104
                  cases e104
                  obtain ⟨ce104, hce104, hMe104, hcc104⟩ := Kd.V_get HO_0.out z34 x4_1 p104 (by first | exact q104 | exact of_decide_eq_true (by first | (with_reducible assumption) | assumption) | (have e_ := (Kd.V_reads' HO_0.out).1; omega))
                  obtain ⟨ua104_4, uc104_4, rfl, ul104_4, ge104_4⟩ := k34_openF hMe104
                  have hv104_4 := hcc104 4 _ rfl
                  rw [add_field _ _ 4 (by omega)] at hv104_4
                  replace hv104_4 := Option.some.inj (hv104_4.symm.trans hx104_4)
                  injection hv104_4 with hva_ hvn_ hvc_
                  rw [hva_] at ge104_4
                  rw [hvc_] at ul104_4
                  have HL104_4 := Aside0.mk (show Kd.V k39 39 _ w.heap.size _ _ ((rd_T34 l0 x4_1).f4) from Kd.V_mk ul104_4 ge104_4)
                  clear hva_ hvn_ hvc_ ge104_4 ul104_4
                  clear hcc104 hce104
                  have HR104_4 := Aside0.mk hi104_4
                  have HC104_4 := Aside0.mk hl104_4
                  clear hi104_4 hl104_4
                  replace p104 := eq_true p104
                  replace q104 := eq_true q104
                  go_wp2_with (first | ((with_reducible refine gate_dst (N := 5) rfl ?_); refine box_event ?hg (N := 5) ?hd (cs := #[.int .i64 0, .int .i64 0, .string (⟨#[]⟩ : ByteArray), .string (⟨#[]⟩ : ByteArray), .slice none 0 0]) (t := 34) ?hr ?_; (case hd => rfl); (case hg => rfl); (case hr => first | (go_simp; done) | (go_simp; rfl)); intro gb105 hg w11 hbox hb; have n0_ := Aside0.mk (Kd.V_below (Kd.V_elderB (by (with_reducible repeat (first | apply Kd.V_alloc | apply Kd.V_drewN | apply Kd.V_drew)); exact HO_0.out) gb105 (Nat.le_of_eq hg.symm)) hb); have n1_ := Aside0.mk (Kd.N_below (Kd.N_elderB (by (with_reducible repeat (first | apply Kd.N_alloc | apply Kd.N_drewN | apply Kd.N_drew)); exact HO_3.out) gb105 (Nat.le_of_eq hg.symm)) hb); have n2_ := Aside0.mk (Kd.V_below (Kd.V_elderB (by (with_reducible repeat (first | apply Kd.V_alloc | apply Kd.V_drewN | apply Kd.V_drew)); exact HL104_4.out) gb105 (Nat.le_of_eq hg.symm)) hb); have n3_ := Aside0.mk (Kd.C_below (by repeat (first | (with_reducible exact HR104_4.out) | (with_reducible refine Kd.C_alloc ?_ _) | (with_reducible refine Kd.C_drewN ?_ _) | (with_reducible refine Kd.C_drew ?_) | exact HR104_4.out)) hb); have n4_ := Aside0.mk (below_step (by repeat (first | (with_reducible first | exact HB.out | apply below_alloc | apply pw_below_drewN | apply below_drew1) | exact HB.out)) hb); have n5_ := Aside0.mk (hbox); have n6_ := Aside0.mk ((by rw [hg]; exact (below_size (by repeat (first | (with_reducible first | exact HB.out | apply below_alloc | apply pw_below_drewN | apply below_drew1) | exact HB.out))) : w.heap.size ≤ gb105)); have n7_ := Aside0.mk ((by rw [hg]; exact (below_size (by repeat (first | (with_reducible first | exact HB.out | apply below_alloc | apply pw_below_drewN | apply below_drew1) | exact HB.out))) : w.heap.size ≤ gb105)); clear HO_0; clear HO_3; clear HL104_4; clear HR104_4; clear HB; have HO_0 := n0_; have HO_3 := n1_; have HL104_4 := n2_; have HR104_4 := n3_; have HB := n4_; have BK105 := n5_; have GW105 := n6_; have GE105 := n7_; clear n0_ n1_ n2_ n3_ n4_ n5_ n6_ n7_; clear hb hbox hg; have hcz12_0 : w11.cell? ⟨gb105, 0, none⟩ = some (.int .i64 0) := (blk_cell BK105.out 0).trans rfl; have hcz12_1 : w11.cell? ⟨gb105, 1, none⟩ = some (.int .i64 0) := (blk_cell BK105.out 1).trans rfl; have hcz12_2 : w11.cell? ⟨gb105, 2, none⟩ = some (.string (⟨#[]⟩ : ByteArray)) := (blk_cell BK105.out 2).trans rfl; have hcz12_3 : w11.cell? ⟨gb105, 3, none⟩ = some (.string (⟨#[]⟩ : ByteArray)) := (blk_cell BK105.out 3).trans rfl; have hcz12_4 : w11.cell? ⟨gb105, 4, none⟩ = some (.slice none 0 0) := (blk_cell BK105.out 4).trans rfl; have hfz12_0 := blk_frozen BK105.out 0; have hfz12_1 := blk_frozen BK105.out 1; have hfz12_2 := blk_frozen BK105.out 2; have hfz12_3 := blk_frozen BK105.out 3; have hfz12_4 := blk_frozen BK105.out 4) | ((with_reducible refine gate_store (t := 34) (p := 5) rfl ?_); refine store_event (t := 34) (p := 5) (v := ?vo_w13) (w1 := (((((w11.setCell ⟨gb105, 0, none⟩ (.int .i64 ((rd_T34 l0 x4_1).f0))).setCell ⟨gb105, 1, none⟩ (.int .i64 ((rd_T34 l0 x4_1).f1))).setCell ⟨gb105, 2, none⟩ (.string ((rd_T34 l0 x4_1).f2))).setCell ⟨gb105, 3, none⟩ (.string ((rd_T34 l0 x4_1).f3))).setCell ⟨gb105, 4, none⟩ (.slice A104_4 ((rd_T34 l0 x4_1).f4).length c104_4))) ?hg ?ho ?hn ?hr ?_; (case ho => rfl); (case hg => rfl); (case hn => rfl); (case hr => first | (go_simp; done) | (go_simp; rfl)); intro w13 hw; have n0_ : Aside0 (Kd.V k34 34 w13 w.heap.size (fun k_ => (P0_ k_ ∨ w.heap.size ≤ k_) ∧ some k_ ≠ (u3 : Value).ownBlock ∧ k_ ≠ gb105) (.slice (some ad104) l0.length c0) l0) := ⟨(by rw [hw]; exact (by (with_reducible repeat (first | apply Kd.V_alloc | apply Kd.V_drewN | apply Kd.V_drew)); exact Kd.V_mono (Kd.V_far (p := ⟨gb105, 4, none⟩) (Kd.V_far (p := ⟨gb105, 3, none⟩) (Kd.V_far (p := ⟨gb105, 2, none⟩) (Kd.V_far (p := ⟨gb105, 1, none⟩) (Kd.V_far (p := ⟨gb105, 0, none⟩) (Kd.V_mono HO_0.out (fun k_ hk => (⟨hk, hk.2⟩ : _ ∧ k_ ≠ gb105))) (fun _ hk => hk.2) (.int .i64 ((rd_T34 l0 x4_1).f0))) (fun _ hk => hk.2) (.int .i64 ((rd_T34 l0 x4_1).f1))) (fun _ hk => hk.2) (.string ((rd_T34 l0 x4_1).f2))) (fun _ hk => hk.2) (.string ((rd_T34 l0 x4_1).f3))) (fun _ hk => hk.2) (.slice A104_4 ((rd_T34 l0 x4_1).f4).length c104_4)) (fun _ hk => ⟨hk.1.1.1, ⟨hk.1.1.2, hk.1.2⟩⟩)))⟩; have n1_ : Aside0 (Kd.N k34 34 w13 w.heap.size (fun k_ => (P0_ k_ ∨ w.heap.size ≤ k_) ∧ k_ ≠ gb105) u3 x3_1) := ⟨(by rw [hw]; exact (by (with_reducible repeat (first | apply Kd.N_alloc | apply Kd.N_drewN | apply Kd.N_drew)); exact Kd.N_mono (Kd.N_far (p := ⟨gb105, 4, none⟩) (Kd.N_far (p := ⟨gb105, 3, none⟩) (Kd.N_far (p := ⟨gb105, 2, none⟩) (Kd.N_far (p := ⟨gb105, 1, none⟩) (Kd.N_far (p := ⟨gb105, 0, none⟩) (Kd.N_mono HO_3.out (fun k_ hk => (⟨hk, hk.2⟩ : _ ∧ k_ ≠ gb105))) (fun _ hk => hk.2) (.int .i64 ((rd_T34 l0 x4_1).f0))) (fun _ hk => hk.2) (.int .i64 ((rd_T34 l0 x4_1).f1))) (fun _ hk => hk.2) (.string ((rd_T34 l0 x4_1).f2))) (fun _ hk => hk.2) (.string ((rd_T34 l0 x4_1).f3))) (fun _ hk => hk.2) (.slice A104_4 ((rd_T34 l0 x4_1).f4).length c104_4)) (fun _ hk => ⟨hk.1.1, hk.1.2⟩)))⟩; have n2_ : Aside0 (Kd.V k39 39 w13 w.heap.size (fun k_ => (P0_ k_ ∨ w.heap.size ≤ k_) ∧ some k_ ≠ (u3 : Value).ownBlock ∧ k_ ≠ gb105) (.slice A104_4 ((rd_T34 l0 x4_1).f4).length c104_4) ((rd_T34 l0 x4_1).f4)) := ⟨(by rw [hw]; exact (by (with_reducible repeat (first | apply Kd.V_alloc | apply Kd.V_drewN | apply Kd.V_drew)); exact Kd.V_mono (Kd.V_far (p := ⟨gb105, 4, none⟩) (Kd.V_far (p := ⟨gb105, 3, none⟩) (Kd.V_far (p := ⟨gb105, 2, none⟩) (Kd.V_far (p := ⟨gb105, 1, none⟩) (Kd.V_far (p := ⟨gb105, 0, none⟩) (Kd.V_mono HL104_4.out (fun k_ hk => (⟨hk, hk.2⟩ : _ ∧ k_ ≠ gb105))) (fun _ hk => hk.2) (.int .i64 ((rd_T34 l0 x4_1).f0))) (fun _ hk => hk.2) (.int .i64 ((rd_T34 l0 x4_1).f1))) (fun _ hk => hk.2) (.string ((rd_T34 l0 x4_1).f2))) (fun _ hk => hk.2) (.string ((rd_T34 l0 x4_1).f3))) (fun _ hk => hk.2) (.slice A104_4 ((rd_T34 l0 x4_1).f4).length c104_4)) (fun _ hk => ⟨hk.1.1.1, ⟨hk.1.1.2, hk.1.2⟩⟩)))⟩; have n3_ : Aside0 (w13.heap[gb105]? = some (.cells #[.int .i64 ((rd_T34 l0 x4_1).f0), .int .i64 ((rd_T34 l0 x4_1).f1), .string ((rd_T34 l0 x4_1).f2), .string ((rd_T34 l0 x4_1).f3), .slice A104_4 ((rd_T34 l0 x4_1).f4).length c104_4] 34 (0, 0))) := ⟨(by rw [hw]; exact (by (with_reducible repeat (first | refine blk_drewN ?_ _ | refine blk_drew ?_ | refine blk_alloc ?_ _)); refine blk_put (cs := #[.int .i64 ((rd_T34 l0 x4_1).f0), .int .i64 ((rd_T34 l0 x4_1).f1), .string ((rd_T34 l0 x4_1).f2), .string ((rd_T34 l0 x4_1).f3), .slice none 0 0]) ?_ 4 _ rfl; (with_reducible repeat (first | refine blk_drewN ?_ _ | refine blk_drew ?_ | refine blk_alloc ?_ _)); refine blk_put (cs := #[.int .i64 ((rd_T34 l0 x4_1).f0), .int .i64 ((rd_T34 l0 x4_1).f1), .string ((rd_T34 l0 x4_1).f2), .string (⟨#[]⟩ : ByteArray), .slice none 0 0]) ?_ 3 _ rfl; (with_reducible repeat (first | refine blk_drewN ?_ _ | refine blk_drew ?_ | refine blk_alloc ?_ _)); refine blk_put (cs := #[.int .i64 ((rd_T34 l0 x4_1).f0), .int .i64 ((rd_T34 l0 x4_1).f1), .string (⟨#[]⟩ : ByteArray), .string (⟨#[]⟩ : ByteArray), .slice none 0 0]) ?_ 2 _ rfl; (with_reducible repeat (first | refine blk_drewN ?_ _ | refine blk_drew ?_ | refine blk_alloc ?_ _)); refine blk_put (cs := #[.int .i64 ((rd_T34 l0 x4_1).f0), .int .i64 0, .string (⟨#[]⟩ : ByteArray), .string (⟨#[]⟩ : ByteArray), .slice none 0 0]) ?_ 1 _ rfl; (with_reducible repeat (first | refine blk_drewN ?_ _ | refine blk_drew ?_ | refine blk_alloc ?_ _)); refine blk_put (cs := #[.int .i64 0, .int .i64 0, .string (⟨#[]⟩ : ByteArray), .string (⟨#[]⟩ : ByteArray), .slice none 0 0]) ?_ 0 _ rfl; (with_reducible repeat (first | refine blk_drewN ?_ _ | refine blk_drew ?_ | refine blk_alloc ?_ _)); exact BK105.out))⟩; have n4_ : Aside0 (Below w.heap.size w w13) := ⟨(by rw [hw]; exact (by repeat (first | (with_reducible first | exact HB.out | apply below_alloc | apply pw_below_drewN | apply below_drew1 | refine below_set ?_ GE105.out) | exact HB.out)))⟩; clear hw; clear HO_0; clear HO_3; clear HL104_4; clear BK105; clear HB; have HO_0 := n0_; have HO_3 := n1_; have HL104_4 := n2_; have BK105 := n3_; have HB := n4_; clear n0_ n1_ n2_ n3_ n4_; have hcz14_0 : w13.cell? ⟨gb105, 0, none⟩ = some (.int .i64 ((rd_T34 l0 x4_1).f0)) := (blk_cell BK105.out 0).trans rfl; have hcz14_1 : w13.cell? ⟨gb105, 1, none⟩ = some (.int .i64 ((rd_T34 l0 x4_1).f1)) := (blk_cell BK105.out 1).trans rfl; have hcz14_2 : w13.cell? ⟨gb105, 2, none⟩ = some (.string ((rd_T34 l0 x4_1).f2)) := (blk_cell BK105.out 2).trans rfl; have hcz14_3 : w13.cell? ⟨gb105, 3, none⟩ = some (.string ((rd_T34 l0 x4_1).f3)) := (blk_cell BK105.out 3).trans rfl; have hcz14_4 : w13.cell? ⟨gb105, 4, none⟩ = some (.slice A104_4 ((rd_T34 l0 x4_1).f4).length c104_4) := (blk_cell BK105.out 4).trans rfl; have hfz14_0 := blk_frozen BK105.out 0; have hfz14_1 := blk_frozen BK105.out 1; have hfz14_2 := blk_frozen BK105.out 2; have hfz14_3 := blk_frozen BK105.out 3; have hfz14_4 := blk_frozen BK105.out 4; have q15 : ((ji7) : Int) ≤ ((((rd_T34 l0 x4_1).f4).length : Int) : Int) := of_decide_eq_true (by first | (with_reducible assumption) | assumption); obtain ⟨i015, hi015, _, hsz15, _⟩ := info_parts info39; have hroom15 : ((rd_T34 l0 x4_1).f4).length ≤ c104_4 := HC104_4.out; have hC15 : Kd.F k39 _ _ A104_4 ((rd_T34 l0 x4_1).f4).length ((rd_T34 l0 x4_1).f4) := (Kd.V_at (base := w.heap.size) HL104_4.out).2.2; have hcut15 := cut_to (P := Try.prog) 32 39 .i64 Try.underlying32 hi015 A104_4 ((rd_T34 l0 x4_1).f4).length c104_4 (ji7) (of_decide_eq_true (by first | (with_reducible assumption) | assumption)) q15 hroom15; have hr15 := Kd.F_take (m := ((ji7) : Int).toNat) hC15 (by omega); have hy15 : y106.length = ((ji7) : Int).toNat := (by rw [Ny106.out, List.length_take]; omega); rw [← Ny106.out] at hr15; rw [← hy15] at hcut15; have HO110 := Aside0.mk (show Kd.V k39 39 _ w.heap.size _ (.slice A104_4 y106.length c104_4) y106 from Kd.V_mk (by omega) hr15); have HC110 := Aside0.mk (show y106.length ≤ c104_4 from by omega); clear hr15 hC15 hroom15 hi015 hsz15; have KY15 := Aside0.mk hy15; clear hy15; replace q15 := eq_true q15) | ((with_reducible refine gate_store (t := 32) (p := 28) rfl ?_); refine store_event (t := 32) (p := 28) (v := ?vo_w16) (w1 := (w13.setCell ⟨gb105, 4, none⟩ (.slice A104_4 y106.length c104_4))) ?hg ?ho ?hn ?hr ?_; (case ho => rfl); (case hg => rfl); (case hn => rfl); (case hr => first | (go_simp; done) | (go_simp; rfl)); intro w16 hw; have n0_ : Aside0 (Kd.V k34 34 w16 w.heap.size (fun k_ => (P0_ k_ ∨ w.heap.size ≤ k_) ∧ some k_ ≠ (u3 : Value).ownBlock ∧ k_ ≠ gb105) (.slice (some ad104) l0.length c0) l0) := ⟨(by rw [hw]; exact (by (with_reducible repeat (first | apply Kd.V_alloc | apply Kd.V_drewN | apply Kd.V_drew)); exact Kd.V_mono (Kd.V_far (p := ⟨gb105, 4, none⟩) (Kd.V_mono HO_0.out (fun k_ hk => (⟨hk, hk.2.2⟩ : _ ∧ k_ ≠ gb105))) (fun _ hk => hk.2) (.slice A104_4 y106.length c104_4)) (fun _ hk => ⟨hk.1.1, ⟨hk.1.2.1, hk.1.2.2⟩⟩)))⟩; have n1_ : Aside0 (Kd.N k34 34 w16 w.heap.size (fun k_ => (P0_ k_ ∨ w.heap.size ≤ k_) ∧ k_ ≠ gb105) u3 x3_1) := ⟨(by rw [hw]; exact (by (with_reducible repeat (first | apply Kd.N_alloc | apply Kd.N_drewN | apply Kd.N_drew)); exact Kd.N_mono (Kd.N_far (p := ⟨gb105, 4, none⟩) (Kd.N_mono HO_3.out (fun k_ hk => (⟨hk, hk.2⟩ : _ ∧ k_ ≠ gb105))) (fun _ hk => hk.2) (.slice A104_4 y106.length c104_4)) (fun _ hk => ⟨hk.1.1, hk.1.2⟩)))⟩; have n2_ : Aside0 (Kd.V k39 39 w16 w.heap.size (fun k_ => (P0_ k_ ∨ w.heap.size ≤ k_) ∧ some k_ ≠ (u3 : Value).ownBlock ∧ k_ ≠ gb105) (.slice A104_4 ((rd_T34 l0 x4_1).f4).length c104_4) ((rd_T34 l0 x4_1).f4)) := ⟨(by rw [hw]; exact (by (with_reducible repeat (first | apply Kd.V_alloc | apply Kd.V_drewN | apply Kd.V_drew)); exact Kd.V_mono (Kd.V_far (p := ⟨gb105, 4, none⟩) (Kd.V_mono HL104_4.out (fun k_ hk => (⟨hk, hk.2.2⟩ : _ ∧ k_ ≠ gb105))) (fun _ hk => hk.2) (.slice A104_4 y106.length c104_4)) (fun _ hk => ⟨hk.1.1, ⟨hk.1.2.1, hk.1.2.2⟩⟩)))⟩; have n3_ : Aside0 (Kd.V k39 39 w16 w.heap.size (fun k_ => (P0_ k_ ∨ w.heap.size ≤ k_) ∧ some k_ ≠ (u3 : Value).ownBlock ∧ k_ ≠ gb105) (.slice A104_4 y106.length c104_4) y106) := ⟨(by rw [hw]; exact (by (with_reducible repeat (first | apply Kd.V_alloc | apply Kd.V_drewN | apply Kd.V_drew)); exact Kd.V_mono (Kd.V_far (p := ⟨gb105, 4, none⟩) (Kd.V_mono HO110.out (fun k_ hk => (⟨hk, hk.2.2⟩ : _ ∧ k_ ≠ gb105))) (fun _ hk => hk.2) (.slice A104_4 y106.length c104_4)) (fun _ hk => ⟨hk.1.1, ⟨hk.1.2.1, hk.1.2.2⟩⟩)))⟩; have n4_ : Aside0 (w16.heap[gb105]? = some (.cells #[.int .i64 ((rd_T34 l0 x4_1).f0), .int .i64 ((rd_T34 l0 x4_1).f1), .string ((rd_T34 l0 x4_1).f2), .string ((rd_T34 l0 x4_1).f3), .slice A104_4 y106.length c104_4] 34 (0, 0))) := ⟨(by rw [hw]; exact (by (with_reducible repeat (first | refine blk_drewN ?_ _ | refine blk_drew ?_ | refine blk_alloc ?_ _)); refine blk_put (cs := #[.int .i64 ((rd_T34 l0 x4_1).f0), .int .i64 ((rd_T34 l0 x4_1).f1), .string ((rd_T34 l0 x4_1).f2), .string ((rd_T34 l0 x4_1).f3), .slice A104_4 ((rd_T34 l0 x4_1).f4).length c104_4]) ?_ 4 _ rfl; (with_reducible repeat (first | refine blk_drewN ?_ _ | refine blk_drew ?_ | refine blk_alloc ?_ _)); exact BK105.out))⟩; have n5_ : Aside0 (Below w.heap.size w w16) := ⟨(by rw [hw]; exact (by repeat (first | (with_reducible first | exact HB.out | apply below_alloc | apply pw_below_drewN | apply below_drew1 | refine below_set ?_ GE105.out) | exact HB.out)))⟩; clear hw; clear HO_0; clear HO_3; clear HL104_4; clear HO110; clear BK105; clear HB; have HO_0 := n0_; have HO_3 := n1_; have HL104_4 := n2_; have HO110 := n3_; have BK105 := n4_; have HB := n5_; clear n0_ n1_ n2_ n3_ n4_ n5_; have hcz17_0 : w16.cell? ⟨gb105, 0, none⟩ = some (.int .i64 ((rd_T34 l0 x4_1).f0)) := (blk_cell BK105.out 0).trans rfl; have hcz17_1 : w16.cell? ⟨gb105, 1, none⟩ = some (.int .i64 ((rd_T34 l0 x4_1).f1)) := (blk_cell BK105.out 1).trans rfl; have hcz17_2 : w16.cell? ⟨gb105, 2, none⟩ = some (.string ((rd_T34 l0 x4_1).f2)) := (blk_cell BK105.out 2).trans rfl; have hcz17_3 : w16.cell? ⟨gb105, 3, none⟩ = some (.string ((rd_T34 l0 x4_1).f3)) := (blk_cell BK105.out 3).trans rfl; have hcz17_4 : w16.cell? ⟨gb105, 4, none⟩ = some (.slice A104_4 y106.length c104_4) := (blk_cell BK105.out 4).trans rfl; have hfz17_0 := blk_frozen BK105.out 0; have hfz17_1 := blk_frozen BK105.out 1; have hfz17_2 := blk_frozen BK105.out 2; have hfz17_3 := blk_frozen BK105.out 3; have hfz17_4 := blk_frozen BK105.out 4) | ((with_reducible refine gate_builtin (b := .append) (xs := #[.tmp 29, .tmp 31]) rfl ?_); at_builtin; refine Kd.N_append k34 (w0 := w) w.heap.size rfl (.tmp 29) (.tmp 31) 22 34 (.agg #[(.int .i64 0), (.int .i64 0), (.string ⟨#[]⟩), (.string ⟨#[]⟩), (.slice none 0 0)]) 72 rfl Try.underlying22 info34 rfl (by decide) (by omega) u3 x3_1 (⟨(rd_T34 l0 x4_1).f0, (rd_T34 l0 x4_1).f1, (rd_T34 l0 x4_1).f2, (rd_T34 l0 x4_1).f3, y106⟩ : S34) [.int .i64 ((rd_T34 l0 x4_1).f0), .int .i64 ((rd_T34 l0 x4_1).f1), .string ((rd_T34 l0 x4_1).f2), .string ((rd_T34 l0 x4_1).f3), .slice A104_4 y106.length c104_4] (fun k_ => (P0_ k_ ∨ w.heap.size ≤ k_) ∧ k_ ≠ gb105) (fun k_ => ((fun k_ => (P0_ k_ ∨ w.heap.size ≤ k_) ∧ k_ ≠ gb105)) k_ ∧ some k_ ≠ (u3 : Value).ownBlock) rfl rfl ?aP (fun _ hk => hk) ?aF ?aO ?aB ?aS ?aL ?_; (case aP => exact (k34_mkF _ _ (⟨(rd_T34 l0 x4_1).f0, (rd_T34 l0 x4_1).f1, (rd_T34 l0 x4_1).f2, (rd_T34 l0 x4_1).f3, y106⟩ : S34) (Kd.V_reads' (Kd.V_mono (ok' := (fun k_ => ((fun k_ => (P0_ k_ ∨ w.heap.size ≤ k_) ∧ k_ ≠ gb105)) k_ ∧ some k_ ≠ (u3 : Value).ownBlock)) (HO110.out) (fun k_ hk => ⟨⟨hk.1, hk.2.2⟩, hk.2.1⟩))).2.1 (Kd.V_F (Kd.V_mono (ok' := (fun k_ => ((fun k_ => (P0_ k_ ∨ w.heap.size ≤ k_) ∧ k_ ≠ gb105)) k_ ∧ some k_ ≠ (u3 : Value).ownBlock)) (HO110.out) (fun k_ hk => ⟨⟨hk.1, hk.2.2⟩, hk.2.1⟩))))); (case aB => exact (by repeat (first | (with_reducible first | exact HB.out | apply below_alloc | apply pw_below_drewN | apply below_drew1 | refine below_set ?_ GE105.out) | exact HB.out))); (case aF => exact (fun k_ hk => ⟨(.inr (Nat.le_trans (below_size (by repeat (first | (with_reducible first | exact HB.out | apply below_alloc | apply pw_below_drewN | apply below_drew1 | refine below_set ?_ GE105.out) | exact HB.out))) hk)), Kd.freshB (g := gb105) (o := .cells #[.int .i64 ((rd_T34 l0 x4_1).f0), .int .i64 ((rd_T34 l0 x4_1).f1), .string ((rd_T34 l0 x4_1).f2), .string ((rd_T34 l0 x4_1).f3), .slice A104_4 y106.length c104_4] 34 (0, 0)) (by (with_reducible repeat (first | refine blk_drewN ?_ _ | refine blk_drew ?_ | refine blk_alloc ?_ _)); exact BK105.out) k_ hk⟩)); (case aO => exact (by (with_reducible repeat (first | apply Kd.N_alloc | apply Kd.N_drewN | apply Kd.N_drew)); exact HO_3.out)); (case aS => exact (below_size (by repeat (first | (with_reducible first | exact HB.out | apply below_alloc | apply pw_below_drewN | apply below_drew1 | refine below_set ?_ GE105.out) | exact HB.out)))); (case aL => have := LMc10.out; omega); intro v112 w18 ho hb hg hat; rw [← Ny111.out] at ho; have n0_ := Aside0.mk (Kd.V_afterv (ok := (fun k_ => (P0_ k_ ∨ w.heap.size ≤ k_) ∧ k_ ≠ gb105)) (by (with_reducible repeat (first | apply Kd.V_alloc | apply Kd.V_drewN | apply Kd.V_drew)); exact Kd.V_mono HO_0.out (fun _ hk => ⟨⟨hk.1, hk.2.2⟩, hk.2.1⟩)) hg hat); have n1_ := Aside0.mk (Kd.V_afterv (ok := (fun k_ => (P0_ k_ ∨ w.heap.size ≤ k_) ∧ k_ ≠ gb105)) (by (with_reducible repeat (first | apply Kd.V_alloc | apply Kd.V_drewN | apply Kd.V_drew)); exact Kd.V_mono HL104_4.out (fun _ hk => ⟨⟨hk.1, hk.2.2⟩, hk.2.1⟩)) hg hat); have n2_ := Aside0.mk (blk_grown (g := gb105) (o := .cells #[.int .i64 ((rd_T34 l0 x4_1).f0), .int .i64 ((rd_T34 l0 x4_1).f1), .string ((rd_T34 l0 x4_1).f2), .string ((rd_T34 l0 x4_1).f3), .slice A104_4 y106.length c104_4] 34 (0, 0)) (by (with_reducible repeat (first | refine blk_drewN ?_ _ | refine blk_drew ?_ | refine blk_alloc ?_ _)); exact BK105.out) hg (Kd.N_away HO_3.out (fun _ hk => hk.2))); have n3_ := Aside0.mk (Kd.V_afterv (ok := (fun k_ => (P0_ k_ ∨ w.heap.size ≤ k_) ∧ k_ ≠ gb105)) (by (with_reducible repeat (first | apply Kd.V_alloc | apply Kd.V_drewN | apply Kd.V_drew)); exact Kd.V_mono HO110.out (fun _ hk => ⟨⟨hk.1, hk.2.2⟩, hk.2.1⟩)) hg hat); have n4_ := Aside0.mk (hb); have n5_ := Aside0.mk (ho); clear HO_0; clear HL104_4; clear BK105; clear HO110; clear HB; clear HO_3; have HO_0 := n0_; have HL104_4 := n1_; have BK105 := n2_; have HO110 := n3_; have HB := n4_; have HO113 := n5_; clear n0_ n1_ n2_ n3_ n4_ n5_; clear ho hb hg hat))
                  go_roundg k1
                  case measure => have := HK1.out; omega
                  case rel => exact ⟨(y111), (wrap64 (x4_1 + 1)), (by first | rfl | (simp; done) | (simp [*]; done)), H', ⟨by have := HK1.out; omega⟩, ⟨by (with_reducible repeat (first | apply Kd.V_alloc | apply Kd.V_drewN | apply Kd.V_drew)); exact Kd.V_mono HO_0.out (fun _ hk => ⟨hk.1.1, hk.2⟩)⟩, ⟨by (with_reducible repeat (first | apply Kd.N_alloc | apply Kd.N_drewN | apply Kd.N_drew)); exact Kd.N_mono HO113.out (fun _ hk => hk.1)⟩, ⟨by repeat (first | (with_reducible first | exact HB.out | apply below_alloc | apply pw_below_drewN | apply below_drew1 | refine below_set ?_ GE105.out) | exact HB.out)⟩⟩
                · rw [if_neg c10] at H
                  exact absurd H (by simp)
              · rw [if_neg c9] at H
                exact absurd H (by simp)
            · rw [if_neg c8] at H
              exact absurd H (by simp)
          · rw [if_neg c6] at H
            exact absurd H (by simp)
        · rw [if_neg c5] at H
          have c5b0 : decide (x4_1 < 40) = false := decide_eq_false c5
          clear c5
          obtain rfl := Option.some.inj H
          go_wp2
          go_ret
          exact ⟨_, by first | rfl | (simp [errW_none, errW_some] <;> rfl) | (simp [*, errW_none, errW_some] <;> rfl), by (with_reducible repeat (first | apply Kd.N_alloc | apply Kd.N_drewN | apply Kd.N_drew)); exact HO_3.out, by repeat (first | (with_reducible first | exact HB.out | apply below_alloc | apply pw_below_drewN | apply below_drew1) | exact HB.out)⟩
      · rw [if_neg c4] at H
        have c4b0 : decide (x4_1 < (l0.length : Int)) = false := decide_eq_false c4
        clear c4
        obtain rfl := Option.some.inj H
        go_wp2
        go_ret
        exact ⟨_, by first | rfl | (simp [errW_none, errW_some] <;> rfl) | (simp [*, errW_none, errW_some] <;> rfl), by (with_reducible repeat (first | apply Kd.N_alloc | apply Kd.N_drewN | apply Kd.N_drew)); exact HO_3.out, by repeat (first | (with_reducible first | exact HB.out | apply below_alloc | apply pw_below_drewN | apply below_drew1) | exact HB.out)⟩

end Go.Proofs.Ytakhldahohooiaa.Pr
namespace Go.Proofs.Ytakhldahohooiaa.Pr
open Go.RowKit Go.Proofs.YtakhldahohooiaaW.PrintWords Go.Proofs.YtakhldahohooiaaW.PrintLast Go.Proofs.YtakhldahohooiaaW.PrintMore
attribute [local go_sem] max2_int min2_int max_two min_two max_three min_three max_four min_four   -- for this text's walks alone
set_option linter.unusedVariables false
set_option linter.unusedSimpArgs false

/-! ### boltingref04_Row: function 20 -/
mutual
def boltingref04_Row.j0 : Nat → Bool → Int → Int → ByteArray → ByteArray → List (S39) → Option (Bool)
  | 0, _, _, _, _, _, _ => none
  | k + 1, x12, x115000, x115001, x115002, x115003, x115004 => if x12 = true then (if x115002.toList = ([] : List UInt8) then (some ((x115004.length : Int) == 0)) else (some false)) else (boltingref04_Row.l0 k 0 x115000 x115001 x115002 x115003 x115004)
def boltingref04_Row.l0 : Nat → Int → Int → Int → ByteArray → ByteArray → List (S39) → Option (Bool)
  | 0, _, _, _, _, _, _ => none
  | k + 1, x3, x115000, x115001, x115002, x115003, x115004 => if x3 < (x115004.length : Int) then (boltingref04_Row.l1 k x3 0 x115000 x115001 x115002 x115003 x115004) else (if x115001 = 0 then (if x115002.toList = ([] : List UInt8) then (some false) else (some (x115003.toList == ([] : List UInt8)))) else (some false))
def boltingref04_Row.l1 : Nat → Int → Int → Int → Int → ByteArray → ByteArray → List (S39) → Option (Bool)
  | 0, _, _, _, _, _, _, _ => none
  | k + 1, x3, x4, x115000, x115001, x115002, x115003, x115004 => if x4 < x3 then (if 0 ≤ x3 then (if x3 < (x115004.length : Int) then (if 0 ≤ x4 then (if x4 < (x115004.length : Int) then (if ((rd_T39 x115004 x3).f0).toList = ((rd_T39 x115004 x4).f0).toList then (some false) else (boltingref04_Row.l1 k x3 (wrap64 (x4 + 1)) x115000 x115001 x115002 x115003 x115004)) else (none)) else (none)) else (none)) else (none)) else (boltingref04_Row.l0 k (wrap64 (x3 + 1)) x115000 x115001 x115002 x115003 x115004)
end
def boltingref04_Row.f (k : Nat) (a0_0 : Int) (a0_1 : Int) (a0_2 : ByteArray) (a0_3 : ByteArray) (l0_4 : List (S39)) : Option (Bool) := if a0_1 = 1 then (boltingref04_Row.j0 k true a0_0 a0_1 a0_2 a0_3 l0_4) else (boltingref04_Row.j0 k (a0_1 == 2) a0_0 a0_1 a0_2 a0_3 l0_4)
set_option maxHeartbeats 8000000 in
set_option maxRecDepth 100000 in
theorem boltingref04_Row.calls (k : Nat) (a0_0 : Int) (a0_1 : Int) (a0_2 : ByteArray) (a0_3 : ByteArray) (A0_4 : Option Addr) (c0_4 : Nat) (l0_4 : List (S39)) (r : Bool) (w : World) (hr0_4 : Kd.C k39 w A0_4 l0_4.length l0_4) (hc0_4 : l0_4.length ≤ c0_4) (h : boltingref04_Row.f k a0_0 a0_1 a0_2 a0_3 l0_4 = some r) :
    Calls Try.prog 20 #[.agg #[.int .i64 a0_0, .int .i64 a0_1, .string a0_2, .string a0_3, .slice A0_4 l0_4.length c0_4]] w fun e w' => e = .returned (.bool r) ∧ Below w.heap.size w w' := by
  have hu34 := Try.underlying34
  have HR0_4 := Aside0.mk hr0_4
  have HC0_4 := Aside0.mk hc0_4
  clear hr0_4 hc0_4
  have HB := Aside0.mk (Below.refl w.heap.size w)
  have H : (if a0_1 = 1 then (boltingref04_Row.j0 k true a0_0 a0_1 a0_2 a0_3 l0_4) else (boltingref04_Row.j0 k (a0_1 == 2) a0_0 a0_1 a0_2 a0_3 l0_4)) = some r := h
  clear h
  have HC2 := Aside0.mk H
  clear H
  go_enter Try.func20, Try.ntmps20
  go_upto_region 1 with (first | ((with_reducible refine gate_dst (N := 1) rfl ?_); (try (refine gate_guard (by rfl) ?_; dsimp only)); refine box_event ?hg (N := 1) ?hd (cs := #[.int .i64 a0_0, .int .i64 a0_1, .string a0_2, .string a0_3, .slice A0_4 l0_4.length c0_4]) (t := 34) ?hr ?_; (case hd => rfl); (case hg => rfl); (case hr => first | (go_simp; done) | (go_simp; rfl)); intro gb114 hg w3 hbox hb; have n0_ := Aside0.mk (below_step (by repeat (first | (with_reducible first | exact HB.out | apply below_alloc | apply pw_below_drewN | apply below_drew1) | exact HB.out)) hb); have n1_ := Aside0.mk (hbox); have n2_ := Aside0.mk ((by rw [hg]; exact (below_size (by repeat (first | (with_reducible first | exact HB.out | apply below_alloc | apply pw_below_drewN | apply below_drew1) | exact HB.out))) : w.heap.size ≤ gb114)); have n3_ := Aside0.mk ((by rw [hg]; exact (below_size (by repeat (first | (with_reducible first | exact HB.out | apply below_alloc | apply pw_below_drewN | apply below_drew1) | exact HB.out))) : w.heap.size ≤ gb114)); clear HB; have HB := n0_; have BK114 := n1_; have GW114 := n2_; have GE114 := n3_; clear n0_ n1_ n2_ n3_; clear hb hbox hg))
  repeat (go_quiet (first | ((with_reducible refine gate_dst (N := 1) rfl ?_); (try (refine gate_guard (by rfl) ?_; dsimp only)); refine box_event ?hg (N := 1) ?hd (cs := #[.int .i64 a0_0, .int .i64 a0_1, .string a0_2, .string a0_3, .slice A0_4 l0_4.length c0_4]) (t := 34) ?hr ?_; (case hd => rfl); (case hg => rfl); (case hr => first | (go_simp; done) | (go_simp; rfl)); intro gb114 hg w3 hbox hb; have n0_ := Aside0.mk (below_step (by repeat (first | (with_reducible first | exact HB.out | apply below_alloc | apply pw_below_drewN | apply below_drew1) | exact HB.out)) hb); have n1_ := Aside0.mk (hbox); have n2_ := Aside0.mk ((by rw [hg]; exact (below_size (by repeat (first | (with_reducible first | exact HB.out | apply below_alloc | apply pw_below_drewN | apply below_drew1) | exact HB.out))) : w.heap.size ≤ gb114)); have n3_ := Aside0.mk ((by rw [hg]; exact (below_size (by repeat (first | (with_reducible first | exact HB.out | apply below_alloc | apply pw_below_drewN | apply below_drew1) | exact HB.out))) : w.heap.size ≤ gb114)); clear HB; have HB := n0_; have BK114 := n1_; have GW114 := n2_; have GE114 := n3_; clear n0_ n1_ n2_ n3_; clear hb hbox hg)); go_upto_region 1 with (first | ((with_reducible refine gate_dst (N := 1) rfl ?_); (try (refine gate_guard (by rfl) ?_; dsimp only)); refine box_event ?hg (N := 1) ?hd (cs := #[.int .i64 a0_0, .int .i64 a0_1, .string a0_2, .string a0_3, .slice A0_4 l0_4.length c0_4]) (t := 34) ?hr ?_; (case hd => rfl); (case hg => rfl); (case hr => first | (go_simp; done) | (go_simp; rfl)); intro gb114 hg w3 hbox hb; have n0_ := Aside0.mk (below_step (by repeat (first | (with_reducible first | exact HB.out | apply below_alloc | apply pw_below_drewN | apply below_drew1) | exact HB.out)) hb); have n1_ := Aside0.mk (hbox); have n2_ := Aside0.mk ((by rw [hg]; exact (below_size (by repeat (first | (with_reducible first | exact HB.out | apply below_alloc | apply pw_below_drewN | apply below_drew1) | exact HB.out))) : w.heap.size ≤ gb114)); have n3_ := Aside0.mk ((by rw [hg]; exact (below_size (by repeat (first | (with_reducible first | exact HB.out | apply below_alloc | apply pw_below_drewN | apply below_drew1) | exact HB.out))) : w.heap.size ≤ gb114)); clear HB; have HB := n0_; have BK114 := n1_; have GW114 := n2_; have GE114 := n3_; clear n0_ n1_ n2_ n3_; clear hb hbox hg)))
  (try simp only [Act.put, List.setIfInBounds_toArray, List.set_cons_zero, List.set_cons_succ])
  go_cut [12] (fun v12 wc => ∃ (kq : Nat) (x12_1 : Bool), v12 = .bool x12_1 ∧ Aside0 (boltingref04_Row.j0 kq x12_1 a0_0 a0_1 a0_2 a0_3 l0_4 = some r) ∧ Aside0 (kq ≤ k) ∧ Aside0 (wc.heap[gb114]? = some (.cells #[.int .i64 a0_0, .int .i64 a0_1, .string a0_2, .string a0_3, (.slice A0_4 l0_4.length c0_4)] 34 (0, 0))) ∧ Aside0 (Below w.heap.size w wc))
  case first =>
    have H := HC2.out
    clear HC2
    by_cases c4 : a0_1 = 1
    · rw [if_pos c4] at H
      have c4b0 : (a0_1 == 1) = true := beq_iff_eq.mpr c4
      have c4b1 : (a0_1 != 1) = false := bne_eq_false_iff_eq.mpr c4
      clear c4
      (first | rw [c4b0] | (simp only [i64_w, i32_w]; rw [c4b0]) | skip)
      have H' := Aside0.mk H
      clear H
      have hcz5_0 : w3.cell? ⟨gb114, 0, none⟩ = some (.int .i64 a0_0) := (blk_cell BK114.out 0).trans rfl
      have hcz5_1 : w3.cell? ⟨gb114, 1, none⟩ = some (.int .i64 a0_1) := (blk_cell BK114.out 1).trans rfl
      have hcz5_2 : w3.cell? ⟨gb114, 2, none⟩ = some (.string a0_2) := (blk_cell BK114.out 2).trans rfl
      have hcz5_3 : w3.cell? ⟨gb114, 3, none⟩ = some (.string a0_3) := (blk_cell BK114.out 3).trans rfl
      have hcz5_4 : w3.cell? ⟨gb114, 4, none⟩ = some (.slice A0_4 l0_4.length c0_4) := (blk_cell BK114.out 4).trans rfl
      have hfz5_0 := blk_frozen BK114.out 0
      have hfz5_1 := blk_frozen BK114.out 1
      have hfz5_2 := blk_frozen BK114.out 2
      have hfz5_3 := blk_frozen BK114.out 3
      have hfz5_4 := blk_frozen BK114.out 4
      go_wp2
      repeat (go_quiet (fail); try go_wp2)
      go_meet
      case rel => exact ⟨_, (true), (by first | rfl | (simp; done) | (simp [*]; done)), H', ⟨by first | omega | exact Nat.le_refl _⟩, ⟨by (with_reducible repeat (first | refine blk_drewN ?_ _ | refine blk_drew ?_ | refine blk_alloc ?_ _)); exact BK114.out⟩, ⟨by repeat (first | (with_reducible first | exact HB.out | apply below_alloc | apply pw_below_drewN | apply below_drew1 | refine below_set ?_ GE114.out) | exact HB.out)⟩⟩
    · rw [if_neg c4] at H
      have c4b0 : (a0_1 == 1) = false := beq_eq_false_iff_ne.mpr c4
      have c4b1 : (a0_1 != 1) = true := bne_iff_ne.mpr c4
      (first | rw [c4b0] | (simp only [i64_w, i32_w]; rw [c4b0]) | skip)
      have H' := Aside0.mk H
      clear H
      have hcz6_0 : w3.cell? ⟨gb114, 0, none⟩ = some (.int .i64 a0_0) := (blk_cell BK114.out 0).trans rfl
      have hcz6_1 : w3.cell? ⟨gb114, 1, none⟩ = some (.int .i64 a0_1) := (blk_cell BK114.out 1).trans rfl
      have hcz6_2 : w3.cell? ⟨gb114, 2, none⟩ = some (.string a0_2) := (blk_cell BK114.out 2).trans rfl
      have hcz6_3 : w3.cell? ⟨gb114, 3, none⟩ = some (.string a0_3) := (blk_cell BK114.out 3).trans rfl
      have hcz6_4 : w3.cell? ⟨gb114, 4, none⟩ = some (.slice A0_4 l0_4.length c0_4) := (blk_cell BK114.out 4).trans rfl
      have hfz6_0 := blk_frozen BK114.out 0
      have hfz6_1 := blk_frozen BK114.out 1
      have hfz6_2 := blk_frozen BK114.out 2
      have hfz6_3 := blk_frozen BK114.out 3
      have hfz6_4 := blk_frozen BK114.out 4
      go_wp2
      repeat (go_quiet (fail); try go_wp2)
      go_meet
      case rel => exact ⟨_, ((a0_1 == 2)), (by first | rfl | (simp; done) | (simp [*]; done)), H', ⟨by first | omega | exact Nat.le_refl _⟩, ⟨by (with_reducible repeat (first | refine blk_drewN ?_ _ | refine blk_drew ?_ | refine blk_alloc ?_ _)); exact BK114.out⟩, ⟨by repeat (first | (with_reducible first | exact HB.out | apply below_alloc | apply pw_below_drewN | apply below_drew1 | refine below_set ?_ GE114.out) | exact HB.out)⟩⟩
  case rest =>
    clear HC2
    try clear c2
    try clear p2
    try clear c4
    try clear c4b0
    try clear c4b1
    try clear hcz5_0
    try clear hcz5_1
    try clear hcz5_2
    try clear hcz5_3
    try clear hcz5_4
    try clear hcz6_0
    try clear hcz6_1
    try clear hcz6_2
    try clear hcz6_3
    try clear hcz6_4
    try clear hfz5_0
    try clear hfz5_1
    try clear hfz5_2
    try clear hfz5_3
    try clear hfz5_4
    try clear hfz6_0
    try clear hfz6_1
    try clear hfz6_2
    try clear hfz6_3
    try clear hfz6_4
    obtain ⟨kq, x12_1, rfl, HA, HJ1, BK114, HB⟩ := hcut
    cases kq with
    | zero => exact absurd HA.out (by simp [boltingref04_Row.j0])
    | succ kj1 =>
      have H := HA.out
      clear HA
      simp only [boltingref04_Row.j0] at H
      by_cases c7 : x12_1 = true
      · subst c7
        have H1 : (if a0_2.toList = ([] : List UInt8) then (some ((l0_4.length : Int) == 0)) else (some false)) = some r := by rw [if_pos rfl] at H; exact H
        clear H
        have H := H1
        clear H1
        by_cases c8 : a0_2.toList = ([] : List UInt8)
        · rw [if_pos c8] at H
          have c8b0 : (a0_2.toList == ([] : List UInt8)) = true := beq_iff_eq.mpr c8
          have c8b1 : (a0_2.toList != ([] : List UInt8)) = false := bne_eq_false_iff_eq.mpr c8
          clear c8
          obtain rfl := Option.some.inj H
          have hcz9_0 : wc.cell? ⟨gb114, 0, none⟩ = some (.int .i64 a0_0) := (blk_cell BK114.out 0).trans rfl
          have hcz9_1 : wc.cell? ⟨gb114, 1, none⟩ = some (.int .i64 a0_1) := (blk_cell BK114.out 1).trans rfl
          have hcz9_2 : wc.cell? ⟨gb114, 2, none⟩ = some (.string a0_2) := (blk_cell BK114.out 2).trans rfl
          have hcz9_3 : wc.cell? ⟨gb114, 3, none⟩ = some (.string a0_3) := (blk_cell BK114.out 3).trans rfl
          have hcz9_4 : wc.cell? ⟨gb114, 4, none⟩ = some (.slice A0_4 l0_4.length c0_4) := (blk_cell BK114.out 4).trans rfl
          have hfz9_0 := blk_frozen BK114.out 0
          have hfz9_1 := blk_frozen BK114.out 1
          have hfz9_2 := blk_frozen BK114.out 2
          have hfz9_3 := blk_frozen BK114.out 3
          have hfz9_4 := blk_frozen BK114.out 4
          go_wp2
          repeat (go_quiet (fail); try go_wp2)
          go_ret
          exact ⟨by first | rfl | (simp [errW_none, errW_some] <;> rfl) | (simp [*, errW_none, errW_some] <;> rfl), by repeat (first | (with_reducible first | exact HB.out | apply below_alloc | apply pw_below_drewN | apply below_drew1 | refine below_set ?_ GE114.out) | exact HB.out)⟩
        · rw [if_neg c8] at H
          have c8b0 : (a0_2.toList == ([] : List UInt8)) = false := beq_eq_false_iff_ne.mpr c8
          have c8b1 : (a0_2.toList != ([] : List UInt8)) = true := bne_iff_ne.mpr c8
          obtain rfl := Option.some.inj H
          have hcz10_0 : wc.cell? ⟨gb114, 0, none⟩ = some (.int .i64 a0_0) := (blk_cell BK114.out 0).trans rfl
          have hcz10_1 : wc.cell? ⟨gb114, 1, none⟩ = some (.int .i64 a0_1) := (blk_cell BK114.out 1).trans rfl
          have hcz10_2 : wc.cell? ⟨gb114, 2, none⟩ = some (.string a0_2) := (blk_cell BK114.out 2).trans rfl
          have hcz10_3 : wc.cell? ⟨gb114, 3, none⟩ = some (.string a0_3) := (blk_cell BK114.out 3).trans rfl
          have hcz10_4 : wc.cell? ⟨gb114, 4, none⟩ = some (.slice A0_4 l0_4.length c0_4) := (blk_cell BK114.out 4).trans rfl
          have hfz10_0 := blk_frozen BK114.out 0
          have hfz10_1 := blk_frozen BK114.out 1
          have hfz10_2 := blk_frozen BK114.out 2
          have hfz10_3 := blk_frozen BK114.out 3
          have hfz10_4 := blk_frozen BK114.out 4
          go_wp2
          repeat (go_quiet (fail); try go_wp2)
          go_ret
          exact ⟨by first | rfl | (simp [errW_none, errW_some] <;> rfl) | (simp [*, errW_none, errW_some] <;> rfl), by repeat (first | (with_reducible first | exact HB.out | apply below_alloc | apply pw_below_drewN | apply below_drew1 | refine below_set ?_ GE114.out) | exact HB.out)⟩
      · replace c7 := Bool.eq_false_iff.mpr c7
        subst c7
        have H1 : (boltingref04_Row.l0 kj1 0 a0_0 a0_1 a0_2 a0_3 l0_4) = some r := by rw [if_neg (show ¬ (false = true) by decide)] at H; exact H
        clear H
        have H := H1
        clear H1
        have H' := Aside0.mk H
        clear H
        go_wp2
        repeat (go_quiet (fail); try go_wp2)
        go_loopg [3] kj1 (fun kq v3 w' => ∃ (x3_2 : Int), v3 = .int .i64 x3_2 ∧ Aside0 (boltingref04_Row.l0 kq x3_2 a0_0 a0_1 a0_2 a0_3 l0_4 = some r) ∧ Aside0 (kq ≤ kj1) ∧ Aside0 (w'.heap[gb114]? = some (.cells #[.int .i64 a0_0, .int .i64 a0_1, .string a0_2, .string a0_3, (.slice A0_4 l0_4.length c0_4)] 34 (0, 0))) ∧ Aside0 (Below w.heap.size w w'))
        case atStart => exact ⟨(0), (by first | rfl | (simp; done) | (simp [*]; done)), H', ⟨Nat.le_refl _⟩, ⟨by (with_reducible repeat (first | refine blk_drewN ?_ _ | refine blk_drew ?_ | refine blk_alloc ?_ _)); exact BK114.out⟩, ⟨by repeat (first | (with_reducible first | exact HB.out | apply below_alloc | apply pw_below_drewN | apply below_drew1 | refine below_set ?_ GE114.out) | exact HB.out)⟩⟩
        case round =>
          clear H'
          try clear c2
          try clear p2
          try clear c4
          try clear c4b0
          try clear c4b1
          try clear c7
          try clear c8
          try clear c8b0
          try clear c8b1
          try clear hcz10_0
          try clear hcz10_1
          try clear hcz10_2
          try clear hcz10_3
          try clear hcz10_4
          try clear hcz5_0
          try clear hcz5_1
          try clear hcz5_2
          try clear hcz5_3
          try clear hcz5_4
          try clear hcz6_0
          try clear hcz6_1
          try clear hcz6_2
          try clear hcz6_3
          try clear hcz6_4
          try clear hcz9_0
          try clear hcz9_1
          try clear hcz9_2
          try clear hcz9_3
          try clear hcz9_4
          try clear hfz10_0
          try clear hfz10_1
          try clear hfz10_2
          try clear hfz10_3
          try clear hfz10_4
          try clear hfz5_0
          try clear hfz5_1
          try clear hfz5_2
          try clear hfz5_3
          try clear hfz5_4
          try clear hfz6_0
          try clear hfz6_1
          try clear hfz6_2
          try clear hfz6_3
          try clear hfz6_4
          try clear hfz9_0
          try clear hfz9_1
          try clear hfz9_2
          try clear hfz9_3
          try clear hfz9_4
          try clear p2
          obtain ⟨x3_2, rfl, HA, HK2, BK114, HB⟩ := hrel
          cases gk with
          | zero => exact absurd HA.out (by simp [boltingref04_Row.l0])
          | succ k2 =>
            have H := HA.out
            clear HA
            simp only [boltingref04_Row.l0] at H
            by_cases c11 : x3_2 < (l0_4.length : Int)
            · rw [if_pos c11] at H
              have c11b0 : decide (x3_2 < (l0_4.length : Int)) = true := decide_eq_true c11
              clear c11
              have H' := Aside0.mk H
              clear H
              have hcz12_0 : wr.cell? ⟨gb114, 0, none⟩ = some (.int .i64 a0_0) := (blk_cell BK114.out 0).trans rfl
              have hcz12_1 : wr.cell? ⟨gb114, 1, none⟩ = some (.int .i64 a0_1) := (blk_cell BK114.out 1).trans rfl
              have hcz12_2 : wr.cell? ⟨gb114, 2, none⟩ = some (.string a0_2) := (blk_cell BK114.out 2).trans rfl
              have hcz12_3 : wr.cell? ⟨gb114, 3, none⟩ = some (.string a0_3) := (blk_cell BK114.out 3).trans rfl
              have hcz12_4 : wr.cell? ⟨gb114, 4, none⟩ = some (.slice A0_4 l0_4.length c0_4) := (blk_cell BK114.out 4).trans rfl
              have hfz12_0 := blk_frozen BK114.out 0
              have hfz12_1 := blk_frozen BK114.out 1
              have hfz12_2 := blk_frozen BK114.out 2
              have hfz12_3 := blk_frozen BK114.out 3
              have hfz12_4 := blk_frozen BK114.out 4
              go_wp2
              repeat (go_quiet (fail); try go_wp2)
              go_loopg [4] k2 (fun kq v4 w' => ∃ (x4_3 : Int), v4 = .int .i64 x4_3 ∧ Aside0 (boltingref04_Row.l1 kq x3_2 x4_3 a0_0 a0_1 a0_2 a0_3 l0_4 = some r) ∧ Aside0 (kq ≤ k2) ∧ Aside0 (w'.heap[gb114]? = some (.cells #[.int .i64 a0_0, .int .i64 a0_1, .string a0_2, .string a0_3, (.slice A0_4 l0_4.length c0_4)] 34 (0, 0))) ∧ Aside0 (Below w.heap.size w w'))
              case atStart => exact ⟨(0), (by first | rfl | (simp; done) | (simp [*]; done)), H', ⟨Nat.le_refl _⟩, ⟨by (with_reducible repeat (first | refine blk_drewN ?_ _ | refine blk_drew ?_ | refine blk_alloc ?_ _)); exact BK114.out⟩, ⟨by repeat (first | (with_reducible first | exact HB.out | apply below_alloc | apply pw_below_drewN | apply below_drew1 | refine below_set ?_ GE114.out) | exact HB.out)⟩⟩
              case round =>
                clear H'
                try clear c1
                try clear c2
                try clear p2
                try clear c4
                try clear c4b0
                try clear c4b1
                try clear c7
                try clear c8
                try clear c8b0
                try clear c8b1
                try clear c11
                try clear c11b0
                try clear hcz10_0
                try clear hcz10_1
                try clear hcz10_2
                try clear hcz10_3
                try clear hcz10_4
                try clear hcz12_0
                try clear hcz12_1
                try clear hcz12_2
                try clear hcz12_3
                try clear hcz12_4
                try clear hcz5_0
                try clear hcz5_1
                try clear hcz5_2
                try clear hcz5_3
                try clear hcz5_4
                try clear hcz6_0
                try clear hcz6_1
                try clear hcz6_2
                try clear hcz6_3
                try clear hcz6_4
                try clear hcz9_0
                try clear hcz9_1
                try clear hcz9_2
                try clear hcz9_3
                try clear hcz9_4
                try clear hfz10_0
                try clear hfz10_1
                try clear hfz10_2
                try clear hfz10_3
                try clear hfz10_4
                try clear hfz12_0
                try clear hfz12_1
                try clear hfz12_2
                try clear hfz12_3
                try clear hfz12_4
                try clear hfz5_0
                try clear hfz5_1
                try clear hfz5_2
                try clear hfz5_3
                try clear hfz5_4
                try clear hfz6_0
                try clear hfz6_1
                try clear hfz6_2
                try clear hfz6_3
                try clear hfz6_4
                try clear hfz9_0
                try clear hfz9_1
                try clear hfz9_2
                try clear hfz9_3
                try clear hfz9_4
                try clear p2
                obtain ⟨x4_3, rfl, HA, HK3, BK114, HB⟩ := hrel
                cases gk with
                | zero => exact absurd HA.out (by simp [boltingref04_Row.l1])
                | succ k3 =>
                  have H := HA.out
                  clear HA
                  simp only [boltingref04_Row.l1] at H
                  by_cases c13 : x4_3 < x3_2
                  · rw [if_pos c13] at H
                    have c13b0 : decide (x4_3 < x3_2) = true := decide_eq_true c13
                    clear c13
                    by_cases c14 : 0 ≤ x3_2
                    · rw [if_pos c14] at H
                      have c14b0 : decide (0 ≤ x3_2) = true := decide_eq_true c14
                      clear c14
                      by_cases c15 : x3_2 < (l0_4.length : Int)
                      · rw [if_pos c15] at H
                        have c15b0 : decide (x3_2 < (l0_4.length : Int)) = true := decide_eq_true c15
                        clear c15
                        by_cases c16 : 0 ≤ x4_3
                        · rw [if_pos c16] at H
                          have c16b0 : decide (0 ≤ x4_3) = true := decide_eq_true c16
                          clear c16
                          by_cases c17 : x4_3 < (l0_4.length : Int)
                          · rw [if_pos c17] at H
                            have c17b0 : decide (x4_3 < (l0_4.length : Int)) = true := decide_eq_true c17
                            clear c17
                            by_cases c18 : ((rd_T39 l0_4 x3_2).f0).toList = ((rd_T39 l0_4 x4_3).f0).toList
                            · rw [if_pos c18] at H
                              have c18b0 : (((rd_T39 l0_4 x3_2).f0).toList == ((rd_T39 l0_4 x4_3).f0).toList) = true := beq_iff_eq.mpr c18
                              have c18b1 : (((rd_T39 l0_4 x3_2).f0).toList != ((rd_T39 l0_4 x4_3).f0).toList) = false := bne_eq_false_iff_eq.mpr c18
                              clear c18
                              obtain rfl := Option.some.inj H
                              have hcz19_0 : wr.cell? ⟨gb114, 0, none⟩ = some (.int .i64 a0_0) := (blk_cell BK114.out 0).trans rfl
                              have hcz19_1 : wr.cell? ⟨gb114, 1, none⟩ = some (.int .i64 a0_1) := (blk_cell BK114.out 1).trans rfl
                              have hcz19_2 : wr.cell? ⟨gb114, 2, none⟩ = some (.string a0_2) := (blk_cell BK114.out 2).trans rfl
                              have hcz19_3 : wr.cell? ⟨gb114, 3, none⟩ = some (.string a0_3) := (blk_cell BK114.out 3).trans rfl
                              have hcz19_4 : wr.cell? ⟨gb114, 4, none⟩ = some (.slice A0_4 l0_4.length c0_4) := (blk_cell BK114.out 4).trans rfl
                              have hfz19_0 := blk_frozen BK114.out 0
                              have hfz19_1 := blk_frozen BK114.out 1
                              have hfz19_2 := blk_frozen BK114.out 2
                              have hfz19_3 := blk_frozen BK114.out 3
                              have hfz19_4 := blk_frozen BK114.out 4
                              have p115 : 0 ≤ (x3_2 : Int) := of_decide_eq_true (by first | (with_reducible assumption) | assumption)
                              have q115 : x3_2 < (l0_4.length : Int) := of_decide_eq_true (by first | (with_reducible assumption) | assumption)
                              obtain ⟨ad115, e115, hx115_0, hx115_1⟩ := at_T39 HR0_4.out x3_2 p115 q115
                              cases e115
                              replace hx115_0 := (HB.out.cell (World.block_lt_of_cell? w _ hx115_0)).trans hx115_0
                              replace hx115_1 := (HB.out.cell (World.block_lt_of_cell? w _ hx115_1)).trans hx115_1
                              replace p115 := eq_true p115
                              replace q115 := eq_true q115
                              have p116 : 0 ≤ (x4_3 : Int) := of_decide_eq_true (by first | (with_reducible assumption) | assumption)
                              have q116 : x4_3 < (l0_4.length : Int) := of_decide_eq_true (by first | (with_reducible assumption) | assumption)
                              obtain ⟨ad116, e116, hx116_0, hx116_1⟩ := at_T39 HR0_4.out x4_3 p116 q116
                              obtain rfl : ad115 = ad116 := (by injection e116)
                              replace hx116_0 := (HB.out.cell (World.block_lt_of_cell? w _ hx116_0)).trans hx116_0
                              replace hx116_1 := (HB.out.cell (World.block_lt_of_cell? w _ hx116_1)).trans hx116_1
                              replace p116 := eq_true p116
                              replace q116 := eq_true q116
                              go_wp2
                              repeat (go_quiet (fail); try go_wp2)
                              go_ret
                              exact ⟨by first | rfl | (simp [errW_none, errW_some] <;> rfl) | (simp [*, errW_none, errW_some] <;> rfl), by repeat (first | (with_reducible first | exact HB.out | apply below_alloc | apply pw_below_drewN | apply below_drew1 | refine below_set ?_ GE114.out) | exact HB.out)⟩
                            · rw [if_neg c18] at H
                              have c18b0 : (((rd_T39 l0_4 x3_2).f0).toList == ((rd_T39 l0_4 x4_3).f0).toList) = false := beq_eq_false_iff_ne.mpr c18
                              have c18b1 : (((rd_T39 l0_4 x3_2).f0).toList != ((rd_T39 l0_4 x4_3).f0).toList) = true := bne_iff_ne.mpr c18
                              have H' := Aside0.mk H
                              clear H
                              have hcz20_0 : wr.cell? ⟨gb114, 0, none⟩ = some (.int .i64 a0_0) := (blk_cell BK114.out 0).trans rfl
                              have hcz20_1 : wr.cell? ⟨gb114, 1, none⟩ = some (.int .i64 a0_1) := (blk_cell BK114.out 1).trans rfl
                              have hcz20_2 : wr.cell? ⟨gb114, 2, none⟩ = some (.string a0_2) := (blk_cell BK114.out 2).trans rfl
                              have hcz20_3 : wr.cell? ⟨gb114, 3, none⟩ = some (.string a0_3) := (blk_cell BK114.out 3).trans rfl
                              have hcz20_4 : wr.cell? ⟨gb114, 4, none⟩ = some (.slice A0_4 l0_4.length c0_4) := (blk_cell BK114.out 4).trans rfl
                              have hfz20_0 := blk_frozen BK114.out 0
                              have hfz20_1 := blk_frozen BK114.out 1
                              have hfz20_2 := blk_frozen BK114.out 2
                              have hfz20_3 := blk_frozen BK114.out 3
                              have hfz20_4 := blk_frozen BK114.out 4
                              have p115 : 0 ≤ (x3_2 : Int) := of_decide_eq_true (by first | (with_reducible assumption) | assumption)
                              have q115 : x3_2 < (l0_4.length : Int) := of_decide_eq_true (by first | (with_reducible assumption) | assumption)
                              obtain ⟨ad115, e115, hx115_0, hx115_1⟩ := at_T39 HR0_4.out x3_2 p115 q115
                              cases e115
                              replace hx115_0 := (HB.out.cell (World.block_lt_of_cell? w _ hx115_0)).trans hx115_0
                              replace hx115_1 := (HB.out.cell (World.block_lt_of_cell? w _ hx115_1)).trans hx115_1
                              replace p115 := eq_true p115
                              replace q115 := eq_true q115
                              have p116 : 0 ≤ (x4_3 : Int) := of_decide_eq_true (by first | (with_reducible assumption) | assumption)
                              have q116 : x4_3 < (l0_4.length : Int) := of_decide_eq_true (by first | (with_reducible assumption) | assumption)
                              obtain ⟨ad116, e116, hx116_0, hx116_1⟩ := at_T39 HR0_4.out x4_3 p116 q116
                              obtain rfl : ad115 = ad116 := (by injection e116)
                              replace hx116_0 := (HB.out.cell (World.block_lt_of_cell? w _ hx116_0)).trans hx116_0
                              replace hx116_1 := (HB.out.cell (World.block_lt_of_cell? w _ hx116_1)).trans hx116_1
                              replace p116 := eq_true p116
                              replace q116 := eq_true q116
                              go_wp2
                              repeat (go_quiet (fail); try go_wp2)
                              go_roundg k3
                              case measure => have := HJ1.out; have := HK2.out; have := HK3.out; omega
                              case rel => exact ⟨(wrap64 (x4_3 + 1)), (by first | rfl | (simp; done) | (simp [*]; done)), H', ⟨by have := HJ1.out; have := HK2.out; have := HK3.out; omega⟩, ⟨by (with_reducible repeat (first | refine blk_drewN ?_ _ | refine blk_drew ?_ | refine blk_alloc ?_ _)); exact BK114.out⟩, ⟨by repeat (first | (with_reducible first | exact HB.out | apply below_alloc | apply pw_below_drewN | apply below_drew1 | refine below_set ?_ GE114.out) | exact HB.out)⟩⟩
                          · rw [if_neg c17] at H
                            exact absurd H (by simp)
                        · rw [if_neg c16] at H
                          exact absurd H (by simp)
                      · rw [if_neg c15] at H
                        exact absurd H (by simp)
                    · rw [if_neg c14] at H
                      exact absurd H (by simp)
                  · rw [if_neg c13] at H
                    have c13b0 : decide (x4_3 < x3_2) = false := decide_eq_false c13
                    clear c13
                    have H' := Aside0.mk H
                    clear H
                    go_wp2
                    repeat (go_quiet (fail); try go_wp2)
                    go_roundg k3
                    case measure => have := HJ1.out; have := HK2.out; have := HK3.out; omega
                    case rel => exact ⟨(wrap64 (x3_2 + 1)), (by first | rfl | (simp; done) | (simp [*]; done)), H', ⟨by have := HJ1.out; have := HK2.out; have := HK3.out; omega⟩, ⟨by (with_reducible repeat (first | refine blk_drewN ?_ _ | refine blk_drew ?_ | refine blk_alloc ?_ _)); exact BK114.out⟩, ⟨by repeat (first | (with_reducible first | exact HB.out | apply below_alloc | apply pw_below_drewN | apply below_drew1 | refine below_set ?_ GE114.out) | exact HB.out)⟩⟩
            · rw [if_neg c11] at H
              have c11b0 : decide (x3_2 < (l0_4.length : Int)) = false := decide_eq_false c11
              clear c11
              by_cases c21 : a0_1 = 0
              · rw [if_pos c21] at H
                have c21b0 : (a0_1 == 0) = true := beq_iff_eq.mpr c21
                have c21b1 : (a0_1 != 0) = false := bne_eq_false_iff_eq.mpr c21
                clear c21
                by_cases c22 : a0_2.toList = ([] : List UInt8)
                · rw [if_pos c22] at H
                  have c22b0 : (a0_2.toList == ([] : List UInt8)) = true := beq_iff_eq.mpr c22
                  have c22b1 : (a0_2.toList != ([] : List UInt8)) = false := bne_eq_false_iff_eq.mpr c22
                  clear c22
                  obtain rfl := Option.some.inj H
                  have hcz23_0 : wr.cell? ⟨gb114, 0, none⟩ = some (.int .i64 a0_0) := (blk_cell BK114.out 0).trans rfl
                  have hcz23_1 : wr.cell? ⟨gb114, 1, none⟩ = some (.int .i64 a0_1) := (blk_cell BK114.out 1).trans rfl
                  have hcz23_2 : wr.cell? ⟨gb114, 2, none⟩ = some (.string a0_2) := (blk_cell BK114.out 2).trans rfl
                  have hcz23_3 : wr.cell? ⟨gb114, 3, none⟩ = some (.string a0_3) := (blk_cell BK114.out 3).trans rfl
                  have hcz23_4 : wr.cell? ⟨gb114, 4, none⟩ = some (.slice A0_4 l0_4.length c0_4) := (blk_cell BK114.out 4).trans rfl
                  have hfz23_0 := blk_frozen BK114.out 0
                  have hfz23_1 := blk_frozen BK114.out 1
                  have hfz23_2 := blk_frozen BK114.out 2
                  have hfz23_3 := blk_frozen BK114.out 3
                  have hfz23_4 := blk_frozen BK114.out 4
                  go_wp2
                  repeat (go_quiet (fail); try go_wp2)
                  go_ret
                  exact ⟨by first | rfl | (simp [errW_none, errW_some] <;> rfl) | (simp [*, errW_none, errW_some] <;> rfl), by repeat (first | (with_reducible first | exact HB.out | apply below_alloc | apply pw_below_drewN | apply below_drew1 | refine below_set ?_ GE114.out) | exact HB.out)⟩
                · rw [if_neg c22] at H
                  have c22b0 : (a0_2.toList == ([] : List UInt8)) = false := beq_eq_false_iff_ne.mpr c22
                  have c22b1 : (a0_2.toList != ([] : List UInt8)) = true := bne_iff_ne.mpr c22
                  obtain rfl := Option.some.inj H
                  have hcz24_0 : wr.cell? ⟨gb114, 0, none⟩ = some (.int .i64 a0_0) := (blk_cell BK114.out 0).trans rfl
                  have hcz24_1 : wr.cell? ⟨gb114, 1, none⟩ = some (.int .i64 a0_1) := (blk_cell BK114.out 1).trans rfl
                  have hcz24_2 : wr.cell? ⟨gb114, 2, none⟩ = some (.string a0_2) := (blk_cell BK114.out 2).trans rfl
                  have hcz24_3 : wr.cell? ⟨gb114, 3, none⟩ = some (.string a0_3) := (blk_cell BK114.out 3).trans rfl
                  have hcz24_4 : wr.cell? ⟨gb114, 4, none⟩ = some (.slice A0_4 l0_4.length c0_4) := (blk_cell BK114.out 4).trans rfl
                  have hfz24_0 := blk_frozen BK114.out 0
                  have hfz24_1 := blk_frozen BK114.out 1
                  have hfz24_2 := blk_frozen BK114.out 2
                  have hfz24_3 := blk_frozen BK114.out 3
                  have hfz24_4 := blk_frozen BK114.out 4
                  go_wp2
                  repeat (go_quiet (fail); try go_wp2)
                  go_ret
                  exact ⟨by first | rfl | (simp [errW_none, errW_some] <;> rfl) | (simp [*, errW_none, errW_some] <;> rfl), by repeat (first | (with_reducible first | exact HB.out | apply below_alloc | apply pw_below_drewN | apply below_drew1 | refine below_set ?_ GE114.out) | exact HB.out)⟩
              · rw [if_neg c21] at H
                have c21b0 : (a0_1 == 0) = false := beq_eq_false_iff_ne.mpr c21
                have c21b1 : (a0_1 != 0) = true := bne_iff_ne.mpr c21
                obtain rfl := Option.some.inj H
                have hcz25_0 : wr.cell? ⟨gb114, 0, none⟩ = some (.int .i64 a0_0) := (blk_cell BK114.out 0).trans rfl
                have hcz25_1 : wr.cell? ⟨gb114, 1, none⟩ = some (.int .i64 a0_1) := (blk_cell BK114.out 1).trans rfl
                have hcz25_2 : wr.cell? ⟨gb114, 2, none⟩ = some (.string a0_2) := (blk_cell BK114.out 2).trans rfl
                have hcz25_3 : wr.cell? ⟨gb114, 3, none⟩ = some (.string a0_3) := (blk_cell BK114.out 3).trans rfl
                have hcz25_4 : wr.cell? ⟨gb114, 4, none⟩ = some (.slice A0_4 l0_4.length c0_4) := (blk_cell BK114.out 4).trans rfl
                have hfz25_0 := blk_frozen BK114.out 0
                have hfz25_1 := blk_frozen BK114.out 1
                have hfz25_2 := blk_frozen BK114.out 2
                have hfz25_3 := blk_frozen BK114.out 3
                have hfz25_4 := blk_frozen BK114.out 4
                go_wp2
                repeat (go_quiet (fail); try go_wp2)
                go_ret
                exact ⟨by first | rfl | (simp [errW_none, errW_some] <;> rfl) | (simp [*, errW_none, errW_some] <;> rfl), by repeat (first | (with_reducible first | exact HB.out | apply below_alloc | apply pw_below_drewN | apply below_drew1 | refine below_set ?_ GE114.out) | exact HB.out)⟩

end Go.Proofs.Ytakhldahohooiaa.Pr
namespace Go.Proofs.Ytakhldahohooiaa.Pr
open Go.RowKit Go.Proofs.YtakhldahohooiaaW.PrintWords Go.Proofs.YtakhldahohooiaaW.PrintLast Go.Proofs.YtakhldahohooiaaW.PrintMore
attribute [local go_sem] max2_int min2_int max_two min_two max_three min_three max_four min_four   -- for this text's walks alone
set_option linter.unusedVariables false
set_option linter.unusedSimpArgs false

/-! ### boltingref04_Right: function 8 -/
mutual
def boltingref04_Right.l0 : Nat → List (S34) → Int → Option (Bool)
  | 0, _, _ => none
  | k + 1, x0, x3 => if x3 < (x0.length : Int) then (if 0 ≤ x3 then ((boltingref04_Row.f k ((rd_T34 x0 x3).f0) ((rd_T34 x0 x3).f1) ((rd_T34 x0 x3).f2) ((rd_T34 x0 x3).f3) ((rd_T34 x0 x3).f4)).bind fun t119 => (if t119 = true then (if ((rd_T34 x0 x3).f0) < 0 then (boltingref04_Right.j1 k x0 x3 ((rd_T34 x0 x3).f0) true) else (if x3 = 0 then (boltingref04_Right.j1 k x0 x3 ((rd_T34 x0 x3).f0) (((rd_T34 x0 x3).f0) != 0)) else (boltingref04_Right.j1 k x0 x3 ((rd_T34 x0 x3).f0) false))) else (boltingref04_Right.j1 k x0 x3 ((rd_T34 x0 x3).f0) true))) else (none)) else (some true)
def boltingref04_Right.j1 : Nat → List (S34) → Int → Int → Bool → Option (Bool)
  | 0, _, _, _, _ => none
  | k + 1, x0, x3, x4, x33 => if x33 = true then (some false) else (if x3 > 0 then (if 0 ≤ (wrap64 (x3 - 1)) then (if (wrap64 (x3 - 1)) < (x0.length : Int) then (if x4 > (wrap64 (((rd_T34 x0 (wrap64 (x3 - 1))).f0) + 1)) then (some false) else (if x4 = (wrap64 (((rd_T34 x0 (wrap64 (x3 - 1))).f0) + 1)) then (if ((rd_T34 x0 (wrap64 (x3 - 1))).f1) = 0 then (boltingref04_Right.l0 k x0 (wrap64 (x3 + 1))) else (some false)) else (boltingref04_Right.l0 k x0 (wrap64 (x3 + 1))))) else (none)) else (none)) else (boltingref04_Right.l0 k x0 (wrap64 (x3 + 1))))
end
def boltingref04_Right.f (k : Nat) (l0 : List (S34)) : Option (Bool) := boltingref04_Right.l0 k l0 0
set_option maxHeartbeats 8000000 in
set_option maxRecDepth 100000 in
theorem boltingref04_Right.calls (k : Nat) (A0 : Option Addr) (c0 : Nat) (l0 : List (S34)) (r : Bool) (w : World) (hr0 : Kd.C k34 w A0 l0.length l0) (hc0 : l0.length ≤ c0) (h : boltingref04_Right.f k l0 = some r) :
    Calls Try.prog 8 #[.slice A0 l0.length c0] w fun e w' => e = .returned (.bool r) ∧ Below w.heap.size w w' := by
  have hu34 := Try.underlying34
  have HR0 := Aside0.mk hr0
  have HC0 := Aside0.mk hc0
  clear hr0 hc0
  have HB := Aside0.mk (Below.refl w.heap.size w)
  have H : (boltingref04_Right.l0 k l0 0) = some r := h
  clear h
  have H' := Aside0.mk H
  clear H
  go_enter Try.func8, Try.ntmps8
  go_wp2
  go_loopg [3] k (fun kq v3 w' => ∃ (x3_1 : Int), v3 = .int .i64 x3_1 ∧ Aside0 (boltingref04_Right.l0 kq l0 x3_1 = some r) ∧ Aside0 (kq ≤ k) ∧ Aside0 (Below w.heap.size w w'))
  case atStart => exact ⟨(0), (by first | rfl | (simp; done) | (simp [*]; done)), H', ⟨Nat.le_refl _⟩, ⟨by repeat (first | (with_reducible first | exact HB.out | apply below_alloc | apply pw_below_drewN | apply below_drew1) | exact HB.out)⟩⟩
  case round =>
    clear H'
    obtain ⟨x3_1, rfl, HA, HK1, HB⟩ := hrel
    cases gk with
    | zero => exact absurd HA.out (by simp [boltingref04_Right.l0])
    | succ k1 =>
      have H := HA.out
      clear HA
      simp only [boltingref04_Right.l0] at H
      by_cases c2 : x3_1 < (l0.length : Int)
      · rw [if_pos c2] at H
        have c2b0 : decide (x3_1 < (l0.length : Int)) = true := decide_eq_true c2
        clear c2
        by_cases c3 : 0 ≤ x3_1
        · rw [if_pos c3] at H
          have c3b0 : decide (0 ≤ x3_1) = true := decide_eq_true c3
          clear c3
          have HC4 := Aside0.mk H
          clear H
          have p117 : 0 ≤ (x3_1 : Int) := of_decide_eq_true (by first | (with_reducible assumption) | assumption)
          have q117 : x3_1 < (l0.length : Int) := of_decide_eq_true (by first | (with_reducible assumption) | assumption)
          obtain ⟨ad117, A117_4, c117_4, e117, hx117_0, hx117_1, hx117_2, hx117_3, hx117_4, hl117_4, hi117_4⟩ := at_T34 HR0.out x3_1 p117 q117
          cases e117
          replace hx117_0 := (HB.out.cell (World.block_lt_of_cell? w _ hx117_0)).trans hx117_0
          replace hx117_1 := (HB.out.cell (World.block_lt_of_cell? w _ hx117_1)).trans hx117_1
          replace hx117_2 := (HB.out.cell (World.block_lt_of_cell? w _ hx117_2)).trans hx117_2
          replace hx117_3 := (HB.out.cell (World.block_lt_of_cell? w _ hx117_3)).trans hx117_3
          replace hx117_4 := (HB.out.cell (World.block_lt_of_cell? w _ hx117_4)).trans hx117_4
          have HR117_4 := Aside0.mk hi117_4
          have HC117_4 := Aside0.mk hl117_4
          clear hi117_4 hl117_4
          replace p117 := eq_true p117
          replace q117 := eq_true q117
          go_upto_region 5 with (fail)
          go_cut [33] (fun v33 wc => ∃ (kq : Nat) (x33_3 : Bool), v33 = .bool x33_3 ∧ Aside0 (boltingref04_Right.j1 kq l0 x3_1 ((rd_T34 l0 x3_1).f0) x33_3 = some r) ∧ Aside0 (kq ≤ k1) ∧ Aside0 (Below w.heap.size w wc))
          case first =>
            have H := HC4.out
            clear HC4
            replace H := Option.bind_eq_some_iff.mp H
            obtain ⟨t119, A50, H⟩ := H
            replace H : (if t119 = true then (if ((rd_T34 l0 x3_1).f0) < 0 then (boltingref04_Right.j1 k1 l0 x3_1 ((rd_T34 l0 x3_1).f0) true) else (if x3_1 = 0 then (boltingref04_Right.j1 k1 l0 x3_1 ((rd_T34 l0 x3_1).f0) (((rd_T34 l0 x3_1).f0) != 0)) else (boltingref04_Right.j1 k1 l0 x3_1 ((rd_T34 l0 x3_1).f0) false))) else (boltingref04_Right.j1 k1 l0 x3_1 ((rd_T34 l0 x3_1).f0) true)) = some r := H
            have A5 := Aside0.mk A50
            clear A50
            by_cases c6 : t119 = true
            · subst c6
              have H1 : (if ((rd_T34 l0 x3_1).f0) < 0 then (boltingref04_Right.j1 k1 l0 x3_1 ((rd_T34 l0 x3_1).f0) true) else (if x3_1 = 0 then (boltingref04_Right.j1 k1 l0 x3_1 ((rd_T34 l0 x3_1).f0) (((rd_T34 l0 x3_1).f0) != 0)) else (boltingref04_Right.j1 k1 l0 x3_1 ((rd_T34 l0 x3_1).f0) false))) = some r := by rw [if_pos rfl] at H; exact H
              clear H
              have H := H1
              clear H1
              by_cases c7 : ((rd_T34 l0 x3_1).f0) < 0
              · rw [if_pos c7] at H
                have c7b0 : decide (((rd_T34 l0 x3_1).f0) < 0) = true := decide_eq_true c7
                clear c7
                (first | rw [c7b0] | (simp only [i64_w, i32_w]; rw [c7b0]) | skip)
                have H' := Aside0.mk H
                clear H
                have p118 : 0 ≤ (x3_1 : Int) := of_decide_eq_true (by first | (with_reducible assumption) | assumption)
                have q118 : x3_1 < (l0.length : Int) := of_decide_eq_true (by first | (with_reducible assumption) | assumption)
                obtain ⟨ad118, A118_4, c118_4, e118, hx118_0, hx118_1, hx118_2, hx118_3, hx118_4, hl118_4, hi118_4⟩ := at_T34 HR0.out x3_1 p118 q118
                obtain rfl : ad117 = ad118 := (by injection e118)
                replace hx118_0 := (HB.out.cell (World.block_lt_of_cell? w _ hx118_0)).trans hx118_0
                replace hx118_1 := (HB.out.cell (World.block_lt_of_cell? w _ hx118_1)).trans hx118_1
                replace hx118_2 := (HB.out.cell (World.block_lt_of_cell? w _ hx118_2)).trans hx118_2
                replace hx118_3 := (HB.out.cell (World.block_lt_of_cell? w _ hx118_3)).trans hx118_3
                replace hx118_4 := (HB.out.cell (World.block_lt_of_cell? w _ hx118_4)).trans hx118_4
                (try (have eq_ := hx118_4.symm.trans hx117_4; simp only [Option.some.injEq, Value.slice.injEq] at eq_; obtain ⟨eqA_, _, eqc_⟩ := eq_; subst eqA_; subst eqc_))
                have HR118_4 := Aside0.mk hi118_4
                have HC118_4 := Aside0.mk hl118_4
                clear hi118_4 hl118_4
                replace p118 := eq_true p118
                replace q118 := eq_true q118
                go_wp2_with (first | ((with_reducible refine gate_callee (f := 20) rfl ?_); refine goesL_ (some 20) rfl rfl Try.func20 (by kernel_rfl) rfl #[.agg #[.int .i64 ((rd_T34 l0 x3_1).f0), .int .i64 ((rd_T34 l0 x3_1).f1), .string ((rd_T34 l0 x3_1).f2), .string ((rd_T34 l0 x3_1).f3), .slice A118_4 ((rd_T34 l0 x3_1).f4).length c118_4]] rfl (by (try simp only [List.map_toArray, List.map_cons, List.map_nil]); first | done | rfl | (simp only [List.length_drop, List.length_take]; rfl)) ?_; (with_reducible refine (boltingref04_Row.calls k1 ((rd_T34 l0 x3_1).f0) ((rd_T34 l0 x3_1).f1) ((rd_T34 l0 x3_1).f2) ((rd_T34 l0 x3_1).f3) _ _ ((rd_T34 l0 x3_1).f4) true _ ?side1 ?side2 A5.out).mono ?_); (case side1 => repeat (first | exact (Kd.C_below HR118_4.out HB.out) | (with_reducible refine Kd.C_alloc ?_ _) | (with_reducible refine Kd.C_drewN ?_ _) | (with_reducible refine Kd.C_drew ?_))); (case side2 => exact HC118_4.out); rintro e w8 ⟨rfl, hb⟩; refine ⟨_, rfl, ?_⟩; have n0_ := Aside0.mk (below_step (by repeat (first | (with_reducible first | exact HB.out | apply below_alloc | apply pw_below_drewN | apply below_drew1) | exact HB.out)) hb); clear HB; have HB := n0_; clear n0_; (try clear hb); (try clear hb2); (try clear hk); (try clear hi)))
                go_meet
                case rel => exact ⟨_, (true), (by first | rfl | (simp; done) | (simp [*]; done)), H', ⟨by have := HK1.out; first | omega | exact Nat.le_refl _⟩, ⟨by repeat (first | (with_reducible first | exact HB.out | apply below_alloc | apply pw_below_drewN | apply below_drew1) | exact HB.out)⟩⟩
              · rw [if_neg c7] at H
                have c7b0 : decide (((rd_T34 l0 x3_1).f0) < 0) = false := decide_eq_false c7
                clear c7
                (first | rw [c7b0] | (simp only [i64_w, i32_w]; rw [c7b0]) | skip)
                by_cases c9 : x3_1 = 0
                · rw [if_pos c9] at H
                  have c9b0 : (x3_1 == 0) = true := beq_iff_eq.mpr c9
                  have c9b1 : (x3_1 != 0) = false := bne_eq_false_iff_eq.mpr c9
                  clear c9
                  have H' := Aside0.mk H
                  clear H
                  have p118 : 0 ≤ (x3_1 : Int) := of_decide_eq_true (by first | (with_reducible assumption) | assumption)
                  have q118 : x3_1 < (l0.length : Int) := of_decide_eq_true (by first | (with_reducible assumption) | assumption)
                  obtain ⟨ad118, A118_4, c118_4, e118, hx118_0, hx118_1, hx118_2, hx118_3, hx118_4, hl118_4, hi118_4⟩ := at_T34 HR0.out x3_1 p118 q118
                  obtain rfl : ad117 = ad118 := (by injection e118)
                  replace hx118_0 := (HB.out.cell (World.block_lt_of_cell? w _ hx118_0)).trans hx118_0
                  replace hx118_1 := (HB.out.cell (World.block_lt_of_cell? w _ hx118_1)).trans hx118_1
                  replace hx118_2 := (HB.out.cell (World.block_lt_of_cell? w _ hx118_2)).trans hx118_2
                  replace hx118_3 := (HB.out.cell (World.block_lt_of_cell? w _ hx118_3)).trans hx118_3
                  replace hx118_4 := (HB.out.cell (World.block_lt_of_cell? w _ hx118_4)).trans hx118_4
                  (try (have eq_ := hx118_4.symm.trans hx117_4; simp only [Option.some.injEq, Value.slice.injEq] at eq_; obtain ⟨eqA_, _, eqc_⟩ := eq_; subst eqA_; subst eqc_))
                  have HR118_4 := Aside0.mk hi118_4
                  have HC118_4 := Aside0.mk hl118_4
                  clear hi118_4 hl118_4
                  replace p118 := eq_true p118
                  replace q118 := eq_true q118
                  go_wp2_with (first | ((with_reducible refine gate_callee (f := 20) rfl ?_); refine goesL_ (some 20) rfl rfl Try.func20 (by kernel_rfl) rfl #[.agg #[.int .i64 ((rd_T34 l0 x3_1).f0), .int .i64 ((rd_T34 l0 x3_1).f1), .string ((rd_T34 l0 x3_1).f2), .string ((rd_T34 l0 x3_1).f3), .slice A118_4 ((rd_T34 l0 x3_1).f4).length c118_4]] rfl (by (try simp only [List.map_toArray, List.map_cons, List.map_nil]); first | done | rfl | (simp only [List.length_drop, List.length_take]; rfl)) ?_; (with_reducible refine (boltingref04_Row.calls k1 ((rd_T34 l0 x3_1).f0) ((rd_T34 l0 x3_1).f1) ((rd_T34 l0 x3_1).f2) ((rd_T34 l0 x3_1).f3) _ _ ((rd_T34 l0 x3_1).f4) true _ ?side1 ?side2 A5.out).mono ?_); (case side1 => repeat (first | exact (Kd.C_below HR118_4.out HB.out) | (with_reducible refine Kd.C_alloc ?_ _) | (with_reducible refine Kd.C_drewN ?_ _) | (with_reducible refine Kd.C_drew ?_))); (case side2 => exact HC118_4.out); rintro e w10 ⟨rfl, hb⟩; refine ⟨_, rfl, ?_⟩; have n0_ := Aside0.mk (below_step (by repeat (first | (with_reducible first | exact HB.out | apply below_alloc | apply pw_below_drewN | apply below_drew1) | exact HB.out)) hb); clear HB; have HB := n0_; clear n0_; (try clear hb); (try clear hb2); (try clear hk); (try clear hi)))
                  go_meet
                  case rel => exact ⟨_, ((((rd_T34 l0 x3_1).f0) != 0)), (by first | rfl | (simp; done) | (simp [*]; done)), H', ⟨by have := HK1.out; first | omega | exact Nat.le_refl _⟩, ⟨by repeat (first | (with_reducible first | exact HB.out | apply below_alloc | apply pw_below_drewN | apply below_drew1) | exact HB.out)⟩⟩
                · rw [if_neg c9] at H
                  have c9b0 : (x3_1 == 0) = false := beq_eq_false_iff_ne.mpr c9
                  have c9b1 : (x3_1 != 0) = true := bne_iff_ne.mpr c9
                  have H' := Aside0.mk H
                  clear H
                  have p118 : 0 ≤ (x3_1 : Int) := of_decide_eq_true (by first | (with_reducible assumption) | assumption)
                  have q118 : x3_1 < (l0.length : Int) := of_decide_eq_true (by first | (with_reducible assumption) | assumption)
                  obtain ⟨ad118, A118_4, c118_4, e118, hx118_0, hx118_1, hx118_2, hx118_3, hx118_4, hl118_4, hi118_4⟩ := at_T34 HR0.out x3_1 p118 q118
                  obtain rfl : ad117 = ad118 := (by injection e118)
                  replace hx118_0 := (HB.out.cell (World.block_lt_of_cell? w _ hx118_0)).trans hx118_0
                  replace hx118_1 := (HB.out.cell (World.block_lt_of_cell? w _ hx118_1)).trans hx118_1
                  replace hx118_2 := (HB.out.cell (World.block_lt_of_cell? w _ hx118_2)).trans hx118_2
                  replace hx118_3 := (HB.out.cell (World.block_lt_of_cell? w _ hx118_3)).trans hx118_3
                  replace hx118_4 := (HB.out.cell (World.block_lt_of_cell? w _ hx118_4)).trans hx118_4
                  (try (have eq_ := hx118_4.symm.trans hx117_4; simp only [Option.some.injEq, Value.slice.injEq] at eq_; obtain ⟨eqA_, _, eqc_⟩ := eq_; subst eqA_; subst eqc_))
                  have HR118_4 := Aside0.mk hi118_4
                  have HC118_4 := Aside0.mk hl118_4
                  clear hi118_4 hl118_4
                  replace p118 := eq_true p118
                  replace q118 := eq_true q118
                  go_wp2_with (first | ((with_reducible refine gate_callee (f := 20) rfl ?_); refine goesL_ (some 20) rfl rfl Try.func20 (by kernel_rfl) rfl #[.agg #[.int .i64 ((rd_T34 l0 x3_1).f0), .int .i64 ((rd_T34 l0 x3_1).f1), .string ((rd_T34 l0 x3_1).f2), .string ((rd_T34 l0 x3_1).f3), .slice A118_4 ((rd_T34 l0 x3_1).f4).length c118_4]] rfl (by (try simp only [List.map_toArray, List.map_cons, List.map_nil]); first | done | rfl | (simp only [List.length_drop, List.length_take]; rfl)) ?_; (with_reducible refine (boltingref04_Row.calls k1 ((rd_T34 l0 x3_1).f0) ((rd_T34 l0 x3_1).f1) ((rd_T34 l0 x3_1).f2) ((rd_T34 l0 x3_1).f3) _ _ ((rd_T34 l0 x3_1).f4) true _ ?side1 ?side2 A5.out).mono ?_); (case side1 => repeat (first | exact (Kd.C_below HR118_4.out HB.out) | (with_reducible refine Kd.C_alloc ?_ _) | (with_reducible refine Kd.C_drewN ?_ _) | (with_reducible refine Kd.C_drew ?_))); (case side2 => exact HC118_4.out); rintro e w11 ⟨rfl, hb⟩; refine ⟨_, rfl, ?_⟩; have n0_ := Aside0.mk (below_step (by repeat (first | (with_reducible first | exact HB.out | apply below_alloc | apply pw_below_drewN | apply below_drew1) | exact HB.out)) hb); clear HB; have HB := n0_; clear n0_; (try clear hb); (try clear hb2); (try clear hk); (try clear hi)))
                  go_meet
                  case rel => exact ⟨_, (false), (by first | rfl | (simp; done) | (simp [*]; done)), H', ⟨by have := HK1.out; first | omega | exact Nat.le_refl _⟩, ⟨by repeat (first | (with_reducible first | exact HB.out | apply below_alloc | apply pw_below_drewN | apply below_drew1) | exact HB.out)⟩⟩
            · replace c6 := Bool.eq_false_iff.mpr c6
              subst c6
              have H1 : (boltingref04_Right.j1 k1 l0 x3_1 ((rd_T34 l0 x3_1).f0) true) = some r := by rw [if_neg (show ¬ (false = true) by decide)] at H; exact H
              clear H
              have H := H1
              clear H1
              have H' := Aside0.mk H
              clear H
              have p118 : 0 ≤ (x3_1 : Int) := of_decide_eq_true (by first | (with_reducible assumption) | assumption)
              have q118 : x3_1 < (l0.length : Int) := of_decide_eq_true (by first | (with_reducible assumption) | assumption)
              obtain ⟨ad118, A118_4, c118_4, e118, hx118_0, hx118_1, hx118_2, hx118_3, hx118_4, hl118_4, hi118_4⟩ := at_T34 HR0.out x3_1 p118 q118
              obtain rfl : ad117 = ad118 := (by injection e118)
              replace hx118_0 := (HB.out.cell (World.block_lt_of_cell? w _ hx118_0)).trans hx118_0
              replace hx118_1 := (HB.out.cell (World.block_lt_of_cell? w _ hx118_1)).trans hx118_1
              replace hx118_2 := (HB.out.cell (World.block_lt_of_cell? w _ hx118_2)).trans hx118_2
              replace hx118_3 := (HB.out.cell (World.block_lt_of_cell? w _ hx118_3)).trans hx118_3
              replace hx118_4 := (HB.out.cell (World.block_lt_of_cell? w _ hx118_4)).trans hx118_4
              (try (have eq_ := hx118_4.symm.trans hx117_4; simp only [Option.some.injEq, Value.slice.injEq] at eq_; obtain ⟨eqA_, _, eqc_⟩ := eq_; subst eqA_; subst eqc_))
              have HR118_4 := Aside0.mk hi118_4
              have HC118_4 := Aside0.mk hl118_4
              clear hi118_4 hl118_4
              replace p118 := eq_true p118
              replace q118 := eq_true q118
              go_wp2_with (first | ((with_reducible refine gate_callee (f := 20) rfl ?_); refine goesL_ (some 20) rfl rfl Try.func20 (by kernel_rfl) rfl #[.agg #[.int .i64 ((rd_T34 l0 x3_1).f0), .int .i64 ((rd_T34 l0 x3_1).f1), .string ((rd_T34 l0 x3_1).f2), .string ((rd_T34 l0 x3_1).f3), .slice A118_4 ((rd_T34 l0 x3_1).f4).length c118_4]] rfl (by (try simp only [List.map_toArray, List.map_cons, List.map_nil]); first | done | rfl | (simp only [List.length_drop, List.length_take]; rfl)) ?_; (with_reducible refine (boltingref04_Row.calls k1 ((rd_T34 l0 x3_1).f0) ((rd_T34 l0 x3_1).f1) ((rd_T34 l0 x3_1).f2) ((rd_T34 l0 x3_1).f3) _ _ ((rd_T34 l0 x3_1).f4) false _ ?side1 ?side2 A5.out).mono ?_); (case side1 => repeat (first | exact (Kd.C_below HR118_4.out HB.out) | (with_reducible refine Kd.C_alloc ?_ _) | (with_reducible refine Kd.C_drewN ?_ _) | (with_reducible refine Kd.C_drew ?_))); (case side2 => exact HC118_4.out); rintro e w12 ⟨rfl, hb⟩; refine ⟨_, rfl, ?_⟩; have n0_ := Aside0.mk (below_step (by repeat (first | (with_reducible first | exact HB.out | apply below_alloc | apply pw_below_drewN | apply below_drew1) | exact HB.out)) hb); clear HB; have HB := n0_; clear n0_; (try clear hb); (try clear hb2); (try clear hk); (try clear hi)))
              go_meet
              case rel => exact ⟨_, (true), (by first | rfl | (simp; done) | (simp [*]; done)), H', ⟨by have := HK1.out; first | omega | exact Nat.le_refl _⟩, ⟨by repeat (first | (with_reducible first | exact HB.out | apply below_alloc | apply pw_below_drewN | apply below_drew1) | exact HB.out)⟩⟩
          case rest =>
            clear HC4
            try clear c1
            try clear p1
            try clear q1
            try clear hx1
            try clear c2
            try clear c2b0
            try clear p2
            try clear c3
            try clear c3b0
            try clear c6
            try clear c7
            try clear c7b0
            try clear c8
            try clear c9
            try clear c9b0
            try clear c9b1
            try clear c11
            try clear p11
            try clear q11
            try clear hx11
            try clear hx117_0
            try clear hx117_1
            try clear hx117_2
            try clear hx117_3
            try clear hx117_4
            try clear hx118_0
            try clear hx118_1
            try clear hx118_2
            try clear hx118_3
            try clear hx118_4
            try clear p117
            try clear p118
            try clear q117
            try clear q118
            obtain ⟨kq, x33_3, rfl, HA, HJ3, HB⟩ := hcut
            cases kq with
            | zero => exact absurd HA.out (by simp [boltingref04_Right.j1])
            | succ kj3 =>
              have H := HA.out
              clear HA
              simp only [boltingref04_Right.j1] at H
              by_cases c13 : x33_3 = true
              · subst c13
                have H1 : (some false) = some r := by rw [if_pos rfl] at H; exact H
                clear H
                have H := H1
                clear H1
                obtain rfl := Option.some.inj H
                go_wp2
                go_ret
                exact ⟨by first | rfl | (simp [errW_none, errW_some] <;> rfl) | (simp [*, errW_none, errW_some] <;> rfl), by repeat (first | (with_reducible first | exact HB.out | apply below_alloc | apply pw_below_drewN | apply below_drew1) | exact HB.out)⟩
              · replace c13 := Bool.eq_false_iff.mpr c13
                subst c13
                have H1 : (if x3_1 > 0 then (if 0 ≤ (wrap64 (x3_1 - 1)) then (if (wrap64 (x3_1 - 1)) < (l0.length : Int) then (if ((rd_T34 l0 x3_1).f0) > (wrap64 (((rd_T34 l0 (wrap64 (x3_1 - 1))).f0) + 1)) then (some false) else (if ((rd_T34 l0 x3_1).f0) = (wrap64 (((rd_T34 l0 (wrap64 (x3_1 - 1))).f0) + 1)) then (if ((rd_T34 l0 (wrap64 (x3_1 - 1))).f1) = 0 then (boltingref04_Right.l0 kj3 l0 (wrap64 (x3_1 + 1))) else (some false)) else (boltingref04_Right.l0 kj3 l0 (wrap64 (x3_1 + 1))))) else (none)) else (none)) else (boltingref04_Right.l0 kj3 l0 (wrap64 (x3_1 + 1)))) = some r := by rw [if_neg (show ¬ (false = true) by decide)] at H; exact H
                clear H
                have H := H1
                clear H1
                by_cases c14 : x3_1 > 0
                · rw [if_pos c14] at H
                  have c14b0 : decide (0 < x3_1) = true := decide_eq_true c14
                  clear c14
                  obtain ⟨ji15, hji15⟩ : ∃ j_ : Int, (wrap64 (x3_1 - 1)) = j_ := ⟨_, rfl⟩
                  replace H : (if 0 ≤ (ji15) then (if (ji15) < (l0.length : Int) then (if ((rd_T34 l0 x3_1).f0) > (wrap64 (((rd_T34 l0 (ji15)).f0) + 1)) then (some false) else (if ((rd_T34 l0 x3_1).f0) = (wrap64 (((rd_T34 l0 (ji15)).f0) + 1)) then (if ((rd_T34 l0 (ji15)).f1) = 0 then (boltingref04_Right.l0 kj3 l0 (wrap64 (x3_1 + 1))) else (some false)) else (boltingref04_Right.l0 kj3 l0 (wrap64 (x3_1 + 1))))) else (none)) else (none)) = some r := by first | (rw [hji15] at H; exact H) | (simp only [hji15] at H ⊢; exact H)
                  have hji15w : (IntKind.i64.wrap (x3_1 - 1)) = ji15 := (i64_w _).trans hji15
                  by_cases c16 : 0 ≤ (ji15)
                  · rw [if_pos c16] at H
                    have c16b0 : decide (0 ≤ (ji15)) = true := decide_eq_true c16
                    clear c16
                    by_cases c17 : (ji15) < (l0.length : Int)
                    · rw [if_pos c17] at H
                      have c17b0 : decide ((ji15) < (l0.length : Int)) = true := decide_eq_true c17
                      clear c17
                      by_cases c18 : ((rd_T34 l0 x3_1).f0) > (wrap64 (((rd_T34 l0 (ji15)).f0) + 1))
                      · rw [if_pos c18] at H
                        have c18b0 : decide ((wrap64 (((rd_T34 l0 (ji15)).f0) + 1)) < ((rd_T34 l0 x3_1).f0)) = true := decide_eq_true c18
                        clear c18
                        obtain rfl := Option.some.inj H
                        have p120 : 0 ≤ ((ji15) : Int) := of_decide_eq_true (by first | (with_reducible assumption) | assumption)
                        have q120 : (ji15) < (l0.length : Int) := of_decide_eq_true (by first | (with_reducible assumption) | assumption)
                        obtain ⟨ad120, A120_4, c120_4, e120, hx120_0, hx120_1, hx120_2, hx120_3, hx120_4, hl120_4, hi120_4⟩ := at_T34 HR0.out (ji15) p120 q120
                        obtain rfl : ad117 = ad120 := (by injection e120)
                        replace hx120_0 := (HB.out.cell (World.block_lt_of_cell? w _ hx120_0)).trans hx120_0
                        replace hx120_1 := (HB.out.cell (World.block_lt_of_cell? w _ hx120_1)).trans hx120_1
                        replace hx120_2 := (HB.out.cell (World.block_lt_of_cell? w _ hx120_2)).trans hx120_2
                        replace hx120_3 := (HB.out.cell (World.block_lt_of_cell? w _ hx120_3)).trans hx120_3
                        replace hx120_4 := (HB.out.cell (World.block_lt_of_cell? w _ hx120_4)).trans hx120_4
                        (try (have eq_ := hx120_4.symm.trans hx117_4; simp only [Option.some.injEq, Value.slice.injEq] at eq_; obtain ⟨eqA_, _, eqc_⟩ := eq_; subst eqA_; subst eqc_))
                        have HR120_4 := Aside0.mk hi120_4
                        have HC120_4 := Aside0.mk hl120_4
                        clear hi120_4 hl120_4
                        replace p120 := eq_true p120
                        replace q120 := eq_true q120
                        go_wp2
                        go_ret
                        exact ⟨by first | rfl | (simp [errW_none, errW_some] <;> rfl) | (simp only [← hji15]; first | rfl | (simp [errW_none, errW_some] <;> rfl)) | (simp [*, errW_none, errW_some] <;> rfl), by repeat (first | (with_reducible first | exact HB.out | apply below_alloc | apply pw_below_drewN | apply below_drew1) | exact HB.out)⟩
                      · rw [if_neg c18] at H
                        have c18b0 : decide ((wrap64 (((rd_T34 l0 (ji15)).f0) + 1)) < ((rd_T34 l0 x3_1).f0)) = false := decide_eq_false c18
                        clear c18
                        by_cases c19 : ((rd_T34 l0 x3_1).f0) = (wrap64 (((rd_T34 l0 (ji15)).f0) + 1))
                        · rw [if_pos c19] at H
                          have c19b0 : (((rd_T34 l0 x3_1).f0) == (wrap64 (((rd_T34 l0 (ji15)).f0) + 1))) = true := beq_iff_eq.mpr c19
                          have c19b1 : (((rd_T34 l0 x3_1).f0) != (wrap64 (((rd_T34 l0 (ji15)).f0) + 1))) = false := bne_eq_false_iff_eq.mpr c19
                          clear c19
                          by_cases c20 : ((rd_T34 l0 (ji15)).f1) = 0
                          · rw [if_pos c20] at H
                            have c20b0 : (((rd_T34 l0 (ji15)).f1) == 0) = true := beq_iff_eq.mpr c20
                            have c20b1 : (((rd_T34 l0 (ji15)).f1) != 0) = false := bne_eq_false_iff_eq.mpr c20
                            clear c20
                            have H' := Aside0.mk H
                            clear H
                            have p120 : 0 ≤ ((ji15) : Int) := of_decide_eq_true (by first | (with_reducible assumption) | assumption)
                            have q120 : (ji15) < (l0.length : Int) := of_decide_eq_true (by first | (with_reducible assumption) | assumption)
                            obtain ⟨ad120, A120_4, c120_4, e120, hx120_0, hx120_1, hx120_2, hx120_3, hx120_4, hl120_4, hi120_4⟩ := at_T34 HR0.out (ji15) p120 q120
                            obtain rfl : ad117 = ad120 := (by injection e120)
                            replace hx120_0 := (HB.out.cell (World.block_lt_of_cell? w _ hx120_0)).trans hx120_0
                            replace hx120_1 := (HB.out.cell (World.block_lt_of_cell? w _ hx120_1)).trans hx120_1
                            replace hx120_2 := (HB.out.cell (World.block_lt_of_cell? w _ hx120_2)).trans hx120_2
                            replace hx120_3 := (HB.out.cell (World.block_lt_of_cell? w _ hx120_3)).trans hx120_3
                            replace hx120_4 := (HB.out.cell (World.block_lt_of_cell? w _ hx120_4)).trans hx120_4
                            (try (have eq_ := hx120_4.symm.trans hx117_4; simp only [Option.some.injEq, Value.slice.injEq] at eq_; obtain ⟨eqA_, _, eqc_⟩ := eq_; subst eqA_; subst eqc_))
                            have HR120_4 := Aside0.mk hi120_4
                            have HC120_4 := Aside0.mk hl120_4
                            clear hi120_4 hl120_4
                            replace p120 := eq_true p120
                            replace q120 := eq_true q120
                            have p121 : 0 ≤ ((ji15) : Int) := of_decide_eq_true (by first | (with_reducible assumption) | assumption)
                            have q121 : (ji15) < (l0.length : Int) := of_decide_eq_true (by first | (with_reducible assumption) | assumption)
                            obtain ⟨ad121, A121_4, c121_4, e121, hx121_0, hx121_1, hx121_2, hx121_3, hx121_4, hl121_4, hi121_4⟩ := at_T34 HR0.out (ji15) p121 q121
                            obtain rfl : ad117 = ad121 := (by injection e121)
                            replace hx121_0 := (HB.out.cell (World.block_lt_of_cell? w _ hx121_0)).trans hx121_0
                            replace hx121_1 := (HB.out.cell (World.block_lt_of_cell? w _ hx121_1)).trans hx121_1
                            replace hx121_2 := (HB.out.cell (World.block_lt_of_cell? w _ hx121_2)).trans hx121_2
                            replace hx121_3 := (HB.out.cell (World.block_lt_of_cell? w _ hx121_3)).trans hx121_3
                            replace hx121_4 := (HB.out.cell (World.block_lt_of_cell? w _ hx121_4)).trans hx121_4
                            (try (have eq_ := hx121_4.symm.trans hx117_4; simp only [Option.some.injEq, Value.slice.injEq] at eq_; obtain ⟨eqA_, _, eqc_⟩ := eq_; subst eqA_; subst eqc_))
                            have HR121_4 := Aside0.mk hi121_4
                            have HC121_4 := Aside0.mk hl121_4
                            clear hi121_4 hl121_4
                            replace p121 := eq_true p121
                            replace q121 := eq_true q121
                            have ea_ := Option.some.inj (hx120_4.symm.trans hx121_4)
                            injection ea_ with ea_ en_ ec_
                            subst ea_
                            subst ec_
                            clear en_
                            have p122 : 0 ≤ ((ji15) : Int) := of_decide_eq_true (by first | (with_reducible assumption) | assumption)
                            have q122 : (ji15) < (l0.length : Int) := of_decide_eq_true (by first | (with_reducible assumption) | assumption)
                            obtain ⟨ad122, A122_4, c122_4, e122, hx122_0, hx122_1, hx122_2, hx122_3, hx122_4, hl122_4, hi122_4⟩ := at_T34 HR0.out (ji15) p122 q122
                            obtain rfl : ad117 = ad122 := (by injection e122)
                            replace hx122_0 := (HB.out.cell (World.block_lt_of_cell? w _ hx122_0)).trans hx122_0
                            replace hx122_1 := (HB.out.cell (World.block_lt_of_cell? w _ hx122_1)).trans hx122_1
                            replace hx122_2 := (HB.out.cell (World.block_lt_of_cell? w _ hx122_2)).trans hx122_2
                            replace hx122_3 := (HB.out.cell (World.block_lt_of_cell? w _ hx122_3)).trans hx122_3
                            replace hx122_4 := (HB.out.cell (World.block_lt_of_cell? w _ hx122_4)).trans hx122_4
                            (try (have eq_ := hx122_4.symm.trans hx117_4; simp only [Option.some.injEq, Value.slice.injEq] at eq_; obtain ⟨eqA_, _, eqc_⟩ := eq_; subst eqA_; subst eqc_))
                            have HR122_4 := Aside0.mk hi122_4
                            have HC122_4 := Aside0.mk hl122_4
                            clear hi122_4 hl122_4
                            replace p122 := eq_true p122
                            replace q122 := eq_true q122
                            have ea_ := Option.some.inj (hx120_4.symm.trans hx122_4)
                            injection ea_ with ea_ en_ ec_
                            subst ea_
                            subst ec_
                            clear en_
                            go_wp2
                            go_roundg kj3
                            case measure => have := HK1.out; have := HJ3.out; omega
                            case rel => exact ⟨(wrap64 (x3_1 + 1)), (by first | rfl | (simp; done) | (simp [*]; done)), H', ⟨by have := HK1.out; have := HJ3.out; omega⟩, ⟨by repeat (first | (with_reducible first | exact HB.out | apply below_alloc | apply pw_below_drewN | apply below_drew1) | exact HB.out)⟩⟩
                          · rw [if_neg c20] at H
                            have c20b0 : (((rd_T34 l0 (ji15)).f1) == 0) = false := beq_eq_false_iff_ne.mpr c20
                            have c20b1 : (((rd_T34 l0 (ji15)).f1) != 0) = true := bne_iff_ne.mpr c20
                            obtain rfl := Option.some.inj H
                            have p120 : 0 ≤ ((ji15) : Int) := of_decide_eq_true (by first | (with_reducible assumption) | assumption)
                            have q120 : (ji15) < (l0.length : Int) := of_decide_eq_true (by first | (with_reducible assumption) | assumption)
                            obtain ⟨ad120, A120_4, c120_4, e120, hx120_0, hx120_1, hx120_2, hx120_3, hx120_4, hl120_4, hi120_4⟩ := at_T34 HR0.out (ji15) p120 q120
                            obtain rfl : ad117 = ad120 := (by injection e120)
                            replace hx120_0 := (HB.out.cell (World.block_lt_of_cell? w _ hx120_0)).trans hx120_0
                            replace hx120_1 := (HB.out.cell (World.block_lt_of_cell? w _ hx120_1)).trans hx120_1
                            replace hx120_2 := (HB.out.cell (World.block_lt_of_cell? w _ hx120_2)).trans hx120_2
                            replace hx120_3 := (HB.out.cell (World.block_lt_of_cell? w _ hx120_3)).trans hx120_3
                            replace hx120_4 := (HB.out.cell (World.block_lt_of_cell? w _ hx120_4)).trans hx120_4
                            (try (have eq_ := hx120_4.symm.trans hx117_4; simp only [Option.some.injEq, Value.slice.injEq] at eq_; obtain ⟨eqA_, _, eqc_⟩ := eq_; subst eqA_; subst eqc_))
                            have HR120_4 := Aside0.mk hi120_4
                            have HC120_4 := Aside0.mk hl120_4
                            clear hi120_4 hl120_4
                            replace p120 := eq_true p120
                            replace q120 := eq_true q120
                            have p121 : 0 ≤ ((ji15) : Int) := of_decide_eq_true (by first | (with_reducible assumption) | assumption)
                            have q121 : (ji15) < (l0.length : Int) := of_decide_eq_true (by first | (with_reducible assumption) | assumption)
                            obtain ⟨ad121, A121_4, c121_4, e121, hx121_0, hx121_1, hx121_2, hx121_3, hx121_4, hl121_4, hi121_4⟩ := at_T34 HR0.out (ji15) p121 q121
                            obtain rfl : ad117 = ad121 := (by injection e121)
                            replace hx121_0 := (HB.out.cell (World.block_lt_of_cell? w _ hx121_0)).trans hx121_0
                            replace hx121_1 := (HB.out.cell (World.block_lt_of_cell? w _ hx121_1)).trans hx121_1
                            replace hx121_2 := (HB.out.cell (World.block_lt_of_cell? w _ hx121_2)).trans hx121_2
                            replace hx121_3 := (HB.out.cell (World.block_lt_of_cell? w _ hx121_3)).trans hx121_3
                            replace hx121_4 := (HB.out.cell (World.block_lt_of_cell? w _ hx121_4)).trans hx121_4
                            (try (have eq_ := hx121_4.symm.trans hx117_4; simp only [Option.some.injEq, Value.slice.injEq] at eq_; obtain ⟨eqA_, _, eqc_⟩ := eq_; subst eqA_; subst eqc_))
                            have HR121_4 := Aside0.mk hi121_4
                            have HC121_4 := Aside0.mk hl121_4
                            clear hi121_4 hl121_4
                            replace p121 := eq_true p121
                            replace q121 := eq_true q121
                            have ea_ := Option.some.inj (hx120_4.symm.trans hx121_4)
                            injection ea_ with ea_ en_ ec_
                            subst ea_
                            subst ec_
                            clear en_
                            have p122 : 0 ≤ ((ji15) : Int) := of_decide_eq_true (by first | (with_reducible assumption) | assumption)
                            have q122 : (ji15) < (l0.length : Int) := of_decide_eq_true (by first | (with_reducible assumption) | assumption)
                            obtain ⟨ad122, A122_4, c122_4, e122, hx122_0, hx122_1, hx122_2, hx122_3, hx122_4, hl122_4, hi122_4⟩ := at_T34 HR0.out (ji15) p122 q122
                            obtain rfl : ad117 = ad122 := (by injection e122)
                            replace hx122_0 := (HB.out.cell (World.block_lt_of_cell? w _ hx122_0)).trans hx122_0
                            replace hx122_1 := (HB.out.cell (World.block_lt_of_cell? w _ hx122_1)).trans hx122_1
                            replace hx122_2 := (HB.out.cell (World.block_lt_of_cell? w _ hx122_2)).trans hx122_2
                            replace hx122_3 := (HB.out.cell (World.block_lt_of_cell? w _ hx122_3)).trans hx122_3
                            replace hx122_4 := (HB.out.cell (World.block_lt_of_cell? w _ hx122_4)).trans hx122_4
                            (try (have eq_ := hx122_4.symm.trans hx117_4; simp only [Option.some.injEq, Value.slice.injEq] at eq_; obtain ⟨eqA_, _, eqc_⟩ := eq_; subst eqA_; subst eqc_))
                            have HR122_4 := Aside0.mk hi122_4
                            have HC122_4 := Aside0.mk hl122_4
                            clear hi122_4 hl122_4
                            replace p122 := eq_true p122
                            replace q122 := eq_true q122
                            have ea_ := Option.some.inj (hx120_4.symm.trans hx122_4)
                            injection ea_ with ea_ en_ ec_
                            subst ea_
                            subst ec_
                            clear en_
                            go_wp2
                            go_ret
                            exact ⟨by first | rfl | (simp [errW_none, errW_some] <;> rfl) | (simp only [← hji15]; first | rfl | (simp [errW_none, errW_some] <;> rfl)) | (simp [*, errW_none, errW_some] <;> rfl), by repeat (first | (with_reducible first | exact HB.out | apply below_alloc | apply pw_below_drewN | apply below_drew1) | exact HB.out)⟩
                        · rw [if_neg c19] at H
                          have c19b0 : (((rd_T34 l0 x3_1).f0) == (wrap64 (((rd_T34 l0 (ji15)).f0) + 1))) = false := beq_eq_false_iff_ne.mpr c19
                          have c19b1 : (((rd_T34 l0 x3_1).f0) != (wrap64 (((rd_T34 l0 (ji15)).f0) + 1))) = true := bne_iff_ne.mpr c19
                          have H' := Aside0.mk H
                          clear H
                          have p120 : 0 ≤ ((ji15) : Int) := of_decide_eq_true (by first | (with_reducible assumption) | assumption)
                          have q120 : (ji15) < (l0.length : Int) := of_decide_eq_true (by first | (with_reducible assumption) | assumption)
                          obtain ⟨ad120, A120_4, c120_4, e120, hx120_0, hx120_1, hx120_2, hx120_3, hx120_4, hl120_4, hi120_4⟩ := at_T34 HR0.out (ji15) p120 q120
                          obtain rfl : ad117 = ad120 := (by injection e120)
                          replace hx120_0 := (HB.out.cell (World.block_lt_of_cell? w _ hx120_0)).trans hx120_0
                          replace hx120_1 := (HB.out.cell (World.block_lt_of_cell? w _ hx120_1)).trans hx120_1
                          replace hx120_2 := (HB.out.cell (World.block_lt_of_cell? w _ hx120_2)).trans hx120_2
                          replace hx120_3 := (HB.out.cell (World.block_lt_of_cell? w _ hx120_3)).trans hx120_3
                          replace hx120_4 := (HB.out.cell (World.block_lt_of_cell? w _ hx120_4)).trans hx120_4
                          (try (have eq_ := hx120_4.symm.trans hx117_4; simp only [Option.some.injEq, Value.slice.injEq] at eq_; obtain ⟨eqA_, _, eqc_⟩ := eq_; subst eqA_; subst eqc_))
                          have HR120_4 := Aside0.mk hi120_4
                          have HC120_4 := Aside0.mk hl120_4
                          clear hi120_4 hl120_4
                          replace p120 := eq_true p120
                          replace q120 := eq_true q120
                          have p121 : 0 ≤ ((ji15) : Int) := of_decide_eq_true (by first | (with_reducible assumption) | assumption)
                          have q121 : (ji15) < (l0.length : Int) := of_decide_eq_true (by first | (with_reducible assumption) | assumption)
                          obtain ⟨ad121, A121_4, c121_4, e121, hx121_0, hx121_1, hx121_2, hx121_3, hx121_4, hl121_4, hi121_4⟩ := at_T34 HR0.out (ji15) p121 q121
                          obtain rfl : ad117 = ad121 := (by injection e121)
                          replace hx121_0 := (HB.out.cell (World.block_lt_of_cell? w _ hx121_0)).trans hx121_0
                          replace hx121_1 := (HB.out.cell (World.block_lt_of_cell? w _ hx121_1)).trans hx121_1
                          replace hx121_2 := (HB.out.cell (World.block_lt_of_cell? w _ hx121_2)).trans hx121_2
                          replace hx121_3 := (HB.out.cell (World.block_lt_of_cell? w _ hx121_3)).trans hx121_3
                          replace hx121_4 := (HB.out.cell (World.block_lt_of_cell? w _ hx121_4)).trans hx121_4
                          (try (have eq_ := hx121_4.symm.trans hx117_4; simp only [Option.some.injEq, Value.slice.injEq] at eq_; obtain ⟨eqA_, _, eqc_⟩ := eq_; subst eqA_; subst eqc_))
                          have HR121_4 := Aside0.mk hi121_4
                          have HC121_4 := Aside0.mk hl121_4
                          clear hi121_4 hl121_4
                          replace p121 := eq_true p121
                          replace q121 := eq_true q121
                          have ea_ := Option.some.inj (hx120_4.symm.trans hx121_4)
                          injection ea_ with ea_ en_ ec_
                          subst ea_
                          subst ec_
                          clear en_
                          go_wp2
                          go_roundg kj3
                          case measure => have := HK1.out; have := HJ3.out; omega
                          case rel => exact ⟨(wrap64 (x3_1 + 1)), (by first | rfl | (simp; done) | (simp [*]; done)), H', ⟨by have := HK1.out; have := HJ3.out; omega⟩, ⟨by repeat (first | (with_reducible first | exact HB.out | apply below_alloc | apply pw_below_drewN | apply below_drew1) | exact HB.out)⟩⟩
                    · rw [if_neg c17] at H
                      exact absurd H (by simp)
                  · rw [if_neg c16] at H
                    exact absurd H (by simp)
                · rw [if_neg c14] at H
                  have c14b0 : decide (0 < x3_1) = false := decide_eq_false c14
                  clear c14
                  have H' := Aside0.mk H
                  clear H
                  go_wp2
                  go_roundg kj3
                  case measure => have := HK1.out; have := HJ3.out; omega
                  case rel => exact ⟨(wrap64 (x3_1 + 1)), (by first | rfl | (simp; done) | (simp [*]; done)), H', ⟨by have := HK1.out; have := HJ3.out; omega⟩, ⟨by repeat (first | (with_reducible first | exact HB.out | apply below_alloc | apply pw_below_drewN | apply below_drew1) | exact HB.out)⟩⟩
        · rw [if_neg c3] at H
          exact absurd H (by simp)
      · rw [if_neg c2] at H
        have c2b0 : decide (x3_1 < (l0.length : Int)) = false := decide_eq_false c2
        clear c2
        obtain rfl := Option.some.inj H
        go_wp2
        go_ret
        exact ⟨by first | rfl | (simp [errW_none, errW_some] <;> rfl) | (simp [*, errW_none, errW_some] <;> rfl), by repeat (first | (with_reducible first | exact HB.out | apply below_alloc | apply pw_below_drewN | apply below_drew1) | exact HB.out)⟩

end Go.Proofs.Ytakhldahohooiaa.Pr
