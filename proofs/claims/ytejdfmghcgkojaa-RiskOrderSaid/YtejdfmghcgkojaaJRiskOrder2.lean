/- Texts under the row of RiskOrder (part 2).. -/
import Derived.Test.YtejdfmghcgkojaaJRiskOrder0
import Derived.Deep.Slices
import Derived.ChangeArms
import Derived.ChangeSame
import Derived.SizedLaws
import Derived.Shelf.Strings.Builder1
import Derived.Shelf.Strings.BuilderF
import Derived.Shelf.Strings.BuilderK
import Derived.Shelf.Strings.Search1
import Derived.Shelf.Strings.Search2
import Derived.Shelf.Strings.Cut
import Derived.Shelf.LaysM
import Derived.Shelf.Strings.Shaped
import Derived.Shelf.GgClosure.StringsIndexFunc
import Derived.Ground.GgwProg
import Derived.Shelf.GgClosure.StringsIndexFuncTop
import Derived.Shelf.GgClosure.StringsRunes
import Derived.Shelf.Strings.Prefix
import Derived.Shelf.Strings.FuncGrows
import Derived.Shelf.Strings.BuilderCap
import Derived.Test.YtejdfmghcgkojaaProg
import Derived.Lib.IndexMore
import Derived.WalkKit
import Derived.BigCall
import Derived.Deep.DeepCutAuto
import Derived.Deep.CutBlock
import Derived.Shelf.GgClosure.Gives
import Derived.Lib.CutLaws
import Derived.Lib.IndexLaws
import Derived.RegionTactic
import Derived.Lib.ConvBytes
import Derived.Laws.BytesArg
import Derived.Deep.QuietTactic
import Derived.Lib.TrimU
import Derived.Test.YtejdfmghcgkojaaJRiskOrder1
import Derived.Maps.Keyed
import Derived.WalkMore
import Derived.Below
import Derived.Deep.Draws
import Derived.Deep.AppendLies
import Derived.Maps.AppendAt
import Derived.OwnWalk
import Derived.Laws.MakeOwn
import Derived.Laws.OwnMore
import Derived.Deep.OwnRows
import Derived.Tactics
import Derived.Laws.Slices
import Derived.KernelRfl
import Derived.RowKit3
import Derived.Deep.LoopGhost
import Derived.BigQuiet
import Derived.WideLaws
import Derived.Deep.RegionHeld3
import Derived.Laws.Rows
import Derived.Lib.AppendStr
import Derived.ArgAppend
import Derived.Laws.IdiomCopy
import Derived.OrdersHeld
import Derived.Laws.BitsLemmas
import Derived.RowKit
/- Values that came in, read as the printed functions read them, whatever their type is made of. -/
namespace Go.Proofs.Ytejdfmghcgkojaa
set_option linter.unusedVariables false
open Go.RowKit Go.ChangeShapes Go.WideShapes Go.Deep Go.Proofs.YtejdfmghcgkojaaW.PrintWords

/-- What is read as data at type t is, cell by cell, of kind d. -/
def Opens {α : Type} (P : Program) (t : TypeId) (d : Kd α) : Prop :=
  P.cellsOf t = d.sz ∧ ∀ {H : Type} (enc : TypeId × Value → H) (w : World) (base : Nat) (spare : Nat → Bool) (held : Bool) (fuel : Nat) (cs : List Value) (x : DataW H × List MemPlace),
    DataW.trod enc P w base spare held fuel t cs = some x → ∃ a, d.K w a cs
theorem list_of {α : Type} {p : Nat → α → Prop} : ∀ (n : Nat), (∀ i, i < n → ∃ a, p i a) → ∃ l : List α, l.length = n ∧ ∀ (i : Nat) (a : α), l[i]? = some a → p i a
  | 0, _ => ⟨[], rfl, fun i a h => by simp at h⟩
  | n + 1, h => by
    obtain ⟨l, hl, hp⟩ := list_of n (fun i hi => h i (by omega))
    obtain ⟨a, ha⟩ := h n (by omega)
    refine ⟨l ++ [a], by simp [hl], fun i b hb => ?_⟩
    rcases Nat.lt_or_ge i l.length with hi | hi
    · rw [List.getElem?_append_left hi] at hb
      exact hp i b hb
    · rw [List.getElem?_append_right hi] at hb
      have : i - l.length = 0 := by
        have := (List.getElem?_eq_some_iff.1 hb).1
        simp at this; omega
      rw [this] at hb
      simp at hb; subst hb
      rw [show i = n by omega]; exact ha
/-- A slice that came in: a row that is read. -/
theorem opens_row {α : Type} {P : Program} {t e : TypeId} {d : Kd α} (ht : P.underlying t = some (.slice e)) (hd : Opens P e d) {H : Type} {enc : TypeId × Value → H} {w : World} {base : Nat} {spare : Nat → Bool} {held : Bool} {fuel : Nat} {cs : List Value} {x : DataW H × List MemPlace}
    (h : DataW.trod enc P w base spare held fuel t cs = some x) : ∃ A c xs, cs = [.slice A xs.length c] ∧ xs.length ≤ c ∧ c ≤ maxLen ∧ d.C w A xs.length xs := by
  rcases open_slice ht h with ⟨rfl, _⟩ | ⟨a, len, cap, m, n, D, Pl, rfl, hb, hl, hm, hmm, _, hi⟩
  · exact ⟨none, 0, [], rfl, Nat.le_refl _, Nat.zero_le _, rfl, by simp, fun h => absurd h (Nat.lt_irrefl _)⟩
  · have hlm : len ≤ m := by rw [hmm]; split <;> omega
    obtain ⟨xs, hxl, hx⟩ := list_of (p := fun i (y : α) => ∃ c, c.length = d.sz ∧ d.K w y c ∧ ∀ q u, c[q]? = some u → w.cell? (a.add (i * d.sz + q)) = some u) len (fun i hil => by
      obtain ⟨cs', hc, ht'⟩ := hi i (by omega)
      obtain ⟨y, hy⟩ := hd.2 enc w base spare held n cs' _ ht'
      obtain ⟨_, hcl, hat⟩ := World.cells?_some hc
      refine ⟨y, cs', by rw [hcl, hd.1], hy, fun q u hu => ?_⟩
      have hq : q < cs'.length := (List.getElem?_eq_some_iff.1 hu).1
      have := hat q (by omega)
      rw [hd.1, Deep.add_add] at this
      rw [this, hu])
    have h64 : maxLen ≤ 9223372036854775807 := by decide
    exact ⟨some a, cap, xs, by rw [hxl], by omega, hm, by rw [hxl]; exact ⟨hxl, by omega, fun _ => ⟨a, rfl, fun j p hj => hx j p hj⟩⟩⟩
end Go.Proofs.Ytejdfmghcgkojaa
/- Values that came in, read as the printed functions read them, with what the row's bound tells of their texts' sizes; structs too. -/
namespace Go.Proofs.Ytejdfmghcgkojaa
set_option linter.unusedVariables false
open Go.RowKit Go.ChangeShapes Go.WideShapes Go.Deep Go.Proofs.YtejdfmghcgkojaaW.PrintWords

/-- What is read as data at type t, its parts within the reach, is, cell by cell, of kind d, and meets S. -/
def OpensS {α : Type} (P : Program) (t : TypeId) (d : Kd α) (S : α → Prop) : Prop :=
  P.cellsOf t = d.sz ∧ ∀ {H : Type} (enc : TypeId × Value → H) (w : World) (base : Nat) (spare : Nat → Bool) (held : Bool) (fuel : Nat) (cs : List Value) (x : DataW H × List MemPlace),
    DataW.trod enc P w base spare held fuel t cs = some x → (∀ n ∈ x.1.weights P t, n ≤ reachBytes) → ∃ a, d.K w a cs ∧ S a
theorem opensS_string {P : Program} {t : TypeId} (hC : P.cellsOf t = 1) (ht : P.underlying t = some .string) : OpensS P t Kd.string (fun s => s.size ≤ 140737488351232) := by
  refine ⟨hC, fun enc w base spare held fuel cs x h hw => ?_⟩
  obtain ⟨s, rfl, rfl, _⟩ := DataW.trod_string ht h
  refine ⟨s, rfl, ?_⟩
  have := hw s.data.toList.length (by simp [DataW.weights])
  rw [Array.length_toList] at this
  exact this
theorem opensS_int {P : Program} {t : TypeId} {k : IntKind} (hC : P.cellsOf t = 1) (ht : P.underlying t = some (.int k)) : OpensS P t (Kd.int k) (fun n => (Lit.int k n).wf = true) := by
  refine ⟨hC, fun enc w base spare held fuel cs x h hw => ?_⟩
  obtain ⟨s, rfl, _, hwf⟩ := DataW.trod_int ht h
  exact ⟨s, rfl, hwf⟩
theorem weights_all {H : Type} {P : Program} {e : TypeId} : ∀ {l : List (DataW H)} {d : DataW H}, d ∈ l → ∀ n ∈ d.weights P e, n ∈ DataW.weightsAll P e l
  | [], d, h, _, _ => by simp at h
  | x :: l, d, h, n, hn => by
    unfold DataW.weightsAll
    rw [List.mem_append]
    rcases List.mem_cons.1 h with h | h
    · subst h; exact .inl hn
    · exact .inr (weights_all h n hn)
/-- A slice that came in: a row that is read. -/
theorem opensS_row {α : Type} {P : Program} {t e : TypeId} {d : Kd α} {S : α → Prop} (ht : P.underlying t = some (.slice e)) (hd : OpensS P e d S) {H : Type} {enc : TypeId × Value → H} {w : World} {base : Nat} {spare : Nat → Bool} {held : Bool} {fuel : Nat} {cs : List Value} {x : DataW H × List MemPlace}
    (h : DataW.trod enc P w base spare held fuel t cs = some x) (hw : ∀ n ∈ x.1.weights P t, n ≤ reachBytes) : ∃ A c xs, cs = [.slice A xs.length c] ∧ xs.length ≤ c ∧ c ≤ maxLen ∧ d.C w A xs.length xs ∧ ∀ a ∈ xs, S a := by
  rcases open_slice ht h with ⟨rfl, _⟩ | ⟨a, len, cap, m, n, D, Pl, rfl, hb, hl, hm, hmm, rfl, hi⟩
  · exact ⟨none, 0, [], rfl, Nat.le_refl _, Nat.zero_le _, ⟨rfl, by simp, fun h => absurd h (Nat.lt_irrefl _)⟩, fun a h => by simp at h⟩
  · have hlm : len ≤ m := by rw [hmm]; split <;> omega
    obtain ⟨xs, hxl, hx⟩ := list_of (p := fun i (y : α) => (∃ c, c.length = d.sz ∧ d.K w y c ∧ ∀ q u, c[q]? = some u → w.cell? (a.add (i * d.sz + q)) = some u) ∧ S y) len (fun i hil => by
      obtain ⟨cs', hc, ht'⟩ := hi i (by omega)
      obtain ⟨y, hy, hS⟩ := hd.2 enc w base spare held n cs' _ ht' (fun z hz => hw z (by
        simp only [DataW.weights, ht]
        refine List.mem_cons_of_mem _ (List.mem_append_left _ (weights_all ?_ z hz))
        exact List.mem_map.2 ⟨i, List.mem_range.2 hil, rfl⟩))
      obtain ⟨_, hcl, hat⟩ := World.cells?_some hc
      refine ⟨y, ⟨cs', by rw [hcl, hd.1], hy, fun q u hu => ?_⟩, hS⟩
      have hq : q < cs'.length := (List.getElem?_eq_some_iff.1 hu).1
      have := hat q (by omega)
      rw [hd.1, Deep.add_add] at this
      rw [this, hu])
    have h64 : maxLen ≤ 9223372036854775807 := by decide
    exact ⟨some a, cap, xs, by rw [hxl], by omega, hm, by rw [hxl]; exact ⟨hxl, by omega, fun _ => ⟨a, rfl, fun j p hj => (hx j p hj).1⟩⟩, fun y hy => by
      obtain ⟨j, hj⟩ := List.mem_iff_getElem?.1 hy
      exact (hx j y hj).2⟩
theorem opensS_slice {α : Type} {P : Program} {t e : TypeId} {d : Kd α} {S : α → Prop} (hC : P.cellsOf t = 1) (ht : P.underlying t = some (.slice e)) (hd : OpensS P e d S) : OpensS P t (Kd.slice e d) (fun xs => ∀ a ∈ xs, S a) := by
  refine ⟨hC, fun enc w base spare held fuel cs x h hw => ?_⟩
  obtain ⟨A, c, xs, rfl, h1, _, h2, h3⟩ := opensS_row ht hd h hw
  exact ⟨xs, ⟨A, c, rfl, h1, h2⟩, h3⟩

/-! ### structs: the fields from one on -/
def OpensTail {α : Type} (P : Program) (fs : List Field) (off : Nat) (d : Kd α) (S : α → Prop) : Prop :=
  ∀ {H : Type} (enc : TypeId × Value → H) (w : World) (base : Nat) (spare : Nat → Bool) (held : Bool) (n : Nat) (cs : List Value) (xs : List (DataW H × List MemPlace)),
    xs.length = fs.length → cs.length = off + d.sz → (∀ (i : Nat) (f : Field), fs[i]? = some f → DataW.trod enc P w base spare held n f.type ((cs.drop f.offset).take (P.cellsOf f.type)) = xs[i]?) →
    (∀ m ∈ DataW.weightsEach P (fs.map (·.type)) (xs.map (·.1)), m ≤ reachBytes) → ∃ a, d.K w a (cs.drop off) ∧ S a
theorem opensTail_last {α : Type} {P : Program} {f : Field} {off : Nat} {d : Kd α} {S : α → Prop} (ho : f.offset = off) (hd : OpensS P f.type d S) : OpensTail P [f] off d S := by
  intro H enc w base spare held n cs xs hx hl h hw
  obtain ⟨x, rfl⟩ : ∃ x, xs = [x] := by
    match xs, hx with
    | [x], _ => exact ⟨x, rfl⟩
  have h0 := h 0 f rfl
  rw [ho, hd.1, List.take_of_length_le (by rw [List.length_drop]; omega)] at h0
  exact hd.2 enc w base spare held n _ x h0 (fun m hm => hw m (by simp [DataW.weightsEach, hm]))
theorem opensTail_cons {α β : Type} {P : Program} {f : Field} {fs : List Field} {off : Nat} {d : Kd α} {e : Kd β} {S : α → Prop} {T : β → Prop} (ho : f.offset = off) (hd : OpensS P f.type d S) (he : OpensTail P fs (off + d.sz) e T) :
    OpensTail P (f :: fs) off (Kd.pair d e) (fun x => S x.1 ∧ T x.2) := by
  intro H enc w base spare held n cs xs hx hl h hw
  obtain ⟨x, xs, rfl⟩ : ∃ x r, xs = x :: r := by
    match xs, hx with
    | x :: r, _ => exact ⟨x, r, rfl⟩
  have hsz : (Kd.pair d e).sz = d.sz + e.sz := rfl
  rw [hsz] at hl
  have h0 := h 0 f rfl
  rw [ho, hd.1] at h0
  obtain ⟨a, ha, hS⟩ := hd.2 enc w base spare held n _ x h0 (fun m hm => hw m (by simp [DataW.weightsEach, hm]))
  obtain ⟨b, hb, hT⟩ := he enc w base spare held n cs xs (by simpa using hx) (by omega) (fun i g hg => h (i + 1) g (by simpa using hg)) (fun m hm => hw m (by simp [DataW.weightsEach] at hm ⊢; exact .inr hm))
  refine ⟨(a, b), ⟨(cs.drop off).take d.sz, cs.drop (off + d.sz), ?_, ha, hb⟩, hS, hT⟩
  rw [← List.drop_drop, List.take_append_drop]
theorem opensS_struct {α β : Type} {P : Program} {t : TypeId} {fs : Array Field} {l : List Field} {d : Kd α} {S : α → Prop} (f : β → α) (ht : P.underlying t = some (.struct fs)) (hl : fs.toList = l) (hC : P.cellsOf t = d.sz) (hT : OpensTail P l 0 d S) (hf : ∀ a, ∃ x, f x = a) :
    OpensS P t (Kd.iso d f) (fun x => S (f x)) := by
  subst hl
  refine ⟨hC, fun enc w base spare held fuel cs x h hw => ?_⟩
  obtain ⟨ys, n, _, rfl, hlen, hyl, hfl⟩ := DataW.trod_struct ht h
  obtain ⟨a, ha, hS⟩ := hT enc w base spare held n cs ys (by rw [hyl]; simp) (by rw [hlen, hC]; omega) (fun i g hg => hfl i g (by rw [← hg]; simp)) (fun m hm => hw m (by simp only [DataW.weights, ht]; exact hm))
  obtain ⟨y, rfl⟩ := hf a
  exact ⟨y, by rw [List.drop_zero] at ha; exact ha, hS⟩
end Go.Proofs.Ytejdfmghcgkojaa
/- The shelf's contracts at this seat, in plain words: written by the kit's lay-shelf and lay-plain, and by wip/tools/shelf.py. -/
namespace Go.Proofs
open Go.Shelf
def Try.lays169_ren : Go.Shelf.Ren := ⟨fun | 169 => 46 | n => n, fun | 70 => 57 | 9 => 9 | 0 => 0 | 72 => 59 | 37 => 56 | 127 => 65 | 3 => 3 | 5 => 5 | n => n, fun | n => n⟩
theorem Try.lays169 : Go.Proofs.Lays.n169 Try.prog Try.lays169_ren := {
  mixed := by kernel_rfl
  f169 := Try.func46.trans (congrArg some (by kernel_rfl))
  t0 := Try.underlying0
  a0 := Try.isAgg0
  z0 := Try.sizeOf0
  v0 := Try.zeroValue0
  t3 := Try.underlying3
  a3 := Try.isAgg3
  z3 := Try.sizeOf3
  v3 := Try.zeroValue3
  t9 := Try.underlying9
  a9 := Try.isAgg9
  z9 := Try.sizeOf9
  v9 := Try.zeroValue9
  t37 := Try.underlying56
  a37 := Try.isAgg56
  z37 := Try.sizeOf56
  v37 := Try.zeroValue56
  t70 := Try.underlying57
  a70 := Try.isAgg57
  z70 := Try.sizeOf57
  v70 := Try.zeroValue57
  t72 := Try.underlying59
  a72 := Try.isAgg59
  z72 := Try.sizeOf59
  v72 := Try.zeroValue59
  t127 := Try.underlying65
  a127 := Try.isAgg65
  z127 := Try.sizeOf65
  v127 := Try.zeroValue65 }
theorem Try.Builder_Extra_169 : Builder.Extra Try.prog Try.lays169_ren := {
  sizeBuilder := by kernel_rfl
  liesBuilder := by kernel_rfl
  t5 := Try.underlying5
  a5 := Try.isAgg5
  z5 := Try.sizeOf5
  v5 := Try.zeroValue5
  infoByte := by kernel_rfl
  cellsByte := by kernel_rfl
  sizeByte := by kernel_rfl
  neB5 := by decide }
open Go.RowKit in
theorem Try.Builder_String_any (B b : Nat) (l : List UInt8) (w : World) (h : Lib.IsBuilder 59 5 B b (Lib.byteCells l) w) (hBw : B ≤ w.heap.size) :
    Calls Try.prog 46 #[.pointer (some ⟨b, 0, none⟩)] w fun e w' => e = .returned (.string ⟨l.toArray⟩) ∧ Below B w w' := Any.Builder_String_any Try.lays169 Try.Builder_Extra_169 B b l w h hBw
def Try.lays217_ren : Go.Shelf.Ren := ⟨fun | 217 => 51 | 266 => 56 | n => n, fun | 9 => 9 | 5 => 5 | 3 => 3 | n => n, fun | n => n⟩
def Try.lays224_ren : Go.Shelf.Ren := ⟨fun | 224 => 53 | n => n, fun | 3 => 3 | n => n, fun | n => n⟩
def Try.lays314_ren : Go.Shelf.Ren := ⟨fun | 314 => 57 | n => n, fun | 9 => 9 | 51 => 72 | 3 => 3 | 4 => 4 | 5 => 5 | 46 => 69 | n => n, fun | n => n⟩
def Try.lays267_ren : Go.Shelf.Ren := ⟨fun | 267 => 54 | 314 => 57 | n => n, fun | 9 => 9 | 3 => 3 | 146 => 73 | 51 => 72 | 4 => 4 | 5 => 5 | 46 => 69 | n => n, fun | n => n⟩
def Try.lays219_ren : Go.Shelf.Ren := ⟨fun | 219 => 48 | 217 => 51 | 225 => 52 | 224 => 53 | 267 => 54 | 266 => 56 | 314 => 57 | n => n, fun | 9 => 9 | 3 => 3 | 4 => 4 | 5 => 5 | 46 => 69 | 146 => 73 | 51 => 72 | n => n, fun | 1 => 0 | n => n⟩
theorem Try.lays219 : Go.Proofs.Lays.n219 Try.prog Try.lays219_ren := {
  mixed := by kernel_rfl
  f217 := Try.func51.trans (congrArg some (by kernel_rfl))
  f219 := Try.func48.trans (congrArg some (by kernel_rfl))
  f224 := Try.func53.trans (congrArg some (by kernel_rfl))
  f225 := Try.func52.trans (congrArg some (by kernel_rfl))
  f266 := Try.func56.trans (congrArg some (by kernel_rfl))
  f267 := Try.func54.trans (congrArg some (by kernel_rfl))
  f314 := Try.func57.trans (congrArg some (by kernel_rfl))
  t3 := Try.underlying3
  a3 := Try.isAgg3
  z3 := Try.sizeOf3
  v3 := Try.zeroValue3
  t4 := Try.underlying4
  a4 := Try.isAgg4
  z4 := Try.sizeOf4
  v4 := Try.zeroValue4
  t5 := Try.underlying5
  a5 := Try.isAgg5
  z5 := Try.sizeOf5
  v5 := Try.zeroValue5
  t9 := Try.underlying9
  a9 := Try.isAgg9
  z9 := Try.sizeOf9
  v9 := Try.zeroValue9
  t46 := Try.underlying69
  a46 := Try.isAgg69
  z46 := Try.sizeOf69
  v46 := Try.zeroValue69
  t51 := Try.underlying72
  a51 := Try.isAgg72
  z51 := Try.sizeOf72
  v51 := Try.zeroValue72
  t146 := Try.underlying73
  a146 := Try.isAgg73
  z146 := Try.sizeOf73
  v146 := Try.zeroValue73
  g1 := by kernel_rfl }
open Go.RowKit Go.Lib in
theorem Try.stringslite_Index_one (s : ByteArray) (c : UInt8) (w : World) :
    Calls Try.prog 48 #[.string s, .string ⟨#[c]⟩] w fun e w' => e = .returned (.int .i64 (Lib.indexByte s.data.toList c)) ∧ w' = w := Any.stringslite_Index_one Try.lays219 s c w
def Try.lays220_ren : Go.Shelf.Ren := ⟨fun | 220 => 44 | 219 => 48 | 217 => 51 | 225 => 52 | 224 => 53 | 267 => 54 | 266 => 56 | 314 => 57 | n => n, fun | 9 => 9 | 4 => 4 | 3 => 3 | 5 => 5 | 46 => 69 | 146 => 73 | 51 => 72 | n => n, fun | 1 => 0 | n => n⟩
def Try.lays145_ren : Go.Shelf.Ren := ⟨fun | 145 => 37 | 220 => 44 | 219 => 48 | 217 => 51 | 225 => 52 | 224 => 53 | 267 => 54 | 266 => 56 | 314 => 57 | n => n, fun | 9 => 9 | 4 => 4 | 59 => 51 | 3 => 3 | 5 => 5 | 46 => 69 | 146 => 73 | 51 => 72 | n => n, fun | 1 => 0 | n => n⟩
def Try.laysM219_ren : Go.Shelf.Ren := ⟨fun | 219 => 48 | 217 => 51 | 225 => 52 | 224 => 53 | 267 => 54 | 266 => 56 | 314 => 57 | n => n, fun | 9 => 9 | 3 => 3 | 4 => 4 | 5 => 5 | 46 => 69 | 146 => 73 | 51 => 72 | n => n, fun | 1 => 0 | n => n⟩
def Try.laysM220_ren : Go.Shelf.Ren := ⟨fun | 220 => 44 | 219 => 48 | 217 => 51 | 225 => 52 | 224 => 53 | 267 => 54 | 266 => 56 | 314 => 57 | n => n, fun | 9 => 9 | 4 => 4 | 3 => 3 | 5 => 5 | 46 => 69 | 146 => 73 | 51 => 72 | n => n, fun | 1 => 0 | n => n⟩
def Try.laysM145_ren : Go.Shelf.Ren := ⟨fun | 145 => 37 | 220 => 44 | 219 => 48 | 217 => 51 | 225 => 52 | 224 => 53 | 267 => 54 | 266 => 56 | 314 => 57 | n => n, fun | 9 => 9 | 4 => 4 | 59 => 51 | 3 => 3 | 5 => 5 | 46 => 69 | 146 => 73 | 51 => 72 | n => n, fun | 1 => 0 | n => n⟩
def Try.lays315_ren : Go.Shelf.Ren := ⟨fun | 315 => 50 | n => n, fun | 9 => 9 | 40 => 54 | 4 => 4 | 3 => 3 | 0 => 0 | 21 => 21 | n => n, fun | n => n⟩
def Try.laysGw15_ren : Go.Shelf.Ren := ⟨fun | 15 => 47 | 20 => 50 | n => n, fun | 9 => 9 | 23 => 54 | 3 => 3 | 4 => 4 | 0 => 0 | 21 => 21 | n => n, fun | n => n⟩
def Try.laysGw17_ren : Go.Shelf.Ren := ⟨fun | 17 => 41 | 15 => 47 | 20 => 50 | n => n, fun | 9 => 9 | 23 => 54 | 4 => 4 | 3 => 3 | 0 => 0 | 21 => 21 | n => n, fun | n => n⟩
theorem Try.laysGw17 : Go.Proofs.LaysGw.n17 Try.prog Try.laysGw17_ren := {
  mixed := by kernel_rfl
  f15 := Try.func47.trans (congrArg some (by kernel_rfl))
  f17 := Try.func41.trans (congrArg some (by kernel_rfl))
  f20 := Try.func50.trans (congrArg some (by kernel_rfl))
  t0 := Try.underlying0
  a0 := Try.isAgg0
  z0 := Try.sizeOf0
  v0 := Try.zeroValue0
  i0 := by kernel_rfl
  t3 := Try.underlying3
  a3 := Try.isAgg3
  z3 := Try.sizeOf3
  v3 := Try.zeroValue3
  i3 := by kernel_rfl
  t4 := Try.underlying4
  a4 := Try.isAgg4
  z4 := Try.sizeOf4
  v4 := Try.zeroValue4
  i4 := by kernel_rfl
  t9 := Try.underlying9
  a9 := Try.isAgg9
  z9 := Try.sizeOf9
  v9 := Try.zeroValue9
  i9 := by kernel_rfl
  t21 := Try.underlying21
  a21 := Try.isAgg21
  z21 := Try.sizeOf21
  v21 := Try.zeroValue21
  i21 := by kernel_rfl
  t23 := Try.underlying54
  a23 := Try.isAgg54
  z23 := Try.sizeOf54
  v23 := Try.zeroValue54
  i23 := by kernel_rfl }
open Go.RowKit Go.Lib in
theorem Try.strings_ContainsFunc (g : Nat) (lb : Array Value) (eg : ∀ args w, (callFunc g args).run Try.prog w = .ok (.enter g args) w) (p : Nat → Bool) (s : ByteArray) (w : World) (hp : PredAt Try.prog g lb encR p w) :
    Calls Try.prog 41 #[.string s, .func (.func g) #[] lb] w fun e w' => e = .returned (.bool (decide (0 ≤ Lib.idxFunc p true s))) ∧ Below w.heap.size w w' := Any.strings_ContainsFunc Try.laysGw17 g lb eg p s w hp
def Try.lays206_ren : Go.Shelf.Ren := ⟨fun | 206 => 31 | n => n, fun | 9 => 9 | 4 => 4 | 3 => 3 | n => n, fun | n => n⟩
theorem Try.lays206 : Go.Proofs.Lays.n206 Try.prog Try.lays206_ren := {
  mixed := by kernel_rfl
  f206 := Try.func31.trans (congrArg some (by kernel_rfl))
  t3 := Try.underlying3
  a3 := Try.isAgg3
  z3 := Try.sizeOf3
  v3 := Try.zeroValue3
  t4 := Try.underlying4
  a4 := Try.isAgg4
  z4 := Try.sizeOf4
  v4 := Try.zeroValue4
  t9 := Try.underlying9
  a9 := Try.isAgg9
  z9 := Try.sizeOf9
  v9 := Try.zeroValue9 }
open Go.RowKit Go.Lib in
theorem Try.stringslite_HasPrefix (s p : ByteArray) (w : World) :
    Calls Try.prog 31 #[.string s, .string p] w fun e w' => e = .returned (.bool (Lib.hasPrefix s.data.toList p.data.toList)) ∧ w' = w := Any.stringslite_HasPrefix Try.lays206 s p w
def Try.lays99_ren : Go.Shelf.Ren := ⟨fun | 99 => 23 | 206 => 31 | n => n, fun | 9 => 9 | 4 => 4 | 3 => 3 | n => n, fun | n => n⟩
theorem Try.lays99 : Go.Proofs.Lays.n99 Try.prog Try.lays99_ren := {
  mixed := by kernel_rfl
  f99 := Try.func23.trans (congrArg some (by kernel_rfl))
  f206 := Try.func31.trans (congrArg some (by kernel_rfl))
  t3 := Try.underlying3
  a3 := Try.isAgg3
  z3 := Try.sizeOf3
  v3 := Try.zeroValue3
  t4 := Try.underlying4
  a4 := Try.isAgg4
  z4 := Try.sizeOf4
  v4 := Try.zeroValue4
  t9 := Try.underlying9
  a9 := Try.isAgg9
  z9 := Try.sizeOf9
  v9 := Try.zeroValue9 }
open Go.RowKit Go.Lib in
theorem Try.strings_HasPrefix (s p : ByteArray) (w : World) :
    Calls Try.prog 23 #[.string s, .string p] w fun e w' => e = .returned (.bool (Lib.hasPrefix s.data.toList p.data.toList)) ∧ w' = w := Any.strings_HasPrefix Try.lays99 s p w
def Try.lays240_ren : Go.Shelf.Ren := ⟨fun | 240 => 49 | 276 => 55 | n => n, fun | 0 => 0 | 4 => 4 | 9 => 9 | 20 => 20 | 37 => 56 | 70 => 57 | 72 => 59 | 164 => 70 | n => n, fun n => n⟩
def Try.lays167_ren : Go.Shelf.Ren := ⟨fun | 167 => 45 | 240 => 49 | 276 => 55 | n => n, fun | 0 => 0 | 4 => 4 | 5 => 5 | 9 => 9 | 20 => 20 | 37 => 56 | 70 => 57 | 72 => 59 | 75 => 61 | 80 => 63 | 164 => 70 | n => n, fun n => n⟩
theorem Try.lays167 : Go.Proofs.Lays.n167 Try.prog Try.lays167_ren := {
  mixed := by kernel_rfl
  f167 := Try.func45.trans (congrArg some (by kernel_rfl))
  f240 := Try.func49.trans (congrArg some (by kernel_rfl))
  f276 := Try.func55.trans (congrArg some (by kernel_rfl))
  t0 := Try.underlying0
  a0 := Try.isAgg0
  z0 := Try.sizeOf0
  v0 := Try.zeroValue0
  t4 := Try.underlying4
  a4 := Try.isAgg4
  z4 := Try.sizeOf4
  v4 := Try.zeroValue4
  t5 := Try.underlying5
  a5 := Try.isAgg5
  z5 := Try.sizeOf5
  v5 := Try.zeroValue5
  t9 := Try.underlying9
  a9 := Try.isAgg9
  z9 := Try.sizeOf9
  v9 := Try.zeroValue9
  t20 := Try.underlying20
  a20 := Try.isAgg20
  z20 := Try.sizeOf20
  v20 := Try.zeroValue20
  t37 := Try.underlying56
  a37 := Try.isAgg56
  z37 := Try.sizeOf56
  v37 := Try.zeroValue56
  t70 := Try.underlying57
  a70 := Try.isAgg57
  z70 := Try.sizeOf57
  v70 := Try.zeroValue57
  t72 := Try.underlying59
  a72 := Try.isAgg59
  z72 := Try.sizeOf59
  v72 := Try.zeroValue59
  t75 := Try.underlying61
  a75 := Try.isAgg61
  z75 := Try.sizeOf61
  v75 := Try.zeroValue61
  t164 := Try.underlying70
  a164 := Try.isAgg70
  z164 := Try.sizeOf70
  v164 := Try.zeroValue70 }
theorem Try.Builder_Extra_167 : Builder.Extra Try.prog Try.lays167_ren where
  sizeBuilder := by kernel_rfl
  liesBuilder := by kernel_rfl
  t5 := Try.underlying5
  a5 := Try.isAgg5
  z5 := Try.sizeOf5
  v5 := Try.zeroValue5
  infoByte := by kernel_rfl
  cellsByte := by kernel_rfl
  sizeByte := by kernel_rfl
  neB5 := by decide
open Go.RowKit in
theorem Try.Builder_WriteByte (B b : Nat) (bs : List Value) (c : Int) (w : World) (h : Lib.IsBuilder 59 5 B b bs w) (hlen : bs.length + 1 ≤ 140737488355328) (hBw : B ≤ w.heap.size) :
    Calls Try.prog 45 #[.pointer (some ⟨b, 0, none⟩), .int .u8 c] w fun e w' => e = .returned .nilIface ∧ (Lib.BuilderAt 59 5 B b (.pointer (some ⟨b, 0, none⟩)) (bs ++ [.int .u8 c]) w' ∧ Below B w w') := Any.Builder_WriteByte Try.lays167 Try.Builder_Extra_167 B b bs c w h hlen hBw
end Go.Proofs
/- Plain lemmas on lists of bytes: what stands ahead and behind, letters, schemes. No Go in it. -/
namespace Go.Proofs.Ytejdfmghcgkojaa
set_option linter.unusedVariables false
set_option linter.unusedSimpArgs false

/-! ### ahead and behind -/
/-- How many at the head meet p. -/
def lead (p : UInt8 → Bool) (l : List UInt8) : Nat := (l.takeWhile p).length
/-- Without those at the end that meet p. -/
def rcut (p : UInt8 → Bool) (l : List UInt8) : List UInt8 := (l.reverse.dropWhile p).reverse
/-- How many are left then. -/
def tail (p : UInt8 → Bool) (l : List UInt8) : Nat := (rcut p l).length

theorem lead_le (p : UInt8 → Bool) (l : List UInt8) : lead p l ≤ l.length := by
  unfold lead
  induction l with
  | nil => simp
  | cons a t ih => simp only [List.takeWhile_cons]; split <;> simp <;> omega
theorem lead_at (p : UInt8 → Bool) : ∀ (l : List UInt8) (k : Nat), k < lead p l → ∃ c, l[k]? = some c ∧ p c = true
  | [], k, h => by simp [lead] at h
  | a :: t, k, h => by
    unfold lead at h
    simp only [List.takeWhile_cons] at h
    split at h
    · rename_i ha
      cases k with
      | zero => exact ⟨a, rfl, ha⟩
      | succ k => exact lead_at p t k (by unfold lead; simpa using h)
    · simp at h
theorem lead_stop_at (p : UInt8 → Bool) : ∀ (l : List UInt8) (c : UInt8), l[lead p l]? = some c → p c = false
  | [], c, h => by simp [lead] at h
  | a :: t, c, h => by
    unfold lead at h
    simp only [List.takeWhile_cons] at h
    split at h
    · exact lead_stop_at p t c (by unfold lead; simpa using h)
    · rename_i ha
      simp at h
      subst h
      simpa using ha
theorem lead_step {p : UInt8 → Bool} {l : List UInt8} {k : Nat} {c : UInt8} (hk : k ≤ lead p l) (hc : l[k]? = some c) (hp : p c = true) : k + 1 ≤ lead p l := by
  rcases Nat.lt_or_ge k (lead p l) with h | h
  · exact h
  · obtain rfl : k = lead p l := by omega
    rw [lead_stop_at p l c hc] at hp
    cases hp
theorem lead_done {p : UInt8 → Bool} {l : List UInt8} {k : Nat} {c : UInt8} (hk : k ≤ lead p l) (hc : l[k]? = some c) (hp : p c = false) : k = lead p l := by
  rcases Nat.lt_or_ge k (lead p l) with h | h
  · obtain ⟨d, hd, hpd⟩ := lead_at p l k h
    rw [hc] at hd
    cases hd
    rw [hp] at hpd
    cases hpd
  · omega
theorem lead_full {p : UInt8 → Bool} {l : List UInt8} {k : Nat} (hk : k ≤ lead p l) (hl : l.length ≤ k) : k = lead p l := by
  have := lead_le p l
  omega
theorem drop_lead (p : UInt8 → Bool) : ∀ l : List UInt8, l.drop (lead p l) = l.dropWhile p
  | [] => by simp [lead]
  | a :: t => by
    unfold lead
    simp only [List.takeWhile_cons, List.dropWhile_cons]
    split
    · have := drop_lead p t
      unfold lead at this
      simpa using this
    · simp

theorem rcut_append_one (p : UInt8 → Bool) (l : List UInt8) (c : UInt8) : rcut p (l ++ [c]) = if p c then rcut p l else l ++ [c] := by
  unfold rcut
  rw [List.reverse_append]
  simp only [List.reverse_cons, List.reverse_nil, List.nil_append, List.cons_append, List.dropWhile_cons]
  split <;> simp
theorem rcut_nil (p : UInt8 → Bool) : rcut p [] = [] := by simp [rcut]
theorem tail_le (p : UInt8 → Bool) (l : List UInt8) : tail p l ≤ l.length := by
  unfold tail rcut
  rw [List.length_reverse]
  have := (List.dropWhile_sublist p (l := l.reverse)).length_le
  simpa using this
/-- What is cut is a beginning. -/
theorem rcut_take (p : UInt8 → Bool) (l : List UInt8) : rcut p l = l.take (tail p l) := by
  unfold tail
  have h : rcut p l <+: l := by
    unfold rcut
    have := List.dropWhile_suffix p (l := l.reverse)
    rw [← List.reverse_prefix] at this
    simpa using this
  exact (List.prefix_iff_eq_take.1 h)
theorem take_succ' {l : List UInt8} {k : Nat} {c : UInt8} (hc : l[k]? = some c) : l.take (k + 1) = l.take k ++ [c] := by
  rw [List.take_add_one, hc]; rfl
/-- From k on all meet p. -/
theorem tail_from {p : UInt8 → Bool} {l : List UInt8} : ∀ {k : Nat}, rcut p (l.take k) = rcut p l → tail p l ≤ k := by
  intro k h
  unfold tail
  rw [← h]
  have := tail_le p (l.take k)
  unfold tail at this
  have h2 : (l.take k).length ≤ k := List.length_take_le _ _
  omega
theorem rcut_take_step {p : UInt8 → Bool} {l : List UInt8} {k : Nat} {c : UInt8} (h : rcut p (l.take (k + 1)) = rcut p l) (hc : l[k]? = some c) (hp : p c = true) : rcut p (l.take k) = rcut p l := by
  rw [take_succ' hc, rcut_append_one, hp] at h
  simpa using h
theorem rcut_take_done {p : UInt8 → Bool} {l : List UInt8} {k : Nat} {c : UInt8} (h : rcut p (l.take (k + 1)) = rcut p l) (hc : l[k]? = some c) (hp : p c = false) : rcut p l = l.take (k + 1) := by
  rw [take_succ' hc, rcut_append_one, hp] at h
  rw [take_succ' hc]
  simpa using h.symm

/-! ### bytes that do not count in an address -/
def ws (c : UInt8) : Bool := decide (c.toNat ≤ 32)
def keep (c : UInt8) : Bool := c.toNat != 9 && c.toNat != 10 && c.toNat != 13
def strip (l : List UInt8) : List UInt8 := (rcut ws (l.dropWhile ws)).filter keep
end Go.Proofs.Ytejdfmghcgkojaa
/- Small lemmas for the walks. -/
namespace Go.Proofs.Ytejdfmghcgkojaa
set_option linter.unusedVariables false
set_option linter.unusedSimpArgs false
open Go.RowKit

theorem hid {p : Prop} (h : p) : Hid p := h
theorem byte_at (s : ByteArray) (k : Nat) (h : k < s.size) : s.data.toList[k]? = some (s[k]'h) := by
  rw [List.getElem?_eq_getElem (by simpa using h)]; rfl
theorem byte_drop (s : ByteArray) (a j : Nat) (h : a + j < s.size) : (s.data.toList.drop a)[j]? = some (s[a + j]'h) := by
  rw [List.getElem?_drop]; exact byte_at s (a + j) h
theorem ret_str {a b : List UInt8} (h : a = b) : Ending.returned (.string ⟨a.toArray⟩) = .returned (.string ⟨b.toArray⟩) := by rw [h]
theorem ret_bool {a b : Bool} (h : a = b) : Ending.returned (.bool a) = .returned (.bool b) := by rw [h]
theorem extract_pre (s : ByteArray) (i : Nat) : s.extract 0 i = ⟨(s.data.toList.take i).toArray⟩ := by rw [Lib.extract_eq]; simp
theorem extract_suf (s : ByteArray) (i : Nat) : s.extract i s.size = ⟨(s.data.toList.drop i).toArray⟩ := by
  rw [Lib.extract_eq]
  congr 2
  exact List.take_of_length_le (by rw [List.length_drop, ← Lib.size_eq]; exact Nat.le_refl _)
theorem drop_one {l : List UInt8} {i : Nat} {c : UInt8} (h0 : l[i]? = some c) : l.drop i = c :: l.drop (i + 1) := by
  rw [List.drop_eq_getElem?_toList_append, h0]
  simp
def bnd {α : Type} (s : ByteArray) (x : α) : Option α := if s.size ≤ 140737488351232 then some x else none
theorem bnd_some {α : Type} {s : ByteArray} {x r : α} (h : bnd s x = some r) : s.size ≤ 140737488351232 ∧ x = r := by
  unfold bnd at h
  split at h
  · exact ⟨by assumption, Option.some.inj h⟩
  · cases h
theorem bnd_of {α : Type} {s : ByteArray} (x : α) (h : s.size ≤ 140737488351232) : bnd s x = some x := by unfold bnd; rw [if_pos h]
def mkS (l : List UInt8) : ByteArray := ⟨l.toArray⟩
end Go.Proofs.Ytejdfmghcgkojaa
/- strings.Cut at a separator of one byte; fold.Letter. -/
namespace Go.Proofs.Ytejdfmghcgkojaa
set_option linter.unusedVariables false
set_option linter.unusedSimpArgs false
open Go.RowKit

def bef (c : UInt8) (l : List UInt8) : List UInt8 := l.takeWhile (· != c)
def aft (c : UInt8) (l : List UInt8) : List UInt8 := (l.dropWhile (· != c)).drop 1
theorem indexByte_bef (c : UInt8) : ∀ l : List UInt8, Lib.indexByte l c = if l.contains c then ((bef c l).length : Int) else -1
  | [] => rfl
  | b :: l => by
    unfold Lib.indexByte bef
    have ih := indexByte_bef c l
    by_cases hb : b = c
    · subst hb; simp
    · have h1 : (b == c) = false := by simpa using hb
      have h2 : (b != c) = true := by simpa using hb
      have h3 : (b :: l).contains c = l.contains c := by rw [List.contains_cons]; simp [Ne.symm hb]
      rw [h1, h3]
      simp only [Bool.false_eq_true, if_false, List.takeWhile_cons, h2, if_true, List.length_cons]
      rw [ih]
      unfold bef
      split
      · rw [if_neg (by rw [beq_iff_eq]; omega)]
        push_cast
        rfl
      · simp
theorem bef_take (c : UInt8) (l : List UInt8) : l.take (bef c l).length = bef c l := (List.prefix_iff_eq_take.1 (List.takeWhile_prefix _)).symm
theorem bef_all {c : UInt8} : ∀ {l : List UInt8}, l.contains c = false → bef c l = l ∧ aft c l = []
  | [], _ => ⟨rfl, rfl⟩
  | b :: l, h => by
    have h1 : b ≠ c ∧ l.contains c = false := by
      rw [List.contains_cons] at h
      simp at h
      exact ⟨fun e => h.1 e.symm, by simpa using h.2⟩
    obtain ⟨e1, e2⟩ := bef_all h1.2
    have h2 : (b != c) = true := by simpa using h1.1
    unfold bef aft at *
    simp only [List.takeWhile_cons, List.dropWhile_cons, h2, if_true]
    exact ⟨by rw [e1], e2⟩
theorem aft_drop (c : UInt8) : ∀ l : List UInt8, l.drop ((bef c l).length + 1) = aft c l
  | [] => rfl
  | b :: l => by
    have ih := aft_drop c l
    unfold bef aft at *
    simp only [List.takeWhile_cons, List.dropWhile_cons]
    split
    · simpa using ih
    · simp
theorem bef_lt {c : UInt8} : ∀ {l : List UInt8}, l.contains c = true → (bef c l).length < l.length
  | [], h => by simp at h
  | b :: l, h => by
    unfold bef
    simp only [List.takeWhile_cons]
    by_cases hb : b = c
    · subst hb; simp
    · have h2 : (b != c) = true := by simpa using hb
      rw [h2]
      have h3 : l.contains c = true := by rw [List.contains_cons] at h; simpa [Ne.symm hb] using h
      have := bef_lt h3
      unfold bef at this
      simpa using this
theorem bef_le (c : UInt8) (l : List UInt8) : (bef c l).length ≤ l.length := (List.takeWhile_sublist _).length_le
set_option maxHeartbeats 1000000 in
set_option maxRecDepth 100000 in
theorem slite_cut_calls (c : UInt8) (s : ByteArray) (w : World) (hs : s.size ≤ 140737488351232) :
    Calls Try.prog 44 #[.string s, .string ⟨#[c]⟩] w fun e w' => e = .returned (.tuple #[.string ⟨(bef c s.data.toList).toArray⟩, .string ⟨(aft c s.data.toList).toArray⟩, .bool (s.data.toList.contains c)]) ∧ ∃ n, w' = w.drewN n := by
  have hix := indexByte_bef c s.data.toList
  cases hcon : s.data.toList.contains c with
  | false =>
    rw [hcon, if_neg (by simp)] at hix
    obtain ⟨e1, e2⟩ := bef_all hcon
    rw [e1, e2, show (⟨s.data.toList.toArray⟩ : ByteArray) = s from by simp]
    clear hcon e1 e2
    have hix' := hid hix
    clear hix
    go_enter Try.func44, Try.ntmps44
    go_wp2_with (go_at_call 48; refine (Try.stringslite_Index_one s c w).mono ?_; rintro e w' ⟨rfl, rfl⟩; rw [hix'.out])
    go_ret3
    exact ⟨rfl, 0, rfl⟩
  | true =>
    rw [hcon, if_pos rfl] at hix
    have hlt := bef_lt hcon
    rw [← Lib.size_eq] at hlt
    clear hcon
    have e1 := bef_take c s.data.toList
    have e2 := aft_drop c s.data.toList
    obtain ⟨n, hn⟩ : ∃ n, (bef c s.data.toList).length = n := ⟨_, rfl⟩
    rw [hn] at hix hlt e1 e2
    have hix' := hid hix
    have e1' := hid e1
    have e2' := hid e2
    clear hix e1 e2 hn
    have c1 : (0 : Int) ≤ ↑n := by omega
    have c2 : (↑n : Int) ≤ ↑s.size := by omega
    have c3 : (0 : Int) ≤ ↑n + 1 := by omega
    have c4 : (↑n + 1 : Int) ≤ ↑s.size := by omega
    go_enter Try.func44, Try.ntmps44
    go_wp2_with (go_at_call 48; refine (Try.stringslite_Index_one s c w).mono ?_; rintro e w' ⟨rfl, rfl⟩; rw [hix'.out])
    go_region
    go_wp2
    go_ret3
    refine ⟨?_, 1, rfl⟩
    rw [← e1'.out, ← e2'.out, ← extract_pre, ← extract_suf]
    rfl

set_option maxHeartbeats 1000000 in
theorem cut_calls (c : UInt8) (s : ByteArray) (w : World) (hs : s.size ≤ 140737488351232) :
    Calls Try.prog 37 #[.string s, .string ⟨#[c]⟩] w fun e w' => e = .returned (.tuple #[.string ⟨(bef c s.data.toList).toArray⟩, .string ⟨(aft c s.data.toList).toArray⟩, .bool (s.data.toList.contains c)]) ∧ ∃ n, w' = w.drewN n := by
  obtain ⟨B, hB⟩ : ∃ B, (⟨(bef c s.data.toList).toArray⟩ : ByteArray) = B := ⟨_, rfl⟩
  obtain ⟨A, hA⟩ : ∃ A, (⟨(aft c s.data.toList).toArray⟩ : ByteArray) = A := ⟨_, rfl⟩
  obtain ⟨C, hC⟩ : ∃ C, s.data.toList.contains c = C := ⟨_, rfl⟩
  have h := slite_cut_calls c s w hs
  rw [hB, hA, hC] at h ⊢
  clear hB hA hC
  have h' := hid h
  clear h
  go_enter Try.func37, Try.ntmps37
  go_wp2_with (go_at_call 44; refine h'.out.mono ?_; rintro e w' ⟨rfl, n, rfl⟩)
  go_ret3
  exact ⟨rfl, n, rfl⟩

end Go.Proofs.Ytejdfmghcgkojaa
/- fold.Letter. -/
namespace Go.Proofs.Ytejdfmghcgkojaa
set_option linter.unusedVariables false
set_option linter.unusedSimpArgs false
open Go.RowKit

def letterI (c : Int) : Bool := decide (97 ≤ c ∧ c ≤ 122) || decide (65 ≤ c ∧ c ≤ 90)
def letter (c : UInt8) : Bool := letterI c.toNat
set_option maxHeartbeats 1000000 in
theorem letter_calls (c : Int) (w : World) (h0 : 0 ≤ c) (h1 : c < 256) : Calls Try.prog 39 #[.int .u8 c] w fun e w' => e = .returned (.bool (letterI c)) ∧ w' = w := by
  rcases (by omega : c < 65 ∨ (65 ≤ c ∧ c ≤ 90) ∨ (90 < c ∧ c < 97) ∨ (97 ≤ c ∧ c ≤ 122) ∨ 122 < c) with h | ⟨h, h'⟩ | ⟨h, h'⟩ | ⟨h, h'⟩ | h
  all_goals
    go_enter Try.func39, Try.ntmps39
    go_wp2
    go_ret
    exact ⟨ret_bool (by unfold letterI; rw [Bool.eq_iff_iff]; simp only [Bool.or_eq_true, Bool.and_eq_true, decide_eq_true_eq, Bool.false_eq_true, eq_self, true_iff, false_iff]; omega), rfl⟩
theorem letter_at (c : UInt8) (w : World) : Calls Try.prog 39 #[.int .u8 (c.toNat : Int)] w fun e w' => e = .returned (.bool (letter c)) ∧ w' = w :=
  letter_calls _ w (by omega) (by have := c.toNat_lt; omega)
end Go.Proofs.Ytejdfmghcgkojaa
/- A []byte of the call's own that a string was turned into; fold.Lower's and the reference's Lower's contracts. -/
namespace Go.Proofs.Ytejdfmghcgkojaa
set_option linter.unusedVariables false
set_option linter.unusedSimpArgs false
open Go.RowKit

def Buf (w : World) (g : Nat) (l : List UInt8) : Prop := ∀ j c, l[j]? = some c → w.cell? ⟨g, j, none⟩ = some (.int .u8 c.toNat) ∧ w.frozen? ⟨g, j, none⟩ = false
theorem Buf.of_conv {P : Program} (w : World) (src dst e : TypeId) (s : ByteArray) {u : TypeDesc} (hs : P.underlying src = some u) (hd : P.underlying dst = some (.slice e)) (he : P.underlying e = some (.int .u8)) :
    ∃ (W : World) (cap : Nat), (convert src dst (.string s)).run P w = .ok (.slice (some ⟨w.heap.size, 0, none⟩) s.size cap) W ∧ Buf W w.heap.size s.data.toList ∧ Below w.heap.size w W := by
  refine ⟨_, _, Lib.run_convert_string_bytes w src dst e s hs hd he, fun j c hj => ?_, ⟨rfl, rfl, rfl, by rw [Lib.bytesWorld_size]; omega, fun k hk => Lib.bytesWorld_at_old w e s k hk⟩⟩
  have hl : j < s.data.toList.length := (List.getElem?_eq_some_iff.1 hj).1
  have hl' : j < s.size := by simpa using hl
  refine ⟨by rw [Lib.bytesWorld_cell w e s j hl']; simp [List.getD, hj], ?_⟩
  have hsz : s.size ≤ (Lib.bytesCells w e s).size := by unfold Lib.bytesCells; rw [Array.size_append, Array.size_map]; exact Nat.le_add_right _ _
  unfold World.frozen?
  rw [Lib.bytesWorld_at_new]
  simp
  omega
theorem Buf.set_ {w : World} {g : Nat} {l : List UInt8} (h : Buf w g l) (i : Nat) (c : UInt8) : Buf (w.setCell ⟨g, i, none⟩ (.int .u8 c.toNat)) g (l.set i c) := by
  intro j d hj
  rw [World.frozen?_setCell]
  rw [List.getElem?_set] at hj
  split at hj
  · rename_i he
    subst he
    split at hj
    · cases hj
      rename_i hl
      obtain ⟨h1, h2⟩ := h i _ (List.getElem?_eq_getElem hl)
      exact ⟨World.cell?_setCell_same _ _ _ (by rw [h1]), h2⟩
    · cases hj
  · rename_i he
    obtain ⟨h1, h2⟩ := h j d hj
    exact ⟨(World.cell?_setCell_other w _ _ _ (by intro e; injection e with _ e; exact he e)).trans h1, h2⟩
theorem Buf.string {P : Program} {w : World} {g : Nat} {l : List UInt8} (h : Buf w g l) (src e dst : TypeId) (n cap : Nat) (hn : l.length = n) (hs : P.underlying src = some (.slice e)) (he : P.underlying e = some (.int .u8)) (hd : P.underlying dst = some .string) :
    (convert src dst (.slice (some ⟨g, 0, none⟩) n cap)).run P w = .ok (.string ⟨l.toArray⟩) w := by
  have := run_convert_bytes_arg (P := P) w src e hs he g 0 n cap (l.map fun c => (c.toNat : Int)) (by simp [hn]) (fun i hi => by
    have := (h i _ (List.getElem?_eq_getElem (show i < l.length by omega))).1
    rw [Nat.zero_add, this]
    simp [List.getD, List.getElem?_eq_getElem (show i < l.length by omega)]) dst hd
  rw [this]
  congr 2
  simp [strOfNums, List.map_map, Function.comp_def]

def low (c : UInt8) : UInt8 := if 65 ≤ c.toNat ∧ c.toNat ≤ 90 then c + 32 else c
theorem low_hi {c : UInt8} (h0 : 65 ≤ c.toNat) (h1 : c.toNat ≤ 90) : (low c).toNat = c.toNat + 32 := by
  unfold low
  rw [if_pos ⟨h0, h1⟩, UInt8.toNat_add]
  show (c.toNat + 32) % 256 = _
  omega
theorem low_id {c : UInt8} (h : ¬ (65 ≤ c.toNat ∧ c.toNat ≤ 90)) : low c = c := by unfold low; rw [if_neg h]
def lower (l : List UInt8) : List UInt8 := l.map low
/-- What stands after k rounds. -/
def cur (l : List UInt8) (k : Nat) : List UInt8 := lower (l.take k) ++ l.drop k
theorem cur_len (l : List UInt8) (k : Nat) : (cur l k).length = l.length := by simp [cur, lower]; omega
theorem cur_at (l : List UInt8) (k : Nat) (h : k < l.length) : (cur l k)[k]? = l[k]? := by
  unfold cur lower
  rw [List.getElem?_append_right (by simp; omega)]
  simp [Nat.min_eq_left (Nat.le_of_lt h)]
theorem cur_step {l : List UInt8} {k : Nat} {c : UInt8} (h : l[k]? = some c) : (cur l k).set k (low c) = cur l (k + 1) := by
  have hl : k < l.length := (List.getElem?_eq_some_iff.1 h).1
  have hd : l.drop k = c :: l.drop (k + 1) := by rw [List.drop_eq_getElem?_toList_append, h]; simp
  unfold cur lower
  rw [hd, List.set_append_right _ _ (by simp; omega), take_succ' h]
  simp [Nat.min_eq_left (Nat.le_of_lt hl)]
theorem cur_same {l : List UInt8} {k : Nat} {c : UInt8} (h : l[k]? = some c) (hc : low c = c) : cur l k = cur l (k + 1) := by
  have hl : k < l.length := (List.getElem?_eq_some_iff.1 h).1
  rw [← cur_step h, hc]
  apply List.ext_getElem?
  intro i
  rw [List.getElem?_set]
  split
  · rename_i he
    subst he
    rw [if_pos (by rw [cur_len]; exact hl), cur_at l k hl, h]
  · rfl
theorem cur_end (l : List UInt8) : cur l l.length = lower l := by simp [cur]

set_option maxHeartbeats 4000000 in
set_option maxRecDepth 100000 in
theorem lower_calls (s : ByteArray) (w : World) (hs : s.size ≤ 140737488351232) :
    Calls Try.prog 42 #[.string s] w fun e w' => e = .returned (.string ⟨(lower s.data.toList).toArray⟩) ∧ Below w.heap.size w w' := by
  obtain ⟨W, cap, hcv, hbuf, hbel⟩ := Buf.of_conv (P := Try.prog) w 9 56 5 s Try.underlying9 Try.underlying56 Try.underlying5
  go_enter Try.func42, Try.ntmps42
  go_wp2_with fail
  go_loopw [10] (fun f wr => ∃ k : Nat, Buf wr w.heap.size (cur s.data.toList k) ∧ Below w.heap.size w wr ∧ k ≤ s.size ∧ f = .int .i64 k) (fun f _ => s.size - (intOf f).toNat)
  case atStart => exact ⟨0, by simpa [cur, lower] using hbuf, hbel, Nat.zero_le _, rfl⟩
  case round =>
    obtain ⟨k, hb, hbw, hks, rfl⟩ := hrel
    clear hcv hbuf
    by_cases hlt : k < s.size
    · have hc := byte_at s k hlt
      obtain ⟨c, hcc⟩ : ∃ c, s[k] = c := ⟨_, rfl⟩
      rw [hcc] at hc
      clear hcc
      obtain ⟨hcell, hfr⟩ := hb k c (by rw [cur_at _ _ (by simpa using hlt)]; exact hc)
      have hc' := hid hc
      clear hc
      by_cases hup : 65 ≤ c.toNat ∧ c.toNat ≤ 90
      · obtain ⟨u0, u1⟩ := hup
        have hlow := hid (low_hi u0 u1)
        go_wp2_with fail
        go_roundw
        case rel => exact ⟨k + 1, by rw [← cur_step hc'.out]; have := hb.set_ k (low c); rwa [show ((low c).toNat : Int) = (c.toNat : Int) + 97 - 65 from by have := hlow.out; omega] at this, hbw.setCell (p := ⟨w.heap.size, k, none⟩) (Nat.le_refl _) _, hlt, by go_num⟩
        case measure => simp [intOf]; omega
      · have hsame := hid (cur_same hc'.out (low_id hup))
        rcases (by omega : c.toNat < 65 ∨ (65 ≤ c.toNat ∧ 90 < c.toNat)) with u0 | ⟨u0, u1⟩
        all_goals
          clear hup
          go_wp2_with fail
          go_roundw
          case rel => exact ⟨k + 1, by rw [← hsame.out]; exact hb, hbw, hlt, by go_num⟩
          case measure => simp [intOf]; omega
    · have hcv2 := hb.string (P := Try.prog) 56 5 9 s.size cap (by rw [cur_len]; rfl) Try.underlying56 Try.underlying5 Try.underlying9
      go_wp2_with fail
      go_ret
      obtain rfl : k = s.size := by omega
      exact ⟨ret_str (cur_end _), hbw⟩

end Go.Proofs.Ytejdfmghcgkojaa
/- link.Strip's contract. -/
namespace Go.Proofs.Ytejdfmghcgkojaa
set_option linter.unusedVariables false
set_option linter.unusedSimpArgs false
open Go.RowKit

set_option maxHeartbeats 4000000 in
set_option maxRecDepth 100000 in
theorem strip_calls (s : ByteArray) (w : World) (hs : s.size ≤ 140737488351232) :
    Calls Try.prog 38 #[.string s] w fun e w' => e = .returned (.string ⟨(strip s.data.toList).toArray⟩) ∧ Below w.heap.size w w' := by
  go_enter Try.func38, Try.ntmps38
  go_upto_block 0 with fail
  go_cut [3] (fun f wx => ∃ a : Nat, Hid (a = lead ws s.data.toList) ∧ a ≤ s.size ∧ f = .int .i64 a ∧ w = wx)
  case first =>
    go_wp2_with fail
    go_loop [3] (fun f => ∃ k : Nat, k ≤ lead ws s.data.toList ∧ k ≤ s.size ∧ f = .int .i64 k) (fun f => s.size - (intOf f).toNat)
    case atStart => exact ⟨0, Nat.zero_le _, Nat.zero_le _, rfl⟩
    case round =>
      obtain ⟨k, hk, hks, rfl⟩ := hrel
      by_cases hlt : k < s.size
      · have hc := byte_at s k hlt
        by_cases h32 : s[k].toNat ≤ 32
        · have hst := lead_step hk hc (by simpa [ws] using h32)
          clear hc
          go_wp2_with fail
          go_round
          case rel => exact ⟨k + 1, hst, hlt, by go_num⟩
          case measure => simp [intOf]; omega
        · have hst := hid (lead_done hk hc (by simpa [ws] using h32))
          clear hc
          go_wp2_with fail
          go_meet
          exact ⟨k, hst, hks, rfl, rfl⟩
      · have hst := hid (lead_full hk (by simp; omega))
        go_wp2_with fail
        go_meet
        exact ⟨k, hst, hks, rfl, rfl⟩
  case rest =>
    obtain ⟨a, ha, has, rfl, rfl⟩ := hcut
    go_upto_block 2 with fail
    go_cut [4] (fun f wx => ∃ b : Nat, Hid (rcut ws (s.data.toList.drop a) = (s.data.toList.drop a).take (b - a)) ∧ a ≤ b ∧ b ≤ s.size ∧ f = .int .i64 b ∧ w = wx)
    case first =>
      go_wp2_with fail
      go_loop [4] (fun f => ∃ b : Nat, Hid (rcut ws ((s.data.toList.drop a).take (b - a)) = rcut ws (s.data.toList.drop a)) ∧ a ≤ b ∧ b ≤ s.size ∧ f = .int .i64 b) (fun f => (intOf f).toNat)
      case atStart => exact ⟨s.size, hid (by rw [List.take_of_length_le (by simp)]), has, Nat.le_refl _, rfl⟩
      case round =>
        obtain ⟨b, hb, hab, hbs, rfl⟩ := hrel
        by_cases hlt : a < b
        · obtain ⟨j, rfl⟩ : ∃ j, b = a + j + 1 := ⟨b - a - 1, by omega⟩
          have hc := byte_drop s a j (by omega)
          have hb' : rcut ws ((s.data.toList.drop a).take (j + 1)) = rcut ws (s.data.toList.drop a) := by have := hb.out; rwa [show a + j + 1 - a = j + 1 from by omega] at this
          by_cases h32 : (s[a + j]'(by omega)).toNat ≤ 32
          · have hst := hid (rcut_take_step hb' hc (by simpa [ws] using h32))
            clear hc hb' hb
            go_wp2_with fail
            go_round
            case rel => exact ⟨a + j, by rw [show a + j - a = j from by omega]; exact hst, by omega, by omega, by go_num⟩
            case measure => simp [intOf]; omega
          · have hst := hid (rcut_take_done hb' hc (by simpa [ws] using h32))
            clear hc hb' hb
            go_wp2_with fail
            go_meet
            exact ⟨a + j + 1, by rw [show a + j + 1 - a = j + 1 from by omega]; exact hst, by omega, hbs, rfl, rfl⟩
        · obtain rfl : b = a := by omega
          go_wp2_with fail
          go_meet
          exact ⟨b, hid (by have := hb.out; simp only [Nat.sub_self, List.take_zero, rcut_nil] at this ⊢; exact this.symm), Nat.le_refl _, hbs, rfl, rfl⟩
    case rest =>
      obtain ⟨b, hb, hab, hbs, rfl, rfl⟩ := hcut
      go_wp2_with fail
      go_loopw [6] (fun f wr => ∃ (i : Nat) (acc : List UInt8), Lib.IsBuilder 59 5 w.heap.size w.heap.size (Lib.byteCells acc) wr ∧ Below w.heap.size w wr ∧ Hid (acc = ((s.data.toList.drop a).take (i - a)).filter keep) ∧ a ≤ i ∧ i ≤ b ∧ acc.length ≤ i ∧ f = .int .i64 i) (fun f _ => b - (intOf f).toNat)
      case atStart => exact ⟨a, [], Lib.fresh_isBuilder _ _ w, (Below.refl _ w).alloc (Nat.le_refl _) _, hid (by simp), Nat.le_refl _, hab, by simp, rfl⟩
      case round =>
        obtain ⟨i, acc, hI, hbw, hacc, hai, hib, hal, rfl⟩ := hrel
        have hsz : w.heap.size ≤ wr.heap.size := hbw.size
        by_cases hlt : i < b
        · obtain ⟨j, rfl⟩ : ∃ j, i = a + j := ⟨i - a, by omega⟩
          have hc := byte_drop s a j (by omega)
          have hst : ((s.data.toList.drop a).take (a + j + 1 - a)).filter keep = ((s.data.toList.drop a).take (a + j - a)).filter keep ++ (if keep (s[a + j]'(by omega)) then [s[a + j]'(by omega)] else []) := by
            rw [show a + j + 1 - a = j + 1 from by omega, show a + j - a = j from by omega, take_succ' hc, List.filter_append]
            congr 1
            simp only [List.filter_cons, List.filter_nil]
          clear hc
          by_cases hk : keep (s[a + j]'(by omega)) = true
          · have hst' := hid hst
            clear hst
            have hk2 := hk
            simp only [keep, Bool.and_eq_true, bne_iff_ne, ne_eq] at hk2
            obtain ⟨⟨k9, k10⟩, k13⟩ := hk2
            have j9 : (((s[a + j]'(by omega)).toNat : Int) != 9) = true := by rw [bne_iff_ne]; omega
            have j10 : (((s[a + j]'(by omega)).toNat : Int) != 10) = true := by rw [bne_iff_ne]; omega
            have j13 : (((s[a + j]'(by omega)).toNat : Int) != 13) = true := by rw [bne_iff_ne]; omega
            have hkk := hid hk
            clear hk
            have hbyte : Lib.byteCells (acc ++ [s[a + j]'(by omega)]) = Lib.byteCells acc ++ [Value.int .u8 (s[a + j]'(by omega)).toNat] := by simp [Lib.byteCells]
            have hbyte' := hid hbyte
            clear hbyte
            go_wp2_with (go_at_call 45; refine (Try.Builder_WriteByte w.heap.size w.heap.size _ _ _ hI (by rw [Lib.byteCells_length]; omega) hsz).mono ?_; rintro e w' ⟨rfl, h1, b1⟩)
            go_roundw
            case rel => exact ⟨a + j + 1, acc ++ [s[a + j]'(by omega)], by rw [hbyte'.out]; exact Or.inr h1, hbw.trans b1, hid (by rw [hst'.out, if_pos hkk.out, ← hacc.out]), by omega, by omega, by simp; omega, by go_num⟩
            case measure => simp [intOf]; omega
          · rw [if_neg hk, List.append_nil] at hst
            have hst' := hid hst
            clear hst
            have hk2 : (s[a + j]'(by omega)).toNat = 9 ∨ (s[a + j]'(by omega)).toNat = 10 ∨ (s[a + j]'(by omega)).toNat = 13 := by
              simp only [keep, Bool.and_eq_true, bne_iff_ne, ne_eq] at hk; omega
            clear hk
            rcases hk2 with k9 | k9 | k9
            all_goals
              go_wp2_with fail
              go_roundw
              case rel => exact ⟨a + j + 1, acc, hI, hbw, hid (by rw [hst'.out, ← hacc.out]), by omega, by omega, by omega, by go_num⟩
              case measure => simp [intOf]; omega
        · go_wp2_with (go_at_call 46; refine (Try.Builder_String_any w.heap.size w.heap.size _ _ hI hsz).mono ?_; rintro e w' ⟨rfl, b1⟩)
          go_ret
          obtain rfl : i = b := by omega
          refine ⟨?_, hbw.trans b1⟩
          rw [hacc.out]
          unfold strip
          rw [← drop_lead, ← ha.out, hb.out]
          rfl
end Go.Proofs.Ytejdfmghcgkojaa
/- link.Scheme, link.Script, link.Source. -/
namespace Go.Proofs.Ytejdfmghcgkojaa
set_option linter.unusedVariables false
set_option linter.unusedSimpArgs false
open Go.RowKit Go.Lib

/-- What the closure of Scheme tells of a rune. -/
def oddI (r : Int) : Bool := !(decide (r < 128) && letterI r) && !decide (48 ≤ r ∧ r ≤ 57) && decide (r ≠ 43) && decide (r ≠ 45) && decide (r ≠ 46)
theorem oddI_true (r : Int) : oddI r = true ↔ (r < 128 → letterI r = false) ∧ ¬ (48 ≤ r ∧ r ≤ 57) ∧ r ≠ 43 ∧ r ≠ 45 ∧ r ≠ 46 := by
  unfold oddI
  simp only [Bool.and_eq_true, Bool.not_eq_true', Bool.and_eq_false_imp, decide_eq_true_eq, decide_eq_false_iff_not, and_assoc]
set_option maxHeartbeats 4000000 in
theorem odd_at (w : World) : PredAt Try.prog 40 #[] encR (fun r : Nat => oddI r) w := fun W n _ => by
  unfold FnGives
  obtain ⟨r, hr⟩ : ∃ r : Int, (n : Int) = r := ⟨_, rfl⟩
  have h0 : 0 ≤ r := by omega
  show Calls Try.prog _ #[.int .i32 (n : Int)] W fun e w' => e = .returned (.bool (oddI (n : Int))) ∧ ∃ q, w' = W.drewN q
  rw [hr]
  clear hr
  obtain ⟨B, hB⟩ : ∃ B, oddI r = B := ⟨_, rfl⟩
  have hB' : Hid (B = true ↔ (r < 128 → letterI r = false) ∧ ¬ (48 ≤ r ∧ r ≤ 57) ∧ r ≠ 43 ∧ r ≠ 45 ∧ r ≠ 46) := hB ▸ oddI_true r
  rw [hB]
  clear hB
  rcases (by omega : r < 43 ∨ (43 ≤ r ∧ r ≤ 43) ∨ (44 ≤ r ∧ r ≤ 44) ∨ (45 ≤ r ∧ r ≤ 45) ∨ (46 ≤ r ∧ r ≤ 46) ∨ (47 ≤ r ∧ r ≤ 47) ∨ (48 ≤ r ∧ r ≤ 57) ∨ (58 ≤ r ∧ r ≤ 64) ∨ (65 ≤ r ∧ r ≤ 90) ∨ (91 ≤ r ∧ r ≤ 96) ∨ (97 ≤ r ∧ r ≤ 122) ∨ (123 ≤ r ∧ r ≤ 127) ∨ 128 ≤ r) with h | ⟨h, h'⟩ | ⟨h, h'⟩ | ⟨h, h'⟩ | ⟨h, h'⟩ | ⟨h, h'⟩ | ⟨h, h'⟩ | ⟨h, h'⟩ | ⟨h, h'⟩ | ⟨h, h'⟩ | ⟨h, h'⟩ | ⟨h, h'⟩ | h
  all_goals
    cases hl : letterI r
    all_goals
      first
        | (exfalso; simp [letterI] at hl; omega)
        | (have cl : r < 256 → Calls Try.prog 39 #[.int .u8 r] W _ := fun h1 => letter_calls r W h0 h1
           rw [hl] at cl
           have hl' := hid hl
           clear hl
           go_enter Try.func40, Try.ntmps40
           go_wp2_with (go_at_call 39; refine (cl (by omega)).mono ?_; rintro e w' ⟨rfl, rfl⟩)
           go_ret
           refine ⟨ret_bool ?_, 0, rfl⟩
           have hb := hB'.out
           rw [hl'.out] at hb
           rw [Bool.eq_iff_iff, hb]
           simp
           try omega)

/-- May a byte stand in a scheme? -/
def inScheme (c : UInt8) : Bool := letter c || decide (48 ≤ c.toNat ∧ c.toNat ≤ 57) || decide (c.toNat = 43) || decide (c.toNat = 45) || decide (c.toNat = 46)
theorem letter_lt {c : UInt8} (h : letter c = true) : c.toNat < 128 := by
  unfold letter letterI at h
  simp only [Bool.or_eq_true, decide_eq_true_eq] at h
  omega
theorem inScheme_lt {c : UInt8} (h : inScheme c = true) : c.toNat < 128 := by
  unfold inScheme at h
  simp only [Bool.or_eq_true, decide_eq_true_eq] at h
  rcases h with (((h | h) | h) | h) | h
  · exact letter_lt h
  all_goals omega
theorem odd_in (c : UInt8) (h : c.toNat < 128) : oddI (c.toNat : Int) = true ↔ inScheme c = false := by
  rw [oddI_true]
  unfold inScheme
  simp only [Bool.or_eq_false_iff, decide_eq_false_iff_not]
  show ((c.toNat : Int) < 128 → letter c = false) ∧ _ ↔ _
  constructor
  · rintro ⟨h1, h2, h3, h4, h5⟩
    exact ⟨⟨⟨⟨h1 (by omega), by omega⟩, by omega⟩, by omega⟩, by omega⟩
  · rintro ⟨⟨⟨⟨h1, h2⟩, h3⟩, h4⟩, h5⟩
    exact ⟨fun _ => h1, by omega, by omega, by omega, by omega⟩
theorem odd_big (n : Nat) (h : 128 ≤ n) : oddI (n : Int) = true := by
  rw [oddI_true]
  exact ⟨fun h' => by omega, by omega, by omega, by omega, by omega⟩
theorem idx_odd (s : ByteArray) : ∀ f pos, s.size ≤ pos + f → (0 ≤ Lib.idxFuncFrom (fun r : Nat => oddI r) true s f pos ↔ (s.data.toList.drop pos).all inScheme = false)
  | 0, pos, h => by
    rw [List.drop_of_length_le (by rw [← Lib.size_eq]; omega)]
    simp [Lib.idxFuncFrom]
  | f + 1, pos, h => by
    unfold Lib.idxFuncFrom
    by_cases hp : pos < s.size
    · rw [if_pos hp, drop_one (byte_at s pos hp), List.all_cons]
      by_cases ha : s[pos].toNat < 128
      · rw [decode_ascii s pos hp ha]
        have hoi := odd_in s[pos] ha
        cases hin : inScheme s[pos] with
        | true =>
          have hno : oddI (s[pos].toNat : Int) = false := by
            cases ho : oddI (s[pos].toNat : Int) with
            | true => rw [hoi.1 ho] at hin; cases hin
            | false => rfl
          simp only [hno, Bool.false_eq_true, if_false, Bool.true_and]
          exact idx_odd s f (pos + 1) (by omega)
        | false =>
          simp only [hoi.2 hin, if_true, Bool.false_and, iff_true]
          omega
      · have hb := (decode_high s pos hp (by omega)).1
        have hin : inScheme s[pos] = false := by
          cases hin : inScheme s[pos] with
          | true => exact absurd (inScheme_lt hin) ha
          | false => rfl
        simp only [odd_big _ hb, if_true, hin, Bool.false_and, iff_true]
        omega
    · rw [if_neg hp, List.drop_of_length_le (by rw [← Lib.size_eq]; omega)]
      simp
theorem contains_odd (s : ByteArray) : decide (0 ≤ Lib.idxFunc (fun r : Nat => oddI r) true s) = !s.data.toList.all inScheme := by
  have h := idx_odd s s.size 0 (by omega)
  rw [List.drop_zero] at h
  unfold Lib.idxFunc
  rw [Bool.eq_iff_iff, decide_eq_true_eq, h]
  simp

def okName : List UInt8 → Bool
  | [] => false
  | c :: t => letter c && (c :: t).all inScheme
/-- An address's scheme. -/
def scheme (l : List UInt8) : Option (List UInt8) :=
  if (strip l).contains 58 && okName (bef 58 (strip l)) then some (lower (bef 58 (strip l))) else none

theorem strip_le (l : List UInt8) : (strip l).length ≤ l.length := by
  unfold strip
  refine Nat.le_trans (List.length_filter_le _ _) ?_
  have h1 := tail_le ws (l.dropWhile ws)
  have h2 := (List.dropWhile_sublist ws (l := l)).length_le
  unfold tail at h1
  omega

set_option maxHeartbeats 4000000 in
set_option maxRecDepth 100000 in
theorem scheme_calls (s : ByteArray) (w : World) (hs : s.size ≤ 140737488351232) :
    Calls Try.prog 33 #[.string s] w fun e w' => e = .returned (.tuple #[.string ⟨((scheme s.data.toList).getD []).toArray⟩, .bool (scheme s.data.toList).isSome]) ∧ Below w.heap.size w w' := by
  have hst := strip_calls s w hs
  have hl := strip_le s.data.toList
  rw [← Lib.size_eq] at hl
  unfold scheme
  obtain ⟨T, hT⟩ : ∃ T : ByteArray, (⟨(strip s.data.toList).toArray⟩ : ByteArray) = T := ⟨_, rfl⟩
  have hT' : strip s.data.toList = T.data.toList := by rw [← hT]
  rw [hT'] at hst hl ⊢
  rw [Lib.mk_data] at hst
  rw [← Lib.size_eq] at hl
  clear hT hT'
  have hcut := fun (W : World) => cut_calls 58 T W (by omega)
  obtain ⟨N, hN⟩ : ∃ N : ByteArray, (⟨(bef 58 T.data.toList).toArray⟩ : ByteArray) = N := ⟨_, rfl⟩
  have hN' : bef 58 T.data.toList = N.data.toList := by rw [← hN]
  have hNl := bef_le 58 T.data.toList
  rw [hN', ← Lib.size_eq, ← Lib.size_eq] at hNl
  rw [hN'] at hcut ⊢
  rw [Lib.mk_data] at hcut
  have hlow := fun (W : World) => lower_calls N W (by omega)
  have hcon := fun (W : World) => Try.strings_ContainsFunc 40 #[] (enters_of Try.func40 (by kernel_rfl) rfl) _ N W (odd_at W)
  rw [contains_odd] at hcon
  obtain ⟨R, hR⟩ : ∃ R : ByteArray, (⟨(aft 58 T.data.toList).toArray⟩ : ByteArray) = R := ⟨_, rfl⟩
  rw [hR] at hcut
  clear hR hN hN'
  have hst' := hid hst
  have hcut' := hid hcut
  have hlow' := hid hlow
  have hcon' := hid hcon
  clear hst hcut hlow hcon
  cases hc : T.data.toList.contains 58 with
  | false =>
    rw [hc] at hcut'
    clear hc
    rw [Bool.false_and, if_neg (by simp)]
    go_enter Try.func33, Try.ntmps33
    go_wp2_with (first | (go_at_call 38; refine hst'.out.mono ?_; rintro e w1 ⟨rfl, b1⟩) | (go_at_call 37; refine (hcut'.out _).mono ?_; rintro e w2 ⟨rfl, n2, rfl⟩))
    go_ret2
    exact ⟨rfl, below_drewN' b1 n2⟩
  | true =>
    rw [hc] at hcut'
    clear hc
    rw [Bool.true_and]
    cases hn : N.data.toList with
    | nil =>
      have hN : N = ⟨#[]⟩ := by rw [← Lib.mk_data N, hn]
      subst hN
      rw [show okName [] = false from rfl, if_neg (by simp)]
      clear hn
      go_enter Try.func33, Try.ntmps33
      go_wp2_with (first | (go_at_call 38; refine hst'.out.mono ?_; rintro e w1 ⟨rfl, b1⟩) | (go_at_call 37; refine (hcut'.out _).mono ?_; rintro e w2 ⟨rfl, n2, rfl⟩))
      go_ret2
      exact ⟨rfl, below_drewN' b1 n2⟩
    | cons c t =>
      have hpos : 0 < N.size := by rw [Lib.size_eq, hn]; simp
      have hc0 : N[0] = c := by have := byte_at N 0 hpos; rw [hn] at this; simpa using this.symm
      have hne : ¬ N.toList = [] := by rw [Lib.toList_data, hn]; simp
      have hne' : N.toList.isEmpty = false := by rw [Lib.toList_data, hn]; rfl
      have hlet : ∀ W : World, Calls Try.prog 39 #[.int .u8 ((N[0]'hpos).toNat : Int)] W fun e w' => e = .returned (.bool (letter c)) ∧ w' = W := by rw [hc0]; exact letter_at c
      have hok : okName N.data.toList = (letter c && N.data.toList.all inScheme) := by rw [hn]; rfl
      rw [← hn, hok]
      clear hok hn hc0
      cases hlc : letter c with
      | false =>
        rw [hlc] at hlet
        clear hlc
        have hlet' := hid hlet
        clear hlet
        rw [Bool.false_and, if_neg (by simp)]
        go_enter Try.func33, Try.ntmps33
        go_wp2_with (first | (go_at_call 38; refine hst'.out.mono ?_; rintro e w1 ⟨rfl, b1⟩) | (go_at_call 37; refine (hcut'.out _).mono ?_; rintro e w2 ⟨rfl, n2, rfl⟩) | (go_at_call 39; refine (hlet'.out _).mono ?_; rintro e w3 ⟨rfl, rfl⟩))
        go_ret2
        exact ⟨rfl, below_drewN' b1 n2⟩
      | true =>
        rw [hlc] at hlet
        clear hlc
        have hlet' := hid hlet
        clear hlet
        rw [Bool.true_and]
        cases hal : N.data.toList.all inScheme with
        | false =>
          rw [hal] at hcon'
          clear hal
          rw [if_neg (by simp)]
          go_enter Try.func33, Try.ntmps33
          go_wp2_with (first | (go_at_call 38; refine hst'.out.mono ?_; rintro e w1 ⟨rfl, b1⟩) | (go_at_call 37; refine (hcut'.out _).mono ?_; rintro e w2 ⟨rfl, n2, rfl⟩) | (go_at_call 39; refine (hlet'.out _).mono ?_; rintro e w3 ⟨rfl, rfl⟩) | (go_at_call 41; refine (hcon'.out _).mono ?_; rintro e w4 ⟨rfl, b4⟩))
          go_ret2
          exact ⟨rfl, (below_drewN' b1 n2).trans (b4.mono b1.size)⟩
        | true =>
          rw [hal] at hcon'
          clear hal
          rw [if_pos rfl]
          go_enter Try.func33, Try.ntmps33
          go_wp2_with (first | (go_at_call 38; refine hst'.out.mono ?_; rintro e w1 ⟨rfl, b1⟩) | (go_at_call 37; refine (hcut'.out _).mono ?_; rintro e w2 ⟨rfl, n2, rfl⟩) | (go_at_call 39; refine (hlet'.out _).mono ?_; rintro e w3 ⟨rfl, rfl⟩) | (go_at_call 41; refine (hcon'.out _).mono ?_; rintro e w4 ⟨rfl, b4⟩) | (go_at_call 42; refine (hlow'.out _).mono ?_; rintro e w5 ⟨rfl, b5⟩))
          go_ret2
          exact ⟨rfl, ((below_drewN' b1 n2).trans (b4.mono b1.size)).trans (b5.mono (Nat.le_trans b1.size b4.size))⟩

end Go.Proofs.Ytejdfmghcgkojaa
/- Maps keyed by a struct of two texts: their look-up and their store, whatever the order of their entries. -/
namespace Go.Proofs.Ytejdfmghcgkojaa
set_option linter.unusedVariables false
set_option linter.unusedSimpArgs false
open Go.RowKit Go.Lib Go.ChangeMaps Go.Proofs.YtejdfmghcgkojaaW.PrintWords Go.Proofs.YtejdfmghcgkojaaW.PrintLast

/-- A place: an element's name, an attribute's. -/
def pk (a b : ByteArray) : Value := .agg #[.string a, .string b]
theorem pk_inj {a b c d : ByteArray} (h : pk a b = pk c d) : a = c ∧ b = d := by
  unfold pk at h
  simp at h
  exact h
section
variable (w : World)
theorem part_el (a b : ByteArray) : (part 9 #[.string a, .string b] 0).run Try.prog w = .ok (.string a) w := by
  simp [part, Try.isAgg9]
theorem part_at (a b : ByteArray) : (part 9 #[.string a, .string b] 1).run Try.prog w = .ok (.string b) w := by
  simp [part, Try.isAgg9]
theorem str_eq (d : Nat) (a c : ByteArray) : (Op.equalIn (d + 1) 9 (.string a) (.string c)).run Try.prog w = .ok (a == c) w := by
  simp [Op.equalIn, run_underlying Try.underlying9]
theorem pk_eq (a b c d : ByteArray) : (Op.equal 43 (pk a b) (pk c d)).run Try.prog w = .ok (a == c && b == d) w := by
  unfold Op.equal
  obtain ⟨m, hm⟩ : ∃ m, Op.maxDepth = m + 2 := ⟨_, rfl⟩
  rw [hm]
  exact eqA_of Try.underlying43 (by kernel_rfl) (eqf_cons rfl (part_el w a b) (part_el w c d) (str_eq w m a c) (eqf_last rfl (part_at w a b) (part_at w c d) (str_eq w m b d)))
theorem str_check (em : Bool) (n : Nat) (a : ByteArray) : (Instr.checkKey em (n + 1) 9 (.string a)).run Try.prog w = .ok () w := by
  simp [Instr.checkKey, run_underlying Try.underlying9]
theorem pk_check (em : Bool) (a b : ByteArray) : (Instr.checkKey em 10000 43 (pk a b)).run Try.prog w = .ok () w := by
  show (Instr.checkKey em (9998 + 1 + 1) _ _).run _ _ = _
  generalize 9998 = m
  have h0 := part_el w a b
  have h1 := part_at w a b
  have c0 := str_check w em m a
  have c1 := str_check w em m b
  unfold pk
  simp [Instr.checkKey, run_underlying Try.underlying43, Result.andThen, h0, h1, c0, c1]
open Classical in
/-- The first entry at a place. -/
noncomputable def findp (a b : ByteArray) : List MapEntry → Nat → Option (Nat × Value)
  | [], _ => none
  | e :: es, i => if e.key = pk a b then some (i, e.val) else findp a b es (i + 1)
theorem find_run (a b : ByteArray) : ∀ (es : List MapEntry) (i : Nat), (∀ e ∈ es, ∃ c d, e.key = pk c d) → (Instr.findAsking 43 (pk a b) es i).run Try.prog w = .ok (findp a b es i) w
  | [], i, _ => by simp [Instr.findAsking, findp]
  | e :: es, i, h => by
    obtain ⟨c, d, hk⟩ := h e (by simp)
    have he := pk_eq w a b c d
    have ih := find_run a b es (i + 1) (fun x hx => h x (by simp [hx]))
    unfold findp
    by_cases hc : e.key = pk a b
    · rw [if_pos hc]
      have := pk_inj (hk.symm.trans hc)
      rw [this.1, this.2] at hk he
      rw [show (a == a && b == b) = true by rw [Bool.and_eq_true]; exact ⟨(MapKept.bytes_beq a a).2 rfl, (MapKept.bytes_beq b b).2 rfl⟩] at he
      simp [Instr.findAsking, hk, he, Result.andThen]
    · rw [if_neg hc]
      have hb : (a == c && b == d) = false := by
        cases hb : (a == c && b == d) with
        | false => rfl
        | true =>
          rw [Bool.and_eq_true] at hb
          exact absurd (by rw [hk, ← (MapKept.bytes_beq _ _).1 hb.1, ← (MapKept.bytes_beq _ _).1 hb.2]) hc
      rw [hb] at he
      simp [Instr.findAsking, hk, he, Result.andThen]
      exact ih
theorem findKey_run (a b : ByteArray) (es : List MapEntry) (h : ∀ e ∈ es, ∃ c d, e.key = pk c d) : (Instr.findKey 43 (pk a b) es).run Try.prog w = .ok (findp a b es 0) w := by
  have hr := find_run w a b es 0 h
  cases es with
  | nil => simp [Instr.findKey, run_underlying Try.underlying43, Instr.findNow, findp, Result.andThen]
  | cons e t => simp [Instr.findKey, run_underlying Try.underlying43, Instr.findNow, Instr.sameNow, Result.andThen, hr]
end
/-! ### what a table holds: by what has been put in -/
/-- A row of a table: by which operation it comes, its place, its value. -/
structure Put where
  op : Nat
  el : ByteArray
  att : ByteArray
  val : Value
def Ent (L : List Put) (b : Nat → Bool) (es : Array MapEntry) : Prop :=
  (∀ e ∈ es.toList, ∃ q ∈ L, b q.op = true ∧ e.key = pk q.el q.att ∧ e.val = q.val) ∧ ∀ q ∈ L, b q.op = true → ∃ e ∈ es.toList, e.key = pk q.el q.att
/-- No two rows at one place. -/
def Apart (L : List Put) : Prop := ∀ p ∈ L, ∀ q ∈ L, p.el = q.el → p.att = q.att → p = q
theorem Ent.keys {L : List Put} {b : Nat → Bool} {es : Array MapEntry} (h : Ent L b es) : ∀ e ∈ es.toList, ∃ c d, e.key = pk c d := fun e he => by
  obtain ⟨q, _, _, hk, _⟩ := h.1 e he
  exact ⟨_, _, hk⟩
theorem Ent.start {L : List Put} {b : Nat → Bool} (h : ∀ q ∈ L, b q.op = false) : Ent L b #[] :=
  ⟨fun e he => by simp at he, fun q hq hb => by rw [h q hq] at hb; cases hb⟩
theorem Ent.push {L : List Put} {b : Nat → Bool} {es : Array MapEntry} (h : Ent L b es) {q : Put} (hq : q ∈ L) (ck : Nat) (hu : ∀ p ∈ L, p.op = q.op → p = q) : Ent L (up b q.op) (es.push ⟨pk q.el q.att, q.val, ck⟩) := by
  have hup : ∀ i, b i = true → up b q.op i = true := fun i hi => by unfold up; split <;> simp [hi]
  refine ⟨fun e he => ?_, fun p hp hb => ?_⟩
  · rw [Array.toList_push, List.mem_append, List.mem_singleton] at he
    rcases he with he | he
    · obtain ⟨p, hp, hb, h1, h2⟩ := h.1 e he
      exact ⟨p, hp, hup _ hb, h1, h2⟩
    · subst he
      exact ⟨q, hq, up_self b q.op, rfl, rfl⟩
  · by_cases e : p.op = q.op
    · obtain rfl := hu p hp e
      exact ⟨⟨pk p.el p.att, p.val, ck⟩, by rw [Array.toList_push]; simp, rfl⟩
    · rw [up_ne e] at hb
      obtain ⟨x, hx, hk⟩ := h.2 p hp hb
      exact ⟨x, by rw [Array.toList_push]; simp [hx], hk⟩
theorem findp_none {a b : ByteArray} : ∀ {es : List MapEntry} {i : Nat}, (∀ e ∈ es, e.key ≠ pk a b) → findp a b es i = Option.none
  | [], i, _ => rfl
  | e :: es, i, h => by
    unfold findp
    rw [if_neg (h e (by simp))]
    exact findp_none (fun x hx => h x (by simp [hx]))
theorem findp_some {a b : ByteArray} : ∀ {es : List MapEntry} {i : Nat}, (∃ e ∈ es, e.key = pk a b) → ∃ e ∈ es, e.key = pk a b ∧ ∃ j, findp a b es i = some (j, e.val)
  | [], i, h => by obtain ⟨e, he, _⟩ := h; simp at he
  | e :: es, i, h => by
    unfold findp
    by_cases hk : e.key = pk a b
    · exact ⟨e, by simp, hk, i, by rw [if_pos hk]⟩
    · obtain ⟨x, hx, hxk⟩ := h
      have hx' : x ∈ es := by
        rcases List.mem_cons.1 hx with e1 | e1
        · subst e1; exact absurd hxk hk
        · exact e1
      obtain ⟨y, hy, hyk, j, hj⟩ := findp_some (a := a) (b := b) (es := es) (i := i + 1) ⟨x, hx', hxk⟩
      exact ⟨y, by simp [hy], hyk, j, by rw [if_neg hk]; exact hj⟩
/-- What a table tells of a place. -/
def tell (L : List Put) (z : Value) (a b : ByteArray) : Value := match L.find? fun q => decide (q.el = a ∧ q.att = b) with
  | some q => q.val
  | none => z
theorem Ent.tells {L : List Put} {b : Nat → Bool} {es : Array MapEntry} (h : Ent L b es) (hA : Apart L) (hall : ∀ q ∈ L, b q.op = true) (x y : ByteArray) (z : Value) :
    (match findp x y es.toList 0 with | some (_, v) => v | none => z) = tell L z x y := by
  unfold tell
  cases hf : L.find? fun q => decide (q.el = x ∧ q.att = y) with
  | some q =>
    have hq := List.mem_of_find?_eq_some hf
    have hp := List.find?_some hf
    rw [decide_eq_true_eq] at hp
    obtain ⟨e, he, hk⟩ := h.2 q hq (hall q hq)
    rw [hp.1, hp.2] at hk
    obtain ⟨e', he', hk', j, hj⟩ := findp_some (i := 0) ⟨e, he, hk⟩
    rw [hj]
    obtain ⟨p, hp2, _, hpk, hpv⟩ := h.1 e' he'
    have := pk_inj (hpk.symm.trans hk')
    have : p = q := hA p hp2 q hq (by rw [this.1, hp.1]) (by rw [this.2, hp.2])
    subst this
    exact hpv
  | none =>
    rw [findp_none (fun e he hk => ?_)]
    obtain ⟨p, hp2, _, hpk, _⟩ := h.1 e he
    have hh := pk_inj (hpk.symm.trans hk)
    have := List.find?_eq_none.1 hf p hp2
    exact this (by rw [decide_eq_true_eq]; exact hh)
section
variable {w : World} {g ck : Nat} {es : Array MapEntry} {L : List Put} {b : Nat → Bool} {t e : TypeId}
theorem store_run (ht : Try.prog.underlying t = some (.map 43 e)) (hb : w.heap[g]? = some (.map es ck)) (h : Ent L b es) (hA : Apart L) {q : Put} (hq : q ∈ L) (hn : b q.op = false) :
    (Instr.mapUpdate t (.map (some g)) (pk q.el q.att) q.val).run Try.prog w = .ok () (setBlock w g (.map (es.push ⟨pk q.el q.att, q.val, ck⟩) (ck + 1))) := by
  have hf := findKey_run w q.el q.att es.toList h.keys
  rw [findp_none (fun x hx hk => by
    obtain ⟨p, hp, hpb, hpk, _⟩ := h.1 x hx
    have := pk_inj (hpk.symm.trans hk)
    have := hA p hp q hq this.1 this.2
    subst this
    rw [hn] at hpb; cases hpb)] at hf
  simp [Instr.mapUpdate, run_underlying ht, MapKept.run_getObj_map hb, pk_check w false q.el q.att, hf, MapKept.run_setObj_map _ hb, Result.andThen, setBlock]
theorem look_run (ht : Try.prog.underlying t = some (.map 43 e)) {z : Value} (hz : ∀ w, (zeroValue e).run Try.prog w = .ok z w) (hb : w.heap[g]? = some (.map es ck)) (h : Ent L b es) (hA : Apart L) (hall : ∀ q ∈ L, b q.op = true) (x y : ByteArray) :
    (Instr.lookup t (.map (some g)) (pk x y) false).run Try.prog w = .ok (tell L z x y) w := by
  have hf := findKey_run w x y es.toList h.keys
  have ht2 := h.tells hA hall x y z
  rw [← ht2]
  cases hfp : findp x y es.toList 0 with
  | none =>
    rw [hfp] at hf
    simp [Instr.lookup, run_underlying ht, MapKept.run_getObj_map hb, pk_check w es.isEmpty x y, hf, Result.andThen, hz]
  | some r =>
    rw [hfp] at hf
    simp [Instr.lookup, run_underlying ht, MapKept.run_getObj_map hb, pk_check w es.isEmpty x y, hf, Result.andThen]
end
end Go.Proofs.Ytejdfmghcgkojaa
/- risk.leads, risk.sinks: what the tables hold, whatever the order in which they are laid; risk.Nav's contract. -/
namespace Go.Proofs.Ytejdfmghcgkojaa
set_option linter.unusedVariables false
set_option linter.unusedSimpArgs false
open Go.RowKit Go.Lib Go.ChangeMaps Go.Proofs.YtejdfmghcgkojaaW.PrintWords Go.Proofs.YtejdfmghcgkojaaW.PrintLast

theorem op_inj : ∀ {L : List Put}, (L.map (·.op)).Nodup → ∀ p ∈ L, ∀ q ∈ L, p.op = q.op → p = q
  | [], _, p, hp, _, _, _ => by simp at hp
  | x :: L, h, p, hp, q, hq, e => by
    rw [List.map_cons, List.nodup_cons] at h
    rcases List.mem_cons.1 hp with h1 | h1 <;> rcases List.mem_cons.1 hq with h2 | h2
    · rw [h1, h2]
    · exact absurd (List.mem_map.2 ⟨q, h2, by rw [← e, h1]⟩) h.1
    · exact absurd (List.mem_map.2 ⟨p, h1, by rw [e, h2]⟩) h.1
    · exact op_inj h.2 p h1 q h2 e
theorem apart_of {L : List Put} (h : (L.map (·.op)).Nodup) (h2 : ∀ p ∈ L, ∀ q ∈ L, p.el = q.el → p.att = q.att → p.op = q.op) : Apart L := fun p hp q hq h3 h4 => op_inj h p hp q hq (h2 p hp q hq h3 h4)
theorem exec_insert {oi : Oper} {a : Act} {P : Program} {w w1 : World} {t : TypeId} {m k : Tmp} {val M K : Value} (hop : oi.op = Op.insert t (.tmp m) (.tmp k) (.const val)) (e1 : a.tmps[m]? = some M) (e2 : a.tmps[k]? = some K)
    (h : (Instr.mapUpdate t M K val).run P w = .ok () w1) : (execOp a.eval oi).run P w = .ok .skip w1 := by
  simp [execOp, hop, Act.eval, e1, e2, h, Result.andThen]
theorem exec_move {oi : Oper} {a : Act} {P : Program} {w : World} {m : Tmp} {M : Value} (hop : oi.op = Op.move (.tmp m)) (e1 : a.tmps[m]? = some M) : (execOp a.eval oi).run P w = .ok (.value M) w := by
  simp [execOp, hop, Act.eval, e1, Result.andThen]
theorem exec_assign {oi : Oper} {a : Act} {P : Program} {w : World} {m : Tmp} {M : Value} (hop : oi.op = Op.assign (.tmp m)) (e1 : a.tmps[m]? = some M) : (execOp a.eval oi).run P w = .ok (.value M) w := by
  simp [execOp, hop, Act.eval, e1, Result.andThen]
theorem below_block {w w' : World} {g : Nat} {o o' : Obj} (h : Below w.heap.size w w') (hg : w.heap.size ≤ g) : Below w.heap.size w (setBlock w' g o) :=
  h.trans ⟨rfl, rfl, rfl, by simp [setBlock], fun i hi => by
    show (w'.heap.setIfInBounds g o)[i]? = _
    rw [Array.getElem?_setIfInBounds, if_neg (by omega)]⟩

def leads_T : Bool × List (List Nat × List Nat) := (true, [([], []), ([], []), ([0, 1], [0, 1]), ([], []), ([0, 3], [0, 3]), ([], []), ([0, 5], [0, 5]), ([], []), ([0, 7], [0, 7]), ([], []), ([0, 9], [0, 9]), ([], []), ([0, 11], [0, 11]), ([], []), ([0, 13], [0, 13]), ([], []), ([0, 15], [0, 15]), ([], []), ([0, 17], [0, 17]), ([0, 1, 2, 3, 4, 5, 6, 7, 8, 9, 10, 11, 12, 13, 14, 15, 16, 17, 18], [0]), ([19, 0, 1, 2, 3, 4, 5, 6, 7, 8, 9, 10, 11, 12, 13, 14, 15, 16, 17, 18, 19], [19])])
def leads_B : List Nat := [0, 0, 3, 0, 9, 0, 33, 0, 129, 0, 513, 0, 2049, 0, 8193, 0, 32769, 0, 131073, 524287, 1048575]
theorem leads_tab : rtab .any (opsOf Try.f24 1) = leads_T := by kernel_rfl
theorem leads_bits : waitsOk leads_T.2 leads_B = true := by kernel_rfl
def leadsL : List Put := [⟨2, ⟨#[97]⟩, ⟨#[104, 114, 101, 102]⟩, .bool true⟩, ⟨4, ⟨#[97, 114, 101, 97]⟩, ⟨#[104, 114, 101, 102]⟩, .bool true⟩, ⟨6, ⟨#[98, 117, 116, 116, 111, 110]⟩, ⟨#[102, 111, 114, 109, 97, 99, 116, 105, 111, 110]⟩, .bool true⟩, ⟨8, ⟨#[101, 109, 98, 101, 100]⟩, ⟨#[115, 114, 99]⟩, .bool true⟩, ⟨10, ⟨#[102, 111, 114, 109]⟩, ⟨#[97, 99, 116, 105, 111, 110]⟩, .bool true⟩, ⟨12, ⟨#[102, 114, 97, 109, 101]⟩, ⟨#[115, 114, 99]⟩, .bool true⟩, ⟨14, ⟨#[105, 102, 114, 97, 109, 101]⟩, ⟨#[115, 114, 99]⟩, .bool true⟩, ⟨16, ⟨#[105, 110, 112, 117, 116]⟩, ⟨#[102, 111, 114, 109, 97, 99, 116, 105, 111, 110]⟩, .bool true⟩, ⟨18, ⟨#[111, 98, 106, 101, 99, 116]⟩, ⟨#[100, 97, 116, 97]⟩, .bool true⟩]
theorem leads_apart : Apart leadsL := apart_of (by decide) (by unfold leadsL; decide +kernel)
theorem leads_ops : ∀ p ∈ leadsL, ∀ q ∈ leadsL, p.op = q.op → p = q := op_inj (by decide)
set_option maxHeartbeats 4000000 in
set_option maxRecDepth 100000 in
theorem leads_calls (w : World) : Calls Try.prog 24 #[] w fun e w' => ∃ (g : Nat) (es : Array MapEntry) (ck : Nat) (b : Nat → Bool), e = .returned (.map (some g)) ∧ w.heap.size ≤ g ∧ w'.heap[g]? = some (.map es ck) ∧ Ent leadsL b es ∧ (∀ q ∈ leadsL, b q.op = true) ∧ Below w.heap.size w w' := by
  have mixed : Try.prog.follows Departure.mixedOrders = true := by kernel_rfl
  go_enter Try.func24, Try.ntmps24
  go_upto_region 1 with fail
  refine start_ (n := 21) (S := fun w' => True) (ds := []) #[false, false, false, false, false, false, false, false, false, false, false, false, false, false, false, false, false, false, false, false, false] mixed rfl rfl trivial (fun hHeld => ?_)
  refine with_tabW leads_tab leads_bits (fun HT_ HW_ => ?_)
  refine pure_ (i := 1) (N := some 2) (v := pk ⟨#[97]⟩ ⟨#[104, 114, 101, 102]⟩) #[false, true, false, false, false, false, false, false, false, false, false, false, false, false, false, false, false, false, false, false, false] rfl rfl (any_of HT_.out (by kernel_rfl)) (fun _ _ _ h => h) (Or.inl ⟨by rfl, fun w' => ?_⟩) rfl ?_
  · go_simp
    rfl
  simp only [Act.put, List.setIfInBounds_toArray, List.set_cons_zero, List.set_cons_succ]
  refine pure_ (i := 3) (N := some 3) (v := pk ⟨#[97, 114, 101, 97]⟩ ⟨#[104, 114, 101, 102]⟩) #[false, true, false, true, false, false, false, false, false, false, false, false, false, false, false, false, false, false, false, false, false] rfl rfl (any_of HT_.out (by kernel_rfl)) (fun _ _ _ h => h) (Or.inl ⟨by rfl, fun w' => ?_⟩) rfl ?_
  · go_simp
    rfl
  simp only [Act.put, List.setIfInBounds_toArray, List.set_cons_zero, List.set_cons_succ]
  refine pure_ (i := 5) (N := some 4) (v := pk ⟨#[98, 117, 116, 116, 111, 110]⟩ ⟨#[102, 111, 114, 109, 97, 99, 116, 105, 111, 110]⟩) #[false, true, false, true, false, true, false, false, false, false, false, false, false, false, false, false, false, false, false, false, false] rfl rfl (any_of HT_.out (by kernel_rfl)) (fun _ _ _ h => h) (Or.inl ⟨by rfl, fun w' => ?_⟩) rfl ?_
  · go_simp
    rfl
  simp only [Act.put, List.setIfInBounds_toArray, List.set_cons_zero, List.set_cons_succ]
  refine pure_ (i := 7) (N := some 5) (v := pk ⟨#[101, 109, 98, 101, 100]⟩ ⟨#[115, 114, 99]⟩) #[false, true, false, true, false, true, false, true, false, false, false, false, false, false, false, false, false, false, false, false, false] rfl rfl (any_of HT_.out (by kernel_rfl)) (fun _ _ _ h => h) (Or.inl ⟨by rfl, fun w' => ?_⟩) rfl ?_
  · go_simp
    rfl
  simp only [Act.put, List.setIfInBounds_toArray, List.set_cons_zero, List.set_cons_succ]
  refine pure_ (i := 9) (N := some 6) (v := pk ⟨#[102, 111, 114, 109]⟩ ⟨#[97, 99, 116, 105, 111, 110]⟩) #[false, true, false, true, false, true, false, true, false, true, false, false, false, false, false, false, false, false, false, false, false] rfl rfl (any_of HT_.out (by kernel_rfl)) (fun _ _ _ h => h) (Or.inl ⟨by rfl, fun w' => ?_⟩) rfl ?_
  · go_simp
    rfl
  simp only [Act.put, List.setIfInBounds_toArray, List.set_cons_zero, List.set_cons_succ]
  refine pure_ (i := 11) (N := some 7) (v := pk ⟨#[102, 114, 97, 109, 101]⟩ ⟨#[115, 114, 99]⟩) #[false, true, false, true, false, true, false, true, false, true, false, true, false, false, false, false, false, false, false, false, false] rfl rfl (any_of HT_.out (by kernel_rfl)) (fun _ _ _ h => h) (Or.inl ⟨by rfl, fun w' => ?_⟩) rfl ?_
  · go_simp
    rfl
  simp only [Act.put, List.setIfInBounds_toArray, List.set_cons_zero, List.set_cons_succ]
  refine pure_ (i := 13) (N := some 8) (v := pk ⟨#[105, 102, 114, 97, 109, 101]⟩ ⟨#[115, 114, 99]⟩) #[false, true, false, true, false, true, false, true, false, true, false, true, false, true, false, false, false, false, false, false, false] rfl rfl (any_of HT_.out (by kernel_rfl)) (fun _ _ _ h => h) (Or.inl ⟨by rfl, fun w' => ?_⟩) rfl ?_
  · go_simp
    rfl
  simp only [Act.put, List.setIfInBounds_toArray, List.set_cons_zero, List.set_cons_succ]
  refine pure_ (i := 15) (N := some 9) (v := pk ⟨#[105, 110, 112, 117, 116]⟩ ⟨#[102, 111, 114, 109, 97, 99, 116, 105, 111, 110]⟩) #[false, true, false, true, false, true, false, true, false, true, false, true, false, true, false, true, false, false, false, false, false] rfl rfl (any_of HT_.out (by kernel_rfl)) (fun _ _ _ h => h) (Or.inl ⟨by rfl, fun w' => ?_⟩) rfl ?_
  · go_simp
    rfl
  simp only [Act.put, List.setIfInBounds_toArray, List.set_cons_zero, List.set_cons_succ]
  refine pure_ (i := 17) (N := some 10) (v := pk ⟨#[111, 98, 106, 101, 99, 116]⟩ ⟨#[100, 97, 116, 97]⟩) #[false, true, false, true, false, true, false, true, false, true, false, true, false, true, false, true, false, true, false, false, false] rfl rfl (any_of HT_.out (by kernel_rfl)) (fun _ _ _ h => h) (Or.inl ⟨by rfl, fun w' => ?_⟩) rfl ?_
  · go_simp
    rfl
  simp only [Act.put, List.setIfInBounds_toArray, List.set_cons_zero, List.set_cons_succ]
  refine inv_at [0, 2, 4, 6, 8, 10, 12, 14, 16, 18, 19, 20] (fun a0_ b a w' => ∃ (g : Nat) (es : Array MapEntry) (ck : Nat) (m1 m2 : Value), a = putSel a0_ b [(0, 1, .map (some g)), (19, 11, m1), (20, 0, m2)] ∧ Below w.heap.size w w' ∧ (b 0 = true → w.heap.size ≤ g ∧ w'.heap[g]? = some (.map es ck) ∧ Ent leadsL b es) ∧ (b 19 = true → b 0 = true ∧ m1 = .map (some g)) ∧ (b 20 = true → b 0 = true ∧ m2 = .map (some g))) HT_.out HW_.out (by kernel_rfl) (by kernel_rfl) ?_ ?_ ?_
  · exact ⟨0, #[], 0, .bool false, .bool false, by simp only [putSel, Bool.false_eq_true, if_false], below_drew (Below.refl _ _), fun h_ => absurd h_ (by decide), fun h_ => absurd h_ (by decide), fun h_ => absurd h_ (by decide)⟩
  · refine steps_cons ?_ ?_
    · rintro b a w' ⟨g, es, ck, m1, m2, ha, hb, h0, h1, h2⟩ hb_ hon hoff
      refine ⟨_, rfl, fun K hK => ?_⟩
      refine value_ (w1 := w'.alloc (.map #[] 0)) (v := .map (some w'.heap.size)) (by rfl) rfl ?_ ?_
      · go_simp
        rfl
      · refine hK.out _ _ ⟨w'.heap.size, #[], 0, m1, m2, by rw [ha]; exact putSel_upk 0 hb_ rfl rfl rfl, hb.alloc hb.size _, fun _ => ⟨hb.size, (MapKept.heap_alloc w' _).1, Ent.start (fun q hq => ?_)⟩, fun h_ => ?_, fun h_ => ?_⟩
        · simp only [leadsL, List.mem_cons, List.not_mem_nil, or_false] at hq
          rcases hq with rfl | rfl | rfl | rfl | rfl | rfl | rfl | rfl | rfl
          all_goals exact (up_ne (by decide)).trans (hoff _ (by kernel_rfl))
        · rw [up_ne (by decide)] at h_; rw [(h1 h_).1] at hb_; cases hb_
        · rw [up_ne (by decide)] at h_; rw [(h2 h_).1] at hb_; cases hb_
    refine steps_cons ?_ ?_
    · rintro b a w' ⟨g, es, ck, m1, m2, ha, hb, h0, h1, h2⟩ hb_ hon hoff
      refine ⟨_, rfl, fun K hK => ?_⟩
      have hb0 := hon 0 (by kernel_rfl)
      have e1 : a.tmps[1]? = some (.map (some g)) := by rw [ha]; exact putSel_on (e := (0, 1, .map (some g))) 0 rfl rfl hb0 rfl
      have e2 : a.tmps[2]? = some (pk ⟨#[97]⟩ ⟨#[104, 114, 101, 102]⟩) := by rw [ha]; exact (putSel_off rfl).trans rfl
      obtain ⟨k1, k2, k3⟩ := h0 hb0
      have hq : (⟨2, ⟨#[97]⟩, ⟨#[104, 114, 101, 102]⟩, .bool true⟩ : Put) ∈ leadsL := by unfold leadsL; repeat (first | exact List.mem_cons_self | apply List.mem_cons_of_mem)
      refine skip_ (by rfl) rfl (exec_insert rfl e1 e2 (store_run Try.underlying40 k2 k3 leads_apart hq hb_)) ?_
      refine hK.out _ _ ⟨g, _, _, m1, m2, ha.trans (putSel_same rfl).symm, below_block hb k1 (o' := .map #[] 0), fun _ => ⟨k1, heap_setBlock_same k2 _, k3.push hq ck (fun p hp he => leads_ops p hp _ hq he)⟩, fun h_ => ?_, fun h_ => ?_⟩
      · rw [up_ne (by decide)] at h_; exact ⟨(up_ne (by decide)).trans hb0, (h1 h_).2⟩
      · rw [up_ne (by decide)] at h_; exact ⟨(up_ne (by decide)).trans hb0, (h2 h_).2⟩
    refine steps_cons ?_ ?_
    · rintro b a w' ⟨g, es, ck, m1, m2, ha, hb, h0, h1, h2⟩ hb_ hon hoff
      refine ⟨_, rfl, fun K hK => ?_⟩
      have hb0 := hon 0 (by kernel_rfl)
      have e1 : a.tmps[1]? = some (.map (some g)) := by rw [ha]; exact putSel_on (e := (0, 1, .map (some g))) 0 rfl rfl hb0 rfl
      have e2 : a.tmps[3]? = some (pk ⟨#[97, 114, 101, 97]⟩ ⟨#[104, 114, 101, 102]⟩) := by rw [ha]; exact (putSel_off rfl).trans rfl
      obtain ⟨k1, k2, k3⟩ := h0 hb0
      have hq : (⟨4, ⟨#[97, 114, 101, 97]⟩, ⟨#[104, 114, 101, 102]⟩, .bool true⟩ : Put) ∈ leadsL := by unfold leadsL; repeat (first | exact List.mem_cons_self | apply List.mem_cons_of_mem)
      refine skip_ (by rfl) rfl (exec_insert rfl e1 e2 (store_run Try.underlying40 k2 k3 leads_apart hq hb_)) ?_
      refine hK.out _ _ ⟨g, _, _, m1, m2, ha.trans (putSel_same rfl).symm, below_block hb k1 (o' := .map #[] 0), fun _ => ⟨k1, heap_setBlock_same k2 _, k3.push hq ck (fun p hp he => leads_ops p hp _ hq he)⟩, fun h_ => ?_, fun h_ => ?_⟩
      · rw [up_ne (by decide)] at h_; exact ⟨(up_ne (by decide)).trans hb0, (h1 h_).2⟩
      · rw [up_ne (by decide)] at h_; exact ⟨(up_ne (by decide)).trans hb0, (h2 h_).2⟩
    refine steps_cons ?_ ?_
    · rintro b a w' ⟨g, es, ck, m1, m2, ha, hb, h0, h1, h2⟩ hb_ hon hoff
      refine ⟨_, rfl, fun K hK => ?_⟩
      have hb0 := hon 0 (by kernel_rfl)
      have e1 : a.tmps[1]? = some (.map (some g)) := by rw [ha]; exact putSel_on (e := (0, 1, .map (some g))) 0 rfl rfl hb0 rfl
      have e2 : a.tmps[4]? = some (pk ⟨#[98, 117, 116, 116, 111, 110]⟩ ⟨#[102, 111, 114, 109, 97, 99, 116, 105, 111, 110]⟩) := by rw [ha]; exact (putSel_off rfl).trans rfl
      obtain ⟨k1, k2, k3⟩ := h0 hb0
      have hq : (⟨6, ⟨#[98, 117, 116, 116, 111, 110]⟩, ⟨#[102, 111, 114, 109, 97, 99, 116, 105, 111, 110]⟩, .bool true⟩ : Put) ∈ leadsL := by unfold leadsL; repeat (first | exact List.mem_cons_self | apply List.mem_cons_of_mem)
      refine skip_ (by rfl) rfl (exec_insert rfl e1 e2 (store_run Try.underlying40 k2 k3 leads_apart hq hb_)) ?_
      refine hK.out _ _ ⟨g, _, _, m1, m2, ha.trans (putSel_same rfl).symm, below_block hb k1 (o' := .map #[] 0), fun _ => ⟨k1, heap_setBlock_same k2 _, k3.push hq ck (fun p hp he => leads_ops p hp _ hq he)⟩, fun h_ => ?_, fun h_ => ?_⟩
      · rw [up_ne (by decide)] at h_; exact ⟨(up_ne (by decide)).trans hb0, (h1 h_).2⟩
      · rw [up_ne (by decide)] at h_; exact ⟨(up_ne (by decide)).trans hb0, (h2 h_).2⟩
    refine steps_cons ?_ ?_
    · rintro b a w' ⟨g, es, ck, m1, m2, ha, hb, h0, h1, h2⟩ hb_ hon hoff
      refine ⟨_, rfl, fun K hK => ?_⟩
      have hb0 := hon 0 (by kernel_rfl)
      have e1 : a.tmps[1]? = some (.map (some g)) := by rw [ha]; exact putSel_on (e := (0, 1, .map (some g))) 0 rfl rfl hb0 rfl
      have e2 : a.tmps[5]? = some (pk ⟨#[101, 109, 98, 101, 100]⟩ ⟨#[115, 114, 99]⟩) := by rw [ha]; exact (putSel_off rfl).trans rfl
      obtain ⟨k1, k2, k3⟩ := h0 hb0
      have hq : (⟨8, ⟨#[101, 109, 98, 101, 100]⟩, ⟨#[115, 114, 99]⟩, .bool true⟩ : Put) ∈ leadsL := by unfold leadsL; repeat (first | exact List.mem_cons_self | apply List.mem_cons_of_mem)
      refine skip_ (by rfl) rfl (exec_insert rfl e1 e2 (store_run Try.underlying40 k2 k3 leads_apart hq hb_)) ?_
      refine hK.out _ _ ⟨g, _, _, m1, m2, ha.trans (putSel_same rfl).symm, below_block hb k1 (o' := .map #[] 0), fun _ => ⟨k1, heap_setBlock_same k2 _, k3.push hq ck (fun p hp he => leads_ops p hp _ hq he)⟩, fun h_ => ?_, fun h_ => ?_⟩
      · rw [up_ne (by decide)] at h_; exact ⟨(up_ne (by decide)).trans hb0, (h1 h_).2⟩
      · rw [up_ne (by decide)] at h_; exact ⟨(up_ne (by decide)).trans hb0, (h2 h_).2⟩
    refine steps_cons ?_ ?_
    · rintro b a w' ⟨g, es, ck, m1, m2, ha, hb, h0, h1, h2⟩ hb_ hon hoff
      refine ⟨_, rfl, fun K hK => ?_⟩
      have hb0 := hon 0 (by kernel_rfl)
      have e1 : a.tmps[1]? = some (.map (some g)) := by rw [ha]; exact putSel_on (e := (0, 1, .map (some g))) 0 rfl rfl hb0 rfl
      have e2 : a.tmps[6]? = some (pk ⟨#[102, 111, 114, 109]⟩ ⟨#[97, 99, 116, 105, 111, 110]⟩) := by rw [ha]; exact (putSel_off rfl).trans rfl
      obtain ⟨k1, k2, k3⟩ := h0 hb0
      have hq : (⟨10, ⟨#[102, 111, 114, 109]⟩, ⟨#[97, 99, 116, 105, 111, 110]⟩, .bool true⟩ : Put) ∈ leadsL := by unfold leadsL; repeat (first | exact List.mem_cons_self | apply List.mem_cons_of_mem)
      refine skip_ (by rfl) rfl (exec_insert rfl e1 e2 (store_run Try.underlying40 k2 k3 leads_apart hq hb_)) ?_
      refine hK.out _ _ ⟨g, _, _, m1, m2, ha.trans (putSel_same rfl).symm, below_block hb k1 (o' := .map #[] 0), fun _ => ⟨k1, heap_setBlock_same k2 _, k3.push hq ck (fun p hp he => leads_ops p hp _ hq he)⟩, fun h_ => ?_, fun h_ => ?_⟩
      · rw [up_ne (by decide)] at h_; exact ⟨(up_ne (by decide)).trans hb0, (h1 h_).2⟩
      · rw [up_ne (by decide)] at h_; exact ⟨(up_ne (by decide)).trans hb0, (h2 h_).2⟩
    refine steps_cons ?_ ?_
    · rintro b a w' ⟨g, es, ck, m1, m2, ha, hb, h0, h1, h2⟩ hb_ hon hoff
      refine ⟨_, rfl, fun K hK => ?_⟩
      have hb0 := hon 0 (by kernel_rfl)
      have e1 : a.tmps[1]? = some (.map (some g)) := by rw [ha]; exact putSel_on (e := (0, 1, .map (some g))) 0 rfl rfl hb0 rfl
      have e2 : a.tmps[7]? = some (pk ⟨#[102, 114, 97, 109, 101]⟩ ⟨#[115, 114, 99]⟩) := by rw [ha]; exact (putSel_off rfl).trans rfl
      obtain ⟨k1, k2, k3⟩ := h0 hb0
      have hq : (⟨12, ⟨#[102, 114, 97, 109, 101]⟩, ⟨#[115, 114, 99]⟩, .bool true⟩ : Put) ∈ leadsL := by unfold leadsL; repeat (first | exact List.mem_cons_self | apply List.mem_cons_of_mem)
      refine skip_ (by rfl) rfl (exec_insert rfl e1 e2 (store_run Try.underlying40 k2 k3 leads_apart hq hb_)) ?_
      refine hK.out _ _ ⟨g, _, _, m1, m2, ha.trans (putSel_same rfl).symm, below_block hb k1 (o' := .map #[] 0), fun _ => ⟨k1, heap_setBlock_same k2 _, k3.push hq ck (fun p hp he => leads_ops p hp _ hq he)⟩, fun h_ => ?_, fun h_ => ?_⟩
      · rw [up_ne (by decide)] at h_; exact ⟨(up_ne (by decide)).trans hb0, (h1 h_).2⟩
      · rw [up_ne (by decide)] at h_; exact ⟨(up_ne (by decide)).trans hb0, (h2 h_).2⟩
    refine steps_cons ?_ ?_
    · rintro b a w' ⟨g, es, ck, m1, m2, ha, hb, h0, h1, h2⟩ hb_ hon hoff
      refine ⟨_, rfl, fun K hK => ?_⟩
      have hb0 := hon 0 (by kernel_rfl)
      have e1 : a.tmps[1]? = some (.map (some g)) := by rw [ha]; exact putSel_on (e := (0, 1, .map (some g))) 0 rfl rfl hb0 rfl
      have e2 : a.tmps[8]? = some (pk ⟨#[105, 102, 114, 97, 109, 101]⟩ ⟨#[115, 114, 99]⟩) := by rw [ha]; exact (putSel_off rfl).trans rfl
      obtain ⟨k1, k2, k3⟩ := h0 hb0
      have hq : (⟨14, ⟨#[105, 102, 114, 97, 109, 101]⟩, ⟨#[115, 114, 99]⟩, .bool true⟩ : Put) ∈ leadsL := by unfold leadsL; repeat (first | exact List.mem_cons_self | apply List.mem_cons_of_mem)
      refine skip_ (by rfl) rfl (exec_insert rfl e1 e2 (store_run Try.underlying40 k2 k3 leads_apart hq hb_)) ?_
      refine hK.out _ _ ⟨g, _, _, m1, m2, ha.trans (putSel_same rfl).symm, below_block hb k1 (o' := .map #[] 0), fun _ => ⟨k1, heap_setBlock_same k2 _, k3.push hq ck (fun p hp he => leads_ops p hp _ hq he)⟩, fun h_ => ?_, fun h_ => ?_⟩
      · rw [up_ne (by decide)] at h_; exact ⟨(up_ne (by decide)).trans hb0, (h1 h_).2⟩
      · rw [up_ne (by decide)] at h_; exact ⟨(up_ne (by decide)).trans hb0, (h2 h_).2⟩
    refine steps_cons ?_ ?_
    · rintro b a w' ⟨g, es, ck, m1, m2, ha, hb, h0, h1, h2⟩ hb_ hon hoff
      refine ⟨_, rfl, fun K hK => ?_⟩
      have hb0 := hon 0 (by kernel_rfl)
      have e1 : a.tmps[1]? = some (.map (some g)) := by rw [ha]; exact putSel_on (e := (0, 1, .map (some g))) 0 rfl rfl hb0 rfl
      have e2 : a.tmps[9]? = some (pk ⟨#[105, 110, 112, 117, 116]⟩ ⟨#[102, 111, 114, 109, 97, 99, 116, 105, 111, 110]⟩) := by rw [ha]; exact (putSel_off rfl).trans rfl
      obtain ⟨k1, k2, k3⟩ := h0 hb0
      have hq : (⟨16, ⟨#[105, 110, 112, 117, 116]⟩, ⟨#[102, 111, 114, 109, 97, 99, 116, 105, 111, 110]⟩, .bool true⟩ : Put) ∈ leadsL := by unfold leadsL; repeat (first | exact List.mem_cons_self | apply List.mem_cons_of_mem)
      refine skip_ (by rfl) rfl (exec_insert rfl e1 e2 (store_run Try.underlying40 k2 k3 leads_apart hq hb_)) ?_
      refine hK.out _ _ ⟨g, _, _, m1, m2, ha.trans (putSel_same rfl).symm, below_block hb k1 (o' := .map #[] 0), fun _ => ⟨k1, heap_setBlock_same k2 _, k3.push hq ck (fun p hp he => leads_ops p hp _ hq he)⟩, fun h_ => ?_, fun h_ => ?_⟩
      · rw [up_ne (by decide)] at h_; exact ⟨(up_ne (by decide)).trans hb0, (h1 h_).2⟩
      · rw [up_ne (by decide)] at h_; exact ⟨(up_ne (by decide)).trans hb0, (h2 h_).2⟩
    refine steps_cons ?_ ?_
    · rintro b a w' ⟨g, es, ck, m1, m2, ha, hb, h0, h1, h2⟩ hb_ hon hoff
      refine ⟨_, rfl, fun K hK => ?_⟩
      have hb0 := hon 0 (by kernel_rfl)
      have e1 : a.tmps[1]? = some (.map (some g)) := by rw [ha]; exact putSel_on (e := (0, 1, .map (some g))) 0 rfl rfl hb0 rfl
      have e2 : a.tmps[10]? = some (pk ⟨#[111, 98, 106, 101, 99, 116]⟩ ⟨#[100, 97, 116, 97]⟩) := by rw [ha]; exact (putSel_off rfl).trans rfl
      obtain ⟨k1, k2, k3⟩ := h0 hb0
      have hq : (⟨18, ⟨#[111, 98, 106, 101, 99, 116]⟩, ⟨#[100, 97, 116, 97]⟩, .bool true⟩ : Put) ∈ leadsL := by unfold leadsL; repeat (first | exact List.mem_cons_self | apply List.mem_cons_of_mem)
      refine skip_ (by rfl) rfl (exec_insert rfl e1 e2 (store_run Try.underlying40 k2 k3 leads_apart hq hb_)) ?_
      refine hK.out _ _ ⟨g, _, _, m1, m2, ha.trans (putSel_same rfl).symm, below_block hb k1 (o' := .map #[] 0), fun _ => ⟨k1, heap_setBlock_same k2 _, k3.push hq ck (fun p hp he => leads_ops p hp _ hq he)⟩, fun h_ => ?_, fun h_ => ?_⟩
      · rw [up_ne (by decide)] at h_; exact ⟨(up_ne (by decide)).trans hb0, (h1 h_).2⟩
      · rw [up_ne (by decide)] at h_; exact ⟨(up_ne (by decide)).trans hb0, (h2 h_).2⟩
    refine steps_cons ?_ ?_
    · rintro b a w' ⟨g, es, ck, m1, m2, ha, hb, h0, h1, h2⟩ hb_ hon hoff
      refine ⟨_, rfl, fun K hK => ?_⟩
      have hb0 := hon 0 (by kernel_rfl)
      have e1 : a.tmps[1]? = some (.map (some g)) := by rw [ha]; exact putSel_on (e := (0, 1, .map (some g))) 0 rfl rfl hb0 rfl
      refine value_ (w1 := w') (v := .map (some g)) (by rfl) rfl (exec_move rfl e1) ?_
      obtain ⟨k1, k2, k3⟩ := h0 hb0
      refine hK.out _ _ ⟨g, es, ck, .map (some g), m2, by rw [ha]; exact putSel_upk 1 hb_ rfl rfl rfl, hb, fun _ => ⟨k1, k2, ⟨fun e he => by obtain ⟨q, hq, hqb, hh⟩ := k3.1 e he; exact ⟨q, hq, (by unfold up; split <;> simp [hqb]), hh⟩, fun q hq hqb => k3.2 q hq (by rw [up_ne (by revert hq; unfold leadsL; intro hq h_; simp only [List.mem_cons, List.not_mem_nil, or_false] at hq; rcases hq with rfl | rfl | rfl | rfl | rfl | rfl | rfl | rfl | rfl <;> cases h_)] at hqb; exact hqb)⟩⟩, fun h_ => ?_, fun h_ => ?_⟩
      · exact ⟨(up_ne (by decide)).trans hb0, rfl⟩
      · rw [up_ne (by decide)] at h_; exact ⟨(up_ne (by decide)).trans hb0, (h2 h_).2⟩
    refine steps_cons ?_ ?_
    · rintro b a w' ⟨g, es, ck, m1, m2, ha, hb, h0, h1, h2⟩ hb_ hon hoff
      refine ⟨_, rfl, fun K hK => ?_⟩
      have hb0 := hon 0 (by kernel_rfl)
      have e1 : a.tmps[11]? = some (.map (some g)) := by rw [ha, ← (h1 (hon 19 (by kernel_rfl))).2]; exact putSel_on (e := (19, 11, m1)) 1 rfl rfl (hon 19 (by kernel_rfl)) rfl
      refine value_ (w1 := w') (v := .map (some g)) (by rfl) rfl (exec_assign rfl e1) ?_
      obtain ⟨k1, k2, k3⟩ := h0 hb0
      refine hK.out _ _ ⟨g, es, ck, m1, .map (some g), by rw [ha]; exact putSel_upk 2 hb_ rfl rfl rfl, hb, fun _ => ⟨k1, k2, ⟨fun e he => by obtain ⟨q, hq, hqb, hh⟩ := k3.1 e he; exact ⟨q, hq, (by unfold up; split <;> simp [hqb]), hh⟩, fun q hq hqb => k3.2 q hq (by rw [up_ne (by revert hq; unfold leadsL; intro hq h_; simp only [List.mem_cons, List.not_mem_nil, or_false] at hq; rcases hq with rfl | rfl | rfl | rfl | rfl | rfl | rfl | rfl | rfl <;> cases h_)] at hqb; exact hqb)⟩⟩, fun h_ => ?_, fun h_ => ?_⟩
      · rw [up_ne (by decide)] at h_; exact ⟨(up_ne (by decide)).trans hb0, (h1 h_).2⟩
      · exact ⟨(up_ne (by decide)).trans hb0, rfl⟩
    exact steps_nil
  · rintro b a w' hall ⟨g, es, ck, m1, m2, ha, hb, h0, h1, h2⟩
    have hb0 := hall 0 (by kernel_rfl)
    have hb19 := hall 19 (by kernel_rfl)
    have hb20 := hall 20 (by kernel_rfl)
    obtain rfl := (h1 hb19).2
    obtain rfl := (h2 hb20).2
    obtain ⟨k1, k2, k3⟩ := h0 hb0
    have hops : ∀ q ∈ leadsL, b q.op = true := fun q hq => by
      simp only [leadsL, List.mem_cons, List.not_mem_nil, or_false] at hq
      rcases hq with rfl | rfl | rfl | rfl | rfl | rfl | rfl | rfl | rfl
      all_goals exact hall _ (by kernel_rfl)
    have fin := hid (show ∃ (g' : Nat) (es : Array MapEntry) (ck : Nat) (b : Nat → Bool), (Ending.returned (.map (some g)) = .returned (.map (some g'))) ∧ w.heap.size ≤ g' ∧ w'.heap[g']? = some (.map es ck) ∧ Ent leadsL b es ∧ (∀ q ∈ leadsL, b q.op = true) ∧ Below w.heap.size w w' from ⟨g, es, ck, b, rfl, k1, k2, k3, hops, hb⟩)
    subst ha
    simp only [putSel, hb0, hb19, hb20, if_true, Act.put, List.setIfInBounds_toArray, List.set_cons_zero, List.set_cons_succ]
    clear hall h0 h1 h2 k1 k2 k3 hops hb hb0 hb19 hb20
    go_wp2
    go_ret
    exact fin.out
def sinks_T : Bool × List (List Nat × List Nat) := (true, [([], []), ([], []), ([0, 1], [0, 1]), ([], []), ([0, 3], [0, 3]), ([], []), ([0, 5], [0, 5]), ([], []), ([0, 7], [0, 7]), ([0, 1, 2, 3, 4, 5, 6, 7, 8], [0]), ([9, 0, 1, 2, 3, 4, 5, 6, 7, 8, 9], [9])])
def sinks_B : List Nat := [0, 0, 3, 0, 9, 0, 33, 0, 129, 511, 1023]
theorem sinks_tab : rtab .any (opsOf Try.f27 1) = sinks_T := by kernel_rfl
theorem sinks_bits : waitsOk sinks_T.2 sinks_B = true := by kernel_rfl
def sinksL : List Put := [⟨2, ⟨#[115, 99, 114, 105, 112, 116]⟩, ⟨#[115, 114, 99]⟩, .int .i64 3⟩, ⟨4, ⟨#[101, 109, 98, 101, 100]⟩, ⟨#[115, 114, 99]⟩, .int .i64 3⟩, ⟨6, ⟨#[111, 98, 106, 101, 99, 116]⟩, ⟨#[100, 97, 116, 97]⟩, .int .i64 3⟩, ⟨8, ⟨#[105, 102, 114, 97, 109, 101]⟩, ⟨#[115, 114, 99, 100, 111, 99]⟩, .int .i64 1⟩]
theorem sinks_apart : Apart sinksL := apart_of (by decide) (by unfold sinksL; decide +kernel)
theorem sinks_ops : ∀ p ∈ sinksL, ∀ q ∈ sinksL, p.op = q.op → p = q := op_inj (by decide)
set_option maxHeartbeats 4000000 in
set_option maxRecDepth 100000 in
theorem sinks_calls (w : World) : Calls Try.prog 27 #[] w fun e w' => ∃ (g : Nat) (es : Array MapEntry) (ck : Nat) (b : Nat → Bool), e = .returned (.map (some g)) ∧ w.heap.size ≤ g ∧ w'.heap[g]? = some (.map es ck) ∧ Ent sinksL b es ∧ (∀ q ∈ sinksL, b q.op = true) ∧ Below w.heap.size w w' := by
  have mixed : Try.prog.follows Departure.mixedOrders = true := by kernel_rfl
  go_enter Try.func27, Try.ntmps27
  go_upto_region 1 with fail
  refine start_ (n := 11) (S := fun w' => True) (ds := []) #[false, false, false, false, false, false, false, false, false, false, false] mixed rfl rfl trivial (fun hHeld => ?_)
  refine with_tabW sinks_tab sinks_bits (fun HT_ HW_ => ?_)
  refine pure_ (i := 1) (N := some 2) (v := pk ⟨#[115, 99, 114, 105, 112, 116]⟩ ⟨#[115, 114, 99]⟩) #[false, true, false, false, false, false, false, false, false, false, false] rfl rfl (any_of HT_.out (by kernel_rfl)) (fun _ _ _ h => h) (Or.inl ⟨by rfl, fun w' => ?_⟩) rfl ?_
  · go_simp
    rfl
  simp only [Act.put, List.setIfInBounds_toArray, List.set_cons_zero, List.set_cons_succ]
  refine pure_ (i := 3) (N := some 3) (v := pk ⟨#[101, 109, 98, 101, 100]⟩ ⟨#[115, 114, 99]⟩) #[false, true, false, true, false, false, false, false, false, false, false] rfl rfl (any_of HT_.out (by kernel_rfl)) (fun _ _ _ h => h) (Or.inl ⟨by rfl, fun w' => ?_⟩) rfl ?_
  · go_simp
    rfl
  simp only [Act.put, List.setIfInBounds_toArray, List.set_cons_zero, List.set_cons_succ]
  refine pure_ (i := 5) (N := some 4) (v := pk ⟨#[111, 98, 106, 101, 99, 116]⟩ ⟨#[100, 97, 116, 97]⟩) #[false, true, false, true, false, true, false, false, false, false, false] rfl rfl (any_of HT_.out (by kernel_rfl)) (fun _ _ _ h => h) (Or.inl ⟨by rfl, fun w' => ?_⟩) rfl ?_
  · go_simp
    rfl
  simp only [Act.put, List.setIfInBounds_toArray, List.set_cons_zero, List.set_cons_succ]
  refine pure_ (i := 7) (N := some 5) (v := pk ⟨#[105, 102, 114, 97, 109, 101]⟩ ⟨#[115, 114, 99, 100, 111, 99]⟩) #[false, true, false, true, false, true, false, true, false, false, false] rfl rfl (any_of HT_.out (by kernel_rfl)) (fun _ _ _ h => h) (Or.inl ⟨by rfl, fun w' => ?_⟩) rfl ?_
  · go_simp
    rfl
  simp only [Act.put, List.setIfInBounds_toArray, List.set_cons_zero, List.set_cons_succ]
  refine inv_at [0, 2, 4, 6, 8, 9, 10] (fun a0_ b a w' => ∃ (g : Nat) (es : Array MapEntry) (ck : Nat) (m1 m2 : Value), a = putSel a0_ b [(0, 1, .map (some g)), (9, 6, m1), (10, 0, m2)] ∧ Below w.heap.size w w' ∧ (b 0 = true → w.heap.size ≤ g ∧ w'.heap[g]? = some (.map es ck) ∧ Ent sinksL b es) ∧ (b 9 = true → b 0 = true ∧ m1 = .map (some g)) ∧ (b 10 = true → b 0 = true ∧ m2 = .map (some g))) HT_.out HW_.out (by kernel_rfl) (by kernel_rfl) ?_ ?_ ?_
  · exact ⟨0, #[], 0, .bool false, .bool false, by simp only [putSel, Bool.false_eq_true, if_false], below_drew (Below.refl _ _), fun h_ => absurd h_ (by decide), fun h_ => absurd h_ (by decide), fun h_ => absurd h_ (by decide)⟩
  · refine steps_cons ?_ ?_
    · rintro b a w' ⟨g, es, ck, m1, m2, ha, hb, h0, h1, h2⟩ hb_ hon hoff
      refine ⟨_, rfl, fun K hK => ?_⟩
      refine value_ (w1 := w'.alloc (.map #[] 0)) (v := .map (some w'.heap.size)) (by rfl) rfl ?_ ?_
      · go_simp
        rfl
      · refine hK.out _ _ ⟨w'.heap.size, #[], 0, m1, m2, by rw [ha]; exact putSel_upk 0 hb_ rfl rfl rfl, hb.alloc hb.size _, fun _ => ⟨hb.size, (MapKept.heap_alloc w' _).1, Ent.start (fun q hq => ?_)⟩, fun h_ => ?_, fun h_ => ?_⟩
        · simp only [sinksL, List.mem_cons, List.not_mem_nil, or_false] at hq
          rcases hq with rfl | rfl | rfl | rfl
          all_goals exact (up_ne (by decide)).trans (hoff _ (by kernel_rfl))
        · rw [up_ne (by decide)] at h_; rw [(h1 h_).1] at hb_; cases hb_
        · rw [up_ne (by decide)] at h_; rw [(h2 h_).1] at hb_; cases hb_
    refine steps_cons ?_ ?_
    · rintro b a w' ⟨g, es, ck, m1, m2, ha, hb, h0, h1, h2⟩ hb_ hon hoff
      refine ⟨_, rfl, fun K hK => ?_⟩
      have hb0 := hon 0 (by kernel_rfl)
      have e1 : a.tmps[1]? = some (.map (some g)) := by rw [ha]; exact putSel_on (e := (0, 1, .map (some g))) 0 rfl rfl hb0 rfl
      have e2 : a.tmps[2]? = some (pk ⟨#[115, 99, 114, 105, 112, 116]⟩ ⟨#[115, 114, 99]⟩) := by rw [ha]; exact (putSel_off rfl).trans rfl
      obtain ⟨k1, k2, k3⟩ := h0 hb0
      have hq : (⟨2, ⟨#[115, 99, 114, 105, 112, 116]⟩, ⟨#[115, 114, 99]⟩, .int .i64 3⟩ : Put) ∈ sinksL := by unfold sinksL; repeat (first | exact List.mem_cons_self | apply List.mem_cons_of_mem)
      refine skip_ (by rfl) rfl (exec_insert rfl e1 e2 (store_run Try.underlying45 k2 k3 sinks_apart hq hb_)) ?_
      refine hK.out _ _ ⟨g, _, _, m1, m2, ha.trans (putSel_same rfl).symm, below_block hb k1 (o' := .map #[] 0), fun _ => ⟨k1, heap_setBlock_same k2 _, k3.push hq ck (fun p hp he => sinks_ops p hp _ hq he)⟩, fun h_ => ?_, fun h_ => ?_⟩
      · rw [up_ne (by decide)] at h_; exact ⟨(up_ne (by decide)).trans hb0, (h1 h_).2⟩
      · rw [up_ne (by decide)] at h_; exact ⟨(up_ne (by decide)).trans hb0, (h2 h_).2⟩
    refine steps_cons ?_ ?_
    · rintro b a w' ⟨g, es, ck, m1, m2, ha, hb, h0, h1, h2⟩ hb_ hon hoff
      refine ⟨_, rfl, fun K hK => ?_⟩
      have hb0 := hon 0 (by kernel_rfl)
      have e1 : a.tmps[1]? = some (.map (some g)) := by rw [ha]; exact putSel_on (e := (0, 1, .map (some g))) 0 rfl rfl hb0 rfl
      have e2 : a.tmps[3]? = some (pk ⟨#[101, 109, 98, 101, 100]⟩ ⟨#[115, 114, 99]⟩) := by rw [ha]; exact (putSel_off rfl).trans rfl
      obtain ⟨k1, k2, k3⟩ := h0 hb0
      have hq : (⟨4, ⟨#[101, 109, 98, 101, 100]⟩, ⟨#[115, 114, 99]⟩, .int .i64 3⟩ : Put) ∈ sinksL := by unfold sinksL; repeat (first | exact List.mem_cons_self | apply List.mem_cons_of_mem)
      refine skip_ (by rfl) rfl (exec_insert rfl e1 e2 (store_run Try.underlying45 k2 k3 sinks_apart hq hb_)) ?_
      refine hK.out _ _ ⟨g, _, _, m1, m2, ha.trans (putSel_same rfl).symm, below_block hb k1 (o' := .map #[] 0), fun _ => ⟨k1, heap_setBlock_same k2 _, k3.push hq ck (fun p hp he => sinks_ops p hp _ hq he)⟩, fun h_ => ?_, fun h_ => ?_⟩
      · rw [up_ne (by decide)] at h_; exact ⟨(up_ne (by decide)).trans hb0, (h1 h_).2⟩
      · rw [up_ne (by decide)] at h_; exact ⟨(up_ne (by decide)).trans hb0, (h2 h_).2⟩
    refine steps_cons ?_ ?_
    · rintro b a w' ⟨g, es, ck, m1, m2, ha, hb, h0, h1, h2⟩ hb_ hon hoff
      refine ⟨_, rfl, fun K hK => ?_⟩
      have hb0 := hon 0 (by kernel_rfl)
      have e1 : a.tmps[1]? = some (.map (some g)) := by rw [ha]; exact putSel_on (e := (0, 1, .map (some g))) 0 rfl rfl hb0 rfl
      have e2 : a.tmps[4]? = some (pk ⟨#[111, 98, 106, 101, 99, 116]⟩ ⟨#[100, 97, 116, 97]⟩) := by rw [ha]; exact (putSel_off rfl).trans rfl
      obtain ⟨k1, k2, k3⟩ := h0 hb0
      have hq : (⟨6, ⟨#[111, 98, 106, 101, 99, 116]⟩, ⟨#[100, 97, 116, 97]⟩, .int .i64 3⟩ : Put) ∈ sinksL := by unfold sinksL; repeat (first | exact List.mem_cons_self | apply List.mem_cons_of_mem)
      refine skip_ (by rfl) rfl (exec_insert rfl e1 e2 (store_run Try.underlying45 k2 k3 sinks_apart hq hb_)) ?_
      refine hK.out _ _ ⟨g, _, _, m1, m2, ha.trans (putSel_same rfl).symm, below_block hb k1 (o' := .map #[] 0), fun _ => ⟨k1, heap_setBlock_same k2 _, k3.push hq ck (fun p hp he => sinks_ops p hp _ hq he)⟩, fun h_ => ?_, fun h_ => ?_⟩
      · rw [up_ne (by decide)] at h_; exact ⟨(up_ne (by decide)).trans hb0, (h1 h_).2⟩
      · rw [up_ne (by decide)] at h_; exact ⟨(up_ne (by decide)).trans hb0, (h2 h_).2⟩
    refine steps_cons ?_ ?_
    · rintro b a w' ⟨g, es, ck, m1, m2, ha, hb, h0, h1, h2⟩ hb_ hon hoff
      refine ⟨_, rfl, fun K hK => ?_⟩
      have hb0 := hon 0 (by kernel_rfl)
      have e1 : a.tmps[1]? = some (.map (some g)) := by rw [ha]; exact putSel_on (e := (0, 1, .map (some g))) 0 rfl rfl hb0 rfl
      have e2 : a.tmps[5]? = some (pk ⟨#[105, 102, 114, 97, 109, 101]⟩ ⟨#[115, 114, 99, 100, 111, 99]⟩) := by rw [ha]; exact (putSel_off rfl).trans rfl
      obtain ⟨k1, k2, k3⟩ := h0 hb0
      have hq : (⟨8, ⟨#[105, 102, 114, 97, 109, 101]⟩, ⟨#[115, 114, 99, 100, 111, 99]⟩, .int .i64 1⟩ : Put) ∈ sinksL := by unfold sinksL; repeat (first | exact List.mem_cons_self | apply List.mem_cons_of_mem)
      refine skip_ (by rfl) rfl (exec_insert rfl e1 e2 (store_run Try.underlying45 k2 k3 sinks_apart hq hb_)) ?_
      refine hK.out _ _ ⟨g, _, _, m1, m2, ha.trans (putSel_same rfl).symm, below_block hb k1 (o' := .map #[] 0), fun _ => ⟨k1, heap_setBlock_same k2 _, k3.push hq ck (fun p hp he => sinks_ops p hp _ hq he)⟩, fun h_ => ?_, fun h_ => ?_⟩
      · rw [up_ne (by decide)] at h_; exact ⟨(up_ne (by decide)).trans hb0, (h1 h_).2⟩
      · rw [up_ne (by decide)] at h_; exact ⟨(up_ne (by decide)).trans hb0, (h2 h_).2⟩
    refine steps_cons ?_ ?_
    · rintro b a w' ⟨g, es, ck, m1, m2, ha, hb, h0, h1, h2⟩ hb_ hon hoff
      refine ⟨_, rfl, fun K hK => ?_⟩
      have hb0 := hon 0 (by kernel_rfl)
      have e1 : a.tmps[1]? = some (.map (some g)) := by rw [ha]; exact putSel_on (e := (0, 1, .map (some g))) 0 rfl rfl hb0 rfl
      refine value_ (w1 := w') (v := .map (some g)) (by rfl) rfl (exec_move rfl e1) ?_
      obtain ⟨k1, k2, k3⟩ := h0 hb0
      refine hK.out _ _ ⟨g, es, ck, .map (some g), m2, by rw [ha]; exact putSel_upk 1 hb_ rfl rfl rfl, hb, fun _ => ⟨k1, k2, ⟨fun e he => by obtain ⟨q, hq, hqb, hh⟩ := k3.1 e he; exact ⟨q, hq, (by unfold up; split <;> simp [hqb]), hh⟩, fun q hq hqb => k3.2 q hq (by rw [up_ne (by revert hq; unfold sinksL; intro hq h_; simp only [List.mem_cons, List.not_mem_nil, or_false] at hq; rcases hq with rfl | rfl | rfl | rfl <;> cases h_)] at hqb; exact hqb)⟩⟩, fun h_ => ?_, fun h_ => ?_⟩
      · exact ⟨(up_ne (by decide)).trans hb0, rfl⟩
      · rw [up_ne (by decide)] at h_; exact ⟨(up_ne (by decide)).trans hb0, (h2 h_).2⟩
    refine steps_cons ?_ ?_
    · rintro b a w' ⟨g, es, ck, m1, m2, ha, hb, h0, h1, h2⟩ hb_ hon hoff
      refine ⟨_, rfl, fun K hK => ?_⟩
      have hb0 := hon 0 (by kernel_rfl)
      have e1 : a.tmps[6]? = some (.map (some g)) := by rw [ha, ← (h1 (hon 9 (by kernel_rfl))).2]; exact putSel_on (e := (9, 6, m1)) 1 rfl rfl (hon 9 (by kernel_rfl)) rfl
      refine value_ (w1 := w') (v := .map (some g)) (by rfl) rfl (exec_assign rfl e1) ?_
      obtain ⟨k1, k2, k3⟩ := h0 hb0
      refine hK.out _ _ ⟨g, es, ck, m1, .map (some g), by rw [ha]; exact putSel_upk 2 hb_ rfl rfl rfl, hb, fun _ => ⟨k1, k2, ⟨fun e he => by obtain ⟨q, hq, hqb, hh⟩ := k3.1 e he; exact ⟨q, hq, (by unfold up; split <;> simp [hqb]), hh⟩, fun q hq hqb => k3.2 q hq (by rw [up_ne (by revert hq; unfold sinksL; intro hq h_; simp only [List.mem_cons, List.not_mem_nil, or_false] at hq; rcases hq with rfl | rfl | rfl | rfl <;> cases h_)] at hqb; exact hqb)⟩⟩, fun h_ => ?_, fun h_ => ?_⟩
      · rw [up_ne (by decide)] at h_; exact ⟨(up_ne (by decide)).trans hb0, (h1 h_).2⟩
      · exact ⟨(up_ne (by decide)).trans hb0, rfl⟩
    exact steps_nil
  · rintro b a w' hall ⟨g, es, ck, m1, m2, ha, hb, h0, h1, h2⟩
    have hb0 := hall 0 (by kernel_rfl)
    have hb9 := hall 9 (by kernel_rfl)
    have hb10 := hall 10 (by kernel_rfl)
    obtain rfl := (h1 hb9).2
    obtain rfl := (h2 hb10).2
    obtain ⟨k1, k2, k3⟩ := h0 hb0
    have hops : ∀ q ∈ sinksL, b q.op = true := fun q hq => by
      simp only [sinksL, List.mem_cons, List.not_mem_nil, or_false] at hq
      rcases hq with rfl | rfl | rfl | rfl
      all_goals exact hall _ (by kernel_rfl)
    have fin := hid (show ∃ (g' : Nat) (es : Array MapEntry) (ck : Nat) (b : Nat → Bool), (Ending.returned (.map (some g)) = .returned (.map (some g'))) ∧ w.heap.size ≤ g' ∧ w'.heap[g']? = some (.map es ck) ∧ Ent sinksL b es ∧ (∀ q ∈ sinksL, b q.op = true) ∧ Below w.heap.size w w' from ⟨g, es, ck, b, rfl, k1, k2, k3, hops, hb⟩)
    subst ha
    simp only [putSel, hb0, hb9, hb10, if_true, Act.put, List.setIfInBounds_toArray, List.set_cons_zero, List.set_cons_succ]
    clear hall h0 h1 h2 k1 k2 k3 hops hb hb0 hb9 hb10
    go_wp2
    go_ret
    exact fin.out
end Go.Proofs.Ytejdfmghcgkojaa
/- risk.Handler, Nav, Sink: their contracts. -/
namespace Go.Proofs.Ytejdfmghcgkojaa
set_option linter.unusedVariables false
set_option linter.unusedSimpArgs false
open Go.RowKit Go.Lib Go.ChangeMaps Go.Proofs.YtejdfmghcgkojaaW.PrintWords Go.Proofs.YtejdfmghcgkojaaW.PrintLast

def isAt (x y : ByteArray) (q : Put) : Bool := decide (q.el = x ∧ q.att = y)
/-- Does an attribute lead somewhere? -/
def navB (x y : ByteArray) : Bool := leadsL.any (isAt x y)
def numOf : Value → Int
  | .int _ n => n
  | _ => 0
/-- Which kind of text an attribute takes, but for handlers. -/
def sinkI (x y : ByteArray) : Int := match sinksL.find? (isAt x y) with
  | some q => numOf q.val
  | none => 0
theorem tell_nav (x y : ByteArray) : tell leadsL (.bool false) x y = .bool (navB x y) := by
  unfold tell navB
  have hv : ∀ q ∈ leadsL, q.val = .bool true := by
    intro q hq
    simp only [leadsL, List.mem_cons, List.not_mem_nil, or_false] at hq
    rcases hq with rfl | rfl | rfl | rfl | rfl | rfl | rfl | rfl | rfl <;> rfl
  show (match leadsL.find? (isAt x y) with | some q => q.val | none => _) = _
  cases hf : leadsL.find? (isAt x y) with
  | some q =>
    have h1 := List.mem_of_find?_eq_some hf
    have h2 := List.find?_some hf
    rw [List.any_eq_true.2 ⟨q, h1, h2⟩]
    exact hv q h1
  | none =>
    have : leadsL.any (isAt x y) = false := List.any_eq_false.2 (fun q hq => by have := List.find?_eq_none.1 hf q hq; exact this)
    rw [this]
theorem tell_sink (x y : ByteArray) : tell sinksL (.int .i64 0) x y = .int .i64 (sinkI x y) := by
  unfold tell sinkI
  have hv : ∀ q ∈ sinksL, q.val = .int .i64 (numOf q.val) := by
    intro q hq
    simp only [sinksL, List.mem_cons, List.not_mem_nil, or_false] at hq
    rcases hq with rfl | rfl | rfl | rfl <;> rfl
  show (match sinksL.find? (isAt x y) with | some q => q.val | none => _) = _
  cases hf : sinksL.find? (isAt x y) with
  | some q => exact hv q (List.mem_of_find?_eq_some hf)
  | none => rfl
set_option maxHeartbeats 2000000 in
theorem nav_calls (x y : ByteArray) (w : World) : Calls Try.prog 12 #[.string x, .string y] w fun e w' => e = .returned (.bool (navB x y)) ∧ Below w.heap.size w w' := by
  have hl := hid (leads_calls w)
  obtain ⟨B, hBn⟩ : ∃ B, navB x y = B := ⟨_, rfl⟩
  have HT := hid (hBn ▸ tell_nav x y)
  rw [hBn]
  clear hBn
  go_enter Try.func12, Try.ntmps12
  go_wp2_with (go_at_call 24; refine hl.out.mono ?_; rintro e w1 ⟨g, es, ck, b, rfl, hg, hb, hE, hall, hB⟩; have hlk := look_run (t := 40) Try.underlying40 (z := .bool false) Try.zeroValue4 hb hE leads_apart hall x y; rw [HT.out] at hlk; unfold pk at hlk; have HB := hid hB; clear hg hb hE hall hB)
  go_ret
  exact ⟨rfl, HB.out⟩
/-- Is an attribute a handler? -/
def handlerB (x : ByteArray) : Bool := Lib.hasPrefix x.data.toList [111, 110] && decide (2 < x.size)
set_option maxHeartbeats 2000000 in
theorem handler_calls (x : ByteArray) (w : World) : Calls Try.prog 10 #[.string x] w fun e w' => e = .returned (.bool (handlerB x)) ∧ w' = w := by
  have hp := hid (Try.strings_HasPrefix x ⟨#[111, 110]⟩ w)
  unfold handlerB
  obtain ⟨B, hB⟩ : ∃ B, Lib.hasPrefix x.data.toList [111, 110] = B := ⟨_, rfl⟩
  have hp2 := hp.out
  rw [show (⟨#[111, 110]⟩ : ByteArray).data.toList = [111, 110] from rfl, hB] at hp2
  have HP := hid hp2
  rw [hB]
  clear hB hp hp2
  cases B with
  | true =>
    go_enter Try.func10, Try.ntmps10
    go_wp2_with (go_at_call 23; refine HP.out.mono ?_; rintro e w1 ⟨rfl, rfl⟩)
    go_ret
    exact ⟨by simp; omega, rfl⟩
  | false =>
    go_enter Try.func10, Try.ntmps10
    go_wp2_with (go_at_call 23; refine HP.out.mono ?_; rintro e w1 ⟨rfl, rfl⟩)
    go_ret
    exact ⟨by simp, rfl⟩
set_option maxHeartbeats 2000000 in
theorem sink_calls (x y : ByteArray) (w : World) : Calls Try.prog 14 #[.string x, .string y] w fun e w' => e = .returned (.int .i64 (if handlerB y = true then 2 else sinkI x y)) ∧ Below w.heap.size w w' := by
  have hl := hid (sinks_calls w)
  have hh := handler_calls y w
  obtain ⟨I, hI⟩ : ∃ I, sinkI x y = I := ⟨_, rfl⟩
  have HT := hid (hI ▸ tell_sink x y)
  rw [hI]
  clear hI
  cases hb : handlerB y with
  | true =>
    rw [hb] at hh
    have HH := hid hh
    clear hh hb
    go_enter Try.func14, Try.ntmps14
    go_wp2_with (go_at_call 10; refine HH.out.mono ?_; rintro e w1 ⟨rfl, rfl⟩)
    go_ret
    exact ⟨by simp, Below.refl _ _⟩
  | false =>
    rw [hb] at hh
    have HH := hid hh
    clear hh hb
    go_enter Try.func14, Try.ntmps14
    go_wp2_with first
      | (go_at_call 10; refine HH.out.mono ?_; rintro e w1 ⟨rfl, rfl⟩)
      | (go_at_call 27; refine hl.out.mono ?_; rintro e w1 ⟨g, es, ck, b, rfl, hg, hb, hE, hall, hB⟩; have hlk := look_run (t := 45) Try.underlying45 (z := .int .i64 0) Try.zeroValue3 hb hE sinks_apart hall x y; rw [HT.out] at hlk; unfold pk at hlk; have HB := hid hB; clear hg hb hE hall hB)
    go_ret
    exact ⟨by simp, HB.out⟩
end Go.Proofs.Ytejdfmghcgkojaa
/- risk's, link's and Lower's contracts in the form that the printed texts take. -/
namespace Go.Proofs.Ytejdfmghcgkojaa
set_option linter.unusedVariables false
set_option linter.unusedSimpArgs false
open Go.RowKit Go.Lib

def link_Scheme.f (a0 : ByteArray) : Option (ByteArray × Bool) := bnd a0 (mkS ((scheme a0.data.toList).getD []), (scheme a0.data.toList).isSome)
theorem link_Scheme.calls (a0 : ByteArray) (r1 : ByteArray) (r2 : Bool) (w : World) (h : link_Scheme.f a0 = some (r1, r2)) :
    Calls Try.prog 33 #[.string a0] w fun e w' => e = .returned (.tuple #[.string r1, .bool r2]) ∧ Below w.heap.size w w' := by
  obtain ⟨hs, he⟩ := bnd_some h
  injection he with h1 h2
  subst h1 h2
  exact scheme_calls a0 w hs
def boltingref02_Lower.f (a0 : ByteArray) : Option ByteArray := bnd a0 (mkS (lower a0.data.toList))
def risk_Nav.f (a0 a1 : ByteArray) : Option Bool := some (navB a0 a1)
theorem risk_Nav.calls (a0 a1 : ByteArray) (r : Bool) (w : World) (h : risk_Nav.f a0 a1 = some r) :
    Calls Try.prog 12 #[.string a0, .string a1] w fun e w' => e = .returned (.bool r) ∧ Below w.heap.size w w' := by
  obtain rfl := Option.some.inj h
  exact nav_calls a0 a1 w
def risk_Sink.f (a0 a1 : ByteArray) : Option Int := some (if handlerB a1 = true then 2 else sinkI a0 a1)
theorem risk_Sink.calls (a0 a1 : ByteArray) (r : Int) (w : World) (h : risk_Sink.f a0 a1 = some r) :
    Calls Try.prog 14 #[.string a0, .string a1] w fun e w' => e = .returned (.int .i64 r) ∧ Below w.heap.size w w' := by
  obtain rfl := Option.some.inj h
  exact sink_calls a0 a1 w
end Go.Proofs.Ytejdfmghcgkojaa
namespace Go.Proofs.Ytejdfmghcgkojaa.Pr
open Go.RowKit Go.Proofs.YtejdfmghcgkojaaW.PrintWords Go.Proofs.YtejdfmghcgkojaaW.PrintLast Go.Proofs.YtejdfmghcgkojaaW.PrintMore
attribute [local go_sem] max2_int min2_int max_two min_two max_three min_three max_four min_four   -- for this text's walks alone
set_option linter.unusedVariables false
set_option linter.unusedSimpArgs false



def errW : Option Int → Value
  | none => .nilIface
  | some c => .iface 0 (.int .i64 c)
theorem errW_none : errW none = .nilIface := rfl
theorem errW_some (c : Int) : errW (some c) = .iface 0 (.int .i64 c) := rfl

theorem info30 : (Try.prog.info? 30).map (fun i => (i.zero, i.size, i.bytes)) = some (some (.agg #[(.string ⟨#[]⟩), (.string ⟨#[]⟩)]), 2, 32) := by kernel_rfl
theorem info37 : (Try.prog.info? 37).map (fun i => (i.zero, i.size, i.bytes)) = some (some (.agg #[(.int .i64 0), (.int .i64 0), (.string ⟨#[]⟩), (.string ⟨#[]⟩), (.slice none 0 0)]), 5, 72) := by kernel_rfl
-- the values' own types
/-! #### struct type 30 -/
structure S30 where
  f0 : ByteArray
  f1 : ByteArray
def z30 : S30 := ⟨(⟨#[]⟩ : ByteArray), (⟨#[]⟩ : ByteArray)⟩
def k30 : Kd S30 := Kd.iso (Kd.pair Kd.string Kd.string) (fun x : S30 => (x.f0, x.f1))
theorem k30_heap : Kd.Heap k30 := Kd.heap_iso _ (Kd.heap_pair Kd.heap_string Kd.heap_string)
theorem k30_open {w : World} {x : S30} {cs : List Value} (h : k30.K w x cs) : cs = [.string x.f0, .string x.f1] := by
  obtain ⟨_, _, rfl, rfl, rfl⟩ := h
  exact rfl
theorem k30_mkM (w : World) (base : Nat) (ok : Nat → Prop) (x : S30)  : k30.M w base ok x [.string x.f0, .string x.f1] := ⟨[.string x.f0], [.string x.f1], rfl, rfl, rfl⟩
def rd_T30 (xs : List S30) (i : Int) : S30 := xs.getD i.toNat z30
theorem at_T30 {w : World} {A : Option Addr} {n : Nat} {xs : List S30} (h : Kd.C k30 w A n xs) (i : Int) (h0 : 0 ≤ i) (h1 : i < n) : ∃ ad , A = some ad ∧ w.cell? (ad.add (i.toNat * 2)) = some (.string (rd_T30 xs i).f0) ∧ w.cell? ⟨(ad.add (i.toNat * 2)).block, (ad.add (i.toNat * 2)).off + 1, none⟩ = some (.string (rd_T30 xs i).f1) := by
  obtain ⟨ad, c, e, _, hK, hc0⟩ := Kd.C_get h z30 i h0 h1
  have hc : ∀ j u, c[j]? = some u → w.cell? (ad.add (i.toNat * 2 + j)) = some u := hc0
  obtain rfl := k30_open hK
  exact ⟨ad, e, hc 0 _ rfl, by rw [← add_field _ _ 1 (by omega)]; exact hc 1 _ rfl⟩

def rd_L3 (xs : List (List S30)) (i : Int) : (List S30) := xs.getD i.toNat ([] : List S30)
/-! #### struct type 37 -/
structure S37 where
  f0 : Int
  f1 : Int
  f2 : ByteArray
  f3 : ByteArray
  f4 : (List S30)
def z37 : S37 := ⟨(0 : Int), (0 : Int), (⟨#[]⟩ : ByteArray), (⟨#[]⟩ : ByteArray), ([] : List S30)⟩
def k37 : Kd S37 := Kd.iso (Kd.pair (Kd.int .i64) (Kd.pair (Kd.int .i64) (Kd.pair Kd.string (Kd.pair Kd.string (Kd.slice 30 k30))))) (fun x : S37 => (x.f0, x.f1, x.f2, x.f3, x.f4))
theorem k37_heap : Kd.Heap k37 := Kd.heap_iso _ (Kd.heap_pair (Kd.heap_int .i64) (Kd.heap_pair (Kd.heap_int .i64) (Kd.heap_pair Kd.heap_string (Kd.heap_pair Kd.heap_string (Kd.heap_slice 30 k30_heap)))))
theorem k37_open {w : World} {x : S37} {cs : List Value} (h : k37.K w x cs) : ∃ A4 c4, cs = [.int .i64 x.f0, .int .i64 x.f1, .string x.f2, .string x.f3, .slice A4 x.f4.length c4] ∧ x.f4.length ≤ c4 ∧ k30.C w A4 x.f4.length x.f4 := by
  obtain ⟨_, _, rfl, rfl, ⟨_, _, rfl, rfl, ⟨_, _, rfl, rfl, ⟨_, _, rfl, rfl, ⟨A4, c4, rfl, l4, g4⟩⟩⟩⟩⟩ := h
  exact ⟨A4, c4, rfl, l4, g4⟩
theorem k37_mk (w : World) (x : S37) {A4 : Option Addr} {c4 : Nat} (l4 : x.f4.length ≤ c4) (g4 : k30.C w A4 x.f4.length x.f4) : k37.K w x [.int .i64 x.f0, .int .i64 x.f1, .string x.f2, .string x.f3, .slice A4 x.f4.length c4] := ⟨[.int .i64 x.f0], [.int .i64 x.f1, .string x.f2, .string x.f3, .slice A4 x.f4.length c4], rfl, rfl, ⟨[.int .i64 x.f1], [.string x.f2, .string x.f3, .slice A4 x.f4.length c4], rfl, rfl, ⟨[.string x.f2], [.string x.f3, .slice A4 x.f4.length c4], rfl, rfl, ⟨[.string x.f3], [.slice A4 x.f4.length c4], rfl, rfl, ⟨A4, c4, rfl, l4, g4⟩⟩⟩⟩⟩
theorem k37_mkM (w : World) (base : Nat) (ok : Nat → Prop) (x : S37) {v4 : Value} (g4 : k30.R 30 w base ok v4 x.f4) : k37.M w base ok x [.int .i64 x.f0, .int .i64 x.f1, .string x.f2, .string x.f3, v4] := ⟨[.int .i64 x.f0], [.int .i64 x.f1, .string x.f2, .string x.f3, v4], rfl, rfl, ⟨[.int .i64 x.f1], [.string x.f2, .string x.f3, v4], rfl, rfl, ⟨[.string x.f2], [.string x.f3, v4], rfl, rfl, ⟨[.string x.f3], [v4], rfl, rfl, ⟨v4, rfl, g4⟩⟩⟩⟩⟩
theorem k37_openF {W : World} {ok : Nat → Prop} {x : S37} {cs : List Value} (h : Kd.FK k37 W ok x cs) : ∃ A4 c4, cs = [.int .i64 x.f0, .int .i64 x.f1, .string x.f2, .string x.f3, .slice A4 x.f4.length c4] ∧ x.f4.length ≤ c4 ∧ Kd.F k30 W ok A4 x.f4.length x.f4 := by
  obtain ⟨A4, c4, rfl, l4, _⟩ := k37_open (Kd.FK_now h)
  exact ⟨A4, c4, rfl, l4, (fun W' hW => by obtain ⟨A4_, c4_, he, l4_, g4_⟩ := k37_open (h W' hW); injection (Option.some.inj (show some (Value.slice A4 x.f4.length c4) = some (Value.slice A4_ x.f4.length c4_) from congrArg (fun l => l[4]?) he)) with ha_ _ _; rw [ha_]; exact g4_)⟩
theorem k37_mkF (W : World) (ok : Nat → Prop) (x : S37) {A4 : Option Addr} {c4 : Nat} (l4 : x.f4.length ≤ c4) (g4 : Kd.F k30 W ok A4 x.f4.length x.f4) : Kd.FK k37 W ok x [.int .i64 x.f0, .int .i64 x.f1, .string x.f2, .string x.f3, .slice A4 x.f4.length c4] := fun W2 hW => k37_mk W2 x l4 (g4 W2 hW)
def rd_T37 (xs : List S37) (i : Int) : S37 := xs.getD i.toNat z37
theorem at_T37 {w : World} {A : Option Addr} {n : Nat} {xs : List S37} (h : Kd.C k37 w A n xs) (i : Int) (h0 : 0 ≤ i) (h1 : i < n) : ∃ ad A4 c4, A = some ad ∧ w.cell? (ad.add (i.toNat * 5)) = some (.int .i64 (rd_T37 xs i).f0) ∧ w.cell? ⟨(ad.add (i.toNat * 5)).block, (ad.add (i.toNat * 5)).off + 1, none⟩ = some (.int .i64 (rd_T37 xs i).f1) ∧ w.cell? ⟨(ad.add (i.toNat * 5)).block, (ad.add (i.toNat * 5)).off + 2, none⟩ = some (.string (rd_T37 xs i).f2) ∧ w.cell? ⟨(ad.add (i.toNat * 5)).block, (ad.add (i.toNat * 5)).off + 3, none⟩ = some (.string (rd_T37 xs i).f3) ∧ w.cell? ⟨(ad.add (i.toNat * 5)).block, (ad.add (i.toNat * 5)).off + 4, none⟩ = some (.slice A4 (rd_T37 xs i).f4.length c4) ∧ (rd_T37 xs i).f4.length ≤ c4 ∧ k30.C w A4 (rd_T37 xs i).f4.length (rd_T37 xs i).f4 := by
  obtain ⟨ad, c, e, _, hK, hc0⟩ := Kd.C_get h z37 i h0 h1
  have hc : ∀ j u, c[j]? = some u → w.cell? (ad.add (i.toNat * 5 + j)) = some u := hc0
  obtain ⟨A4, c4, rfl, l4, g4⟩ := k37_open hK
  exact ⟨ad, A4, c4, e, hc 0 _ rfl, by rw [← add_field _ _ 1 (by omega)]; exact hc 1 _ rfl, by rw [← add_field _ _ 2 (by omega)]; exact hc 2 _ rfl, by rw [← add_field _ _ 3 (by omega)]; exact hc 3 _ rfl, by rw [← add_field _ _ 4 (by omega)]; exact hc 4 _ rfl, l4, g4⟩

end Go.Proofs.Ytejdfmghcgkojaa.Pr
namespace Go.Proofs.Ytejdfmghcgkojaa.Pr
open Go.RowKit Go.Proofs.YtejdfmghcgkojaaW.PrintWords Go.Proofs.YtejdfmghcgkojaaW.PrintLast Go.Proofs.YtejdfmghcgkojaaW.PrintMore
attribute [local go_sem] max2_int min2_int max_two min_two max_three min_three max_four min_four   -- for this text's walks alone
set_option linter.unusedVariables false
set_option linter.unusedSimpArgs false

/-! ### stringslite_HasPrefix: function 31 -/
def stringslite_HasPrefix.f (a0 : ByteArray) (a1 : ByteArray) : Option (Bool) := if (a0.size : Int) ≥ (a1.size : Int) then (if 0 ≤ (a1.size : Int) then (if (a1.size : Int) ≤ (a0.size : Int) then (some ((a0.extract 0 ((a1.size : Int) : Int).toNat).toList == a1.toList)) else (none)) else (none)) else (some false)
set_option maxHeartbeats 8000000 in
set_option maxRecDepth 100000 in
theorem stringslite_HasPrefix.calls (a0 : ByteArray) (a1 : ByteArray) (r : Bool) (w : World) (h : stringslite_HasPrefix.f a0 a1 = some r) :
    Calls Try.prog 31 #[.string a0, .string a1] w fun e w' => e = .returned (.bool r) ∧ Drawn0 w w' := by
  have H : (if (a0.size : Int) ≥ (a1.size : Int) then (if 0 ≤ (a1.size : Int) then (if (a1.size : Int) ≤ (a0.size : Int) then (some ((a0.extract 0 ((a1.size : Int) : Int).toNat).toList == a1.toList)) else (none)) else (none)) else (some false)) = some r := h
  clear h
  by_cases c3 : (a0.size : Int) ≥ (a1.size : Int)
  · rw [if_pos c3] at H
    have c3b0 : decide ((a1.size : Int) ≤ (a0.size : Int)) = true := decide_eq_true c3
    have c3b1 : decide (a1.size ≤ a0.size) = true := decide_eq_true (Int.ofNat_le.mp c3)
    clear c3
    by_cases c4 : 0 ≤ (a1.size : Int)
    · rw [if_pos c4] at H
      have c4b0 := eq_true c4
      have c4b1 : decide (0 ≤ (a1.size : Int)) = true := decide_eq_true c4
      clear c4
      by_cases c5 : (a1.size : Int) ≤ (a0.size : Int)
      · rw [if_pos c5] at H
        have c5b0 := eq_true c5
        have c5b1 : decide ((a1.size : Int) ≤ (a0.size : Int)) = true := decide_eq_true c5
        clear c5
        obtain rfl := Option.some.inj H
        go_enter Try.func31, Try.ntmps31
        go_wp2
        go_ret
        exact ⟨by first | rfl | (simp; done) | (simp [*]; done) | (simp; generalize ByteArray.toList _ = l_; cases l_ <;> rfl), by repeat (first | exact Drawn0.refl _ | apply Drawn0.step)⟩
      · rw [if_neg c5] at H
        exact absurd H (by simp)
    · rw [if_neg c4] at H
      exact absurd H (by simp)
  · rw [if_neg c3] at H
    have c3b0 : decide ((a1.size : Int) ≤ (a0.size : Int)) = false := decide_eq_false c3
    have c3b1 : decide (a1.size ≤ a0.size) = false := decide_eq_false (fun h => c3 (Int.ofNat_le.mpr h))
    clear c3
    obtain rfl := Option.some.inj H
    go_enter Try.func31, Try.ntmps31
    go_wp2
    go_ret
    exact ⟨by first | rfl | (simp; done) | (simp [*]; done) | (simp; generalize ByteArray.toList _ = l_; cases l_ <;> rfl), by repeat (first | exact Drawn0.refl _ | apply Drawn0.step)⟩

/-! ### strings_HasPrefix: function 23 -/
def strings_HasPrefix.f (a0 : ByteArray) (a1 : ByteArray) : Option (Bool) := (stringslite_HasPrefix.f a0 a1).bind fun t101 => (some t101)
set_option maxHeartbeats 8000000 in
set_option maxRecDepth 100000 in
theorem strings_HasPrefix.calls (a0 : ByteArray) (a1 : ByteArray) (r : Bool) (w : World) (h : strings_HasPrefix.f a0 a1 = some r) :
    Calls Try.prog 23 #[.string a0, .string a1] w fun e w' => e = .returned (.bool r) ∧ Drawn0 w w' := by
  have H : ((stringslite_HasPrefix.f a0 a1).bind fun t101 => (some t101)) = some r := h
  clear h
  replace H := Option.bind_eq_some_iff.mp H
  obtain ⟨t101, A30, H⟩ := H
  replace H : (some t101) = some r := H
  have A3 := Aside0.mk A30
  clear A30
  obtain rfl := Option.some.inj H
  go_enter Try.func23, Try.ntmps23
  go_wp2_with (first | ((with_reducible refine gate_callee (f := 31) rfl ?_); refine goesL_ (some 7) rfl rfl Try.func31 (by kernel_rfl) rfl #[.string a0, .string a1] rfl (by (try simp only [List.map_toArray, List.map_cons, List.map_nil]); first | done | rfl | (simp only [List.length_drop, List.length_take]; rfl)) ?_; (with_reducible refine (stringslite_HasPrefix.calls a0 a1 t101 _ A3.out).mono ?_); rintro e w' ⟨rfl, ⟨nd, rfl⟩⟩; refine ⟨_, rfl, ?_⟩))
  go_ret
  exact ⟨by first | rfl | (simp; done) | (simp [*]; done) | (simp; generalize ByteArray.toList _ = l_; cases l_ <;> rfl), by repeat (first | exact Drawn0.refl _ | apply Drawn0.step)⟩

/-! ### risk_Handler: function 10 -/
def risk_Handler.f (a0 : ByteArray) : Option (Bool) := (strings_HasPrefix.f a0 (⟨#[111, 110]⟩ : ByteArray)).bind fun t102 => (if t102 = true then (some (decide ((a0.size : Int) > 2))) else (some false))
set_option maxHeartbeats 8000000 in
set_option maxRecDepth 100000 in
theorem risk_Handler.calls (a0 : ByteArray) (r : Bool) (w : World) (h : risk_Handler.f a0 = some r) :
    Calls Try.prog 10 #[.string a0] w fun e w' => e = .returned (.bool r) ∧ Drawn0 w w' := by
  have H : ((strings_HasPrefix.f a0 (⟨#[111, 110]⟩ : ByteArray)).bind fun t102 => (if t102 = true then (some (decide ((a0.size : Int) > 2))) else (some false))) = some r := h
  clear h
  replace H := Option.bind_eq_some_iff.mp H
  obtain ⟨t102, A20, H⟩ := H
  replace H : (if t102 = true then (some (decide ((a0.size : Int) > 2))) else (some false)) = some r := H
  have A2 := Aside0.mk A20
  clear A20
  by_cases c3 : t102 = true
  · subst c3
    have H1 : (some (decide ((a0.size : Int) > 2))) = some r := by rw [if_pos rfl] at H; exact H
    clear H
    have H := H1
    clear H1
    obtain rfl := Option.some.inj H
    go_enter Try.func10, Try.ntmps10
    go_wp2_with (first | ((with_reducible refine gate_callee (f := 23) rfl ?_); refine goesL_ (some 4) rfl rfl Try.func23 (by kernel_rfl) rfl #[.string a0, .string (⟨#[111, 110]⟩ : ByteArray)] rfl (by (try simp only [List.map_toArray, List.map_cons, List.map_nil]); first | done | rfl | (simp only [List.length_drop, List.length_take]; rfl)) ?_; (with_reducible refine (strings_HasPrefix.calls a0 (⟨#[111, 110]⟩ : ByteArray) true _ A2.out).mono ?_); rintro e w' ⟨rfl, ⟨nd, rfl⟩⟩; refine ⟨_, rfl, ?_⟩))
    go_ret
    exact ⟨by first | rfl | (simp; done) | (simp [*]; done) | (simp; generalize ByteArray.toList _ = l_; cases l_ <;> rfl), by repeat (first | exact Drawn0.refl _ | apply Drawn0.step)⟩
  · replace c3 := Bool.eq_false_iff.mpr c3
    subst c3
    have H1 : (some false) = some r := by rw [if_neg (show ¬ (false = true) by decide)] at H; exact H
    clear H
    have H := H1
    clear H1
    obtain rfl := Option.some.inj H
    go_enter Try.func10, Try.ntmps10
    go_wp2_with (first | ((with_reducible refine gate_callee (f := 23) rfl ?_); refine goesL_ (some 4) rfl rfl Try.func23 (by kernel_rfl) rfl #[.string a0, .string (⟨#[111, 110]⟩ : ByteArray)] rfl (by (try simp only [List.map_toArray, List.map_cons, List.map_nil]); first | done | rfl | (simp only [List.length_drop, List.length_take]; rfl)) ?_; (with_reducible refine (strings_HasPrefix.calls a0 (⟨#[111, 110]⟩ : ByteArray) false _ A2.out).mono ?_); rintro e w' ⟨rfl, ⟨nd, rfl⟩⟩; refine ⟨_, rfl, ?_⟩))
    go_ret
    exact ⟨by first | rfl | (simp; done) | (simp [*]; done) | (simp; generalize ByteArray.toList _ = l_; cases l_ <;> rfl), by repeat (first | exact Drawn0.refl _ | apply Drawn0.step)⟩

/-! ### risk_Element: function 16 -/
def risk_Element.f (a0 : ByteArray) : Option (Bool) := if a0.toList = ([98, 97, 115, 101] : List UInt8) then (some true) else (if a0.toList = ([101, 109, 98, 101, 100] : List UInt8) then (some true) else (if a0.toList = ([102, 114, 97, 109, 101] : List UInt8) then (some true) else (if a0.toList = ([105, 102, 114, 97, 109, 101] : List UInt8) then (some true) else (if a0.toList = ([108, 105, 110, 107] : List UInt8) then (some true) else (if a0.toList = ([109, 101, 116, 97] : List UInt8) then (some true) else (if a0.toList = ([111, 98, 106, 101, 99, 116] : List UInt8) then (some true) else (if a0.toList = ([115, 99, 114, 105, 112, 116] : List UInt8) then (some true) else (some false))))))))
set_option maxHeartbeats 8000000 in
set_option maxRecDepth 100000 in
theorem risk_Element.calls (a0 : ByteArray) (r : Bool) (w : World) (h : risk_Element.f a0 = some r) :
    Calls Try.prog 16 #[.string a0] w fun e w' => e = .returned (.bool r) ∧ Drawn0 w w' := by
  have H : (if a0.toList = ([98, 97, 115, 101] : List UInt8) then (some true) else (if a0.toList = ([101, 109, 98, 101, 100] : List UInt8) then (some true) else (if a0.toList = ([102, 114, 97, 109, 101] : List UInt8) then (some true) else (if a0.toList = ([105, 102, 114, 97, 109, 101] : List UInt8) then (some true) else (if a0.toList = ([108, 105, 110, 107] : List UInt8) then (some true) else (if a0.toList = ([109, 101, 116, 97] : List UInt8) then (some true) else (if a0.toList = ([111, 98, 106, 101, 99, 116] : List UInt8) then (some true) else (if a0.toList = ([115, 99, 114, 105, 112, 116] : List UInt8) then (some true) else (some false))))))))) = some r := h
  clear h
  by_cases c2 : a0.toList = ([98, 97, 115, 101] : List UInt8)
  · rw [if_pos c2] at H
    have c2b0 : (a0.toList == ([98, 97, 115, 101] : List UInt8)) = true := beq_iff_eq.mpr c2
    have c2b1 : (a0.toList != ([98, 97, 115, 101] : List UInt8)) = false := bne_eq_false_iff_eq.mpr c2
    clear c2
    obtain rfl := Option.some.inj H
    go_enter Try.func16, Try.ntmps16
    go_wp2
    go_ret
    exact ⟨by first | rfl | (simp; done) | (simp [*]; done) | (simp; generalize ByteArray.toList _ = l_; cases l_ <;> rfl), by repeat (first | exact Drawn0.refl _ | apply Drawn0.step)⟩
  · rw [if_neg c2] at H
    have c2b0 : (a0.toList == ([98, 97, 115, 101] : List UInt8)) = false := beq_eq_false_iff_ne.mpr c2
    have c2b1 : (a0.toList != ([98, 97, 115, 101] : List UInt8)) = true := bne_iff_ne.mpr c2
    by_cases c3 : a0.toList = ([101, 109, 98, 101, 100] : List UInt8)
    · rw [if_pos c3] at H
      have c3b0 : (a0.toList == ([101, 109, 98, 101, 100] : List UInt8)) = true := beq_iff_eq.mpr c3
      have c3b1 : (a0.toList != ([101, 109, 98, 101, 100] : List UInt8)) = false := bne_eq_false_iff_eq.mpr c3
      clear c3
      obtain rfl := Option.some.inj H
      go_enter Try.func16, Try.ntmps16
      go_wp2
      go_ret
      exact ⟨by first | rfl | (simp; done) | (simp [*]; done) | (simp; generalize ByteArray.toList _ = l_; cases l_ <;> rfl), by repeat (first | exact Drawn0.refl _ | apply Drawn0.step)⟩
    · rw [if_neg c3] at H
      have c3b0 : (a0.toList == ([101, 109, 98, 101, 100] : List UInt8)) = false := beq_eq_false_iff_ne.mpr c3
      have c3b1 : (a0.toList != ([101, 109, 98, 101, 100] : List UInt8)) = true := bne_iff_ne.mpr c3
      by_cases c4 : a0.toList = ([102, 114, 97, 109, 101] : List UInt8)
      · rw [if_pos c4] at H
        have c4b0 : (a0.toList == ([102, 114, 97, 109, 101] : List UInt8)) = true := beq_iff_eq.mpr c4
        have c4b1 : (a0.toList != ([102, 114, 97, 109, 101] : List UInt8)) = false := bne_eq_false_iff_eq.mpr c4
        clear c4
        obtain rfl := Option.some.inj H
        go_enter Try.func16, Try.ntmps16
        go_wp2
        go_ret
        exact ⟨by first | rfl | (simp; done) | (simp [*]; done) | (simp; generalize ByteArray.toList _ = l_; cases l_ <;> rfl), by repeat (first | exact Drawn0.refl _ | apply Drawn0.step)⟩
      · rw [if_neg c4] at H
        have c4b0 : (a0.toList == ([102, 114, 97, 109, 101] : List UInt8)) = false := beq_eq_false_iff_ne.mpr c4
        have c4b1 : (a0.toList != ([102, 114, 97, 109, 101] : List UInt8)) = true := bne_iff_ne.mpr c4
        by_cases c5 : a0.toList = ([105, 102, 114, 97, 109, 101] : List UInt8)
        · rw [if_pos c5] at H
          have c5b0 : (a0.toList == ([105, 102, 114, 97, 109, 101] : List UInt8)) = true := beq_iff_eq.mpr c5
          have c5b1 : (a0.toList != ([105, 102, 114, 97, 109, 101] : List UInt8)) = false := bne_eq_false_iff_eq.mpr c5
          clear c5
          obtain rfl := Option.some.inj H
          go_enter Try.func16, Try.ntmps16
          go_wp2
          go_ret
          exact ⟨by first | rfl | (simp; done) | (simp [*]; done) | (simp; generalize ByteArray.toList _ = l_; cases l_ <;> rfl), by repeat (first | exact Drawn0.refl _ | apply Drawn0.step)⟩
        · rw [if_neg c5] at H
          have c5b0 : (a0.toList == ([105, 102, 114, 97, 109, 101] : List UInt8)) = false := beq_eq_false_iff_ne.mpr c5
          have c5b1 : (a0.toList != ([105, 102, 114, 97, 109, 101] : List UInt8)) = true := bne_iff_ne.mpr c5
          by_cases c6 : a0.toList = ([108, 105, 110, 107] : List UInt8)
          · rw [if_pos c6] at H
            have c6b0 : (a0.toList == ([108, 105, 110, 107] : List UInt8)) = true := beq_iff_eq.mpr c6
            have c6b1 : (a0.toList != ([108, 105, 110, 107] : List UInt8)) = false := bne_eq_false_iff_eq.mpr c6
            clear c6
            obtain rfl := Option.some.inj H
            go_enter Try.func16, Try.ntmps16
            go_wp2
            go_ret
            exact ⟨by first | rfl | (simp; done) | (simp [*]; done) | (simp; generalize ByteArray.toList _ = l_; cases l_ <;> rfl), by repeat (first | exact Drawn0.refl _ | apply Drawn0.step)⟩
          · rw [if_neg c6] at H
            have c6b0 : (a0.toList == ([108, 105, 110, 107] : List UInt8)) = false := beq_eq_false_iff_ne.mpr c6
            have c6b1 : (a0.toList != ([108, 105, 110, 107] : List UInt8)) = true := bne_iff_ne.mpr c6
            by_cases c7 : a0.toList = ([109, 101, 116, 97] : List UInt8)
            · rw [if_pos c7] at H
              have c7b0 : (a0.toList == ([109, 101, 116, 97] : List UInt8)) = true := beq_iff_eq.mpr c7
              have c7b1 : (a0.toList != ([109, 101, 116, 97] : List UInt8)) = false := bne_eq_false_iff_eq.mpr c7
              clear c7
              obtain rfl := Option.some.inj H
              go_enter Try.func16, Try.ntmps16
              go_wp2
              go_ret
              exact ⟨by first | rfl | (simp; done) | (simp [*]; done) | (simp; generalize ByteArray.toList _ = l_; cases l_ <;> rfl), by repeat (first | exact Drawn0.refl _ | apply Drawn0.step)⟩
            · rw [if_neg c7] at H
              have c7b0 : (a0.toList == ([109, 101, 116, 97] : List UInt8)) = false := beq_eq_false_iff_ne.mpr c7
              have c7b1 : (a0.toList != ([109, 101, 116, 97] : List UInt8)) = true := bne_iff_ne.mpr c7
              by_cases c8 : a0.toList = ([111, 98, 106, 101, 99, 116] : List UInt8)
              · rw [if_pos c8] at H
                have c8b0 : (a0.toList == ([111, 98, 106, 101, 99, 116] : List UInt8)) = true := beq_iff_eq.mpr c8
                have c8b1 : (a0.toList != ([111, 98, 106, 101, 99, 116] : List UInt8)) = false := bne_eq_false_iff_eq.mpr c8
                clear c8
                obtain rfl := Option.some.inj H
                go_enter Try.func16, Try.ntmps16
                go_wp2
                go_ret
                exact ⟨by first | rfl | (simp; done) | (simp [*]; done) | (simp; generalize ByteArray.toList _ = l_; cases l_ <;> rfl), by repeat (first | exact Drawn0.refl _ | apply Drawn0.step)⟩
              · rw [if_neg c8] at H
                have c8b0 : (a0.toList == ([111, 98, 106, 101, 99, 116] : List UInt8)) = false := beq_eq_false_iff_ne.mpr c8
                have c8b1 : (a0.toList != ([111, 98, 106, 101, 99, 116] : List UInt8)) = true := bne_iff_ne.mpr c8
                by_cases c9 : a0.toList = ([115, 99, 114, 105, 112, 116] : List UInt8)
                · rw [if_pos c9] at H
                  have c9b0 : (a0.toList == ([115, 99, 114, 105, 112, 116] : List UInt8)) = true := beq_iff_eq.mpr c9
                  have c9b1 : (a0.toList != ([115, 99, 114, 105, 112, 116] : List UInt8)) = false := bne_eq_false_iff_eq.mpr c9
                  clear c9
                  obtain rfl := Option.some.inj H
                  go_enter Try.func16, Try.ntmps16
                  go_wp2
                  go_ret
                  exact ⟨by first | rfl | (simp; done) | (simp [*]; done) | (simp; generalize ByteArray.toList _ = l_; cases l_ <;> rfl), by repeat (first | exact Drawn0.refl _ | apply Drawn0.step)⟩
                · rw [if_neg c9] at H
                  have c9b0 : (a0.toList == ([115, 99, 114, 105, 112, 116] : List UInt8)) = false := beq_eq_false_iff_ne.mpr c9
                  have c9b1 : (a0.toList != ([115, 99, 114, 105, 112, 116] : List UInt8)) = true := bne_iff_ne.mpr c9
                  obtain rfl := Option.some.inj H
                  go_enter Try.func16, Try.ntmps16
                  go_wp2
                  go_ret
                  exact ⟨by first | rfl | (simp; done) | (simp [*]; done) | (simp; generalize ByteArray.toList _ = l_; cases l_ <;> rfl), by repeat (first | exact Drawn0.refl _ | apply Drawn0.step)⟩

/-! ### link_Script: function 29 -/
def link_Script.f (a0 : ByteArray) : Option (Bool) := (link_Scheme.f a0).bind fun bt103 => (some (bt103.1.toList == ([106, 97, 118, 97, 115, 99, 114, 105, 112, 116] : List UInt8)))
set_option maxHeartbeats 8000000 in
set_option maxRecDepth 100000 in
theorem link_Script.calls (a0 : ByteArray) (r : Bool) (w : World) (h : link_Script.f a0 = some r) :
    Calls Try.prog 29 #[.string a0] w fun e w' => e = .returned (.bool r) ∧ Below w.heap.size w w' := by
  have HB := Aside0.mk (Below.refl w.heap.size w)
  have H : ((link_Scheme.f a0).bind fun bt103 => (some (bt103.1.toList == ([106, 97, 118, 97, 115, 99, 114, 105, 112, 116] : List UInt8)))) = some r := h
  clear h
  replace H := Option.bind_eq_some_iff.mp H
  obtain ⟨⟨t103, t104⟩, A20, H⟩ := H
  replace H : (some (t103.toList == ([106, 97, 118, 97, 115, 99, 114, 105, 112, 116] : List UInt8))) = some r := H
  have A2 := Aside0.mk A20
  clear A20
  obtain rfl := Option.some.inj H
  go_enter Try.func29, Try.ntmps29
  go_wp2_with (first | ((with_reducible refine gate_callee (f := 33) rfl ?_); refine goesL_ (some 7) rfl rfl Try.func33 (by kernel_rfl) rfl #[.string a0] rfl (by (try simp only [List.map_toArray, List.map_cons, List.map_nil]); first | done | rfl | (simp only [List.length_drop, List.length_take]; rfl)) ?_; (with_reducible refine (link_Scheme.calls a0 t103 t104 _ A2.out).mono ?_); rintro e w3 ⟨rfl, hb⟩; refine ⟨_, rfl, ?_⟩; have n0_ := Aside0.mk (below_step (by repeat (first | (with_reducible first | exact HB.out | apply below_alloc | apply pw_below_drewN | apply below_drew1) | exact HB.out)) hb); clear HB; have HB := n0_; clear n0_; (try clear hb); (try clear hb2); (try clear hk); (try clear hi)))
  go_ret
  exact ⟨by first | rfl | (simp [errW_none, errW_some] <;> rfl) | (simp [*, errW_none, errW_some] <;> rfl), by repeat (first | (with_reducible first | exact HB.out | apply below_alloc | apply pw_below_drewN | apply below_drew1) | exact HB.out)⟩

/-! ### risk_Attr: function 19 -/
def risk_Attr.f (a0 : ByteArray) (a1_0 : ByteArray) (a1_1 : ByteArray) : Option (Bool) := (risk_Sink.f a0 a1_0).bind fun t106 => (if t106 = 0 then ((risk_Nav.f a0 a1_0).bind fun t107 => (if t107 = true then ((link_Script.f a1_1).bind fun t108 => (some t108)) else (some false))) else (some true))
set_option maxHeartbeats 8000000 in
set_option maxRecDepth 100000 in
theorem risk_Attr.calls (a0 : ByteArray) (a1_0 : ByteArray) (a1_1 : ByteArray) (r : Bool) (w : World) (h : risk_Attr.f a0 a1_0 a1_1 = some r) :
    Calls Try.prog 19 #[.string a0, .agg #[.string a1_0, .string a1_1]] w fun e w' => e = .returned (.bool r) ∧ Below w.heap.size w w' := by
  have hu30 := Try.underlying30
  have HB := Aside0.mk (Below.refl w.heap.size w)
  have H : ((risk_Sink.f a0 a1_0).bind fun t106 => (if t106 = 0 then ((risk_Nav.f a0 a1_0).bind fun t107 => (if t107 = true then ((link_Script.f a1_1).bind fun t108 => (some t108)) else (some false))) else (some true))) = some r := h
  clear h
  replace H := Option.bind_eq_some_iff.mp H
  obtain ⟨t106, A30, H⟩ := H
  replace H : (if t106 = 0 then ((risk_Nav.f a0 a1_0).bind fun t107 => (if t107 = true then ((link_Script.f a1_1).bind fun t108 => (some t108)) else (some false))) else (some true)) = some r := H
  have A3 := Aside0.mk A30
  clear A30
  by_cases c4 : t106 = 0
  · rw [if_pos c4] at H
    have c4b0 : (t106 == 0) = true := beq_iff_eq.mpr c4
    have c4b1 : (t106 != 0) = false := bne_eq_false_iff_eq.mpr c4
    clear c4
    replace H := Option.bind_eq_some_iff.mp H
    obtain ⟨t107, A50, H⟩ := H
    replace H : (if t107 = true then ((link_Script.f a1_1).bind fun t108 => (some t108)) else (some false)) = some r := H
    have A5 := Aside0.mk A50
    clear A50
    by_cases c6 : t107 = true
    · subst c6
      have H1 : ((link_Script.f a1_1).bind fun t108 => (some t108)) = some r := by rw [if_pos rfl] at H; exact H
      clear H
      have H := H1
      clear H1
      replace H := Option.bind_eq_some_iff.mp H
      obtain ⟨t108, A70, H⟩ := H
      replace H : (some t108) = some r := H
      have A7 := Aside0.mk A70
      clear A70
      obtain rfl := Option.some.inj H
      go_enter Try.func19, Try.ntmps19
      go_wp2_with (first | ((with_reducible refine gate_dst (N := 3) rfl ?_); refine box_event ?hg (N := 3) ?hd (cs := #[.string a1_0, .string a1_1]) (t := 30) ?hr ?_; (case hd => rfl); (case hg => rfl); (case hr => first | (go_simp; done) | (go_simp; rfl)); intro gb105 hg w8 hbox hb; have n0_ := Aside0.mk (below_step (by repeat (first | (with_reducible first | exact HB.out | apply below_alloc | apply pw_below_drewN | apply below_drew1) | exact HB.out)) hb); have n1_ := Aside0.mk (hbox); have n2_ := Aside0.mk ((by rw [hg]; exact (below_size (by repeat (first | (with_reducible first | exact HB.out | apply below_alloc | apply pw_below_drewN | apply below_drew1) | exact HB.out))) : w.heap.size ≤ gb105)); have n3_ := Aside0.mk ((by rw [hg]; exact (below_size (by repeat (first | (with_reducible first | exact HB.out | apply below_alloc | apply pw_below_drewN | apply below_drew1) | exact HB.out))) : w.heap.size ≤ gb105)); clear HB; have HB := n0_; have BK105 := n1_; have GW105 := n2_; have GE105 := n3_; clear n0_ n1_ n2_ n3_; clear hb hbox hg; have hcz9_0 : w8.cell? ⟨gb105, 0, none⟩ = some (.string a1_0) := (blk_cell BK105.out 0).trans rfl; have hcz9_1 : w8.cell? ⟨gb105, 1, none⟩ = some (.string a1_1) := (blk_cell BK105.out 1).trans rfl; have hfz9_0 := blk_frozen BK105.out 0; have hfz9_1 := blk_frozen BK105.out 1) | ((with_reducible refine gate_callee (f := 14) rfl ?_); refine goesL_ (some 8) rfl rfl Try.func14 (by kernel_rfl) rfl #[.string a0, .string a1_0] rfl (by (try simp only [List.map_toArray, List.map_cons, List.map_nil]); first | done | rfl | (simp only [List.length_drop, List.length_take]; rfl)) ?_; (with_reducible refine (risk_Sink.calls a0 a1_0 t106 _ A3.out).mono ?_); rintro e w10 ⟨rfl, hb⟩; refine ⟨_, rfl, ?_⟩; have n0_ := Aside0.mk (blk_below (g := gb105) (o := .cells #[.string a1_0, .string a1_1] 30 (0, 0)) (by (with_reducible repeat (first | refine blk_drewN ?_ _ | refine blk_drew ?_ | refine blk_alloc ?_ _)); exact BK105.out) hb); have n1_ := Aside0.mk (below_step (by repeat (first | (with_reducible first | exact HB.out | apply below_alloc | apply pw_below_drewN | apply below_drew1 | refine below_set ?_ GE105.out) | exact HB.out)) hb); clear BK105; clear HB; have BK105 := n0_; have HB := n1_; clear n0_ n1_; (try clear hb); (try clear hb2); (try clear hk); (try clear hi); have hcz11_0 : w10.cell? ⟨gb105, 0, none⟩ = some (.string a1_0) := (blk_cell BK105.out 0).trans rfl; have hcz11_1 : w10.cell? ⟨gb105, 1, none⟩ = some (.string a1_1) := (blk_cell BK105.out 1).trans rfl; have hfz11_0 := blk_frozen BK105.out 0; have hfz11_1 := blk_frozen BK105.out 1) | (go_at_call 12; (with_reducible refine (risk_Nav.calls a0 a1_0 true _ A5.out).mono ?_); rintro e w12 ⟨rfl, hb⟩; have n0_ := Aside0.mk (blk_below (g := gb105) (o := .cells #[.string a1_0, .string a1_1] 30 (0, 0)) (by (with_reducible repeat (first | refine blk_drewN ?_ _ | refine blk_drew ?_ | refine blk_alloc ?_ _)); exact BK105.out) hb); have n1_ := Aside0.mk (below_step (by repeat (first | (with_reducible first | exact HB.out | apply below_alloc | apply pw_below_drewN | apply below_drew1 | refine below_set ?_ GE105.out) | exact HB.out)) hb); clear BK105; clear HB; have BK105 := n0_; have HB := n1_; clear n0_ n1_; (try clear hb); (try clear hb2); (try clear hk); (try clear hi); have hcz13_0 : w12.cell? ⟨gb105, 0, none⟩ = some (.string a1_0) := (blk_cell BK105.out 0).trans rfl; have hcz13_1 : w12.cell? ⟨gb105, 1, none⟩ = some (.string a1_1) := (blk_cell BK105.out 1).trans rfl; have hfz13_0 := blk_frozen BK105.out 0; have hfz13_1 := blk_frozen BK105.out 1) | (go_at_call 29; (with_reducible refine (link_Script.calls a1_1 t108 _ A7.out).mono ?_); rintro e w14 ⟨rfl, hb⟩; have n0_ := Aside0.mk (blk_below (g := gb105) (o := .cells #[.string a1_0, .string a1_1] 30 (0, 0)) (by (with_reducible repeat (first | refine blk_drewN ?_ _ | refine blk_drew ?_ | refine blk_alloc ?_ _)); exact BK105.out) hb); have n1_ := Aside0.mk (below_step (by repeat (first | (with_reducible first | exact HB.out | apply below_alloc | apply pw_below_drewN | apply below_drew1 | refine below_set ?_ GE105.out) | exact HB.out)) hb); clear BK105; clear HB; have BK105 := n0_; have HB := n1_; clear n0_ n1_; (try clear hb); (try clear hb2); (try clear hk); (try clear hi)))
      go_ret
      exact ⟨by first | rfl | (simp [errW_none, errW_some] <;> rfl) | (simp [*, errW_none, errW_some] <;> rfl), by repeat (first | (with_reducible first | exact HB.out | apply below_alloc | apply pw_below_drewN | apply below_drew1 | refine below_set ?_ GE105.out) | exact HB.out)⟩
    · replace c6 := Bool.eq_false_iff.mpr c6
      subst c6
      have H1 : (some false) = some r := by rw [if_neg (show ¬ (false = true) by decide)] at H; exact H
      clear H
      have H := H1
      clear H1
      obtain rfl := Option.some.inj H
      go_enter Try.func19, Try.ntmps19
      go_wp2_with (first | ((with_reducible refine gate_dst (N := 3) rfl ?_); refine box_event ?hg (N := 3) ?hd (cs := #[.string a1_0, .string a1_1]) (t := 30) ?hr ?_; (case hd => rfl); (case hg => rfl); (case hr => first | (go_simp; done) | (go_simp; rfl)); intro gb105 hg w15 hbox hb; have n0_ := Aside0.mk (below_step (by repeat (first | (with_reducible first | exact HB.out | apply below_alloc | apply pw_below_drewN | apply below_drew1) | exact HB.out)) hb); have n1_ := Aside0.mk (hbox); have n2_ := Aside0.mk ((by rw [hg]; exact (below_size (by repeat (first | (with_reducible first | exact HB.out | apply below_alloc | apply pw_below_drewN | apply below_drew1) | exact HB.out))) : w.heap.size ≤ gb105)); have n3_ := Aside0.mk ((by rw [hg]; exact (below_size (by repeat (first | (with_reducible first | exact HB.out | apply below_alloc | apply pw_below_drewN | apply below_drew1) | exact HB.out))) : w.heap.size ≤ gb105)); clear HB; have HB := n0_; have BK105 := n1_; have GW105 := n2_; have GE105 := n3_; clear n0_ n1_ n2_ n3_; clear hb hbox hg; have hcz16_0 : w15.cell? ⟨gb105, 0, none⟩ = some (.string a1_0) := (blk_cell BK105.out 0).trans rfl; have hcz16_1 : w15.cell? ⟨gb105, 1, none⟩ = some (.string a1_1) := (blk_cell BK105.out 1).trans rfl; have hfz16_0 := blk_frozen BK105.out 0; have hfz16_1 := blk_frozen BK105.out 1) | ((with_reducible refine gate_callee (f := 14) rfl ?_); refine goesL_ (some 8) rfl rfl Try.func14 (by kernel_rfl) rfl #[.string a0, .string a1_0] rfl (by (try simp only [List.map_toArray, List.map_cons, List.map_nil]); first | done | rfl | (simp only [List.length_drop, List.length_take]; rfl)) ?_; (with_reducible refine (risk_Sink.calls a0 a1_0 t106 _ A3.out).mono ?_); rintro e w17 ⟨rfl, hb⟩; refine ⟨_, rfl, ?_⟩; have n0_ := Aside0.mk (blk_below (g := gb105) (o := .cells #[.string a1_0, .string a1_1] 30 (0, 0)) (by (with_reducible repeat (first | refine blk_drewN ?_ _ | refine blk_drew ?_ | refine blk_alloc ?_ _)); exact BK105.out) hb); have n1_ := Aside0.mk (below_step (by repeat (first | (with_reducible first | exact HB.out | apply below_alloc | apply pw_below_drewN | apply below_drew1 | refine below_set ?_ GE105.out) | exact HB.out)) hb); clear BK105; clear HB; have BK105 := n0_; have HB := n1_; clear n0_ n1_; (try clear hb); (try clear hb2); (try clear hk); (try clear hi); have hcz18_0 : w17.cell? ⟨gb105, 0, none⟩ = some (.string a1_0) := (blk_cell BK105.out 0).trans rfl; have hcz18_1 : w17.cell? ⟨gb105, 1, none⟩ = some (.string a1_1) := (blk_cell BK105.out 1).trans rfl; have hfz18_0 := blk_frozen BK105.out 0; have hfz18_1 := blk_frozen BK105.out 1) | (go_at_call 12; (with_reducible refine (risk_Nav.calls a0 a1_0 false _ A5.out).mono ?_); rintro e w19 ⟨rfl, hb⟩; have n0_ := Aside0.mk (blk_below (g := gb105) (o := .cells #[.string a1_0, .string a1_1] 30 (0, 0)) (by (with_reducible repeat (first | refine blk_drewN ?_ _ | refine blk_drew ?_ | refine blk_alloc ?_ _)); exact BK105.out) hb); have n1_ := Aside0.mk (below_step (by repeat (first | (with_reducible first | exact HB.out | apply below_alloc | apply pw_below_drewN | apply below_drew1 | refine below_set ?_ GE105.out) | exact HB.out)) hb); clear BK105; clear HB; have BK105 := n0_; have HB := n1_; clear n0_ n1_; (try clear hb); (try clear hb2); (try clear hk); (try clear hi)))
      go_ret
      exact ⟨by first | rfl | (simp [errW_none, errW_some] <;> rfl) | (simp [*, errW_none, errW_some] <;> rfl), by repeat (first | (with_reducible first | exact HB.out | apply below_alloc | apply pw_below_drewN | apply below_drew1 | refine below_set ?_ GE105.out) | exact HB.out)⟩
  · rw [if_neg c4] at H
    have c4b0 : (t106 == 0) = false := beq_eq_false_iff_ne.mpr c4
    have c4b1 : (t106 != 0) = true := bne_iff_ne.mpr c4
    obtain rfl := Option.some.inj H
    go_enter Try.func19, Try.ntmps19
    go_wp2_with (first | ((with_reducible refine gate_dst (N := 3) rfl ?_); refine box_event ?hg (N := 3) ?hd (cs := #[.string a1_0, .string a1_1]) (t := 30) ?hr ?_; (case hd => rfl); (case hg => rfl); (case hr => first | (go_simp; done) | (go_simp; rfl)); intro gb105 hg w20 hbox hb; have n0_ := Aside0.mk (below_step (by repeat (first | (with_reducible first | exact HB.out | apply below_alloc | apply pw_below_drewN | apply below_drew1) | exact HB.out)) hb); have n1_ := Aside0.mk (hbox); have n2_ := Aside0.mk ((by rw [hg]; exact (below_size (by repeat (first | (with_reducible first | exact HB.out | apply below_alloc | apply pw_below_drewN | apply below_drew1) | exact HB.out))) : w.heap.size ≤ gb105)); have n3_ := Aside0.mk ((by rw [hg]; exact (below_size (by repeat (first | (with_reducible first | exact HB.out | apply below_alloc | apply pw_below_drewN | apply below_drew1) | exact HB.out))) : w.heap.size ≤ gb105)); clear HB; have HB := n0_; have BK105 := n1_; have GW105 := n2_; have GE105 := n3_; clear n0_ n1_ n2_ n3_; clear hb hbox hg; have hcz21_0 : w20.cell? ⟨gb105, 0, none⟩ = some (.string a1_0) := (blk_cell BK105.out 0).trans rfl; have hcz21_1 : w20.cell? ⟨gb105, 1, none⟩ = some (.string a1_1) := (blk_cell BK105.out 1).trans rfl; have hfz21_0 := blk_frozen BK105.out 0; have hfz21_1 := blk_frozen BK105.out 1) | ((with_reducible refine gate_callee (f := 14) rfl ?_); refine goesL_ (some 8) rfl rfl Try.func14 (by kernel_rfl) rfl #[.string a0, .string a1_0] rfl (by (try simp only [List.map_toArray, List.map_cons, List.map_nil]); first | done | rfl | (simp only [List.length_drop, List.length_take]; rfl)) ?_; (with_reducible refine (risk_Sink.calls a0 a1_0 t106 _ A3.out).mono ?_); rintro e w22 ⟨rfl, hb⟩; refine ⟨_, rfl, ?_⟩; have n0_ := Aside0.mk (blk_below (g := gb105) (o := .cells #[.string a1_0, .string a1_1] 30 (0, 0)) (by (with_reducible repeat (first | refine blk_drewN ?_ _ | refine blk_drew ?_ | refine blk_alloc ?_ _)); exact BK105.out) hb); have n1_ := Aside0.mk (below_step (by repeat (first | (with_reducible first | exact HB.out | apply below_alloc | apply pw_below_drewN | apply below_drew1 | refine below_set ?_ GE105.out) | exact HB.out)) hb); clear BK105; clear HB; have BK105 := n0_; have HB := n1_; clear n0_ n1_; (try clear hb); (try clear hb2); (try clear hk); (try clear hi)))
    go_ret
    exact ⟨by first | rfl | (simp [errW_none, errW_some] <;> rfl) | (simp [*, errW_none, errW_some] <;> rfl), by repeat (first | (with_reducible first | exact HB.out | apply below_alloc | apply pw_below_drewN | apply below_drew1 | refine below_set ?_ GE105.out) | exact HB.out)⟩

/-! ### risk_Safe: function 22 -/
mutual
def risk_Safe.l0 : Nat → List (S37) → Int → Int → Option (Bool)
  | 0, _, _, _ => none
  | k + 1, x7, x8, x9 => if x9 < x8 then (if 0 ≤ x9 then (if x9 < (x7.length : Int) then (if ((rd_T37 x7 x9).f1) = 0 then ((risk_Element.f ((rd_T37 x7 x9).f2)).bind fun t111 => (if t111 = true then (some false) else (risk_Safe.l1 k x7 x8 x9 ((rd_T37 x7 x9).f4) (((rd_T37 x7 x9).f4).length : Int) 0 ((rd_T37 x7 x9).f0) ((rd_T37 x7 x9).f1) ((rd_T37 x7 x9).f2) ((rd_T37 x7 x9).f3) ((rd_T37 x7 x9).f4)))) else (risk_Safe.l0 k x7 x8 (wrap64 (x9 + 1)))) else (none)) else (none)) else (some true)
def risk_Safe.l1 : Nat → List (S37) → Int → Int → List (S30) → Int → Int → Int → Int → ByteArray → ByteArray → List (S30) → Option (Bool)
  | 0, _, _, _, _, _, _, _, _, _, _, _ => none
  | k + 1, x7, x8, x9, x20, x21, x22, x111000, x111001, x111002, x111003, x111004 => if x22 < x21 then (if 0 ≤ x22 then (if x22 < (x20.length : Int) then ((risk_Attr.f x111002 ((rd_T30 x20 x22).f0) ((rd_T30 x20 x22).f1)).bind fun t114 => (if t114 = true then (some false) else (risk_Safe.l1 k x7 x8 x9 x20 x21 (wrap64 (x22 + 1)) x111000 x111001 x111002 x111003 x111004))) else (none)) else (none)) else (risk_Safe.l0 k x7 x8 (wrap64 (x9 + 1)))
end
def risk_Safe.f (k : Nat) (l0 : List (S37)) : Option (Bool) := risk_Safe.l0 k l0 (l0.length : Int) 0
theorem risk_Safe.mono_l : ∀ k, (∀ y0 y1 y2, LeO (risk_Safe.l0 k y0 y1 y2) (risk_Safe.l0 (k + 1) y0 y1 y2)) ∧ (∀ y0 y1 y2 y3 y4 y5 y6 y7 y8 y9 y10, LeO (risk_Safe.l1 k y0 y1 y2 y3 y4 y5 y6 y7 y8 y9 y10) (risk_Safe.l1 (k + 1) y0 y1 y2 y3 y4 y5 y6 y7 y8 y9 y10))
  | 0 => ⟨fun _ _ _ r h => by simp [risk_Safe.l0] at h, fun _ _ _ _ _ _ _ _ _ _ _ r h => by simp [risk_Safe.l1] at h⟩
  | k + 1 => by
    obtain ⟨ih0, ih1⟩ := risk_Safe.mono_l k
    refine ⟨?_, ?_⟩
    · intro y0 y1 y2
      unfold risk_Safe.l0
      repeat' first
      | (with_reducible exact ih0 _ _ _)
      | (with_reducible exact ih1 _ _ _ _ _ _ _ _ _ _ _)
      | (with_reducible exact LeO.refl _)
      | (with_reducible exact LeO.none _)
      | (with_reducible refine LeO.ite ?_ ?_)
      | (with_reducible refine LeO.bind ?_ (fun _ => ?_))
      | exact ih0 _ _ _
      | exact ih1 _ _ _ _ _ _ _ _ _ _ _
      | exact LeO.none _
      | refine LeO.ite ?_ ?_
      | refine LeO.bind ?_ (fun _ => ?_)
    · intro y0 y1 y2 y3 y4 y5 y6 y7 y8 y9 y10
      unfold risk_Safe.l1
      repeat' first
      | (with_reducible exact ih0 _ _ _)
      | (with_reducible exact ih1 _ _ _ _ _ _ _ _ _ _ _)
      | (with_reducible exact LeO.refl _)
      | (with_reducible exact LeO.none _)
      | (with_reducible refine LeO.ite ?_ ?_)
      | (with_reducible refine LeO.bind ?_ (fun _ => ?_))
      | exact ih0 _ _ _
      | exact ih1 _ _ _ _ _ _ _ _ _ _ _
      | exact LeO.none _
      | refine LeO.ite ?_ ?_
      | refine LeO.bind ?_ (fun _ => ?_)
theorem risk_Safe.mono : ∀ a0 k, LeO (risk_Safe.f k a0) (risk_Safe.f (k + 1) a0) := by
  intro a0 k
  obtain ⟨ih0, ih1⟩ := risk_Safe.mono_l k
  unfold risk_Safe.f
  repeat' first
      | (with_reducible exact ih0 _ _ _)
      | (with_reducible exact ih1 _ _ _ _ _ _ _ _ _ _ _)
      | (with_reducible exact LeO.refl _)
      | (with_reducible exact LeO.none _)
      | (with_reducible refine LeO.ite ?_ ?_)
      | (with_reducible refine LeO.bind ?_ (fun _ => ?_))
      | exact ih0 _ _ _
      | exact ih1 _ _ _ _ _ _ _ _ _ _ _
      | exact LeO.none _
      | refine LeO.ite ?_ ?_
      | refine LeO.bind ?_ (fun _ => ?_)
set_option maxHeartbeats 8000000 in
set_option maxRecDepth 100000 in
theorem risk_Safe.calls (k : Nat) (A0 : Option Addr) (c0 : Nat) (l0 : List (S37)) (r : Bool) (w : World) (hr0 : Kd.C k37 w A0 l0.length l0) (hc0 : l0.length ≤ c0) (h : risk_Safe.f k l0 = some r) :
    Calls Try.prog 22 #[.slice A0 l0.length c0] w fun e w' => e = .returned (.bool r) ∧ Below w.heap.size w w' := by
  have hu37 := Try.underlying37
  have hu30 := Try.underlying30
  have HR0 := Aside0.mk hr0
  have HC0 := Aside0.mk hc0
  clear hr0 hc0
  have HB := Aside0.mk (Below.refl w.heap.size w)
  have H : (risk_Safe.l0 k l0 (l0.length : Int) 0) = some r := h
  clear h
  have H' := Aside0.mk H
  clear H
  go_enter Try.func22, Try.ntmps22
  go_wp2
  go_loopg [9] k (fun kq v9 w' => ∃ (x9_1 : Int), v9 = .int .i64 x9_1 ∧ Aside0 (risk_Safe.l0 kq l0 (l0.length : Int) x9_1 = some r) ∧ Aside0 (kq ≤ k) ∧ Aside0 (Below w.heap.size w w'))
  case atStart => exact ⟨(0), (by first | rfl | (simp; done) | (simp [*]; done)), H', ⟨Nat.le_refl _⟩, ⟨by repeat (first | (with_reducible first | exact HB.out | apply below_alloc | apply pw_below_drewN | apply below_drew1) | exact HB.out)⟩⟩
  case round =>
    clear H'
    obtain ⟨x9_1, rfl, HA, HK1, HB⟩ := hrel
    cases gk with
    | zero => exact absurd HA.out (by simp [risk_Safe.l0])
    | succ k1 =>
      have H := HA.out
      clear HA
      simp only [risk_Safe.l0] at H
      by_cases c2 : x9_1 < (l0.length : Int)
      · rw [if_pos c2] at H
        have c2b0 : decide (x9_1 < (l0.length : Int)) = true := decide_eq_true c2
        clear c2
        by_cases c3 : 0 ≤ x9_1
        · rw [if_pos c3] at H
          have c3b0 : decide (0 ≤ x9_1) = true := decide_eq_true c3
          clear c3
          by_cases c4 : x9_1 < (l0.length : Int)
          · rw [if_pos c4] at H
            have c4b0 : decide (x9_1 < (l0.length : Int)) = true := decide_eq_true c4
            clear c4
            by_cases c5 : ((rd_T37 l0 x9_1).f1) = 0
            · rw [if_pos c5] at H
              have c5b0 : (((rd_T37 l0 x9_1).f1) == 0) = true := beq_iff_eq.mpr c5
              have c5b1 : (((rd_T37 l0 x9_1).f1) != 0) = false := bne_eq_false_iff_eq.mpr c5
              clear c5
              replace H := Option.bind_eq_some_iff.mp H
              obtain ⟨t111, A60, H⟩ := H
              replace H : (if t111 = true then (some false) else (risk_Safe.l1 k1 l0 (l0.length : Int) x9_1 ((rd_T37 l0 x9_1).f4) (((rd_T37 l0 x9_1).f4).length : Int) 0 ((rd_T37 l0 x9_1).f0) ((rd_T37 l0 x9_1).f1) ((rd_T37 l0 x9_1).f2) ((rd_T37 l0 x9_1).f3) ((rd_T37 l0 x9_1).f4))) = some r := H
              have A6 := Aside0.mk A60
              clear A60
              by_cases c7 : t111 = true
              · subst c7
                have H1 : (some false) = some r := by rw [if_pos rfl] at H; exact H
                clear H
                have H := H1
                clear H1
                obtain rfl := Option.some.inj H
                have p109 : 0 ≤ (x9_1 : Int) := of_decide_eq_true (by first | (with_reducible assumption) | assumption)
                have q109 : x9_1 < (l0.length : Int) := of_decide_eq_true (by first | (with_reducible assumption) | assumption)
                obtain ⟨ad109, A109_4, c109_4, e109, hx109_0, hx109_1, hx109_2, hx109_3, hx109_4, hl109_4, hi109_4⟩ := at_T37 HR0.out x9_1 p109 q109
                cases e109
                replace hx109_0 := (HB.out.cell (World.block_lt_of_cell? w _ hx109_0)).trans hx109_0
                replace hx109_1 := (HB.out.cell (World.block_lt_of_cell? w _ hx109_1)).trans hx109_1
                replace hx109_2 := (HB.out.cell (World.block_lt_of_cell? w _ hx109_2)).trans hx109_2
                replace hx109_3 := (HB.out.cell (World.block_lt_of_cell? w _ hx109_3)).trans hx109_3
                replace hx109_4 := (HB.out.cell (World.block_lt_of_cell? w _ hx109_4)).trans hx109_4
                have HR109_4 := Aside0.mk hi109_4
                have HC109_4 := Aside0.mk hl109_4
                clear hi109_4 hl109_4
                replace p109 := eq_true p109
                replace q109 := eq_true q109
                go_wp2_with (first | ((with_reducible refine gate_dst (N := 4) rfl ?_); refine box_event ?hg (N := 4) ?hd (cs := #[.int .i64 0, .int .i64 0, .string (⟨#[]⟩ : ByteArray), .string (⟨#[]⟩ : ByteArray), .slice none 0 0]) (t := 37) ?hr ?_; (case hd => rfl); (case hg => rfl); (case hr => first | (go_simp; done) | (go_simp; rfl)); intro gb110 hg w8 hbox hb; have n0_ := Aside0.mk (below_step (by repeat (first | (with_reducible first | exact HB.out | apply below_alloc | apply pw_below_drewN | apply below_drew1) | exact HB.out)) hb); have n1_ := Aside0.mk (hbox); have n2_ := Aside0.mk ((by rw [hg]; exact (below_size (by repeat (first | (with_reducible first | exact HB.out | apply below_alloc | apply pw_below_drewN | apply below_drew1) | exact HB.out))) : w.heap.size ≤ gb110)); have n3_ := Aside0.mk ((by rw [hg]; exact (below_size (by repeat (first | (with_reducible first | exact HB.out | apply below_alloc | apply pw_below_drewN | apply below_drew1) | exact HB.out))) : w.heap.size ≤ gb110)); clear HB; have HB := n0_; have BK110 := n1_; have GW110 := n2_; have GE110 := n3_; clear n0_ n1_ n2_ n3_; clear hb hbox hg; have hcz9_0 : w8.cell? ⟨gb110, 0, none⟩ = some (.int .i64 0) := (blk_cell BK110.out 0).trans rfl; have hcz9_1 : w8.cell? ⟨gb110, 1, none⟩ = some (.int .i64 0) := (blk_cell BK110.out 1).trans rfl; have hcz9_2 : w8.cell? ⟨gb110, 2, none⟩ = some (.string (⟨#[]⟩ : ByteArray)) := (blk_cell BK110.out 2).trans rfl; have hcz9_3 : w8.cell? ⟨gb110, 3, none⟩ = some (.string (⟨#[]⟩ : ByteArray)) := (blk_cell BK110.out 3).trans rfl; have hcz9_4 : w8.cell? ⟨gb110, 4, none⟩ = some (.slice none 0 0) := (blk_cell BK110.out 4).trans rfl; have hfz9_0 := blk_frozen BK110.out 0; have hfz9_1 := blk_frozen BK110.out 1; have hfz9_2 := blk_frozen BK110.out 2; have hfz9_3 := blk_frozen BK110.out 3; have hfz9_4 := blk_frozen BK110.out 4) | ((with_reducible refine gate_callee (f := 16) rfl ?_); refine goesL_ (some 18) rfl rfl Try.func16 (by kernel_rfl) rfl #[.string ((rd_T37 l0 x9_1).f2)] rfl (by (try simp only [List.map_toArray, List.map_cons, List.map_nil]); first | done | rfl | (simp only [List.length_drop, List.length_take]; rfl)) ?_; (with_reducible refine (risk_Element.calls ((rd_T37 l0 x9_1).f2) true _ A6.out).mono ?_); rintro e w' ⟨rfl, ⟨nd, rfl⟩⟩; refine ⟨_, rfl, ?_⟩))
                go_ret
                exact ⟨by first | rfl | (simp [errW_none, errW_some] <;> rfl) | (simp [*, errW_none, errW_some] <;> rfl), by repeat (first | (with_reducible first | exact HB.out | apply below_alloc | apply pw_below_drewN | apply below_drew1 | refine below_set ?_ GE110.out) | exact HB.out)⟩
              · replace c7 := Bool.eq_false_iff.mpr c7
                subst c7
                have H1 : (risk_Safe.l1 k1 l0 (l0.length : Int) x9_1 ((rd_T37 l0 x9_1).f4) (((rd_T37 l0 x9_1).f4).length : Int) 0 ((rd_T37 l0 x9_1).f0) ((rd_T37 l0 x9_1).f1) ((rd_T37 l0 x9_1).f2) ((rd_T37 l0 x9_1).f3) ((rd_T37 l0 x9_1).f4)) = some r := by rw [if_neg (show ¬ (false = true) by decide)] at H; exact H
                clear H
                have H := H1
                clear H1
                have H' := Aside0.mk H
                clear H
                have p109 : 0 ≤ (x9_1 : Int) := of_decide_eq_true (by first | (with_reducible assumption) | assumption)
                have q109 : x9_1 < (l0.length : Int) := of_decide_eq_true (by first | (with_reducible assumption) | assumption)
                obtain ⟨ad109, A109_4, c109_4, e109, hx109_0, hx109_1, hx109_2, hx109_3, hx109_4, hl109_4, hi109_4⟩ := at_T37 HR0.out x9_1 p109 q109
                cases e109
                replace hx109_0 := (HB.out.cell (World.block_lt_of_cell? w _ hx109_0)).trans hx109_0
                replace hx109_1 := (HB.out.cell (World.block_lt_of_cell? w _ hx109_1)).trans hx109_1
                replace hx109_2 := (HB.out.cell (World.block_lt_of_cell? w _ hx109_2)).trans hx109_2
                replace hx109_3 := (HB.out.cell (World.block_lt_of_cell? w _ hx109_3)).trans hx109_3
                replace hx109_4 := (HB.out.cell (World.block_lt_of_cell? w _ hx109_4)).trans hx109_4
                have HR109_4 := Aside0.mk hi109_4
                have HC109_4 := Aside0.mk hl109_4
                clear hi109_4 hl109_4
                replace p109 := eq_true p109
                replace q109 := eq_true q109
                go_wp2_with (first | ((with_reducible refine gate_dst (N := 4) rfl ?_); refine box_event ?hg (N := 4) ?hd (cs := #[.int .i64 0, .int .i64 0, .string (⟨#[]⟩ : ByteArray), .string (⟨#[]⟩ : ByteArray), .slice none 0 0]) (t := 37) ?hr ?_; (case hd => rfl); (case hg => rfl); (case hr => first | (go_simp; done) | (go_simp; rfl)); intro gb110 hg w10 hbox hb; have n0_ := Aside0.mk (below_step (by repeat (first | (with_reducible first | exact HB.out | apply below_alloc | apply pw_below_drewN | apply below_drew1) | exact HB.out)) hb); have n1_ := Aside0.mk (hbox); have n2_ := Aside0.mk ((by rw [hg]; exact (below_size (by repeat (first | (with_reducible first | exact HB.out | apply below_alloc | apply pw_below_drewN | apply below_drew1) | exact HB.out))) : w.heap.size ≤ gb110)); have n3_ := Aside0.mk ((by rw [hg]; exact (below_size (by repeat (first | (with_reducible first | exact HB.out | apply below_alloc | apply pw_below_drewN | apply below_drew1) | exact HB.out))) : w.heap.size ≤ gb110)); clear HB; have HB := n0_; have BK110 := n1_; have GW110 := n2_; have GE110 := n3_; clear n0_ n1_ n2_ n3_; clear hb hbox hg; have hcz11_0 : w10.cell? ⟨gb110, 0, none⟩ = some (.int .i64 0) := (blk_cell BK110.out 0).trans rfl; have hcz11_1 : w10.cell? ⟨gb110, 1, none⟩ = some (.int .i64 0) := (blk_cell BK110.out 1).trans rfl; have hcz11_2 : w10.cell? ⟨gb110, 2, none⟩ = some (.string (⟨#[]⟩ : ByteArray)) := (blk_cell BK110.out 2).trans rfl; have hcz11_3 : w10.cell? ⟨gb110, 3, none⟩ = some (.string (⟨#[]⟩ : ByteArray)) := (blk_cell BK110.out 3).trans rfl; have hcz11_4 : w10.cell? ⟨gb110, 4, none⟩ = some (.slice none 0 0) := (blk_cell BK110.out 4).trans rfl; have hfz11_0 := blk_frozen BK110.out 0; have hfz11_1 := blk_frozen BK110.out 1; have hfz11_2 := blk_frozen BK110.out 2; have hfz11_3 := blk_frozen BK110.out 3; have hfz11_4 := blk_frozen BK110.out 4) | ((with_reducible refine gate_callee (f := 16) rfl ?_); refine goesL_ (some 18) rfl rfl Try.func16 (by kernel_rfl) rfl #[.string ((rd_T37 l0 x9_1).f2)] rfl (by (try simp only [List.map_toArray, List.map_cons, List.map_nil]); first | done | rfl | (simp only [List.length_drop, List.length_take]; rfl)) ?_; (with_reducible refine (risk_Element.calls ((rd_T37 l0 x9_1).f2) false _ A6.out).mono ?_); rintro e w' ⟨rfl, ⟨nd, rfl⟩⟩; refine ⟨_, rfl, ?_⟩))
                go_loopg [22] k1 (fun kq v22 w' => ∃ (x22_2 : Int), v22 = .int .i64 x22_2 ∧ Aside0 (risk_Safe.l1 kq l0 (l0.length : Int) x9_1 ((rd_T37 l0 x9_1).f4) (((rd_T37 l0 x9_1).f4).length : Int) x22_2 ((rd_T37 l0 x9_1).f0) ((rd_T37 l0 x9_1).f1) ((rd_T37 l0 x9_1).f2) ((rd_T37 l0 x9_1).f3) ((rd_T37 l0 x9_1).f4) = some r) ∧ Aside0 (kq ≤ k1) ∧ Aside0 (w'.heap[gb110]? = some (.cells #[.int .i64 ((rd_T37 l0 x9_1).f0), .int .i64 ((rd_T37 l0 x9_1).f1), .string ((rd_T37 l0 x9_1).f2), .string ((rd_T37 l0 x9_1).f3), (.slice A109_4 ((rd_T37 l0 x9_1).f4).length c109_4)] 37 (0, 0))) ∧ Aside0 (Below w.heap.size w w'))
                case atStart => exact ⟨(0), (by first | rfl | (simp; done) | (simp [*]; done)), H', ⟨Nat.le_refl _⟩, ⟨by (with_reducible repeat (first | refine blk_drewN ?_ _ | refine blk_drew ?_ | refine blk_alloc ?_ _)); refine blk_put (cs := #[.int .i64 ((rd_T37 l0 x9_1).f0), .int .i64 ((rd_T37 l0 x9_1).f1), .string ((rd_T37 l0 x9_1).f2), .string ((rd_T37 l0 x9_1).f3), .slice none 0 0]) ?_ 4 _ rfl; (with_reducible repeat (first | refine blk_drewN ?_ _ | refine blk_drew ?_ | refine blk_alloc ?_ _)); refine blk_put (cs := #[.int .i64 ((rd_T37 l0 x9_1).f0), .int .i64 ((rd_T37 l0 x9_1).f1), .string ((rd_T37 l0 x9_1).f2), .string (⟨#[]⟩ : ByteArray), .slice none 0 0]) ?_ 3 _ rfl; (with_reducible repeat (first | refine blk_drewN ?_ _ | refine blk_drew ?_ | refine blk_alloc ?_ _)); refine blk_put (cs := #[.int .i64 ((rd_T37 l0 x9_1).f0), .int .i64 ((rd_T37 l0 x9_1).f1), .string (⟨#[]⟩ : ByteArray), .string (⟨#[]⟩ : ByteArray), .slice none 0 0]) ?_ 2 _ rfl; (with_reducible repeat (first | refine blk_drewN ?_ _ | refine blk_drew ?_ | refine blk_alloc ?_ _)); refine blk_put (cs := #[.int .i64 ((rd_T37 l0 x9_1).f0), .int .i64 0, .string (⟨#[]⟩ : ByteArray), .string (⟨#[]⟩ : ByteArray), .slice none 0 0]) ?_ 1 _ rfl; (with_reducible repeat (first | refine blk_drewN ?_ _ | refine blk_drew ?_ | refine blk_alloc ?_ _)); refine blk_put (cs := #[.int .i64 0, .int .i64 0, .string (⟨#[]⟩ : ByteArray), .string (⟨#[]⟩ : ByteArray), .slice none 0 0]) ?_ 0 _ rfl; (with_reducible repeat (first | refine blk_drewN ?_ _ | refine blk_drew ?_ | refine blk_alloc ?_ _)); exact BK110.out⟩, ⟨by repeat (first | (with_reducible first | exact HB.out | apply below_alloc | apply pw_below_drewN | apply below_drew1 | refine below_set ?_ GE110.out) | exact HB.out)⟩⟩
                case round =>
                  clear H'
                  try clear c1
                  try clear p1
                  try clear q1
                  try clear hx1
                  try clear c2
                  try clear c2b0
                  try clear p2
                  try clear c3
                  try clear c3b0
                  try clear c4
                  try clear c4b0
                  try clear c5
                  try clear c5b0
                  try clear c5b1
                  try clear c7
                  try clear c10
                  try clear p10
                  try clear q10
                  try clear hx10
                  try clear hcz11_0
                  try clear hcz11_1
                  try clear hcz11_2
                  try clear hcz11_3
                  try clear hcz11_4
                  try clear hcz9_0
                  try clear hcz9_1
                  try clear hcz9_2
                  try clear hcz9_3
                  try clear hcz9_4
                  try clear hfz11_0
                  try clear hfz11_1
                  try clear hfz11_2
                  try clear hfz11_3
                  try clear hfz11_4
                  try clear hfz9_0
                  try clear hfz9_1
                  try clear hfz9_2
                  try clear hfz9_3
                  try clear hfz9_4
                  try clear hx109_0
                  try clear hx109_1
                  try clear hx109_2
                  try clear hx109_3
                  try clear hx109_4
                  try clear p109
                  try clear q109
                  obtain ⟨x22_2, rfl, HA, HK2, BK110, HB⟩ := hrel
                  cases gk with
                  | zero => exact absurd HA.out (by simp [risk_Safe.l1])
                  | succ k2 =>
                    have H := HA.out
                    clear HA
                    simp only [risk_Safe.l1] at H
                    by_cases c12 : x22_2 < (((rd_T37 l0 x9_1).f4).length : Int)
                    · rw [if_pos c12] at H
                      have c12b0 : decide (x22_2 < (((rd_T37 l0 x9_1).f4).length : Int)) = true := decide_eq_true c12
                      clear c12
                      by_cases c13 : 0 ≤ x22_2
                      · rw [if_pos c13] at H
                        have c13b0 : decide (0 ≤ x22_2) = true := decide_eq_true c13
                        clear c13
                        by_cases c14 : x22_2 < (((rd_T37 l0 x9_1).f4).length : Int)
                        · rw [if_pos c14] at H
                          have c14b0 : decide (x22_2 < (((rd_T37 l0 x9_1).f4).length : Int)) = true := decide_eq_true c14
                          clear c14
                          replace H := Option.bind_eq_some_iff.mp H
                          obtain ⟨t114, A150, H⟩ := H
                          replace H : (if t114 = true then (some false) else (risk_Safe.l1 k2 l0 (l0.length : Int) x9_1 ((rd_T37 l0 x9_1).f4) (((rd_T37 l0 x9_1).f4).length : Int) (wrap64 (x22_2 + 1)) ((rd_T37 l0 x9_1).f0) ((rd_T37 l0 x9_1).f1) ((rd_T37 l0 x9_1).f2) ((rd_T37 l0 x9_1).f3) ((rd_T37 l0 x9_1).f4))) = some r := H
                          have A15 := Aside0.mk A150
                          clear A150
                          by_cases c16 : t114 = true
                          · subst c16
                            have H1 : (some false) = some r := by rw [if_pos rfl] at H; exact H
                            clear H
                            have H := H1
                            clear H1
                            obtain rfl := Option.some.inj H
                            have p112 : 0 ≤ (x22_2 : Int) := of_decide_eq_true (by first | (with_reducible assumption) | assumption)
                            have q112 : x22_2 < (((rd_T37 l0 x9_1).f4).length : Int) := of_decide_eq_true (by first | (with_reducible assumption) | assumption)
                            obtain ⟨ad112, e112, hx112_0, hx112_1⟩ := at_T30 HR109_4.out x22_2 p112 q112
                            cases e112
                            replace hx112_0 := (HB.out.cell (World.block_lt_of_cell? w _ hx112_0)).trans hx112_0
                            replace hx112_1 := (HB.out.cell (World.block_lt_of_cell? w _ hx112_1)).trans hx112_1
                            replace p112 := eq_true p112
                            replace q112 := eq_true q112
                            go_wp2_with (first | ((with_reducible refine gate_dst (N := 6) rfl ?_); refine box_event ?hg (N := 6) ?hd (cs := #[.string (⟨#[]⟩ : ByteArray), .string (⟨#[]⟩ : ByteArray)]) (t := 30) ?hr ?_; (case hd => rfl); (case hg => rfl); (case hr => first | (go_simp; done) | (go_simp; rfl)); intro gb113 hg w17 hbox hb; have n0_ := Aside0.mk (blk_below (g := gb110) (o := .cells #[.int .i64 ((rd_T37 l0 x9_1).f0), .int .i64 ((rd_T37 l0 x9_1).f1), .string ((rd_T37 l0 x9_1).f2), .string ((rd_T37 l0 x9_1).f3), .slice (some ad112) ((rd_T37 l0 x9_1).f4).length c109_4] 37 (0, 0)) (by (with_reducible repeat (first | refine blk_drewN ?_ _ | refine blk_drew ?_ | refine blk_alloc ?_ _)); exact BK110.out) hb); have n1_ := Aside0.mk (below_step (by repeat (first | (with_reducible first | exact HB.out | apply below_alloc | apply pw_below_drewN | apply below_drew1 | refine below_set ?_ GE110.out) | exact HB.out)) hb); have n2_ := Aside0.mk (hbox); have n3_ := Aside0.mk ((by rw [hg]; exact (below_size (by repeat (first | (with_reducible first | exact HB.out | apply below_alloc | apply pw_below_drewN | apply below_drew1 | refine below_set ?_ GE110.out) | exact HB.out))) : w.heap.size ≤ gb113)); have n4_ := Aside0.mk ((by rw [hg]; exact (below_size (by repeat (first | (with_reducible first | exact HB.out | apply below_alloc | apply pw_below_drewN | apply below_drew1 | refine below_set ?_ GE110.out) | exact HB.out))) : w.heap.size ≤ gb113)); have n5_ := Aside0.mk ((by rw [hg]; exact Nat.ne_of_lt (blk_lt (g := gb110) (o := .cells #[.int .i64 ((rd_T37 l0 x9_1).f0), .int .i64 ((rd_T37 l0 x9_1).f1), .string ((rd_T37 l0 x9_1).f2), .string ((rd_T37 l0 x9_1).f3), .slice (some ad112) ((rd_T37 l0 x9_1).f4).length c109_4] 37 (0, 0)) (by (with_reducible repeat (first | refine blk_drewN ?_ _ | refine blk_drew ?_ | refine blk_alloc ?_ _)); exact BK110.out)) : gb110 ≠ gb113)); have n6_ := Aside0.mk ((by rw [hg]; exact Nat.ne_of_gt (blk_lt (g := gb110) (o := .cells #[.int .i64 ((rd_T37 l0 x9_1).f0), .int .i64 ((rd_T37 l0 x9_1).f1), .string ((rd_T37 l0 x9_1).f2), .string ((rd_T37 l0 x9_1).f3), .slice (some ad112) ((rd_T37 l0 x9_1).f4).length c109_4] 37 (0, 0)) (by (with_reducible repeat (first | refine blk_drewN ?_ _ | refine blk_drew ?_ | refine blk_alloc ?_ _)); exact BK110.out)) : gb113 ≠ gb110)); clear BK110; clear HB; have BK110 := n0_; have HB := n1_; have BK113 := n2_; have GW113 := n3_; have GE113 := n4_; have NB110_113 := n5_; have NB113_110 := n6_; clear n0_ n1_ n2_ n3_ n4_ n5_ n6_; clear hb hbox hg; have hnb18 := NB113_110.out; have hnc18 := NB110_113.out; have hcz19_0 : w17.cell? ⟨gb113, 0, none⟩ = some (.string (⟨#[]⟩ : ByteArray)) := (blk_cell BK113.out 0).trans rfl; have hcz19_1 : w17.cell? ⟨gb113, 1, none⟩ = some (.string (⟨#[]⟩ : ByteArray)) := (blk_cell BK113.out 1).trans rfl; have hfz19_0 := blk_frozen BK113.out 0; have hfz19_1 := blk_frozen BK113.out 1; have hcz20_0 : w17.cell? ⟨gb110, 0, none⟩ = some (.int .i64 ((rd_T37 l0 x9_1).f0)) := (blk_cell BK110.out 0).trans rfl; have hcz20_1 : w17.cell? ⟨gb110, 1, none⟩ = some (.int .i64 ((rd_T37 l0 x9_1).f1)) := (blk_cell BK110.out 1).trans rfl; have hcz20_2 : w17.cell? ⟨gb110, 2, none⟩ = some (.string ((rd_T37 l0 x9_1).f2)) := (blk_cell BK110.out 2).trans rfl; have hcz20_3 : w17.cell? ⟨gb110, 3, none⟩ = some (.string ((rd_T37 l0 x9_1).f3)) := (blk_cell BK110.out 3).trans rfl; have hcz20_4 : w17.cell? ⟨gb110, 4, none⟩ = some (.slice (some ad112) ((rd_T37 l0 x9_1).f4).length c109_4) := (blk_cell BK110.out 4).trans rfl; have hfz20_0 := blk_frozen BK110.out 0; have hfz20_1 := blk_frozen BK110.out 1; have hfz20_2 := blk_frozen BK110.out 2; have hfz20_3 := blk_frozen BK110.out 3; have hfz20_4 := blk_frozen BK110.out 4) | ((with_reducible refine gate_callee (f := 19) rfl ?_); refine goesL_ (some 29) rfl rfl Try.func19 (by kernel_rfl) rfl #[.string ((rd_T37 l0 x9_1).f2), .agg #[.string ((rd_T30 ((rd_T37 l0 x9_1).f4) x22_2).f0), .string ((rd_T30 ((rd_T37 l0 x9_1).f4) x22_2).f1)]] rfl (by (try simp only [List.map_toArray, List.map_cons, List.map_nil]); first | done | rfl | (simp only [List.length_drop, List.length_take]; rfl)) ?_; (with_reducible refine (risk_Attr.calls ((rd_T37 l0 x9_1).f2) ((rd_T30 ((rd_T37 l0 x9_1).f4) x22_2).f0) ((rd_T30 ((rd_T37 l0 x9_1).f4) x22_2).f1) true _ A15.out).mono ?_); rintro e w21 ⟨rfl, hb⟩; refine ⟨_, rfl, ?_⟩; have n0_ := Aside0.mk (blk_below (g := gb110) (o := .cells #[.int .i64 ((rd_T37 l0 x9_1).f0), .int .i64 ((rd_T37 l0 x9_1).f1), .string ((rd_T37 l0 x9_1).f2), .string ((rd_T37 l0 x9_1).f3), .slice (some ad112) ((rd_T37 l0 x9_1).f4).length c109_4] 37 (0, 0)) (by (with_reducible repeat (first | refine blk_drewN ?_ _ | refine blk_drew ?_ | refine blk_alloc ?_ _)); refine blk_far ?_ NB110_113.out _; (with_reducible repeat (first | refine blk_drewN ?_ _ | refine blk_drew ?_ | refine blk_alloc ?_ _)); refine blk_far ?_ NB110_113.out _; (with_reducible repeat (first | refine blk_drewN ?_ _ | refine blk_drew ?_ | refine blk_alloc ?_ _)); exact BK110.out) hb); have n1_ := Aside0.mk (blk_below (g := gb113) (o := .cells #[.string ((rd_T30 ((rd_T37 l0 x9_1).f4) x22_2).f0), .string ((rd_T30 ((rd_T37 l0 x9_1).f4) x22_2).f1)] 30 (0, 0)) (by (with_reducible repeat (first | refine blk_drewN ?_ _ | refine blk_drew ?_ | refine blk_alloc ?_ _)); refine blk_put (cs := #[.string ((rd_T30 ((rd_T37 l0 x9_1).f4) x22_2).f0), .string (⟨#[]⟩ : ByteArray)]) ?_ 1 _ rfl; (with_reducible repeat (first | refine blk_drewN ?_ _ | refine blk_drew ?_ | refine blk_alloc ?_ _)); refine blk_put (cs := #[.string (⟨#[]⟩ : ByteArray), .string (⟨#[]⟩ : ByteArray)]) ?_ 0 _ rfl; (with_reducible repeat (first | refine blk_drewN ?_ _ | refine blk_drew ?_ | refine blk_alloc ?_ _)); exact BK113.out) hb); have n2_ := Aside0.mk (below_step (by repeat (first | (with_reducible first | exact HB.out | apply below_alloc | apply pw_below_drewN | apply below_drew1 | refine below_set ?_ GE110.out | refine below_set ?_ GE113.out) | exact HB.out)) hb); clear BK110; clear BK113; clear HB; have BK110 := n0_; have BK113 := n1_; have HB := n2_; clear n0_ n1_ n2_; (try clear hb); (try clear hb2); (try clear hk); (try clear hi)))
                            go_ret
                            exact ⟨by first | rfl | (simp [errW_none, errW_some] <;> rfl) | (simp [*, errW_none, errW_some] <;> rfl), by repeat (first | (with_reducible first | exact HB.out | apply below_alloc | apply pw_below_drewN | apply below_drew1 | refine below_set ?_ GE110.out | refine below_set ?_ GE113.out) | exact HB.out)⟩
                          · replace c16 := Bool.eq_false_iff.mpr c16
                            subst c16
                            have H1 : (risk_Safe.l1 k2 l0 (l0.length : Int) x9_1 ((rd_T37 l0 x9_1).f4) (((rd_T37 l0 x9_1).f4).length : Int) (wrap64 (x22_2 + 1)) ((rd_T37 l0 x9_1).f0) ((rd_T37 l0 x9_1).f1) ((rd_T37 l0 x9_1).f2) ((rd_T37 l0 x9_1).f3) ((rd_T37 l0 x9_1).f4)) = some r := by rw [if_neg (show ¬ (false = true) by decide)] at H; exact H
                            clear H
                            have H := H1
                            clear H1
                            have H' := Aside0.mk H
                            clear H
                            have p112 : 0 ≤ (x22_2 : Int) := of_decide_eq_true (by first | (with_reducible assumption) | assumption)
                            have q112 : x22_2 < (((rd_T37 l0 x9_1).f4).length : Int) := of_decide_eq_true (by first | (with_reducible assumption) | assumption)
                            obtain ⟨ad112, e112, hx112_0, hx112_1⟩ := at_T30 HR109_4.out x22_2 p112 q112
                            cases e112
                            replace hx112_0 := (HB.out.cell (World.block_lt_of_cell? w _ hx112_0)).trans hx112_0
                            replace hx112_1 := (HB.out.cell (World.block_lt_of_cell? w _ hx112_1)).trans hx112_1
                            replace p112 := eq_true p112
                            replace q112 := eq_true q112
                            go_wp2_with (first | ((with_reducible refine gate_dst (N := 6) rfl ?_); refine box_event ?hg (N := 6) ?hd (cs := #[.string (⟨#[]⟩ : ByteArray), .string (⟨#[]⟩ : ByteArray)]) (t := 30) ?hr ?_; (case hd => rfl); (case hg => rfl); (case hr => first | (go_simp; done) | (go_simp; rfl)); intro gb113 hg w22 hbox hb; have n0_ := Aside0.mk (blk_below (g := gb110) (o := .cells #[.int .i64 ((rd_T37 l0 x9_1).f0), .int .i64 ((rd_T37 l0 x9_1).f1), .string ((rd_T37 l0 x9_1).f2), .string ((rd_T37 l0 x9_1).f3), .slice (some ad112) ((rd_T37 l0 x9_1).f4).length c109_4] 37 (0, 0)) (by (with_reducible repeat (first | refine blk_drewN ?_ _ | refine blk_drew ?_ | refine blk_alloc ?_ _)); exact BK110.out) hb); have n1_ := Aside0.mk (below_step (by repeat (first | (with_reducible first | exact HB.out | apply below_alloc | apply pw_below_drewN | apply below_drew1 | refine below_set ?_ GE110.out) | exact HB.out)) hb); have n2_ := Aside0.mk (hbox); have n3_ := Aside0.mk ((by rw [hg]; exact (below_size (by repeat (first | (with_reducible first | exact HB.out | apply below_alloc | apply pw_below_drewN | apply below_drew1 | refine below_set ?_ GE110.out) | exact HB.out))) : w.heap.size ≤ gb113)); have n4_ := Aside0.mk ((by rw [hg]; exact (below_size (by repeat (first | (with_reducible first | exact HB.out | apply below_alloc | apply pw_below_drewN | apply below_drew1 | refine below_set ?_ GE110.out) | exact HB.out))) : w.heap.size ≤ gb113)); have n5_ := Aside0.mk ((by rw [hg]; exact Nat.ne_of_lt (blk_lt (g := gb110) (o := .cells #[.int .i64 ((rd_T37 l0 x9_1).f0), .int .i64 ((rd_T37 l0 x9_1).f1), .string ((rd_T37 l0 x9_1).f2), .string ((rd_T37 l0 x9_1).f3), .slice (some ad112) ((rd_T37 l0 x9_1).f4).length c109_4] 37 (0, 0)) (by (with_reducible repeat (first | refine blk_drewN ?_ _ | refine blk_drew ?_ | refine blk_alloc ?_ _)); exact BK110.out)) : gb110 ≠ gb113)); have n6_ := Aside0.mk ((by rw [hg]; exact Nat.ne_of_gt (blk_lt (g := gb110) (o := .cells #[.int .i64 ((rd_T37 l0 x9_1).f0), .int .i64 ((rd_T37 l0 x9_1).f1), .string ((rd_T37 l0 x9_1).f2), .string ((rd_T37 l0 x9_1).f3), .slice (some ad112) ((rd_T37 l0 x9_1).f4).length c109_4] 37 (0, 0)) (by (with_reducible repeat (first | refine blk_drewN ?_ _ | refine blk_drew ?_ | refine blk_alloc ?_ _)); exact BK110.out)) : gb113 ≠ gb110)); clear BK110; clear HB; have BK110 := n0_; have HB := n1_; have BK113 := n2_; have GW113 := n3_; have GE113 := n4_; have NB110_113 := n5_; have NB113_110 := n6_; clear n0_ n1_ n2_ n3_ n4_ n5_ n6_; clear hb hbox hg; have hnb23 := NB113_110.out; have hnc23 := NB110_113.out; have hcz24_0 : w22.cell? ⟨gb113, 0, none⟩ = some (.string (⟨#[]⟩ : ByteArray)) := (blk_cell BK113.out 0).trans rfl; have hcz24_1 : w22.cell? ⟨gb113, 1, none⟩ = some (.string (⟨#[]⟩ : ByteArray)) := (blk_cell BK113.out 1).trans rfl; have hfz24_0 := blk_frozen BK113.out 0; have hfz24_1 := blk_frozen BK113.out 1; have hcz25_0 : w22.cell? ⟨gb110, 0, none⟩ = some (.int .i64 ((rd_T37 l0 x9_1).f0)) := (blk_cell BK110.out 0).trans rfl; have hcz25_1 : w22.cell? ⟨gb110, 1, none⟩ = some (.int .i64 ((rd_T37 l0 x9_1).f1)) := (blk_cell BK110.out 1).trans rfl; have hcz25_2 : w22.cell? ⟨gb110, 2, none⟩ = some (.string ((rd_T37 l0 x9_1).f2)) := (blk_cell BK110.out 2).trans rfl; have hcz25_3 : w22.cell? ⟨gb110, 3, none⟩ = some (.string ((rd_T37 l0 x9_1).f3)) := (blk_cell BK110.out 3).trans rfl; have hcz25_4 : w22.cell? ⟨gb110, 4, none⟩ = some (.slice (some ad112) ((rd_T37 l0 x9_1).f4).length c109_4) := (blk_cell BK110.out 4).trans rfl; have hfz25_0 := blk_frozen BK110.out 0; have hfz25_1 := blk_frozen BK110.out 1; have hfz25_2 := blk_frozen BK110.out 2; have hfz25_3 := blk_frozen BK110.out 3; have hfz25_4 := blk_frozen BK110.out 4) | ((with_reducible refine gate_callee (f := 19) rfl ?_); refine goesL_ (some 29) rfl rfl Try.func19 (by kernel_rfl) rfl #[.string ((rd_T37 l0 x9_1).f2), .agg #[.string ((rd_T30 ((rd_T37 l0 x9_1).f4) x22_2).f0), .string ((rd_T30 ((rd_T37 l0 x9_1).f4) x22_2).f1)]] rfl (by (try simp only [List.map_toArray, List.map_cons, List.map_nil]); first | done | rfl | (simp only [List.length_drop, List.length_take]; rfl)) ?_; (with_reducible refine (risk_Attr.calls ((rd_T37 l0 x9_1).f2) ((rd_T30 ((rd_T37 l0 x9_1).f4) x22_2).f0) ((rd_T30 ((rd_T37 l0 x9_1).f4) x22_2).f1) false _ A15.out).mono ?_); rintro e w26 ⟨rfl, hb⟩; refine ⟨_, rfl, ?_⟩; have n0_ := Aside0.mk (blk_below (g := gb110) (o := .cells #[.int .i64 ((rd_T37 l0 x9_1).f0), .int .i64 ((rd_T37 l0 x9_1).f1), .string ((rd_T37 l0 x9_1).f2), .string ((rd_T37 l0 x9_1).f3), .slice (some ad112) ((rd_T37 l0 x9_1).f4).length c109_4] 37 (0, 0)) (by (with_reducible repeat (first | refine blk_drewN ?_ _ | refine blk_drew ?_ | refine blk_alloc ?_ _)); refine blk_far ?_ NB110_113.out _; (with_reducible repeat (first | refine blk_drewN ?_ _ | refine blk_drew ?_ | refine blk_alloc ?_ _)); refine blk_far ?_ NB110_113.out _; (with_reducible repeat (first | refine blk_drewN ?_ _ | refine blk_drew ?_ | refine blk_alloc ?_ _)); exact BK110.out) hb); have n1_ := Aside0.mk (blk_below (g := gb113) (o := .cells #[.string ((rd_T30 ((rd_T37 l0 x9_1).f4) x22_2).f0), .string ((rd_T30 ((rd_T37 l0 x9_1).f4) x22_2).f1)] 30 (0, 0)) (by (with_reducible repeat (first | refine blk_drewN ?_ _ | refine blk_drew ?_ | refine blk_alloc ?_ _)); refine blk_put (cs := #[.string ((rd_T30 ((rd_T37 l0 x9_1).f4) x22_2).f0), .string (⟨#[]⟩ : ByteArray)]) ?_ 1 _ rfl; (with_reducible repeat (first | refine blk_drewN ?_ _ | refine blk_drew ?_ | refine blk_alloc ?_ _)); refine blk_put (cs := #[.string (⟨#[]⟩ : ByteArray), .string (⟨#[]⟩ : ByteArray)]) ?_ 0 _ rfl; (with_reducible repeat (first | refine blk_drewN ?_ _ | refine blk_drew ?_ | refine blk_alloc ?_ _)); exact BK113.out) hb); have n2_ := Aside0.mk (below_step (by repeat (first | (with_reducible first | exact HB.out | apply below_alloc | apply pw_below_drewN | apply below_drew1 | refine below_set ?_ GE110.out | refine below_set ?_ GE113.out) | exact HB.out)) hb); clear BK110; clear BK113; clear HB; have BK110 := n0_; have BK113 := n1_; have HB := n2_; clear n0_ n1_ n2_; (try clear hb); (try clear hb2); (try clear hk); (try clear hi)))
                            go_roundg k2
                            case measure => have := HK1.out; have := HK2.out; omega
                            case rel => exact ⟨(wrap64 (x22_2 + 1)), (by first | rfl | (simp; done) | (simp [*]; done)), H', ⟨by have := HK1.out; have := HK2.out; omega⟩, ⟨by (with_reducible repeat (first | refine blk_drewN ?_ _ | refine blk_drew ?_ | refine blk_alloc ?_ _)); exact BK110.out⟩, ⟨by repeat (first | (with_reducible first | exact HB.out | apply below_alloc | apply pw_below_drewN | apply below_drew1 | refine below_set ?_ GE110.out | refine below_set ?_ GE113.out) | exact HB.out)⟩⟩
                        · rw [if_neg c14] at H
                          exact absurd H (by simp)
                      · rw [if_neg c13] at H
                        exact absurd H (by simp)
                    · rw [if_neg c12] at H
                      have c12b0 : decide (x22_2 < (((rd_T37 l0 x9_1).f4).length : Int)) = false := decide_eq_false c12
                      clear c12
                      have H' := Aside0.mk H
                      clear H
                      go_wp2
                      go_roundg k2
                      case measure => have := HK1.out; have := HK2.out; omega
                      case rel => exact ⟨(wrap64 (x9_1 + 1)), (by first | rfl | (simp; done) | (simp [*]; done)), H', ⟨by have := HK1.out; have := HK2.out; omega⟩, ⟨by repeat (first | (with_reducible first | exact HB.out | apply below_alloc | apply pw_below_drewN | apply below_drew1 | refine below_set ?_ GE110.out) | exact HB.out)⟩⟩
            · rw [if_neg c5] at H
              have c5b0 : (((rd_T37 l0 x9_1).f1) == 0) = false := beq_eq_false_iff_ne.mpr c5
              have c5b1 : (((rd_T37 l0 x9_1).f1) != 0) = true := bne_iff_ne.mpr c5
              have H' := Aside0.mk H
              clear H
              have p109 : 0 ≤ (x9_1 : Int) := of_decide_eq_true (by first | (with_reducible assumption) | assumption)
              have q109 : x9_1 < (l0.length : Int) := of_decide_eq_true (by first | (with_reducible assumption) | assumption)
              obtain ⟨ad109, A109_4, c109_4, e109, hx109_0, hx109_1, hx109_2, hx109_3, hx109_4, hl109_4, hi109_4⟩ := at_T37 HR0.out x9_1 p109 q109
              cases e109
              replace hx109_0 := (HB.out.cell (World.block_lt_of_cell? w _ hx109_0)).trans hx109_0
              replace hx109_1 := (HB.out.cell (World.block_lt_of_cell? w _ hx109_1)).trans hx109_1
              replace hx109_2 := (HB.out.cell (World.block_lt_of_cell? w _ hx109_2)).trans hx109_2
              replace hx109_3 := (HB.out.cell (World.block_lt_of_cell? w _ hx109_3)).trans hx109_3
              replace hx109_4 := (HB.out.cell (World.block_lt_of_cell? w _ hx109_4)).trans hx109_4
              have HR109_4 := Aside0.mk hi109_4
              have HC109_4 := Aside0.mk hl109_4
              clear hi109_4 hl109_4
              replace p109 := eq_true p109
              replace q109 := eq_true q109
              go_wp2_with (first | ((with_reducible refine gate_dst (N := 4) rfl ?_); refine box_event ?hg (N := 4) ?hd (cs := #[.int .i64 0, .int .i64 0, .string (⟨#[]⟩ : ByteArray), .string (⟨#[]⟩ : ByteArray), .slice none 0 0]) (t := 37) ?hr ?_; (case hd => rfl); (case hg => rfl); (case hr => first | (go_simp; done) | (go_simp; rfl)); intro gb110 hg w27 hbox hb; have n0_ := Aside0.mk (below_step (by repeat (first | (with_reducible first | exact HB.out | apply below_alloc | apply pw_below_drewN | apply below_drew1) | exact HB.out)) hb); have n1_ := Aside0.mk (hbox); have n2_ := Aside0.mk ((by rw [hg]; exact (below_size (by repeat (first | (with_reducible first | exact HB.out | apply below_alloc | apply pw_below_drewN | apply below_drew1) | exact HB.out))) : w.heap.size ≤ gb110)); have n3_ := Aside0.mk ((by rw [hg]; exact (below_size (by repeat (first | (with_reducible first | exact HB.out | apply below_alloc | apply pw_below_drewN | apply below_drew1) | exact HB.out))) : w.heap.size ≤ gb110)); clear HB; have HB := n0_; have BK110 := n1_; have GW110 := n2_; have GE110 := n3_; clear n0_ n1_ n2_ n3_; clear hb hbox hg; have hcz28_0 : w27.cell? ⟨gb110, 0, none⟩ = some (.int .i64 0) := (blk_cell BK110.out 0).trans rfl; have hcz28_1 : w27.cell? ⟨gb110, 1, none⟩ = some (.int .i64 0) := (blk_cell BK110.out 1).trans rfl; have hcz28_2 : w27.cell? ⟨gb110, 2, none⟩ = some (.string (⟨#[]⟩ : ByteArray)) := (blk_cell BK110.out 2).trans rfl; have hcz28_3 : w27.cell? ⟨gb110, 3, none⟩ = some (.string (⟨#[]⟩ : ByteArray)) := (blk_cell BK110.out 3).trans rfl; have hcz28_4 : w27.cell? ⟨gb110, 4, none⟩ = some (.slice none 0 0) := (blk_cell BK110.out 4).trans rfl; have hfz28_0 := blk_frozen BK110.out 0; have hfz28_1 := blk_frozen BK110.out 1; have hfz28_2 := blk_frozen BK110.out 2; have hfz28_3 := blk_frozen BK110.out 3; have hfz28_4 := blk_frozen BK110.out 4))
              go_roundg k1
              case measure => have := HK1.out; omega
              case rel => exact ⟨(wrap64 (x9_1 + 1)), (by first | rfl | (simp; done) | (simp [*]; done)), H', ⟨by have := HK1.out; omega⟩, ⟨by repeat (first | (with_reducible first | exact HB.out | apply below_alloc | apply pw_below_drewN | apply below_drew1 | refine below_set ?_ GE110.out) | exact HB.out)⟩⟩
          · rw [if_neg c4] at H
            exact absurd H (by simp)
        · rw [if_neg c3] at H
          exact absurd H (by simp)
      · rw [if_neg c2] at H
        have c2b0 : decide (x9_1 < (l0.length : Int)) = false := decide_eq_false c2
        clear c2
        obtain rfl := Option.some.inj H
        go_wp2
        go_ret
        exact ⟨by first | rfl | (simp [errW_none, errW_some] <;> rfl) | (simp [*, errW_none, errW_some] <;> rfl), by repeat (first | (with_reducible first | exact HB.out | apply below_alloc | apply pw_below_drewN | apply below_drew1) | exact HB.out)⟩

end Go.Proofs.Ytejdfmghcgkojaa.Pr
namespace Go.Proofs.Ytejdfmghcgkojaa.Pr
open Go.RowKit Go.Proofs.YtejdfmghcgkojaaW.PrintWords Go.Proofs.YtejdfmghcgkojaaW.PrintLast Go.Proofs.YtejdfmghcgkojaaW.PrintMore
attribute [local go_sem] max2_int min2_int max_two min_two max_three min_three max_four min_four   -- for this text's walks alone
set_option linter.unusedVariables false
set_option linter.unusedSimpArgs false

/-! ### boltinglaw10_fixed: function 9 -/
def boltinglaw10_fixed.f (k : Nat)  : Option (Bool) := (risk_Attr.f (⟨#[97]⟩ : ByteArray) (⟨#[104, 114, 101, 102]⟩ : ByteArray) (⟨#[106, 97, 118, 97, 115, 99, 114, 105, 112, 116, 58, 120]⟩ : ByteArray)).bind fun t115 => (if t115 = true then ((risk_Attr.f (⟨#[97]⟩ : ByteArray) (⟨#[104, 114, 101, 102]⟩ : ByteArray) (⟨#[104, 116, 116, 112, 115, 58, 120]⟩ : ByteArray)).bind fun t116 => (if t116 = true then (some false) else ((risk_Sink.f (⟨#[100, 105, 118]⟩ : ByteArray) (⟨#[111, 110, 99, 108, 105, 99, 107]⟩ : ByteArray)).bind fun t117 => (if t117 = 2 then ((risk_Handler.f (⟨#[111, 110]⟩ : ByteArray)).bind fun t118 => (if t118 = true then (some false) else ((risk_Nav.f (⟨#[102, 111, 114, 109]⟩ : ByteArray) (⟨#[97, 99, 116, 105, 111, 110]⟩ : ByteArray)).bind fun t119 => (if t119 = true then ((risk_Nav.f (⟨#[100, 105, 118]⟩ : ByteArray) (⟨#[97, 99, 116, 105, 111, 110]⟩ : ByteArray)).bind fun t120 => (if t120 = true then (some false) else ((risk_Sink.f (⟨#[105, 102, 114, 97, 109, 101]⟩ : ByteArray) (⟨#[115, 114, 99, 100, 111, 99]⟩ : ByteArray)).bind fun t121 => (if t121 = 1 then ((risk_Sink.f (⟨#[115, 99, 114, 105, 112, 116]⟩ : ByteArray) (⟨#[115, 114, 99]⟩ : ByteArray)).bind fun t122 => (if t122 = 3 then ((risk_Sink.f (⟨#[105, 109, 103]⟩ : ByteArray) (⟨#[115, 114, 99]⟩ : ByteArray)).bind fun t123 => (if t123 = 0 then ((risk_Element.f (⟨#[115, 99, 114, 105, 112, 116]⟩ : ByteArray)).bind fun t124 => (if t124 = true then ((risk_Element.f (⟨#[98]⟩ : ByteArray)).bind fun t125 => (if t125 = true then (some false) else ((risk_Safe.f k ([] : List (S37))).bind fun t126 => (if t126 = true then ((risk_Safe.f k (([(⟨0, 0, (⟨#[115, 99, 114, 105, 112, 116]⟩ : ByteArray), (⟨#[]⟩ : ByteArray), ([] : List (S30))⟩ : S37)] : List (S37)))).bind fun t130 => (some (!t130))) else (some false))))) else (some false))) else (some false))) else (some false))) else (some false))))) else (some false))))) else (some false))))) else (some false))
theorem boltinglaw10_fixed.mono : ∀ k, LeO (boltinglaw10_fixed.f k ) (boltinglaw10_fixed.f (k + 1) ) := by
  intro  k
  unfold boltinglaw10_fixed.f
  repeat' first
      | (with_reducible exact risk_Safe.mono _ _)
      | (with_reducible exact LeO.refl _)
      | (with_reducible exact LeO.none _)
      | (with_reducible refine LeO.ite ?_ ?_)
      | (with_reducible refine LeO.bind ?_ (fun _ => ?_))
      | exact risk_Safe.mono _ _
      | exact LeO.none _
      | refine LeO.ite ?_ ?_
      | refine LeO.bind ?_ (fun _ => ?_)
set_option maxHeartbeats 8000000 in
set_option maxRecDepth 100000 in
theorem boltinglaw10_fixed.calls_true (k : Nat)  (r : Bool) (w : World) (h : boltinglaw10_fixed.f k  = some r) (hT : Aside0 (r = true)) :
    Calls Try.prog 9 #[] w fun e w' => e = .returned (.bool r) ∧ Below w.heap.size w w' := by
  have hu30 := Try.underlying30
  have hu37 := Try.underlying37
  have HB := Aside0.mk (Below.refl w.heap.size w)
  have H : ((risk_Attr.f (⟨#[97]⟩ : ByteArray) (⟨#[104, 114, 101, 102]⟩ : ByteArray) (⟨#[106, 97, 118, 97, 115, 99, 114, 105, 112, 116, 58, 120]⟩ : ByteArray)).bind fun t115 => (if t115 = true then ((risk_Attr.f (⟨#[97]⟩ : ByteArray) (⟨#[104, 114, 101, 102]⟩ : ByteArray) (⟨#[104, 116, 116, 112, 115, 58, 120]⟩ : ByteArray)).bind fun t116 => (if t116 = true then (some false) else ((risk_Sink.f (⟨#[100, 105, 118]⟩ : ByteArray) (⟨#[111, 110, 99, 108, 105, 99, 107]⟩ : ByteArray)).bind fun t117 => (if t117 = 2 then ((risk_Handler.f (⟨#[111, 110]⟩ : ByteArray)).bind fun t118 => (if t118 = true then (some false) else ((risk_Nav.f (⟨#[102, 111, 114, 109]⟩ : ByteArray) (⟨#[97, 99, 116, 105, 111, 110]⟩ : ByteArray)).bind fun t119 => (if t119 = true then ((risk_Nav.f (⟨#[100, 105, 118]⟩ : ByteArray) (⟨#[97, 99, 116, 105, 111, 110]⟩ : ByteArray)).bind fun t120 => (if t120 = true then (some false) else ((risk_Sink.f (⟨#[105, 102, 114, 97, 109, 101]⟩ : ByteArray) (⟨#[115, 114, 99, 100, 111, 99]⟩ : ByteArray)).bind fun t121 => (if t121 = 1 then ((risk_Sink.f (⟨#[115, 99, 114, 105, 112, 116]⟩ : ByteArray) (⟨#[115, 114, 99]⟩ : ByteArray)).bind fun t122 => (if t122 = 3 then ((risk_Sink.f (⟨#[105, 109, 103]⟩ : ByteArray) (⟨#[115, 114, 99]⟩ : ByteArray)).bind fun t123 => (if t123 = 0 then ((risk_Element.f (⟨#[115, 99, 114, 105, 112, 116]⟩ : ByteArray)).bind fun t124 => (if t124 = true then ((risk_Element.f (⟨#[98]⟩ : ByteArray)).bind fun t125 => (if t125 = true then (some false) else ((risk_Safe.f k ([] : List (S37))).bind fun t126 => (if t126 = true then ((risk_Safe.f k (([(⟨0, 0, (⟨#[115, 99, 114, 105, 112, 116]⟩ : ByteArray), (⟨#[]⟩ : ByteArray), ([] : List (S30))⟩ : S37)] : List (S37)))).bind fun t130 => (some (!t130))) else (some false))))) else (some false))) else (some false))) else (some false))) else (some false))))) else (some false))))) else (some false))))) else (some false))) = some r := h
  clear h
  replace H := Option.bind_eq_some_iff.mp H
  obtain ⟨t115, A10, H⟩ := H
  replace H : (if t115 = true then ((risk_Attr.f (⟨#[97]⟩ : ByteArray) (⟨#[104, 114, 101, 102]⟩ : ByteArray) (⟨#[104, 116, 116, 112, 115, 58, 120]⟩ : ByteArray)).bind fun t116 => (if t116 = true then (some false) else ((risk_Sink.f (⟨#[100, 105, 118]⟩ : ByteArray) (⟨#[111, 110, 99, 108, 105, 99, 107]⟩ : ByteArray)).bind fun t117 => (if t117 = 2 then ((risk_Handler.f (⟨#[111, 110]⟩ : ByteArray)).bind fun t118 => (if t118 = true then (some false) else ((risk_Nav.f (⟨#[102, 111, 114, 109]⟩ : ByteArray) (⟨#[97, 99, 116, 105, 111, 110]⟩ : ByteArray)).bind fun t119 => (if t119 = true then ((risk_Nav.f (⟨#[100, 105, 118]⟩ : ByteArray) (⟨#[97, 99, 116, 105, 111, 110]⟩ : ByteArray)).bind fun t120 => (if t120 = true then (some false) else ((risk_Sink.f (⟨#[105, 102, 114, 97, 109, 101]⟩ : ByteArray) (⟨#[115, 114, 99, 100, 111, 99]⟩ : ByteArray)).bind fun t121 => (if t121 = 1 then ((risk_Sink.f (⟨#[115, 99, 114, 105, 112, 116]⟩ : ByteArray) (⟨#[115, 114, 99]⟩ : ByteArray)).bind fun t122 => (if t122 = 3 then ((risk_Sink.f (⟨#[105, 109, 103]⟩ : ByteArray) (⟨#[115, 114, 99]⟩ : ByteArray)).bind fun t123 => (if t123 = 0 then ((risk_Element.f (⟨#[115, 99, 114, 105, 112, 116]⟩ : ByteArray)).bind fun t124 => (if t124 = true then ((risk_Element.f (⟨#[98]⟩ : ByteArray)).bind fun t125 => (if t125 = true then (some false) else ((risk_Safe.f k ([] : List (S37))).bind fun t126 => (if t126 = true then ((risk_Safe.f k (([(⟨0, 0, (⟨#[115, 99, 114, 105, 112, 116]⟩ : ByteArray), (⟨#[]⟩ : ByteArray), ([] : List (S30))⟩ : S37)] : List (S37)))).bind fun t130 => (some (!t130))) else (some false))))) else (some false))) else (some false))) else (some false))) else (some false))))) else (some false))))) else (some false))))) else (some false)) = some r := H
  have A1 := Aside0.mk A10
  clear A10
  by_cases c2 : t115 = true
  · subst c2
    have H1 : ((risk_Attr.f (⟨#[97]⟩ : ByteArray) (⟨#[104, 114, 101, 102]⟩ : ByteArray) (⟨#[104, 116, 116, 112, 115, 58, 120]⟩ : ByteArray)).bind fun t116 => (if t116 = true then (some false) else ((risk_Sink.f (⟨#[100, 105, 118]⟩ : ByteArray) (⟨#[111, 110, 99, 108, 105, 99, 107]⟩ : ByteArray)).bind fun t117 => (if t117 = 2 then ((risk_Handler.f (⟨#[111, 110]⟩ : ByteArray)).bind fun t118 => (if t118 = true then (some false) else ((risk_Nav.f (⟨#[102, 111, 114, 109]⟩ : ByteArray) (⟨#[97, 99, 116, 105, 111, 110]⟩ : ByteArray)).bind fun t119 => (if t119 = true then ((risk_Nav.f (⟨#[100, 105, 118]⟩ : ByteArray) (⟨#[97, 99, 116, 105, 111, 110]⟩ : ByteArray)).bind fun t120 => (if t120 = true then (some false) else ((risk_Sink.f (⟨#[105, 102, 114, 97, 109, 101]⟩ : ByteArray) (⟨#[115, 114, 99, 100, 111, 99]⟩ : ByteArray)).bind fun t121 => (if t121 = 1 then ((risk_Sink.f (⟨#[115, 99, 114, 105, 112, 116]⟩ : ByteArray) (⟨#[115, 114, 99]⟩ : ByteArray)).bind fun t122 => (if t122 = 3 then ((risk_Sink.f (⟨#[105, 109, 103]⟩ : ByteArray) (⟨#[115, 114, 99]⟩ : ByteArray)).bind fun t123 => (if t123 = 0 then ((risk_Element.f (⟨#[115, 99, 114, 105, 112, 116]⟩ : ByteArray)).bind fun t124 => (if t124 = true then ((risk_Element.f (⟨#[98]⟩ : ByteArray)).bind fun t125 => (if t125 = true then (some false) else ((risk_Safe.f k ([] : List (S37))).bind fun t126 => (if t126 = true then ((risk_Safe.f k (([(⟨0, 0, (⟨#[115, 99, 114, 105, 112, 116]⟩ : ByteArray), (⟨#[]⟩ : ByteArray), ([] : List (S30))⟩ : S37)] : List (S37)))).bind fun t130 => (some (!t130))) else (some false))))) else (some false))) else (some false))) else (some false))) else (some false))))) else (some false))))) else (some false))))) = some r := by rw [if_pos rfl] at H; exact H
    clear H
    have H := H1
    clear H1
    replace H := Option.bind_eq_some_iff.mp H
    obtain ⟨t116, A30, H⟩ := H
    replace H : (if t116 = true then (some false) else ((risk_Sink.f (⟨#[100, 105, 118]⟩ : ByteArray) (⟨#[111, 110, 99, 108, 105, 99, 107]⟩ : ByteArray)).bind fun t117 => (if t117 = 2 then ((risk_Handler.f (⟨#[111, 110]⟩ : ByteArray)).bind fun t118 => (if t118 = true then (some false) else ((risk_Nav.f (⟨#[102, 111, 114, 109]⟩ : ByteArray) (⟨#[97, 99, 116, 105, 111, 110]⟩ : ByteArray)).bind fun t119 => (if t119 = true then ((risk_Nav.f (⟨#[100, 105, 118]⟩ : ByteArray) (⟨#[97, 99, 116, 105, 111, 110]⟩ : ByteArray)).bind fun t120 => (if t120 = true then (some false) else ((risk_Sink.f (⟨#[105, 102, 114, 97, 109, 101]⟩ : ByteArray) (⟨#[115, 114, 99, 100, 111, 99]⟩ : ByteArray)).bind fun t121 => (if t121 = 1 then ((risk_Sink.f (⟨#[115, 99, 114, 105, 112, 116]⟩ : ByteArray) (⟨#[115, 114, 99]⟩ : ByteArray)).bind fun t122 => (if t122 = 3 then ((risk_Sink.f (⟨#[105, 109, 103]⟩ : ByteArray) (⟨#[115, 114, 99]⟩ : ByteArray)).bind fun t123 => (if t123 = 0 then ((risk_Element.f (⟨#[115, 99, 114, 105, 112, 116]⟩ : ByteArray)).bind fun t124 => (if t124 = true then ((risk_Element.f (⟨#[98]⟩ : ByteArray)).bind fun t125 => (if t125 = true then (some false) else ((risk_Safe.f k ([] : List (S37))).bind fun t126 => (if t126 = true then ((risk_Safe.f k (([(⟨0, 0, (⟨#[115, 99, 114, 105, 112, 116]⟩ : ByteArray), (⟨#[]⟩ : ByteArray), ([] : List (S30))⟩ : S37)] : List (S37)))).bind fun t130 => (some (!t130))) else (some false))))) else (some false))) else (some false))) else (some false))) else (some false))))) else (some false))))) else (some false)))) = some r := H
    have A3 := Aside0.mk A30
    clear A30
    by_cases c4 : t116 = true
    · subst c4
      have H1 : (some false) = some r := by rw [if_pos rfl] at H; exact H
      clear H
      have H := H1
      clear H1
      exact absurd (Option.some.inj H) (by rw [hT.out]; decide)
    · replace c4 := Bool.eq_false_iff.mpr c4
      subst c4
      have H1 : ((risk_Sink.f (⟨#[100, 105, 118]⟩ : ByteArray) (⟨#[111, 110, 99, 108, 105, 99, 107]⟩ : ByteArray)).bind fun t117 => (if t117 = 2 then ((risk_Handler.f (⟨#[111, 110]⟩ : ByteArray)).bind fun t118 => (if t118 = true then (some false) else ((risk_Nav.f (⟨#[102, 111, 114, 109]⟩ : ByteArray) (⟨#[97, 99, 116, 105, 111, 110]⟩ : ByteArray)).bind fun t119 => (if t119 = true then ((risk_Nav.f (⟨#[100, 105, 118]⟩ : ByteArray) (⟨#[97, 99, 116, 105, 111, 110]⟩ : ByteArray)).bind fun t120 => (if t120 = true then (some false) else ((risk_Sink.f (⟨#[105, 102, 114, 97, 109, 101]⟩ : ByteArray) (⟨#[115, 114, 99, 100, 111, 99]⟩ : ByteArray)).bind fun t121 => (if t121 = 1 then ((risk_Sink.f (⟨#[115, 99, 114, 105, 112, 116]⟩ : ByteArray) (⟨#[115, 114, 99]⟩ : ByteArray)).bind fun t122 => (if t122 = 3 then ((risk_Sink.f (⟨#[105, 109, 103]⟩ : ByteArray) (⟨#[115, 114, 99]⟩ : ByteArray)).bind fun t123 => (if t123 = 0 then ((risk_Element.f (⟨#[115, 99, 114, 105, 112, 116]⟩ : ByteArray)).bind fun t124 => (if t124 = true then ((risk_Element.f (⟨#[98]⟩ : ByteArray)).bind fun t125 => (if t125 = true then (some false) else ((risk_Safe.f k ([] : List (S37))).bind fun t126 => (if t126 = true then ((risk_Safe.f k (([(⟨0, 0, (⟨#[115, 99, 114, 105, 112, 116]⟩ : ByteArray), (⟨#[]⟩ : ByteArray), ([] : List (S30))⟩ : S37)] : List (S37)))).bind fun t130 => (some (!t130))) else (some false))))) else (some false))) else (some false))) else (some false))) else (some false))))) else (some false))))) else (some false))) = some r := by rw [if_neg (show ¬ (false = true) by decide)] at H; exact H
      clear H
      have H := H1
      clear H1
      replace H := Option.bind_eq_some_iff.mp H
      obtain ⟨t117, A70, H⟩ := H
      replace H : (if t117 = 2 then ((risk_Handler.f (⟨#[111, 110]⟩ : ByteArray)).bind fun t118 => (if t118 = true then (some false) else ((risk_Nav.f (⟨#[102, 111, 114, 109]⟩ : ByteArray) (⟨#[97, 99, 116, 105, 111, 110]⟩ : ByteArray)).bind fun t119 => (if t119 = true then ((risk_Nav.f (⟨#[100, 105, 118]⟩ : ByteArray) (⟨#[97, 99, 116, 105, 111, 110]⟩ : ByteArray)).bind fun t120 => (if t120 = true then (some false) else ((risk_Sink.f (⟨#[105, 102, 114, 97, 109, 101]⟩ : ByteArray) (⟨#[115, 114, 99, 100, 111, 99]⟩ : ByteArray)).bind fun t121 => (if t121 = 1 then ((risk_Sink.f (⟨#[115, 99, 114, 105, 112, 116]⟩ : ByteArray) (⟨#[115, 114, 99]⟩ : ByteArray)).bind fun t122 => (if t122 = 3 then ((risk_Sink.f (⟨#[105, 109, 103]⟩ : ByteArray) (⟨#[115, 114, 99]⟩ : ByteArray)).bind fun t123 => (if t123 = 0 then ((risk_Element.f (⟨#[115, 99, 114, 105, 112, 116]⟩ : ByteArray)).bind fun t124 => (if t124 = true then ((risk_Element.f (⟨#[98]⟩ : ByteArray)).bind fun t125 => (if t125 = true then (some false) else ((risk_Safe.f k ([] : List (S37))).bind fun t126 => (if t126 = true then ((risk_Safe.f k (([(⟨0, 0, (⟨#[115, 99, 114, 105, 112, 116]⟩ : ByteArray), (⟨#[]⟩ : ByteArray), ([] : List (S30))⟩ : S37)] : List (S37)))).bind fun t130 => (some (!t130))) else (some false))))) else (some false))) else (some false))) else (some false))) else (some false))))) else (some false))))) else (some false)) = some r := H
      have A7 := Aside0.mk A70
      clear A70
      by_cases c8 : t117 = 2
      · rw [if_pos c8] at H
        have c8b0 : (t117 == 2) = true := beq_iff_eq.mpr c8
        have c8b1 : (t117 != 2) = false := bne_eq_false_iff_eq.mpr c8
        clear c8
        replace H := Option.bind_eq_some_iff.mp H
        obtain ⟨t118, A90, H⟩ := H
        replace H : (if t118 = true then (some false) else ((risk_Nav.f (⟨#[102, 111, 114, 109]⟩ : ByteArray) (⟨#[97, 99, 116, 105, 111, 110]⟩ : ByteArray)).bind fun t119 => (if t119 = true then ((risk_Nav.f (⟨#[100, 105, 118]⟩ : ByteArray) (⟨#[97, 99, 116, 105, 111, 110]⟩ : ByteArray)).bind fun t120 => (if t120 = true then (some false) else ((risk_Sink.f (⟨#[105, 102, 114, 97, 109, 101]⟩ : ByteArray) (⟨#[115, 114, 99, 100, 111, 99]⟩ : ByteArray)).bind fun t121 => (if t121 = 1 then ((risk_Sink.f (⟨#[115, 99, 114, 105, 112, 116]⟩ : ByteArray) (⟨#[115, 114, 99]⟩ : ByteArray)).bind fun t122 => (if t122 = 3 then ((risk_Sink.f (⟨#[105, 109, 103]⟩ : ByteArray) (⟨#[115, 114, 99]⟩ : ByteArray)).bind fun t123 => (if t123 = 0 then ((risk_Element.f (⟨#[115, 99, 114, 105, 112, 116]⟩ : ByteArray)).bind fun t124 => (if t124 = true then ((risk_Element.f (⟨#[98]⟩ : ByteArray)).bind fun t125 => (if t125 = true then (some false) else ((risk_Safe.f k ([] : List (S37))).bind fun t126 => (if t126 = true then ((risk_Safe.f k (([(⟨0, 0, (⟨#[115, 99, 114, 105, 112, 116]⟩ : ByteArray), (⟨#[]⟩ : ByteArray), ([] : List (S30))⟩ : S37)] : List (S37)))).bind fun t130 => (some (!t130))) else (some false))))) else (some false))) else (some false))) else (some false))) else (some false))))) else (some false)))) = some r := H
        have A9 := Aside0.mk A90
        clear A90
        by_cases c10 : t118 = true
        · subst c10
          have H1 : (some false) = some r := by rw [if_pos rfl] at H; exact H
          clear H
          have H := H1
          clear H1
          exact absurd (Option.some.inj H) (by rw [hT.out]; decide)
        · replace c10 := Bool.eq_false_iff.mpr c10
          subst c10
          have H1 : ((risk_Nav.f (⟨#[102, 111, 114, 109]⟩ : ByteArray) (⟨#[97, 99, 116, 105, 111, 110]⟩ : ByteArray)).bind fun t119 => (if t119 = true then ((risk_Nav.f (⟨#[100, 105, 118]⟩ : ByteArray) (⟨#[97, 99, 116, 105, 111, 110]⟩ : ByteArray)).bind fun t120 => (if t120 = true then (some false) else ((risk_Sink.f (⟨#[105, 102, 114, 97, 109, 101]⟩ : ByteArray) (⟨#[115, 114, 99, 100, 111, 99]⟩ : ByteArray)).bind fun t121 => (if t121 = 1 then ((risk_Sink.f (⟨#[115, 99, 114, 105, 112, 116]⟩ : ByteArray) (⟨#[115, 114, 99]⟩ : ByteArray)).bind fun t122 => (if t122 = 3 then ((risk_Sink.f (⟨#[105, 109, 103]⟩ : ByteArray) (⟨#[115, 114, 99]⟩ : ByteArray)).bind fun t123 => (if t123 = 0 then ((risk_Element.f (⟨#[115, 99, 114, 105, 112, 116]⟩ : ByteArray)).bind fun t124 => (if t124 = true then ((risk_Element.f (⟨#[98]⟩ : ByteArray)).bind fun t125 => (if t125 = true then (some false) else ((risk_Safe.f k ([] : List (S37))).bind fun t126 => (if t126 = true then ((risk_Safe.f k (([(⟨0, 0, (⟨#[115, 99, 114, 105, 112, 116]⟩ : ByteArray), (⟨#[]⟩ : ByteArray), ([] : List (S30))⟩ : S37)] : List (S37)))).bind fun t130 => (some (!t130))) else (some false))))) else (some false))) else (some false))) else (some false))) else (some false))))) else (some false))) = some r := by rw [if_neg (show ¬ (false = true) by decide)] at H; exact H
          clear H
          have H := H1
          clear H1
          replace H := Option.bind_eq_some_iff.mp H
          obtain ⟨t119, A140, H⟩ := H
          replace H : (if t119 = true then ((risk_Nav.f (⟨#[100, 105, 118]⟩ : ByteArray) (⟨#[97, 99, 116, 105, 111, 110]⟩ : ByteArray)).bind fun t120 => (if t120 = true then (some false) else ((risk_Sink.f (⟨#[105, 102, 114, 97, 109, 101]⟩ : ByteArray) (⟨#[115, 114, 99, 100, 111, 99]⟩ : ByteArray)).bind fun t121 => (if t121 = 1 then ((risk_Sink.f (⟨#[115, 99, 114, 105, 112, 116]⟩ : ByteArray) (⟨#[115, 114, 99]⟩ : ByteArray)).bind fun t122 => (if t122 = 3 then ((risk_Sink.f (⟨#[105, 109, 103]⟩ : ByteArray) (⟨#[115, 114, 99]⟩ : ByteArray)).bind fun t123 => (if t123 = 0 then ((risk_Element.f (⟨#[115, 99, 114, 105, 112, 116]⟩ : ByteArray)).bind fun t124 => (if t124 = true then ((risk_Element.f (⟨#[98]⟩ : ByteArray)).bind fun t125 => (if t125 = true then (some false) else ((risk_Safe.f k ([] : List (S37))).bind fun t126 => (if t126 = true then ((risk_Safe.f k (([(⟨0, 0, (⟨#[115, 99, 114, 105, 112, 116]⟩ : ByteArray), (⟨#[]⟩ : ByteArray), ([] : List (S30))⟩ : S37)] : List (S37)))).bind fun t130 => (some (!t130))) else (some false))))) else (some false))) else (some false))) else (some false))) else (some false))))) else (some false)) = some r := H
          have A14 := Aside0.mk A140
          clear A140
          by_cases c15 : t119 = true
          · subst c15
            have H1 : ((risk_Nav.f (⟨#[100, 105, 118]⟩ : ByteArray) (⟨#[97, 99, 116, 105, 111, 110]⟩ : ByteArray)).bind fun t120 => (if t120 = true then (some false) else ((risk_Sink.f (⟨#[105, 102, 114, 97, 109, 101]⟩ : ByteArray) (⟨#[115, 114, 99, 100, 111, 99]⟩ : ByteArray)).bind fun t121 => (if t121 = 1 then ((risk_Sink.f (⟨#[115, 99, 114, 105, 112, 116]⟩ : ByteArray) (⟨#[115, 114, 99]⟩ : ByteArray)).bind fun t122 => (if t122 = 3 then ((risk_Sink.f (⟨#[105, 109, 103]⟩ : ByteArray) (⟨#[115, 114, 99]⟩ : ByteArray)).bind fun t123 => (if t123 = 0 then ((risk_Element.f (⟨#[115, 99, 114, 105, 112, 116]⟩ : ByteArray)).bind fun t124 => (if t124 = true then ((risk_Element.f (⟨#[98]⟩ : ByteArray)).bind fun t125 => (if t125 = true then (some false) else ((risk_Safe.f k ([] : List (S37))).bind fun t126 => (if t126 = true then ((risk_Safe.f k (([(⟨0, 0, (⟨#[115, 99, 114, 105, 112, 116]⟩ : ByteArray), (⟨#[]⟩ : ByteArray), ([] : List (S30))⟩ : S37)] : List (S37)))).bind fun t130 => (some (!t130))) else (some false))))) else (some false))) else (some false))) else (some false))) else (some false))))) = some r := by rw [if_pos rfl] at H; exact H
            clear H
            have H := H1
            clear H1
            replace H := Option.bind_eq_some_iff.mp H
            obtain ⟨t120, A160, H⟩ := H
            replace H : (if t120 = true then (some false) else ((risk_Sink.f (⟨#[105, 102, 114, 97, 109, 101]⟩ : ByteArray) (⟨#[115, 114, 99, 100, 111, 99]⟩ : ByteArray)).bind fun t121 => (if t121 = 1 then ((risk_Sink.f (⟨#[115, 99, 114, 105, 112, 116]⟩ : ByteArray) (⟨#[115, 114, 99]⟩ : ByteArray)).bind fun t122 => (if t122 = 3 then ((risk_Sink.f (⟨#[105, 109, 103]⟩ : ByteArray) (⟨#[115, 114, 99]⟩ : ByteArray)).bind fun t123 => (if t123 = 0 then ((risk_Element.f (⟨#[115, 99, 114, 105, 112, 116]⟩ : ByteArray)).bind fun t124 => (if t124 = true then ((risk_Element.f (⟨#[98]⟩ : ByteArray)).bind fun t125 => (if t125 = true then (some false) else ((risk_Safe.f k ([] : List (S37))).bind fun t126 => (if t126 = true then ((risk_Safe.f k (([(⟨0, 0, (⟨#[115, 99, 114, 105, 112, 116]⟩ : ByteArray), (⟨#[]⟩ : ByteArray), ([] : List (S30))⟩ : S37)] : List (S37)))).bind fun t130 => (some (!t130))) else (some false))))) else (some false))) else (some false))) else (some false))) else (some false)))) = some r := H
            have A16 := Aside0.mk A160
            clear A160
            by_cases c17 : t120 = true
            · subst c17
              have H1 : (some false) = some r := by rw [if_pos rfl] at H; exact H
              clear H
              have H := H1
              clear H1
              exact absurd (Option.some.inj H) (by rw [hT.out]; decide)
            · replace c17 := Bool.eq_false_iff.mpr c17
              subst c17
              have H1 : ((risk_Sink.f (⟨#[105, 102, 114, 97, 109, 101]⟩ : ByteArray) (⟨#[115, 114, 99, 100, 111, 99]⟩ : ByteArray)).bind fun t121 => (if t121 = 1 then ((risk_Sink.f (⟨#[115, 99, 114, 105, 112, 116]⟩ : ByteArray) (⟨#[115, 114, 99]⟩ : ByteArray)).bind fun t122 => (if t122 = 3 then ((risk_Sink.f (⟨#[105, 109, 103]⟩ : ByteArray) (⟨#[115, 114, 99]⟩ : ByteArray)).bind fun t123 => (if t123 = 0 then ((risk_Element.f (⟨#[115, 99, 114, 105, 112, 116]⟩ : ByteArray)).bind fun t124 => (if t124 = true then ((risk_Element.f (⟨#[98]⟩ : ByteArray)).bind fun t125 => (if t125 = true then (some false) else ((risk_Safe.f k ([] : List (S37))).bind fun t126 => (if t126 = true then ((risk_Safe.f k (([(⟨0, 0, (⟨#[115, 99, 114, 105, 112, 116]⟩ : ByteArray), (⟨#[]⟩ : ByteArray), ([] : List (S30))⟩ : S37)] : List (S37)))).bind fun t130 => (some (!t130))) else (some false))))) else (some false))) else (some false))) else (some false))) else (some false))) = some r := by rw [if_neg (show ¬ (false = true) by decide)] at H; exact H
              clear H
              have H := H1
              clear H1
              replace H := Option.bind_eq_some_iff.mp H
              obtain ⟨t121, A230, H⟩ := H
              replace H : (if t121 = 1 then ((risk_Sink.f (⟨#[115, 99, 114, 105, 112, 116]⟩ : ByteArray) (⟨#[115, 114, 99]⟩ : ByteArray)).bind fun t122 => (if t122 = 3 then ((risk_Sink.f (⟨#[105, 109, 103]⟩ : ByteArray) (⟨#[115, 114, 99]⟩ : ByteArray)).bind fun t123 => (if t123 = 0 then ((risk_Element.f (⟨#[115, 99, 114, 105, 112, 116]⟩ : ByteArray)).bind fun t124 => (if t124 = true then ((risk_Element.f (⟨#[98]⟩ : ByteArray)).bind fun t125 => (if t125 = true then (some false) else ((risk_Safe.f k ([] : List (S37))).bind fun t126 => (if t126 = true then ((risk_Safe.f k (([(⟨0, 0, (⟨#[115, 99, 114, 105, 112, 116]⟩ : ByteArray), (⟨#[]⟩ : ByteArray), ([] : List (S30))⟩ : S37)] : List (S37)))).bind fun t130 => (some (!t130))) else (some false))))) else (some false))) else (some false))) else (some false))) else (some false)) = some r := H
              have A23 := Aside0.mk A230
              clear A230
              by_cases c24 : t121 = 1
              · rw [if_pos c24] at H
                have c24b0 : (t121 == 1) = true := beq_iff_eq.mpr c24
                have c24b1 : (t121 != 1) = false := bne_eq_false_iff_eq.mpr c24
                clear c24
                replace H := Option.bind_eq_some_iff.mp H
                obtain ⟨t122, A250, H⟩ := H
                replace H : (if t122 = 3 then ((risk_Sink.f (⟨#[105, 109, 103]⟩ : ByteArray) (⟨#[115, 114, 99]⟩ : ByteArray)).bind fun t123 => (if t123 = 0 then ((risk_Element.f (⟨#[115, 99, 114, 105, 112, 116]⟩ : ByteArray)).bind fun t124 => (if t124 = true then ((risk_Element.f (⟨#[98]⟩ : ByteArray)).bind fun t125 => (if t125 = true then (some false) else ((risk_Safe.f k ([] : List (S37))).bind fun t126 => (if t126 = true then ((risk_Safe.f k (([(⟨0, 0, (⟨#[115, 99, 114, 105, 112, 116]⟩ : ByteArray), (⟨#[]⟩ : ByteArray), ([] : List (S30))⟩ : S37)] : List (S37)))).bind fun t130 => (some (!t130))) else (some false))))) else (some false))) else (some false))) else (some false)) = some r := H
                have A25 := Aside0.mk A250
                clear A250
                by_cases c26 : t122 = 3
                · rw [if_pos c26] at H
                  have c26b0 : (t122 == 3) = true := beq_iff_eq.mpr c26
                  have c26b1 : (t122 != 3) = false := bne_eq_false_iff_eq.mpr c26
                  clear c26
                  replace H := Option.bind_eq_some_iff.mp H
                  obtain ⟨t123, A270, H⟩ := H
                  replace H : (if t123 = 0 then ((risk_Element.f (⟨#[115, 99, 114, 105, 112, 116]⟩ : ByteArray)).bind fun t124 => (if t124 = true then ((risk_Element.f (⟨#[98]⟩ : ByteArray)).bind fun t125 => (if t125 = true then (some false) else ((risk_Safe.f k ([] : List (S37))).bind fun t126 => (if t126 = true then ((risk_Safe.f k (([(⟨0, 0, (⟨#[115, 99, 114, 105, 112, 116]⟩ : ByteArray), (⟨#[]⟩ : ByteArray), ([] : List (S30))⟩ : S37)] : List (S37)))).bind fun t130 => (some (!t130))) else (some false))))) else (some false))) else (some false)) = some r := H
                  have A27 := Aside0.mk A270
                  clear A270
                  by_cases c28 : t123 = 0
                  · rw [if_pos c28] at H
                    have c28b0 : (t123 == 0) = true := beq_iff_eq.mpr c28
                    have c28b1 : (t123 != 0) = false := bne_eq_false_iff_eq.mpr c28
                    clear c28
                    replace H := Option.bind_eq_some_iff.mp H
                    obtain ⟨t124, A290, H⟩ := H
                    replace H : (if t124 = true then ((risk_Element.f (⟨#[98]⟩ : ByteArray)).bind fun t125 => (if t125 = true then (some false) else ((risk_Safe.f k ([] : List (S37))).bind fun t126 => (if t126 = true then ((risk_Safe.f k (([(⟨0, 0, (⟨#[115, 99, 114, 105, 112, 116]⟩ : ByteArray), (⟨#[]⟩ : ByteArray), ([] : List (S30))⟩ : S37)] : List (S37)))).bind fun t130 => (some (!t130))) else (some false))))) else (some false)) = some r := H
                    have A29 := Aside0.mk A290
                    clear A290
                    by_cases c30 : t124 = true
                    · subst c30
                      have H1 : ((risk_Element.f (⟨#[98]⟩ : ByteArray)).bind fun t125 => (if t125 = true then (some false) else ((risk_Safe.f k ([] : List (S37))).bind fun t126 => (if t126 = true then ((risk_Safe.f k (([(⟨0, 0, (⟨#[115, 99, 114, 105, 112, 116]⟩ : ByteArray), (⟨#[]⟩ : ByteArray), ([] : List (S30))⟩ : S37)] : List (S37)))).bind fun t130 => (some (!t130))) else (some false))))) = some r := by rw [if_pos rfl] at H; exact H
                      clear H
                      have H := H1
                      clear H1
                      replace H := Option.bind_eq_some_iff.mp H
                      obtain ⟨t125, A310, H⟩ := H
                      replace H : (if t125 = true then (some false) else ((risk_Safe.f k ([] : List (S37))).bind fun t126 => (if t126 = true then ((risk_Safe.f k (([(⟨0, 0, (⟨#[115, 99, 114, 105, 112, 116]⟩ : ByteArray), (⟨#[]⟩ : ByteArray), ([] : List (S30))⟩ : S37)] : List (S37)))).bind fun t130 => (some (!t130))) else (some false)))) = some r := H
                      have A31 := Aside0.mk A310
                      clear A310
                      by_cases c32 : t125 = true
                      · subst c32
                        have H1 : (some false) = some r := by rw [if_pos rfl] at H; exact H
                        clear H
                        have H := H1
                        clear H1
                        exact absurd (Option.some.inj H) (by rw [hT.out]; decide)
                      · replace c32 := Bool.eq_false_iff.mpr c32
                        subst c32
                        have H1 : ((risk_Safe.f k ([] : List (S37))).bind fun t126 => (if t126 = true then ((risk_Safe.f k (([(⟨0, 0, (⟨#[115, 99, 114, 105, 112, 116]⟩ : ByteArray), (⟨#[]⟩ : ByteArray), ([] : List (S30))⟩ : S37)] : List (S37)))).bind fun t130 => (some (!t130))) else (some false))) = some r := by rw [if_neg (show ¬ (false = true) by decide)] at H; exact H
                        clear H
                        have H := H1
                        clear H1
                        replace H := Option.bind_eq_some_iff.mp H
                        obtain ⟨t126, A410, H⟩ := H
                        replace H : (if t126 = true then ((risk_Safe.f k (([(⟨0, 0, (⟨#[115, 99, 114, 105, 112, 116]⟩ : ByteArray), (⟨#[]⟩ : ByteArray), ([] : List (S30))⟩ : S37)] : List (S37)))).bind fun t130 => (some (!t130))) else (some false)) = some r := H
                        have A41 := Aside0.mk A410
                        clear A410
                        by_cases c42 : t126 = true
                        · subst c42
                          have H1 : ((risk_Safe.f k (([(⟨0, 0, (⟨#[115, 99, 114, 105, 112, 116]⟩ : ByteArray), (⟨#[]⟩ : ByteArray), ([] : List (S30))⟩ : S37)] : List (S37)))).bind fun t130 => (some (!t130))) = some r := by rw [if_pos rfl] at H; exact H
                          clear H
                          have H := H1
                          clear H1
                          obtain ⟨y127, hy127⟩ : ∃ y_ : List (S37), y_ = (([(⟨0, 0, (⟨#[115, 99, 114, 105, 112, 116]⟩ : ByteArray), (⟨#[]⟩ : ByteArray), ([] : List (S30))⟩ : S37)] : List (S37))) := ⟨_, rfl⟩
                          replace H : ((risk_Safe.f k y127).bind fun t130 => (some (!t130))) = some r := by first | (rw [hy127]; with_reducible exact H) | (have H2_ := (Option.bind_some _ _).symm.trans H; rw [hy127]; with_reducible exact H2_) | (have H2_ := (Option.bind_some _ _).symm.trans H; with_reducible exact H2_) | with_reducible exact H | (rw [hy127]; exact H) | exact H
                          have Ny127 := Aside0.mk hy127
                          clear hy127
                          replace H := Option.bind_eq_some_iff.mp H
                          obtain ⟨t130, A430, H⟩ := H
                          replace H : (some (!t130)) = some r := H
                          have A43 := Aside0.mk A430
                          clear A430
                          obtain rfl := Option.some.inj H
                          go_enter Try.func9, Try.ntmps9
                          go_wp2_with (first | ((with_reducible refine gate_callee (f := 19) rfl ?_); refine goesL_ (some 2) rfl rfl Try.func19 (by kernel_rfl) rfl #[.string (⟨#[97]⟩ : ByteArray), .agg #[.string (⟨#[104, 114, 101, 102]⟩ : ByteArray), .string (⟨#[106, 97, 118, 97, 115, 99, 114, 105, 112, 116, 58, 120]⟩ : ByteArray)]] rfl (by (try simp only [List.map_toArray, List.map_cons, List.map_nil]); first | done | rfl | (simp only [List.length_drop, List.length_take]; rfl)) ?_; (with_reducible refine (risk_Attr.calls (⟨#[97]⟩ : ByteArray) (⟨#[104, 114, 101, 102]⟩ : ByteArray) (⟨#[106, 97, 118, 97, 115, 99, 114, 105, 112, 116, 58, 120]⟩ : ByteArray) true _ A1.out).mono ?_); rintro e w44 ⟨rfl, hb⟩; refine ⟨_, rfl, ?_⟩; have n0_ := Aside0.mk (below_step (by repeat (first | (with_reducible first | exact HB.out | apply below_alloc | apply pw_below_drewN | apply below_drew1) | exact HB.out)) hb); clear HB; have HB := n0_; clear n0_; (try clear hb); (try clear hb2); (try clear hk); (try clear hi)) | (go_at_call 19; (with_reducible refine (risk_Attr.calls (⟨#[97]⟩ : ByteArray) (⟨#[104, 114, 101, 102]⟩ : ByteArray) (⟨#[104, 116, 116, 112, 115, 58, 120]⟩ : ByteArray) false _ A3.out).mono ?_); rintro e w45 ⟨rfl, hb⟩; have n0_ := Aside0.mk (below_step (by repeat (first | (with_reducible first | exact HB.out | apply below_alloc | apply pw_below_drewN | apply below_drew1) | exact HB.out)) hb); clear HB; have HB := n0_; clear n0_; (try clear hb); (try clear hb2); (try clear hk); (try clear hi)) | (go_at_call 14; (with_reducible refine (risk_Sink.calls (⟨#[100, 105, 118]⟩ : ByteArray) (⟨#[111, 110, 99, 108, 105, 99, 107]⟩ : ByteArray) t117 _ A7.out).mono ?_); rintro e w46 ⟨rfl, hb⟩; have n0_ := Aside0.mk (below_step (by repeat (first | (with_reducible first | exact HB.out | apply below_alloc | apply pw_below_drewN | apply below_drew1) | exact HB.out)) hb); clear HB; have HB := n0_; clear n0_; (try clear hb); (try clear hb2); (try clear hk); (try clear hi)) | (go_at_call 10; (with_reducible refine (risk_Handler.calls (⟨#[111, 110]⟩ : ByteArray) false _ A9.out).mono ?_); rintro e w' ⟨rfl, ⟨nd, rfl⟩⟩) | (go_at_call 12; (with_reducible refine (risk_Nav.calls (⟨#[102, 111, 114, 109]⟩ : ByteArray) (⟨#[97, 99, 116, 105, 111, 110]⟩ : ByteArray) true _ A14.out).mono ?_); rintro e w47 ⟨rfl, hb⟩; have n0_ := Aside0.mk (below_step (by repeat (first | (with_reducible first | exact HB.out | apply below_alloc | apply pw_below_drewN | apply below_drew1) | exact HB.out)) hb); clear HB; have HB := n0_; clear n0_; (try clear hb); (try clear hb2); (try clear hk); (try clear hi)) | (go_at_call 12; (with_reducible refine (risk_Nav.calls (⟨#[100, 105, 118]⟩ : ByteArray) (⟨#[97, 99, 116, 105, 111, 110]⟩ : ByteArray) false _ A16.out).mono ?_); rintro e w48 ⟨rfl, hb⟩; have n0_ := Aside0.mk (below_step (by repeat (first | (with_reducible first | exact HB.out | apply below_alloc | apply pw_below_drewN | apply below_drew1) | exact HB.out)) hb); clear HB; have HB := n0_; clear n0_; (try clear hb); (try clear hb2); (try clear hk); (try clear hi)) | (go_at_call 14; (with_reducible refine (risk_Sink.calls (⟨#[105, 102, 114, 97, 109, 101]⟩ : ByteArray) (⟨#[115, 114, 99, 100, 111, 99]⟩ : ByteArray) t121 _ A23.out).mono ?_); rintro e w49 ⟨rfl, hb⟩; have n0_ := Aside0.mk (below_step (by repeat (first | (with_reducible first | exact HB.out | apply below_alloc | apply pw_below_drewN | apply below_drew1) | exact HB.out)) hb); clear HB; have HB := n0_; clear n0_; (try clear hb); (try clear hb2); (try clear hk); (try clear hi)) | (go_at_call 14; (with_reducible refine (risk_Sink.calls (⟨#[115, 99, 114, 105, 112, 116]⟩ : ByteArray) (⟨#[115, 114, 99]⟩ : ByteArray) t122 _ A25.out).mono ?_); rintro e w50 ⟨rfl, hb⟩; have n0_ := Aside0.mk (below_step (by repeat (first | (with_reducible first | exact HB.out | apply below_alloc | apply pw_below_drewN | apply below_drew1) | exact HB.out)) hb); clear HB; have HB := n0_; clear n0_; (try clear hb); (try clear hb2); (try clear hk); (try clear hi)) | (go_at_call 14; (with_reducible refine (risk_Sink.calls (⟨#[105, 109, 103]⟩ : ByteArray) (⟨#[115, 114, 99]⟩ : ByteArray) t123 _ A27.out).mono ?_); rintro e w51 ⟨rfl, hb⟩; have n0_ := Aside0.mk (below_step (by repeat (first | (with_reducible first | exact HB.out | apply below_alloc | apply pw_below_drewN | apply below_drew1) | exact HB.out)) hb); clear HB; have HB := n0_; clear n0_; (try clear hb); (try clear hb2); (try clear hk); (try clear hi)) | (go_at_call 16; (with_reducible refine (risk_Element.calls (⟨#[115, 99, 114, 105, 112, 116]⟩ : ByteArray) true _ A29.out).mono ?_); rintro e w' ⟨rfl, ⟨nd, rfl⟩⟩) | (go_at_call 16; (with_reducible refine (risk_Element.calls (⟨#[98]⟩ : ByteArray) false _ A31.out).mono ?_); rintro e w' ⟨rfl, ⟨nd, rfl⟩⟩) | (go_at_call 22; refine calls_of_args (args' := #[.slice none ([] : List (S37)).length 0]) (by rfl) ?_; (with_reducible refine (risk_Safe.calls k _ _ ([] : List (S37)) true _ ?side1 ?side2 A41.out).mono ?_); (case side1 => exact Kd.C_nil _ _); (case side2 => exact Nat.le_refl _); rintro e w52 ⟨rfl, hb⟩; have n0_ := Aside0.mk (below_step (by repeat (first | (with_reducible first | exact HB.out | apply below_alloc | apply pw_below_drewN | apply below_drew1) | exact HB.out)) hb); clear HB; have HB := n0_; clear n0_; (try clear hb); (try clear hb2); (try clear hk); (try clear hi)) | ((with_reducible refine gate_dst (N := 47) rfl ?_); (try (refine gate_guard (by rfl) ?_; dsimp only)); refine Kd.S_lit k37 _ 37 ?hg (N := 47) ?hd (xs := ([(⟨0, 0, (⟨#[115, 99, 114, 105, 112, 116]⟩ : ByteArray), (⟨#[]⟩ : ByteArray), ([] : List (S30))⟩ : S37)] : List (S37))) (inner := [.int .i64 0, .int .i64 0, .string (⟨#[115, 99, 114, 105, 112, 116]⟩ : ByteArray), .string (⟨#[]⟩ : ByteArray), .slice none 0 0]) (ok := fun _ => True) (okp := fun _ => True) ?hr ?hp (fun _ hk => hk) trivial (Below.refl _ _) (Nat.le_refl _) (by simp) ?_; (case hd => rfl); (case hg => rfl); (case hr => first | (go_simp; done) | (go_simp; rfl)); (case hp => exact (Reps.c5 (show Kd.M k37 _ _ _ (⟨0, 0, (⟨#[115, 99, 114, 105, 112, 116]⟩ : ByteArray), (⟨#[]⟩ : ByteArray), ([] : List (S30))⟩ : S37) [.int .i64 0, .int .i64 0, .string (⟨#[115, 99, 114, 105, 112, 116]⟩ : ByteArray), .string (⟨#[]⟩ : ByteArray), .slice none 0 0] from (k37_mkM _ _ _ (⟨0, 0, (⟨#[115, 99, 114, 105, 112, 116]⟩ : ByteArray), (⟨#[]⟩ : ByteArray), ([] : List (S30))⟩ : S37) (Kd.R_nil _ _ _ _ _))) (Reps.none _ _))); intro v128 w53 ho54 hb hg_ hnew_; clear hg_ hnew_; (first | rw [← Ny127.out] at ho54 | (simp only [Int.reduceToNat] at ho54; rw [← Ny127.out] at ho54)); have n0_ := Aside0.mk (Kd.S_lower ho54 (below_size (by repeat (first | (with_reducible first | exact HB.out | apply below_alloc | apply pw_below_drewN | apply below_drew1) | exact HB.out)))); have n1_ := Aside0.mk (below_step (by repeat (first | (with_reducible first | exact HB.out | apply below_alloc | apply pw_below_drewN | apply below_drew1) | exact HB.out)) hb); clear HB; have HO129 := n0_; have HB := n1_; clear n0_ n1_; clear hb ho54; obtain ⟨Ao55, co55, eo55⟩ := Kd.S_slice HO129.out; subst eo55) | (go_at_call 22; (with_reducible refine (risk_Safe.calls k _ _ y127 t130 _ ?side1 ?side2 A43.out).mono ?_); (case side1 => repeat (first | exact (Kd.S_reads' HO129.out).2.2 | (with_reducible refine Kd.C_alloc ?_ _) | (with_reducible refine Kd.C_drewN ?_ _) | (with_reducible refine Kd.C_drew ?_))); (case side2 => exact (Kd.S_reads' HO129.out).2.1); rintro e w56 ⟨rfl, hb⟩; have n0_ := Aside0.mk (Kd.S_below (by (with_reducible repeat (first | apply Kd.S_alloc | apply Kd.S_drewN | apply Kd.S_drew)); exact HO129.out) hb); have n1_ := Aside0.mk (below_step (by repeat (first | (with_reducible first | exact HB.out | apply below_alloc | apply pw_below_drewN | apply below_drew1) | exact HB.out)) hb); clear HO129; clear HB; have HO129 := n0_; have HB := n1_; clear n0_ n1_; (try clear hb); (try clear hb2); (try clear hk); (try clear hi)))
                          go_ret
                          exact ⟨by first | rfl | (simp [errW_none, errW_some] <;> rfl) | (simp [*, errW_none, errW_some] <;> rfl), by repeat (first | (with_reducible first | exact HB.out | apply below_alloc | apply pw_below_drewN | apply below_drew1) | exact HB.out)⟩
                        · replace c42 := Bool.eq_false_iff.mpr c42
                          subst c42
                          have H1 : (some false) = some r := by rw [if_neg (show ¬ (false = true) by decide)] at H; exact H
                          clear H
                          have H := H1
                          clear H1
                          exact absurd (Option.some.inj H) (by rw [hT.out]; decide)
                    · replace c30 := Bool.eq_false_iff.mpr c30
                      subst c30
                      have H1 : (some false) = some r := by rw [if_neg (show ¬ (false = true) by decide)] at H; exact H
                      clear H
                      have H := H1
                      clear H1
                      exact absurd (Option.some.inj H) (by rw [hT.out]; decide)
                  · rw [if_neg c28] at H
                    have c28b0 : (t123 == 0) = false := beq_eq_false_iff_ne.mpr c28
                    have c28b1 : (t123 != 0) = true := bne_iff_ne.mpr c28
                    exact absurd (Option.some.inj H) (by rw [hT.out]; decide)
                · rw [if_neg c26] at H
                  have c26b0 : (t122 == 3) = false := beq_eq_false_iff_ne.mpr c26
                  have c26b1 : (t122 != 3) = true := bne_iff_ne.mpr c26
                  exact absurd (Option.some.inj H) (by rw [hT.out]; decide)
              · rw [if_neg c24] at H
                have c24b0 : (t121 == 1) = false := beq_eq_false_iff_ne.mpr c24
                have c24b1 : (t121 != 1) = true := bne_iff_ne.mpr c24
                exact absurd (Option.some.inj H) (by rw [hT.out]; decide)
          · replace c15 := Bool.eq_false_iff.mpr c15
            subst c15
            have H1 : (some false) = some r := by rw [if_neg (show ¬ (false = true) by decide)] at H; exact H
            clear H
            have H := H1
            clear H1
            exact absurd (Option.some.inj H) (by rw [hT.out]; decide)
      · rw [if_neg c8] at H
        have c8b0 : (t117 == 2) = false := beq_eq_false_iff_ne.mpr c8
        have c8b1 : (t117 != 2) = true := bne_iff_ne.mpr c8
        exact absurd (Option.some.inj H) (by rw [hT.out]; decide)
  · replace c2 := Bool.eq_false_iff.mpr c2
    subst c2
    have H1 : (some false) = some r := by rw [if_neg (show ¬ (false = true) by decide)] at H; exact H
    clear H
    have H := H1
    clear H1
    exact absurd (Option.some.inj H) (by rw [hT.out]; decide)
set_option maxRecDepth 100000 in
theorem boltinglaw10_fixed.yes (k : Nat) (r : Bool) (h : boltinglaw10_fixed.f k = some r) : r = true := by
  have up : ∀ (m n : Nat), m ≤ n → ∀ x, boltinglaw10_fixed.f m = some x → boltinglaw10_fixed.f n = some x := fun m n hmn => by
    induction hmn with
    | refl => intro x hx; exact hx
    | step _ ih => intro x hx; exact boltinglaw10_fixed.mono _ _ (ih x hx)
  have h1 := up k (k + 40) (by omega) r h
  have h2 := up 40 (k + 40) (by omega) true (by decide +kernel)
  exact Option.some.inj (h1.symm.trans h2)
theorem boltinglaw10_fixed.calls (k : Nat)  (r : Bool) (w : World) (h : boltinglaw10_fixed.f k  = some r) :
    Calls Try.prog 9 #[] w fun e w' => e = .returned (.bool r) ∧ Below w.heap.size w w' := by
  exact boltinglaw10_fixed.calls_true k r w h (Aside0.mk (boltinglaw10_fixed.yes k r h))

end Go.Proofs.Ytejdfmghcgkojaa.Pr
namespace Go.Proofs.Ytejdfmghcgkojaa.Pr
open Go.RowKit Go.Proofs.YtejdfmghcgkojaaW.PrintWords Go.Proofs.YtejdfmghcgkojaaW.PrintLast Go.Proofs.YtejdfmghcgkojaaW.PrintMore
attribute [local go_sem] max2_int min2_int max_two min_two max_three min_three max_four min_four   -- for this text's walks alone
set_option linter.unusedVariables false
set_option linter.unusedSimpArgs false

/-! ### boltinglaw10_bound: function 21 -/
def boltinglaw10_bound.l0 : Nat → List (S37) → List (S37) → Int → Option ((List (S37)))
  | 0, _, _, _ => none
  | k + 1, x0, x3, x4 => if x4 < (x0.length : Int) then (if x4 < 40 then (if 0 ≤ x4 then (if 0 ≤ (mn (((rd_T37 x0 x4).f4).length : Int) 8) then (if (mn (((rd_T37 x0 x4).f4).length : Int) 8) ≤ (((rd_T37 x0 x4).f4).length : Int) then (if x3.length < 1954687338268 then (boltinglaw10_bound.l0 k x0 (x3 ++ [(⟨(rd_T37 x0 x4).f0, (rd_T37 x0 x4).f1, (rd_T37 x0 x4).f2, (rd_T37 x0 x4).f3, (((rd_T37 x0 x4).f4).take ((mn (((rd_T37 x0 x4).f4).length : Int) 8) : Int).toNat)⟩ : S37)]) (wrap64 (x4 + 1))) else (none)) else (none)) else (none)) else (none)) else (some x3)) else (some x3)
def boltinglaw10_bound.f (k : Nat) (l0 : List (S37)) : Option ((List (S37))) := boltinglaw10_bound.l0 k l0 (([] : List (S37))) 0
set_option maxHeartbeats 8000000 in
set_option maxRecDepth 100000 in
theorem boltinglaw10_bound.calls (k : Nat) (P0_ : Nat → Prop) (A0 : Option Addr) (c0 : Nat) (l0 : List (S37)) (r : List (S37)) (w : World) (hs0 : Kd.V k37 37 w w.heap.size (fun k_ => P0_ k_) (.slice A0 l0.length c0) l0) (h : boltinglaw10_bound.f k l0 = some r) :
    Calls Try.prog 21 #[.slice A0 l0.length c0] w fun e w' => ∃ v0_ : Value, e = .returned (v0_) ∧ Kd.N k37 37 w' w.heap.size (fun k_ => (P0_ k_ ∨ w.heap.size ≤ k_)) v0_ r ∧ Below w.heap.size w w' := by
  have hu37 := Try.underlying37
  have HO0 := Aside0.mk (show Kd.V k37 37 w w.heap.size (fun k_ => (P0_ k_ ∨ w.heap.size ≤ k_)) (.slice A0 l0.length c0) l0 from Kd.V_mono hs0 (fun k_ hk => .inl hk))
  have HB := Aside0.mk (Below.refl w.heap.size w)
  have H : (boltinglaw10_bound.l0 k l0 (([] : List (S37))) 0) = some r := h
  clear h
  obtain ⟨y131, hy131⟩ : ∃ y_ : List (S37), y_ = (([] : List (S37))) := ⟨_, rfl⟩
  replace H : (boltinglaw10_bound.l0 k l0 y131 0) = some r := by first | (rw [hy131]; with_reducible exact H) | (have H2_ := (Option.bind_some _ _).symm.trans H; rw [hy131]; with_reducible exact H2_) | (have H2_ := (Option.bind_some _ _).symm.trans H; with_reducible exact H2_) | with_reducible exact H | (rw [hy131]; exact H) | exact H
  have Ny131 := Aside0.mk hy131
  clear hy131
  have H' := Aside0.mk H
  clear H
  go_enter Try.func21, Try.ntmps21
  go_wp2_with (first | ((with_reducible refine gate_dst (N := 6) rfl ?_); refine Kd.N_lit k37 _ 37 ?hg (N' := 6) ?hd (xs := ([] : List (S37))) (inner := []) (ok := (fun k_ => (P0_ k_ ∨ w.heap.size ≤ k_))) (okp := (fun k_ => (P0_ k_ ∨ w.heap.size ≤ k_))) ?hr ?hp (fun _ hk => hk) ((show ∀ k_, w.heap.size ≤ k_ → (fun k_ => (P0_ k_ ∨ w.heap.size ≤ k_)) k_ from fun k_ hk => (.inr (Nat.le_trans (below_size (by repeat (first | (with_reducible first | exact HB.out | apply below_alloc | apply pw_below_drewN | apply below_drew1) | exact HB.out))) hk))) _ (Nat.le_refl _)) (Below.refl _ _) (Nat.le_refl _) (by simp) ?_; (case hd => rfl); (case hg => rfl); (case hr => first | (go_simp; done) | (go_simp; rfl)); (case hp => exact (Reps.none _ _)); intro v132 w2 ho3 hb hg_ hnew_; clear hg_ hnew_; (first | rw [← Ny131.out] at ho3 | (simp only [Int.reduceToNat] at ho3; rw [← Ny131.out] at ho3)); have n0_ := Aside0.mk (Kd.V_elder' (by (with_reducible repeat (first | apply Kd.V_alloc | apply Kd.V_drewN | apply Kd.V_drew)); exact HO0.out) (Kd.N_base ho3) hb); have n1_ := Aside0.mk (Kd.N_lower ho3 (below_size (by repeat (first | (with_reducible first | exact HB.out | apply below_alloc | apply pw_below_drewN | apply below_drew1) | exact HB.out)))); have n2_ := Aside0.mk (below_step (by repeat (first | (with_reducible first | exact HB.out | apply below_alloc | apply pw_below_drewN | apply below_drew1) | exact HB.out)) hb); clear HO0; clear HB; have HO0 := n0_; have HO133 := n1_; have HB := n2_; clear n0_ n1_ n2_; clear hb ho3))
  go_loopg [3, 4] k (fun kq v3 v4 w' => ∃ (x3_1 : List (S37)) (x4_1 : Int), v4 = .int .i64 x4_1 ∧ Aside0 (boltinglaw10_bound.l0 kq l0 x3_1 x4_1 = some r) ∧ Aside0 (kq ≤ k) ∧ Aside0 (Kd.V k37 37 w' w.heap.size (fun k_ => (P0_ k_ ∨ w.heap.size ≤ k_) ∧ some k_ ≠ (v3 : Value).ownBlock) (.slice A0 l0.length c0) l0) ∧ Aside0 (Kd.N k37 37 w' w.heap.size (fun k_ => (P0_ k_ ∨ w.heap.size ≤ k_)) v3 x3_1) ∧ Aside0 (Below w.heap.size w w'))
  case atStart => exact ⟨(y131), (0), (by first | rfl | (simp; done) | (simp [*]; done)), H', ⟨Nat.le_refl _⟩, ⟨by (with_reducible repeat (first | apply Kd.V_alloc | apply Kd.V_drewN | apply Kd.V_drew)); exact HO0.out⟩, ⟨by (with_reducible repeat (first | apply Kd.N_alloc | apply Kd.N_drewN | apply Kd.N_drew)); exact HO133.out⟩, ⟨by repeat (first | (with_reducible first | exact HB.out | apply below_alloc | apply pw_below_drewN | apply below_drew1) | exact HB.out)⟩⟩
  case round =>
    clear H'
    try clear c2
    try clear p2
    obtain ⟨x3_1, x4_1, rfl, HA, HK1, HO_0, HO_3, HB⟩ := hrel
    cases gk with
    | zero => exact absurd HA.out (by simp [boltinglaw10_bound.l0])
    | succ k1 =>
      have H := HA.out
      clear HA
      simp only [boltinglaw10_bound.l0] at H
      by_cases c4 : x4_1 < (l0.length : Int)
      · rw [if_pos c4] at H
        have c4b0 : decide (x4_1 < (l0.length : Int)) = true := decide_eq_true c4
        clear c4
        by_cases c5 : x4_1 < 40
        · rw [if_pos c5] at H
          have c5b0 : decide (x4_1 < 40) = true := decide_eq_true c5
          clear c5
          by_cases c6 : 0 ≤ x4_1
          · rw [if_pos c6] at H
            have c6b0 : decide (0 ≤ x4_1) = true := decide_eq_true c6
            clear c6
            obtain ⟨ji7, hji7⟩ : ∃ j_ : Int, (mn (((rd_T37 l0 x4_1).f4).length : Int) 8) = j_ := ⟨_, rfl⟩
            replace H : (if 0 ≤ (ji7) then (if (ji7) ≤ (((rd_T37 l0 x4_1).f4).length : Int) then (if x3_1.length < 1954687338268 then (boltinglaw10_bound.l0 k1 l0 (x3_1 ++ [(⟨(rd_T37 l0 x4_1).f0, (rd_T37 l0 x4_1).f1, (rd_T37 l0 x4_1).f2, (rd_T37 l0 x4_1).f3, (((rd_T37 l0 x4_1).f4).take ((ji7) : Int).toNat)⟩ : S37)]) (wrap64 (x4_1 + 1))) else (none)) else (none)) else (none)) = some r := by first | (rw [hji7] at H; exact H) | (simp only [hji7] at H ⊢; exact H)
            have hji7_ : (if 8 < (((rd_T37 l0 x4_1).f4).length : Int) then 8 else (((rd_T37 l0 x4_1).f4).length : Int)) = ji7 := hji7
            by_cases c8 : 0 ≤ (ji7)
            · rw [if_pos c8] at H
              have c8b0 := eq_true c8
              have c8b1 : decide (0 ≤ (ji7)) = true := decide_eq_true c8
              clear c8
              by_cases c9 : (ji7) ≤ (((rd_T37 l0 x4_1).f4).length : Int)
              · rw [if_pos c9] at H
                have c9b0 := eq_true c9
                have c9b1 : decide ((ji7) ≤ (((rd_T37 l0 x4_1).f4).length : Int)) = true := decide_eq_true c9
                clear c9
                obtain ⟨y136, hy136⟩ : ∃ y_ : List (S30), y_ = (((rd_T37 l0 x4_1).f4).take ((ji7) : Int).toNat) := ⟨_, rfl⟩
                replace H : (if x3_1.length < 1954687338268 then (boltinglaw10_bound.l0 k1 l0 (x3_1 ++ [(⟨(rd_T37 l0 x4_1).f0, (rd_T37 l0 x4_1).f1, (rd_T37 l0 x4_1).f2, (rd_T37 l0 x4_1).f3, y136⟩ : S37)]) (wrap64 (x4_1 + 1))) else (none)) = some r := by first | (rw [hy136]; with_reducible exact H) | (have H2_ := (Option.bind_some _ _).symm.trans H; rw [hy136]; with_reducible exact H2_) | (have H2_ := (Option.bind_some _ _).symm.trans H; with_reducible exact H2_) | with_reducible exact H | (rw [hy136]; exact H) | exact H
                have Ny136 := Aside0.mk hy136
                clear hy136
                by_cases c10 : x3_1.length < 1954687338268
                · rw [if_pos c10] at H
                  have LMc10 := Aside0.mk c10
                  clear c10
                  obtain ⟨y141, hy141⟩ : ∃ y_ : List (S37), y_ = (x3_1 ++ [(⟨(rd_T37 l0 x4_1).f0, (rd_T37 l0 x4_1).f1, (rd_T37 l0 x4_1).f2, (rd_T37 l0 x4_1).f3, y136⟩ : S37)]) := ⟨_, rfl⟩
                  replace H : (boltinglaw10_bound.l0 k1 l0 y141 (wrap64 (x4_1 + 1))) = some r := by first | (rw [hy141]; with_reducible exact H) | (have H2_ := (Option.bind_some _ _).symm.trans H; rw [hy141]; with_reducible exact H2_) | (have H2_ := (Option.bind_some _ _).symm.trans H; with_reducible exact H2_) | with_reducible exact H | (rw [hy141]; exact H) | exact H
                  have Ny141 := Aside0.mk hy141
                  clear hy141
                  have H' := Aside0.mk H
                  clear H
                  have p134 : 0 ≤ (x4_1 : Int) := of_decide_eq_true (by first | (with_reducible assumption) | assumption)
                  have q134 : x4_1 < (l0.length : Int) := of_decide_eq_true (by first | (with_reducible assumption) | assumption)
                  obtain ⟨ad134, A134_4, c134_4, e134, hx134_0, hx134_1, hx134_2, hx134_3, hx134_4, hl134_4, hi134_4⟩ := at_T37 (Kd.V_reads' HO_0.out).2.2 x4_1 p134 q134
                  cases e134
                  obtain ⟨ce134, hce134, hMe134, hcc134⟩ := Kd.V_get HO_0.out z37 x4_1 p134 (by first | exact q134 | exact of_decide_eq_true (by first | (with_reducible assumption) | assumption) | (have e_ := (Kd.V_reads' HO_0.out).1; omega))
                  obtain ⟨ua134_4, uc134_4, rfl, ul134_4, ge134_4⟩ := k37_openF hMe134
                  have hv134_4 := hcc134 4 _ rfl
                  rw [add_field _ _ 4 (by omega)] at hv134_4
                  replace hv134_4 := Option.some.inj (hv134_4.symm.trans hx134_4)
                  injection hv134_4 with hva_ hvn_ hvc_
                  rw [hva_] at ge134_4
                  rw [hvc_] at ul134_4
                  have HL134_4 := Aside0.mk (show Kd.V k30 30 _ w.heap.size _ _ ((rd_T37 l0 x4_1).f4) from Kd.V_mk ul134_4 ge134_4)
                  clear hva_ hvn_ hvc_ ge134_4 ul134_4
                  clear hcc134 hce134
                  have HR134_4 := Aside0.mk hi134_4
                  have HC134_4 := Aside0.mk hl134_4
                  clear hi134_4 hl134_4
                  replace p134 := eq_true p134
                  replace q134 := eq_true q134
                  go_wp2_with (first | ((with_reducible refine gate_dst (N := 5) rfl ?_); refine box_event ?hg (N := 5) ?hd (cs := #[.int .i64 0, .int .i64 0, .string (⟨#[]⟩ : ByteArray), .string (⟨#[]⟩ : ByteArray), .slice none 0 0]) (t := 37) ?hr ?_; (case hd => rfl); (case hg => rfl); (case hr => first | (go_simp; done) | (go_simp; rfl)); intro gb135 hg w11 hbox hb; have n0_ := Aside0.mk (Kd.V_below (Kd.V_elderB (by (with_reducible repeat (first | apply Kd.V_alloc | apply Kd.V_drewN | apply Kd.V_drew)); exact HO_0.out) gb135 (Nat.le_of_eq hg.symm)) hb); have n1_ := Aside0.mk (Kd.N_below (Kd.N_elderB (by (with_reducible repeat (first | apply Kd.N_alloc | apply Kd.N_drewN | apply Kd.N_drew)); exact HO_3.out) gb135 (Nat.le_of_eq hg.symm)) hb); have n2_ := Aside0.mk (Kd.V_below (Kd.V_elderB (by (with_reducible repeat (first | apply Kd.V_alloc | apply Kd.V_drewN | apply Kd.V_drew)); exact HL134_4.out) gb135 (Nat.le_of_eq hg.symm)) hb); have n3_ := Aside0.mk (Kd.C_below (by repeat (first | (with_reducible exact HR134_4.out) | (with_reducible refine Kd.C_alloc ?_ _) | (with_reducible refine Kd.C_drewN ?_ _) | (with_reducible refine Kd.C_drew ?_) | exact HR134_4.out)) hb); have n4_ := Aside0.mk (below_step (by repeat (first | (with_reducible first | exact HB.out | apply below_alloc | apply pw_below_drewN | apply below_drew1) | exact HB.out)) hb); have n5_ := Aside0.mk (hbox); have n6_ := Aside0.mk ((by rw [hg]; exact (below_size (by repeat (first | (with_reducible first | exact HB.out | apply below_alloc | apply pw_below_drewN | apply below_drew1) | exact HB.out))) : w.heap.size ≤ gb135)); have n7_ := Aside0.mk ((by rw [hg]; exact (below_size (by repeat (first | (with_reducible first | exact HB.out | apply below_alloc | apply pw_below_drewN | apply below_drew1) | exact HB.out))) : w.heap.size ≤ gb135)); clear HO_0; clear HO_3; clear HL134_4; clear HR134_4; clear HB; have HO_0 := n0_; have HO_3 := n1_; have HL134_4 := n2_; have HR134_4 := n3_; have HB := n4_; have BK135 := n5_; have GW135 := n6_; have GE135 := n7_; clear n0_ n1_ n2_ n3_ n4_ n5_ n6_ n7_; clear hb hbox hg; have hcz12_0 : w11.cell? ⟨gb135, 0, none⟩ = some (.int .i64 0) := (blk_cell BK135.out 0).trans rfl; have hcz12_1 : w11.cell? ⟨gb135, 1, none⟩ = some (.int .i64 0) := (blk_cell BK135.out 1).trans rfl; have hcz12_2 : w11.cell? ⟨gb135, 2, none⟩ = some (.string (⟨#[]⟩ : ByteArray)) := (blk_cell BK135.out 2).trans rfl; have hcz12_3 : w11.cell? ⟨gb135, 3, none⟩ = some (.string (⟨#[]⟩ : ByteArray)) := (blk_cell BK135.out 3).trans rfl; have hcz12_4 : w11.cell? ⟨gb135, 4, none⟩ = some (.slice none 0 0) := (blk_cell BK135.out 4).trans rfl; have hfz12_0 := blk_frozen BK135.out 0; have hfz12_1 := blk_frozen BK135.out 1; have hfz12_2 := blk_frozen BK135.out 2; have hfz12_3 := blk_frozen BK135.out 3; have hfz12_4 := blk_frozen BK135.out 4) | ((with_reducible refine gate_store (t := 37) (p := 5) rfl ?_); refine store_event (t := 37) (p := 5) (v := ?vo_w13) (w1 := (((((w11.setCell ⟨gb135, 0, none⟩ (.int .i64 ((rd_T37 l0 x4_1).f0))).setCell ⟨gb135, 1, none⟩ (.int .i64 ((rd_T37 l0 x4_1).f1))).setCell ⟨gb135, 2, none⟩ (.string ((rd_T37 l0 x4_1).f2))).setCell ⟨gb135, 3, none⟩ (.string ((rd_T37 l0 x4_1).f3))).setCell ⟨gb135, 4, none⟩ (.slice A134_4 ((rd_T37 l0 x4_1).f4).length c134_4))) ?hg ?ho ?hn ?hr ?_; (case ho => rfl); (case hg => rfl); (case hn => rfl); (case hr => first | (go_simp; done) | (go_simp; rfl)); intro w13 hw; have n0_ : Aside0 (Kd.V k37 37 w13 w.heap.size (fun k_ => (P0_ k_ ∨ w.heap.size ≤ k_) ∧ some k_ ≠ (u3 : Value).ownBlock ∧ k_ ≠ gb135) (.slice (some ad134) l0.length c0) l0) := ⟨(by rw [hw]; exact (by (with_reducible repeat (first | apply Kd.V_alloc | apply Kd.V_drewN | apply Kd.V_drew)); exact Kd.V_mono (Kd.V_far (p := ⟨gb135, 4, none⟩) (Kd.V_far (p := ⟨gb135, 3, none⟩) (Kd.V_far (p := ⟨gb135, 2, none⟩) (Kd.V_far (p := ⟨gb135, 1, none⟩) (Kd.V_far (p := ⟨gb135, 0, none⟩) (Kd.V_mono HO_0.out (fun k_ hk => (⟨hk, hk.2⟩ : _ ∧ k_ ≠ gb135))) (fun _ hk => hk.2) (.int .i64 ((rd_T37 l0 x4_1).f0))) (fun _ hk => hk.2) (.int .i64 ((rd_T37 l0 x4_1).f1))) (fun _ hk => hk.2) (.string ((rd_T37 l0 x4_1).f2))) (fun _ hk => hk.2) (.string ((rd_T37 l0 x4_1).f3))) (fun _ hk => hk.2) (.slice A134_4 ((rd_T37 l0 x4_1).f4).length c134_4)) (fun _ hk => ⟨hk.1.1.1, ⟨hk.1.1.2, hk.1.2⟩⟩)))⟩; have n1_ : Aside0 (Kd.N k37 37 w13 w.heap.size (fun k_ => (P0_ k_ ∨ w.heap.size ≤ k_) ∧ k_ ≠ gb135) u3 x3_1) := ⟨(by rw [hw]; exact (by (with_reducible repeat (first | apply Kd.N_alloc | apply Kd.N_drewN | apply Kd.N_drew)); exact Kd.N_mono (Kd.N_far (p := ⟨gb135, 4, none⟩) (Kd.N_far (p := ⟨gb135, 3, none⟩) (Kd.N_far (p := ⟨gb135, 2, none⟩) (Kd.N_far (p := ⟨gb135, 1, none⟩) (Kd.N_far (p := ⟨gb135, 0, none⟩) (Kd.N_mono HO_3.out (fun k_ hk => (⟨hk, hk.2⟩ : _ ∧ k_ ≠ gb135))) (fun _ hk => hk.2) (.int .i64 ((rd_T37 l0 x4_1).f0))) (fun _ hk => hk.2) (.int .i64 ((rd_T37 l0 x4_1).f1))) (fun _ hk => hk.2) (.string ((rd_T37 l0 x4_1).f2))) (fun _ hk => hk.2) (.string ((rd_T37 l0 x4_1).f3))) (fun _ hk => hk.2) (.slice A134_4 ((rd_T37 l0 x4_1).f4).length c134_4)) (fun _ hk => ⟨hk.1.1, hk.1.2⟩)))⟩; have n2_ : Aside0 (Kd.V k30 30 w13 w.heap.size (fun k_ => (P0_ k_ ∨ w.heap.size ≤ k_) ∧ some k_ ≠ (u3 : Value).ownBlock ∧ k_ ≠ gb135) (.slice A134_4 ((rd_T37 l0 x4_1).f4).length c134_4) ((rd_T37 l0 x4_1).f4)) := ⟨(by rw [hw]; exact (by (with_reducible repeat (first | apply Kd.V_alloc | apply Kd.V_drewN | apply Kd.V_drew)); exact Kd.V_mono (Kd.V_far (p := ⟨gb135, 4, none⟩) (Kd.V_far (p := ⟨gb135, 3, none⟩) (Kd.V_far (p := ⟨gb135, 2, none⟩) (Kd.V_far (p := ⟨gb135, 1, none⟩) (Kd.V_far (p := ⟨gb135, 0, none⟩) (Kd.V_mono HL134_4.out (fun k_ hk => (⟨hk, hk.2⟩ : _ ∧ k_ ≠ gb135))) (fun _ hk => hk.2) (.int .i64 ((rd_T37 l0 x4_1).f0))) (fun _ hk => hk.2) (.int .i64 ((rd_T37 l0 x4_1).f1))) (fun _ hk => hk.2) (.string ((rd_T37 l0 x4_1).f2))) (fun _ hk => hk.2) (.string ((rd_T37 l0 x4_1).f3))) (fun _ hk => hk.2) (.slice A134_4 ((rd_T37 l0 x4_1).f4).length c134_4)) (fun _ hk => ⟨hk.1.1.1, ⟨hk.1.1.2, hk.1.2⟩⟩)))⟩; have n3_ : Aside0 (w13.heap[gb135]? = some (.cells #[.int .i64 ((rd_T37 l0 x4_1).f0), .int .i64 ((rd_T37 l0 x4_1).f1), .string ((rd_T37 l0 x4_1).f2), .string ((rd_T37 l0 x4_1).f3), .slice A134_4 ((rd_T37 l0 x4_1).f4).length c134_4] 37 (0, 0))) := ⟨(by rw [hw]; exact (by (with_reducible repeat (first | refine blk_drewN ?_ _ | refine blk_drew ?_ | refine blk_alloc ?_ _)); refine blk_put (cs := #[.int .i64 ((rd_T37 l0 x4_1).f0), .int .i64 ((rd_T37 l0 x4_1).f1), .string ((rd_T37 l0 x4_1).f2), .string ((rd_T37 l0 x4_1).f3), .slice none 0 0]) ?_ 4 _ rfl; (with_reducible repeat (first | refine blk_drewN ?_ _ | refine blk_drew ?_ | refine blk_alloc ?_ _)); refine blk_put (cs := #[.int .i64 ((rd_T37 l0 x4_1).f0), .int .i64 ((rd_T37 l0 x4_1).f1), .string ((rd_T37 l0 x4_1).f2), .string (⟨#[]⟩ : ByteArray), .slice none 0 0]) ?_ 3 _ rfl; (with_reducible repeat (first | refine blk_drewN ?_ _ | refine blk_drew ?_ | refine blk_alloc ?_ _)); refine blk_put (cs := #[.int .i64 ((rd_T37 l0 x4_1).f0), .int .i64 ((rd_T37 l0 x4_1).f1), .string (⟨#[]⟩ : ByteArray), .string (⟨#[]⟩ : ByteArray), .slice none 0 0]) ?_ 2 _ rfl; (with_reducible repeat (first | refine blk_drewN ?_ _ | refine blk_drew ?_ | refine blk_alloc ?_ _)); refine blk_put (cs := #[.int .i64 ((rd_T37 l0 x4_1).f0), .int .i64 0, .string (⟨#[]⟩ : ByteArray), .string (⟨#[]⟩ : ByteArray), .slice none 0 0]) ?_ 1 _ rfl; (with_reducible repeat (first | refine blk_drewN ?_ _ | refine blk_drew ?_ | refine blk_alloc ?_ _)); refine blk_put (cs := #[.int .i64 0, .int .i64 0, .string (⟨#[]⟩ : ByteArray), .string (⟨#[]⟩ : ByteArray), .slice none 0 0]) ?_ 0 _ rfl; (with_reducible repeat (first | refine blk_drewN ?_ _ | refine blk_drew ?_ | refine blk_alloc ?_ _)); exact BK135.out))⟩; have n4_ : Aside0 (Below w.heap.size w w13) := ⟨(by rw [hw]; exact (by repeat (first | (with_reducible first | exact HB.out | apply below_alloc | apply pw_below_drewN | apply below_drew1 | refine below_set ?_ GE135.out) | exact HB.out)))⟩; clear hw; clear HO_0; clear HO_3; clear HL134_4; clear BK135; clear HB; have HO_0 := n0_; have HO_3 := n1_; have HL134_4 := n2_; have BK135 := n3_; have HB := n4_; clear n0_ n1_ n2_ n3_ n4_; have hcz14_0 : w13.cell? ⟨gb135, 0, none⟩ = some (.int .i64 ((rd_T37 l0 x4_1).f0)) := (blk_cell BK135.out 0).trans rfl; have hcz14_1 : w13.cell? ⟨gb135, 1, none⟩ = some (.int .i64 ((rd_T37 l0 x4_1).f1)) := (blk_cell BK135.out 1).trans rfl; have hcz14_2 : w13.cell? ⟨gb135, 2, none⟩ = some (.string ((rd_T37 l0 x4_1).f2)) := (blk_cell BK135.out 2).trans rfl; have hcz14_3 : w13.cell? ⟨gb135, 3, none⟩ = some (.string ((rd_T37 l0 x4_1).f3)) := (blk_cell BK135.out 3).trans rfl; have hcz14_4 : w13.cell? ⟨gb135, 4, none⟩ = some (.slice A134_4 ((rd_T37 l0 x4_1).f4).length c134_4) := (blk_cell BK135.out 4).trans rfl; have hfz14_0 := blk_frozen BK135.out 0; have hfz14_1 := blk_frozen BK135.out 1; have hfz14_2 := blk_frozen BK135.out 2; have hfz14_3 := blk_frozen BK135.out 3; have hfz14_4 := blk_frozen BK135.out 4; have q15 : ((ji7) : Int) ≤ ((((rd_T37 l0 x4_1).f4).length : Int) : Int) := of_decide_eq_true (by first | (with_reducible assumption) | assumption); obtain ⟨i015, hi015, _, hsz15, _⟩ := info_parts info30; have hroom15 : ((rd_T37 l0 x4_1).f4).length ≤ c134_4 := HC134_4.out; have hC15 : Kd.F k30 _ _ A134_4 ((rd_T37 l0 x4_1).f4).length ((rd_T37 l0 x4_1).f4) := (Kd.V_at (base := w.heap.size) HL134_4.out).2.2; have hcut15 := cut_to (P := Try.prog) 35 30 .i64 Try.underlying35 hi015 A134_4 ((rd_T37 l0 x4_1).f4).length c134_4 (ji7) (of_decide_eq_true (by first | (with_reducible assumption) | assumption)) q15 hroom15; have hr15 := Kd.F_take (m := ((ji7) : Int).toNat) hC15 (by omega); have hy15 : y136.length = ((ji7) : Int).toNat := (by rw [Ny136.out, List.length_take]; omega); rw [← Ny136.out] at hr15; rw [← hy15] at hcut15; have HO140 := Aside0.mk (show Kd.V k30 30 _ w.heap.size _ (.slice A134_4 y136.length c134_4) y136 from Kd.V_mk (by omega) hr15); have HC140 := Aside0.mk (show y136.length ≤ c134_4 from by omega); clear hr15 hC15 hroom15 hi015 hsz15; have KY15 := Aside0.mk hy15; clear hy15; replace q15 := eq_true q15) | ((with_reducible refine gate_store (t := 35) (p := 28) rfl ?_); refine store_event (t := 35) (p := 28) (v := ?vo_w16) (w1 := (w13.setCell ⟨gb135, 4, none⟩ (.slice A134_4 y136.length c134_4))) ?hg ?ho ?hn ?hr ?_; (case ho => rfl); (case hg => rfl); (case hn => rfl); (case hr => first | (go_simp; done) | (go_simp; rfl)); intro w16 hw; have n0_ : Aside0 (Kd.V k37 37 w16 w.heap.size (fun k_ => (P0_ k_ ∨ w.heap.size ≤ k_) ∧ some k_ ≠ (u3 : Value).ownBlock ∧ k_ ≠ gb135) (.slice (some ad134) l0.length c0) l0) := ⟨(by rw [hw]; exact (by (with_reducible repeat (first | apply Kd.V_alloc | apply Kd.V_drewN | apply Kd.V_drew)); exact Kd.V_mono (Kd.V_far (p := ⟨gb135, 4, none⟩) (Kd.V_mono HO_0.out (fun k_ hk => (⟨hk, hk.2.2⟩ : _ ∧ k_ ≠ gb135))) (fun _ hk => hk.2) (.slice A134_4 y136.length c134_4)) (fun _ hk => ⟨hk.1.1, ⟨hk.1.2.1, hk.1.2.2⟩⟩)))⟩; have n1_ : Aside0 (Kd.N k37 37 w16 w.heap.size (fun k_ => (P0_ k_ ∨ w.heap.size ≤ k_) ∧ k_ ≠ gb135) u3 x3_1) := ⟨(by rw [hw]; exact (by (with_reducible repeat (first | apply Kd.N_alloc | apply Kd.N_drewN | apply Kd.N_drew)); exact Kd.N_mono (Kd.N_far (p := ⟨gb135, 4, none⟩) (Kd.N_mono HO_3.out (fun k_ hk => (⟨hk, hk.2⟩ : _ ∧ k_ ≠ gb135))) (fun _ hk => hk.2) (.slice A134_4 y136.length c134_4)) (fun _ hk => ⟨hk.1.1, hk.1.2⟩)))⟩; have n2_ : Aside0 (Kd.V k30 30 w16 w.heap.size (fun k_ => (P0_ k_ ∨ w.heap.size ≤ k_) ∧ some k_ ≠ (u3 : Value).ownBlock ∧ k_ ≠ gb135) (.slice A134_4 ((rd_T37 l0 x4_1).f4).length c134_4) ((rd_T37 l0 x4_1).f4)) := ⟨(by rw [hw]; exact (by (with_reducible repeat (first | apply Kd.V_alloc | apply Kd.V_drewN | apply Kd.V_drew)); exact Kd.V_mono (Kd.V_far (p := ⟨gb135, 4, none⟩) (Kd.V_mono HL134_4.out (fun k_ hk => (⟨hk, hk.2.2⟩ : _ ∧ k_ ≠ gb135))) (fun _ hk => hk.2) (.slice A134_4 y136.length c134_4)) (fun _ hk => ⟨hk.1.1, ⟨hk.1.2.1, hk.1.2.2⟩⟩)))⟩; have n3_ : Aside0 (Kd.V k30 30 w16 w.heap.size (fun k_ => (P0_ k_ ∨ w.heap.size ≤ k_) ∧ some k_ ≠ (u3 : Value).ownBlock ∧ k_ ≠ gb135) (.slice A134_4 y136.length c134_4) y136) := ⟨(by rw [hw]; exact (by (with_reducible repeat (first | apply Kd.V_alloc | apply Kd.V_drewN | apply Kd.V_drew)); exact Kd.V_mono (Kd.V_far (p := ⟨gb135, 4, none⟩) (Kd.V_mono HO140.out (fun k_ hk => (⟨hk, hk.2.2⟩ : _ ∧ k_ ≠ gb135))) (fun _ hk => hk.2) (.slice A134_4 y136.length c134_4)) (fun _ hk => ⟨hk.1.1, ⟨hk.1.2.1, hk.1.2.2⟩⟩)))⟩; have n4_ : Aside0 (w16.heap[gb135]? = some (.cells #[.int .i64 ((rd_T37 l0 x4_1).f0), .int .i64 ((rd_T37 l0 x4_1).f1), .string ((rd_T37 l0 x4_1).f2), .string ((rd_T37 l0 x4_1).f3), .slice A134_4 y136.length c134_4] 37 (0, 0))) := ⟨(by rw [hw]; exact (by (with_reducible repeat (first | refine blk_drewN ?_ _ | refine blk_drew ?_ | refine blk_alloc ?_ _)); refine blk_put (cs := #[.int .i64 ((rd_T37 l0 x4_1).f0), .int .i64 ((rd_T37 l0 x4_1).f1), .string ((rd_T37 l0 x4_1).f2), .string ((rd_T37 l0 x4_1).f3), .slice A134_4 ((rd_T37 l0 x4_1).f4).length c134_4]) ?_ 4 _ rfl; (with_reducible repeat (first | refine blk_drewN ?_ _ | refine blk_drew ?_ | refine blk_alloc ?_ _)); exact BK135.out))⟩; have n5_ : Aside0 (Below w.heap.size w w16) := ⟨(by rw [hw]; exact (by repeat (first | (with_reducible first | exact HB.out | apply below_alloc | apply pw_below_drewN | apply below_drew1 | refine below_set ?_ GE135.out) | exact HB.out)))⟩; clear hw; clear HO_0; clear HO_3; clear HL134_4; clear HO140; clear BK135; clear HB; have HO_0 := n0_; have HO_3 := n1_; have HL134_4 := n2_; have HO140 := n3_; have BK135 := n4_; have HB := n5_; clear n0_ n1_ n2_ n3_ n4_ n5_; have hcz17_0 : w16.cell? ⟨gb135, 0, none⟩ = some (.int .i64 ((rd_T37 l0 x4_1).f0)) := (blk_cell BK135.out 0).trans rfl; have hcz17_1 : w16.cell? ⟨gb135, 1, none⟩ = some (.int .i64 ((rd_T37 l0 x4_1).f1)) := (blk_cell BK135.out 1).trans rfl; have hcz17_2 : w16.cell? ⟨gb135, 2, none⟩ = some (.string ((rd_T37 l0 x4_1).f2)) := (blk_cell BK135.out 2).trans rfl; have hcz17_3 : w16.cell? ⟨gb135, 3, none⟩ = some (.string ((rd_T37 l0 x4_1).f3)) := (blk_cell BK135.out 3).trans rfl; have hcz17_4 : w16.cell? ⟨gb135, 4, none⟩ = some (.slice A134_4 y136.length c134_4) := (blk_cell BK135.out 4).trans rfl; have hfz17_0 := blk_frozen BK135.out 0; have hfz17_1 := blk_frozen BK135.out 1; have hfz17_2 := blk_frozen BK135.out 2; have hfz17_3 := blk_frozen BK135.out 3; have hfz17_4 := blk_frozen BK135.out 4) | ((with_reducible refine gate_builtin (b := .append) (xs := #[.tmp 29, .tmp 31]) rfl ?_); at_builtin; refine Kd.N_append k37 (w0 := w) w.heap.size rfl (.tmp 29) (.tmp 31) 32 37 (.agg #[(.int .i64 0), (.int .i64 0), (.string ⟨#[]⟩), (.string ⟨#[]⟩), (.slice none 0 0)]) 72 rfl Try.underlying32 info37 rfl (by decide) (by omega) u3 x3_1 (⟨(rd_T37 l0 x4_1).f0, (rd_T37 l0 x4_1).f1, (rd_T37 l0 x4_1).f2, (rd_T37 l0 x4_1).f3, y136⟩ : S37) [.int .i64 ((rd_T37 l0 x4_1).f0), .int .i64 ((rd_T37 l0 x4_1).f1), .string ((rd_T37 l0 x4_1).f2), .string ((rd_T37 l0 x4_1).f3), .slice A134_4 y136.length c134_4] (fun k_ => (P0_ k_ ∨ w.heap.size ≤ k_) ∧ k_ ≠ gb135) (fun k_ => ((fun k_ => (P0_ k_ ∨ w.heap.size ≤ k_) ∧ k_ ≠ gb135)) k_ ∧ some k_ ≠ (u3 : Value).ownBlock) rfl rfl ?aP (fun _ hk => hk) ?aF ?aO ?aB ?aS ?aL ?_; (case aP => exact (k37_mkF _ _ (⟨(rd_T37 l0 x4_1).f0, (rd_T37 l0 x4_1).f1, (rd_T37 l0 x4_1).f2, (rd_T37 l0 x4_1).f3, y136⟩ : S37) (Kd.V_reads' (Kd.V_mono (ok' := (fun k_ => ((fun k_ => (P0_ k_ ∨ w.heap.size ≤ k_) ∧ k_ ≠ gb135)) k_ ∧ some k_ ≠ (u3 : Value).ownBlock)) (HO140.out) (fun k_ hk => ⟨⟨hk.1, hk.2.2⟩, hk.2.1⟩))).2.1 (Kd.V_F (Kd.V_mono (ok' := (fun k_ => ((fun k_ => (P0_ k_ ∨ w.heap.size ≤ k_) ∧ k_ ≠ gb135)) k_ ∧ some k_ ≠ (u3 : Value).ownBlock)) (HO140.out) (fun k_ hk => ⟨⟨hk.1, hk.2.2⟩, hk.2.1⟩))))); (case aB => exact (by repeat (first | (with_reducible first | exact HB.out | apply below_alloc | apply pw_below_drewN | apply below_drew1 | refine below_set ?_ GE135.out) | exact HB.out))); (case aF => exact (fun k_ hk => ⟨(.inr (Nat.le_trans (below_size (by repeat (first | (with_reducible first | exact HB.out | apply below_alloc | apply pw_below_drewN | apply below_drew1 | refine below_set ?_ GE135.out) | exact HB.out))) hk)), Kd.freshB (g := gb135) (o := .cells #[.int .i64 ((rd_T37 l0 x4_1).f0), .int .i64 ((rd_T37 l0 x4_1).f1), .string ((rd_T37 l0 x4_1).f2), .string ((rd_T37 l0 x4_1).f3), .slice A134_4 y136.length c134_4] 37 (0, 0)) (by (with_reducible repeat (first | refine blk_drewN ?_ _ | refine blk_drew ?_ | refine blk_alloc ?_ _)); exact BK135.out) k_ hk⟩)); (case aO => exact (by (with_reducible repeat (first | apply Kd.N_alloc | apply Kd.N_drewN | apply Kd.N_drew)); exact HO_3.out)); (case aS => exact (below_size (by repeat (first | (with_reducible first | exact HB.out | apply below_alloc | apply pw_below_drewN | apply below_drew1 | refine below_set ?_ GE135.out) | exact HB.out)))); (case aL => have := LMc10.out; omega); intro v142 w18 ho hb hg hat; rw [← Ny141.out] at ho; have n0_ := Aside0.mk (Kd.V_afterv (ok := (fun k_ => (P0_ k_ ∨ w.heap.size ≤ k_) ∧ k_ ≠ gb135)) (by (with_reducible repeat (first | apply Kd.V_alloc | apply Kd.V_drewN | apply Kd.V_drew)); exact Kd.V_mono HO_0.out (fun _ hk => ⟨⟨hk.1, hk.2.2⟩, hk.2.1⟩)) hg hat); have n1_ := Aside0.mk (Kd.V_afterv (ok := (fun k_ => (P0_ k_ ∨ w.heap.size ≤ k_) ∧ k_ ≠ gb135)) (by (with_reducible repeat (first | apply Kd.V_alloc | apply Kd.V_drewN | apply Kd.V_drew)); exact Kd.V_mono HL134_4.out (fun _ hk => ⟨⟨hk.1, hk.2.2⟩, hk.2.1⟩)) hg hat); have n2_ := Aside0.mk (blk_grown (g := gb135) (o := .cells #[.int .i64 ((rd_T37 l0 x4_1).f0), .int .i64 ((rd_T37 l0 x4_1).f1), .string ((rd_T37 l0 x4_1).f2), .string ((rd_T37 l0 x4_1).f3), .slice A134_4 y136.length c134_4] 37 (0, 0)) (by (with_reducible repeat (first | refine blk_drewN ?_ _ | refine blk_drew ?_ | refine blk_alloc ?_ _)); exact BK135.out) hg (Kd.N_away HO_3.out (fun _ hk => hk.2))); have n3_ := Aside0.mk (Kd.V_afterv (ok := (fun k_ => (P0_ k_ ∨ w.heap.size ≤ k_) ∧ k_ ≠ gb135)) (by (with_reducible repeat (first | apply Kd.V_alloc | apply Kd.V_drewN | apply Kd.V_drew)); exact Kd.V_mono HO140.out (fun _ hk => ⟨⟨hk.1, hk.2.2⟩, hk.2.1⟩)) hg hat); have n4_ := Aside0.mk (hb); have n5_ := Aside0.mk (ho); clear HO_0; clear HL134_4; clear BK135; clear HO140; clear HB; clear HO_3; have HO_0 := n0_; have HL134_4 := n1_; have BK135 := n2_; have HO140 := n3_; have HB := n4_; have HO143 := n5_; clear n0_ n1_ n2_ n3_ n4_ n5_; clear ho hb hg hat))
                  go_roundg k1
                  case measure => have := HK1.out; omega
                  case rel => exact ⟨(y141), (wrap64 (x4_1 + 1)), (by first | rfl | (simp; done) | (simp [*]; done)), H', ⟨by have := HK1.out; omega⟩, ⟨by (with_reducible repeat (first | apply Kd.V_alloc | apply Kd.V_drewN | apply Kd.V_drew)); exact Kd.V_mono HO_0.out (fun _ hk => ⟨hk.1.1, hk.2⟩)⟩, ⟨by (with_reducible repeat (first | apply Kd.N_alloc | apply Kd.N_drewN | apply Kd.N_drew)); exact Kd.N_mono HO143.out (fun _ hk => hk.1)⟩, ⟨by repeat (first | (with_reducible first | exact HB.out | apply below_alloc | apply pw_below_drewN | apply below_drew1 | refine below_set ?_ GE135.out) | exact HB.out)⟩⟩
                · rw [if_neg c10] at H
                  exact absurd H (by simp)
              · rw [if_neg c9] at H
                exact absurd H (by simp)
            · rw [if_neg c8] at H
              exact absurd H (by simp)
          · rw [if_neg c6] at H
            exact absurd H (by simp)
        · rw [if_neg c5] at H
          have c5b0 : decide (x4_1 < 40) = false := decide_eq_false c5
          clear c5
          obtain rfl := Option.some.inj H
          go_wp2
          go_ret
          exact ⟨_, by first | rfl | (simp [errW_none, errW_some] <;> rfl) | (simp [*, errW_none, errW_some] <;> rfl), by (with_reducible repeat (first | apply Kd.N_alloc | apply Kd.N_drewN | apply Kd.N_drew)); exact HO_3.out, by repeat (first | (with_reducible first | exact HB.out | apply below_alloc | apply pw_below_drewN | apply below_drew1) | exact HB.out)⟩
      · rw [if_neg c4] at H
        have c4b0 : decide (x4_1 < (l0.length : Int)) = false := decide_eq_false c4
        clear c4
        obtain rfl := Option.some.inj H
        go_wp2
        go_ret
        exact ⟨_, by first | rfl | (simp [errW_none, errW_some] <;> rfl) | (simp [*, errW_none, errW_some] <;> rfl), by (with_reducible repeat (first | apply Kd.N_alloc | apply Kd.N_drewN | apply Kd.N_drew)); exact HO_3.out, by repeat (first | (with_reducible first | exact HB.out | apply below_alloc | apply pw_below_drewN | apply below_drew1) | exact HB.out)⟩

end Go.Proofs.Ytejdfmghcgkojaa.Pr
