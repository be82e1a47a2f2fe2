import Derived.Test.YtjofofpplpmgjaaJConfigCanon0
import Derived.Deep.Slices
import Derived.ChangeArms
import Derived.ChangeSame
import Derived.SizedLaws
import Derived.Shelf.Small.Bits
import Derived.Shelf.Small.Strs
import Derived.Shelf.Strconv.Itoa0
import Derived.Shelf.Sort.Plain
import Derived.Shelf.Strings.Prefix
import Derived.Shelf.Slices.Turned
import Derived.Ground.Names2Prog
import Derived.Shelf.Slices.Clone
import Derived.Shelf.Slices.CompactS
import Derived.Shelf.Slices.Cells
import Derived.Shelf.Slices.In.SortNone
import Derived.Ground.SlgnProg
import Derived.Shelf.SlicesE.Compact
import Derived.Ground.SlgfProg
import Derived.Shelf.SlicesE.IndexFunc
import Derived.Shelf.SlicesE.DeleteFunc
import Derived.Test.YtjofofpplpmgjaaProg
import Derived.Lib.IndexMore
import Derived.WalkKit
import Derived.BigCall
import Derived.Deep.DeepCutAuto
import Derived.Deep.CutBlock
import Derived.Shelf.GgClosure.Gives
import Derived.Lib.CutLaws
import Derived.Lib.IndexLaws
import Derived.Sort.OwnSorted
import Derived.WalkMore
import Derived.Below
import Derived.Deep.Draws
import Derived.Deep.AppendLies
import Derived.Maps.AppendAt
import Derived.OwnWalk
import Derived.Laws.BytesArg
import Derived.Laws.MakeOwn
import Derived.Laws.OwnMore
import Derived.Deep.OwnRows
import Derived.Tactics
import Derived.Lib.ConvBytes
import Derived.Laws.Slices
import Derived.KernelRfl
import Derived.RowKit3
import Derived.Deep.LoopGhost
import Derived.Deep.QuietTactic
import Derived.BigQuiet
import Derived.WideLaws
import Derived.Deep.RegionHeld3
import Derived.Laws.Rows
import Derived.Lib.AppendStr
import Derived.ArgAppend
import Derived.Laws.IdiomCopy
import Derived.OrdersHeld
import Derived.Laws.BitsLemmas
import Derived.RowKit
import Derived.Shelf.SlicesQ.Load
namespace Go.Proofs.Ytjofofpplpmgjaa
set_option linter.unusedVariables false
open Go.RowKit Go.ChangeShapes Go.WideShapes Go.Deep Go.Proofs.YtjofofpplpmgjaaW.PrintWords

def Opens {α : Type} (P : Program) (t : TypeId) (d : Kd α) : Prop :=
  P.cellsOf t = d.sz ∧ ∀ {H : Type} (enc : TypeId × Value → H) (w : World) (base : Nat) (spare : Nat → Bool) (held : Bool) (fuel : Nat) (cs : List Value) (x : DataW H × List MemPlace),
    DataW.trod enc P w base spare held fuel t cs = some x → ∃ a, d.K w a cs
theorem list_of {α : Type} {p : Nat → α → Prop} : ∀ (n : Nat), (∀ i, i < n → ∃ a, p i a) → ∃ l : List α, l.length = n ∧ ∀ (i : Nat) (a : α), l[i]? = some a → p i a
  | 0, _ => ⟨[], rfl, fun i a h => by simp at h⟩
  | n + 1, h => by
    obtain ⟨l, hl, hp⟩ := list_of n (fun i hi => h i (by omega))
    obtain ⟨a, ha⟩ := h n (by omega)
    refine ⟨l ++ [a], by simp [hl], fun i b hb => ?_⟩
    rcases Nat.lt_or_ge i l.length with hi | hi
    · rw [List.getElem?_append_left hi] at hb
      exact hp i b hb
    · rw [List.getElem?_append_right hi] at hb
      have : i - l.length = 0 := by
        have := (List.getElem?_eq_some_iff.1 hb).1
        simp at this; omega
      rw [this] at hb
      simp at hb; subst hb
      rw [show i = n by omega]; exact ha
end Go.Proofs.Ytjofofpplpmgjaa
namespace Go.Proofs.Ytjofofpplpmgjaa
set_option linter.unusedVariables false
open Go.RowKit Go.ChangeShapes Go.WideShapes Go.Deep Go.Proofs.YtjofofpplpmgjaaW.PrintWords

def OpensS {α : Type} (P : Program) (t : TypeId) (d : Kd α) (S : α → Prop) : Prop :=
  P.cellsOf t = d.sz ∧ ∀ {H : Type} (enc : TypeId × Value → H) (w : World) (base : Nat) (spare : Nat → Bool) (held : Bool) (fuel : Nat) (cs : List Value) (x : DataW H × List MemPlace),
    DataW.trod enc P w base spare held fuel t cs = some x → (∀ n ∈ x.1.weights P t, n ≤ reachBytes) → ∃ a, d.K w a cs ∧ S a
theorem opensS_string {P : Program} {t : TypeId} (hC : P.cellsOf t = 1) (ht : P.underlying t = some .string) : OpensS P t Kd.string (fun s => s.size ≤ 140737488351232) := by
  refine ⟨hC, fun enc w base spare held fuel cs x h hw => ?_⟩
  obtain ⟨s, rfl, rfl, _⟩ := DataW.trod_string ht h
  refine ⟨s, rfl, ?_⟩
  have := hw s.data.toList.length (by simp [DataW.weights])
  rw [Array.length_toList] at this
  exact this
theorem opensS_bool {P : Program} {t : TypeId} (hC : P.cellsOf t = 1) (ht : P.underlying t = some .bool) : OpensS P t Kd.bool (fun _ => True) := by
  refine ⟨hC, fun enc w base spare held fuel cs x h hw => ?_⟩
  obtain ⟨s, rfl, _⟩ := DataW.trod_bool ht h
  exact ⟨s, rfl, trivial⟩
theorem weights_all {H : Type} {P : Program} {e : TypeId} : ∀ {l : List (DataW H)} {d : DataW H}, d ∈ l → ∀ n ∈ d.weights P e, n ∈ DataW.weightsAll P e l
  | [], d, h, _, _ => by simp at h
  | x :: l, d, h, n, hn => by
    unfold DataW.weightsAll
    rw [List.mem_append]
    rcases List.mem_cons.1 h with h | h
    · subst h; exact .inl hn
    · exact .inr (weights_all h n hn)
theorem opensS_row {α : Type} {P : Program} {t e : TypeId} {d : Kd α} {S : α → Prop} (ht : P.underlying t = some (.slice e)) (hd : OpensS P e d S) {H : Type} {enc : TypeId × Value → H} {w : World} {base : Nat} {spare : Nat → Bool} {held : Bool} {fuel : Nat} {cs : List Value} {x : DataW H × List MemPlace}
    (h : DataW.trod enc P w base spare held fuel t cs = some x) (hw : ∀ n ∈ x.1.weights P t, n ≤ reachBytes) : ∃ A c xs, cs = [.slice A xs.length c] ∧ xs.length ≤ c ∧ c ≤ maxLen ∧ d.C w A xs.length xs ∧ ∀ a ∈ xs, S a := by
  rcases open_slice ht h with ⟨rfl, _⟩ | ⟨a, len, cap, m, n, D, Pl, rfl, hb, hl, hm, hmm, rfl, hi⟩
  · exact ⟨none, 0, [], rfl, Nat.le_refl _, Nat.zero_le _, ⟨rfl, by simp, fun h => absurd h (Nat.lt_irrefl _)⟩, fun a h => by simp at h⟩
  · have hlm : len ≤ m := by rw [hmm]; split <;> omega
    obtain ⟨xs, hxl, hx⟩ := list_of (p := fun i (y : α) => (∃ c, c.length = d.sz ∧ d.K w y c ∧ ∀ q u, c[q]? = some u → w.cell? (a.add (i * d.sz + q)) = some u) ∧ S y) len (fun i hil => by
      obtain ⟨cs', hc, ht'⟩ := hi i (by omega)
      obtain ⟨y, hy, hS⟩ := hd.2 enc w base spare held n cs' _ ht' (fun z hz => hw z (by
        simp only [DataW.weights, ht]
        refine List.mem_cons_of_mem _ (List.mem_append_left _ (weights_all ?_ z hz))
        exact List.mem_map.2 ⟨i, List.mem_range.2 hil, rfl⟩))
      obtain ⟨_, hcl, hat⟩ := World.cells?_some hc
      refine ⟨y, ⟨cs', by rw [hcl, hd.1], hy, fun q u hu => ?_⟩, hS⟩
      have hq : q < cs'.length := (List.getElem?_eq_some_iff.1 hu).1
      have := hat q (by omega)
      rw [hd.1, Deep.add_add] at this
      rw [this, hu])
    have h64 : maxLen ≤ 9223372036854775807 := by decide
    exact ⟨some a, cap, xs, by rw [hxl], by omega, hm, by rw [hxl]; exact ⟨hxl, by omega, fun _ => ⟨a, rfl, fun j p hj => (hx j p hj).1⟩⟩, fun y hy => by
      obtain ⟨j, hj⟩ := List.mem_iff_getElem?.1 hy
      exact (hx j y hj).2⟩
theorem opensS_slice {α : Type} {P : Program} {t e : TypeId} {d : Kd α} {S : α → Prop} (hC : P.cellsOf t = 1) (ht : P.underlying t = some (.slice e)) (hd : OpensS P e d S) : OpensS P t (Kd.slice e d) (fun xs => ∀ a ∈ xs, S a) := by
  refine ⟨hC, fun enc w base spare held fuel cs x h hw => ?_⟩
  obtain ⟨A, c, xs, rfl, h1, _, h2, h3⟩ := opensS_row ht hd h hw
  exact ⟨xs, ⟨A, c, rfl, h1, h2⟩, h3⟩

def OpensTail {α : Type} (P : Program) (fs : List Field) (off : Nat) (d : Kd α) (S : α → Prop) : Prop :=
  ∀ {H : Type} (enc : TypeId × Value → H) (w : World) (base : Nat) (spare : Nat → Bool) (held : Bool) (n : Nat) (cs : List Value) (xs : List (DataW H × List MemPlace)),
    xs.length = fs.length → cs.length = off + d.sz → (∀ (i : Nat) (f : Field), fs[i]? = some f → DataW.trod enc P w base spare held n f.type ((cs.drop f.offset).take (P.cellsOf f.type)) = xs[i]?) →
    (∀ m ∈ DataW.weightsEach P (fs.map (·.type)) (xs.map (·.1)), m ≤ reachBytes) → ∃ a, d.K w a (cs.drop off) ∧ S a
theorem opensTail_last {α : Type} {P : Program} {f : Field} {off : Nat} {d : Kd α} {S : α → Prop} (ho : f.offset = off) (hd : OpensS P f.type d S) : OpensTail P [f] off d S := by
  intro H enc w base spare held n cs xs hx hl h hw
  obtain ⟨x, rfl⟩ : ∃ x, xs = [x] := by
    match xs, hx with
    | [x], _ => exact ⟨x, rfl⟩
  have h0 := h 0 f rfl
  rw [ho, hd.1, List.take_of_length_le (by rw [List.length_drop]; omega)] at h0
  exact hd.2 enc w base spare held n _ x h0 (fun m hm => hw m (by simp [DataW.weightsEach, hm]))
theorem opensTail_cons {α β : Type} {P : Program} {f : Field} {fs : List Field} {off : Nat} {d : Kd α} {e : Kd β} {S : α → Prop} {T : β → Prop} (ho : f.offset = off) (hd : OpensS P f.type d S) (he : OpensTail P fs (off + d.sz) e T) :
    OpensTail P (f :: fs) off (Kd.pair d e) (fun x => S x.1 ∧ T x.2) := by
  intro H enc w base spare held n cs xs hx hl h hw
  obtain ⟨x, xs, rfl⟩ : ∃ x r, xs = x :: r := by
    match xs, hx with
    | x :: r, _ => exact ⟨x, r, rfl⟩
  have hsz : (Kd.pair d e).sz = d.sz + e.sz := rfl
  rw [hsz] at hl
  have h0 := h 0 f rfl
  rw [ho, hd.1] at h0
  obtain ⟨a, ha, hS⟩ := hd.2 enc w base spare held n _ x h0 (fun m hm => hw m (by simp [DataW.weightsEach, hm]))
  obtain ⟨b, hb, hT⟩ := he enc w base spare held n cs xs (by simpa using hx) (by omega) (fun i g hg => h (i + 1) g (by simpa using hg)) (fun m hm => hw m (by simp [DataW.weightsEach] at hm ⊢; exact .inr hm))
  refine ⟨(a, b), ⟨(cs.drop off).take d.sz, cs.drop (off + d.sz), ?_, ha, hb⟩, hS, hT⟩
  rw [← List.drop_drop, List.take_append_drop]
theorem opensS_struct {α β : Type} {P : Program} {t : TypeId} {fs : Array Field} {l : List Field} {d : Kd α} {S : α → Prop} (f : β → α) (ht : P.underlying t = some (.struct fs)) (hl : fs.toList = l) (hC : P.cellsOf t = d.sz) (hT : OpensTail P l 0 d S) (hf : ∀ a, ∃ x, f x = a) :
    OpensS P t (Kd.iso d f) (fun x => S (f x)) := by
  subst hl
  refine ⟨hC, fun enc w base spare held fuel cs x h hw => ?_⟩
  obtain ⟨ys, n, _, rfl, hlen, hyl, hfl⟩ := DataW.trod_struct ht h
  obtain ⟨a, ha, hS⟩ := hT enc w base spare held n cs ys (by rw [hyl]; simp) (by rw [hlen, hC]; omega) (fun i g hg => hfl i g (by rw [← hg]; simp)) (fun m hm => hw m (by simp only [DataW.weights, ht]; exact hm))
  obtain ⟨y, rfl⟩ := hf a
  exact ⟨y, by rw [List.drop_zero] at ha; exact ha, hS⟩
end Go.Proofs.Ytjofofpplpmgjaa
namespace Go.Proofs
open Go.Shelf
def Try.lays128_ren : Go.Shelf.Ren := ⟨fun | 128 => 94 | n => n, fun | 51 => 84 | 3 => 3 | 4 => 4 | 46 => 71 | 5 => 5 | 9 => 9 | n => n, fun | n => n⟩
def Try.lays125_ren : Go.Shelf.Ren := ⟨fun | 125 => 80 | 128 => 94 | 129 => 95 | n => n, fun | 46 => 71 | 3 => 3 | 51 => 84 | 53 => 86 | 4 => 4 | 5 => 5 | 9 => 9 | n => n, fun | n => n⟩
def Try.lays213_ren : Go.Shelf.Ren := ⟨fun | 213 => 76 | 265 => 83 | n => n, fun | 9 => 9 | 3 => 3 | n => n, fun | n => n⟩
def Try.lays106_ren : Go.Shelf.Ren := ⟨fun | 106 => 55 | 213 => 76 | 265 => 83 | n => n, fun | 9 => 9 | 3 => 3 | n => n, fun | n => n⟩
theorem Try.lays106 : Go.Proofs.Lays.n106 Try.prog Try.lays106_ren := {
  mixed := by kernel_rfl
  f106 := Try.func55.trans (congrArg some (by kernel_rfl))
  f213 := Try.func76.trans (congrArg some (by kernel_rfl))
  f265 := Try.func83.trans (congrArg some (by kernel_rfl))
  t3 := Try.underlying3
  a3 := Try.isAgg3
  z3 := Try.sizeOf3
  v3 := Try.zeroValue3
  t9 := Try.underlying9
  a9 := Try.isAgg9
  z9 := Try.sizeOf9
  v9 := Try.zeroValue9 }
open Go.RowKit in
theorem Try.strings_Compare (a b : ByteArray) (w : World) :
    Calls Try.prog 55 #[.string a, .string b] w fun e w' => e = .returned (.int .i64 (Lib.compareBytes a.data.toList b.data.toList)) ∧ w' = w := Any.strings_Compare Try.lays106 a b w
def Try.lays129_ren : Go.Shelf.Ren := ⟨fun | 129 => 95 | n => n, fun | 53 => 86 | 3 => 3 | 4 => 4 | 46 => 71 | 5 => 5 | 9 => 9 | n => n, fun | n => n⟩
def Try.lays190_ren : Go.Shelf.Ren := ⟨fun | 190 => 73 | 125 => 80 | 258 => 79 | 128 => 94 | 129 => 95 | 302 => 85 | 303 => 86 | 304 => 87 | 305 => 88 | 306 => 89 | 307 => 90 | 308 => 91 | 309 => 92 | 310 => 93 | 333 => 98 | 329 => 99 | 330 => 100 | 334 => 101 | 335 => 102 | 336 => 103 | 344 => 105 | n => n, fun | 31 => 22 | 9 => 9 | 3 => 3 | 46 => 71 | 0 => 0 | 51 => 84 | 53 => 86 | 4 => 4 | 183 => 77 | 182 => 76 | 131 => 81 | 5 => 5 | 218 => 87 | 222 => 91 | 228 => 93 | 229 => 94 | n => n, fun | n => n⟩
theorem Try.lays190 : Go.Proofs.Lays.n190 Try.prog Try.lays190_ren := {
  mixed := by kernel_rfl
  f125 := Try.func80.trans (congrArg some (by kernel_rfl))
  f128 := Try.func94.trans (congrArg some (by kernel_rfl))
  f129 := Try.func95.trans (congrArg some (by kernel_rfl))
  f190 := Try.func73.trans (congrArg some (by kernel_rfl))
  f258 := Try.func79.trans (congrArg some (by kernel_rfl))
  f302 := Try.func85.trans (congrArg some (by kernel_rfl))
  f303 := Try.func86.trans (congrArg some (by kernel_rfl))
  f304 := Try.func87.trans (congrArg some (by kernel_rfl))
  f305 := Try.func88.trans (congrArg some (by kernel_rfl))
  f306 := Try.func89.trans (congrArg some (by kernel_rfl))
  f307 := Try.func90.trans (congrArg some (by kernel_rfl))
  f308 := Try.func91.trans (congrArg some (by kernel_rfl))
  f309 := Try.func92.trans (congrArg some (by kernel_rfl))
  f310 := Try.func93.trans (congrArg some (by kernel_rfl))
  f329 := Try.func99.trans (congrArg some (by kernel_rfl))
  f330 := Try.func100.trans (congrArg some (by kernel_rfl))
  f333 := Try.func98.trans (congrArg some (by kernel_rfl))
  f334 := Try.func101.trans (congrArg some (by kernel_rfl))
  f335 := Try.func102.trans (congrArg some (by kernel_rfl))
  f336 := Try.func103.trans (congrArg some (by kernel_rfl))
  f344 := Try.func105.trans (congrArg some (by kernel_rfl))
  t0 := Try.underlying0
  a0 := Try.isAgg0
  z0 := Try.sizeOf0
  v0 := Try.zeroValue0
  t3 := Try.underlying3
  a3 := Try.isAgg3
  z3 := Try.sizeOf3
  v3 := Try.zeroValue3
  t4 := Try.underlying4
  a4 := Try.isAgg4
  z4 := Try.sizeOf4
  v4 := Try.zeroValue4
  t5 := Try.underlying5
  a5 := Try.isAgg5
  z5 := Try.sizeOf5
  v5 := Try.zeroValue5
  t9 := Try.underlying9
  a9 := Try.isAgg9
  z9 := Try.sizeOf9
  v9 := Try.zeroValue9
  t31 := Try.underlying22
  a31 := Try.isAgg22
  z31 := Try.sizeOf22
  v31 := Try.zeroValue22
  t46 := Try.underlying71
  a46 := Try.isAgg71
  z46 := Try.sizeOf71
  v46 := Try.zeroValue71
  t51 := Try.underlying84
  a51 := Try.isAgg84
  z51 := Try.sizeOf84
  v51 := Try.zeroValue84
  t53 := Try.underlying86
  a53 := Try.isAgg86
  z53 := Try.sizeOf86
  v53 := Try.zeroValue86
  t131 := Try.underlying81
  a131 := Try.isAgg81
  z131 := Try.sizeOf81
  v131 := Try.zeroValue81
  t182 := Try.underlying76
  a182 := Try.isAgg76
  z182 := Try.sizeOf76
  v182 := Try.zeroValue76
  t183 := Try.underlying77
  a183 := Try.isAgg77
  z183 := Try.sizeOf77
  v183 := Try.zeroValue77
  t218 := Try.underlying87
  a218 := Try.isAgg87
  z218 := Try.sizeOf87
  v218 := Try.zeroValue87
  t222 := Try.underlying91
  a222 := Try.isAgg91
  z222 := Try.sizeOf91
  v222 := Try.zeroValue91
  t228 := Try.underlying93
  a228 := Try.isAgg93
  z228 := Try.sizeOf93
  v228 := Try.zeroValue93
  t229 := Try.underlying94
  a229 := Try.isAgg94
  z229 := Try.sizeOf94
  v229 := Try.zeroValue94 }
open Go.Sort Go.RowKit in
theorem Try.slices_Sort_string (blk off cap : Nat) (ss : List (List UInt8)) (w : World) (hH : Holds encStr w blk off ss.toArray) (hblk : blk < w.heap.size) (hsz : ss.length < 4611686018427387904) :
    Calls Try.prog 73 #[.slice (some ⟨blk, off, none⟩) ss.length cap] w fun e w' =>
      e = .returned (.tuple #[]) ∧ ∃ n os, w' = grow (putRow encStr (Sort.ahead w n) blk off (ss.mergeSort fun x y => decide (x ≤ y)).toArray) os := Any.slices_Sort_string Try.lays190 blk off cap ss w hH hblk hsz
def Try.lays206_ren : Go.Shelf.Ren := ⟨fun | 206 => 62 | n => n, fun | 9 => 9 | 4 => 4 | 3 => 3 | n => n, fun | n => n⟩
def Try.lays99_ren : Go.Shelf.Ren := ⟨fun | 99 => 34 | 206 => 62 | n => n, fun | 9 => 9 | 4 => 4 | 3 => 3 | n => n, fun | n => n⟩
theorem Try.lays99 : Go.Proofs.Lays.n99 Try.prog Try.lays99_ren := {
  mixed := by kernel_rfl
  f99 := Try.func34.trans (congrArg some (by kernel_rfl))
  f206 := Try.func62.trans (congrArg some (by kernel_rfl))
  t3 := Try.underlying3
  a3 := Try.isAgg3
  z3 := Try.sizeOf3
  v3 := Try.zeroValue3
  t4 := Try.underlying4
  a4 := Try.isAgg4
  z4 := Try.sizeOf4
  v4 := Try.zeroValue4
  t9 := Try.underlying9
  a9 := Try.isAgg9
  z9 := Try.sizeOf9
  v9 := Try.zeroValue9 }
open Go.RowKit Go.Lib in
theorem Try.strings_HasPrefix (s p : ByteArray) (w : World) :
    Calls Try.prog 34 #[.string s, .string p] w fun e w' => e = .returned (.bool (Lib.hasPrefix s.data.toList p.data.toList)) ∧ w' = w := Any.strings_HasPrefix Try.lays99 s p w
def Try.lays109_ren : Go.Shelf.Ren := ⟨fun | 109 => 60 | n => n, fun | 31 => 22 | 9 => 9 | 3 => 3 | 0 => 0 | 4 => 4 | n => n, fun | n => n⟩
def Try.lays110_ren : Go.Shelf.Ren := ⟨fun | 110 => 31 | 109 => 60 | n => n, fun | 31 => 22 | 9 => 9 | 4 => 4 | 3 => 3 | 0 => 0 | n => n, fun | n => n⟩
def Try.laysNm216_ren : Go.Shelf.Ren := ⟨fun | 16 => 63 | n => n, fun | 24 => 22 | 9 => 9 | 4 => 4 | n => n, fun | n => n⟩
theorem Try.laysNm216 : Go.Proofs.Lays2.n16 Try.prog Try.laysNm216_ren := {
  mixed := by kernel_rfl
  f16 := Try.func63.trans (congrArg some (by kernel_rfl))
  t4 := Try.underlying4
  a4 := Try.isAgg4
  z4 := Try.sizeOf4
  v4 := Try.zeroValue4
  t9 := Try.underlying9
  a9 := Try.isAgg9
  z9 := Try.sizeOf9
  v9 := Try.zeroValue9
  t24 := Try.underlying22
  a24 := Try.isAgg22
  z24 := Try.sizeOf22
  v24 := Try.zeroValue22
  i9 := by kernel_rfl }
open Go.RowKit Go.Lib in
theorem Try.slices_Clone_string (b off n c : Nat) (zs : List ByteArray) (w : World) (hz : n ≤ zs.length) (hbig : n * 16 ≤ 140737488355328) (hc : ∀ j, j < zs.length → w.cell? ⟨b, off + j, none⟩ = some (.string (zs.getD j ByteArray.empty))) :
    Calls Try.prog 63 #[.slice (some ⟨b, off, none⟩) n c] w fun e w' => ∃ v', e = .returned v' ∧ w'.ownsRow w.heap.size 9 1 v' n ((zs.take n).map (Value.string)) ∧ v' ≠ .slice none 0 0 ∧ Below w.heap.size w w' := Any.slices_Clone_string Try.laysNm216 b off n c zs w hz hbig hc
open Go.RowKit Go.Lib in
theorem Try.slices_Clone_string_nil (n c : Nat) (w : World) :
    Calls Try.prog 63 #[.slice none n c] w fun e w' => e = .returned (.slice none 0 0) ∧ w' = w := Any.slices_Clone_string_nil Try.laysNm216 n c w
open Go.RowKit Go.Lib in
theorem Try.slices_Clone_string_zero (a : Addr) (c : Nat) (w : World) :
    Calls Try.prog 63 #[.slice (some a) 0 c] w fun e w' => ∃ v', e = .returned v' ∧ w'.ownsRow w.heap.size 9 1 v' 0 [] ∧ v' ≠ .slice none 0 0 ∧ Below w.heap.size w w' := Any.slices_Clone_string_zero Try.laysNm216 a c w
def Try.lays194_ren : Go.Shelf.Ren := ⟨fun | 194 => 74 | n => n, fun | 31 => 22 | 9 => 9 | 3 => 3 | 4 => 4 | 0 => 0 | n => n, fun | n => n⟩
theorem Try.lays194 : Go.Proofs.Lays.n194 Try.prog Try.lays194_ren := {
  mixed := by kernel_rfl
  f194 := Try.func74.trans (congrArg some (by kernel_rfl))
  t0 := Try.underlying0
  a0 := Try.isAgg0
  z0 := Try.sizeOf0
  v0 := Try.zeroValue0
  t3 := Try.underlying3
  a3 := Try.isAgg3
  z3 := Try.sizeOf3
  v3 := Try.zeroValue3
  t4 := Try.underlying4
  a4 := Try.isAgg4
  z4 := Try.sizeOf4
  v4 := Try.zeroValue4
  t9 := Try.underlying9
  a9 := Try.isAgg9
  z9 := Try.sizeOf9
  v9 := Try.zeroValue9
  t31 := Try.underlying22
  a31 := Try.isAgg22
  z31 := Try.sizeOf22
  v31 := Try.zeroValue22 }
open Go.RowKit Go.Lib Go.Sort in
theorem Try.slices_Compact_string (blk off cap : Nat) (zs : List (List UInt8)) (w : World) (hH : Holds encStr w blk off zs.toArray) (hsz : zs.length ≤ 9223372036854775807) (hcap : zs.length ≤ cap) :
    Calls Try.prog 74 #[.slice (some ⟨blk, off, none⟩) zs.length cap] w fun e w' => e = .returned (.slice (some ⟨blk, off, none⟩) (Lib.compact zs).length cap) ∧ ∃ q, w' = putRow encStr (Sort.ahead w q) blk off (Lib.compact zs ++ List.replicate (zs.length - (Lib.compact zs).length) []).toArray := Any.slices_Compact_string Try.lays194 blk off cap zs w hH hsz hcap
open Go.RowKit Go.Lib Go.Sort in
theorem Try.slices_Compact_string_empty (a : Option Addr) (cap : Nat) (w : World) :
    Calls Try.prog 74 #[.slice a 0 cap] w fun e w' => e = .returned (.slice a 0 cap) ∧ w' = w := Any.slices_Compact_string_empty Try.lays194 a cap w
open Go.RowKit Go.Sort in
theorem Try.slices_Sort_string_none (p : Option Addr) (cap : Nat) (w : World) :
    Calls Try.prog 73 #[.slice p 0 cap] w fun e w' => e = .returned (.tuple #[]) ∧ w' = w := Any.slices_Sort_string_none Try.lays190 p cap w
def Try.laysSlE43_f74_ren : Go.Shelf.Ren := ⟨fun | 43 => 74 | n => n, fun | 22 => 22 | 23 => 9 | 3 => 3 | 4 => 4 | 0 => 0 | n => n, fun | n => n⟩
def Try.laysSlH6_f65_ren : Go.Shelf.Ren := ⟨fun | 6 => 65 | n => n, fun | 22 => 22 | 23 => 9 | 25 => 45 | 3 => 3 | 0 => 0 | 4 => 4 | n => n, fun | n => n⟩
def Try.laysSlH6_f66_ren : Go.Shelf.Ren := ⟨fun | 6 => 66 | n => n, fun | 22 => 47 | 23 => 22 | 25 => 39 | 3 => 3 | 0 => 0 | 4 => 4 | n => n, fun | n => n⟩
def Try.laysSlH8_f41_ren : Go.Shelf.Ren := ⟨fun | 8 => 41 | 6 => 66 | n => n, fun | 22 => 47 | 23 => 22 | 25 => 39 | 4 => 4 | 3 => 3 | 0 => 0 | n => n, fun | n => n⟩
def Try.laysSlH8_f68_ren : Go.Shelf.Ren := ⟨fun | 8 => 68 | 6 => 65 | n => n, fun | 22 => 22 | 23 => 9 | 25 => 45 | 4 => 4 | 3 => 3 | 0 => 0 | n => n, fun | n => n⟩
def Try.laysSlH10_f36_ren : Go.Shelf.Ren := ⟨fun | 10 => 36 | 6 => 65 | n => n, fun | 22 => 22 | 23 => 9 | 25 => 45 | 3 => 3 | 4 => 4 | 0 => 0 | n => n, fun | n => n⟩
end Go.Proofs
namespace Go.Proofs.Ytjofofpplpmgjaa
set_option linter.unusedVariables false
set_option linter.unusedSimpArgs false

def lead (p : UInt8 → Bool) (l : List UInt8) : Nat := (l.takeWhile p).length
def rcut (p : UInt8 → Bool) (l : List UInt8) : List UInt8 := (l.reverse.dropWhile p).reverse
def tail (p : UInt8 → Bool) (l : List UInt8) : Nat := (rcut p l).length

def ws (c : UInt8) : Bool := decide (c.toNat ≤ 32)
def keep (c : UInt8) : Bool := c.toNat != 9 && c.toNat != 10 && c.toNat != 13
def strip (l : List UInt8) : List UInt8 := (rcut ws (l.dropWhile ws)).filter keep
end Go.Proofs.Ytjofofpplpmgjaa
namespace Go.Proofs.Ytjofofpplpmgjaa
set_option linter.unusedVariables false
set_option linter.unusedSimpArgs false
open Go.RowKit

theorem hid {p : Prop} (h : p) : Hid p := h
theorem byte_at (s : ByteArray) (k : Nat) (h : k < s.size) : s.data.toList[k]? = some (s[k]'h) := by
  rw [List.getElem?_eq_getElem (by simpa using h)]; rfl
def bnd {α : Type} (s : ByteArray) (x : α) : Option α := if s.size ≤ 140737488351232 then some x else none
def mkS (l : List UInt8) : ByteArray := ⟨l.toArray⟩
end Go.Proofs.Ytjofofpplpmgjaa
namespace Go.Proofs.Ytjofofpplpmgjaa
set_option linter.unusedVariables false
set_option linter.unusedSimpArgs false
open Go.RowKit Go.Lib Go.Shelf Go.Sort Go.Proofs.YtjofofpplpmgjaaW.PrintWords

def sorted (l : List (List UInt8)) : List (List UInt8) := Lib.compact (l.mergeSort fun x y => decide (x ≤ y))
def fold_Sorted.f (l0 : List ByteArray) : Option (List ByteArray) := if l0.length ≤ 4294967296 then some ((sorted (l0.map (·.data.toList))).map mkS) else none
theorem spot_none {w : World} {ad : Addr} {v : Value} (h : w.cell? ad = some v) : ad.spot = none := by
  unfold World.cell? at h
  cases hs : ad.spot with
  | none => rfl
  | some x => rw [hs] at h; simp at h; split at h <;> cases h
theorem enc_mkS (l : List (List UInt8)) : l.map encStr = (l.map mkS).map Value.string := by
  rw [List.map_map]; rfl
theorem enc_of (l : List ByteArray) : (l.map (·.data.toList)).map encStr = l.map Value.string := by
  rw [List.map_map]
  apply List.map_congr_left
  intro s _
  show Value.string ⟨s.data.toList.toArray⟩ = Value.string s
  congr 1
theorem own_shrink {w : World} {base g cap n m : Nat} {e : TypeId} {xs : List Value} (hm : m ≤ n) (h : w.ownsRow base e 1 (.slice (some ⟨g, 0, none⟩) n cap) n xs) : w.ownsRow base e 1 (.slice (some ⟨g, 0, none⟩) m cap) m (xs.take m) := by
  obtain ⟨h0, h1⟩ := h
  refine ⟨by rw [List.length_take]; omega, ?_⟩
  rcases h1 with ⟨h2, _⟩ | ⟨g', cap', cur, hv, hb, hg, h3, h4, h5, h6⟩
  · cases h2
  · cases hv
    refine .inr ⟨_, _, cur, rfl, hb, hg, by omega, h4, h5, ?_⟩
    rw [← h6, List.take_take]
    congr 1
    omega
set_option maxHeartbeats 2000000 in
theorem sort_compact {base g cap : Nat} {ss : List (List UInt8)} {w : World} (hss : ss.length ≤ 4294967296) (h : w.ownsRow base 9 1 (.slice (some ⟨g, 0, none⟩) ss.length cap) ss.length (ss.map encStr)) :
    Calls Try.prog 73 #[.slice (some ⟨g, 0, none⟩) ss.length cap] w fun e w1 => e = .returned (.tuple #[]) ∧
      Hid (Calls Try.prog 74 #[.slice (some ⟨g, 0, none⟩) ss.length cap] w1 fun e w2 => e = .returned (.slice (some ⟨g, 0, none⟩) (sorted ss).length cap) ∧
        w2.ownsRow base 9 1 (.slice (some ⟨g, 0, none⟩) (sorted ss).length cap) (sorted ss).length ((sorted ss).map encStr) ∧ w.grownBy w2 (some g)) := by
  have hg := h.2
  rcases hg with ⟨h2, _⟩ | ⟨g', cap', cur, hv, hbase, hb, h3, h4, h5, h6⟩
  · cases h2
  cases hv
  have hcell : Holds encStr w g 0 ss.toArray := holds_of_block hb (by simpa using h6)
  have hlt : g < w.heap.size := (Array.getElem?_eq_some_iff.1 hb).1
  refine (Try.slices_Sort_string g 0 cap ss w hcell hlt (by omega)).mono ?_
  rintro e w1 ⟨rfl, n, os, rfl⟩
  refine ⟨rfl, hid ?_⟩
  obtain ⟨ts, hts⟩ : ∃ ts, (ss.mergeSort fun x y => decide (x ≤ y)) = ts := ⟨_, rfl⟩
  have hl : ts.length = ss.length := by rw [← hts]; simp
  rw [hts]
  have ho := ownsRow_sorted (n := n) (os := os) hl hbase hb h3 h4 h5
  have hgr := grownBy_sorted (w := w) (g := g) (n := n) (os := os) ts.toArray
  obtain ⟨w1, hw1⟩ : ∃ w1, grow (putRow encStr (Sort.ahead w n) g 0 ts.toArray) os = w1 := ⟨_, rfl⟩
  rw [hw1] at ho hgr ⊢
  have ho' := ho.2
  rcases ho' with ⟨h2, _⟩ | ⟨g', cap', cur1, hv, _, hb1, k3, k4, k5, k6⟩
  · cases h2
  cases hv
  have hcell1 : Holds encStr w1 g 0 ts.toArray := holds_of_block hb1 (by rw [hl]; simpa using k6)
  have hC := Try.slices_Compact_string g 0 cap ts w1 hcell1 (by omega) (by omega)
  rw [hl] at hC
  refine hC.mono ?_
  rintro e w2 ⟨rfl, q, rfl⟩
  have hsd : sorted ss = Lib.compact ts := by unfold sorted; rw [hts]
  rw [hsd]
  have hle := Lib.compact_length_le ts
  have hl2 : (Lib.compact ts ++ List.replicate (ss.length - (Lib.compact ts).length) ([] : List UInt8)).length = ts.length := by rw [List.length_append, List.length_replicate]; omega
  have hgl : ∀ W : World, grow W #[] = W := fun W => grow_empty W
  have ho2 := ownsRow_sorted (n := q) (os := #[]) (w := w1) hl2 hbase hb1 (by omega) k4 k5
  have hgr2 := grownBy_sorted (w := w1) (g := g) (n := q) (os := #[]) (Lib.compact ts ++ List.replicate (ss.length - (Lib.compact ts).length) ([] : List UInt8)).toArray
  rw [hgl] at ho2 hgr2
  refine ⟨rfl, ?_, hgr.trans hgr2⟩
  have := own_shrink (m := (Lib.compact ts).length) (by omega) ho2
  rw [List.map_append, List.take_left' (by simp)] at this
  exact this
theorem R_own {w : World} {base : Nat} {v : Value} {n : Nat} {ss : List (List UInt8)} (hn : ss.length = n) (h : w.ownsRow base 9 1 v n (ss.map encStr)) : Kd.R Kd.string 9 w base (fun _ => True) v (ss.map mkS) := by
  refine Kd.R_of_own (enc := Value.string) ?_ (fun _ _ => trivial)
  rw [List.length_map, hn]
  rw [enc_mkS] at h
  exact h
set_option maxHeartbeats 4000000 in
theorem fold_Sorted.calls (A0 : Option Addr) (c0 : Nat) (l0 : List ByteArray) (r : List ByteArray) (w : World) (hr0 : Kd.C Kd.string w A0 l0.length l0) (hc0 : l0.length ≤ c0) (h : fold_Sorted.f l0 = some r) :
    Calls Try.prog 52 #[.slice A0 l0.length c0] w fun e w' => ∃ v0_ : Value, e = .returned (v0_) ∧ Kd.R Kd.string 9 w' w.heap.size (fun _ => True) v0_ r ∧ Below w.heap.size w w' := by
  unfold fold_Sorted.f at h
  split at h
  case isFalse => cases h
  rename_i hlen
  obtain rfl := Option.some.inj h
  clear h
  have hrd := Kd.reads_of_C (d := ByteArray.empty) hr0
  clear hr0
  have mixed : Try.prog.follows Departure.mixedOrders = true := by kernel_rfl
  rcases Nat.eq_zero_or_pos l0.length with h0 | h0
  · obtain rfl := List.eq_nil_of_length_eq_zero h0
    have hs0 : (sorted (([] : List ByteArray).map (·.data.toList))).map mkS = [] := by simp [sorted, Lib.compact, Lib.compactUpTo]
    rw [hs0]
    have key : Hid (Calls Try.prog 63 #[.slice A0 0 c0] w fun e w1 => ∃ p cap, e = .returned (.slice p 0 cap) ∧ Kd.R Kd.string 9 w1 w.heap.size (fun _ => True) (.slice p 0 cap) [] ∧ Below w.heap.size w w1) := by
      apply hid
      cases A0 with
      | none =>
        refine (Try.slices_Clone_string_nil 0 c0 w).mono ?_
        rintro e w1 ⟨rfl, rfl⟩
        exact ⟨none, 0, rfl, Kd.R_nil _ _ _ _ _, Below.refl _ _⟩
      | some a =>
        refine (Try.slices_Clone_string_zero a c0 w).mono ?_
        rintro e w1 ⟨v', rfl, ho, _, hb⟩
        rcases ho.2 with ⟨h2, _⟩ | ⟨g', cap', cur, hv, _⟩
        · subst h2; exact ⟨none, 0, rfl, Kd.R_nil _ _ _ _ _, hb⟩
        · subst hv
          exact ⟨_, _, rfl, R_own (ss := []) rfl ho, hb⟩
    clear hrd hs0 hlen h0 hc0
    show Calls Try.prog 52 #[.slice A0 0 c0] w _
    go_enter Try.func52, Try.ntmps52
    go_wp2_with first
      | (go_at_call 63; refine key.out.mono ?_; rintro e w1 ⟨p, cap, rfl, hR, hB⟩; have HR := hid hR; clear hR)
      | (go_at_call 73; refine (Try.slices_Sort_string_none p cap _).mono ?_; rintro e w2 ⟨rfl, rfl⟩)
      | (go_at_call 74; refine (Try.slices_Compact_string_empty p cap _).mono ?_; rintro e w3 ⟨rfl, rfl⟩)
    go_ret
    exact ⟨_, rfl, HR.out, hB⟩
  · obtain ⟨ad, rfl, hcell⟩ := hrd.2.2 h0
    obtain ⟨bk, of, sp⟩ := ad
    have hsp := spot_none (by simpa [Addr.add] using hcell 0 h0)
    simp only at hsp
    subst hsp
    have hcl := Try.slices_Clone_string bk of l0.length c0 l0 w (Nat.le_refl _) (by omega) (fun j hj => by
      have := hcell j hj
      unfold Addr.add at this
      split at this
      · rename_i hj0; subst hj0; simpa using this
      · exact this)
    rw [List.take_length] at hcl
    obtain ⟨ss, hss⟩ : ∃ ss, l0.map (·.data.toList) = ss := ⟨_, rfl⟩
    have hsl : ss.length = l0.length := by rw [← hss, List.length_map]
    have henc : l0.map Value.string = ss.map encStr := by rw [← hss, enc_of]
    have key : Hid (Calls Try.prog 63 #[.slice (some ⟨bk, of, none⟩) l0.length c0] w fun e w1 => ∃ g cap, e = .returned (.slice (some ⟨g, 0, none⟩) ss.length cap) ∧ w1.ownsRow w.heap.size 9 1 (.slice (some ⟨g, 0, none⟩) ss.length cap) ss.length (ss.map encStr) ∧ w.heap.size ≤ g ∧ Below w.heap.size w w1) := by
      apply hid
      refine hcl.mono ?_
      rintro e w1 ⟨v', rfl, ho, _, hb⟩
      rw [henc, ← hsl] at ho
      rcases ho.2 with ⟨_, h2⟩ | ⟨g', cap', cur, hv, hg, _⟩
      · omega
      · subst hv
        exact ⟨_, _, rfl, ho, hg, hb⟩
    have hlen' : ss.length ≤ 4294967296 := by omega
    rw [hss]
    rw [← hsl] at key ⊢
    clear hcl hcell hrd henc hss hsl hc0 hlen h0
    go_enter Try.func52, Try.ntmps52
    go_wp2_with first
      | (go_at_call 63; refine key.out.mono ?_; rintro e w1 ⟨g, cap, rfl, ho, hg, hB⟩; have HS := hid (sort_compact hlen' ho); clear ho)
      | (go_at_call 73; refine HS.out.mono ?_; rintro e w2 ⟨rfl, HC⟩)
      | (go_at_call 74; refine HC.out.mono ?_; rintro e w3 ⟨rfl, ho, hgr⟩; have HO := hid ho; have HG := hid hgr; clear ho hgr)
    go_ret
    exact ⟨_, rfl, R_own rfl HO.out, hB.grown HG.out hB.size (fun k hk => by cases hk; exact hg)⟩
end Go.Proofs.Ytjofofpplpmgjaa
namespace Go.Proofs.Ytjofofpplpmgjaa.Pr
open Go.RowKit Go.Proofs.YtjofofpplpmgjaaW.PrintWords Go.Proofs.YtjofofpplpmgjaaW.PrintLast Go.Proofs.YtjofofpplpmgjaaW.PrintMore
attribute [local go_sem] max2_int min2_int max_two min_two max_three min_three max_four min_four   -- for this text's walks alone
set_option linter.unusedVariables false
set_option linter.unusedSimpArgs false



def errW : Option Int → Value
  | none => .nilIface
  | some c => .iface 0 (.int .i64 c)
theorem errW_none : errW none = .nilIface := rfl
theorem errW_some (c : Int) : errW (some c) = .iface 0 (.int .i64 c) := rfl

theorem info9 : (Try.prog.info? 9).map (fun i => (i.zero, i.size, i.bytes)) = some (some (.string ⟨#[]⟩), 1, 16) := by kernel_rfl
theorem info22 : (Try.prog.info? 22).map (fun i => (i.zero, i.size, i.bytes)) = some (some (.slice none 0 0), 1, 24) := by kernel_rfl
theorem info35 : (Try.prog.info? 35).map (fun i => (i.zero, i.size, i.bytes)) = some (some (.agg #[(.string ⟨#[]⟩), (.slice none 0 0)]), 2, 40) := by kernel_rfl
def rd_L1 (xs : List (List ByteArray)) (i : Int) : (List ByteArray) := xs.getD i.toNat ([] : List ByteArray)
structure S35 where
  f0 : ByteArray
  f1 : (List ByteArray)
def z35 : S35 := ⟨(⟨#[]⟩ : ByteArray), ([] : List ByteArray)⟩
def k35 : Kd S35 := Kd.iso (Kd.pair Kd.string (Kd.slice 9 Kd.string)) (fun x : S35 => (x.f0, x.f1))
theorem k35_heap : Kd.Heap k35 := Kd.heap_iso _ (Kd.heap_pair Kd.heap_string (Kd.heap_slice 9 Kd.heap_string))
theorem k35_open {w : World} {x : S35} {cs : List Value} (h : k35.K w x cs) : ∃ A1 c1, cs = [.string x.f0, .slice A1 x.f1.length c1] ∧ x.f1.length ≤ c1 ∧ Kd.string.C w A1 x.f1.length x.f1 := by
  obtain ⟨_, _, rfl, rfl, ⟨A1, c1, rfl, l1, g1⟩⟩ := h
  exact ⟨A1, c1, rfl, l1, g1⟩
theorem k35_openM {w : World} {base : Nat} {ok : Nat → Prop} {x : S35} {cs : List Value} (h : k35.M w base ok x cs) : ∃ v1, cs = [.string x.f0, v1] ∧ Kd.string.R 9 w base ok v1 x.f1 := by
  obtain ⟨_, _, rfl, rfl, ⟨v1, rfl, g1⟩⟩ := h
  exact ⟨v1, rfl, g1⟩
theorem k35_mk (w : World) (x : S35) {A1 : Option Addr} {c1 : Nat} (l1 : x.f1.length ≤ c1) (g1 : Kd.string.C w A1 x.f1.length x.f1) : k35.K w x [.string x.f0, .slice A1 x.f1.length c1] := ⟨[.string x.f0], [.slice A1 x.f1.length c1], rfl, rfl, ⟨A1, c1, rfl, l1, g1⟩⟩
theorem k35_mkM (w : World) (base : Nat) (ok : Nat → Prop) (x : S35) {v1 : Value} (g1 : Kd.string.R 9 w base ok v1 x.f1) : k35.M w base ok x [.string x.f0, v1] := ⟨[.string x.f0], [v1], rfl, rfl, ⟨v1, rfl, g1⟩⟩
theorem k35_openF {W : World} {ok : Nat → Prop} {x : S35} {cs : List Value} (h : Kd.FK k35 W ok x cs) : ∃ A1 c1, cs = [.string x.f0, .slice A1 x.f1.length c1] ∧ x.f1.length ≤ c1 ∧ Kd.F Kd.string W ok A1 x.f1.length x.f1 := by
  obtain ⟨A1, c1, rfl, l1, _⟩ := k35_open (Kd.FK_now h)
  exact ⟨A1, c1, rfl, l1, (fun W' hW => by obtain ⟨A1_, c1_, he, l1_, g1_⟩ := k35_open (h W' hW); injection (Option.some.inj (show some (Value.slice A1 x.f1.length c1) = some (Value.slice A1_ x.f1.length c1_) from congrArg (fun l => l[1]?) he)) with ha_ _ _; rw [ha_]; exact g1_)⟩
theorem k35_mkF (W : World) (ok : Nat → Prop) (x : S35) {A1 : Option Addr} {c1 : Nat} (l1 : x.f1.length ≤ c1) (g1 : Kd.F Kd.string W ok A1 x.f1.length x.f1) : Kd.FK k35 W ok x [.string x.f0, .slice A1 x.f1.length c1] := fun W2 hW => k35_mk W2 x l1 (g1 W2 hW)
def rd_T35 (xs : List S35) (i : Int) : S35 := xs.getD i.toNat z35
theorem at_T35 {w : World} {A : Option Addr} {n : Nat} {xs : List S35} (h : Kd.C k35 w A n xs) (i : Int) (h0 : 0 ≤ i) (h1 : i < n) : ∃ ad A1 c1, A = some ad ∧ w.cell? (ad.add (i.toNat * 2)) = some (.string (rd_T35 xs i).f0) ∧ w.cell? ⟨(ad.add (i.toNat * 2)).block, (ad.add (i.toNat * 2)).off + 1, none⟩ = some (.slice A1 (rd_T35 xs i).f1.length c1) ∧ (rd_T35 xs i).f1.length ≤ c1 ∧ Kd.string.C w A1 (rd_T35 xs i).f1.length (rd_T35 xs i).f1 := by
  obtain ⟨ad, c, e, _, hK, hc0⟩ := Kd.C_get h z35 i h0 h1
  have hc : ∀ j u, c[j]? = some u → w.cell? (ad.add (i.toNat * 2 + j)) = some u := hc0
  obtain ⟨A1, c1, rfl, l1, g1⟩ := k35_open hK
  exact ⟨ad, A1, c1, e, hc 0 _ rfl, by rw [← add_field _ _ 1 (by omega)]; exact hc 1 _ rfl, l1, g1⟩

end Go.Proofs.Ytjofofpplpmgjaa.Pr
namespace Go.Proofs.Ytjofofpplpmgjaa
set_option linter.unusedVariables false
set_option linter.unusedSimpArgs false
open Go.RowKit Go.Lib Go.Shelf Go.Proofs.YtjofofpplpmgjaaW.PrintWords Go.Proofs.Ytjofofpplpmgjaa.Pr

def idxI {α : Type} (p : α → Bool) (l : List α) : Int := if l.any p then (l.findIdx p : Int) else -1
theorem idxI_hit {α : Type} (p : α → Bool) (l : List α) (k : Nat) (x : α) (hk : l[k]? = some x) (hx : p x = true) (hb : ∀ (j : Nat) (y : α), j < k → l[j]? = some y → p y = false) : idxI p l = k := by
  obtain ⟨hlt, hg⟩ := List.getElem?_eq_some_iff.1 hk
  have ha : l.any p = true := List.any_eq_true.2 ⟨x, List.mem_of_getElem? hk, hx⟩
  have : l.findIdx p = k := by
    rw [List.findIdx_eq hlt]
    refine ⟨by rw [hg]; exact hx, fun j hj => hb j _ hj (List.getElem?_eq_getElem (by omega))⟩
  unfold idxI
  rw [if_pos ha, this]
theorem idxI_miss {α : Type} (p : α → Bool) (l : List α) (hb : ∀ (j : Nat) (y : α), l[j]? = some y → p y = false) : idxI p l = -1 := by
  have ha : l.any p = false := List.any_eq_false.2 fun x hx => by
    obtain ⟨j, hj, rfl⟩ := List.mem_iff_getElem.1 hx
    rw [hb j _ (List.getElem?_eq_getElem hj)]
    simp
  unfold idxI
  rw [ha]
  simp
theorem idxI_nonneg {α : Type} (p : α → Bool) (l : List α) : decide (0 ≤ idxI p l) = l.any p := by
  unfold idxI
  cases h : l.any p <;> simp
def Asks {α : Type} (d : Kd α) (arg : List Value → Value) (g : Nat) (lb : Array Value) (p : α → Bool) (w : World) (l : List α) : Prop :=
  ∀ (W : World) (x : α) (cs : List Value), x ∈ l → Below w.heap.size w W → d.K w x cs → Calls Try.prog g (#[arg cs] ++ lb) W fun e w' => e = .returned (.bool (p x)) ∧ Below w.heap.size w w'
theorem C_block {α : Type} {d : Kd α} (hs : 0 < d.sz) {w : World} {A : Option Addr} {l : List α} (h : d.C w A l.length l) (h0 : 0 < l.length) :
    ∃ b off, A = some ⟨b, off, none⟩ ∧ b < w.heap.size ∧ ∀ j x, l[j]? = some x → ∃ c, c.length = d.sz ∧ d.K w x c ∧ ∀ q u, c[q]? = some u → w.cell? ⟨b, off + (j * d.sz + q), none⟩ = some u := by
  obtain ⟨ad, rfl, hc⟩ := h.2.2 h0
  obtain ⟨b, off, sp⟩ := ad
  obtain ⟨c, hcl, hK, hcell⟩ := hc 0 _ (List.getElem?_eq_getElem h0)
  have h1 := hcell 0 _ (List.getElem?_eq_getElem (by omega))
  have hsp := spot_none (by simpa [Addr.add] using h1)
  simp only at hsp
  subst hsp
  refine ⟨b, off, rfl, ?_, fun j x hj => ?_⟩
  · have := World.block_lt_of_cell? w _ h1
    simpa [Addr.add] using this
  · obtain ⟨c, hcl, hK, hcell⟩ := hc j x hj
    refine ⟨c, hcl, hK, fun q u hu => ?_⟩
    have := hcell q u hu
    rwa [Addr.add_lit] at this

set_option maxHeartbeats 2000000 in
theorem idxPer_calls {A : Option Addr} {c : Nat} {l : List S35} (p : S35 → Bool) (g : Nat) (lb : Array Value) (eg : ∀ args w, (callFunc g args).run Try.prog w = .ok (.enter g args) w) (w : World)
    (hC : k35.C w A l.length l) (hp : Asks k35 (fun cs => .agg cs.toArray) g lb p w l) :
    Calls Try.prog 61 #[.slice A l.length c, .func (.func g) #[] lb] w fun e w' => e = .returned (.int .i64 (idxI p l)) ∧ Below w.heap.size w w' := by
  obtain ⟨n, hn⟩ : ∃ n, l.length = n := ⟨_, rfl⟩
  have hbig : n ≤ 9223372036854775807 := by have := hC.2.1; omega
  rcases Nat.eq_zero_or_pos l.length with h0 | h0
  · obtain rfl := List.eq_nil_of_length_eq_zero h0
    clear hC hp
    subst hn
    show Calls Try.prog _ #[.slice A 0 c, _] w _
    go_enter Try.func61, Try.ntmps61
    go_wp2
    go_loopg [5, 8] 0 (fun gg _ s8 wr => s8 = .int .i64 0 ∧ wr = w)
    case atStart => exact ⟨rfl, rfl⟩
    case round =>
      obtain ⟨rfl, rfl⟩ := hrel
      go_wp2
      go_ret
      exact ⟨by rw [idxI_miss _ _ (fun j y h => by simp at h)]; rfl, Below.refl _ _⟩
  obtain ⟨b, off, rfl, hb, hrow0⟩ := C_block (d := k35) (by decide) hC h0
  have hrow : ∀ (W : World), Below w.heap.size w W → ∀ j x, l[j]? = some x → ∃ v1, k35.K w x [.string x.f0, v1] ∧ W.cell? ⟨b, off + j * 2, none⟩ = some (.string x.f0) ∧ W.cell? ⟨b, off + j * 2 + 1, none⟩ = some v1 := fun W hW j x hj => by
    obtain ⟨cs, hl, hK, hc⟩ := hrow0 j x hj
    obtain ⟨A1, c1, rfl, _, _⟩ := k35_open hK
    refine ⟨_, hK, ?_, ?_⟩
    · rw [hW.cell (p := ⟨b, off + j * 2, none⟩) hb]
      exact hc 0 _ rfl
    · rw [hW.cell (p := ⟨b, off + j * 2 + 1, none⟩) hb]
      exact hc 1 _ rfl
  clear hrow0 hC
  have HL := hid hn
  have HX : Hid (∀ j, j < n → ∃ x, l[j]? = some x) := fun j h => ⟨_, List.getElem?_eq_getElem (l := l) (i := j) (by omega)⟩
  rw [hn]
  clear hn h0
  go_enter Try.func61, Try.ntmps61
  go_wp2
  go_loopg [5, 8] n (fun gg _ s8 wr => ∃ kk : Nat, kk ≤ n ∧ n - kk ≤ gg ∧ s8 = .int .i64 kk ∧ Aside (Below w.heap.size w wr) ∧ Aside (∀ j y, j < kk → l[j]? = some y → p y = false))
  case atStart => exact ⟨0, Nat.zero_le _, by omega, rfl, Below.refl _ w, fun j y hj => absurd hj (Nat.not_lt_zero _)⟩
  case round =>
    obtain ⟨kk, hkk, hg, rfl, BW, HA⟩ := hrel
    by_cases hlt : kk < n
    · have hltz : (kk : Int) < (n : Int) := by omega
      obtain ⟨y, hy⟩ := HX.out kk hlt
      have HK := hid hy
      obtain ⟨v1, hK, l2, l3⟩ := hrow wr BW.out kk _ HK.out
      have hcall := hp wr _ [.string y.f0, v1] (List.mem_of_getElem? HK.out) BW.out hK
      clear hrow hp hK hy
      cases hq : p y with
      | true =>
        rw [hq] at hcall
        have HQ := hid hq
        clear hq
        go_wp2_with (go_at_fn g; refine hcall.mono ?_; rintro e w' ⟨rfl, hb'⟩)
        go_ret
        exact ⟨by rw [idxI_hit p l kk y HK.out HQ.out HA.out]; rfl, hb'⟩
      | false =>
        rw [hq] at hcall
        have HQ := hid hq
        clear hq
        go_wp2_with (go_at_fn g; refine hcall.mono ?_; rintro e w' ⟨rfl, hb'⟩)
        go_roundg (n - (kk + 1))
        case measure => omega
        case rel =>
          refine ⟨kk + 1, by omega, by omega, by go_num, hb', (show Aside _ from fun j z hj hz => ?_)⟩
          by_cases e : j = kk
          · subst e
            have := hz.symm.trans HK.out
            injection this with this
            subst this
            exact HQ.out
          · exact HA.out j z (by omega) hz
    · have hltz : ¬ (kk : Int) < (n : Int) := by omega
      have : kk = n := by omega
      subst this
      go_wp2
      go_ret
      refine ⟨?_, BW.out⟩
      rw [idxI_miss p l (fun j y hj => HA.out j y (by have := (List.getElem?_eq_some_iff.1 hj).1; have := HL.out; omega) hj)]
      rfl
set_option maxHeartbeats 2000000 in
theorem idxStr_calls {A : Option Addr} {c : Nat} {l : List ByteArray} (p : ByteArray → Bool) (g : Nat) (lb : Array Value) (eg : ∀ args w, (callFunc g args).run Try.prog w = .ok (.enter g args) w) (w : World)
    (hC : Kd.string.C w A l.length l) (hp : Asks Kd.string (fun cs => cs.headD .nilIface) g lb p w l) :
    Calls Try.prog 65 #[.slice A l.length c, .func (.func g) #[] lb] w fun e w' => e = .returned (.int .i64 (idxI p l)) ∧ Below w.heap.size w w' := by
  obtain ⟨n, hn⟩ : ∃ n, l.length = n := ⟨_, rfl⟩
  have hbig : n ≤ 9223372036854775807 := by have := hC.2.1; omega
  rcases Nat.eq_zero_or_pos l.length with h0 | h0
  · obtain rfl := List.eq_nil_of_length_eq_zero h0
    clear hC hp
    subst hn
    show Calls Try.prog _ #[.slice A 0 c, _] w _
    go_enter Try.func65, Try.ntmps65
    go_wp2
    go_loopg [5, 8] 0 (fun gg _ s8 wr => s8 = .int .i64 0 ∧ wr = w)
    case atStart => exact ⟨rfl, rfl⟩
    case round =>
      obtain ⟨rfl, rfl⟩ := hrel
      go_wp2
      go_ret
      exact ⟨by rw [idxI_miss _ _ (fun j y h => by simp at h)]; rfl, Below.refl _ _⟩
  obtain ⟨b, off, rfl, hb, hrow0⟩ := C_block (d := Kd.string) (by decide) hC h0
  have hrow : ∀ (W : World), Below w.heap.size w W → ∀ j x, l[j]? = some x → ∃ v, Kd.string.K w x [v] ∧ W.cell? ⟨b, off + j, none⟩ = some v := fun W hW j x hj => by
    obtain ⟨cs, hl, hK, hc⟩ := hrow0 j x hj
    obtain ⟨v, rfl⟩ : ∃ v, cs = [v] := by
      match cs, hl with
      | [v], _ => exact ⟨v, rfl⟩
    refine ⟨v, hK, ?_⟩
    rw [hW.cell (p := ⟨b, off + j, none⟩) hb]
    have := hc 0 v rfl
    rw [show off + j = off + (j * (Kd.string).sz + 0) from by show _ = off + (j * 1 + 0); omega]
    exact this
  clear hrow0 hC
  have HL := hid hn
  have HX : Hid (∀ j, j < n → ∃ x, l[j]? = some x) := fun j h => ⟨_, List.getElem?_eq_getElem (l := l) (i := j) (by omega)⟩
  rw [hn]
  clear hn h0
  go_enter Try.func65, Try.ntmps65
  go_wp2
  go_loopg [5, 8] n (fun gg _ s8 wr => ∃ kk : Nat, kk ≤ n ∧ n - kk ≤ gg ∧ s8 = .int .i64 kk ∧ Aside (Below w.heap.size w wr) ∧ Aside (∀ j y, j < kk → l[j]? = some y → p y = false))
  case atStart => exact ⟨0, Nat.zero_le _, by omega, rfl, Below.refl _ w, fun j y hj => absurd hj (Nat.not_lt_zero _)⟩
  case round =>
    obtain ⟨kk, hkk, hg, rfl, BW, HA⟩ := hrel
    by_cases hlt : kk < n
    · have hltz : (kk : Int) < (n : Int) := by omega
      obtain ⟨y, hy⟩ := HX.out kk hlt
      have HK := hid hy
      obtain ⟨v, hK, l2⟩ := hrow wr BW.out kk _ HK.out
      have hcall := hp wr _ [v] (List.mem_of_getElem? HK.out) BW.out hK
      simp only [List.headD_cons] at hcall
      clear hrow hp hK hy
      cases hq : p y with
      | true =>
        rw [hq] at hcall
        have HQ := hid hq
        clear hq
        go_wp2_with (go_at_fn g; refine hcall.mono ?_; rintro e w' ⟨rfl, hb'⟩)
        go_ret
        exact ⟨by rw [idxI_hit p l kk y HK.out HQ.out HA.out]; rfl, hb'⟩
      | false =>
        rw [hq] at hcall
        have HQ := hid hq
        clear hq
        go_wp2_with (go_at_fn g; refine hcall.mono ?_; rintro e w' ⟨rfl, hb'⟩)
        go_roundg (n - (kk + 1))
        case measure => omega
        case rel =>
          refine ⟨kk + 1, by omega, by omega, by go_num, hb', (show Aside _ from fun j z hj hz => ?_)⟩
          by_cases e : j = kk
          · subst e
            have := hz.symm.trans HK.out
            injection this with this
            subst this
            exact HQ.out
          · exact HA.out j z (by omega) hz
    · have hltz : ¬ (kk : Int) < (n : Int) := by omega
      have : kk = n := by omega
      subst this
      go_wp2
      go_ret
      refine ⟨?_, BW.out⟩
      rw [idxI_miss p l (fun j y hj => HA.out j y (by have := (List.getElem?_eq_some_iff.1 hj).1; have := HL.out; omega) hj)]
      rfl
set_option maxHeartbeats 2000000 in
theorem idxRow_calls {A : Option Addr} {c : Nat} {l : List (List ByteArray)} (p : (List ByteArray) → Bool) (g : Nat) (lb : Array Value) (eg : ∀ args w, (callFunc g args).run Try.prog w = .ok (.enter g args) w) (w : World)
    (hC : (Kd.slice 9 Kd.string).C w A l.length l) (hp : Asks (Kd.slice 9 Kd.string) (fun cs => cs.headD .nilIface) g lb p w l) :
    Calls Try.prog 66 #[.slice A l.length c, .func (.func g) #[] lb] w fun e w' => e = .returned (.int .i64 (idxI p l)) ∧ Below w.heap.size w w' := by
  obtain ⟨n, hn⟩ : ∃ n, l.length = n := ⟨_, rfl⟩
  have hbig : n ≤ 9223372036854775807 := by have := hC.2.1; omega
  rcases Nat.eq_zero_or_pos l.length with h0 | h0
  · obtain rfl := List.eq_nil_of_length_eq_zero h0
    clear hC hp
    subst hn
    show Calls Try.prog _ #[.slice A 0 c, _] w _
    go_enter Try.func66, Try.ntmps66
    go_wp2
    go_loopg [5, 8] 0 (fun gg _ s8 wr => s8 = .int .i64 0 ∧ wr = w)
    case atStart => exact ⟨rfl, rfl⟩
    case round =>
      obtain ⟨rfl, rfl⟩ := hrel
      go_wp2
      go_ret
      exact ⟨by rw [idxI_miss _ _ (fun j y h => by simp at h)]; rfl, Below.refl _ _⟩
  obtain ⟨b, off, rfl, hb, hrow0⟩ := C_block (d := (Kd.slice 9 Kd.string)) (by decide) hC h0
  have hrow : ∀ (W : World), Below w.heap.size w W → ∀ j x, l[j]? = some x → ∃ v, (Kd.slice 9 Kd.string).K w x [v] ∧ W.cell? ⟨b, off + j, none⟩ = some v := fun W hW j x hj => by
    obtain ⟨cs, hl, hK, hc⟩ := hrow0 j x hj
    obtain ⟨v, rfl⟩ : ∃ v, cs = [v] := by
      match cs, hl with
      | [v], _ => exact ⟨v, rfl⟩
    refine ⟨v, hK, ?_⟩
    rw [hW.cell (p := ⟨b, off + j, none⟩) hb]
    have := hc 0 v rfl
    rw [show off + j = off + (j * ((Kd.slice 9 Kd.string)).sz + 0) from by show _ = off + (j * 1 + 0); omega]
    exact this
  clear hrow0 hC
  have HL := hid hn
  have HX : Hid (∀ j, j < n → ∃ x, l[j]? = some x) := fun j h => ⟨_, List.getElem?_eq_getElem (l := l) (i := j) (by omega)⟩
  rw [hn]
  clear hn h0
  go_enter Try.func66, Try.ntmps66
  go_wp2
  go_loopg [5, 8] n (fun gg _ s8 wr => ∃ kk : Nat, kk ≤ n ∧ n - kk ≤ gg ∧ s8 = .int .i64 kk ∧ Aside (Below w.heap.size w wr) ∧ Aside (∀ j y, j < kk → l[j]? = some y → p y = false))
  case atStart => exact ⟨0, Nat.zero_le _, by omega, rfl, Below.refl _ w, fun j y hj => absurd hj (Nat.not_lt_zero _)⟩
  case round =>
    obtain ⟨kk, hkk, hg, rfl, BW, HA⟩ := hrel
    by_cases hlt : kk < n
    · have hltz : (kk : Int) < (n : Int) := by omega
      obtain ⟨y, hy⟩ := HX.out kk hlt
      have HK := hid hy
      obtain ⟨v, hK, l2⟩ := hrow wr BW.out kk _ HK.out
      have hcall := hp wr _ [v] (List.mem_of_getElem? HK.out) BW.out hK
      simp only [List.headD_cons] at hcall
      clear hrow hp hK hy
      cases hq : p y with
      | true =>
        rw [hq] at hcall
        have HQ := hid hq
        clear hq
        go_wp2_with (go_at_fn g; refine hcall.mono ?_; rintro e w' ⟨rfl, hb'⟩)
        go_ret
        exact ⟨by rw [idxI_hit p l kk y HK.out HQ.out HA.out]; rfl, hb'⟩
      | false =>
        rw [hq] at hcall
        have HQ := hid hq
        clear hq
        go_wp2_with (go_at_fn g; refine hcall.mono ?_; rintro e w' ⟨rfl, hb'⟩)
        go_roundg (n - (kk + 1))
        case measure => omega
        case rel =>
          refine ⟨kk + 1, by omega, by omega, by go_num, hb', (show Aside _ from fun j z hj hz => ?_)⟩
          by_cases e : j = kk
          · subst e
            have := hz.symm.trans HK.out
            injection this with this
            subst this
            exact HQ.out
          · exact HA.out j z (by omega) hz
    · have hltz : ¬ (kk : Int) < (n : Int) := by omega
      have : kk = n := by omega
      subst this
      go_wp2
      go_ret
      refine ⟨?_, BW.out⟩
      rw [idxI_miss p l (fun j y hj => HA.out j y (by have := (List.getElem?_eq_some_iff.1 hj).1; have := HL.out; omega) hj)]
      rfl
set_option maxHeartbeats 2000000 in
theorem hasPer_calls {A : Option Addr} {c : Nat} {l : List S35} (p : S35 → Bool) (g : Nat) (lb : Array Value) (eg : ∀ args w, (callFunc g args).run Try.prog w = .ok (.enter g args) w) (w : World)
    (hC : k35.C w A l.length l) (hp : Asks k35 (fun cs => .agg cs.toArray) g lb p w l) :
    Calls Try.prog 32 #[.slice A l.length c, .func (.func g) #[] lb] w fun e w' => e = .returned (.bool (l.any p)) ∧ Below w.heap.size w w' := by
  have key := hid (idxPer_calls (c := c) p g lb eg w hC hp)
  have HN := hid (idxI_nonneg p l)
  obtain ⟨r, hr⟩ : ∃ r, idxI p l = r := ⟨_, rfl⟩
  obtain ⟨q, hq⟩ : ∃ q, l.any p = q := ⟨_, rfl⟩
  rw [hr] at key HN
  rw [hq] at HN ⊢
  clear hr hq hC hp
  go_enter Try.func32, Try.ntmps32
  go_wp2_with (go_at_call 61; refine key.out.mono ?_; rintro e w' ⟨rfl, hb'⟩)
  go_ret
  exact ⟨by have := HN.out; rw [← this]; rfl, hb'⟩
set_option maxHeartbeats 2000000 in
theorem hasStr_calls {A : Option Addr} {c : Nat} {l : List ByteArray} (p : ByteArray → Bool) (g : Nat) (lb : Array Value) (eg : ∀ args w, (callFunc g args).run Try.prog w = .ok (.enter g args) w) (w : World)
    (hC : Kd.string.C w A l.length l) (hp : Asks Kd.string (fun cs => cs.headD .nilIface) g lb p w l) :
    Calls Try.prog 68 #[.slice A l.length c, .func (.func g) #[] lb] w fun e w' => e = .returned (.bool (l.any p)) ∧ Below w.heap.size w w' := by
  have key := hid (idxStr_calls (c := c) p g lb eg w hC hp)
  have HN := hid (idxI_nonneg p l)
  obtain ⟨r, hr⟩ : ∃ r, idxI p l = r := ⟨_, rfl⟩
  obtain ⟨q, hq⟩ : ∃ q, l.any p = q := ⟨_, rfl⟩
  rw [hr] at key HN
  rw [hq] at HN ⊢
  clear hr hq hC hp
  go_enter Try.func68, Try.ntmps68
  go_wp2_with (go_at_call 65; refine key.out.mono ?_; rintro e w' ⟨rfl, hb'⟩)
  go_ret
  exact ⟨by have := HN.out; rw [← this]; rfl, hb'⟩
set_option maxHeartbeats 2000000 in
theorem hasRow_calls {A : Option Addr} {c : Nat} {l : List (List ByteArray)} (p : (List ByteArray) → Bool) (g : Nat) (lb : Array Value) (eg : ∀ args w, (callFunc g args).run Try.prog w = .ok (.enter g args) w) (w : World)
    (hC : (Kd.slice 9 Kd.string).C w A l.length l) (hp : Asks (Kd.slice 9 Kd.string) (fun cs => cs.headD .nilIface) g lb p w l) :
    Calls Try.prog 41 #[.slice A l.length c, .func (.func g) #[] lb] w fun e w' => e = .returned (.bool (l.any p)) ∧ Below w.heap.size w w' := by
  have key := hid (idxRow_calls (c := c) p g lb eg w hC hp)
  have HN := hid (idxI_nonneg p l)
  obtain ⟨r, hr⟩ : ∃ r, idxI p l = r := ⟨_, rfl⟩
  obtain ⟨q, hq⟩ : ∃ q, l.any p = q := ⟨_, rfl⟩
  rw [hr] at key HN
  rw [hq] at HN ⊢
  clear hr hq hC hp
  go_enter Try.func41, Try.ntmps41
  go_wp2_with (go_at_call 66; refine key.out.mono ?_; rintro e w' ⟨rfl, hb'⟩)
  go_ret
  exact ⟨by have := HN.out; rw [← this]; rfl, hb'⟩
end Go.Proofs.Ytjofofpplpmgjaa
namespace Go.Proofs.Ytjofofpplpmgjaa
set_option linter.unusedVariables false
set_option linter.unusedSimpArgs false
open Go.RowKit Go.Proofs.YtjofofpplpmgjaaW.PrintWords Go.Proofs.YtjofofpplpmgjaaW.PrintMore

theorem wrap_succ {i : Int} (h0 : -1 ≤ i) (h : i < 9000000000000000000) : wrap64 (i + 1) = i + 1 := by unfold wrap64; omega
theorem wrap_id {i : Int} (h0 : -9000000000000000000 ≤ i) (h : i < 9000000000000000000) : wrap64 i = i := by unfold wrap64; omega
theorem bt_c {s : ByteArray} {k : Nat} {c : UInt8} (h : s.data.toList[k]? = some c) : bt s (k : Int) = (c.toNat : Int) := by
  have hl : k < s.data.toList.length := (List.getElem?_eq_some_iff.1 h).1
  have hl' : k < s.size := by simpa using hl
  have := byte_at s k hl'
  rw [h] at this
  unfold bt
  rw [dif_pos (by simpa using hl')]
  simp only [Int.toNat_natCast]
  rw [← Option.some.inj this]
theorem at_some (s : ByteArray) {k : Nat} (h : k < s.size) : ∃ c, s.data.toList[k]? = some c := ⟨_, byte_at s k h⟩
theorem at_lt {s : ByteArray} {k : Nat} {c : UInt8} (h : s.data.toList[k]? = some c) : k < s.size := by
  have hl : k < s.data.toList.length := (List.getElem?_eq_some_iff.1 h).1
  simpa using hl
theorem mkS_data (s : ByteArray) : mkS s.data.toList = s := Lib.mk_data s
def SS (l : List (List UInt8)) : List ByteArray := l.map mkS
theorem SS_len (l : List (List UInt8)) : (SS l).length = l.length := List.length_map _
theorem SS_at {l : List (List UInt8)} {i : Nat} {x : List UInt8} (h : l[i]? = some x) : rdOf ByteArray.empty (SS l) (i : Int) = mkS x := by
  unfold rdOf SS
  rw [Int.toNat_natCast, List.getD_eq_getElem?_getD, List.getElem?_map, h]
  rfl
theorem drop_at {α : Type} {l : List α} {i : Nat} {x : α} (h : l[i]? = some x) : l.drop i = x :: l.drop (i + 1) := by
  rw [List.drop_eq_getElem?_toList_append, h]
  simp
theorem get_some {α : Type} {l : List α} {i : Nat} (h : i < l.length) : ∃ x, l[i]? = some x := ⟨_, List.getElem?_eq_getElem h⟩
end Go.Proofs.Ytjofofpplpmgjaa
namespace Go.Proofs.Ytjofofpplpmgjaa.Pr
open Go.RowKit Go.Proofs.YtjofofpplpmgjaaW.PrintWords Go.Proofs.YtjofofpplpmgjaaW.PrintLast Go.Proofs.YtjofofpplpmgjaaW.PrintMore
attribute [local go_sem] max2_int min2_int max_two min_two max_three min_three max_four min_four   -- for this text's walks alone
set_option linter.unusedVariables false
set_option linter.unusedSimpArgs false

def boltingref02_Has.l0 : Nat → List ByteArray → ByteArray → Int → Option (Bool)
 | 0, _, _, _ => none
 | k + 1, x0, x1, x5 => if x5 < (x0.length : Int) then (if 0 ≤ x5 then (if (rdOf ByteArray.empty x0 x5).toList = x1.toList then (some true) else (boltingref02_Has.l0 k x0 x1 (wrap64 (x5 + 1)))) else (none)) else (some false)
def boltingref02_Has.f (k : Nat) (l0 : List ByteArray) (a1 : ByteArray) : Option (Bool) := boltingref02_Has.l0 k l0 a1 0
mutual
def boltingref02_Sorted.l0 : Nat → List ByteArray → List ByteArray → Int → Option (List ByteArray)
 | 0, _, _, _ => none
 | k + 1, x0, x3, x4 => if x4 < (x0.length : Int) then (if 0 ≤ x4 then ((boltingref02_Has.f k x3 (rdOf ByteArray.empty x0 x4)).bind fun t227 => (boltingref02_Sorted.l1 k x0 x3 x4 (([] : List ByteArray)) t227 0)) else (none)) else (some x3)
def boltingref02_Sorted.l1 : Nat → List ByteArray → List ByteArray → Int → List ByteArray → Bool → Int → Option (List ByteArray)
 | 0, _, _, _, _, _, _ => none
 | k + 1, x0, x3, x4, x5, x6, x7 => if x7 < (x3.length : Int) then (if x6 = true then (if 0 ≤ x7 then (if x5.length < 8796093022208 then (boltingref02_Sorted.l1 k x0 x3 x4 (x5 ++ [rdOf ByteArray.empty x3 x7]) x6 (wrap64 (x7 + 1))) else (none)) else (none)) else (if 0 ≤ x4 then (if x4 < (x0.length : Int) then (if 0 ≤ x7 then (if (Op.bytesLess ((rdOf ByteArray.empty x0 x4).toList) ((rdOf ByteArray.empty x3 x7).toList)) = true then (if x5.length < 8796093022208 then ((some (x5 ++ [rdOf ByteArray.empty x0 x4] : List ByteArray)).bind fun y235 => (if y235.length < 8796093022208 then (boltingref02_Sorted.l1 k x0 x3 x4 (y235 ++ [rdOf ByteArray.empty x3 x7]) true (wrap64 (x7 + 1))) else (none))) else (none)) else (if x5.length < 8796093022208 then (boltingref02_Sorted.l1 k x0 x3 x4 (x5 ++ [rdOf ByteArray.empty x3 x7]) x6 (wrap64 (x7 + 1))) else (none))) else (none)) else (none)) else (none))) else (if x6 = true then (boltingref02_Sorted.l0 k x0 x5 (wrap64 (x4 + 1))) else (if 0 ≤ x4 then (if x4 < (x0.length : Int) then (if x5.length < 8796093022208 then (boltingref02_Sorted.l0 k x0 (x5 ++ [rdOf ByteArray.empty x0 x4]) (wrap64 (x4 + 1))) else (none)) else (none)) else (none)))
end
def boltingref02_Sorted.f (k : Nat) (l0 : List ByteArray) : Option (List ByteArray) := boltingref02_Sorted.l0 k l0 (([] : List ByteArray)) 0
def boltingref12_of.l0 : Nat → List ByteArray → Int → Bool → Bool → List ByteArray → List ByteArray → List ByteArray → List (S35) → Bool → Bool → Option (List ByteArray)
 | 0, _, _, _, _, _, _, _, _, _, _ => none
 | k + 1, x3, x4, x251000, x251001, x251002, x251003, x251004, x251005, x251006, x251007 => if x4 < (x251005.length : Int) then (if 0 ≤ x4 then (if x3.length < 8796093022208 then (boltingref12_of.l0 k (x3 ++ [(rd_T35 x251005 x4).f0]) (wrap64 (x4 + 1)) x251000 x251001 x251002 x251003 x251004 x251005 x251006 x251007) else (none)) else (none)) else (some x3)
def boltingref12_of.f (k : Nat) (a0_0 : Bool) (a0_1 : Bool) (l0_2 : List ByteArray) (l0_3 : List ByteArray) (l0_4 : List ByteArray) (l0_5 : List (S35)) (a0_6 : Bool) (a0_7 : Bool) : Option (List ByteArray) := boltingref12_of.l0 k (([] : List ByteArray)) 0 a0_0 a0_1 l0_2 l0_3 l0_4 l0_5 a0_6 a0_7
end Go.Proofs.Ytjofofpplpmgjaa.Pr
namespace Go.Proofs.Ytjofofpplpmgjaa.Pr
open Go.RowKit Go.Proofs.YtjofofpplpmgjaaW.PrintWords Go.Proofs.YtjofofpplpmgjaaW.PrintLast Go.Proofs.YtjofofpplpmgjaaW.PrintMore
attribute [local go_sem] max2_int min2_int max_two min_two max_three min_three max_four min_four   -- for this text's walks alone
set_option linter.unusedVariables false
set_option linter.unusedSimpArgs false

def risk_Element.f (a0 : ByteArray) : Option (Bool) := if a0.toList = ([98, 97, 115, 101] : List UInt8) then (some true) else (if a0.toList = ([101, 109, 98, 101, 100] : List UInt8) then (some true) else (if a0.toList = ([102, 114, 97, 109, 101] : List UInt8) then (some true) else (if a0.toList = ([105, 102, 114, 97, 109, 101] : List UInt8) then (some true) else (if a0.toList = ([108, 105, 110, 107] : List UInt8) then (some true) else (if a0.toList = ([109, 101, 116, 97] : List UInt8) then (some true) else (if a0.toList = ([111, 98, 106, 101, 99, 116] : List UInt8) then (some true) else (if a0.toList = ([115, 99, 114, 105, 112, 116] : List UInt8) then (some true) else (some false))))))))
set_option maxHeartbeats 8000000 in
set_option maxRecDepth 100000 in
theorem risk_Element.calls (a0 : ByteArray) (r : Bool) (w : World) (h : risk_Element.f a0 = some r) :
  Calls Try.prog 37 #[.string a0] w fun e w' => e = .returned (.bool r) ∧ Drawn0 w w' := by
 have H : (if a0.toList = ([98, 97, 115, 101] : List UInt8) then (some true) else (if a0.toList = ([101, 109, 98, 101, 100] : List UInt8) then (some true) else (if a0.toList = ([102, 114, 97, 109, 101] : List UInt8) then (some true) else (if a0.toList = ([105, 102, 114, 97, 109, 101] : List UInt8) then (some true) else (if a0.toList = ([108, 105, 110, 107] : List UInt8) then (some true) else (if a0.toList = ([109, 101, 116, 97] : List UInt8) then (some true) else (if a0.toList = ([111, 98, 106, 101, 99, 116] : List UInt8) then (some true) else (if a0.toList = ([115, 99, 114, 105, 112, 116] : List UInt8) then (some true) else (some false))))))))) = some r := h
 clear h
 by_cases c2 : a0.toList = ([98, 97, 115, 101] : List UInt8)
 ·rw [if_pos c2] at H
  have c2b0 : (a0.toList == ([98, 97, 115, 101] : List UInt8)) = true := beq_iff_eq.mpr c2
  have c2b1 : (a0.toList != ([98, 97, 115, 101] : List UInt8)) = false := bne_eq_false_iff_eq.mpr c2
  clear c2
  obtain rfl := Option.some.inj H
  go_enter Try.func37, Try.ntmps37
  go_wp2
  go_ret
  exact ⟨by first | rfl | (simp; done) | (simp [*]; done) | (simp; generalize ByteArray.toList _ = l_; cases l_ <;> rfl), by repeat (first | exact Drawn0.refl _ | apply Drawn0.step)⟩
 ·rw [if_neg c2] at H
  have c2b0 : (a0.toList == ([98, 97, 115, 101] : List UInt8)) = false := beq_eq_false_iff_ne.mpr c2
  have c2b1 : (a0.toList != ([98, 97, 115, 101] : List UInt8)) = true := bne_iff_ne.mpr c2
  by_cases c3 : a0.toList = ([101, 109, 98, 101, 100] : List UInt8)
  ·rw [if_pos c3] at H
   have c3b0 : (a0.toList == ([101, 109, 98, 101, 100] : List UInt8)) = true := beq_iff_eq.mpr c3
   have c3b1 : (a0.toList != ([101, 109, 98, 101, 100] : List UInt8)) = false := bne_eq_false_iff_eq.mpr c3
   clear c3
   obtain rfl := Option.some.inj H
   go_enter Try.func37, Try.ntmps37
   go_wp2
   go_ret
   exact ⟨by first | rfl | (simp; done) | (simp [*]; done) | (simp; generalize ByteArray.toList _ = l_; cases l_ <;> rfl), by repeat (first | exact Drawn0.refl _ | apply Drawn0.step)⟩
  ·rw [if_neg c3] at H
   have c3b0 : (a0.toList == ([101, 109, 98, 101, 100] : List UInt8)) = false := beq_eq_false_iff_ne.mpr c3
   have c3b1 : (a0.toList != ([101, 109, 98, 101, 100] : List UInt8)) = true := bne_iff_ne.mpr c3
   by_cases c4 : a0.toList = ([102, 114, 97, 109, 101] : List UInt8)
   ·rw [if_pos c4] at H
    have c4b0 : (a0.toList == ([102, 114, 97, 109, 101] : List UInt8)) = true := beq_iff_eq.mpr c4
    have c4b1 : (a0.toList != ([102, 114, 97, 109, 101] : List UInt8)) = false := bne_eq_false_iff_eq.mpr c4
    clear c4
    obtain rfl := Option.some.inj H
    go_enter Try.func37, Try.ntmps37
    go_wp2
    go_ret
    exact ⟨by first | rfl | (simp; done) | (simp [*]; done) | (simp; generalize ByteArray.toList _ = l_; cases l_ <;> rfl), by repeat (first | exact Drawn0.refl _ | apply Drawn0.step)⟩
   ·rw [if_neg c4] at H
    have c4b0 : (a0.toList == ([102, 114, 97, 109, 101] : List UInt8)) = false := beq_eq_false_iff_ne.mpr c4
    have c4b1 : (a0.toList != ([102, 114, 97, 109, 101] : List UInt8)) = true := bne_iff_ne.mpr c4
    by_cases c5 : a0.toList = ([105, 102, 114, 97, 109, 101] : List UInt8)
    ·rw [if_pos c5] at H
     have c5b0 : (a0.toList == ([105, 102, 114, 97, 109, 101] : List UInt8)) = true := beq_iff_eq.mpr c5
     have c5b1 : (a0.toList != ([105, 102, 114, 97, 109, 101] : List UInt8)) = false := bne_eq_false_iff_eq.mpr c5
     clear c5
     obtain rfl := Option.some.inj H
     go_enter Try.func37, Try.ntmps37
     go_wp2
     go_ret
     exact ⟨by first | rfl | (simp; done) | (simp [*]; done) | (simp; generalize ByteArray.toList _ = l_; cases l_ <;> rfl), by repeat (first | exact Drawn0.refl _ | apply Drawn0.step)⟩
    ·rw [if_neg c5] at H
     have c5b0 : (a0.toList == ([105, 102, 114, 97, 109, 101] : List UInt8)) = false := beq_eq_false_iff_ne.mpr c5
     have c5b1 : (a0.toList != ([105, 102, 114, 97, 109, 101] : List UInt8)) = true := bne_iff_ne.mpr c5
     by_cases c6 : a0.toList = ([108, 105, 110, 107] : List UInt8)
     ·rw [if_pos c6] at H
      have c6b0 : (a0.toList == ([108, 105, 110, 107] : List UInt8)) = true := beq_iff_eq.mpr c6
      have c6b1 : (a0.toList != ([108, 105, 110, 107] : List UInt8)) = false := bne_eq_false_iff_eq.mpr c6
      clear c6
      obtain rfl := Option.some.inj H
      go_enter Try.func37, Try.ntmps37
      go_wp2
      go_ret
      exact ⟨by first | rfl | (simp; done) | (simp [*]; done) | (simp; generalize ByteArray.toList _ = l_; cases l_ <;> rfl), by repeat (first | exact Drawn0.refl _ | apply Drawn0.step)⟩
     ·rw [if_neg c6] at H
      have c6b0 : (a0.toList == ([108, 105, 110, 107] : List UInt8)) = false := beq_eq_false_iff_ne.mpr c6
      have c6b1 : (a0.toList != ([108, 105, 110, 107] : List UInt8)) = true := bne_iff_ne.mpr c6
      by_cases c7 : a0.toList = ([109, 101, 116, 97] : List UInt8)
      ·rw [if_pos c7] at H
       have c7b0 : (a0.toList == ([109, 101, 116, 97] : List UInt8)) = true := beq_iff_eq.mpr c7
       have c7b1 : (a0.toList != ([109, 101, 116, 97] : List UInt8)) = false := bne_eq_false_iff_eq.mpr c7
       clear c7
       obtain rfl := Option.some.inj H
       go_enter Try.func37, Try.ntmps37
       go_wp2
       go_ret
       exact ⟨by first | rfl | (simp; done) | (simp [*]; done) | (simp; generalize ByteArray.toList _ = l_; cases l_ <;> rfl), by repeat (first | exact Drawn0.refl _ | apply Drawn0.step)⟩
      ·rw [if_neg c7] at H
       have c7b0 : (a0.toList == ([109, 101, 116, 97] : List UInt8)) = false := beq_eq_false_iff_ne.mpr c7
       have c7b1 : (a0.toList != ([109, 101, 116, 97] : List UInt8)) = true := bne_iff_ne.mpr c7
       by_cases c8 : a0.toList = ([111, 98, 106, 101, 99, 116] : List UInt8)
       ·rw [if_pos c8] at H
        have c8b0 : (a0.toList == ([111, 98, 106, 101, 99, 116] : List UInt8)) = true := beq_iff_eq.mpr c8
        have c8b1 : (a0.toList != ([111, 98, 106, 101, 99, 116] : List UInt8)) = false := bne_eq_false_iff_eq.mpr c8
        clear c8
        obtain rfl := Option.some.inj H
        go_enter Try.func37, Try.ntmps37
        go_wp2
        go_ret
        exact ⟨by first | rfl | (simp; done) | (simp [*]; done) | (simp; generalize ByteArray.toList _ = l_; cases l_ <;> rfl), by repeat (first | exact Drawn0.refl _ | apply Drawn0.step)⟩
       ·rw [if_neg c8] at H
        have c8b0 : (a0.toList == ([111, 98, 106, 101, 99, 116] : List UInt8)) = false := beq_eq_false_iff_ne.mpr c8
        have c8b1 : (a0.toList != ([111, 98, 106, 101, 99, 116] : List UInt8)) = true := bne_iff_ne.mpr c8
        by_cases c9 : a0.toList = ([115, 99, 114, 105, 112, 116] : List UInt8)
        ·rw [if_pos c9] at H
         have c9b0 : (a0.toList == ([115, 99, 114, 105, 112, 116] : List UInt8)) = true := beq_iff_eq.mpr c9
         have c9b1 : (a0.toList != ([115, 99, 114, 105, 112, 116] : List UInt8)) = false := bne_eq_false_iff_eq.mpr c9
         clear c9
         obtain rfl := Option.some.inj H
         go_enter Try.func37, Try.ntmps37
         go_wp2
         go_ret
         exact ⟨by first | rfl | (simp; done) | (simp [*]; done) | (simp; generalize ByteArray.toList _ = l_; cases l_ <;> rfl), by repeat (first | exact Drawn0.refl _ | apply Drawn0.step)⟩
        ·rw [if_neg c9] at H
         have c9b0 : (a0.toList == ([115, 99, 114, 105, 112, 116] : List UInt8)) = false := beq_eq_false_iff_ne.mpr c9
         have c9b1 : (a0.toList != ([115, 99, 114, 105, 112, 116] : List UInt8)) = true := bne_iff_ne.mpr c9
         obtain rfl := Option.some.inj H
         go_enter Try.func37, Try.ntmps37
         go_wp2
         go_ret
         exact ⟨by first | rfl | (simp; done) | (simp [*]; done) | (simp; generalize ByteArray.toList _ = l_; cases l_ <;> rfl), by repeat (first | exact Drawn0.refl _ | apply Drawn0.step)⟩

def slices_Index_string_string.l0 : Nat → List ByteArray → ByteArray → Int → Int → Option (Int)
 | 0, _, _, _, _ => none
 | k + 1, x0, x1, x7, x8 => if x8 < x7 then (if 0 ≤ x8 then (if x8 < (x0.length : Int) then (if x1.toList = (rdOf ByteArray.empty x0 x8).toList then (some x8) else (slices_Index_string_string.l0 k x0 x1 x7 (wrap64 (x8 + 1)))) else (none)) else (none)) else (some (-1))
def slices_Index_string_string.f (k : Nat) (l0 : List ByteArray) (a1 : ByteArray) : Option (Int) := slices_Index_string_string.l0 k l0 a1 (l0.length : Int) 0
set_option maxHeartbeats 8000000 in
set_option maxRecDepth 100000 in
theorem slices_Index_string_string.calls (k : Nat) (A0 : Option Addr) (c0 : Nat) (l0 : List ByteArray) (a1 : ByteArray) (r : Int) (w : World) (hr0 : Kd.C Kd.string w A0 l0.length l0) (hc0 : l0.length ≤ c0) (h : slices_Index_string_string.f k l0 a1 = some r) :
  Calls Try.prog 60 #[.slice A0 l0.length c0, .string a1] w fun e w' => e = .returned (.int .i64 r) ∧ Drawn0 w w' := by
 have HR0 := Aside0.mk hr0
 have HC0 := Aside0.mk hc0
 clear hr0 hc0
 have H : (slices_Index_string_string.l0 k l0 a1 (l0.length : Int) 0) = some r := h
 clear h
 have H' := Aside0.mk H
 clear H
 go_enter Try.func60, Try.ntmps60
 go_wp2
 go_loopg [8] k (fun kq v8 w' => ∃ (x8_1 : Int), v8 = .int .i64 x8_1 ∧ Aside0 (slices_Index_string_string.l0 kq l0 a1 (l0.length : Int) x8_1 = some r) ∧ Aside0 (kq ≤ k) ∧ Drawn0 w w')
 case atStart => exact ⟨(0), (by first | rfl | (simp; done) | (simp [*]; done)), H', ⟨Nat.le_refl _⟩, by repeat (first | exact Drawn0.refl _ | apply Drawn0.step)⟩
 case round =>
  clear H'
  try clear p2
  obtain ⟨x8_1, rfl, HA, HK1, ⟨m1, rfl⟩⟩ := hrel
  cases gk with
  | zero => exact absurd HA.out (by simp [slices_Index_string_string.l0])
  | succ k1 =>
   have H := HA.out
   clear HA
   simp only [slices_Index_string_string.l0] at H
   by_cases c3 : x8_1 < (l0.length : Int)
   ·rw [if_pos c3] at H
    have c3b0 : decide (x8_1 < (l0.length : Int)) = true := decide_eq_true c3
    clear c3
    by_cases c4 : 0 ≤ x8_1
    ·rw [if_pos c4] at H
     have c4b0 : decide (0 ≤ x8_1) = true := decide_eq_true c4
     clear c4
     by_cases c5 : x8_1 < (l0.length : Int)
     ·rw [if_pos c5] at H
      have c5b0 : decide (x8_1 < (l0.length : Int)) = true := decide_eq_true c5
      clear c5
      by_cases c6 : a1.toList = (rdOf ByteArray.empty l0 x8_1).toList
      ·rw [if_pos c6] at H
       have c6b0 : (a1.toList == (rdOf ByteArray.empty l0 x8_1).toList) = true := beq_iff_eq.mpr c6
       have c6b1 : (a1.toList != (rdOf ByteArray.empty l0 x8_1).toList) = false := bne_eq_false_iff_eq.mpr c6
       clear c6
       obtain rfl := Option.some.inj H
       have p123 : 0 ≤ (x8_1 : Int) := of_decide_eq_true (by first | (with_reducible assumption) | assumption)
       have q123 : x8_1 < (l0.length : Int) := of_decide_eq_true (by first | (with_reducible assumption) | assumption)
       obtain ⟨ad123, e123, hx123_0⟩ := Kd.at_string HR0.out x8_1 p123 q123
       cases e123
       replace p123 := eq_true p123
       replace q123 := eq_true q123
       go_wp2
       go_ret
       exact ⟨by first | rfl | (simp; done) | (simp [*]; done) | (simp; generalize ByteArray.toList _ = l_; cases l_ <;> rfl), by repeat (first | exact Drawn0.refl _ | apply Drawn0.step)⟩
      ·rw [if_neg c6] at H
       have c6b0 : (a1.toList == (rdOf ByteArray.empty l0 x8_1).toList) = false := beq_eq_false_iff_ne.mpr c6
       have c6b1 : (a1.toList != (rdOf ByteArray.empty l0 x8_1).toList) = true := bne_iff_ne.mpr c6
       have H' := Aside0.mk H
       clear H
       have p123 : 0 ≤ (x8_1 : Int) := of_decide_eq_true (by first | (with_reducible assumption) | assumption)
       have q123 : x8_1 < (l0.length : Int) := of_decide_eq_true (by first | (with_reducible assumption) | assumption)
       obtain ⟨ad123, e123, hx123_0⟩ := Kd.at_string HR0.out x8_1 p123 q123
       cases e123
       replace p123 := eq_true p123
       replace q123 := eq_true q123
       go_wp2
       go_roundg k1
       case measure => have := HK1.out; omega
       case rel => exact ⟨(wrap64 (x8_1 + 1)), (by first | rfl | (simp; done) | (simp [*]; done)), H', ⟨by have := HK1.out; omega⟩, by repeat (first | exact Drawn0.refl _ | apply Drawn0.step)⟩
     ·rw [if_neg c5] at H
      exact absurd H (by simp)
    ·rw [if_neg c4] at H
     exact absurd H (by simp)
   ·rw [if_neg c3] at H
    have c3b0 : decide (x8_1 < (l0.length : Int)) = false := decide_eq_false c3
    clear c3
    obtain rfl := Option.some.inj H
    go_wp2
    go_ret
    exact ⟨by first | rfl | (simp; done) | (simp [*]; done) | (simp; generalize ByteArray.toList _ = l_; cases l_ <;> rfl), by repeat (first | exact Drawn0.refl _ | apply Drawn0.step)⟩

def slices_Contains_string_string.f (k : Nat) (l0 : List ByteArray) (a1 : ByteArray) : Option (Bool) := (slices_Index_string_string.f k l0 a1).bind fun t124 => (some (decide (t124 ≥ 0)))
set_option maxHeartbeats 8000000 in
set_option maxRecDepth 100000 in
theorem slices_Contains_string_string.calls (k : Nat) (A0 : Option Addr) (c0 : Nat) (l0 : List ByteArray) (a1 : ByteArray) (r : Bool) (w : World) (hr0 : Kd.C Kd.string w A0 l0.length l0) (hc0 : l0.length ≤ c0) (h : slices_Contains_string_string.f k l0 a1 = some r) :
  Calls Try.prog 31 #[.slice A0 l0.length c0, .string a1] w fun e w' => e = .returned (.bool r) ∧ Drawn0 w w' := by
 have HR0 := Aside0.mk hr0
 have HC0 := Aside0.mk hc0
 clear hr0 hc0
 have H : ((slices_Index_string_string.f k l0 a1).bind fun t124 => (some (decide (t124 ≥ 0)))) = some r := h
 clear h
 replace H := Option.bind_eq_some_iff.mp H
 obtain ⟨t124, A30, H⟩ := H
 replace H : (some (decide (t124 ≥ 0))) = some r := H
 have A3 := Aside0.mk A30
 clear A30
 obtain rfl := Option.some.inj H
 go_enter Try.func31, Try.ntmps31
 go_wp2_with (first | ((with_reducible refine gate_callee (f := 60) rfl ?_); refine goesL_ (some 7) rfl rfl Try.func60 (by kernel_rfl) rfl #[.slice A0 l0.length c0, .string a1] rfl (by (try simp only [List.map_toArray, List.map_cons, List.map_nil]); first | done | rfl | (simp only [List.length_drop, List.length_take]; rfl)) ?_; (with_reducible refine (slices_Index_string_string.calls k _ _ l0 a1 t124 _ ?side1 ?side2 A3.out).mono ?_); (case side1 => repeat (first | exact HR0.out | (with_reducible refine Kd.C_alloc ?_ _) | (with_reducible refine Kd.C_drewN ?_ _) | (with_reducible refine Kd.C_drew ?_))); (case side2 => exact HC0.out); rintro e w' ⟨rfl, ⟨nd, rfl⟩⟩; refine ⟨_, rfl, ?_⟩))
 go_ret
 exact ⟨by first | rfl | (simp; done) | (simp [*]; done) | (simp; generalize ByteArray.toList _ = l_; cases l_ <;> rfl), by repeat (first | exact Drawn0.refl _ | apply Drawn0.step)⟩

def fold_Minus.l0 : Nat → List ByteArray → List ByteArray → List ByteArray → Int → Int → Option (List ByteArray)
 | 0, _, _, _, _, _ => none
 | k + 1, x1, x5, x8, x9, x10 => if x10 < x9 then (if 0 ≤ x10 then (if x10 < (x8.length : Int) then ((slices_Contains_string_string.f k x1 (rdOf ByteArray.empty x8 x10)).bind fun t126 => (if t126 = true then (fold_Minus.l0 k x1 x5 x8 x9 (wrap64 (x10 + 1))) else (if x5.length < 8796093022208 then (fold_Minus.l0 k x1 (x5 ++ [rdOf ByteArray.empty x8 x10]) x8 x9 (wrap64 (x10 + 1))) else (none)))) else (none)) else (none)) else (some x5)
def fold_Minus.f (k : Nat) (l0 : List ByteArray) (l1 : List ByteArray) : Option (List ByteArray) := fold_Minus.l0 k l1 ([] : List ByteArray) l0 (l0.length : Int) 0
set_option maxHeartbeats 8000000 in
set_option maxRecDepth 100000 in
theorem fold_Minus.calls (k : Nat) (A0 : Option Addr) (c0 : Nat) (l0 : List ByteArray) (A1 : Option Addr) (c1 : Nat) (l1 : List ByteArray) (r : List ByteArray) (w : World) (hr0 : Kd.C Kd.string w A0 l0.length l0) (hc0 : l0.length ≤ c0) (hr1 : Kd.C Kd.string w A1 l1.length l1) (hc1 : l1.length ≤ c1) (h : fold_Minus.f k l0 l1 = some r) :
  Calls Try.prog 38 #[.slice A0 l0.length c0, .slice A1 l1.length c1] w fun e w' => ∃ v0_ : Value, e = .returned (v0_) ∧ Kd.R Kd.string 9 w' w.heap.size (fun _ => True) v0_ r ∧ Below w.heap.size w w' := by
 have HR0 := Aside0.mk hr0
 have HC0 := Aside0.mk hc0
 clear hr0 hc0
 have HR1 := Aside0.mk hr1
 have HC1 := Aside0.mk hc1
 clear hr1 hc1
 have HB := Aside0.mk (Below.refl w.heap.size w)
 have H : (fold_Minus.l0 k l1 ([] : List ByteArray) l0 (l0.length : Int) 0) = some r := h
 clear h
 have H' := Aside0.mk H
 clear H
 go_enter Try.func38, Try.ntmps38
 go_wp2
 go_loopg [5, 10] k (fun kq v5 v10 w' => ∃ (x5_1 : List ByteArray) (x10_1 : Int), v10 = .int .i64 x10_1 ∧ Aside0 (fold_Minus.l0 kq l1 x5_1 l0 (l0.length : Int) x10_1 = some r) ∧ Aside0 (kq ≤ k) ∧ Aside0 (Kd.R Kd.string 9 w' w.heap.size (fun _ => True) v5 x5_1) ∧ Aside0 (Below w.heap.size w w'))
 case atStart => exact ⟨(([] : List ByteArray)), (0), (by first | rfl | (simp; done) | (simp [*]; done)), H', ⟨Nat.le_refl _⟩, ⟨by first | exact Kd.R_nil _ _ _ _ _ | exact Kd.N_nil _ _ _ _ _ | exact Kd.V_nil _ _ _ _ _ | exact Kd.Q_nil _ _ _ _ _ | exact Kd.S_nil _ _ _ _ _⟩, ⟨by repeat (first | (with_reducible first | exact HB.out | apply below_alloc | apply pw_below_drewN | apply below_drew1) | exact HB.out)⟩⟩
 case round =>
  clear H'
  try clear c1
  try clear p2
  obtain ⟨x5_1, x10_1, rfl, HA, HK1, HO_5, HB⟩ := hrel
  cases gk with
  | zero => exact absurd HA.out (by simp [fold_Minus.l0])
  | succ k1 =>
   have H := HA.out
   clear HA
   simp only [fold_Minus.l0] at H
   by_cases c3 : x10_1 < (l0.length : Int)
   ·rw [if_pos c3] at H
    have c3b0 : decide (x10_1 < (l0.length : Int)) = true := decide_eq_true c3
    clear c3
    by_cases c4 : 0 ≤ x10_1
    ·rw [if_pos c4] at H
     have c4b0 : decide (0 ≤ x10_1) = true := decide_eq_true c4
     clear c4
     by_cases c5 : x10_1 < (l0.length : Int)
     ·rw [if_pos c5] at H
      have c5b0 : decide (x10_1 < (l0.length : Int)) = true := decide_eq_true c5
      clear c5
      replace H := Option.bind_eq_some_iff.mp H
      obtain ⟨t126, A60, H⟩ := H
      have A6 := Aside0.mk A60
      clear A60
      by_cases c7 : t126 = true
      ·subst c7
       replace H : (fold_Minus.l0 k1 l1 x5_1 l0 (l0.length : Int) (wrap64 (x10_1 + 1))) = some r := by rw [if_pos rfl] at H; exact H
       have H' := Aside0.mk H
       clear H
       have p125 : 0 ≤ (x10_1 : Int) := of_decide_eq_true (by first | (with_reducible assumption) | assumption)
       have q125 : x10_1 < (l0.length : Int) := of_decide_eq_true (by first | (with_reducible assumption) | assumption)
       obtain ⟨ad125, e125, hx125_0⟩ := Kd.at_string HR0.out x10_1 p125 q125
       cases e125
       replace hx125_0 := (HB.out.cell (World.block_lt_of_cell? w _ hx125_0)).trans hx125_0
       replace p125 := eq_true p125
       replace q125 := eq_true q125
       go_wp2_with (first | ((with_reducible refine gate_callee (f := 31) rfl ?_); refine goesL_ (some 16) rfl rfl Try.func31 (by kernel_rfl) rfl #[.slice A1 l1.length c1, .string (rdOf ByteArray.empty l0 x10_1)] rfl (by (try simp only [List.map_toArray, List.map_cons, List.map_nil]); first | done | rfl | (simp only [List.length_drop, List.length_take]; rfl)) ?_; (with_reducible refine (slices_Contains_string_string.calls k1 _ _ l1 (rdOf ByteArray.empty l0 x10_1) true _ ?side1 ?side2 A6.out).mono ?_); (case side1 => repeat (first | exact (Kd.C_below HR1.out HB.out) | (with_reducible refine Kd.C_alloc ?_ _) | (with_reducible refine Kd.C_drewN ?_ _) | (with_reducible refine Kd.C_drew ?_))); (case side2 => exact HC1.out); rintro e w' ⟨rfl, ⟨nd, rfl⟩⟩; refine ⟨_, rfl, ?_⟩))
       go_roundg k1
       case measure => have := HK1.out; omega
       case rel => exact ⟨(x5_1), (wrap64 (x10_1 + 1)), (by first | rfl | (simp; done) | (simp [*]; done)), H', ⟨by have := HK1.out; omega⟩, ⟨by exact HO_5.out⟩, ⟨by repeat (first | (with_reducible first | exact HB.out | apply below_alloc | apply pw_below_drewN | apply below_drew1) | exact HB.out)⟩⟩
      ·replace c7 := Bool.eq_false_iff.mpr c7
       subst c7
       replace H : (if x5_1.length < 8796093022208 then (fold_Minus.l0 k1 l1 (x5_1 ++ [rdOf ByteArray.empty l0 x10_1]) l0 (l0.length : Int) (wrap64 (x10_1 + 1))) else (none)) = some r := by rw [if_neg (show ¬ (false = true) by decide)] at H; exact H
       by_cases c8 : x5_1.length < 8796093022208
       ·rw [if_pos c8] at H
        have LMc8 := Aside0.mk c8
        clear c8
        obtain ⟨y127, hy127⟩ : ∃ y_ : List ByteArray, y_ = (x5_1 ++ [rdOf ByteArray.empty l0 x10_1]) := ⟨_, rfl⟩
        replace H : (fold_Minus.l0 k1 l1 y127 l0 (l0.length : Int) (wrap64 (x10_1 + 1))) = some r := by first | (rw [hy127]; with_reducible exact H) | (have H2_ := (Option.bind_some _ _).symm.trans H; rw [hy127]; with_reducible exact H2_) | (have H2_ := (Option.bind_some _ _).symm.trans H; with_reducible exact H2_) | with_reducible exact H | (rw [hy127]; exact H) | exact H
        have Ny127 := Aside0.mk hy127
        clear hy127
        have H' := Aside0.mk H
        clear H
        have p125 : 0 ≤ (x10_1 : Int) := of_decide_eq_true (by first | (with_reducible assumption) | assumption)
        have q125 : x10_1 < (l0.length : Int) := of_decide_eq_true (by first | (with_reducible assumption) | assumption)
        obtain ⟨ad125, e125, hx125_0⟩ := Kd.at_string HR0.out x10_1 p125 q125
        cases e125
        replace hx125_0 := (HB.out.cell (World.block_lt_of_cell? w _ hx125_0)).trans hx125_0
        replace p125 := eq_true p125
        replace q125 := eq_true q125
        go_wp2_with (first | ((with_reducible refine gate_callee (f := 31) rfl ?_); refine goesL_ (some 16) rfl rfl Try.func31 (by kernel_rfl) rfl #[.slice A1 l1.length c1, .string (rdOf ByteArray.empty l0 x10_1)] rfl (by (try simp only [List.map_toArray, List.map_cons, List.map_nil]); first | done | rfl | (simp only [List.length_drop, List.length_take]; rfl)) ?_; (with_reducible refine (slices_Contains_string_string.calls k1 _ _ l1 (rdOf ByteArray.empty l0 x10_1) false _ ?side1 ?side2 A6.out).mono ?_); (case side1 => repeat (first | exact (Kd.C_below HR1.out HB.out) | (with_reducible refine Kd.C_alloc ?_ _) | (with_reducible refine Kd.C_drewN ?_ _) | (with_reducible refine Kd.C_drew ?_))); (case side2 => exact HC1.out); rintro e w' ⟨rfl, ⟨nd, rfl⟩⟩; refine ⟨_, rfl, ?_⟩) | ((with_reducible refine gate_builtin (b := .append) (xs := #[.tmp 18, .tmp 20]) rfl ?_); at_builtin; refine Kd.R_append Kd.string (w0 := w) w.heap.size rfl (.tmp 18) (.tmp 20) 22 9 (.string ⟨#[]⟩) 16 rfl Try.underlying22 info9 rfl (by decide) (by omega) u5 x5_1 (rdOf ByteArray.empty l0 x10_1) [.string (rdOf ByteArray.empty l0 x10_1)] (fun _ => True) (fun _ => False) rfl rfl ?aP (fun _ hk => hk.elim) ?aF ?aO ?aB ?aS ?aL ?_; (case aP => exact rfl); (case aB => exact (by repeat (first | (with_reducible first | exact HB.out | apply below_alloc | apply pw_below_drewN | apply below_drew1) | exact HB.out))); (case aF => exact (fun _ _ => trivial)); (case aO => exact (by exact HO_5.out)); (case aS => exact (below_size (by repeat (first | (with_reducible first | exact HB.out | apply below_alloc | apply pw_below_drewN | apply below_drew1) | exact HB.out)))); (case aL => have := LMc8.out; omega); intro v128 w9 ho hb hg hat; rw [← Ny127.out] at ho; have n0_ := Aside0.mk (hb); have n1_ := Aside0.mk (ho); clear HB; clear HO_5; have HB := n0_; have HO129 := n1_; clear n0_ n1_; clear ho hb hg hat))
        go_roundg k1
        case measure => have := HK1.out; omega
        case rel => exact ⟨(y127), (wrap64 (x10_1 + 1)), (by first | rfl | (simp; done) | (simp [*]; done)), H', ⟨by have := HK1.out; omega⟩, ⟨by exact HO129.out⟩, ⟨by repeat (first | (with_reducible first | exact HB.out | apply below_alloc | apply pw_below_drewN | apply below_drew1) | exact HB.out)⟩⟩
       ·rw [if_neg c8] at H
        exact absurd H (by simp)
     ·rw [if_neg c5] at H
      exact absurd H (by simp)
    ·rw [if_neg c4] at H
     exact absurd H (by simp)
   ·rw [if_neg c3] at H
    have c3b0 : decide (x10_1 < (l0.length : Int)) = false := decide_eq_false c3
    clear c3
    obtain rfl := Option.some.inj H
    go_wp2
    go_ret
    exact ⟨_, by first | rfl | (simp [errW_none, errW_some] <;> rfl) | (simp [*, errW_none, errW_some] <;> rfl), by exact HO_5.out, by repeat (first | (with_reducible first | exact HB.out | apply below_alloc | apply pw_below_drewN | apply below_drew1) | exact HB.out)⟩

def config_unsafe.f  : Option (List ByteArray) := some (([(⟨#[98, 97, 115, 101]⟩ : ByteArray), (⟨#[101, 109, 98, 101, 100]⟩ : ByteArray), (⟨#[102, 114, 97, 109, 101]⟩ : ByteArray), (⟨#[105, 102, 114, 97, 109, 101]⟩ : ByteArray), (⟨#[108, 105, 110, 107]⟩ : ByteArray), (⟨#[109, 101, 116, 97]⟩ : ByteArray), (⟨#[111, 98, 106, 101, 99, 116]⟩ : ByteArray), (⟨#[115, 99, 114, 105, 112, 116]⟩ : ByteArray)] : List ByteArray))
set_option maxHeartbeats 8000000 in
set_option maxRecDepth 100000 in
theorem config_unsafe.calls  (r : List ByteArray) (w : World) (h : config_unsafe.f  = some r) :
  Calls Try.prog 39 #[] w fun e w' => ∃ v0_ : Value, e = .returned (v0_) ∧ Kd.R Kd.string 9 w' w.heap.size (fun _ => True) v0_ r ∧ Below w.heap.size w w' := by
 have HB := Aside0.mk (Below.refl w.heap.size w)
 have H : (some (([(⟨#[98, 97, 115, 101]⟩ : ByteArray), (⟨#[101, 109, 98, 101, 100]⟩ : ByteArray), (⟨#[102, 114, 97, 109, 101]⟩ : ByteArray), (⟨#[105, 102, 114, 97, 109, 101]⟩ : ByteArray), (⟨#[108, 105, 110, 107]⟩ : ByteArray), (⟨#[109, 101, 116, 97]⟩ : ByteArray), (⟨#[111, 98, 106, 101, 99, 116]⟩ : ByteArray), (⟨#[115, 99, 114, 105, 112, 116]⟩ : ByteArray)] : List ByteArray))) = some r := h
 clear h
 obtain ⟨y130, hy130⟩ : ∃ y_ : List ByteArray, y_ = (([(⟨#[98, 97, 115, 101]⟩ : ByteArray), (⟨#[101, 109, 98, 101, 100]⟩ : ByteArray), (⟨#[102, 114, 97, 109, 101]⟩ : ByteArray), (⟨#[105, 102, 114, 97, 109, 101]⟩ : ByteArray), (⟨#[108, 105, 110, 107]⟩ : ByteArray), (⟨#[109, 101, 116, 97]⟩ : ByteArray), (⟨#[111, 98, 106, 101, 99, 116]⟩ : ByteArray), (⟨#[115, 99, 114, 105, 112, 116]⟩ : ByteArray)] : List ByteArray)) := ⟨_, rfl⟩
 replace H : (some y130) = some r := by first | (rw [hy130]; with_reducible exact H) | (have H2_ := (Option.bind_some _ _).symm.trans H; rw [hy130]; with_reducible exact H2_) | (have H2_ := (Option.bind_some _ _).symm.trans H; with_reducible exact H2_) | with_reducible exact H | (rw [hy130]; exact H) | exact H
 have Ny130 := Aside0.mk hy130
 clear hy130
 obtain rfl := Option.some.inj H
 go_enter Try.func39, Try.ntmps39
 go_wp2_with (first | ((with_reducible refine gate_dst (N := 1) rfl ?_); refine Kd.R_lit Kd.string _ 9 ?hg (N := 1) ?hd (xs := ([(⟨#[98, 97, 115, 101]⟩ : ByteArray), (⟨#[101, 109, 98, 101, 100]⟩ : ByteArray), (⟨#[102, 114, 97, 109, 101]⟩ : ByteArray), (⟨#[105, 102, 114, 97, 109, 101]⟩ : ByteArray), (⟨#[108, 105, 110, 107]⟩ : ByteArray), (⟨#[109, 101, 116, 97]⟩ : ByteArray), (⟨#[111, 98, 106, 101, 99, 116]⟩ : ByteArray), (⟨#[115, 99, 114, 105, 112, 116]⟩ : ByteArray)] : List ByteArray)) (inner := [.string (⟨#[98, 97, 115, 101]⟩ : ByteArray), .string (⟨#[101, 109, 98, 101, 100]⟩ : ByteArray), .string (⟨#[102, 114, 97, 109, 101]⟩ : ByteArray), .string (⟨#[105, 102, 114, 97, 109, 101]⟩ : ByteArray), .string (⟨#[108, 105, 110, 107]⟩ : ByteArray), .string (⟨#[109, 101, 116, 97]⟩ : ByteArray), .string (⟨#[111, 98, 106, 101, 99, 116]⟩ : ByteArray), .string (⟨#[115, 99, 114, 105, 112, 116]⟩ : ByteArray)]) (ok := fun _ => True) (okp := fun _ => True) ?hr ?hp (fun _ hk => hk) trivial (Below.refl _ _) (Nat.le_refl _) (by simp) ?_; (case hd => rfl); (case hg => rfl); (case hr => first | (go_simp; done) | (go_simp; rfl)); (case hp => exact (Reps.one (show Kd.M Kd.string _ _ _ (⟨#[98, 97, 115, 101]⟩ : ByteArray) [.string (⟨#[98, 97, 115, 101]⟩ : ByteArray)] from rfl) (Reps.one (show Kd.M Kd.string _ _ _ (⟨#[101, 109, 98, 101, 100]⟩ : ByteArray) [.string (⟨#[101, 109, 98, 101, 100]⟩ : ByteArray)] from rfl) (Reps.one (show Kd.M Kd.string _ _ _ (⟨#[102, 114, 97, 109, 101]⟩ : ByteArray) [.string (⟨#[102, 114, 97, 109, 101]⟩ : ByteArray)] from rfl) (Reps.one (show Kd.M Kd.string _ _ _ (⟨#[105, 102, 114, 97, 109, 101]⟩ : ByteArray) [.string (⟨#[105, 102, 114, 97, 109, 101]⟩ : ByteArray)] from rfl) (Reps.one (show Kd.M Kd.string _ _ _ (⟨#[108, 105, 110, 107]⟩ : ByteArray) [.string (⟨#[108, 105, 110, 107]⟩ : ByteArray)] from rfl) (Reps.one (show Kd.M Kd.string _ _ _ (⟨#[109, 101, 116, 97]⟩ : ByteArray) [.string (⟨#[109, 101, 116, 97]⟩ : ByteArray)] from rfl) (Reps.one (show Kd.M Kd.string _ _ _ (⟨#[111, 98, 106, 101, 99, 116]⟩ : ByteArray) [.string (⟨#[111, 98, 106, 101, 99, 116]⟩ : ByteArray)] from rfl) (Reps.one (show Kd.M Kd.string _ _ _ (⟨#[115, 99, 114, 105, 112, 116]⟩ : ByteArray) [.string (⟨#[115, 99, 114, 105, 112, 116]⟩ : ByteArray)] from rfl) (Reps.none _ _)))))))))); intro v131 w1 ho2 hb hg_ hnew_; clear hg_ hnew_; (first | rw [← Ny130.out] at ho2 | (simp only [Int.reduceToNat] at ho2; rw [← Ny130.out] at ho2)); have n0_ := Aside0.mk (Kd.R_lower ho2 (below_size (by repeat (first | (with_reducible first | exact HB.out | apply below_alloc | apply pw_below_drewN | apply below_drew1) | exact HB.out)))); have n1_ := Aside0.mk (below_step (by repeat (first | (with_reducible first | exact HB.out | apply below_alloc | apply pw_below_drewN | apply below_drew1) | exact HB.out)) hb); clear HB; have HO132 := n0_; have HB := n1_; clear n0_ n1_; clear hb ho2))
 go_ret
 exact ⟨_, by first | rfl | (simp [errW_none, errW_some] <;> rfl) | (simp [*, errW_none, errW_some] <;> rfl), by exact HO132.out, by repeat (first | (with_reducible first | exact HB.out | apply below_alloc | apply pw_below_drewN | apply below_drew1) | exact HB.out)⟩

def boltingref12_Plain.f  : Option (Bool × Bool × List ByteArray × List ByteArray × List ByteArray × (List (S35)) × Bool × Bool) := some (true, true, (([(⟨#[97]⟩ : ByteArray), (⟨#[97, 98, 98, 114]⟩ : ByteArray), (⟨#[97, 114, 116, 105, 99, 108, 101]⟩ : ByteArray), (⟨#[98]⟩ : ByteArray), (⟨#[98, 108, 111, 99, 107, 113, 117, 111, 116, 101]⟩ : ByteArray), (⟨#[98, 114]⟩ : ByteArray), (⟨#[99, 111, 100, 101]⟩ : ByteArray), (⟨#[100, 100]⟩ : ByteArray), (⟨#[100, 105, 118]⟩ : ByteArray), (⟨#[100, 108]⟩ : ByteArray), (⟨#[100, 116]⟩ : ByteArray), (⟨#[101, 109]⟩ : ByteArray), (⟨#[104, 49]⟩ : ByteArray), (⟨#[104, 50]⟩ : ByteArray), (⟨#[104, 51]⟩ : ByteArray), (⟨#[104, 52]⟩ : ByteArray), (⟨#[104, 53]⟩ : ByteArray), (⟨#[104, 54]⟩ : ByteArray), (⟨#[104, 114]⟩ : ByteArray), (⟨#[105]⟩ : ByteArray), (⟨#[105, 109, 103]⟩ : ByteArray), (⟨#[108, 105]⟩ : ByteArray), (⟨#[111, 108]⟩ : ByteArray), (⟨#[112]⟩ : ByteArray), (⟨#[112, 114, 101]⟩ : ByteArray), (⟨#[115, 101, 99, 116, 105, 111, 110]⟩ : ByteArray), (⟨#[115, 112, 97, 110]⟩ : ByteArray), (⟨#[115, 116, 114, 111, 110, 103]⟩ : ByteArray), (⟨#[116, 97, 98, 108, 101]⟩ : ByteArray), (⟨#[116, 98, 111, 100, 121]⟩ : ByteArray), (⟨#[116, 100]⟩ : ByteArray), (⟨#[116, 104]⟩ : ByteArray), (⟨#[116, 104, 101, 97, 100]⟩ : ByteArray), (⟨#[116, 114]⟩ : ByteArray), (⟨#[117]⟩ : ByteArray), (⟨#[117, 108]⟩ : ByteArray)] : List ByteArray)), ([] : List ByteArray), (([(⟨#[97, 108, 116]⟩ : ByteArray), (⟨#[99, 108, 97, 115, 115]⟩ : ByteArray), (⟨#[100, 105, 114]⟩ : ByteArray), (⟨#[104, 101, 105, 103, 104, 116]⟩ : ByteArray), (⟨#[105, 100]⟩ : ByteArray), (⟨#[108, 97, 110, 103]⟩ : ByteArray), (⟨#[116, 105, 116, 108, 101]⟩ : ByteArray), (⟨#[119, 105, 100, 116, 104]⟩ : ByteArray)] : List ByteArray)), (([(⟨(⟨#[97]⟩ : ByteArray), (([(⟨#[104, 114, 101, 102]⟩ : ByteArray)] : List ByteArray))⟩ : S35), (⟨(⟨#[105, 109, 103]⟩ : ByteArray), (([(⟨#[115, 114, 99]⟩ : ByteArray)] : List ByteArray))⟩ : S35), (⟨(⟨#[116, 100]⟩ : ByteArray), (([(⟨#[99, 111, 108, 115, 112, 97, 110]⟩ : ByteArray), (⟨#[114, 111, 119, 115, 112, 97, 110]⟩ : ByteArray)] : List ByteArray))⟩ : S35)] : List (S35))), false, false)
set_option maxHeartbeats 8000000 in
set_option maxRecDepth 100000 in
theorem boltingref12_Plain.calls  (r1 : Bool) (r2 : Bool) (r3 : List ByteArray) (r4 : List ByteArray) (r5 : List ByteArray) (r6 : List (S35)) (r7 : Bool) (r8 : Bool) (w : World) (h : boltingref12_Plain.f  = some (r1, r2, r3, r4, r5, r6, r7, r8)) :
  Calls Try.prog 30 #[] w fun e w' => ∃ v2_ v3_ v4_ v5_ : Value, e = .returned (.agg #[.bool r1, .bool r2, v2_, v3_, v4_, v5_, .bool r7, .bool r8]) ∧ Kd.R Kd.string 9 w' w.heap.size (fun k_ => (w.heap.size ≤ k_) ∧ some k_ ≠ (v3_ : Value).ownBlock ∧ some k_ ≠ (v4_ : Value).ownBlock) v2_ r3 ∧ Kd.R Kd.string 9 w' w.heap.size (fun k_ => (w.heap.size ≤ k_) ∧ some k_ ≠ (v2_ : Value).ownBlock ∧ some k_ ≠ (v4_ : Value).ownBlock) v3_ r4 ∧ Kd.R Kd.string 9 w' w.heap.size (fun k_ => (w.heap.size ≤ k_) ∧ some k_ ≠ (v2_ : Value).ownBlock ∧ some k_ ≠ (v3_ : Value).ownBlock) v4_ r5 ∧ Kd.N k35 35 w' w.heap.size (fun k_ => (w.heap.size ≤ k_) ∧ some k_ ≠ (v2_ : Value).ownBlock ∧ some k_ ≠ (v3_ : Value).ownBlock ∧ some k_ ≠ (v4_ : Value).ownBlock) v5_ r6 ∧ Below w.heap.size w w' := by
 have hu25 := Try.underlying25
 have hu35 := Try.underlying35
 have HB := Aside0.mk (Below.refl w.heap.size w)
 have H : (some (true, true, (([(⟨#[97]⟩ : ByteArray), (⟨#[97, 98, 98, 114]⟩ : ByteArray), (⟨#[97, 114, 116, 105, 99, 108, 101]⟩ : ByteArray), (⟨#[98]⟩ : ByteArray), (⟨#[98, 108, 111, 99, 107, 113, 117, 111, 116, 101]⟩ : ByteArray), (⟨#[98, 114]⟩ : ByteArray), (⟨#[99, 111, 100, 101]⟩ : ByteArray), (⟨#[100, 100]⟩ : ByteArray), (⟨#[100, 105, 118]⟩ : ByteArray), (⟨#[100, 108]⟩ : ByteArray), (⟨#[100, 116]⟩ : ByteArray), (⟨#[101, 109]⟩ : ByteArray), (⟨#[104, 49]⟩ : ByteArray), (⟨#[104, 50]⟩ : ByteArray), (⟨#[104, 51]⟩ : ByteArray), (⟨#[104, 52]⟩ : ByteArray), (⟨#[104, 53]⟩ : ByteArray), (⟨#[104, 54]⟩ : ByteArray), (⟨#[104, 114]⟩ : ByteArray), (⟨#[105]⟩ : ByteArray), (⟨#[105, 109, 103]⟩ : ByteArray), (⟨#[108, 105]⟩ : ByteArray), (⟨#[111, 108]⟩ : ByteArray), (⟨#[112]⟩ : ByteArray), (⟨#[112, 114, 101]⟩ : ByteArray), (⟨#[115, 101, 99, 116, 105, 111, 110]⟩ : ByteArray), (⟨#[115, 112, 97, 110]⟩ : ByteArray), (⟨#[115, 116, 114, 111, 110, 103]⟩ : ByteArray), (⟨#[116, 97, 98, 108, 101]⟩ : ByteArray), (⟨#[116, 98, 111, 100, 121]⟩ : ByteArray), (⟨#[116, 100]⟩ : ByteArray), (⟨#[116, 104]⟩ : ByteArray), (⟨#[116, 104, 101, 97, 100]⟩ : ByteArray), (⟨#[116, 114]⟩ : ByteArray), (⟨#[117]⟩ : ByteArray), (⟨#[117, 108]⟩ : ByteArray)] : List ByteArray)), ([] : List ByteArray), (([(⟨#[97, 108, 116]⟩ : ByteArray), (⟨#[99, 108, 97, 115, 115]⟩ : ByteArray), (⟨#[100, 105, 114]⟩ : ByteArray), (⟨#[104, 101, 105, 103, 104, 116]⟩ : ByteArray), (⟨#[105, 100]⟩ : ByteArray), (⟨#[108, 97, 110, 103]⟩ : ByteArray), (⟨#[116, 105, 116, 108, 101]⟩ : ByteArray), (⟨#[119, 105, 100, 116, 104]⟩ : ByteArray)] : List ByteArray)), (([(⟨(⟨#[97]⟩ : ByteArray), (([(⟨#[104, 114, 101, 102]⟩ : ByteArray)] : List ByteArray))⟩ : S35), (⟨(⟨#[105, 109, 103]⟩ : ByteArray), (([(⟨#[115, 114, 99]⟩ : ByteArray)] : List ByteArray))⟩ : S35), (⟨(⟨#[116, 100]⟩ : ByteArray), (([(⟨#[99, 111, 108, 115, 112, 97, 110]⟩ : ByteArray), (⟨#[114, 111, 119, 115, 112, 97, 110]⟩ : ByteArray)] : List ByteArray))⟩ : S35)] : List (S35))), false, false)) = some (r1, r2, r3, r4, r5, r6, r7, r8) := h
 clear h
 obtain ⟨y135, hy135⟩ : ∃ y_ : List ByteArray, y_ = (([(⟨#[97]⟩ : ByteArray), (⟨#[97, 98, 98, 114]⟩ : ByteArray), (⟨#[97, 114, 116, 105, 99, 108, 101]⟩ : ByteArray), (⟨#[98]⟩ : ByteArray), (⟨#[98, 108, 111, 99, 107, 113, 117, 111, 116, 101]⟩ : ByteArray), (⟨#[98, 114]⟩ : ByteArray), (⟨#[99, 111, 100, 101]⟩ : ByteArray), (⟨#[100, 100]⟩ : ByteArray), (⟨#[100, 105, 118]⟩ : ByteArray), (⟨#[100, 108]⟩ : ByteArray), (⟨#[100, 116]⟩ : ByteArray), (⟨#[101, 109]⟩ : ByteArray), (⟨#[104, 49]⟩ : ByteArray), (⟨#[104, 50]⟩ : ByteArray), (⟨#[104, 51]⟩ : ByteArray), (⟨#[104, 52]⟩ : ByteArray), (⟨#[104, 53]⟩ : ByteArray), (⟨#[104, 54]⟩ : ByteArray), (⟨#[104, 114]⟩ : ByteArray), (⟨#[105]⟩ : ByteArray), (⟨#[105, 109, 103]⟩ : ByteArray), (⟨#[108, 105]⟩ : ByteArray), (⟨#[111, 108]⟩ : ByteArray), (⟨#[112]⟩ : ByteArray), (⟨#[112, 114, 101]⟩ : ByteArray), (⟨#[115, 101, 99, 116, 105, 111, 110]⟩ : ByteArray), (⟨#[115, 112, 97, 110]⟩ : ByteArray), (⟨#[115, 116, 114, 111, 110, 103]⟩ : ByteArray), (⟨#[116, 97, 98, 108, 101]⟩ : ByteArray), (⟨#[116, 98, 111, 100, 121]⟩ : ByteArray), (⟨#[116, 100]⟩ : ByteArray), (⟨#[116, 104]⟩ : ByteArray), (⟨#[116, 104, 101, 97, 100]⟩ : ByteArray), (⟨#[116, 114]⟩ : ByteArray), (⟨#[117]⟩ : ByteArray), (⟨#[117, 108]⟩ : ByteArray)] : List ByteArray)) := ⟨_, rfl⟩
 replace H : (some (true, true, y135, ([] : List ByteArray), (([(⟨#[97, 108, 116]⟩ : ByteArray), (⟨#[99, 108, 97, 115, 115]⟩ : ByteArray), (⟨#[100, 105, 114]⟩ : ByteArray), (⟨#[104, 101, 105, 103, 104, 116]⟩ : ByteArray), (⟨#[105, 100]⟩ : ByteArray), (⟨#[108, 97, 110, 103]⟩ : ByteArray), (⟨#[116, 105, 116, 108, 101]⟩ : ByteArray), (⟨#[119, 105, 100, 116, 104]⟩ : ByteArray)] : List ByteArray)), (([(⟨(⟨#[97]⟩ : ByteArray), (([(⟨#[104, 114, 101, 102]⟩ : ByteArray)] : List ByteArray))⟩ : S35), (⟨(⟨#[105, 109, 103]⟩ : ByteArray), (([(⟨#[115, 114, 99]⟩ : ByteArray)] : List ByteArray))⟩ : S35), (⟨(⟨#[116, 100]⟩ : ByteArray), (([(⟨#[99, 111, 108, 115, 112, 97, 110]⟩ : ByteArray), (⟨#[114, 111, 119, 115, 112, 97, 110]⟩ : ByteArray)] : List ByteArray))⟩ : S35)] : List (S35))), false, false)) = some (r1, r2, r3, r4, r5, r6, r7, r8) := by first | (rw [hy135]; with_reducible exact H) | (have H2_ := (Option.bind_some _ _).symm.trans H; rw [hy135]; with_reducible exact H2_) | (have H2_ := (Option.bind_some _ _).symm.trans H; with_reducible exact H2_) | with_reducible exact H | (rw [hy135]; exact H) | exact H
 have Ny135 := Aside0.mk hy135
 clear hy135
 obtain ⟨y138, hy138⟩ : ∃ y_ : List ByteArray, y_ = (([(⟨#[97, 108, 116]⟩ : ByteArray), (⟨#[99, 108, 97, 115, 115]⟩ : ByteArray), (⟨#[100, 105, 114]⟩ : ByteArray), (⟨#[104, 101, 105, 103, 104, 116]⟩ : ByteArray), (⟨#[105, 100]⟩ : ByteArray), (⟨#[108, 97, 110, 103]⟩ : ByteArray), (⟨#[116, 105, 116, 108, 101]⟩ : ByteArray), (⟨#[119, 105, 100, 116, 104]⟩ : ByteArray)] : List ByteArray)) := ⟨_, rfl⟩
 replace H : (some (true, true, y135, ([] : List ByteArray), y138, (([(⟨(⟨#[97]⟩ : ByteArray), (([(⟨#[104, 114, 101, 102]⟩ : ByteArray)] : List ByteArray))⟩ : S35), (⟨(⟨#[105, 109, 103]⟩ : ByteArray), (([(⟨#[115, 114, 99]⟩ : ByteArray)] : List ByteArray))⟩ : S35), (⟨(⟨#[116, 100]⟩ : ByteArray), (([(⟨#[99, 111, 108, 115, 112, 97, 110]⟩ : ByteArray), (⟨#[114, 111, 119, 115, 112, 97, 110]⟩ : ByteArray)] : List ByteArray))⟩ : S35)] : List (S35))), false, false)) = some (r1, r2, r3, r4, r5, r6, r7, r8) := by first | (rw [hy138]; with_reducible exact H) | (have H2_ := (Option.bind_some _ _).symm.trans H; rw [hy138]; with_reducible exact H2_) | (have H2_ := (Option.bind_some _ _).symm.trans H; with_reducible exact H2_) | with_reducible exact H | (rw [hy138]; exact H) | exact H
 have Ny138 := Aside0.mk hy138
 clear hy138
 obtain ⟨y141, hy141⟩ : ∃ y_ : List ByteArray, y_ = (([(⟨#[104, 114, 101, 102]⟩ : ByteArray)] : List ByteArray)) := ⟨_, rfl⟩
 replace H : (some (true, true, y135, ([] : List ByteArray), y138, (([(⟨(⟨#[97]⟩ : ByteArray), y141⟩ : S35), (⟨(⟨#[105, 109, 103]⟩ : ByteArray), (([(⟨#[115, 114, 99]⟩ : ByteArray)] : List ByteArray))⟩ : S35), (⟨(⟨#[116, 100]⟩ : ByteArray), (([(⟨#[99, 111, 108, 115, 112, 97, 110]⟩ : ByteArray), (⟨#[114, 111, 119, 115, 112, 97, 110]⟩ : ByteArray)] : List ByteArray))⟩ : S35)] : List (S35))), false, false)) = some (r1, r2, r3, r4, r5, r6, r7, r8) := by first | (rw [hy141]; with_reducible exact H) | (have H2_ := (Option.bind_some _ _).symm.trans H; rw [hy141]; with_reducible exact H2_) | (have H2_ := (Option.bind_some _ _).symm.trans H; with_reducible exact H2_) | with_reducible exact H | (rw [hy141]; exact H) | exact H
 have Ny141 := Aside0.mk hy141
 clear hy141
 obtain ⟨y144, hy144⟩ : ∃ y_ : List ByteArray, y_ = (([(⟨#[115, 114, 99]⟩ : ByteArray)] : List ByteArray)) := ⟨_, rfl⟩
 replace H : (some (true, true, y135, ([] : List ByteArray), y138, (([(⟨(⟨#[97]⟩ : ByteArray), y141⟩ : S35), (⟨(⟨#[105, 109, 103]⟩ : ByteArray), y144⟩ : S35), (⟨(⟨#[116, 100]⟩ : ByteArray), (([(⟨#[99, 111, 108, 115, 112, 97, 110]⟩ : ByteArray), (⟨#[114, 111, 119, 115, 112, 97, 110]⟩ : ByteArray)] : List ByteArray))⟩ : S35)] : List (S35))), false, false)) = some (r1, r2, r3, r4, r5, r6, r7, r8) := by first | (rw [hy144]; with_reducible exact H) | (have H2_ := (Option.bind_some _ _).symm.trans H; rw [hy144]; with_reducible exact H2_) | (have H2_ := (Option.bind_some _ _).symm.trans H; with_reducible exact H2_) | with_reducible exact H | (rw [hy144]; exact H) | exact H
 have Ny144 := Aside0.mk hy144
 clear hy144
 obtain ⟨y147, hy147⟩ : ∃ y_ : List ByteArray, y_ = (([(⟨#[99, 111, 108, 115, 112, 97, 110]⟩ : ByteArray), (⟨#[114, 111, 119, 115, 112, 97, 110]⟩ : ByteArray)] : List ByteArray)) := ⟨_, rfl⟩
 replace H : (some (true, true, y135, ([] : List ByteArray), y138, (([(⟨(⟨#[97]⟩ : ByteArray), y141⟩ : S35), (⟨(⟨#[105, 109, 103]⟩ : ByteArray), y144⟩ : S35), (⟨(⟨#[116, 100]⟩ : ByteArray), y147⟩ : S35)] : List (S35))), false, false)) = some (r1, r2, r3, r4, r5, r6, r7, r8) := by first | (rw [hy147]; with_reducible exact H) | (have H2_ := (Option.bind_some _ _).symm.trans H; rw [hy147]; with_reducible exact H2_) | (have H2_ := (Option.bind_some _ _).symm.trans H; with_reducible exact H2_) | with_reducible exact H | (rw [hy147]; exact H) | exact H
 have Ny147 := Aside0.mk hy147
 clear hy147
 obtain ⟨y150, hy150⟩ : ∃ y_ : List (S35), y_ = (([(⟨(⟨#[97]⟩ : ByteArray), y141⟩ : S35), (⟨(⟨#[105, 109, 103]⟩ : ByteArray), y144⟩ : S35), (⟨(⟨#[116, 100]⟩ : ByteArray), y147⟩ : S35)] : List (S35))) := ⟨_, rfl⟩
 replace H : (some (true, true, y135, ([] : List ByteArray), y138, y150, false, false)) = some (r1, r2, r3, r4, r5, r6, r7, r8) := by first | (rw [hy150]; with_reducible exact H) | (have H2_ := (Option.bind_some _ _).symm.trans H; rw [hy150]; with_reducible exact H2_) | (have H2_ := (Option.bind_some _ _).symm.trans H; with_reducible exact H2_) | with_reducible exact H | (rw [hy150]; exact H) | exact H
 have Ny150 := Aside0.mk hy150
 clear hy150
 simp only [Option.some.injEq, Prod.mk.injEq] at H
 obtain ⟨rfl, rfl, rfl, rfl, rfl, rfl, rfl, rfl⟩ := H
 go_enter Try.func30, Try.ntmps30
 go_wp2_with (first | ((with_reducible refine gate_dst (N := 0) rfl ?_); refine box_event ?hg (N := 0) ?hd (cs := #[.bool false, .bool false, .slice none 0 0, .slice none 0 0, .slice none 0 0, .slice none 0 0, .bool false, .bool false]) (t := 25) ?hr ?_; (case hd => rfl); (case hg => rfl); (case hr => first | (go_simp; done) | (go_simp; rfl)); intro gb133 hg w1 hbox hb; have n0_ := Aside0.mk (below_step (by repeat (first | (with_reducible first | exact HB.out | apply below_alloc | apply pw_below_drewN | apply below_drew1) | exact HB.out)) hb); have n1_ := Aside0.mk (hbox); have n2_ := Aside0.mk ((by rw [hg]; exact (below_size (by repeat (first | (with_reducible first | exact HB.out | apply below_alloc | apply pw_below_drewN | apply below_drew1) | exact HB.out))) : w.heap.size ≤ gb133)); have n3_ := Aside0.mk ((by rw [hg]; exact (below_size (by repeat (first | (with_reducible first | exact HB.out | apply below_alloc | apply pw_below_drewN | apply below_drew1) | exact HB.out))) : w.heap.size ≤ gb133)); clear HB; have HB := n0_; have BK133 := n1_; have GW133 := n2_; have GE133 := n3_; clear n0_ n1_ n2_ n3_; clear hb hbox hg) | ((with_reducible refine gate_dst (N := 1) rfl ?_); refine box_event ?hg (N := 1) ?hd (cs := #[.bool false, .bool false, .slice none 0 0, .slice none 0 0, .slice none 0 0, .slice none 0 0, .bool false, .bool false]) (t := 25) ?hr ?_; (case hd => rfl); (case hg => rfl); (case hr => first | (go_simp; done) | (go_simp; rfl)); intro gb134 hg w2 hbox hb; have n0_ := Aside0.mk (blk_below (g := gb133) (o := .cells #[.bool false, .bool false, .slice none 0 0, .slice none 0 0, .slice none 0 0, .slice none 0 0, .bool false, .bool false] 25 (0, 0)) (by exact BK133.out) hb); have n1_ := Aside0.mk (below_step (by repeat (first | (with_reducible first | exact HB.out | apply below_alloc | apply pw_below_drewN | apply below_drew1 | refine below_set ?_ GE133.out) | exact HB.out)) hb); have n2_ := Aside0.mk (hbox); have n3_ := Aside0.mk ((by rw [hg]; exact (below_size (by repeat (first | (with_reducible first | exact HB.out | apply below_alloc | apply pw_below_drewN | apply below_drew1 | refine below_set ?_ GE133.out) | exact HB.out))) : w.heap.size ≤ gb134)); have n4_ := Aside0.mk ((by rw [hg]; exact (below_size (by repeat (first | (with_reducible first | exact HB.out | apply below_alloc | apply pw_below_drewN | apply below_drew1 | refine below_set ?_ GE133.out) | exact HB.out))) : w.heap.size ≤ gb134)); have n5_ := Aside0.mk ((by rw [hg]; exact Nat.ne_of_lt (blk_lt (g := gb133) (o := .cells #[.bool false, .bool false, .slice none 0 0, .slice none 0 0, .slice none 0 0, .slice none 0 0, .bool false, .bool false] 25 (0, 0)) (by exact BK133.out)) : gb133 ≠ gb134)); have n6_ := Aside0.mk ((by rw [hg]; exact Nat.ne_of_gt (blk_lt (g := gb133) (o := .cells #[.bool false, .bool false, .slice none 0 0, .slice none 0 0, .slice none 0 0, .slice none 0 0, .bool false, .bool false] 25 (0, 0)) (by exact BK133.out)) : gb134 ≠ gb133)); clear BK133; clear HB; have BK133 := n0_; have HB := n1_; have BK134 := n2_; have GW134 := n3_; have GE134 := n4_; have NB133_134 := n5_; have NB134_133 := n6_; clear n0_ n1_ n2_ n3_ n4_ n5_ n6_; clear hb hbox hg; have hnb3 := NB134_133.out; have hnc3 := NB133_134.out; have hcz4_0 : w2.cell? ⟨gb134, 0, none⟩ = some (.bool false) := (blk_cell BK134.out 0).trans rfl; have hcz4_1 : w2.cell? ⟨gb134, 1, none⟩ = some (.bool false) := (blk_cell BK134.out 1).trans rfl; have hcz4_2 : w2.cell? ⟨gb134, 2, none⟩ = some (.slice none 0 0) := (blk_cell BK134.out 2).trans rfl; have hcz4_3 : w2.cell? ⟨gb134, 3, none⟩ = some (.slice none 0 0) := (blk_cell BK134.out 3).trans rfl; have hcz4_4 : w2.cell? ⟨gb134, 4, none⟩ = some (.slice none 0 0) := (blk_cell BK134.out 4).trans rfl; have hcz4_5 : w2.cell? ⟨gb134, 5, none⟩ = some (.slice none 0 0) := (blk_cell BK134.out 5).trans rfl; have hcz4_6 : w2.cell? ⟨gb134, 6, none⟩ = some (.bool false) := (blk_cell BK134.out 6).trans rfl; have hcz4_7 : w2.cell? ⟨gb134, 7, none⟩ = some (.bool false) := (blk_cell BK134.out 7).trans rfl; have hfz4_0 := blk_frozen BK134.out 0; have hfz4_1 := blk_frozen BK134.out 1; have hfz4_2 := blk_frozen BK134.out 2; have hfz4_3 := blk_frozen BK134.out 3; have hfz4_4 := blk_frozen BK134.out 4; have hfz4_5 := blk_frozen BK134.out 5; have hfz4_6 := blk_frozen BK134.out 6; have hfz4_7 := blk_frozen BK134.out 7) | ((with_reducible refine gate_dst (N := 3) rfl ?_); refine Kd.R_lit Kd.string _ 9 ?hg (N := 3) ?hd (xs := ([(⟨#[97]⟩ : ByteArray), (⟨#[97, 98, 98, 114]⟩ : ByteArray), (⟨#[97, 114, 116, 105, 99, 108, 101]⟩ : ByteArray), (⟨#[98]⟩ : ByteArray), (⟨#[98, 108, 111, 99, 107, 113, 117, 111, 116, 101]⟩ : ByteArray), (⟨#[98, 114]⟩ : ByteArray), (⟨#[99, 111, 100, 101]⟩ : ByteArray), (⟨#[100, 100]⟩ : ByteArray), (⟨#[100, 105, 118]⟩ : ByteArray), (⟨#[100, 108]⟩ : ByteArray), (⟨#[100, 116]⟩ : ByteArray), (⟨#[101, 109]⟩ : ByteArray), (⟨#[104, 49]⟩ : ByteArray), (⟨#[104, 50]⟩ : ByteArray), (⟨#[104, 51]⟩ : ByteArray), (⟨#[104, 52]⟩ : ByteArray), (⟨#[104, 53]⟩ : ByteArray), (⟨#[104, 54]⟩ : ByteArray), (⟨#[104, 114]⟩ : ByteArray), (⟨#[105]⟩ : ByteArray), (⟨#[105, 109, 103]⟩ : ByteArray), (⟨#[108, 105]⟩ : ByteArray), (⟨#[111, 108]⟩ : ByteArray), (⟨#[112]⟩ : ByteArray), (⟨#[112, 114, 101]⟩ : ByteArray), (⟨#[115, 101, 99, 116, 105, 111, 110]⟩ : ByteArray), (⟨#[115, 112, 97, 110]⟩ : ByteArray), (⟨#[115, 116, 114, 111, 110, 103]⟩ : ByteArray), (⟨#[116, 97, 98, 108, 101]⟩ : ByteArray), (⟨#[116, 98, 111, 100, 121]⟩ : ByteArray), (⟨#[116, 100]⟩ : ByteArray), (⟨#[116, 104]⟩ : ByteArray), (⟨#[116, 104, 101, 97, 100]⟩ : ByteArray), (⟨#[116, 114]⟩ : ByteArray), (⟨#[117]⟩ : ByteArray), (⟨#[117, 108]⟩ : ByteArray)] : List ByteArray)) (inner := [.string (⟨#[97]⟩ : ByteArray), .string (⟨#[97, 98, 98, 114]⟩ : ByteArray), .string (⟨#[97, 114, 116, 105, 99, 108, 101]⟩ : ByteArray), .string (⟨#[98]⟩ : ByteArray), .string (⟨#[98, 108, 111, 99, 107, 113, 117, 111, 116, 101]⟩ : ByteArray), .string (⟨#[98, 114]⟩ : ByteArray), .string (⟨#[99, 111, 100, 101]⟩ : ByteArray), .string (⟨#[100, 100]⟩ : ByteArray), .string (⟨#[100, 105, 118]⟩ : ByteArray), .string (⟨#[100, 108]⟩ : ByteArray), .string (⟨#[100, 116]⟩ : ByteArray), .string (⟨#[101, 109]⟩ : ByteArray), .string (⟨#[104, 49]⟩ : ByteArray), .string (⟨#[104, 50]⟩ : ByteArray), .string (⟨#[104, 51]⟩ : ByteArray), .string (⟨#[104, 52]⟩ : ByteArray), .string (⟨#[104, 53]⟩ : ByteArray), .string (⟨#[104, 54]⟩ : ByteArray), .string (⟨#[104, 114]⟩ : ByteArray), .string (⟨#[105]⟩ : ByteArray), .string (⟨#[105, 109, 103]⟩ : ByteArray), .string (⟨#[108, 105]⟩ : ByteArray), .string (⟨#[111, 108]⟩ : ByteArray), .string (⟨#[112]⟩ : ByteArray), .string (⟨#[112, 114, 101]⟩ : ByteArray), .string (⟨#[115, 101, 99, 116, 105, 111, 110]⟩ : ByteArray), .string (⟨#[115, 112, 97, 110]⟩ : ByteArray), .string (⟨#[115, 116, 114, 111, 110, 103]⟩ : ByteArray), .string (⟨#[116, 97, 98, 108, 101]⟩ : ByteArray), .string (⟨#[116, 98, 111, 100, 121]⟩ : ByteArray), .string (⟨#[116, 100]⟩ : ByteArray), .string (⟨#[116, 104]⟩ : ByteArray), .string (⟨#[116, 104, 101, 97, 100]⟩ : ByteArray), .string (⟨#[116, 114]⟩ : ByteArray), .string (⟨#[117]⟩ : ByteArray), .string (⟨#[117, 108]⟩ : ByteArray)]) (ok := fun _ => True) (okp := fun _ => True) ?hr ?hp (fun _ hk => hk) trivial (Below.refl _ _) (Nat.le_refl _) (by simp) ?_; (case hd => rfl); (case hg => rfl); (case hr => first | (go_simp; done) | (go_simp; rfl)); (case hp => exact (Reps.one (show Kd.M Kd.string _ _ _ (⟨#[97]⟩ : ByteArray) [.string (⟨#[97]⟩ : ByteArray)] from rfl) (Reps.one (show Kd.M Kd.string _ _ _ (⟨#[97, 98, 98, 114]⟩ : ByteArray) [.string (⟨#[97, 98, 98, 114]⟩ : ByteArray)] from rfl) (Reps.one (show Kd.M Kd.string _ _ _ (⟨#[97, 114, 116, 105, 99, 108, 101]⟩ : ByteArray) [.string (⟨#[97, 114, 116, 105, 99, 108, 101]⟩ : ByteArray)] from rfl) (Reps.one (show Kd.M Kd.string _ _ _ (⟨#[98]⟩ : ByteArray) [.string (⟨#[98]⟩ : ByteArray)] from rfl) (Reps.one (show Kd.M Kd.string _ _ _ (⟨#[98, 108, 111, 99, 107, 113, 117, 111, 116, 101]⟩ : ByteArray) [.string (⟨#[98, 108, 111, 99, 107, 113, 117, 111, 116, 101]⟩ : ByteArray)] from rfl) (Reps.one (show Kd.M Kd.string _ _ _ (⟨#[98, 114]⟩ : ByteArray) [.string (⟨#[98, 114]⟩ : ByteArray)] from rfl) (Reps.one (show Kd.M Kd.string _ _ _ (⟨#[99, 111, 100, 101]⟩ : ByteArray) [.string (⟨#[99, 111, 100, 101]⟩ : ByteArray)] from rfl) (Reps.one (show Kd.M Kd.string _ _ _ (⟨#[100, 100]⟩ : ByteArray) [.string (⟨#[100, 100]⟩ : ByteArray)] from rfl) (Reps.one (show Kd.M Kd.string _ _ _ (⟨#[100, 105, 118]⟩ : ByteArray) [.string (⟨#[100, 105, 118]⟩ : ByteArray)] from rfl) (Reps.one (show Kd.M Kd.string _ _ _ (⟨#[100, 108]⟩ : ByteArray) [.string (⟨#[100, 108]⟩ : ByteArray)] from rfl) (Reps.one (show Kd.M Kd.string _ _ _ (⟨#[100, 116]⟩ : ByteArray) [.string (⟨#[100, 116]⟩ : ByteArray)] from rfl) (Reps.one (show Kd.M Kd.string _ _ _ (⟨#[101, 109]⟩ : ByteArray) [.string (⟨#[101, 109]⟩ : ByteArray)] from rfl) (Reps.one (show Kd.M Kd.string _ _ _ (⟨#[104, 49]⟩ : ByteArray) [.string (⟨#[104, 49]⟩ : ByteArray)] from rfl) (Reps.one (show Kd.M Kd.string _ _ _ (⟨#[104, 50]⟩ : ByteArray) [.string (⟨#[104, 50]⟩ : ByteArray)] from rfl) (Reps.one (show Kd.M Kd.string _ _ _ (⟨#[104, 51]⟩ : ByteArray) [.string (⟨#[104, 51]⟩ : ByteArray)] from rfl) (Reps.one (show Kd.M Kd.string _ _ _ (⟨#[104, 52]⟩ : ByteArray) [.string (⟨#[104, 52]⟩ : ByteArray)] from rfl) (Reps.one (show Kd.M Kd.string _ _ _ (⟨#[104, 53]⟩ : ByteArray) [.string (⟨#[104, 53]⟩ : ByteArray)] from rfl) (Reps.one (show Kd.M Kd.string _ _ _ (⟨#[104, 54]⟩ : ByteArray) [.string (⟨#[104, 54]⟩ : ByteArray)] from rfl) (Reps.one (show Kd.M Kd.string _ _ _ (⟨#[104, 114]⟩ : ByteArray) [.string (⟨#[104, 114]⟩ : ByteArray)] from rfl) (Reps.one (show Kd.M Kd.string _ _ _ (⟨#[105]⟩ : ByteArray) [.string (⟨#[105]⟩ : ByteArray)] from rfl) (Reps.one (show Kd.M Kd.string _ _ _ (⟨#[105, 109, 103]⟩ : ByteArray) [.string (⟨#[105, 109, 103]⟩ : ByteArray)] from rfl) (Reps.one (show Kd.M Kd.string _ _ _ (⟨#[108, 105]⟩ : ByteArray) [.string (⟨#[108, 105]⟩ : ByteArray)] from rfl) (Reps.one (show Kd.M Kd.string _ _ _ (⟨#[111, 108]⟩ : ByteArray) [.string (⟨#[111, 108]⟩ : ByteArray)] from rfl) (Reps.one (show Kd.M Kd.string _ _ _ (⟨#[112]⟩ : ByteArray) [.string (⟨#[112]⟩ : ByteArray)] from rfl) (Reps.one (show Kd.M Kd.string _ _ _ (⟨#[112, 114, 101]⟩ : ByteArray) [.string (⟨#[112, 114, 101]⟩ : ByteArray)] from rfl) (Reps.one (show Kd.M Kd.string _ _ _ (⟨#[115, 101, 99, 116, 105, 111, 110]⟩ : ByteArray) [.string (⟨#[115, 101, 99, 116, 105, 111, 110]⟩ : ByteArray)] from rfl) (Reps.one (show Kd.M Kd.string _ _ _ (⟨#[115, 112, 97, 110]⟩ : ByteArray) [.string (⟨#[115, 112, 97, 110]⟩ : ByteArray)] from rfl) (Reps.one (show Kd.M Kd.string _ _ _ (⟨#[115, 116, 114, 111, 110, 103]⟩ : ByteArray) [.string (⟨#[115, 116, 114, 111, 110, 103]⟩ : ByteArray)] from rfl) (Reps.one (show Kd.M Kd.string _ _ _ (⟨#[116, 97, 98, 108, 101]⟩ : ByteArray) [.string (⟨#[116, 97, 98, 108, 101]⟩ : ByteArray)] from rfl) (Reps.one (show Kd.M Kd.string _ _ _ (⟨#[116, 98, 111, 100, 121]⟩ : ByteArray) [.string (⟨#[116, 98, 111, 100, 121]⟩ : ByteArray)] from rfl) (Reps.one (show Kd.M Kd.string _ _ _ (⟨#[116, 100]⟩ : ByteArray) [.string (⟨#[116, 100]⟩ : ByteArray)] from rfl) (Reps.one (show Kd.M Kd.string _ _ _ (⟨#[116, 104]⟩ : ByteArray) [.string (⟨#[116, 104]⟩ : ByteArray)] from rfl) (Reps.one (show Kd.M Kd.string _ _ _ (⟨#[116, 104, 101, 97, 100]⟩ : ByteArray) [.string (⟨#[116, 104, 101, 97, 100]⟩ : ByteArray)] from rfl) (Reps.one (show Kd.M Kd.string _ _ _ (⟨#[116, 114]⟩ : ByteArray) [.string (⟨#[116, 114]⟩ : ByteArray)] from rfl) (Reps.one (show Kd.M Kd.string _ _ _ (⟨#[117]⟩ : ByteArray) [.string (⟨#[117]⟩ : ByteArray)] from rfl) (Reps.one (show Kd.M Kd.string _ _ _ (⟨#[117, 108]⟩ : ByteArray) [.string (⟨#[117, 108]⟩ : ByteArray)] from rfl) (Reps.none _ _)))))))))))))))))))))))))))))))))))))); intro v136 w5 ho6 hb hg_ hnew_; clear hg_ hnew_; (first | rw [← Ny135.out] at ho6 | (simp only [Int.reduceToNat] at ho6; rw [← Ny135.out] at ho6)); have n0_ := Aside0.mk (Kd.R_lower (Kd.R_newM (M := fun k_ => (w.heap.size ≤ k_)) ho6 (below_size (by repeat (first | (with_reducible first | exact HB.out | apply below_alloc | apply pw_below_drewN | apply below_drew1 | refine below_set ?_ GE133.out | refine below_set ?_ GE134.out) | exact HB.out))) (fun k_ h_ => h_)) (below_size (by repeat (first | (with_reducible first | exact HB.out | apply below_alloc | apply pw_below_drewN | apply below_drew1 | refine below_set ?_ GE133.out | refine below_set ?_ GE134.out) | exact HB.out)))); have n1_ := Aside0.mk (blk_below (g := gb133) (o := .cells #[.bool false, .bool false, .slice none 0 0, .slice none 0 0, .slice none 0 0, .slice none 0 0, .bool false, .bool false] 25 (0, 0)) (by refine blk_far ?_ NB133_134.out _; refine blk_far ?_ NB133_134.out _; refine blk_far ?_ NB133_134.out _; refine blk_far ?_ NB133_134.out _; refine blk_far ?_ NB133_134.out _; refine blk_far ?_ NB133_134.out _; refine blk_far ?_ NB133_134.out _; refine blk_far ?_ NB133_134.out _; exact BK133.out) hb); have n2_ := Aside0.mk (blk_below (g := gb134) (o := .cells #[.bool true, .bool true, .slice none 0 0, .slice none 0 0, .slice none 0 0, .slice none 0 0, .bool false, .bool false] 25 (0, 0)) (by refine blk_put (cs := #[.bool true, .bool true, .slice none 0 0, .slice none 0 0, .slice none 0 0, .slice none 0 0, .bool false, .bool false]) ?_ 7 _ rfl; refine blk_put (cs := #[.bool true, .bool true, .slice none 0 0, .slice none 0 0, .slice none 0 0, .slice none 0 0, .bool false, .bool false]) ?_ 6 _ rfl; refine blk_put (cs := #[.bool true, .bool true, .slice none 0 0, .slice none 0 0, .slice none 0 0, .slice none 0 0, .bool false, .bool false]) ?_ 5 _ rfl; refine blk_put (cs := #[.bool true, .bool true, .slice none 0 0, .slice none 0 0, .slice none 0 0, .slice none 0 0, .bool false, .bool false]) ?_ 4 _ rfl; refine blk_put (cs := #[.bool true, .bool true, .slice none 0 0, .slice none 0 0, .slice none 0 0, .slice none 0 0, .bool false, .bool false]) ?_ 3 _ rfl; refine blk_put (cs := #[.bool true, .bool true, .slice none 0 0, .slice none 0 0, .slice none 0 0, .slice none 0 0, .bool false, .bool false]) ?_ 2 _ rfl; refine blk_put (cs := #[.bool true, .bool false, .slice none 0 0, .slice none 0 0, .slice none 0 0, .slice none 0 0, .bool false, .bool false]) ?_ 1 _ rfl; refine blk_put (cs := #[.bool false, .bool false, .slice none 0 0, .slice none 0 0, .slice none 0 0, .slice none 0 0, .bool false, .bool false]) ?_ 0 _ rfl; exact BK134.out) hb); have n3_ := Aside0.mk (below_step (by repeat (first | (with_reducible first | exact HB.out | apply below_alloc | apply pw_below_drewN | apply below_drew1 | refine below_set ?_ GE133.out | refine below_set ?_ GE134.out) | exact HB.out)) hb); clear BK133; clear BK134; clear HB; have HO137 := n0_; have BK133 := n1_; have BK134 := n2_; have HB := n3_; clear n0_ n1_ n2_ n3_; clear hb ho6; obtain ⟨Ao7, co7, eo7⟩ := Kd.R_slice HO137.out; subst eo7; have hcz8_0 : w5.cell? ⟨gb134, 0, none⟩ = some (.bool true) := (blk_cell BK134.out 0).trans rfl; have hcz8_1 : w5.cell? ⟨gb134, 1, none⟩ = some (.bool true) := (blk_cell BK134.out 1).trans rfl; have hcz8_2 : w5.cell? ⟨gb134, 2, none⟩ = some (.slice none 0 0) := (blk_cell BK134.out 2).trans rfl; have hcz8_3 : w5.cell? ⟨gb134, 3, none⟩ = some (.slice none 0 0) := (blk_cell BK134.out 3).trans rfl; have hcz8_4 : w5.cell? ⟨gb134, 4, none⟩ = some (.slice none 0 0) := (blk_cell BK134.out 4).trans rfl; have hcz8_5 : w5.cell? ⟨gb134, 5, none⟩ = some (.slice none 0 0) := (blk_cell BK134.out 5).trans rfl; have hcz8_6 : w5.cell? ⟨gb134, 6, none⟩ = some (.bool false) := (blk_cell BK134.out 6).trans rfl; have hcz8_7 : w5.cell? ⟨gb134, 7, none⟩ = some (.bool false) := (blk_cell BK134.out 7).trans rfl; have hfz8_0 := blk_frozen BK134.out 0; have hfz8_1 := blk_frozen BK134.out 1; have hfz8_2 := blk_frozen BK134.out 2; have hfz8_3 := blk_frozen BK134.out 3; have hfz8_4 := blk_frozen BK134.out 4; have hfz8_5 := blk_frozen BK134.out 5; have hfz8_6 := blk_frozen BK134.out 6; have hfz8_7 := blk_frozen BK134.out 7) | ((with_reducible refine gate_dst (N := 5) rfl ?_); refine Kd.R_lit Kd.string _ 9 ?hg (N := 5) ?hd (xs := ([(⟨#[97, 108, 116]⟩ : ByteArray), (⟨#[99, 108, 97, 115, 115]⟩ : ByteArray), (⟨#[100, 105, 114]⟩ : ByteArray), (⟨#[104, 101, 105, 103, 104, 116]⟩ : ByteArray), (⟨#[105, 100]⟩ : ByteArray), (⟨#[108, 97, 110, 103]⟩ : ByteArray), (⟨#[116, 105, 116, 108, 101]⟩ : ByteArray), (⟨#[119, 105, 100, 116, 104]⟩ : ByteArray)] : List ByteArray)) (inner := [.string (⟨#[97, 108, 116]⟩ : ByteArray), .string (⟨#[99, 108, 97, 115, 115]⟩ : ByteArray), .string (⟨#[100, 105, 114]⟩ : ByteArray), .string (⟨#[104, 101, 105, 103, 104, 116]⟩ : ByteArray), .string (⟨#[105, 100]⟩ : ByteArray), .string (⟨#[108, 97, 110, 103]⟩ : ByteArray), .string (⟨#[116, 105, 116, 108, 101]⟩ : ByteArray), .string (⟨#[119, 105, 100, 116, 104]⟩ : ByteArray)]) (ok := fun _ => True) (okp := fun _ => True) ?hr ?hp (fun _ hk => hk) trivial (Below.refl _ _) (Nat.le_refl _) (by simp) ?_; (case hd => rfl); (case hg => rfl); (case hr => first | (go_simp; done) | (go_simp; rfl)); (case hp => exact (Reps.one (show Kd.M Kd.string _ _ _ (⟨#[97, 108, 116]⟩ : ByteArray) [.string (⟨#[97, 108, 116]⟩ : ByteArray)] from rfl) (Reps.one (show Kd.M Kd.string _ _ _ (⟨#[99, 108, 97, 115, 115]⟩ : ByteArray) [.string (⟨#[99, 108, 97, 115, 115]⟩ : ByteArray)] from rfl) (Reps.one (show Kd.M Kd.string _ _ _ (⟨#[100, 105, 114]⟩ : ByteArray) [.string (⟨#[100, 105, 114]⟩ : ByteArray)] from rfl) (Reps.one (show Kd.M Kd.string _ _ _ (⟨#[104, 101, 105, 103, 104, 116]⟩ : ByteArray) [.string (⟨#[104, 101, 105, 103, 104, 116]⟩ : ByteArray)] from rfl) (Reps.one (show Kd.M Kd.string _ _ _ (⟨#[105, 100]⟩ : ByteArray) [.string (⟨#[105, 100]⟩ : ByteArray)] from rfl) (Reps.one (show Kd.M Kd.string _ _ _ (⟨#[108, 97, 110, 103]⟩ : ByteArray) [.string (⟨#[108, 97, 110, 103]⟩ : ByteArray)] from rfl) (Reps.one (show Kd.M Kd.string _ _ _ (⟨#[116, 105, 116, 108, 101]⟩ : ByteArray) [.string (⟨#[116, 105, 116, 108, 101]⟩ : ByteArray)] from rfl) (Reps.one (show Kd.M Kd.string _ _ _ (⟨#[119, 105, 100, 116, 104]⟩ : ByteArray) [.string (⟨#[119, 105, 100, 116, 104]⟩ : ByteArray)] from rfl) (Reps.none _ _)))))))))); intro v139 w9 ho10 hb hg_ hnew_; clear hg_ hnew_; (first | rw [← Ny138.out] at ho10 | (simp only [Int.reduceToNat] at ho10; rw [← Ny138.out] at ho10)); have n0_ := Aside0.mk (Kd.R_elder' (by exact (Kd.R_mono (Kd.R_far (p := ⟨gb134, 2, none⟩) (Kd.R_types HO137.out BK134.out (by decide)) (fun _ hk => hk.2) (.slice Ao7 y135.length co7)) (fun _ h_ => h_.1))) (Kd.R_base ho10) hb); have n1_ := Aside0.mk (Kd.R_lower (Kd.R_new' (Kd.R_newM (M := fun k_ => (w.heap.size ≤ k_)) ho10 (below_size (by repeat (first | (with_reducible first | exact HB.out | apply below_alloc | apply pw_below_drewN | apply below_drew1 | refine below_set ?_ GE133.out | refine below_set ?_ GE134.out) | exact HB.out))) (fun k_ h_ => h_)) (Kd.R_lt (by exact (Kd.R_mono (Kd.R_far (p := ⟨gb134, 2, none⟩) (Kd.R_types HO137.out BK134.out (by decide)) (fun _ hk => hk.2) (.slice Ao7 y135.length co7)) (fun _ h_ => h_.1))))) (below_size (by repeat (first | (with_reducible first | exact HB.out | apply below_alloc | apply pw_below_drewN | apply below_drew1 | refine below_set ?_ GE133.out | refine below_set ?_ GE134.out) | exact HB.out)))); have n2_ := Aside0.mk (blk_below (g := gb133) (o := .cells #[.bool false, .bool false, .slice none 0 0, .slice none 0 0, .slice none 0 0, .slice none 0 0, .bool false, .bool false] 25 (0, 0)) (by refine blk_far ?_ NB133_134.out _; exact BK133.out) hb); have n3_ := Aside0.mk (blk_below (g := gb134) (o := .cells #[.bool true, .bool true, .slice Ao7 y135.length co7, .slice none 0 0, .slice none 0 0, .slice none 0 0, .bool false, .bool false] 25 (0, 0)) (by refine blk_put (cs := #[.bool true, .bool true, .slice none 0 0, .slice none 0 0, .slice none 0 0, .slice none 0 0, .bool false, .bool false]) ?_ 2 _ rfl; exact BK134.out) hb); have n4_ := Aside0.mk (below_step (by repeat (first | (with_reducible first | exact HB.out | apply below_alloc | apply pw_below_drewN | apply below_drew1 | refine below_set ?_ GE133.out | refine below_set ?_ GE134.out) | exact HB.out)) hb); clear HO137; clear BK133; clear BK134; clear HB; have HO137 := n0_; have HO140 := n1_; have BK133 := n2_; have BK134 := n3_; have HB := n4_; clear n0_ n1_ n2_ n3_ n4_; clear hb ho10; obtain ⟨Ao11, co11, eo11⟩ := Kd.R_slice HO140.out; subst eo11; have hcz12_0 : w9.cell? ⟨gb134, 0, none⟩ = some (.bool true) := (blk_cell BK134.out 0).trans rfl; have hcz12_1 : w9.cell? ⟨gb134, 1, none⟩ = some (.bool true) := (blk_cell BK134.out 1).trans rfl; have hcz12_2 : w9.cell? ⟨gb134, 2, none⟩ = some (.slice Ao7 y135.length co7) := (blk_cell BK134.out 2).trans rfl; have hcz12_3 : w9.cell? ⟨gb134, 3, none⟩ = some (.slice none 0 0) := (blk_cell BK134.out 3).trans rfl; have hcz12_4 : w9.cell? ⟨gb134, 4, none⟩ = some (.slice none 0 0) := (blk_cell BK134.out 4).trans rfl; have hcz12_5 : w9.cell? ⟨gb134, 5, none⟩ = some (.slice none 0 0) := (blk_cell BK134.out 5).trans rfl; have hcz12_6 : w9.cell? ⟨gb134, 6, none⟩ = some (.bool false) := (blk_cell BK134.out 6).trans rfl; have hcz12_7 : w9.cell? ⟨gb134, 7, none⟩ = some (.bool false) := (blk_cell BK134.out 7).trans rfl; have hfz12_0 := blk_frozen BK134.out 0; have hfz12_1 := blk_frozen BK134.out 1; have hfz12_2 := blk_frozen BK134.out 2; have hfz12_3 := blk_frozen BK134.out 3; have hfz12_4 := blk_frozen BK134.out 4; have hfz12_5 := blk_frozen BK134.out 5; have hfz12_6 := blk_frozen BK134.out 6; have hfz12_7 := blk_frozen BK134.out 7) | ((with_reducible refine gate_dst (N := 7) rfl ?_); refine Kd.R_lit Kd.string _ 9 ?hg (N := 7) ?hd (xs := ([(⟨#[104, 114, 101, 102]⟩ : ByteArray)] : List ByteArray)) (inner := [.string (⟨#[104, 114, 101, 102]⟩ : ByteArray)]) (ok := fun _ => True) (okp := fun _ => True) ?hr ?hp (fun _ hk => hk) trivial (Below.refl _ _) (Nat.le_refl _) (by simp) ?_; (case hd => rfl); (case hg => rfl); (case hr => first | (go_simp; done) | (go_simp; rfl)); (case hp => exact (Reps.one (show Kd.M Kd.string _ _ _ (⟨#[104, 114, 101, 102]⟩ : ByteArray) [.string (⟨#[104, 114, 101, 102]⟩ : ByteArray)] from rfl) (Reps.none _ _))); intro v142 w13 ho14 hb hg_ hnew_; clear hg_ hnew_; (first | rw [← Ny141.out] at ho14 | (simp only [Int.reduceToNat] at ho14; rw [← Ny141.out] at ho14)); have n0_ := Aside0.mk (Kd.R_elder' (by exact (Kd.R_mono (Kd.R_far (p := ⟨gb134, 4, none⟩) (Kd.R_types HO137.out BK134.out (by decide)) (fun _ hk => hk.2) (.slice Ao11 y138.length co11)) (fun _ h_ => h_.1))) (Kd.R_base ho14) hb); have n1_ := Aside0.mk (Kd.R_elder' (by exact (Kd.R_mono (Kd.R_far (p := ⟨gb134, 4, none⟩) (Kd.R_types HO140.out BK134.out (by decide)) (fun _ hk => hk.2) (.slice Ao11 y138.length co11)) (fun _ h_ => h_.1))) (Kd.R_base ho14) hb); have n2_ := Aside0.mk (Kd.R_lower (Kd.R_new' (Kd.R_new' (Kd.R_newM (M := fun k_ => (w.heap.size ≤ k_)) ho14 (below_size (by repeat (first | (with_reducible first | exact HB.out | apply below_alloc | apply pw_below_drewN | apply below_drew1 | refine below_set ?_ GE133.out | refine below_set ?_ GE134.out) | exact HB.out))) (fun k_ h_ => h_)) (Kd.R_lt (by exact (Kd.R_mono (Kd.R_far (p := ⟨gb134, 4, none⟩) (Kd.R_types HO137.out BK134.out (by decide)) (fun _ hk => hk.2) (.slice Ao11 y138.length co11)) (fun _ h_ => h_.1))))) (Kd.R_lt (by exact (Kd.R_mono (Kd.R_far (p := ⟨gb134, 4, none⟩) (Kd.R_types HO140.out BK134.out (by decide)) (fun _ hk => hk.2) (.slice Ao11 y138.length co11)) (fun _ h_ => h_.1))))) (below_size (by repeat (first | (with_reducible first | exact HB.out | apply below_alloc | apply pw_below_drewN | apply below_drew1 | refine below_set ?_ GE133.out | refine below_set ?_ GE134.out) | exact HB.out)))); have n3_ := Aside0.mk (blk_below (g := gb133) (o := .cells #[.bool false, .bool false, .slice none 0 0, .slice none 0 0, .slice none 0 0, .slice none 0 0, .bool false, .bool false] 25 (0, 0)) (by refine blk_far ?_ NB133_134.out _; exact BK133.out) hb); have n4_ := Aside0.mk (blk_below (g := gb134) (o := .cells #[.bool true, .bool true, .slice Ao7 y135.length co7, .slice none 0 0, .slice Ao11 y138.length co11, .slice none 0 0, .bool false, .bool false] 25 (0, 0)) (by refine blk_put (cs := #[.bool true, .bool true, .slice Ao7 y135.length co7, .slice none 0 0, .slice none 0 0, .slice none 0 0, .bool false, .bool false]) ?_ 4 _ rfl; exact BK134.out) hb); have n5_ := Aside0.mk (below_step (by repeat (first | (with_reducible first | exact HB.out | apply below_alloc | apply pw_below_drewN | apply below_drew1 | refine below_set ?_ GE133.out | refine below_set ?_ GE134.out) | exact HB.out)) hb); clear HO137; clear HO140; clear BK133; clear BK134; clear HB; have HO137 := n0_; have HO140 := n1_; have HO143 := n2_; have BK133 := n3_; have BK134 := n4_; have HB := n5_; clear n0_ n1_ n2_ n3_ n4_ n5_; clear hb ho14; obtain ⟨Ao15, co15, eo15⟩ := Kd.R_slice HO143.out; subst eo15) | ((with_reducible refine gate_dst (N := 9) rfl ?_); refine Kd.R_lit Kd.string _ 9 ?hg (N := 9) ?hd (xs := ([(⟨#[115, 114, 99]⟩ : ByteArray)] : List ByteArray)) (inner := [.string (⟨#[115, 114, 99]⟩ : ByteArray)]) (ok := fun _ => True) (okp := fun _ => True) ?hr ?hp (fun _ hk => hk) trivial (Below.refl _ _) (Nat.le_refl _) (by simp) ?_; (case hd => rfl); (case hg => rfl); (case hr => first | (go_simp; done) | (go_simp; rfl)); (case hp => exact (Reps.one (show Kd.M Kd.string _ _ _ (⟨#[115, 114, 99]⟩ : ByteArray) [.string (⟨#[115, 114, 99]⟩ : ByteArray)] from rfl) (Reps.none _ _))); intro v145 w16 ho17 hb hg_ hnew_; clear hg_ hnew_; (first | rw [← Ny144.out] at ho17 | (simp only [Int.reduceToNat] at ho17; rw [← Ny144.out] at ho17)); have n0_ := Aside0.mk (Kd.R_elder' (by exact HO137.out) (Kd.R_base ho17) hb); have n1_ := Aside0.mk (Kd.R_elder' (by exact HO140.out) (Kd.R_base ho17) hb); have n2_ := Aside0.mk (Kd.R_elder' (by exact HO143.out) (Kd.R_base ho17) hb); have n3_ := Aside0.mk (Kd.R_lower (Kd.R_new' (Kd.R_new' (Kd.R_new' (Kd.R_newM (M := fun k_ => (w.heap.size ≤ k_)) ho17 (below_size (by repeat (first | (with_reducible first | exact HB.out | apply below_alloc | apply pw_below_drewN | apply below_drew1 | refine below_set ?_ GE133.out | refine below_set ?_ GE134.out) | exact HB.out))) (fun k_ h_ => h_)) (Kd.R_lt (by exact HO137.out))) (Kd.R_lt (by exact HO140.out))) (Kd.R_lt (by exact HO143.out))) (below_size (by repeat (first | (with_reducible first | exact HB.out | apply below_alloc | apply pw_below_drewN | apply below_drew1 | refine below_set ?_ GE133.out | refine below_set ?_ GE134.out) | exact HB.out)))); have n4_ := Aside0.mk (blk_below (g := gb133) (o := .cells #[.bool false, .bool false, .slice none 0 0, .slice none 0 0, .slice none 0 0, .slice none 0 0, .bool false, .bool false] 25 (0, 0)) (by exact BK133.out) hb); have n5_ := Aside0.mk (blk_below (g := gb134) (o := .cells #[.bool true, .bool true, .slice Ao7 y135.length co7, .slice none 0 0, .slice Ao11 y138.length co11, .slice none 0 0, .bool false, .bool false] 25 (0, 0)) (by exact BK134.out) hb); have n6_ := Aside0.mk (below_step (by repeat (first | (with_reducible first | exact HB.out | apply below_alloc | apply pw_below_drewN | apply below_drew1 | refine below_set ?_ GE133.out | refine below_set ?_ GE134.out) | exact HB.out)) hb); clear HO137; clear HO140; clear HO143; clear BK133; clear BK134; clear HB; have HO137 := n0_; have HO140 := n1_; have HO143 := n2_; have HO146 := n3_; have BK133 := n4_; have BK134 := n5_; have HB := n6_; clear n0_ n1_ n2_ n3_ n4_ n5_ n6_; clear hb ho17; obtain ⟨Ao18, co18, eo18⟩ := Kd.R_slice HO146.out; subst eo18) | ((with_reducible refine gate_dst (N := 11) rfl ?_); refine Kd.R_lit Kd.string _ 9 ?hg (N := 11) ?hd (xs := ([(⟨#[99, 111, 108, 115, 112, 97, 110]⟩ : ByteArray), (⟨#[114, 111, 119, 115, 112, 97, 110]⟩ : ByteArray)] : List ByteArray)) (inner := [.string (⟨#[99, 111, 108, 115, 112, 97, 110]⟩ : ByteArray), .string (⟨#[114, 111, 119, 115, 112, 97, 110]⟩ : ByteArray)]) (ok := fun _ => True) (okp := fun _ => True) ?hr ?hp (fun _ hk => hk) trivial (Below.refl _ _) (Nat.le_refl _) (by simp) ?_; (case hd => rfl); (case hg => rfl); (case hr => first | (go_simp; done) | (go_simp; rfl)); (case hp => exact (Reps.one (show Kd.M Kd.string _ _ _ (⟨#[99, 111, 108, 115, 112, 97, 110]⟩ : ByteArray) [.string (⟨#[99, 111, 108, 115, 112, 97, 110]⟩ : ByteArray)] from rfl) (Reps.one (show Kd.M Kd.string _ _ _ (⟨#[114, 111, 119, 115, 112, 97, 110]⟩ : ByteArray) [.string (⟨#[114, 111, 119, 115, 112, 97, 110]⟩ : ByteArray)] from rfl) (Reps.none _ _)))); intro v148 w19 ho20 hb hg_ hnew_; clear hg_ hnew_; (first | rw [← Ny147.out] at ho20 | (simp only [Int.reduceToNat] at ho20; rw [← Ny147.out] at ho20)); have n0_ := Aside0.mk (Kd.R_elder' (by exact HO137.out) (Kd.R_base ho20) hb); have n1_ := Aside0.mk (Kd.R_elder' (by exact HO140.out) (Kd.R_base ho20) hb); have n2_ := Aside0.mk (Kd.R_elder' (by exact HO143.out) (Kd.R_base ho20) hb); have n3_ := Aside0.mk (Kd.R_elder' (by exact HO146.out) (Kd.R_base ho20) hb); have n4_ := Aside0.mk (Kd.R_lower (Kd.R_new' (Kd.R_new' (Kd.R_new' (Kd.R_new' (Kd.R_newM (M := fun k_ => (w.heap.size ≤ k_)) ho20 (below_size (by repeat (first | (with_reducible first | exact HB.out | apply below_alloc | apply pw_below_drewN | apply below_drew1 | refine below_set ?_ GE133.out | refine below_set ?_ GE134.out) | exact HB.out))) (fun k_ h_ => h_)) (Kd.R_lt (by exact HO137.out))) (Kd.R_lt (by exact HO140.out))) (Kd.R_lt (by exact HO143.out))) (Kd.R_lt (by exact HO146.out))) (below_size (by repeat (first | (with_reducible first | exact HB.out | apply below_alloc | apply pw_below_drewN | apply below_drew1 | refine below_set ?_ GE133.out | refine below_set ?_ GE134.out) | exact HB.out)))); have n5_ := Aside0.mk (blk_below (g := gb133) (o := .cells #[.bool false, .bool false, .slice none 0 0, .slice none 0 0, .slice none 0 0, .slice none 0 0, .bool false, .bool false] 25 (0, 0)) (by exact BK133.out) hb); have n6_ := Aside0.mk (blk_below (g := gb134) (o := .cells #[.bool true, .bool true, .slice Ao7 y135.length co7, .slice none 0 0, .slice Ao11 y138.length co11, .slice none 0 0, .bool false, .bool false] 25 (0, 0)) (by exact BK134.out) hb); have n7_ := Aside0.mk (below_step (by repeat (first | (with_reducible first | exact HB.out | apply below_alloc | apply pw_below_drewN | apply below_drew1 | refine below_set ?_ GE133.out | refine below_set ?_ GE134.out) | exact HB.out)) hb); clear HO137; clear HO140; clear HO143; clear HO146; clear BK133; clear BK134; clear HB; have HO137 := n0_; have HO140 := n1_; have HO143 := n2_; have HO146 := n3_; have HO149 := n4_; have BK133 := n5_; have BK134 := n6_; have HB := n7_; clear n0_ n1_ n2_ n3_ n4_ n5_ n6_ n7_; clear hb ho20; obtain ⟨Ao21, co21, eo21⟩ := Kd.R_slice HO149.out; subst eo21) | ((with_reducible refine gate_dst (N := 13) rfl ?_); refine Kd.N_lit k35 _ 35 ?hg (N' := 13) ?hd (xs := ([(⟨(⟨#[97]⟩ : ByteArray), y141⟩ : S35), (⟨(⟨#[105, 109, 103]⟩ : ByteArray), y144⟩ : S35), (⟨(⟨#[116, 100]⟩ : ByteArray), y147⟩ : S35)] : List (S35))) (inner := [.string (⟨#[97]⟩ : ByteArray), .slice Ao15 y141.length co15, .string (⟨#[105, 109, 103]⟩ : ByteArray), .slice Ao18 y144.length co18, .string (⟨#[116, 100]⟩ : ByteArray), .slice Ao21 y147.length co21]) (ok := (fun k_ => (w.heap.size ≤ k_) ∧ some k_ ≠ (.slice Ao7 y135.length co7 : Value).ownBlock ∧ some k_ ≠ (.slice Ao11 y138.length co11 : Value).ownBlock ∧ k_ ≠ gb133 ∧ k_ ≠ gb134)) (okp := (fun k_ => (w.heap.size ≤ k_) ∧ some k_ ≠ (.slice Ao7 y135.length co7 : Value).ownBlock ∧ some k_ ≠ (.slice Ao11 y138.length co11 : Value).ownBlock ∧ k_ ≠ gb133 ∧ k_ ≠ gb134)) ?hr ?hp (fun _ hk => hk) ((show ∀ k_, w19.heap.size ≤ k_ → (fun k_ => (w.heap.size ≤ k_) ∧ some k_ ≠ (.slice Ao7 y135.length co7 : Value).ownBlock ∧ some k_ ≠ (.slice Ao11 y138.length co11 : Value).ownBlock ∧ k_ ≠ gb133 ∧ k_ ≠ gb134) k_ from fun k_ hk => ⟨(Nat.le_trans (below_size (by repeat (first | (with_reducible first | exact HB.out | apply below_alloc | apply pw_below_drewN | apply below_drew1 | refine below_set ?_ GE133.out | refine below_set ?_ GE134.out) | exact HB.out))) hk), Kd.fresh' (Kd.R_lt (by exact HO137.out)) k_ hk, Kd.fresh' (Kd.R_lt (by exact HO140.out)) k_ hk, Kd.freshB (g := gb133) (o := .cells #[.bool false, .bool false, .slice none 0 0, .slice none 0 0, .slice none 0 0, .slice none 0 0, .bool false, .bool false] 25 (0, 0)) (by exact BK133.out) k_ hk, Kd.freshB (g := gb134) (o := .cells #[.bool true, .bool true, .slice Ao7 y135.length co7, .slice none 0 0, .slice Ao11 y138.length co11, .slice none 0 0, .bool false, .bool false] 25 (0, 0)) (by exact BK134.out) k_ hk⟩) _ (Nat.le_refl _)) (Below.refl _ _) (Nat.le_refl _) (by simp) ?_; (case hd => rfl); (case hg => rfl); (case hr => first | (go_simp; done) | (go_simp; rfl)); (case hp => exact (Reps.c2 (show Kd.FK k35 _ _ (⟨(⟨#[97]⟩ : ByteArray), y141⟩ : S35) [.string (⟨#[97]⟩ : ByteArray), .slice Ao15 y141.length co15] from (k35_mkF _ _ (⟨(⟨#[97]⟩ : ByteArray), y141⟩ : S35) (Kd.R_reads' (Kd.R_mono (ok' := (fun k_ => (w.heap.size ≤ k_) ∧ some k_ ≠ (.slice Ao7 y135.length co7 : Value).ownBlock ∧ some k_ ≠ (.slice Ao11 y138.length co11 : Value).ownBlock ∧ k_ ≠ gb133 ∧ k_ ≠ gb134)) (Kd.R_types (Kd.R_types (HO143.out) BK133.out (by decide)) BK134.out (by decide)) (fun k_ hk => ⟨hk.1.1.1.1.1.1.1, ⟨hk.1.1.1.1.1.2, ⟨hk.1.1.1.1.2, ⟨hk.1.2, hk.2⟩⟩⟩⟩))).2.1 (Kd.R_F (Kd.R_mono (ok' := (fun k_ => (w.heap.size ≤ k_) ∧ some k_ ≠ (.slice Ao7 y135.length co7 : Value).ownBlock ∧ some k_ ≠ (.slice Ao11 y138.length co11 : Value).ownBlock ∧ k_ ≠ gb133 ∧ k_ ≠ gb134)) (Kd.R_types (Kd.R_types (HO143.out) BK133.out (by decide)) BK134.out (by decide)) (fun k_ hk => ⟨hk.1.1.1.1.1.1.1, ⟨hk.1.1.1.1.1.2, ⟨hk.1.1.1.1.2, ⟨hk.1.2, hk.2⟩⟩⟩⟩))))) (Reps.c2 (show Kd.FK k35 _ _ (⟨(⟨#[105, 109, 103]⟩ : ByteArray), y144⟩ : S35) [.string (⟨#[105, 109, 103]⟩ : ByteArray), .slice Ao18 y144.length co18] from (k35_mkF _ _ (⟨(⟨#[105, 109, 103]⟩ : ByteArray), y144⟩ : S35) (Kd.R_reads' (Kd.R_mono (ok' := (fun k_ => (w.heap.size ≤ k_) ∧ some k_ ≠ (.slice Ao7 y135.length co7 : Value).ownBlock ∧ some k_ ≠ (.slice Ao11 y138.length co11 : Value).ownBlock ∧ k_ ≠ gb133 ∧ k_ ≠ gb134)) (Kd.R_types (Kd.R_types (HO146.out) BK133.out (by decide)) BK134.out (by decide)) (fun k_ hk => ⟨hk.1.1.1.1.1.1.1, ⟨hk.1.1.1.1.1.2, ⟨hk.1.1.1.1.2, ⟨hk.1.2, hk.2⟩⟩⟩⟩))).2.1 (Kd.R_F (Kd.R_mono (ok' := (fun k_ => (w.heap.size ≤ k_) ∧ some k_ ≠ (.slice Ao7 y135.length co7 : Value).ownBlock ∧ some k_ ≠ (.slice Ao11 y138.length co11 : Value).ownBlock ∧ k_ ≠ gb133 ∧ k_ ≠ gb134)) (Kd.R_types (Kd.R_types (HO146.out) BK133.out (by decide)) BK134.out (by decide)) (fun k_ hk => ⟨hk.1.1.1.1.1.1.1, ⟨hk.1.1.1.1.1.2, ⟨hk.1.1.1.1.2, ⟨hk.1.2, hk.2⟩⟩⟩⟩))))) (Reps.c2 (show Kd.FK k35 _ _ (⟨(⟨#[116, 100]⟩ : ByteArray), y147⟩ : S35) [.string (⟨#[116, 100]⟩ : ByteArray), .slice Ao21 y147.length co21] from (k35_mkF _ _ (⟨(⟨#[116, 100]⟩ : ByteArray), y147⟩ : S35) (Kd.R_reads' (Kd.R_mono (ok' := (fun k_ => (w.heap.size ≤ k_) ∧ some k_ ≠ (.slice Ao7 y135.length co7 : Value).ownBlock ∧ some k_ ≠ (.slice Ao11 y138.length co11 : Value).ownBlock ∧ k_ ≠ gb133 ∧ k_ ≠ gb134)) (Kd.R_types (Kd.R_types (HO149.out) BK133.out (by decide)) BK134.out (by decide)) (fun k_ hk => ⟨hk.1.1.1.1.1.1.1, ⟨hk.1.1.1.1.1.2, ⟨hk.1.1.1.1.2, ⟨hk.1.2, hk.2⟩⟩⟩⟩))).2.1 (Kd.R_F (Kd.R_mono (ok' := (fun k_ => (w.heap.size ≤ k_) ∧ some k_ ≠ (.slice Ao7 y135.length co7 : Value).ownBlock ∧ some k_ ≠ (.slice Ao11 y138.length co11 : Value).ownBlock ∧ k_ ≠ gb133 ∧ k_ ≠ gb134)) (Kd.R_types (Kd.R_types (HO149.out) BK133.out (by decide)) BK134.out (by decide)) (fun k_ hk => ⟨hk.1.1.1.1.1.1.1, ⟨hk.1.1.1.1.1.2, ⟨hk.1.1.1.1.2, ⟨hk.1.2, hk.2⟩⟩⟩⟩))))) (Reps.none _ _))))); intro v151 w22 ho23 hb hg_ hnew_; clear hg_ hnew_; (first | rw [← Ny150.out] at ho23 | (simp only [Int.reduceToNat] at ho23; rw [← Ny150.out] at ho23)); have n0_ := Aside0.mk (Kd.R_below (by exact HO137.out) hb); have n1_ := Aside0.mk (Kd.R_below (by exact HO140.out) hb); have n2_ := Aside0.mk (Kd.N_lower ho23 (below_size (by repeat (first | (with_reducible first | exact HB.out | apply below_alloc | apply pw_below_drewN | apply below_drew1 | refine below_set ?_ GE133.out | refine below_set ?_ GE134.out) | exact HB.out)))); have n3_ := Aside0.mk (blk_below (g := gb133) (o := .cells #[.bool false, .bool false, .slice none 0 0, .slice none 0 0, .slice none 0 0, .slice none 0 0, .bool false, .bool false] 25 (0, 0)) (by exact BK133.out) hb); have n4_ := Aside0.mk (blk_below (g := gb134) (o := .cells #[.bool true, .bool true, .slice Ao7 y135.length co7, .slice none 0 0, .slice Ao11 y138.length co11, .slice none 0 0, .bool false, .bool false] 25 (0, 0)) (by exact BK134.out) hb); have n5_ := Aside0.mk (below_step (by repeat (first | (with_reducible first | exact HB.out | apply below_alloc | apply pw_below_drewN | apply below_drew1 | refine below_set ?_ GE133.out | refine below_set ?_ GE134.out) | exact HB.out)) hb); clear HO137; clear HO140; clear BK133; clear BK134; clear HB; clear HO143; clear HO146; clear HO149; have HO137 := n0_; have HO140 := n1_; have HO152 := n2_; have BK133 := n3_; have BK134 := n4_; have HB := n5_; clear n0_ n1_ n2_ n3_ n4_ n5_; clear hb ho23; obtain ⟨Ao24, co24, eo24⟩ := Kd.N_slice HO152.out; subst eo24; have hcz25_0 : w22.cell? ⟨gb134, 0, none⟩ = some (.bool true) := (blk_cell BK134.out 0).trans rfl; have hcz25_1 : w22.cell? ⟨gb134, 1, none⟩ = some (.bool true) := (blk_cell BK134.out 1).trans rfl; have hcz25_2 : w22.cell? ⟨gb134, 2, none⟩ = some (.slice Ao7 y135.length co7) := (blk_cell BK134.out 2).trans rfl; have hcz25_3 : w22.cell? ⟨gb134, 3, none⟩ = some (.slice none 0 0) := (blk_cell BK134.out 3).trans rfl; have hcz25_4 : w22.cell? ⟨gb134, 4, none⟩ = some (.slice Ao11 y138.length co11) := (blk_cell BK134.out 4).trans rfl; have hcz25_5 : w22.cell? ⟨gb134, 5, none⟩ = some (.slice none 0 0) := (blk_cell BK134.out 5).trans rfl; have hcz25_6 : w22.cell? ⟨gb134, 6, none⟩ = some (.bool false) := (blk_cell BK134.out 6).trans rfl; have hcz25_7 : w22.cell? ⟨gb134, 7, none⟩ = some (.bool false) := (blk_cell BK134.out 7).trans rfl; have hfz25_0 := blk_frozen BK134.out 0; have hfz25_1 := blk_frozen BK134.out 1; have hfz25_2 := blk_frozen BK134.out 2; have hfz25_3 := blk_frozen BK134.out 3; have hfz25_4 := blk_frozen BK134.out 4; have hfz25_5 := blk_frozen BK134.out 5; have hfz25_6 := blk_frozen BK134.out 6; have hfz25_7 := blk_frozen BK134.out 7; have hcz26_0 : w22.cell? ⟨gb133, 0, none⟩ = some (.bool false) := (blk_cell BK133.out 0).trans rfl; have hcz26_1 : w22.cell? ⟨gb133, 1, none⟩ = some (.bool false) := (blk_cell BK133.out 1).trans rfl; have hcz26_2 : w22.cell? ⟨gb133, 2, none⟩ = some (.slice none 0 0) := (blk_cell BK133.out 2).trans rfl; have hcz26_3 : w22.cell? ⟨gb133, 3, none⟩ = some (.slice none 0 0) := (blk_cell BK133.out 3).trans rfl; have hcz26_4 : w22.cell? ⟨gb133, 4, none⟩ = some (.slice none 0 0) := (blk_cell BK133.out 4).trans rfl; have hcz26_5 : w22.cell? ⟨gb133, 5, none⟩ = some (.slice none 0 0) := (blk_cell BK133.out 5).trans rfl; have hcz26_6 : w22.cell? ⟨gb133, 6, none⟩ = some (.bool false) := (blk_cell BK133.out 6).trans rfl; have hcz26_7 : w22.cell? ⟨gb133, 7, none⟩ = some (.bool false) := (blk_cell BK133.out 7).trans rfl; have hfz26_0 := blk_frozen BK133.out 0; have hfz26_1 := blk_frozen BK133.out 1; have hfz26_2 := blk_frozen BK133.out 2; have hfz26_3 := blk_frozen BK133.out 3; have hfz26_4 := blk_frozen BK133.out 4; have hfz26_5 := blk_frozen BK133.out 5; have hfz26_6 := blk_frozen BK133.out 6; have hfz26_7 := blk_frozen BK133.out 7))
 refine bodyPost_ret (results_cell_row rfl _ _ gb133 25 #[.bool true, .bool true, .slice Ao7 y135.length co7, .slice none 0 0, .slice Ao11 y138.length co11, .slice Ao24 y150.length co24, .bool false, .bool false] (0, 0) _ rfl (by refine blk_put (cs := #[.bool true, .bool true, .slice Ao7 y135.length co7, .slice none 0 0, .slice Ao11 y138.length co11, .slice Ao24 y150.length co24, .bool false, .bool false]) ?_ 7 _ rfl; refine blk_put (cs := #[.bool true, .bool true, .slice Ao7 y135.length co7, .slice none 0 0, .slice Ao11 y138.length co11, .slice Ao24 y150.length co24, .bool false, .bool false]) ?_ 6 _ rfl; refine blk_put (cs := #[.bool true, .bool true, .slice Ao7 y135.length co7, .slice none 0 0, .slice Ao11 y138.length co11, .slice none 0 0, .bool false, .bool false]) ?_ 5 _ rfl; refine blk_put (cs := #[.bool true, .bool true, .slice Ao7 y135.length co7, .slice none 0 0, .slice none 0 0, .slice none 0 0, .bool false, .bool false]) ?_ 4 _ rfl; refine blk_put (cs := #[.bool true, .bool true, .slice Ao7 y135.length co7, .slice none 0 0, .slice none 0 0, .slice none 0 0, .bool false, .bool false]) ?_ 3 _ rfl; refine blk_put (cs := #[.bool true, .bool true, .slice none 0 0, .slice none 0 0, .slice none 0 0, .slice none 0 0, .bool false, .bool false]) ?_ 2 _ rfl; refine blk_put (cs := #[.bool true, .bool false, .slice none 0 0, .slice none 0 0, .slice none 0 0, .slice none 0 0, .bool false, .bool false]) ?_ 1 _ rfl; refine blk_put (cs := #[.bool false, .bool false, .slice none 0 0, .slice none 0 0, .slice none 0 0, .slice none 0 0, .bool false, .bool false]) ?_ 0 _ rfl; refine blk_far ?_ NB133_134.out _; exact BK133.out) Try.underlying25 rfl (by kernel_rfl)) rfl ?_
 exact ⟨_, .slice none 0 0, _, _, by first | rfl | (simp [errW_none, errW_some] <;> rfl) | (simp [*, errW_none, errW_some] <;> rfl), by exact Kd.R_mono (Kd.R_far (p := ⟨gb133, 7, none⟩) (Kd.R_far (p := ⟨gb133, 6, none⟩) (Kd.R_far (p := ⟨gb133, 5, none⟩) (Kd.R_far (p := ⟨gb133, 4, none⟩) (Kd.R_far (p := ⟨gb133, 3, none⟩) (Kd.R_far (p := ⟨gb133, 2, none⟩) (Kd.R_far (p := ⟨gb133, 1, none⟩) (Kd.R_far (p := ⟨gb133, 0, none⟩) (Kd.R_far (p := ⟨gb134, 5, none⟩) (Kd.R_types (Kd.R_types HO137.out BK134.out (by decide)) BK133.out (by decide)) (fun _ hk => hk.1.2) (.slice Ao24 y150.length co24)) (fun _ hk => hk.2) (.bool true)) (fun _ hk => hk.2) (.bool true)) (fun _ hk => hk.2) (.slice Ao7 y135.length co7)) (fun _ hk => hk.2) (.slice none 0 0)) (fun _ hk => hk.2) (.slice Ao11 y138.length co11)) (fun _ hk => hk.2) (.slice Ao24 y150.length co24)) (fun _ hk => hk.2) (.bool false)) (fun _ hk => hk.2) (.bool false)) (fun _ hk => ⟨hk.1.1.1.1.1.1.1, ⟨(by simp [Value.ownBlock]), hk.1.1.1.1.1.2⟩⟩), by first | exact Kd.R_nil _ _ _ _ _ | exact Kd.N_nil _ _ _ _ _ | exact Kd.V_nil _ _ _ _ _ | exact Kd.Q_nil _ _ _ _ _ | exact Kd.S_nil _ _ _ _ _, by exact Kd.R_mono (Kd.R_far (p := ⟨gb133, 7, none⟩) (Kd.R_far (p := ⟨gb133, 6, none⟩) (Kd.R_far (p := ⟨gb133, 5, none⟩) (Kd.R_far (p := ⟨gb133, 4, none⟩) (Kd.R_far (p := ⟨gb133, 3, none⟩) (Kd.R_far (p := ⟨gb133, 2, none⟩) (Kd.R_far (p := ⟨gb133, 1, none⟩) (Kd.R_far (p := ⟨gb133, 0, none⟩) (Kd.R_far (p := ⟨gb134, 5, none⟩) (Kd.R_types (Kd.R_types HO140.out BK134.out (by decide)) BK133.out (by decide)) (fun _ hk => hk.1.2) (.slice Ao24 y150.length co24)) (fun _ hk => hk.2) (.bool true)) (fun _ hk => hk.2) (.bool true)) (fun _ hk => hk.2) (.slice Ao7 y135.length co7)) (fun _ hk => hk.2) (.slice none 0 0)) (fun _ hk => hk.2) (.slice Ao11 y138.length co11)) (fun _ hk => hk.2) (.slice Ao24 y150.length co24)) (fun _ hk => hk.2) (.bool false)) (fun _ hk => hk.2) (.bool false)) (fun _ hk => ⟨hk.1.1.1.1.1.1.1, ⟨hk.1.1.1.1.1.2, (by simp [Value.ownBlock])⟩⟩), by exact Kd.N_mono (Kd.N_far (p := ⟨gb133, 7, none⟩) (Kd.N_far (p := ⟨gb133, 6, none⟩) (Kd.N_far (p := ⟨gb133, 5, none⟩) (Kd.N_far (p := ⟨gb133, 4, none⟩) (Kd.N_far (p := ⟨gb133, 3, none⟩) (Kd.N_far (p := ⟨gb133, 2, none⟩) (Kd.N_far (p := ⟨gb133, 1, none⟩) (Kd.N_far (p := ⟨gb133, 0, none⟩) (Kd.N_far (p := ⟨gb134, 5, none⟩) (Kd.N_mono (Kd.N_mono HO152.out (fun k_ hk => (⟨hk, hk.2.2.2.2⟩ : _ ∧ k_ ≠ gb134))) (fun k_ hk => (⟨hk, hk.1.2.2.2.1⟩ : _ ∧ k_ ≠ gb133))) (fun _ hk => hk.1.2) (.slice Ao24 y150.length co24)) (fun _ hk => hk.2) (.bool true)) (fun _ hk => hk.2) (.bool true)) (fun _ hk => hk.2) (.slice Ao7 y135.length co7)) (fun _ hk => hk.2) (.slice none 0 0)) (fun _ hk => hk.2) (.slice Ao11 y138.length co11)) (fun _ hk => hk.2) (.slice Ao24 y150.length co24)) (fun _ hk => hk.2) (.bool false)) (fun _ hk => hk.2) (.bool false)) (fun _ hk => ⟨hk.1.1.1, ⟨hk.1.1.2.1, ⟨(by simp [Value.ownBlock]), hk.1.1.2.2.1⟩⟩⟩), by repeat (first | (with_reducible first | exact HB.out | apply below_alloc | apply pw_below_drewN | apply below_drew1 | refine below_set ?_ GE133.out | refine below_set ?_ GE134.out) | exact HB.out)⟩

def config_Plain.f  : Option (Bool × Bool × List ByteArray × List ByteArray × List ByteArray × (List (S35)) × Bool × Bool) := some (true, true, (([(⟨#[97]⟩ : ByteArray), (⟨#[97, 98, 98, 114]⟩ : ByteArray), (⟨#[97, 114, 116, 105, 99, 108, 101]⟩ : ByteArray), (⟨#[98]⟩ : ByteArray), (⟨#[98, 108, 111, 99, 107, 113, 117, 111, 116, 101]⟩ : ByteArray), (⟨#[98, 114]⟩ : ByteArray), (⟨#[99, 111, 100, 101]⟩ : ByteArray), (⟨#[100, 100]⟩ : ByteArray), (⟨#[100, 105, 118]⟩ : ByteArray), (⟨#[100, 108]⟩ : ByteArray), (⟨#[100, 116]⟩ : ByteArray), (⟨#[101, 109]⟩ : ByteArray), (⟨#[104, 49]⟩ : ByteArray), (⟨#[104, 50]⟩ : ByteArray), (⟨#[104, 51]⟩ : ByteArray), (⟨#[104, 52]⟩ : ByteArray), (⟨#[104, 53]⟩ : ByteArray), (⟨#[104, 54]⟩ : ByteArray), (⟨#[104, 114]⟩ : ByteArray), (⟨#[105]⟩ : ByteArray), (⟨#[105, 109, 103]⟩ : ByteArray), (⟨#[108, 105]⟩ : ByteArray), (⟨#[111, 108]⟩ : ByteArray), (⟨#[112]⟩ : ByteArray), (⟨#[112, 114, 101]⟩ : ByteArray), (⟨#[115, 101, 99, 116, 105, 111, 110]⟩ : ByteArray), (⟨#[115, 112, 97, 110]⟩ : ByteArray), (⟨#[115, 116, 114, 111, 110, 103]⟩ : ByteArray), (⟨#[116, 97, 98, 108, 101]⟩ : ByteArray), (⟨#[116, 98, 111, 100, 121]⟩ : ByteArray), (⟨#[116, 100]⟩ : ByteArray), (⟨#[116, 104]⟩ : ByteArray), (⟨#[116, 104, 101, 97, 100]⟩ : ByteArray), (⟨#[116, 114]⟩ : ByteArray), (⟨#[117]⟩ : ByteArray), (⟨#[117, 108]⟩ : ByteArray)] : List ByteArray)), ([] : List ByteArray), (([(⟨#[97, 108, 116]⟩ : ByteArray), (⟨#[99, 108, 97, 115, 115]⟩ : ByteArray), (⟨#[100, 105, 114]⟩ : ByteArray), (⟨#[104, 101, 105, 103, 104, 116]⟩ : ByteArray), (⟨#[105, 100]⟩ : ByteArray), (⟨#[108, 97, 110, 103]⟩ : ByteArray), (⟨#[116, 105, 116, 108, 101]⟩ : ByteArray), (⟨#[119, 105, 100, 116, 104]⟩ : ByteArray)] : List ByteArray)), (([(⟨(⟨#[97]⟩ : ByteArray), (([(⟨#[104, 114, 101, 102]⟩ : ByteArray)] : List ByteArray))⟩ : S35), (⟨(⟨#[105, 109, 103]⟩ : ByteArray), (([(⟨#[115, 114, 99]⟩ : ByteArray)] : List ByteArray))⟩ : S35), (⟨(⟨#[116, 100]⟩ : ByteArray), (([(⟨#[99, 111, 108, 115, 112, 97, 110]⟩ : ByteArray), (⟨#[114, 111, 119, 115, 112, 97, 110]⟩ : ByteArray)] : List ByteArray))⟩ : S35)] : List (S35))), false, false)
set_option maxHeartbeats 8000000 in
set_option maxRecDepth 100000 in
theorem config_Plain.calls  (r1 : Bool) (r2 : Bool) (r3 : List ByteArray) (r4 : List ByteArray) (r5 : List ByteArray) (r6 : List (S35)) (r7 : Bool) (r8 : Bool) (w : World) (h : config_Plain.f  = some (r1, r2, r3, r4, r5, r6, r7, r8)) :
  Calls Try.prog 28 #[] w fun e w' => ∃ v2_ v3_ v4_ v5_ : Value, e = .returned (.agg #[.bool r1, .bool r2, v2_, v3_, v4_, v5_, .bool r7, .bool r8]) ∧ Kd.R Kd.string 9 w' w.heap.size (fun k_ => (w.heap.size ≤ k_) ∧ some k_ ≠ (v3_ : Value).ownBlock ∧ some k_ ≠ (v4_ : Value).ownBlock) v2_ r3 ∧ Kd.R Kd.string 9 w' w.heap.size (fun k_ => (w.heap.size ≤ k_) ∧ some k_ ≠ (v2_ : Value).ownBlock ∧ some k_ ≠ (v4_ : Value).ownBlock) v3_ r4 ∧ Kd.R Kd.string 9 w' w.heap.size (fun k_ => (w.heap.size ≤ k_) ∧ some k_ ≠ (v2_ : Value).ownBlock ∧ some k_ ≠ (v3_ : Value).ownBlock) v4_ r5 ∧ Kd.N k35 35 w' w.heap.size (fun k_ => (w.heap.size ≤ k_) ∧ some k_ ≠ (v2_ : Value).ownBlock ∧ some k_ ≠ (v3_ : Value).ownBlock ∧ some k_ ≠ (v4_ : Value).ownBlock) v5_ r6 ∧ Below w.heap.size w w' := by
 have hu25 := Try.underlying25
 have hu35 := Try.underlying35
 have HB := Aside0.mk (Below.refl w.heap.size w)
 have H : (some (true, true, (([(⟨#[97]⟩ : ByteArray), (⟨#[97, 98, 98, 114]⟩ : ByteArray), (⟨#[97, 114, 116, 105, 99, 108, 101]⟩ : ByteArray), (⟨#[98]⟩ : ByteArray), (⟨#[98, 108, 111, 99, 107, 113, 117, 111, 116, 101]⟩ : ByteArray), (⟨#[98, 114]⟩ : ByteArray), (⟨#[99, 111, 100, 101]⟩ : ByteArray), (⟨#[100, 100]⟩ : ByteArray), (⟨#[100, 105, 118]⟩ : ByteArray), (⟨#[100, 108]⟩ : ByteArray), (⟨#[100, 116]⟩ : ByteArray), (⟨#[101, 109]⟩ : ByteArray), (⟨#[104, 49]⟩ : ByteArray), (⟨#[104, 50]⟩ : ByteArray), (⟨#[104, 51]⟩ : ByteArray), (⟨#[104, 52]⟩ : ByteArray), (⟨#[104, 53]⟩ : ByteArray), (⟨#[104, 54]⟩ : ByteArray), (⟨#[104, 114]⟩ : ByteArray), (⟨#[105]⟩ : ByteArray), (⟨#[105, 109, 103]⟩ : ByteArray), (⟨#[108, 105]⟩ : ByteArray), (⟨#[111, 108]⟩ : ByteArray), (⟨#[112]⟩ : ByteArray), (⟨#[112, 114, 101]⟩ : ByteArray), (⟨#[115, 101, 99, 116, 105, 111, 110]⟩ : ByteArray), (⟨#[115, 112, 97, 110]⟩ : ByteArray), (⟨#[115, 116, 114, 111, 110, 103]⟩ : ByteArray), (⟨#[116, 97, 98, 108, 101]⟩ : ByteArray), (⟨#[116, 98, 111, 100, 121]⟩ : ByteArray), (⟨#[116, 100]⟩ : ByteArray), (⟨#[116, 104]⟩ : ByteArray), (⟨#[116, 104, 101, 97, 100]⟩ : ByteArray), (⟨#[116, 114]⟩ : ByteArray), (⟨#[117]⟩ : ByteArray), (⟨#[117, 108]⟩ : ByteArray)] : List ByteArray)), ([] : List ByteArray), (([(⟨#[97, 108, 116]⟩ : ByteArray), (⟨#[99, 108, 97, 115, 115]⟩ : ByteArray), (⟨#[100, 105, 114]⟩ : ByteArray), (⟨#[104, 101, 105, 103, 104, 116]⟩ : ByteArray), (⟨#[105, 100]⟩ : ByteArray), (⟨#[108, 97, 110, 103]⟩ : ByteArray), (⟨#[116, 105, 116, 108, 101]⟩ : ByteArray), (⟨#[119, 105, 100, 116, 104]⟩ : ByteArray)] : List ByteArray)), (([(⟨(⟨#[97]⟩ : ByteArray), (([(⟨#[104, 114, 101, 102]⟩ : ByteArray)] : List ByteArray))⟩ : S35), (⟨(⟨#[105, 109, 103]⟩ : ByteArray), (([(⟨#[115, 114, 99]⟩ : ByteArray)] : List ByteArray))⟩ : S35), (⟨(⟨#[116, 100]⟩ : ByteArray), (([(⟨#[99, 111, 108, 115, 112, 97, 110]⟩ : ByteArray), (⟨#[114, 111, 119, 115, 112, 97, 110]⟩ : ByteArray)] : List ByteArray))⟩ : S35)] : List (S35))), false, false)) = some (r1, r2, r3, r4, r5, r6, r7, r8) := h
 clear h
 obtain ⟨y154, hy154⟩ : ∃ y_ : List ByteArray, y_ = (([(⟨#[97]⟩ : ByteArray), (⟨#[97, 98, 98, 114]⟩ : ByteArray), (⟨#[97, 114, 116, 105, 99, 108, 101]⟩ : ByteArray), (⟨#[98]⟩ : ByteArray), (⟨#[98, 108, 111, 99, 107, 113, 117, 111, 116, 101]⟩ : ByteArray), (⟨#[98, 114]⟩ : ByteArray), (⟨#[99, 111, 100, 101]⟩ : ByteArray), (⟨#[100, 100]⟩ : ByteArray), (⟨#[100, 105, 118]⟩ : ByteArray), (⟨#[100, 108]⟩ : ByteArray), (⟨#[100, 116]⟩ : ByteArray), (⟨#[101, 109]⟩ : ByteArray), (⟨#[104, 49]⟩ : ByteArray), (⟨#[104, 50]⟩ : ByteArray), (⟨#[104, 51]⟩ : ByteArray), (⟨#[104, 52]⟩ : ByteArray), (⟨#[104, 53]⟩ : ByteArray), (⟨#[104, 54]⟩ : ByteArray), (⟨#[104, 114]⟩ : ByteArray), (⟨#[105]⟩ : ByteArray), (⟨#[105, 109, 103]⟩ : ByteArray), (⟨#[108, 105]⟩ : ByteArray), (⟨#[111, 108]⟩ : ByteArray), (⟨#[112]⟩ : ByteArray), (⟨#[112, 114, 101]⟩ : ByteArray), (⟨#[115, 101, 99, 116, 105, 111, 110]⟩ : ByteArray), (⟨#[115, 112, 97, 110]⟩ : ByteArray), (⟨#[115, 116, 114, 111, 110, 103]⟩ : ByteArray), (⟨#[116, 97, 98, 108, 101]⟩ : ByteArray), (⟨#[116, 98, 111, 100, 121]⟩ : ByteArray), (⟨#[116, 100]⟩ : ByteArray), (⟨#[116, 104]⟩ : ByteArray), (⟨#[116, 104, 101, 97, 100]⟩ : ByteArray), (⟨#[116, 114]⟩ : ByteArray), (⟨#[117]⟩ : ByteArray), (⟨#[117, 108]⟩ : ByteArray)] : List ByteArray)) := ⟨_, rfl⟩
 replace H : (some (true, true, y154, ([] : List ByteArray), (([(⟨#[97, 108, 116]⟩ : ByteArray), (⟨#[99, 108, 97, 115, 115]⟩ : ByteArray), (⟨#[100, 105, 114]⟩ : ByteArray), (⟨#[104, 101, 105, 103, 104, 116]⟩ : ByteArray), (⟨#[105, 100]⟩ : ByteArray), (⟨#[108, 97, 110, 103]⟩ : ByteArray), (⟨#[116, 105, 116, 108, 101]⟩ : ByteArray), (⟨#[119, 105, 100, 116, 104]⟩ : ByteArray)] : List ByteArray)), (([(⟨(⟨#[97]⟩ : ByteArray), (([(⟨#[104, 114, 101, 102]⟩ : ByteArray)] : List ByteArray))⟩ : S35), (⟨(⟨#[105, 109, 103]⟩ : ByteArray), (([(⟨#[115, 114, 99]⟩ : ByteArray)] : List ByteArray))⟩ : S35), (⟨(⟨#[116, 100]⟩ : ByteArray), (([(⟨#[99, 111, 108, 115, 112, 97, 110]⟩ : ByteArray), (⟨#[114, 111, 119, 115, 112, 97, 110]⟩ : ByteArray)] : List ByteArray))⟩ : S35)] : List (S35))), false, false)) = some (r1, r2, r3, r4, r5, r6, r7, r8) := by first | (rw [hy154]; with_reducible exact H) | (have H2_ := (Option.bind_some _ _).symm.trans H; rw [hy154]; with_reducible exact H2_) | (have H2_ := (Option.bind_some _ _).symm.trans H; with_reducible exact H2_) | with_reducible exact H | (rw [hy154]; exact H) | exact H
 have Ny154 := Aside0.mk hy154
 clear hy154
 obtain ⟨y157, hy157⟩ : ∃ y_ : List ByteArray, y_ = (([(⟨#[97, 108, 116]⟩ : ByteArray), (⟨#[99, 108, 97, 115, 115]⟩ : ByteArray), (⟨#[100, 105, 114]⟩ : ByteArray), (⟨#[104, 101, 105, 103, 104, 116]⟩ : ByteArray), (⟨#[105, 100]⟩ : ByteArray), (⟨#[108, 97, 110, 103]⟩ : ByteArray), (⟨#[116, 105, 116, 108, 101]⟩ : ByteArray), (⟨#[119, 105, 100, 116, 104]⟩ : ByteArray)] : List ByteArray)) := ⟨_, rfl⟩
 replace H : (some (true, true, y154, ([] : List ByteArray), y157, (([(⟨(⟨#[97]⟩ : ByteArray), (([(⟨#[104, 114, 101, 102]⟩ : ByteArray)] : List ByteArray))⟩ : S35), (⟨(⟨#[105, 109, 103]⟩ : ByteArray), (([(⟨#[115, 114, 99]⟩ : ByteArray)] : List ByteArray))⟩ : S35), (⟨(⟨#[116, 100]⟩ : ByteArray), (([(⟨#[99, 111, 108, 115, 112, 97, 110]⟩ : ByteArray), (⟨#[114, 111, 119, 115, 112, 97, 110]⟩ : ByteArray)] : List ByteArray))⟩ : S35)] : List (S35))), false, false)) = some (r1, r2, r3, r4, r5, r6, r7, r8) := by first | (rw [hy157]; with_reducible exact H) | (have H2_ := (Option.bind_some _ _).symm.trans H; rw [hy157]; with_reducible exact H2_) | (have H2_ := (Option.bind_some _ _).symm.trans H; with_reducible exact H2_) | with_reducible exact H | (rw [hy157]; exact H) | exact H
 have Ny157 := Aside0.mk hy157
 clear hy157
 obtain ⟨y160, hy160⟩ : ∃ y_ : List ByteArray, y_ = (([(⟨#[104, 114, 101, 102]⟩ : ByteArray)] : List ByteArray)) := ⟨_, rfl⟩
 replace H : (some (true, true, y154, ([] : List ByteArray), y157, (([(⟨(⟨#[97]⟩ : ByteArray), y160⟩ : S35), (⟨(⟨#[105, 109, 103]⟩ : ByteArray), (([(⟨#[115, 114, 99]⟩ : ByteArray)] : List ByteArray))⟩ : S35), (⟨(⟨#[116, 100]⟩ : ByteArray), (([(⟨#[99, 111, 108, 115, 112, 97, 110]⟩ : ByteArray), (⟨#[114, 111, 119, 115, 112, 97, 110]⟩ : ByteArray)] : List ByteArray))⟩ : S35)] : List (S35))), false, false)) = some (r1, r2, r3, r4, r5, r6, r7, r8) := by first | (rw [hy160]; with_reducible exact H) | (have H2_ := (Option.bind_some _ _).symm.trans H; rw [hy160]; with_reducible exact H2_) | (have H2_ := (Option.bind_some _ _).symm.trans H; with_reducible exact H2_) | with_reducible exact H | (rw [hy160]; exact H) | exact H
 have Ny160 := Aside0.mk hy160
 clear hy160
 obtain ⟨y163, hy163⟩ : ∃ y_ : List ByteArray, y_ = (([(⟨#[115, 114, 99]⟩ : ByteArray)] : List ByteArray)) := ⟨_, rfl⟩
 replace H : (some (true, true, y154, ([] : List ByteArray), y157, (([(⟨(⟨#[97]⟩ : ByteArray), y160⟩ : S35), (⟨(⟨#[105, 109, 103]⟩ : ByteArray), y163⟩ : S35), (⟨(⟨#[116, 100]⟩ : ByteArray), (([(⟨#[99, 111, 108, 115, 112, 97, 110]⟩ : ByteArray), (⟨#[114, 111, 119, 115, 112, 97, 110]⟩ : ByteArray)] : List ByteArray))⟩ : S35)] : List (S35))), false, false)) = some (r1, r2, r3, r4, r5, r6, r7, r8) := by first | (rw [hy163]; with_reducible exact H) | (have H2_ := (Option.bind_some _ _).symm.trans H; rw [hy163]; with_reducible exact H2_) | (have H2_ := (Option.bind_some _ _).symm.trans H; with_reducible exact H2_) | with_reducible exact H | (rw [hy163]; exact H) | exact H
 have Ny163 := Aside0.mk hy163
 clear hy163
 obtain ⟨y166, hy166⟩ : ∃ y_ : List ByteArray, y_ = (([(⟨#[99, 111, 108, 115, 112, 97, 110]⟩ : ByteArray), (⟨#[114, 111, 119, 115, 112, 97, 110]⟩ : ByteArray)] : List ByteArray)) := ⟨_, rfl⟩
 replace H : (some (true, true, y154, ([] : List ByteArray), y157, (([(⟨(⟨#[97]⟩ : ByteArray), y160⟩ : S35), (⟨(⟨#[105, 109, 103]⟩ : ByteArray), y163⟩ : S35), (⟨(⟨#[116, 100]⟩ : ByteArray), y166⟩ : S35)] : List (S35))), false, false)) = some (r1, r2, r3, r4, r5, r6, r7, r8) := by first | (rw [hy166]; with_reducible exact H) | (have H2_ := (Option.bind_some _ _).symm.trans H; rw [hy166]; with_reducible exact H2_) | (have H2_ := (Option.bind_some _ _).symm.trans H; with_reducible exact H2_) | with_reducible exact H | (rw [hy166]; exact H) | exact H
 have Ny166 := Aside0.mk hy166
 clear hy166
 obtain ⟨y169, hy169⟩ : ∃ y_ : List (S35), y_ = (([(⟨(⟨#[97]⟩ : ByteArray), y160⟩ : S35), (⟨(⟨#[105, 109, 103]⟩ : ByteArray), y163⟩ : S35), (⟨(⟨#[116, 100]⟩ : ByteArray), y166⟩ : S35)] : List (S35))) := ⟨_, rfl⟩
 replace H : (some (true, true, y154, ([] : List ByteArray), y157, y169, false, false)) = some (r1, r2, r3, r4, r5, r6, r7, r8) := by first | (rw [hy169]; with_reducible exact H) | (have H2_ := (Option.bind_some _ _).symm.trans H; rw [hy169]; with_reducible exact H2_) | (have H2_ := (Option.bind_some _ _).symm.trans H; with_reducible exact H2_) | with_reducible exact H | (rw [hy169]; exact H) | exact H
 have Ny169 := Aside0.mk hy169
 clear hy169
 simp only [Option.some.injEq, Prod.mk.injEq] at H
 obtain ⟨rfl, rfl, rfl, rfl, rfl, rfl, rfl, rfl⟩ := H
 go_enter Try.func28, Try.ntmps28
 go_wp2_with (first | ((with_reducible refine gate_dst (N := 0) rfl ?_); refine box_event ?hg (N := 0) ?hd (cs := #[.bool false, .bool false, .slice none 0 0, .slice none 0 0, .slice none 0 0, .slice none 0 0, .bool false, .bool false]) (t := 25) ?hr ?_; (case hd => rfl); (case hg => rfl); (case hr => first | (go_simp; done) | (go_simp; rfl)); intro gb153 hg w1 hbox hb; have n0_ := Aside0.mk (below_step (by repeat (first | (with_reducible first | exact HB.out | apply below_alloc | apply pw_below_drewN | apply below_drew1) | exact HB.out)) hb); have n1_ := Aside0.mk (hbox); have n2_ := Aside0.mk ((by rw [hg]; exact (below_size (by repeat (first | (with_reducible first | exact HB.out | apply below_alloc | apply pw_below_drewN | apply below_drew1) | exact HB.out))) : w.heap.size ≤ gb153)); have n3_ := Aside0.mk ((by rw [hg]; exact (below_size (by repeat (first | (with_reducible first | exact HB.out | apply below_alloc | apply pw_below_drewN | apply below_drew1) | exact HB.out))) : w.heap.size ≤ gb153)); clear HB; have HB := n0_; have BK153 := n1_; have GW153 := n2_; have GE153 := n3_; clear n0_ n1_ n2_ n3_; clear hb hbox hg) | ((with_reducible refine gate_dst (N := 1) rfl ?_); refine Kd.R_lit Kd.string _ 9 ?hg (N := 1) ?hd (xs := ([(⟨#[97]⟩ : ByteArray), (⟨#[97, 98, 98, 114]⟩ : ByteArray), (⟨#[97, 114, 116, 105, 99, 108, 101]⟩ : ByteArray), (⟨#[98]⟩ : ByteArray), (⟨#[98, 108, 111, 99, 107, 113, 117, 111, 116, 101]⟩ : ByteArray), (⟨#[98, 114]⟩ : ByteArray), (⟨#[99, 111, 100, 101]⟩ : ByteArray), (⟨#[100, 100]⟩ : ByteArray), (⟨#[100, 105, 118]⟩ : ByteArray), (⟨#[100, 108]⟩ : ByteArray), (⟨#[100, 116]⟩ : ByteArray), (⟨#[101, 109]⟩ : ByteArray), (⟨#[104, 49]⟩ : ByteArray), (⟨#[104, 50]⟩ : ByteArray), (⟨#[104, 51]⟩ : ByteArray), (⟨#[104, 52]⟩ : ByteArray), (⟨#[104, 53]⟩ : ByteArray), (⟨#[104, 54]⟩ : ByteArray), (⟨#[104, 114]⟩ : ByteArray), (⟨#[105]⟩ : ByteArray), (⟨#[105, 109, 103]⟩ : ByteArray), (⟨#[108, 105]⟩ : ByteArray), (⟨#[111, 108]⟩ : ByteArray), (⟨#[112]⟩ : ByteArray), (⟨#[112, 114, 101]⟩ : ByteArray), (⟨#[115, 101, 99, 116, 105, 111, 110]⟩ : ByteArray), (⟨#[115, 112, 97, 110]⟩ : ByteArray), (⟨#[115, 116, 114, 111, 110, 103]⟩ : ByteArray), (⟨#[116, 97, 98, 108, 101]⟩ : ByteArray), (⟨#[116, 98, 111, 100, 121]⟩ : ByteArray), (⟨#[116, 100]⟩ : ByteArray), (⟨#[116, 104]⟩ : ByteArray), (⟨#[116, 104, 101, 97, 100]⟩ : ByteArray), (⟨#[116, 114]⟩ : ByteArray), (⟨#[117]⟩ : ByteArray), (⟨#[117, 108]⟩ : ByteArray)] : List ByteArray)) (inner := [.string (⟨#[97]⟩ : ByteArray), .string (⟨#[97, 98, 98, 114]⟩ : ByteArray), .string (⟨#[97, 114, 116, 105, 99, 108, 101]⟩ : ByteArray), .string (⟨#[98]⟩ : ByteArray), .string (⟨#[98, 108, 111, 99, 107, 113, 117, 111, 116, 101]⟩ : ByteArray), .string (⟨#[98, 114]⟩ : ByteArray), .string (⟨#[99, 111, 100, 101]⟩ : ByteArray), .string (⟨#[100, 100]⟩ : ByteArray), .string (⟨#[100, 105, 118]⟩ : ByteArray), .string (⟨#[100, 108]⟩ : ByteArray), .string (⟨#[100, 116]⟩ : ByteArray), .string (⟨#[101, 109]⟩ : ByteArray), .string (⟨#[104, 49]⟩ : ByteArray), .string (⟨#[104, 50]⟩ : ByteArray), .string (⟨#[104, 51]⟩ : ByteArray), .string (⟨#[104, 52]⟩ : ByteArray), .string (⟨#[104, 53]⟩ : ByteArray), .string (⟨#[104, 54]⟩ : ByteArray), .string (⟨#[104, 114]⟩ : ByteArray), .string (⟨#[105]⟩ : ByteArray), .string (⟨#[105, 109, 103]⟩ : ByteArray), .string (⟨#[108, 105]⟩ : ByteArray), .string (⟨#[111, 108]⟩ : ByteArray), .string (⟨#[112]⟩ : ByteArray), .string (⟨#[112, 114, 101]⟩ : ByteArray), .string (⟨#[115, 101, 99, 116, 105, 111, 110]⟩ : ByteArray), .string (⟨#[115, 112, 97, 110]⟩ : ByteArray), .string (⟨#[115, 116, 114, 111, 110, 103]⟩ : ByteArray), .string (⟨#[116, 97, 98, 108, 101]⟩ : ByteArray), .string (⟨#[116, 98, 111, 100, 121]⟩ : ByteArray), .string (⟨#[116, 100]⟩ : ByteArray), .string (⟨#[116, 104]⟩ : ByteArray), .string (⟨#[116, 104, 101, 97, 100]⟩ : ByteArray), .string (⟨#[116, 114]⟩ : ByteArray), .string (⟨#[117]⟩ : ByteArray), .string (⟨#[117, 108]⟩ : ByteArray)]) (ok := fun _ => True) (okp := fun _ => True) ?hr ?hp (fun _ hk => hk) trivial (Below.refl _ _) (Nat.le_refl _) (by simp) ?_; (case hd => rfl); (case hg => rfl); (case hr => first | (go_simp; done) | (go_simp; rfl)); (case hp => exact (Reps.one (show Kd.M Kd.string _ _ _ (⟨#[97]⟩ : ByteArray) [.string (⟨#[97]⟩ : ByteArray)] from rfl) (Reps.one (show Kd.M Kd.string _ _ _ (⟨#[97, 98, 98, 114]⟩ : ByteArray) [.string (⟨#[97, 98, 98, 114]⟩ : ByteArray)] from rfl) (Reps.one (show Kd.M Kd.string _ _ _ (⟨#[97, 114, 116, 105, 99, 108, 101]⟩ : ByteArray) [.string (⟨#[97, 114, 116, 105, 99, 108, 101]⟩ : ByteArray)] from rfl) (Reps.one (show Kd.M Kd.string _ _ _ (⟨#[98]⟩ : ByteArray) [.string (⟨#[98]⟩ : ByteArray)] from rfl) (Reps.one (show Kd.M Kd.string _ _ _ (⟨#[98, 108, 111, 99, 107, 113, 117, 111, 116, 101]⟩ : ByteArray) [.string (⟨#[98, 108, 111, 99, 107, 113, 117, 111, 116, 101]⟩ : ByteArray)] from rfl) (Reps.one (show Kd.M Kd.string _ _ _ (⟨#[98, 114]⟩ : ByteArray) [.string (⟨#[98, 114]⟩ : ByteArray)] from rfl) (Reps.one (show Kd.M Kd.string _ _ _ (⟨#[99, 111, 100, 101]⟩ : ByteArray) [.string (⟨#[99, 111, 100, 101]⟩ : ByteArray)] from rfl) (Reps.one (show Kd.M Kd.string _ _ _ (⟨#[100, 100]⟩ : ByteArray) [.string (⟨#[100, 100]⟩ : ByteArray)] from rfl) (Reps.one (show Kd.M Kd.string _ _ _ (⟨#[100, 105, 118]⟩ : ByteArray) [.string (⟨#[100, 105, 118]⟩ : ByteArray)] from rfl) (Reps.one (show Kd.M Kd.string _ _ _ (⟨#[100, 108]⟩ : ByteArray) [.string (⟨#[100, 108]⟩ : ByteArray)] from rfl) (Reps.one (show Kd.M Kd.string _ _ _ (⟨#[100, 116]⟩ : ByteArray) [.string (⟨#[100, 116]⟩ : ByteArray)] from rfl) (Reps.one (show Kd.M Kd.string _ _ _ (⟨#[101, 109]⟩ : ByteArray) [.string (⟨#[101, 109]⟩ : ByteArray)] from rfl) (Reps.one (show Kd.M Kd.string _ _ _ (⟨#[104, 49]⟩ : ByteArray) [.string (⟨#[104, 49]⟩ : ByteArray)] from rfl) (Reps.one (show Kd.M Kd.string _ _ _ (⟨#[104, 50]⟩ : ByteArray) [.string (⟨#[104, 50]⟩ : ByteArray)] from rfl) (Reps.one (show Kd.M Kd.string _ _ _ (⟨#[104, 51]⟩ : ByteArray) [.string (⟨#[104, 51]⟩ : ByteArray)] from rfl) (Reps.one (show Kd.M Kd.string _ _ _ (⟨#[104, 52]⟩ : ByteArray) [.string (⟨#[104, 52]⟩ : ByteArray)] from rfl) (Reps.one (show Kd.M Kd.string _ _ _ (⟨#[104, 53]⟩ : ByteArray) [.string (⟨#[104, 53]⟩ : ByteArray)] from rfl) (Reps.one (show Kd.M Kd.string _ _ _ (⟨#[104, 54]⟩ : ByteArray) [.string (⟨#[104, 54]⟩ : ByteArray)] from rfl) (Reps.one (show Kd.M Kd.string _ _ _ (⟨#[104, 114]⟩ : ByteArray) [.string (⟨#[104, 114]⟩ : ByteArray)] from rfl) (Reps.one (show Kd.M Kd.string _ _ _ (⟨#[105]⟩ : ByteArray) [.string (⟨#[105]⟩ : ByteArray)] from rfl) (Reps.one (show Kd.M Kd.string _ _ _ (⟨#[105, 109, 103]⟩ : ByteArray) [.string (⟨#[105, 109, 103]⟩ : ByteArray)] from rfl) (Reps.one (show Kd.M Kd.string _ _ _ (⟨#[108, 105]⟩ : ByteArray) [.string (⟨#[108, 105]⟩ : ByteArray)] from rfl) (Reps.one (show Kd.M Kd.string _ _ _ (⟨#[111, 108]⟩ : ByteArray) [.string (⟨#[111, 108]⟩ : ByteArray)] from rfl) (Reps.one (show Kd.M Kd.string _ _ _ (⟨#[112]⟩ : ByteArray) [.string (⟨#[112]⟩ : ByteArray)] from rfl) (Reps.one (show Kd.M Kd.string _ _ _ (⟨#[112, 114, 101]⟩ : ByteArray) [.string (⟨#[112, 114, 101]⟩ : ByteArray)] from rfl) (Reps.one (show Kd.M Kd.string _ _ _ (⟨#[115, 101, 99, 116, 105, 111, 110]⟩ : ByteArray) [.string (⟨#[115, 101, 99, 116, 105, 111, 110]⟩ : ByteArray)] from rfl) (Reps.one (show Kd.M Kd.string _ _ _ (⟨#[115, 112, 97, 110]⟩ : ByteArray) [.string (⟨#[115, 112, 97, 110]⟩ : ByteArray)] from rfl) (Reps.one (show Kd.M Kd.string _ _ _ (⟨#[115, 116, 114, 111, 110, 103]⟩ : ByteArray) [.string (⟨#[115, 116, 114, 111, 110, 103]⟩ : ByteArray)] from rfl) (Reps.one (show Kd.M Kd.string _ _ _ (⟨#[116, 97, 98, 108, 101]⟩ : ByteArray) [.string (⟨#[116, 97, 98, 108, 101]⟩ : ByteArray)] from rfl) (Reps.one (show Kd.M Kd.string _ _ _ (⟨#[116, 98, 111, 100, 121]⟩ : ByteArray) [.string (⟨#[116, 98, 111, 100, 121]⟩ : ByteArray)] from rfl) (Reps.one (show Kd.M Kd.string _ _ _ (⟨#[116, 100]⟩ : ByteArray) [.string (⟨#[116, 100]⟩ : ByteArray)] from rfl) (Reps.one (show Kd.M Kd.string _ _ _ (⟨#[116, 104]⟩ : ByteArray) [.string (⟨#[116, 104]⟩ : ByteArray)] from rfl) (Reps.one (show Kd.M Kd.string _ _ _ (⟨#[116, 104, 101, 97, 100]⟩ : ByteArray) [.string (⟨#[116, 104, 101, 97, 100]⟩ : ByteArray)] from rfl) (Reps.one (show Kd.M Kd.string _ _ _ (⟨#[116, 114]⟩ : ByteArray) [.string (⟨#[116, 114]⟩ : ByteArray)] from rfl) (Reps.one (show Kd.M Kd.string _ _ _ (⟨#[117]⟩ : ByteArray) [.string (⟨#[117]⟩ : ByteArray)] from rfl) (Reps.one (show Kd.M Kd.string _ _ _ (⟨#[117, 108]⟩ : ByteArray) [.string (⟨#[117, 108]⟩ : ByteArray)] from rfl) (Reps.none _ _)))))))))))))))))))))))))))))))))))))); intro v155 w2 ho3 hb hg_ hnew_; clear hg_ hnew_; (first | rw [← Ny154.out] at ho3 | (simp only [Int.reduceToNat] at ho3; rw [← Ny154.out] at ho3)); have n0_ := Aside0.mk (Kd.R_lower (Kd.R_newM (M := fun k_ => (w.heap.size ≤ k_)) ho3 (below_size (by repeat (first | (with_reducible first | exact HB.out | apply below_alloc | apply pw_below_drewN | apply below_drew1 | refine below_set ?_ GE153.out) | exact HB.out))) (fun k_ h_ => h_)) (below_size (by repeat (first | (with_reducible first | exact HB.out | apply below_alloc | apply pw_below_drewN | apply below_drew1 | refine below_set ?_ GE153.out) | exact HB.out)))); have n1_ := Aside0.mk (blk_below (g := gb153) (o := .cells #[.bool false, .bool false, .slice none 0 0, .slice none 0 0, .slice none 0 0, .slice none 0 0, .bool false, .bool false] 25 (0, 0)) (by exact BK153.out) hb); have n2_ := Aside0.mk (below_step (by repeat (first | (with_reducible first | exact HB.out | apply below_alloc | apply pw_below_drewN | apply below_drew1 | refine below_set ?_ GE153.out) | exact HB.out)) hb); clear BK153; clear HB; have HO156 := n0_; have BK153 := n1_; have HB := n2_; clear n0_ n1_ n2_; clear hb ho3) | ((with_reducible refine gate_dst (N := 2) rfl ?_); refine Kd.R_lit Kd.string _ 9 ?hg (N := 2) ?hd (xs := ([(⟨#[97, 108, 116]⟩ : ByteArray), (⟨#[99, 108, 97, 115, 115]⟩ : ByteArray), (⟨#[100, 105, 114]⟩ : ByteArray), (⟨#[104, 101, 105, 103, 104, 116]⟩ : ByteArray), (⟨#[105, 100]⟩ : ByteArray), (⟨#[108, 97, 110, 103]⟩ : ByteArray), (⟨#[116, 105, 116, 108, 101]⟩ : ByteArray), (⟨#[119, 105, 100, 116, 104]⟩ : ByteArray)] : List ByteArray)) (inner := [.string (⟨#[97, 108, 116]⟩ : ByteArray), .string (⟨#[99, 108, 97, 115, 115]⟩ : ByteArray), .string (⟨#[100, 105, 114]⟩ : ByteArray), .string (⟨#[104, 101, 105, 103, 104, 116]⟩ : ByteArray), .string (⟨#[105, 100]⟩ : ByteArray), .string (⟨#[108, 97, 110, 103]⟩ : ByteArray), .string (⟨#[116, 105, 116, 108, 101]⟩ : ByteArray), .string (⟨#[119, 105, 100, 116, 104]⟩ : ByteArray)]) (ok := fun _ => True) (okp := fun _ => True) ?hr ?hp (fun _ hk => hk) trivial (Below.refl _ _) (Nat.le_refl _) (by simp) ?_; (case hd => rfl); (case hg => rfl); (case hr => first | (go_simp; done) | (go_simp; rfl)); (case hp => exact (Reps.one (show Kd.M Kd.string _ _ _ (⟨#[97, 108, 116]⟩ : ByteArray) [.string (⟨#[97, 108, 116]⟩ : ByteArray)] from rfl) (Reps.one (show Kd.M Kd.string _ _ _ (⟨#[99, 108, 97, 115, 115]⟩ : ByteArray) [.string (⟨#[99, 108, 97, 115, 115]⟩ : ByteArray)] from rfl) (Reps.one (show Kd.M Kd.string _ _ _ (⟨#[100, 105, 114]⟩ : ByteArray) [.string (⟨#[100, 105, 114]⟩ : ByteArray)] from rfl) (Reps.one (show Kd.M Kd.string _ _ _ (⟨#[104, 101, 105, 103, 104, 116]⟩ : ByteArray) [.string (⟨#[104, 101, 105, 103, 104, 116]⟩ : ByteArray)] from rfl) (Reps.one (show Kd.M Kd.string _ _ _ (⟨#[105, 100]⟩ : ByteArray) [.string (⟨#[105, 100]⟩ : ByteArray)] from rfl) (Reps.one (show Kd.M Kd.string _ _ _ (⟨#[108, 97, 110, 103]⟩ : ByteArray) [.string (⟨#[108, 97, 110, 103]⟩ : ByteArray)] from rfl) (Reps.one (show Kd.M Kd.string _ _ _ (⟨#[116, 105, 116, 108, 101]⟩ : ByteArray) [.string (⟨#[116, 105, 116, 108, 101]⟩ : ByteArray)] from rfl) (Reps.one (show Kd.M Kd.string _ _ _ (⟨#[119, 105, 100, 116, 104]⟩ : ByteArray) [.string (⟨#[119, 105, 100, 116, 104]⟩ : ByteArray)] from rfl) (Reps.none _ _)))))))))); intro v158 w4 ho5 hb hg_ hnew_; clear hg_ hnew_; (first | rw [← Ny157.out] at ho5 | (simp only [Int.reduceToNat] at ho5; rw [← Ny157.out] at ho5)); have n0_ := Aside0.mk (Kd.R_elder' (by exact HO156.out) (Kd.R_base ho5) hb); have n1_ := Aside0.mk (Kd.R_lower (Kd.R_new' (Kd.R_newM (M := fun k_ => (w.heap.size ≤ k_)) ho5 (below_size (by repeat (first | (with_reducible first | exact HB.out | apply below_alloc | apply pw_below_drewN | apply below_drew1 | refine below_set ?_ GE153.out) | exact HB.out))) (fun k_ h_ => h_)) (Kd.R_lt (by exact HO156.out))) (below_size (by repeat (first | (with_reducible first | exact HB.out | apply below_alloc | apply pw_below_drewN | apply below_drew1 | refine below_set ?_ GE153.out) | exact HB.out)))); have n2_ := Aside0.mk (blk_below (g := gb153) (o := .cells #[.bool false, .bool false, .slice none 0 0, .slice none 0 0, .slice none 0 0, .slice none 0 0, .bool false, .bool false] 25 (0, 0)) (by exact BK153.out) hb); have n3_ := Aside0.mk (below_step (by repeat (first | (with_reducible first | exact HB.out | apply below_alloc | apply pw_below_drewN | apply below_drew1 | refine below_set ?_ GE153.out) | exact HB.out)) hb); clear HO156; clear BK153; clear HB; have HO156 := n0_; have HO159 := n1_; have BK153 := n2_; have HB := n3_; clear n0_ n1_ n2_ n3_; clear hb ho5) | ((with_reducible refine gate_dst (N := 3) rfl ?_); refine Kd.R_lit Kd.string _ 9 ?hg (N := 3) ?hd (xs := ([(⟨#[104, 114, 101, 102]⟩ : ByteArray)] : List ByteArray)) (inner := [.string (⟨#[104, 114, 101, 102]⟩ : ByteArray)]) (ok := fun _ => True) (okp := fun _ => True) ?hr ?hp (fun _ hk => hk) trivial (Below.refl _ _) (Nat.le_refl _) (by simp) ?_; (case hd => rfl); (case hg => rfl); (case hr => first | (go_simp; done) | (go_simp; rfl)); (case hp => exact (Reps.one (show Kd.M Kd.string _ _ _ (⟨#[104, 114, 101, 102]⟩ : ByteArray) [.string (⟨#[104, 114, 101, 102]⟩ : ByteArray)] from rfl) (Reps.none _ _))); intro v161 w6 ho7 hb hg_ hnew_; clear hg_ hnew_; (first | rw [← Ny160.out] at ho7 | (simp only [Int.reduceToNat] at ho7; rw [← Ny160.out] at ho7)); have n0_ := Aside0.mk (Kd.R_elder' (by exact HO156.out) (Kd.R_base ho7) hb); have n1_ := Aside0.mk (Kd.R_elder' (by exact HO159.out) (Kd.R_base ho7) hb); have n2_ := Aside0.mk (Kd.R_lower (Kd.R_new' (Kd.R_new' (Kd.R_newM (M := fun k_ => (w.heap.size ≤ k_)) ho7 (below_size (by repeat (first | (with_reducible first | exact HB.out | apply below_alloc | apply pw_below_drewN | apply below_drew1 | refine below_set ?_ GE153.out) | exact HB.out))) (fun k_ h_ => h_)) (Kd.R_lt (by exact HO156.out))) (Kd.R_lt (by exact HO159.out))) (below_size (by repeat (first | (with_reducible first | exact HB.out | apply below_alloc | apply pw_below_drewN | apply below_drew1 | refine below_set ?_ GE153.out) | exact HB.out)))); have n3_ := Aside0.mk (blk_below (g := gb153) (o := .cells #[.bool false, .bool false, .slice none 0 0, .slice none 0 0, .slice none 0 0, .slice none 0 0, .bool false, .bool false] 25 (0, 0)) (by exact BK153.out) hb); have n4_ := Aside0.mk (below_step (by repeat (first | (with_reducible first | exact HB.out | apply below_alloc | apply pw_below_drewN | apply below_drew1 | refine below_set ?_ GE153.out) | exact HB.out)) hb); clear HO156; clear HO159; clear BK153; clear HB; have HO156 := n0_; have HO159 := n1_; have HO162 := n2_; have BK153 := n3_; have HB := n4_; clear n0_ n1_ n2_ n3_ n4_; clear hb ho7; obtain ⟨Ao8, co8, eo8⟩ := Kd.R_slice HO162.out; subst eo8) | ((with_reducible refine gate_dst (N := 5) rfl ?_); refine Kd.R_lit Kd.string _ 9 ?hg (N := 5) ?hd (xs := ([(⟨#[115, 114, 99]⟩ : ByteArray)] : List ByteArray)) (inner := [.string (⟨#[115, 114, 99]⟩ : ByteArray)]) (ok := fun _ => True) (okp := fun _ => True) ?hr ?hp (fun _ hk => hk) trivial (Below.refl _ _) (Nat.le_refl _) (by simp) ?_; (case hd => rfl); (case hg => rfl); (case hr => first | (go_simp; done) | (go_simp; rfl)); (case hp => exact (Reps.one (show Kd.M Kd.string _ _ _ (⟨#[115, 114, 99]⟩ : ByteArray) [.string (⟨#[115, 114, 99]⟩ : ByteArray)] from rfl) (Reps.none _ _))); intro v164 w9 ho10 hb hg_ hnew_; clear hg_ hnew_; (first | rw [← Ny163.out] at ho10 | (simp only [Int.reduceToNat] at ho10; rw [← Ny163.out] at ho10)); have n0_ := Aside0.mk (Kd.R_elder' (by exact HO156.out) (Kd.R_base ho10) hb); have n1_ := Aside0.mk (Kd.R_elder' (by exact HO159.out) (Kd.R_base ho10) hb); have n2_ := Aside0.mk (Kd.R_elder' (by exact HO162.out) (Kd.R_base ho10) hb); have n3_ := Aside0.mk (Kd.R_lower (Kd.R_new' (Kd.R_new' (Kd.R_new' (Kd.R_newM (M := fun k_ => (w.heap.size ≤ k_)) ho10 (below_size (by repeat (first | (with_reducible first | exact HB.out | apply below_alloc | apply pw_below_drewN | apply below_drew1 | refine below_set ?_ GE153.out) | exact HB.out))) (fun k_ h_ => h_)) (Kd.R_lt (by exact HO156.out))) (Kd.R_lt (by exact HO159.out))) (Kd.R_lt (by exact HO162.out))) (below_size (by repeat (first | (with_reducible first | exact HB.out | apply below_alloc | apply pw_below_drewN | apply below_drew1 | refine below_set ?_ GE153.out) | exact HB.out)))); have n4_ := Aside0.mk (blk_below (g := gb153) (o := .cells #[.bool false, .bool false, .slice none 0 0, .slice none 0 0, .slice none 0 0, .slice none 0 0, .bool false, .bool false] 25 (0, 0)) (by exact BK153.out) hb); have n5_ := Aside0.mk (below_step (by repeat (first | (with_reducible first | exact HB.out | apply below_alloc | apply pw_below_drewN | apply below_drew1 | refine below_set ?_ GE153.out) | exact HB.out)) hb); clear HO156; clear HO159; clear HO162; clear BK153; clear HB; have HO156 := n0_; have HO159 := n1_; have HO162 := n2_; have HO165 := n3_; have BK153 := n4_; have HB := n5_; clear n0_ n1_ n2_ n3_ n4_ n5_; clear hb ho10; obtain ⟨Ao11, co11, eo11⟩ := Kd.R_slice HO165.out; subst eo11) | ((with_reducible refine gate_dst (N := 7) rfl ?_); refine Kd.R_lit Kd.string _ 9 ?hg (N := 7) ?hd (xs := ([(⟨#[99, 111, 108, 115, 112, 97, 110]⟩ : ByteArray), (⟨#[114, 111, 119, 115, 112, 97, 110]⟩ : ByteArray)] : List ByteArray)) (inner := [.string (⟨#[99, 111, 108, 115, 112, 97, 110]⟩ : ByteArray), .string (⟨#[114, 111, 119, 115, 112, 97, 110]⟩ : ByteArray)]) (ok := fun _ => True) (okp := fun _ => True) ?hr ?hp (fun _ hk => hk) trivial (Below.refl _ _) (Nat.le_refl _) (by simp) ?_; (case hd => rfl); (case hg => rfl); (case hr => first | (go_simp; done) | (go_simp; rfl)); (case hp => exact (Reps.one (show Kd.M Kd.string _ _ _ (⟨#[99, 111, 108, 115, 112, 97, 110]⟩ : ByteArray) [.string (⟨#[99, 111, 108, 115, 112, 97, 110]⟩ : ByteArray)] from rfl) (Reps.one (show Kd.M Kd.string _ _ _ (⟨#[114, 111, 119, 115, 112, 97, 110]⟩ : ByteArray) [.string (⟨#[114, 111, 119, 115, 112, 97, 110]⟩ : ByteArray)] from rfl) (Reps.none _ _)))); intro v167 w12 ho13 hb hg_ hnew_; clear hg_ hnew_; (first | rw [← Ny166.out] at ho13 | (simp only [Int.reduceToNat] at ho13; rw [← Ny166.out] at ho13)); have n0_ := Aside0.mk (Kd.R_elder' (by exact HO156.out) (Kd.R_base ho13) hb); have n1_ := Aside0.mk (Kd.R_elder' (by exact HO159.out) (Kd.R_base ho13) hb); have n2_ := Aside0.mk (Kd.R_elder' (by exact HO162.out) (Kd.R_base ho13) hb); have n3_ := Aside0.mk (Kd.R_elder' (by exact HO165.out) (Kd.R_base ho13) hb); have n4_ := Aside0.mk (Kd.R_lower (Kd.R_new' (Kd.R_new' (Kd.R_new' (Kd.R_new' (Kd.R_newM (M := fun k_ => (w.heap.size ≤ k_)) ho13 (below_size (by repeat (first | (with_reducible first | exact HB.out | apply below_alloc | apply pw_below_drewN | apply below_drew1 | refine below_set ?_ GE153.out) | exact HB.out))) (fun k_ h_ => h_)) (Kd.R_lt (by exact HO156.out))) (Kd.R_lt (by exact HO159.out))) (Kd.R_lt (by exact HO162.out))) (Kd.R_lt (by exact HO165.out))) (below_size (by repeat (first | (with_reducible first | exact HB.out | apply below_alloc | apply pw_below_drewN | apply below_drew1 | refine below_set ?_ GE153.out) | exact HB.out)))); have n5_ := Aside0.mk (blk_below (g := gb153) (o := .cells #[.bool false, .bool false, .slice none 0 0, .slice none 0 0, .slice none 0 0, .slice none 0 0, .bool false, .bool false] 25 (0, 0)) (by exact BK153.out) hb); have n6_ := Aside0.mk (below_step (by repeat (first | (with_reducible first | exact HB.out | apply below_alloc | apply pw_below_drewN | apply below_drew1 | refine below_set ?_ GE153.out) | exact HB.out)) hb); clear HO156; clear HO159; clear HO162; clear HO165; clear BK153; clear HB; have HO156 := n0_; have HO159 := n1_; have HO162 := n2_; have HO165 := n3_; have HO168 := n4_; have BK153 := n5_; have HB := n6_; clear n0_ n1_ n2_ n3_ n4_ n5_ n6_; clear hb ho13; obtain ⟨Ao14, co14, eo14⟩ := Kd.R_slice HO168.out; subst eo14) | ((with_reducible refine gate_dst (N := 9) rfl ?_); refine Kd.N_lit k35 _ 35 ?hg (N' := 9) ?hd (xs := ([(⟨(⟨#[97]⟩ : ByteArray), y160⟩ : S35), (⟨(⟨#[105, 109, 103]⟩ : ByteArray), y163⟩ : S35), (⟨(⟨#[116, 100]⟩ : ByteArray), y166⟩ : S35)] : List (S35))) (inner := [.string (⟨#[97]⟩ : ByteArray), .slice Ao8 y160.length co8, .string (⟨#[105, 109, 103]⟩ : ByteArray), .slice Ao11 y163.length co11, .string (⟨#[116, 100]⟩ : ByteArray), .slice Ao14 y166.length co14]) (ok := (fun k_ => (w.heap.size ≤ k_) ∧ some k_ ≠ (v155 : Value).ownBlock ∧ some k_ ≠ (v158 : Value).ownBlock ∧ k_ ≠ gb153)) (okp := (fun k_ => (w.heap.size ≤ k_) ∧ some k_ ≠ (v155 : Value).ownBlock ∧ some k_ ≠ (v158 : Value).ownBlock ∧ k_ ≠ gb153)) ?hr ?hp (fun _ hk => hk) ((show ∀ k_, w12.heap.size ≤ k_ → (fun k_ => (w.heap.size ≤ k_) ∧ some k_ ≠ (v155 : Value).ownBlock ∧ some k_ ≠ (v158 : Value).ownBlock ∧ k_ ≠ gb153) k_ from fun k_ hk => ⟨(Nat.le_trans (below_size (by repeat (first | (with_reducible first | exact HB.out | apply below_alloc | apply pw_below_drewN | apply below_drew1 | refine below_set ?_ GE153.out) | exact HB.out))) hk), Kd.fresh' (Kd.R_lt (by exact HO156.out)) k_ hk, Kd.fresh' (Kd.R_lt (by exact HO159.out)) k_ hk, Kd.freshB (g := gb153) (o := .cells #[.bool false, .bool false, .slice none 0 0, .slice none 0 0, .slice none 0 0, .slice none 0 0, .bool false, .bool false] 25 (0, 0)) (by exact BK153.out) k_ hk⟩) _ (Nat.le_refl _)) (Below.refl _ _) (Nat.le_refl _) (by simp) ?_; (case hd => rfl); (case hg => rfl); (case hr => first | (go_simp; done) | (go_simp; rfl)); (case hp => exact (Reps.c2 (show Kd.FK k35 _ _ (⟨(⟨#[97]⟩ : ByteArray), y160⟩ : S35) [.string (⟨#[97]⟩ : ByteArray), .slice Ao8 y160.length co8] from (k35_mkF _ _ (⟨(⟨#[97]⟩ : ByteArray), y160⟩ : S35) (Kd.R_reads' (Kd.R_mono (ok' := (fun k_ => (w.heap.size ≤ k_) ∧ some k_ ≠ (v155 : Value).ownBlock ∧ some k_ ≠ (v158 : Value).ownBlock ∧ k_ ≠ gb153)) (Kd.R_types (HO162.out) BK153.out (by decide)) (fun k_ hk => ⟨hk.1.1.1.1.1.1, ⟨hk.1.1.1.1.2, ⟨hk.1.1.1.2, hk.2⟩⟩⟩))).2.1 (Kd.R_F (Kd.R_mono (ok' := (fun k_ => (w.heap.size ≤ k_) ∧ some k_ ≠ (v155 : Value).ownBlock ∧ some k_ ≠ (v158 : Value).ownBlock ∧ k_ ≠ gb153)) (Kd.R_types (HO162.out) BK153.out (by decide)) (fun k_ hk => ⟨hk.1.1.1.1.1.1, ⟨hk.1.1.1.1.2, ⟨hk.1.1.1.2, hk.2⟩⟩⟩))))) (Reps.c2 (show Kd.FK k35 _ _ (⟨(⟨#[105, 109, 103]⟩ : ByteArray), y163⟩ : S35) [.string (⟨#[105, 109, 103]⟩ : ByteArray), .slice Ao11 y163.length co11] from (k35_mkF _ _ (⟨(⟨#[105, 109, 103]⟩ : ByteArray), y163⟩ : S35) (Kd.R_reads' (Kd.R_mono (ok' := (fun k_ => (w.heap.size ≤ k_) ∧ some k_ ≠ (v155 : Value).ownBlock ∧ some k_ ≠ (v158 : Value).ownBlock ∧ k_ ≠ gb153)) (Kd.R_types (HO165.out) BK153.out (by decide)) (fun k_ hk => ⟨hk.1.1.1.1.1.1, ⟨hk.1.1.1.1.2, ⟨hk.1.1.1.2, hk.2⟩⟩⟩))).2.1 (Kd.R_F (Kd.R_mono (ok' := (fun k_ => (w.heap.size ≤ k_) ∧ some k_ ≠ (v155 : Value).ownBlock ∧ some k_ ≠ (v158 : Value).ownBlock ∧ k_ ≠ gb153)) (Kd.R_types (HO165.out) BK153.out (by decide)) (fun k_ hk => ⟨hk.1.1.1.1.1.1, ⟨hk.1.1.1.1.2, ⟨hk.1.1.1.2, hk.2⟩⟩⟩))))) (Reps.c2 (show Kd.FK k35 _ _ (⟨(⟨#[116, 100]⟩ : ByteArray), y166⟩ : S35) [.string (⟨#[116, 100]⟩ : ByteArray), .slice Ao14 y166.length co14] from (k35_mkF _ _ (⟨(⟨#[116, 100]⟩ : ByteArray), y166⟩ : S35) (Kd.R_reads' (Kd.R_mono (ok' := (fun k_ => (w.heap.size ≤ k_) ∧ some k_ ≠ (v155 : Value).ownBlock ∧ some k_ ≠ (v158 : Value).ownBlock ∧ k_ ≠ gb153)) (Kd.R_types (HO168.out) BK153.out (by decide)) (fun k_ hk => ⟨hk.1.1.1.1.1.1, ⟨hk.1.1.1.1.2, ⟨hk.1.1.1.2, hk.2⟩⟩⟩))).2.1 (Kd.R_F (Kd.R_mono (ok' := (fun k_ => (w.heap.size ≤ k_) ∧ some k_ ≠ (v155 : Value).ownBlock ∧ some k_ ≠ (v158 : Value).ownBlock ∧ k_ ≠ gb153)) (Kd.R_types (HO168.out) BK153.out (by decide)) (fun k_ hk => ⟨hk.1.1.1.1.1.1, ⟨hk.1.1.1.1.2, ⟨hk.1.1.1.2, hk.2⟩⟩⟩))))) (Reps.none _ _))))); intro v170 w15 ho16 hb hg_ hnew_; clear hg_ hnew_; (first | rw [← Ny169.out] at ho16 | (simp only [Int.reduceToNat] at ho16; rw [← Ny169.out] at ho16)); have n0_ := Aside0.mk (Kd.R_below (by exact HO156.out) hb); have n1_ := Aside0.mk (Kd.R_below (by exact HO159.out) hb); have n2_ := Aside0.mk (Kd.N_lower ho16 (below_size (by repeat (first | (with_reducible first | exact HB.out | apply below_alloc | apply pw_below_drewN | apply below_drew1 | refine below_set ?_ GE153.out) | exact HB.out)))); have n3_ := Aside0.mk (blk_below (g := gb153) (o := .cells #[.bool false, .bool false, .slice none 0 0, .slice none 0 0, .slice none 0 0, .slice none 0 0, .bool false, .bool false] 25 (0, 0)) (by exact BK153.out) hb); have n4_ := Aside0.mk (below_step (by repeat (first | (with_reducible first | exact HB.out | apply below_alloc | apply pw_below_drewN | apply below_drew1 | refine below_set ?_ GE153.out) | exact HB.out)) hb); clear HO156; clear HO159; clear BK153; clear HB; clear HO162; clear HO165; clear HO168; have HO156 := n0_; have HO159 := n1_; have HO171 := n2_; have BK153 := n3_; have HB := n4_; clear n0_ n1_ n2_ n3_ n4_; clear hb ho16; obtain ⟨Ao17, co17, eo17⟩ := Kd.N_slice HO171.out; subst eo17; obtain ⟨Ao18, co18, eo18⟩ := Kd.R_slice HO159.out; subst eo18; obtain ⟨Ao19, co19, eo19⟩ := Kd.R_slice HO156.out; subst eo19; have hcz20_0 : w15.cell? ⟨gb153, 0, none⟩ = some (.bool false) := (blk_cell BK153.out 0).trans rfl; have hcz20_1 : w15.cell? ⟨gb153, 1, none⟩ = some (.bool false) := (blk_cell BK153.out 1).trans rfl; have hcz20_2 : w15.cell? ⟨gb153, 2, none⟩ = some (.slice none 0 0) := (blk_cell BK153.out 2).trans rfl; have hcz20_3 : w15.cell? ⟨gb153, 3, none⟩ = some (.slice none 0 0) := (blk_cell BK153.out 3).trans rfl; have hcz20_4 : w15.cell? ⟨gb153, 4, none⟩ = some (.slice none 0 0) := (blk_cell BK153.out 4).trans rfl; have hcz20_5 : w15.cell? ⟨gb153, 5, none⟩ = some (.slice none 0 0) := (blk_cell BK153.out 5).trans rfl; have hcz20_6 : w15.cell? ⟨gb153, 6, none⟩ = some (.bool false) := (blk_cell BK153.out 6).trans rfl; have hcz20_7 : w15.cell? ⟨gb153, 7, none⟩ = some (.bool false) := (blk_cell BK153.out 7).trans rfl; have hfz20_0 := blk_frozen BK153.out 0; have hfz20_1 := blk_frozen BK153.out 1; have hfz20_2 := blk_frozen BK153.out 2; have hfz20_3 := blk_frozen BK153.out 3; have hfz20_4 := blk_frozen BK153.out 4; have hfz20_5 := blk_frozen BK153.out 5; have hfz20_6 := blk_frozen BK153.out 6; have hfz20_7 := blk_frozen BK153.out 7))
 refine bodyPost_ret (results_cell_row rfl _ _ gb153 25 #[.bool true, .bool true, .slice Ao19 y154.length co19, .slice none 0 0, .slice Ao18 y157.length co18, .slice Ao17 y169.length co17, .bool false, .bool false] (0, 0) _ rfl (by refine blk_put (cs := #[.bool true, .bool true, .slice Ao19 y154.length co19, .slice none 0 0, .slice Ao18 y157.length co18, .slice Ao17 y169.length co17, .bool false, .bool false]) ?_ 7 _ rfl; refine blk_put (cs := #[.bool true, .bool true, .slice Ao19 y154.length co19, .slice none 0 0, .slice Ao18 y157.length co18, .slice Ao17 y169.length co17, .bool false, .bool false]) ?_ 6 _ rfl; refine blk_put (cs := #[.bool true, .bool true, .slice Ao19 y154.length co19, .slice none 0 0, .slice Ao18 y157.length co18, .slice none 0 0, .bool false, .bool false]) ?_ 5 _ rfl; refine blk_put (cs := #[.bool true, .bool true, .slice Ao19 y154.length co19, .slice none 0 0, .slice none 0 0, .slice none 0 0, .bool false, .bool false]) ?_ 4 _ rfl; refine blk_put (cs := #[.bool true, .bool true, .slice Ao19 y154.length co19, .slice none 0 0, .slice none 0 0, .slice none 0 0, .bool false, .bool false]) ?_ 3 _ rfl; refine blk_put (cs := #[.bool true, .bool true, .slice none 0 0, .slice none 0 0, .slice none 0 0, .slice none 0 0, .bool false, .bool false]) ?_ 2 _ rfl; refine blk_put (cs := #[.bool true, .bool false, .slice none 0 0, .slice none 0 0, .slice none 0 0, .slice none 0 0, .bool false, .bool false]) ?_ 1 _ rfl; refine blk_put (cs := #[.bool false, .bool false, .slice none 0 0, .slice none 0 0, .slice none 0 0, .slice none 0 0, .bool false, .bool false]) ?_ 0 _ rfl; exact BK153.out) Try.underlying25 rfl (by kernel_rfl)) rfl ?_
 exact ⟨_, .slice none 0 0, _, _, by first | rfl | (simp [errW_none, errW_some] <;> rfl) | (simp [*, errW_none, errW_some] <;> rfl), by exact Kd.R_mono (Kd.R_far (p := ⟨gb153, 7, none⟩) (Kd.R_far (p := ⟨gb153, 6, none⟩) (Kd.R_far (p := ⟨gb153, 5, none⟩) (Kd.R_far (p := ⟨gb153, 4, none⟩) (Kd.R_far (p := ⟨gb153, 3, none⟩) (Kd.R_far (p := ⟨gb153, 2, none⟩) (Kd.R_far (p := ⟨gb153, 1, none⟩) (Kd.R_far (p := ⟨gb153, 0, none⟩) (Kd.R_types HO156.out BK153.out (by decide)) (fun _ hk => hk.2) (.bool true)) (fun _ hk => hk.2) (.bool true)) (fun _ hk => hk.2) (.slice Ao19 y154.length co19)) (fun _ hk => hk.2) (.slice none 0 0)) (fun _ hk => hk.2) (.slice Ao18 y157.length co18)) (fun _ hk => hk.2) (.slice Ao17 y169.length co17)) (fun _ hk => hk.2) (.bool false)) (fun _ hk => hk.2) (.bool false)) (fun _ hk => ⟨hk.1.1.1.1.1.1, ⟨(by simp [Value.ownBlock]), hk.1.1.1.1.2⟩⟩), by first | exact Kd.R_nil _ _ _ _ _ | exact Kd.N_nil _ _ _ _ _ | exact Kd.V_nil _ _ _ _ _ | exact Kd.Q_nil _ _ _ _ _ | exact Kd.S_nil _ _ _ _ _, by exact Kd.R_mono (Kd.R_far (p := ⟨gb153, 7, none⟩) (Kd.R_far (p := ⟨gb153, 6, none⟩) (Kd.R_far (p := ⟨gb153, 5, none⟩) (Kd.R_far (p := ⟨gb153, 4, none⟩) (Kd.R_far (p := ⟨gb153, 3, none⟩) (Kd.R_far (p := ⟨gb153, 2, none⟩) (Kd.R_far (p := ⟨gb153, 1, none⟩) (Kd.R_far (p := ⟨gb153, 0, none⟩) (Kd.R_types HO159.out BK153.out (by decide)) (fun _ hk => hk.2) (.bool true)) (fun _ hk => hk.2) (.bool true)) (fun _ hk => hk.2) (.slice Ao19 y154.length co19)) (fun _ hk => hk.2) (.slice none 0 0)) (fun _ hk => hk.2) (.slice Ao18 y157.length co18)) (fun _ hk => hk.2) (.slice Ao17 y169.length co17)) (fun _ hk => hk.2) (.bool false)) (fun _ hk => hk.2) (.bool false)) (fun _ hk => ⟨hk.1.1.1.1.1.1, ⟨hk.1.1.1.1.2, (by simp [Value.ownBlock])⟩⟩), by exact Kd.N_mono (Kd.N_far (p := ⟨gb153, 7, none⟩) (Kd.N_far (p := ⟨gb153, 6, none⟩) (Kd.N_far (p := ⟨gb153, 5, none⟩) (Kd.N_far (p := ⟨gb153, 4, none⟩) (Kd.N_far (p := ⟨gb153, 3, none⟩) (Kd.N_far (p := ⟨gb153, 2, none⟩) (Kd.N_far (p := ⟨gb153, 1, none⟩) (Kd.N_far (p := ⟨gb153, 0, none⟩) (Kd.N_mono HO171.out (fun k_ hk => (⟨hk, hk.2.2.2⟩ : _ ∧ k_ ≠ gb153))) (fun _ hk => hk.2) (.bool true)) (fun _ hk => hk.2) (.bool true)) (fun _ hk => hk.2) (.slice Ao19 y154.length co19)) (fun _ hk => hk.2) (.slice none 0 0)) (fun _ hk => hk.2) (.slice Ao18 y157.length co18)) (fun _ hk => hk.2) (.slice Ao17 y169.length co17)) (fun _ hk => hk.2) (.bool false)) (fun _ hk => hk.2) (.bool false)) (fun _ hk => ⟨hk.1.1, ⟨hk.1.2.1, ⟨(by simp [Value.ownBlock]), hk.1.2.2.1⟩⟩⟩), by repeat (first | (with_reducible first | exact HB.out | apply below_alloc | apply pw_below_drewN | apply below_drew1 | refine below_set ?_ GE153.out) | exact HB.out)⟩

def config_All.f  : Option (Bool × Bool × List ByteArray × List ByteArray × List ByteArray × (List (S35)) × Bool × Bool) := some (false, false, ([] : List ByteArray), ([] : List ByteArray), ([] : List ByteArray), ([] : List (S35)), true, false)
set_option maxHeartbeats 8000000 in
set_option maxRecDepth 100000 in
theorem config_All.calls  (r1 : Bool) (r2 : Bool) (r3 : List ByteArray) (r4 : List ByteArray) (r5 : List ByteArray) (r6 : List (S35)) (r7 : Bool) (r8 : Bool) (w : World) (h : config_All.f  = some (r1, r2, r3, r4, r5, r6, r7, r8)) :
  Calls Try.prog 29 #[] w fun e w' => ∃ v2_ v3_ v4_ v5_ : Value, e = .returned (.agg #[.bool r1, .bool r2, v2_, v3_, v4_, v5_, .bool r7, .bool r8]) ∧ Kd.R Kd.string 9 w' w.heap.size (fun k_ => some k_ ≠ (v3_ : Value).ownBlock ∧ some k_ ≠ (v4_ : Value).ownBlock) v2_ r3 ∧ Kd.R Kd.string 9 w' w.heap.size (fun k_ => some k_ ≠ (v2_ : Value).ownBlock ∧ some k_ ≠ (v4_ : Value).ownBlock) v3_ r4 ∧ Kd.R Kd.string 9 w' w.heap.size (fun k_ => some k_ ≠ (v2_ : Value).ownBlock ∧ some k_ ≠ (v3_ : Value).ownBlock) v4_ r5 ∧ Kd.S k35 35 w' w.heap.size (fun k_ => some k_ ≠ (v2_ : Value).ownBlock ∧ some k_ ≠ (v3_ : Value).ownBlock ∧ some k_ ≠ (v4_ : Value).ownBlock) v5_ r6 ∧ Below w.heap.size w w' := by
 have hu25 := Try.underlying25
 have HB := Aside0.mk (Below.refl w.heap.size w)
 have H : (some (false, false, ([] : List ByteArray), ([] : List ByteArray), ([] : List ByteArray), ([] : List (S35)), true, false)) = some (r1, r2, r3, r4, r5, r6, r7, r8) := h
 clear h
 simp only [Option.some.injEq, Prod.mk.injEq] at H
 obtain ⟨rfl, rfl, rfl, rfl, rfl, rfl, rfl, rfl⟩ := H
 go_enter Try.func29, Try.ntmps29
 go_wp2_with (first | ((with_reducible refine gate_dst (N := 0) rfl ?_); refine box_event ?hg (N := 0) ?hd (cs := #[.bool false, .bool false, .slice none 0 0, .slice none 0 0, .slice none 0 0, .slice none 0 0, .bool false, .bool false]) (t := 25) ?hr ?_; (case hd => rfl); (case hg => rfl); (case hr => first | (go_simp; done) | (go_simp; rfl)); intro gb172 hg w1 hbox hb; have n0_ := Aside0.mk (below_step (by repeat (first | (with_reducible first | exact HB.out | apply below_alloc | apply pw_below_drewN | apply below_drew1) | exact HB.out)) hb); have n1_ := Aside0.mk (hbox); have n2_ := Aside0.mk ((by rw [hg]; exact (below_size (by repeat (first | (with_reducible first | exact HB.out | apply below_alloc | apply pw_below_drewN | apply below_drew1) | exact HB.out))) : w.heap.size ≤ gb172)); have n3_ := Aside0.mk ((by rw [hg]; exact (below_size (by repeat (first | (with_reducible first | exact HB.out | apply below_alloc | apply pw_below_drewN | apply below_drew1) | exact HB.out))) : w.heap.size ≤ gb172)); clear HB; have HB := n0_; have BK172 := n1_; have GW172 := n2_; have GE172 := n3_; clear n0_ n1_ n2_ n3_; clear hb hbox hg; have hcz2_0 : w1.cell? ⟨gb172, 0, none⟩ = some (.bool false) := (blk_cell BK172.out 0).trans rfl; have hcz2_1 : w1.cell? ⟨gb172, 1, none⟩ = some (.bool false) := (blk_cell BK172.out 1).trans rfl; have hcz2_2 : w1.cell? ⟨gb172, 2, none⟩ = some (.slice none 0 0) := (blk_cell BK172.out 2).trans rfl; have hcz2_3 : w1.cell? ⟨gb172, 3, none⟩ = some (.slice none 0 0) := (blk_cell BK172.out 3).trans rfl; have hcz2_4 : w1.cell? ⟨gb172, 4, none⟩ = some (.slice none 0 0) := (blk_cell BK172.out 4).trans rfl; have hcz2_5 : w1.cell? ⟨gb172, 5, none⟩ = some (.slice none 0 0) := (blk_cell BK172.out 5).trans rfl; have hcz2_6 : w1.cell? ⟨gb172, 6, none⟩ = some (.bool false) := (blk_cell BK172.out 6).trans rfl; have hcz2_7 : w1.cell? ⟨gb172, 7, none⟩ = some (.bool false) := (blk_cell BK172.out 7).trans rfl; have hfz2_0 := blk_frozen BK172.out 0; have hfz2_1 := blk_frozen BK172.out 1; have hfz2_2 := blk_frozen BK172.out 2; have hfz2_3 := blk_frozen BK172.out 3; have hfz2_4 := blk_frozen BK172.out 4; have hfz2_5 := blk_frozen BK172.out 5; have hfz2_6 := blk_frozen BK172.out 6; have hfz2_7 := blk_frozen BK172.out 7))
 refine bodyPost_ret (results_cell_row rfl _ _ gb172 25 #[.bool false, .bool false, .slice none 0 0, .slice none 0 0, .slice none 0 0, .slice none 0 0, .bool true, .bool false] (0, 0) _ rfl (by refine blk_put (cs := #[.bool false, .bool false, .slice none 0 0, .slice none 0 0, .slice none 0 0, .slice none 0 0, .bool true, .bool false]) ?_ 7 _ rfl; refine blk_put (cs := #[.bool false, .bool false, .slice none 0 0, .slice none 0 0, .slice none 0 0, .slice none 0 0, .bool false, .bool false]) ?_ 6 _ rfl; refine blk_put (cs := #[.bool false, .bool false, .slice none 0 0, .slice none 0 0, .slice none 0 0, .slice none 0 0, .bool false, .bool false]) ?_ 5 _ rfl; refine blk_put (cs := #[.bool false, .bool false, .slice none 0 0, .slice none 0 0, .slice none 0 0, .slice none 0 0, .bool false, .bool false]) ?_ 4 _ rfl; refine blk_put (cs := #[.bool false, .bool false, .slice none 0 0, .slice none 0 0, .slice none 0 0, .slice none 0 0, .bool false, .bool false]) ?_ 3 _ rfl; refine blk_put (cs := #[.bool false, .bool false, .slice none 0 0, .slice none 0 0, .slice none 0 0, .slice none 0 0, .bool false, .bool false]) ?_ 2 _ rfl; refine blk_put (cs := #[.bool false, .bool false, .slice none 0 0, .slice none 0 0, .slice none 0 0, .slice none 0 0, .bool false, .bool false]) ?_ 1 _ rfl; refine blk_put (cs := #[.bool false, .bool false, .slice none 0 0, .slice none 0 0, .slice none 0 0, .slice none 0 0, .bool false, .bool false]) ?_ 0 _ rfl; exact BK172.out) Try.underlying25 rfl (by kernel_rfl)) rfl ?_
 exact ⟨.slice none 0 0, .slice none 0 0, .slice none 0 0, .slice none 0 0, by first | rfl | (simp [errW_none, errW_some] <;> rfl) | (simp [*, errW_none, errW_some] <;> rfl), by first | exact Kd.R_nil _ _ _ _ _ | exact Kd.N_nil _ _ _ _ _ | exact Kd.V_nil _ _ _ _ _ | exact Kd.Q_nil _ _ _ _ _ | exact Kd.S_nil _ _ _ _ _, by first | exact Kd.R_nil _ _ _ _ _ | exact Kd.N_nil _ _ _ _ _ | exact Kd.V_nil _ _ _ _ _ | exact Kd.Q_nil _ _ _ _ _ | exact Kd.S_nil _ _ _ _ _, by first | exact Kd.R_nil _ _ _ _ _ | exact Kd.N_nil _ _ _ _ _ | exact Kd.V_nil _ _ _ _ _ | exact Kd.Q_nil _ _ _ _ _ | exact Kd.S_nil _ _ _ _ _, by first | exact Kd.S_nil _ _ _ _ _ | exact Kd.N_nil _ _ _ _ _ | exact Kd.V_nil _ _ _ _ _ | exact Kd.Q_nil _ _ _ _ _ | exact Kd.R_nil _ _ _ _ _, by repeat (first | (with_reducible first | exact HB.out | apply below_alloc | apply pw_below_drewN | apply below_drew1 | refine below_set ?_ GE172.out) | exact HB.out)⟩

def boltingref02_Equal.l0 : Nat → List ByteArray → List ByteArray → Int → Option (Bool)
 | 0, _, _, _ => none
 | k + 1, x0, x1, x5 => if x5 < (x0.length : Int) then (if 0 ≤ x5 then (if x5 < (x1.length : Int) then (if (rdOf ByteArray.empty x0 x5).toList = (rdOf ByteArray.empty x1 x5).toList then (boltingref02_Equal.l0 k x0 x1 (wrap64 (x5 + 1))) else (some false)) else (none)) else (none)) else (some true)
def boltingref02_Equal.f (k : Nat) (l0 : List ByteArray) (l1 : List ByteArray) : Option (Bool) := if (l0.length : Int) = (l1.length : Int) then (boltingref02_Equal.l0 k l0 l1 0) else (some false)
set_option maxHeartbeats 8000000 in
set_option maxRecDepth 100000 in
theorem boltingref02_Equal.calls (k : Nat) (A0 : Option Addr) (c0 : Nat) (l0 : List ByteArray) (A1 : Option Addr) (c1 : Nat) (l1 : List ByteArray) (r : Bool) (w : World) (hr0 : Kd.C Kd.string w A0 l0.length l0) (hc0 : l0.length ≤ c0) (hr1 : Kd.C Kd.string w A1 l1.length l1) (hc1 : l1.length ≤ c1) (h : boltingref02_Equal.f k l0 l1 = some r) :
  Calls Try.prog 56 #[.slice A0 l0.length c0, .slice A1 l1.length c1] w fun e w' => e = .returned (.bool r) ∧ Drawn0 w w' := by
 have HR0 := Aside0.mk hr0
 have HC0 := Aside0.mk hc0
 clear hr0 hc0
 have HR1 := Aside0.mk hr1
 have HC1 := Aside0.mk hc1
 clear hr1 hc1
 have H : (if (l0.length : Int) = (l1.length : Int) then (boltingref02_Equal.l0 k l0 l1 0) else (some false)) = some r := h
 clear h
 by_cases c3 : (l0.length : Int) = (l1.length : Int)
 ·rw [if_pos c3] at H
  have c3b0 : ((l0.length : Int) == (l1.length : Int)) = true := beq_iff_eq.mpr c3
  have c3b1 : ((l0.length : Int) != (l1.length : Int)) = false := bne_eq_false_iff_eq.mpr c3
  have c3b2 : (l0.length == l1.length) = true := by first | simpa using c3 | (simp at c3 ⊢; omega)
  clear c3
  have H' := Aside0.mk H
  clear H
  go_enter Try.func56, Try.ntmps56
  go_wp2
  repeat (go_quiet (fail); try go_wp2)
  go_loopg [5] k (fun kq v5 w' => ∃ (x5_1 : Int), v5 = .int .i64 x5_1 ∧ Aside0 (boltingref02_Equal.l0 kq l0 l1 x5_1 = some r) ∧ Aside0 (kq ≤ k) ∧ Drawn0 w w')
  case atStart => exact ⟨(0), (by first | rfl | (simp; done) | (simp [*]; done)), H', ⟨Nat.le_refl _⟩, by repeat (first | exact Drawn0.refl _ | apply Drawn0.step)⟩
  case round =>
   clear H'
   try clear c1
   try clear p2
   try clear c3
   try clear c3b0
   try clear c3b1
   try clear c3b2
   obtain ⟨x5_1, rfl, HA, HK1, ⟨m1, rfl⟩⟩ := hrel
   cases gk with
   | zero => exact absurd HA.out (by simp [boltingref02_Equal.l0])
   | succ k1 =>
    have H := HA.out
    clear HA
    simp only [boltingref02_Equal.l0] at H
    by_cases c4 : x5_1 < (l0.length : Int)
    ·rw [if_pos c4] at H
     have c4b0 : decide (x5_1 < (l0.length : Int)) = true := decide_eq_true c4
     clear c4
     by_cases c5 : 0 ≤ x5_1
     ·rw [if_pos c5] at H
      have c5b0 : decide (0 ≤ x5_1) = true := decide_eq_true c5
      clear c5
      by_cases c6 : x5_1 < (l1.length : Int)
      ·rw [if_pos c6] at H
       have c6b0 : decide (x5_1 < (l1.length : Int)) = true := decide_eq_true c6
       clear c6
       by_cases c7 : (rdOf ByteArray.empty l0 x5_1).toList = (rdOf ByteArray.empty l1 x5_1).toList
       ·rw [if_pos c7] at H
        have c7b0 : ((rdOf ByteArray.empty l0 x5_1).toList == (rdOf ByteArray.empty l1 x5_1).toList) = true := beq_iff_eq.mpr c7
        have c7b1 : ((rdOf ByteArray.empty l0 x5_1).toList != (rdOf ByteArray.empty l1 x5_1).toList) = false := bne_eq_false_iff_eq.mpr c7
        clear c7
        have H' := Aside0.mk H
        clear H
        have p173 : 0 ≤ (x5_1 : Int) := of_decide_eq_true (by first | (with_reducible assumption) | assumption)
        have q173 : x5_1 < (l0.length : Int) := of_decide_eq_true (by first | (with_reducible assumption) | assumption)
        obtain ⟨ad173, e173, hx173_0⟩ := Kd.at_string HR0.out x5_1 p173 q173
        cases e173
        replace p173 := eq_true p173
        replace q173 := eq_true q173
        have p174 : 0 ≤ (x5_1 : Int) := of_decide_eq_true (by first | (with_reducible assumption) | assumption)
        have q174 : x5_1 < (l1.length : Int) := of_decide_eq_true (by first | (with_reducible assumption) | assumption)
        obtain ⟨ad174, e174, hx174_0⟩ := Kd.at_string HR1.out x5_1 p174 q174
        cases e174
        replace p174 := eq_true p174
        replace q174 := eq_true q174
        go_wp2
        repeat (go_quiet (fail); try go_wp2)
        go_roundg k1
        case measure => have := HK1.out; omega
        case rel => exact ⟨(wrap64 (x5_1 + 1)), (by first | rfl | (simp; done) | (simp [*]; done)), H', ⟨by have := HK1.out; omega⟩, by repeat (first | exact Drawn0.refl _ | apply Drawn0.step)⟩
       ·rw [if_neg c7] at H
        have c7b0 : ((rdOf ByteArray.empty l0 x5_1).toList == (rdOf ByteArray.empty l1 x5_1).toList) = false := beq_eq_false_iff_ne.mpr c7
        have c7b1 : ((rdOf ByteArray.empty l0 x5_1).toList != (rdOf ByteArray.empty l1 x5_1).toList) = true := bne_iff_ne.mpr c7
        obtain rfl := Option.some.inj H
        have p173 : 0 ≤ (x5_1 : Int) := of_decide_eq_true (by first | (with_reducible assumption) | assumption)
        have q173 : x5_1 < (l0.length : Int) := of_decide_eq_true (by first | (with_reducible assumption) | assumption)
        obtain ⟨ad173, e173, hx173_0⟩ := Kd.at_string HR0.out x5_1 p173 q173
        cases e173
        replace p173 := eq_true p173
        replace q173 := eq_true q173
        have p174 : 0 ≤ (x5_1 : Int) := of_decide_eq_true (by first | (with_reducible assumption) | assumption)
        have q174 : x5_1 < (l1.length : Int) := of_decide_eq_true (by first | (with_reducible assumption) | assumption)
        obtain ⟨ad174, e174, hx174_0⟩ := Kd.at_string HR1.out x5_1 p174 q174
        cases e174
        replace p174 := eq_true p174
        replace q174 := eq_true q174
        go_wp2
        repeat (go_quiet (fail); try go_wp2)
        go_ret
        exact ⟨by first | rfl | (simp; done) | (simp [*]; done) | (simp; generalize ByteArray.toList _ = l_; cases l_ <;> rfl), by repeat (first | exact Drawn0.refl _ | apply Drawn0.step)⟩
      ·rw [if_neg c6] at H
       exact absurd H (by simp)
     ·rw [if_neg c5] at H
      exact absurd H (by simp)
    ·rw [if_neg c4] at H
     have c4b0 : decide (x5_1 < (l0.length : Int)) = false := decide_eq_false c4
     clear c4
     obtain rfl := Option.some.inj H
     go_wp2
     repeat (go_quiet (fail); try go_wp2)
     go_ret
     exact ⟨by first | rfl | (simp; done) | (simp [*]; done) | (simp; generalize ByteArray.toList _ = l_; cases l_ <;> rfl), by repeat (first | exact Drawn0.refl _ | apply Drawn0.step)⟩
 ·rw [if_neg c3] at H
  have c3b0 : ((l0.length : Int) == (l1.length : Int)) = false := beq_eq_false_iff_ne.mpr c3
  have c3b1 : ((l0.length : Int) != (l1.length : Int)) = true := bne_iff_ne.mpr c3
  have c3b2 : (l0.length == l1.length) = false := by first | simpa using c3 | (simp at c3 ⊢; omega)
  obtain rfl := Option.some.inj H
  go_enter Try.func56, Try.ntmps56
  go_wp2
  repeat (go_quiet (fail); try go_wp2)
  go_ret
  exact ⟨by first | rfl | (simp; done) | (simp [*]; done) | (simp; generalize ByteArray.toList _ = l_; cases l_ <;> rfl), by repeat (first | exact Drawn0.refl _ | apply Drawn0.step)⟩

end Go.Proofs.Ytjofofpplpmgjaa.Pr
namespace Go.Proofs.Ytjofofpplpmgjaa.Pr
open Go.RowKit Go.Proofs.YtjofofpplpmgjaaW.PrintWords Go.Proofs.YtjofofpplpmgjaaW.PrintLast Go.Proofs.YtjofofpplpmgjaaW.PrintMore
attribute [local go_sem] max2_int min2_int max_two min_two max_three min_three max_four min_four   -- for this text's walks alone
set_option linter.unusedVariables false
set_option linter.unusedSimpArgs false

def boltingref10_Unsafe.f  : Option (List ByteArray) := some (([(⟨#[98, 97, 115, 101]⟩ : ByteArray), (⟨#[101, 109, 98, 101, 100]⟩ : ByteArray), (⟨#[102, 114, 97, 109, 101]⟩ : ByteArray), (⟨#[105, 102, 114, 97, 109, 101]⟩ : ByteArray), (⟨#[108, 105, 110, 107]⟩ : ByteArray), (⟨#[109, 101, 116, 97]⟩ : ByteArray), (⟨#[111, 98, 106, 101, 99, 116]⟩ : ByteArray), (⟨#[115, 99, 114, 105, 112, 116]⟩ : ByteArray)] : List ByteArray))
def boltingref02_Minus.l0 : Nat → List ByteArray → List ByteArray → List ByteArray → Int → Option (List ByteArray)
 | 0, _, _, _, _ => none
 | k + 1, x0, x1, x5, x6 => if x6 < (x0.length : Int) then (if 0 ≤ x6 then ((boltingref02_Has.f k x1 (rdOf ByteArray.empty x0 x6)).bind fun t294 => (if t294 = true then (boltingref02_Minus.l0 k x0 x1 x5 (wrap64 (x6 + 1))) else (if x5.length < 8796093022208 then (boltingref02_Minus.l0 k x0 x1 (x5 ++ [rdOf ByteArray.empty x0 x6]) (wrap64 (x6 + 1))) else (none)))) else (none)) else (some x5)
def boltingref02_Minus.f (k : Nat) (l0 : List ByteArray) (l1 : List ByteArray) : Option (List ByteArray) := boltingref02_Minus.l0 k l0 l1 (([] : List ByteArray)) 0
end Go.Proofs.Ytjofofpplpmgjaa.Pr
namespace Go.Proofs.Ytjofofpplpmgjaa
set_option linter.unusedVariables false
set_option linter.unusedSimpArgs false
open Go.RowKit Go.Proofs.YtjofofpplpmgjaaW.PrintWords

theorem toList_inj {a b : ByteArray} (h : a.toList = b.toList) : a = b := by
  rw [Lib.toList_data, Lib.toList_data] at h
  rw [← Lib.mk_data a, h, Lib.mk_data b]
abbrev dat (s : ByteArray) : List UInt8 := s.data.toList
theorem dat_inj {a b : ByteArray} (h : dat a = dat b) : a = b := toList_inj (by rw [Lib.toList_data, Lib.toList_data]; exact h)
theorem lt_irr (a : List UInt8) : ¬ a < a := List.lt_irrefl a
theorem lt_trans' {a b c : List UInt8} (h : a < b) (g : b < c) : a < c := List.lt_trans h g
theorem lt_asym {a b : List UInt8} (h : a < b) : ¬ b < a := fun g => lt_irr a (lt_trans' h g)
theorem le_or (a b : List UInt8) : a < b ∨ a = b ∨ b < a := by
  rcases Classical.em (a < b) with h | h
  · exact .inl h
  · rcases Classical.em (b < a) with g | g
    · exact .inr (.inr g)
    · exact .inr (.inl (List.le_antisymm g h))
def Up (l : List (List UInt8)) : Prop := l.Pairwise (· < ·)
theorem up_ext : ∀ {l m : List (List UInt8)}, Up l → Up m → (∀ x, x ∈ l ↔ x ∈ m) → l = m
  | [], [], _, _, _ => rfl
  | [], b :: m, _, _, h => by have := (h b).2 (by simp); simp at this
  | a :: l, [], _, _, h => by have := (h a).1 (by simp); simp at this
  | a :: l, b :: m, hl, hm, h => by
    have hl' := List.pairwise_cons.1 hl
    have hm' := List.pairwise_cons.1 hm
    have e : a = b := by
      rcases List.mem_cons.1 ((h a).1 (by simp)) with e | e
      · exact e
      · rcases List.mem_cons.1 ((h b).2 (by simp)) with g | g
        · exact g.symm
        · exact absurd (hl'.1 b g) (lt_asym (hm'.1 a e))
    subst e
    rw [up_ext hl'.2 hm'.2 (fun x => ?_)]
    constructor
    · intro hx
      rcases List.mem_cons.1 ((h x).1 (by simp [hx])) with e | e
      · subst e; exact absurd (hl'.1 x hx) (lt_irr x)
      · exact e
    · intro hx
      rcases List.mem_cons.1 ((h x).2 (by simp [hx])) with e | e
      · subst e; exact absurd (hm'.1 x hx) (lt_irr x)
      · exact e

theorem compact_up {d : Array (List UInt8)} (hd : ∀ i j, i ≤ j → j < d.size → d[i]! ≤ d[j]!) : ∀ m, m ≤ d.size → Up (Lib.compactUpTo d m) ∧ ∀ x, x ∈ Lib.compactUpTo d m ↔ ∃ j, j < m ∧ d[j]! = x
  | 0, _ => ⟨by simp [Lib.compactUpTo, Up], fun x => by simp [Lib.compactUpTo]⟩
  | m + 1, hm => by
    obtain ⟨h1, h2⟩ := compact_up hd m (by omega)
    rw [Lib.compactUpTo_succ]
    cases hk : Lib.keeps d m with
    | true =>
      rw [if_pos rfl]
      refine ⟨?_, fun x => ?_⟩
      · refine List.pairwise_append.2 ⟨h1, by simp, fun x hx y hy => ?_⟩
        rw [List.mem_singleton] at hy; subst hy
        obtain ⟨j, hj, rfl⟩ := (h2 x).1 hx
        have hne : d[m - 1]! ≠ d[m]! := by
          unfold Lib.keeps at hk
          simp at hk
          rcases hk with h | h
          · omega
          · exact fun e => h e.symm
        have a := hd j (m - 1) (by omega) (by omega)
        have b := hd (m - 1) m (by omega) (by omega)
        rcases le_or d[m - 1]! d[m]! with h | h | h
        · exact List.lt_of_le_of_lt a h
        · exact absurd h hne
        · exact absurd h b
      · rw [List.mem_append, List.mem_singleton, h2]
        constructor
        · rintro (⟨j, hj, e⟩ | e)
          · exact ⟨j, by omega, e⟩
          · exact ⟨m, by omega, e.symm⟩
        · rintro ⟨j, hj, e⟩
          rcases Nat.lt_or_ge j m with h | h
          · exact .inl ⟨j, h, e⟩
          · obtain rfl : j = m := by omega
            exact .inr e.symm
    | false =>
      rw [if_neg (by simp), List.append_nil]
      refine ⟨h1, fun x => ?_⟩
      rw [h2]
      have he : m ≠ 0 ∧ d[m]! = d[m - 1]! := by
        unfold Lib.keeps at hk
        simp at hk
        exact ⟨by omega, by simpa using hk.2⟩
      constructor
      · rintro ⟨j, hj, e⟩; exact ⟨j, by omega, e⟩
      · rintro ⟨j, hj, e⟩
        rcases Nat.lt_or_ge j m with h | h
        · exact ⟨j, h, e⟩
        · obtain rfl : j = m := by omega
          exact ⟨j - 1, by omega, by rw [← he.2, e]⟩
theorem merge_up (l : List (List UInt8)) : (l.mergeSort fun x y => decide (x ≤ y)).Pairwise (· ≤ ·) := by
  have h := List.pairwise_mergeSort (le := fun x y : List UInt8 => decide (x ≤ y)) (fun a b c h g => by simp only [decide_eq_true_eq] at *; exact List.le_trans h g) (fun a b => by
    simp only [Bool.or_eq_true, decide_eq_true_eq]
    exact List.le_total a b) l
  exact h.imp (fun h => by simpa using h)
theorem sorted_up (l : List (List UInt8)) : Up (sorted l) := by
  unfold sorted
  obtain ⟨m, hm⟩ : ∃ m, (l.mergeSort fun x y => decide (x ≤ y)) = m := ⟨_, rfl⟩
  have h := merge_up l
  rw [hm] at h ⊢
  refine (compact_up (d := m.toArray) (fun i j hij hj => ?_) m.length (by simp)).1
  have hj' : j < m.length := by simpa using hj
  rcases Nat.lt_or_ge i j with hlt | hge
  · have := List.pairwise_iff_getElem.1 h i j (by omega) hj' hlt
    simpa [getElem!_pos, hj', show i < m.length by omega] using this
  · obtain rfl : i = j := by omega
    exact List.le_refl _
theorem sorted_mem (l : List (List UInt8)) (x : List UInt8) : x ∈ sorted l ↔ x ∈ l := by
  unfold sorted
  have h := merge_up l
  have hme : x ∈ (l.mergeSort fun x y => decide (x ≤ y)) ↔ x ∈ l := List.mem_mergeSort
  obtain ⟨m, hm⟩ : ∃ m, (l.mergeSort fun x y => decide (x ≤ y)) = m := ⟨_, rfl⟩
  rw [hm] at h hme ⊢
  rw [← hme]
  refine ((compact_up (d := m.toArray) (fun i j hij hj => ?_) m.length (by simp)).2 x).trans ?_
  · have hj' : j < m.length := by simpa using hj
    rcases Nat.lt_or_ge i j with hlt | hge
    · have := List.pairwise_iff_getElem.1 h i j (by omega) hj' hlt
      simpa [getElem!_pos, hj', show i < m.length by omega] using this
    · obtain rfl : i = j := by omega
      exact List.le_refl _
  · rw [List.mem_iff_getElem?]
    constructor
    · rintro ⟨j, hj, e⟩
      refine ⟨j, ?_⟩
      rw [← e, List.getElem?_eq_getElem hj]
      simp [getElem!_pos, hj]
    · rintro ⟨j, e⟩
      have hj := (List.getElem?_eq_some_iff.1 e).1
      refine ⟨j, hj, ?_⟩
      rw [List.getElem?_eq_getElem hj] at e
      simpa [getElem!_pos, hj] using e
theorem sorted_of_up {l : List (List UInt8)} (h : Up l) : sorted l = l := up_ext (sorted_up l) h (sorted_mem l)

def insert1 (x : List UInt8) : List (List UInt8) → List (List UInt8)
  | [] => [x]
  | y :: t => if x < y then x :: y :: t else y :: insert1 x t
def insAll : List (List UInt8) → List (List UInt8) → List (List UInt8)
  | out, [] => out
  | out, x :: t => insAll (if x ∈ out then out else insert1 x out) t
theorem sorted_f (l : List ByteArray) (hl : l.length ≤ 4294967296) : fold_Sorted.f l = some (SS (sorted (l.map dat))) := by
  unfold fold_Sorted.f; rw [if_pos hl]; rfl

end Go.Proofs.Ytjofofpplpmgjaa
namespace Go.Proofs.Ytjofofpplpmgjaa.Pure
open Go.RowKit Go.Proofs.Ytjofofpplpmgjaa.Pr Go.Proofs.YtjofofpplpmgjaaW.PrintWords Go.Proofs.YtjofofpplpmgjaaW.PrintLast
theorem rd_at {l : List ByteArray} {i : Nat} {x : ByteArray} (h : l[i]? = some x) : rdOf ByteArray.empty l (i : Int) = x := by
  unfold rdOf
  rw [Int.toNat_natCast, List.getD_eq_getElem?_getD, h]
  rfl
theorem equal_l0 (l : List ByteArray) (hl : l.length ≤ 4000000000000000000) : ∀ (d i : Nat), i + d = l.length → ∀ k, d < k → boltingref02_Equal.l0 k l l (i : Int) = some true
  | 0, i, h, k, hk => by
    obtain ⟨k, rfl⟩ : ∃ m, k = m + 1 := ⟨k - 1, by omega⟩
    simp only [boltingref02_Equal.l0]
    rw [if_neg (by omega)]
  | d + 1, i, h, k, hk => by
    obtain ⟨k, rfl⟩ : ∃ m, k = m + 1 := ⟨k - 1, by omega⟩
    simp only [boltingref02_Equal.l0]
    rw [if_pos (by omega), if_pos (by omega), if_pos (by omega), if_pos trivial, wrap_succ (by omega) (by omega)]
    exact equal_l0 l hl d (i + 1) (by omega) k (by omega)
theorem equal_f (l : List ByteArray) (hl : l.length ≤ 4000000000000000000) {k : Nat} (hk : l.length < k) : boltingref02_Equal.f k l l = some true := by
  unfold boltingref02_Equal.f
  rw [if_pos rfl]
  exact equal_l0 l hl l.length 0 (by omega) k hk
def mem (l : List ByteArray) (s : ByteArray) : Bool := l.any fun x => decide (x = s)
theorem mem_iff (l : List ByteArray) (s : ByteArray) : mem l s = true ↔ s ∈ l := by
  unfold mem
  rw [List.any_eq_true]
  constructor
  · rintro ⟨x, h, e⟩; rw [decide_eq_true_eq] at e; subst e; exact h
  · intro h; exact ⟨s, h, by simp⟩
theorem mem_drop_at {l : List ByteArray} {i : Nat} {x : ByteArray} (h : l[i]? = some x) (s : ByteArray) : mem (l.drop i) s = (decide (x = s) || mem (l.drop (i + 1)) s) := by
  rw [drop_at h]
  unfold mem
  rw [List.any_cons]
theorem index_l0 (l : List ByteArray) (s : ByteArray) (hl : l.length ≤ 4000000000000000000) : ∀ (d i : Nat), i + d = l.length → ∀ k, d < k → ∃ r, slices_Index_string_string.l0 k l s (l.length : Int) (i : Int) = some r ∧ decide (r ≥ 0) = mem (l.drop i) s
  | 0, i, h, k, hk => by
    obtain ⟨k, rfl⟩ : ∃ m, k = m + 1 := ⟨k - 1, by omega⟩
    simp only [slices_Index_string_string.l0]
    rw [if_neg (by omega), List.drop_of_length_le (by omega)]
    exact ⟨_, rfl, by simp [mem]⟩
  | d + 1, i, h, k, hk => by
    obtain ⟨k, rfl⟩ : ∃ m, k = m + 1 := ⟨k - 1, by omega⟩
    obtain ⟨x, hx⟩ := get_some (show i < l.length by omega)
    simp only [slices_Index_string_string.l0]
    rw [if_pos (by omega), if_pos (by omega), if_pos (by omega), rd_at hx, mem_drop_at hx]
    by_cases e : x = s
    · subst e; rw [if_pos rfl]; exact ⟨_, rfl, by simp⟩
    · rw [if_neg (fun g => e (toList_inj g.symm)), wrap_succ (by omega) (by omega), decide_eq_false e, Bool.false_or]
      exact index_l0 l s hl d (i + 1) (by omega) k (by omega)
theorem contains_f (l : List ByteArray) (s : ByteArray) (hl : l.length ≤ 4000000000000000000) {k : Nat} (hk : l.length < k) : slices_Contains_string_string.f k l s = some (mem l s) := by
  obtain ⟨r, h1, h2⟩ := index_l0 l s hl l.length 0 (by omega) k hk
  unfold slices_Contains_string_string.f slices_Index_string_string.f
  rw [show ((0 : Nat) : Int) = 0 from rfl] at h1
  rw [h1]
  simp only [Option.bind_some]
  rw [h2]; rfl
def minus (a b : List ByteArray) : List ByteArray := a.filter fun x => !mem b x
theorem filter_step {p : ByteArray → Bool} {l : List ByteArray} {i : Nat} {x : ByteArray} (h : l[i]? = some x) : (l.drop i).filter p = (if p x then [x] else []) ++ (l.drop (i + 1)).filter p := by
  rw [drop_at h, List.filter_cons]
  split <;> rfl
theorem minus_l0 (a b : List ByteArray) (ha : a.length ≤ 1000000) (hb : b.length ≤ 1000000) : ∀ (d i : Nat) (acc : List ByteArray), i + d = a.length → acc.length ≤ i → ∀ k, b.length + d < k →
    fold_Minus.l0 k b acc a (a.length : Int) (i : Int) = some (acc ++ (a.drop i).filter fun x => !mem b x)
  | 0, i, acc, h, hc, k, hk => by
    obtain ⟨k, rfl⟩ : ∃ m, k = m + 1 := ⟨k - 1, by omega⟩
    simp only [fold_Minus.l0]
    rw [if_neg (by omega), List.drop_of_length_le (by omega)]
    simp
  | d + 1, i, acc, h, hc, k, hk => by
    obtain ⟨k, rfl⟩ : ∃ m, k = m + 1 := ⟨k - 1, by omega⟩
    obtain ⟨x, hx⟩ := get_some (show i < a.length by omega)
    simp only [fold_Minus.l0]
    rw [if_pos (by omega), if_pos (by omega), if_pos (by omega), rd_at hx, contains_f b x (by omega) (by omega), wrap_succ (by omega) (by omega), filter_step hx]
    simp only [Option.bind_some]
    cases e : mem b x with
    | true =>
      rw [if_pos rfl]
      exact minus_l0 a b ha hb d (i + 1) acc (by omega) (by omega) k (by omega)
    | false =>
      rw [if_neg (by simp), if_pos (by omega)]
      have := minus_l0 a b ha hb d (i + 1) (acc ++ [x]) (by omega) (by simp; omega) k (by omega)
      rw [List.append_assoc] at this
      exact this
theorem minus_f (a b : List ByteArray) (ha : a.length ≤ 1000000) (hb : b.length ≤ 1000000) {k : Nat} (hk : a.length + b.length < k) : fold_Minus.f k a b = some (minus a b) :=
  minus_l0 a b ha hb a.length 0 [] (by omega) (by simp) k (by omega)
theorem less_f (a b : ByteArray) : Op.bytesLess a.toList b.toList = decide (dat a < dat b) := by
  rw [bytesLess_eq, Lib.toList_data, Lib.toList_data]
theorem SS_dat (l : List (List UInt8)) : (SS l).map dat = l := by
  unfold SS; rw [List.map_map]
  conv => rhs; rw [← List.map_id l]
  rfl
theorem mem_SS (l : List (List UInt8)) (s : ByteArray) : mem (SS l) s = decide (dat s ∈ l) := by
  rw [Bool.eq_iff_iff, mem_iff, decide_eq_true_eq]
  unfold SS
  rw [List.mem_map]
  constructor
  · rintro ⟨x, hx, rfl⟩; exact hx
  · intro h; exact ⟨_, h, mkS_data s⟩
end Go.Proofs.Ytjofofpplpmgjaa.Pure
