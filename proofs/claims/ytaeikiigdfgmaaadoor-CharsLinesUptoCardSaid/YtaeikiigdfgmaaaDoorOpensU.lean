/- Values that came in, read as the printed functions read them, with what they weigh in the bulk of the second form ('..UptoSaid'). -/
import Derived.Test.YtaeikiigdfgmaaaDoorOpens
import Derived.Test.YtaeikiigdfgmaaaDoorRows
namespace Go.Proofs.YtaeikiigdfgmaaaDoor
set_option linter.unusedVariables false
open Go.RowKit Go.ChangeShapes Go.WideShapes Go.Deep Go.Proofs.YtaeikiigdfgmaaaDoorW.PrintWords

/-- What is read as data at type t is, cell by cell, of kind d, meets S, and weighs B at least. -/
def OpensU {α : Type} (P : Program) (t : TypeId) (d : Kd α) (S : α → Prop) (B : α → Nat) : Prop :=
  P.cellsOf t = d.sz ∧ ∀ {H : Type} (enc : TypeId × Value → H) (w : World) (base : Nat) (spare : Nat → Bool) (held : Bool) (fuel : Nat) (cs : List Value) (x : DataW H × List MemPlace),
    DataW.trod enc P w base spare held fuel t cs = some x → ∃ a, d.K w a cs ∧ S a ∧ B a ≤ Rows.uptoBulk x.1
def wS (s : ByteArray) : Nat := s.size + 1
def wN {α : Type} (_ : α) : Nat := 1
def wL {α : Type} (B : α → Nat) (l : List α) : Nat := (l.map B).sum + 1
theorem wS_le {H : Type} (s : ByteArray) : wS s ≤ Rows.uptoBulk (DataW.lit (H := H) (.string s.data.toList)) := by
  simp only [Rows.uptoBulk, wS]
  rw [Array.length_toList]
  exact Nat.le_refl _
def yes {α : Type} (_ : α) : Prop := True
theorem opensU_string {P : Program} {t : TypeId} (hC : P.cellsOf t = 1) (ht : P.underlying t = some .string) : OpensU P t Kd.string yes wS := by
  refine ⟨hC, fun enc w base spare held fuel cs x h => ?_⟩
  obtain ⟨s, rfl, rfl, _⟩ := DataW.trod_string ht h
  refine ⟨s, rfl, trivial, ?_⟩
  simp only [Rows.uptoBulk, wS]
  rw [Array.length_toList]
  exact Nat.le_refl _
theorem opensU_bool {P : Program} {t : TypeId} (hC : P.cellsOf t = 1) (ht : P.underlying t = some .bool) : OpensU P t Kd.bool yes wN := by
  refine ⟨hC, fun enc w base spare held fuel cs x h => ?_⟩
  obtain ⟨s, rfl, rfl, _⟩ := DataW.trod_bool ht h
  exact ⟨s, rfl, trivial, Nat.le_refl _⟩
theorem opensU_int {P : Program} {t : TypeId} {k : IntKind} (hC : P.cellsOf t = 1) (ht : P.underlying t = some (.int k)) : OpensU P t (Kd.int k) (fun n => (Lit.int k n).wf = true) wN := by
  refine ⟨hC, fun enc w base spare held fuel cs x h => ?_⟩
  obtain ⟨s, rfl, rfl, hwf⟩ := DataW.trod_int ht h
  exact ⟨s, rfl, hwf, Nat.le_refl _⟩
theorem bulk_sum {α : Type} {H : Type} (B : α → Nat) : ∀ (xs : List α) (D : Nat → DataW H), (∀ (j : Nat) (y : α), xs[j]? = some y → B y ≤ Rows.uptoBulk (D j)) → (xs.map B).sum ≤ Rows.uptoBulkAll ((List.range xs.length).map D)
  | [], _, _ => Nat.zero_le _
  | x :: xs, D, h => by
    have h0 := h 0 x rfl
    have ih := bulk_sum B xs (fun j => D (j + 1)) (fun j y hy => h (j + 1) y (by simpa using hy))
    rw [List.length_cons, List.range_succ_eq_map, List.map_cons, List.map_cons, List.map_map, List.sum_cons]
    simp only [Rows.uptoBulkAll]
    have e : (List.map (D ∘ Nat.succ) (List.range xs.length)) = (List.range xs.length).map (fun j => D (j + 1)) := rfl
    rw [e]
    omega
/-- A slice that came in: a row that is read. -/
theorem opensU_row {α : Type} {P : Program} {t e : TypeId} {d : Kd α} {S : α → Prop} {B : α → Nat} (ht : P.underlying t = some (.slice e)) (hd : OpensU P e d S B) {H : Type} {enc : TypeId × Value → H} {w : World} {base : Nat} {spare : Nat → Bool} {held : Bool} {fuel : Nat} {cs : List Value} {x : DataW H × List MemPlace}
    (h : DataW.trod enc P w base spare held fuel t cs = some x) : ∃ A c xs, cs = [.slice A xs.length c] ∧ xs.length ≤ c ∧ c ≤ maxLen ∧ d.C w A xs.length xs ∧ (∀ a ∈ xs, S a) ∧ wL B xs ≤ Rows.uptoBulk x.1 := by
  rcases open_slice ht h with ⟨rfl, rfl⟩ | ⟨a, len, cap, m, n, D, Pl, rfl, hb, hl, hm, hmm, rfl, hi⟩
  · exact ⟨none, 0, [], rfl, Nat.le_refl _, Nat.zero_le _, ⟨rfl, by simp, fun h => absurd h (Nat.lt_irrefl _)⟩, fun a h => by simp at h, Nat.le_refl _⟩
  · have hlm : len ≤ m := by rw [hmm]; split <;> omega
    obtain ⟨xs, hxl, hx⟩ := list_of (p := fun i (y : α) => ((∃ c, c.length = d.sz ∧ d.K w y c ∧ ∀ q u, c[q]? = some u → w.cell? (a.add (i * d.sz + q)) = some u) ∧ S y) ∧ B y ≤ Rows.uptoBulk (D i)) len (fun i hil => by
      obtain ⟨cs', hc, ht'⟩ := hi i (by omega)
      obtain ⟨y, hy, hS, hB⟩ := hd.2 enc w base spare held n cs' _ ht'
      obtain ⟨_, hcl, hat⟩ := World.cells?_some hc
      refine ⟨y, ⟨⟨cs', by rw [hcl, hd.1], hy, fun q u hu => ?_⟩, hS⟩, hB⟩
      have hq : q < cs'.length := (List.getElem?_eq_some_iff.1 hu).1
      have := hat q (by omega)
      rw [hd.1, Deep.add_add] at this
      rw [this, hu])
    have h64 : maxLen ≤ 9223372036854775807 := by decide
    refine ⟨some a, cap, xs, by rw [hxl], by omega, hm, by rw [hxl]; exact ⟨hxl, by omega, fun _ => ⟨a, rfl, fun j p hj => (hx j p hj).1.1⟩⟩, fun y hy => ?_, ?_⟩
    · obtain ⟨j, hj⟩ := List.mem_iff_getElem?.1 hy
      exact (hx j y hj).1.2
    · have := bulk_sum B xs D (fun j y hj => (hx j y hj).2)
      rw [hxl] at this
      simp only [Rows.uptoBulk, wL]
      omega
theorem opensU_slice {α : Type} {P : Program} {t e : TypeId} {d : Kd α} {S : α → Prop} {B : α → Nat} (hC : P.cellsOf t = 1) (ht : P.underlying t = some (.slice e)) (hd : OpensU P e d S B) : OpensU P t (Kd.slice e d) (fun xs => ∀ a ∈ xs, S a) (wL B) := by
  refine ⟨hC, fun enc w base spare held fuel cs x h => ?_⟩
  obtain ⟨A, c, xs, rfl, h1, _, h2, h3, h4⟩ := opensU_row ht hd h
  exact ⟨xs, ⟨A, c, rfl, h1, h2⟩, h3, h4⟩

/-! ### structs: the fields from one on -/
def OpensTailU {α : Type} (P : Program) (fs : List Field) (off : Nat) (d : Kd α) (S : α → Prop) (B : α → Nat) : Prop :=
  ∀ {H : Type} (enc : TypeId × Value → H) (w : World) (base : Nat) (spare : Nat → Bool) (held : Bool) (n : Nat) (cs : List Value) (xs : List (DataW H × List MemPlace)),
    xs.length = fs.length → cs.length = off + d.sz → (∀ (i : Nat) (f : Field), fs[i]? = some f → DataW.trod enc P w base spare held n f.type ((cs.drop f.offset).take (P.cellsOf f.type)) = xs[i]?) →
    ∃ a, d.K w a (cs.drop off) ∧ S a ∧ B a ≤ Rows.uptoBulkAll (xs.map (·.1))
theorem opensTailU_last {α : Type} {P : Program} {f : Field} {off : Nat} {d : Kd α} {S : α → Prop} {B : α → Nat} (ho : f.offset = off) (hd : OpensU P f.type d S B) : OpensTailU P [f] off d S B := by
  intro H enc w base spare held n cs xs hx hl h
  obtain ⟨x, rfl⟩ : ∃ x, xs = [x] := by
    match xs, hx with
    | [x], _ => exact ⟨x, rfl⟩
  have h0 := h 0 f rfl
  rw [ho, hd.1, List.take_of_length_le (by rw [List.length_drop]; omega)] at h0
  obtain ⟨a, h1, h2, h3⟩ := hd.2 enc w base spare held n _ x h0
  exact ⟨a, h1, h2, by simp only [List.map_cons, List.map_nil, Rows.uptoBulkAll]; omega⟩
theorem opensTailU_cons {α β : Type} {P : Program} {f : Field} {fs : List Field} {off : Nat} {d : Kd α} {e : Kd β} {S : α → Prop} {T : β → Prop} {B : α → Nat} {C : β → Nat} (ho : f.offset = off) (hd : OpensU P f.type d S B) (he : OpensTailU P fs (off + d.sz) e T C) :
    OpensTailU P (f :: fs) off (Kd.pair d e) (fun x => S x.1 ∧ T x.2) (fun x => B x.1 + C x.2) := by
  intro H enc w base spare held n cs xs hx hl h
  obtain ⟨x, xs, rfl⟩ : ∃ x r, xs = x :: r := by
    match xs, hx with
    | x :: r, _ => exact ⟨x, r, rfl⟩
  have hsz : (Kd.pair d e).sz = d.sz + e.sz := rfl
  rw [hsz] at hl
  have h0 := h 0 f rfl
  rw [ho, hd.1] at h0
  obtain ⟨a, ha, hS, hB⟩ := hd.2 enc w base spare held n _ x h0
  obtain ⟨b, hb, hT, hC⟩ := he enc w base spare held n cs xs (by simpa using hx) (by omega) (fun i g hg => h (i + 1) g (by simpa using hg))
  refine ⟨(a, b), ⟨(cs.drop off).take d.sz, cs.drop (off + d.sz), ?_, ha, hb⟩, ⟨hS, hT⟩, ?_⟩
  · rw [← List.drop_drop, List.take_append_drop]
  · simp only [List.map_cons, Rows.uptoBulkAll]; omega
theorem opensU_struct {α β : Type} {P : Program} {t : TypeId} {fs : Array Field} {l : List Field} {d : Kd α} {S : α → Prop} {B : α → Nat} (f : β → α) (ht : P.underlying t = some (.struct fs)) (hl : fs.toList = l) (hC : P.cellsOf t = d.sz) (hT : OpensTailU P l 0 d S B) (hf : ∀ a, ∃ x, f x = a) :
    OpensU P t (Kd.iso d f) (fun x => S (f x)) (fun x => B (f x) + 1) := by
  subst hl
  refine ⟨hC, fun enc w base spare held fuel cs x h => ?_⟩
  obtain ⟨ys, n, _, rfl, hlen, hyl, hfl⟩ := DataW.trod_struct ht h
  obtain ⟨a, ha, hS, hB⟩ := hT enc w base spare held n cs ys (by rw [hyl]; simp) (by rw [hlen, hC]; omega) (fun i g hg => hfl i g (by rw [← hg]; simp))
  obtain ⟨y, rfl⟩ := hf a
  exact ⟨y, by rw [List.drop_zero] at ha; exact ha, hS, by simp only [Rows.uptoBulk]; omega⟩
/-- A parameter of any such type, by itself. -/
theorem opensU_val {α : Type} {P : Program} {t : TypeId} {d : Kd α} {S : α → Prop} {B : α → Nat} (hd : OpensU P t d S B) {H : Type} {enc : TypeId × Value → H} {w : World} {base : Nat} {spare : Nat → Bool} {held : Bool} {v : Value} {x : DataW H} {p : List MemPlace}
    (h : DataW.Trod enc P w base spare held t v x p) : ∃ a, d.K w a v.cells.toList ∧ S a ∧ B a ≤ Rows.uptoBulk x := by
  obtain ⟨fuel, hf⟩ := h
  exact hd.2 enc w base spare held fuel _ (x, p) hf
end Go.Proofs.YtaeikiigdfgmaaaDoor
