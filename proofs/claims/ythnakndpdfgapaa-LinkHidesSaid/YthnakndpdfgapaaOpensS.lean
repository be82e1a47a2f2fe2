/- Values that came in, read as the printed functions read them, with what the row's bound tells of their texts' sizes; structs too. -/
import Derived.Test.YthnakndpdfgapaaOpens
import Derived.SizedLaws
namespace Go.Proofs.Ythnakndpdfgapaa
set_option linter.unusedVariables false
open Go.RowKit Go.ChangeShapes Go.WideShapes Go.Deep Go.Proofs.YthnakndpdfgapaaW.PrintWords

/-- What is read as data at type t, its parts within the reach, is, cell by cell, of kind d, and meets S. -/
def OpensS {α : Type} (P : Program) (t : TypeId) (d : Kd α) (S : α → Prop) : Prop :=
  P.cellsOf t = d.sz ∧ ∀ {H : Type} (enc : TypeId × Value → H) (w : World) (base : Nat) (spare : Nat → Bool) (held : Bool) (fuel : Nat) (cs : List Value) (x : DataW H × List MemPlace),
    DataW.trod enc P w base spare held fuel t cs = some x → (∀ n ∈ x.1.weights P t, n ≤ reachBytes) → ∃ a, d.K w a cs ∧ S a
theorem opensS_string {P : Program} {t : TypeId} (hC : P.cellsOf t = 1) (ht : P.underlying t = some .string) : OpensS P t Kd.string (fun s => s.size ≤ 140737488351232) := by
  refine ⟨hC, fun enc w base spare held fuel cs x h hw => ?_⟩
  obtain ⟨s, rfl, rfl, _⟩ := DataW.trod_string ht h
  refine ⟨s, rfl, ?_⟩
  have := hw s.data.toList.length (by simp [DataW.weights])
  rw [Array.length_toList] at this
  exact this
theorem opensS_bool {P : Program} {t : TypeId} (hC : P.cellsOf t = 1) (ht : P.underlying t = some .bool) : OpensS P t Kd.bool (fun _ => True) := by
  refine ⟨hC, fun enc w base spare held fuel cs x h hw => ?_⟩
  obtain ⟨s, rfl, _⟩ := DataW.trod_bool ht h
  exact ⟨s, rfl, trivial⟩
theorem opensS_int {P : Program} {t : TypeId} {k : IntKind} (hC : P.cellsOf t = 1) (ht : P.underlying t = some (.int k)) : OpensS P t (Kd.int k) (fun n => (Lit.int k n).wf = true) := by
  refine ⟨hC, fun enc w base spare held fuel cs x h hw => ?_⟩
  obtain ⟨s, rfl, _, hwf⟩ := DataW.trod_int ht h
  exact ⟨s, rfl, hwf⟩
theorem weights_all {H : Type} {P : Program} {e : TypeId} : ∀ {l : List (DataW H)} {d : DataW H}, d ∈ l → ∀ n ∈ d.weights P e, n ∈ DataW.weightsAll P e l
  | [], d, h, _, _ => by simp at h
  | x :: l, d, h, n, hn => by
    unfold DataW.weightsAll
    rw [List.mem_append]
    rcases List.mem_cons.1 h with h | h
    · subst h; exact .inl hn
    · exact .inr (weights_all h n hn)
/-- A slice that came in: a row that is read. -/
theorem opensS_row {α : Type} {P : Program} {t e : TypeId} {d : Kd α} {S : α → Prop} (ht : P.underlying t = some (.slice e)) (hd : OpensS P e d S) {H : Type} {enc : TypeId × Value → H} {w : World} {base : Nat} {spare : Nat → Bool} {held : Bool} {fuel : Nat} {cs : List Value} {x : DataW H × List MemPlace}
    (h : DataW.trod enc P w base spare held fuel t cs = some x) (hw : ∀ n ∈ x.1.weights P t, n ≤ reachBytes) : ∃ A c xs, cs = [.slice A xs.length c] ∧ xs.length ≤ c ∧ c ≤ maxLen ∧ d.C w A xs.length xs ∧ ∀ a ∈ xs, S a := by
  rcases open_slice ht h with ⟨rfl, _⟩ | ⟨a, len, cap, m, n, D, Pl, rfl, hb, hl, hm, hmm, rfl, hi⟩
  · exact ⟨none, 0, [], rfl, Nat.le_refl _, Nat.zero_le _, ⟨rfl, by simp, fun h => absurd h (Nat.lt_irrefl _)⟩, fun a h => by simp at h⟩
  · have hlm : len ≤ m := by rw [hmm]; split <;> omega
    obtain ⟨xs, hxl, hx⟩ := list_of (p := fun i (y : α) => (∃ c, c.length = d.sz ∧ d.K w y c ∧ ∀ q u, c[q]? = some u → w.cell? (a.add (i * d.sz + q)) = some u) ∧ S y) len (fun i hil => by
      obtain ⟨cs', hc, ht'⟩ := hi i (by omega)
      obtain ⟨y, hy, hS⟩ := hd.2 enc w base spare held n cs' _ ht' (fun z hz => hw z (by
        simp only [DataW.weights, ht]
        refine List.mem_cons_of_mem _ (List.mem_append_left _ (weights_all ?_ z hz))
        exact List.mem_map.2 ⟨i, List.mem_range.2 hil, rfl⟩))
      obtain ⟨_, hcl, hat⟩ := World.cells?_some hc
      refine ⟨y, ⟨cs', by rw [hcl, hd.1], hy, fun q u hu => ?_⟩, hS⟩
      have hq : q < cs'.length := (List.getElem?_eq_some_iff.1 hu).1
      have := hat q (by omega)
      rw [hd.1, Deep.add_add] at this
      rw [this, hu])
    have h64 : maxLen ≤ 9223372036854775807 := by decide
    exact ⟨some a, cap, xs, by rw [hxl], by omega, hm, by rw [hxl]; exact ⟨hxl, by omega, fun _ => ⟨a, rfl, fun j p hj => (hx j p hj).1⟩⟩, fun y hy => by
      obtain ⟨j, hj⟩ := List.mem_iff_getElem?.1 hy
      exact (hx j y hj).2⟩
theorem opensS_slice {α : Type} {P : Program} {t e : TypeId} {d : Kd α} {S : α → Prop} (hC : P.cellsOf t = 1) (ht : P.underlying t = some (.slice e)) (hd : OpensS P e d S) : OpensS P t (Kd.slice e d) (fun xs => ∀ a ∈ xs, S a) := by
  refine ⟨hC, fun enc w base spare held fuel cs x h hw => ?_⟩
  obtain ⟨A, c, xs, rfl, h1, _, h2, h3⟩ := opensS_row ht hd h hw
  exact ⟨xs, ⟨A, c, rfl, h1, h2⟩, h3⟩

/-! ### structs: the fields from one on -/
def OpensTail {α : Type} (P : Program) (fs : List Field) (off : Nat) (d : Kd α) (S : α → Prop) : Prop :=
  ∀ {H : Type} (enc : TypeId × Value → H) (w : World) (base : Nat) (spare : Nat → Bool) (held : Bool) (n : Nat) (cs : List Value) (xs : List (DataW H × List MemPlace)),
    xs.length = fs.length → cs.length = off + d.sz → (∀ (i : Nat) (f : Field), fs[i]? = some f → DataW.trod enc P w base spare held n f.type ((cs.drop f.offset).take (P.cellsOf f.type)) = xs[i]?) →
    (∀ m ∈ DataW.weightsEach P (fs.map (·.type)) (xs.map (·.1)), m ≤ reachBytes) → ∃ a, d.K w a (cs.drop off) ∧ S a
theorem opensTail_last {α : Type} {P : Program} {f : Field} {off : Nat} {d : Kd α} {S : α → Prop} (ho : f.offset = off) (hd : OpensS P f.type d S) : OpensTail P [f] off d S := by
  intro H enc w base spare held n cs xs hx hl h hw
  obtain ⟨x, rfl⟩ : ∃ x, xs = [x] := by
    match xs, hx with
    | [x], _ => exact ⟨x, rfl⟩
  have h0 := h 0 f rfl
  rw [ho, hd.1, List.take_of_length_le (by rw [List.length_drop]; omega)] at h0
  exact hd.2 enc w base spare held n _ x h0 (fun m hm => hw m (by simp [DataW.weightsEach, hm]))
theorem opensTail_cons {α β : Type} {P : Program} {f : Field} {fs : List Field} {off : Nat} {d : Kd α} {e : Kd β} {S : α → Prop} {T : β → Prop} (ho : f.offset = off) (hd : OpensS P f.type d S) (he : OpensTail P fs (off + d.sz) e T) :
    OpensTail P (f :: fs) off (Kd.pair d e) (fun x => S x.1 ∧ T x.2) := by
  intro H enc w base spare held n cs xs hx hl h hw
  obtain ⟨x, xs, rfl⟩ : ∃ x r, xs = x :: r := by
    match xs, hx with
    | x :: r, _ => exact ⟨x, r, rfl⟩
  have hsz : (Kd.pair d e).sz = d.sz + e.sz := rfl
  rw [hsz] at hl
  have h0 := h 0 f rfl
  rw [ho, hd.1] at h0
  obtain ⟨a, ha, hS⟩ := hd.2 enc w base spare held n _ x h0 (fun m hm => hw m (by simp [DataW.weightsEach, hm]))
  obtain ⟨b, hb, hT⟩ := he enc w base spare held n cs xs (by simpa using hx) (by omega) (fun i g hg => h (i + 1) g (by simpa using hg)) (fun m hm => hw m (by simp [DataW.weightsEach] at hm ⊢; exact .inr hm))
  refine ⟨(a, b), ⟨(cs.drop off).take d.sz, cs.drop (off + d.sz), ?_, ha, hb⟩, hS, hT⟩
  rw [← List.drop_drop, List.take_append_drop]
theorem opensS_struct {α β : Type} {P : Program} {t : TypeId} {fs : Array Field} {l : List Field} {d : Kd α} {S : α → Prop} (f : β → α) (ht : P.underlying t = some (.struct fs)) (hl : fs.toList = l) (hC : P.cellsOf t = d.sz) (hT : OpensTail P l 0 d S) (hf : ∀ a, ∃ x, f x = a) :
    OpensS P t (Kd.iso d f) (fun x => S (f x)) := by
  subst hl
  refine ⟨hC, fun enc w base spare held fuel cs x h hw => ?_⟩
  obtain ⟨ys, n, _, rfl, hlen, hyl, hfl⟩ := DataW.trod_struct ht h
  obtain ⟨a, ha, hS⟩ := hT enc w base spare held n cs ys (by rw [hyl]; simp) (by rw [hlen, hC]; omega) (fun i g hg => hfl i g (by rw [← hg]; simp)) (fun m hm => hw m (by simp only [DataW.weights, ht]; exact hm))
  obtain ⟨y, rfl⟩ := hf a
  exact ⟨y, by rw [List.drop_zero] at ha; exact ha, hS⟩
end Go.Proofs.Ythnakndpdfgapaa
