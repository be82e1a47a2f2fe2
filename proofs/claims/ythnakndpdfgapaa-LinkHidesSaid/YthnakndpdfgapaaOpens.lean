/- Values that came in, read as the printed functions read them, whatever their type is made of. -/
import Derived.Test.YthnakndpdfgapaaWWords
import Derived.Deep.Slices
import Derived.ChangeArms
import Derived.ChangeSame
namespace Go.Proofs.Ythnakndpdfgapaa
set_option linter.unusedVariables false
open Go.RowKit Go.ChangeShapes Go.WideShapes Go.Deep Go.Proofs.YthnakndpdfgapaaW.PrintWords

/-- What is read as data at type t is, cell by cell, of kind d. -/
def Opens {α : Type} (P : Program) (t : TypeId) (d : Kd α) : Prop :=
  P.cellsOf t = d.sz ∧ ∀ {H : Type} (enc : TypeId × Value → H) (w : World) (base : Nat) (spare : Nat → Bool) (held : Bool) (fuel : Nat) (cs : List Value) (x : DataW H × List MemPlace),
    DataW.trod enc P w base spare held fuel t cs = some x → ∃ a, d.K w a cs
theorem opens_string {P : Program} {t : TypeId} (hC : P.cellsOf t = 1) (ht : P.underlying t = some .string) : Opens P t Kd.string := by
  refine ⟨hC, fun enc w base spare held fuel cs x h => ?_⟩
  obtain ⟨s, rfl, _⟩ := DataW.trod_string ht h
  exact ⟨s, rfl⟩
theorem opens_bool {P : Program} {t : TypeId} (hC : P.cellsOf t = 1) (ht : P.underlying t = some .bool) : Opens P t Kd.bool := by
  refine ⟨hC, fun enc w base spare held fuel cs x h => ?_⟩
  obtain ⟨s, rfl, _⟩ := DataW.trod_bool ht h
  exact ⟨s, rfl⟩
theorem opens_int {P : Program} {t : TypeId} {k : IntKind} (hC : P.cellsOf t = 1) (ht : P.underlying t = some (.int k)) : Opens P t (Kd.int k) := by
  refine ⟨hC, fun enc w base spare held fuel cs x h => ?_⟩
  obtain ⟨s, rfl, _⟩ := DataW.trod_int ht h
  exact ⟨s, rfl⟩
theorem list_of {α : Type} {p : Nat → α → Prop} : ∀ (n : Nat), (∀ i, i < n → ∃ a, p i a) → ∃ l : List α, l.length = n ∧ ∀ (i : Nat) (a : α), l[i]? = some a → p i a
  | 0, _ => ⟨[], rfl, fun i a h => by simp at h⟩
  | n + 1, h => by
    obtain ⟨l, hl, hp⟩ := list_of n (fun i hi => h i (by omega))
    obtain ⟨a, ha⟩ := h n (by omega)
    refine ⟨l ++ [a], by simp [hl], fun i b hb => ?_⟩
    rcases Nat.lt_or_ge i l.length with hi | hi
    · rw [List.getElem?_append_left hi] at hb
      exact hp i b hb
    · rw [List.getElem?_append_right hi] at hb
      have : i - l.length = 0 := by
        have := (List.getElem?_eq_some_iff.1 hb).1
        simp at this; omega
      rw [this] at hb
      simp at hb; subst hb
      rw [show i = n by omega]; exact ha
/-- A slice that came in: a row that is read. -/
theorem opens_row {α : Type} {P : Program} {t e : TypeId} {d : Kd α} (ht : P.underlying t = some (.slice e)) (hd : Opens P e d) {H : Type} {enc : TypeId × Value → H} {w : World} {base : Nat} {spare : Nat → Bool} {held : Bool} {fuel : Nat} {cs : List Value} {x : DataW H × List MemPlace}
    (h : DataW.trod enc P w base spare held fuel t cs = some x) : ∃ A c xs, cs = [.slice A xs.length c] ∧ xs.length ≤ c ∧ c ≤ maxLen ∧ d.C w A xs.length xs := by
  rcases open_slice ht h with ⟨rfl, _⟩ | ⟨a, len, cap, m, n, D, Pl, rfl, hb, hl, hm, hmm, _, hi⟩
  · exact ⟨none, 0, [], rfl, Nat.le_refl _, Nat.zero_le _, rfl, by simp, fun h => absurd h (Nat.lt_irrefl _)⟩
  · have hlm : len ≤ m := by rw [hmm]; split <;> omega
    obtain ⟨xs, hxl, hx⟩ := list_of (p := fun i (y : α) => ∃ c, c.length = d.sz ∧ d.K w y c ∧ ∀ q u, c[q]? = some u → w.cell? (a.add (i * d.sz + q)) = some u) len (fun i hil => by
      obtain ⟨cs', hc, ht'⟩ := hi i (by omega)
      obtain ⟨y, hy⟩ := hd.2 enc w base spare held n cs' _ ht'
      obtain ⟨_, hcl, hat⟩ := World.cells?_some hc
      refine ⟨y, cs', by rw [hcl, hd.1], hy, fun q u hu => ?_⟩
      have hq : q < cs'.length := (List.getElem?_eq_some_iff.1 hu).1
      have := hat q (by omega)
      rw [hd.1, Deep.add_add] at this
      rw [this, hu])
    have h64 : maxLen ≤ 9223372036854775807 := by decide
    exact ⟨some a, cap, xs, by rw [hxl], by omega, hm, by rw [hxl]; exact ⟨hxl, by omega, fun _ => ⟨a, rfl, fun j p hj => hx j p hj⟩⟩⟩
theorem opens_slice {α : Type} {P : Program} {t e : TypeId} {d : Kd α} (hC : P.cellsOf t = 1) (ht : P.underlying t = some (.slice e)) (hd : Opens P e d) : Opens P t (Kd.slice e d) := by
  refine ⟨hC, fun enc w base spare held fuel cs x h => ?_⟩
  obtain ⟨A, c, xs, rfl, h1, _, h2⟩ := opens_row ht hd h
  exact ⟨xs, A, c, rfl, h1, h2⟩
end Go.Proofs.Ythnakndpdfgapaa
