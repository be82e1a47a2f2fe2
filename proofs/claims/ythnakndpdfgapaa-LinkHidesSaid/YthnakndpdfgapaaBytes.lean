/- Plain lemmas on lists of bytes: what stands ahead and behind, letters, schemes. No Go in it. -/
import Derived.Lib.IndexMore
namespace Go.Proofs.Ythnakndpdfgapaa
set_option linter.unusedVariables false
set_option linter.unusedSimpArgs false

/-! ### ahead and behind -/
/-- How many at the head meet p. -/
def lead (p : UInt8 → Bool) (l : List UInt8) : Nat := (l.takeWhile p).length
/-- Without those at the end that meet p. -/
def rcut (p : UInt8 → Bool) (l : List UInt8) : List UInt8 := (l.reverse.dropWhile p).reverse
/-- How many are left then. -/
def tail (p : UInt8 → Bool) (l : List UInt8) : Nat := (rcut p l).length

theorem lead_le (p : UInt8 → Bool) (l : List UInt8) : lead p l ≤ l.length := by
  unfold lead
  induction l with
  | nil => simp
  | cons a t ih => simp only [List.takeWhile_cons]; split <;> simp <;> omega
theorem lead_at (p : UInt8 → Bool) : ∀ (l : List UInt8) (k : Nat), k < lead p l → ∃ c, l[k]? = some c ∧ p c = true
  | [], k, h => by simp [lead] at h
  | a :: t, k, h => by
    unfold lead at h
    simp only [List.takeWhile_cons] at h
    split at h
    · rename_i ha
      cases k with
      | zero => exact ⟨a, rfl, ha⟩
      | succ k => exact lead_at p t k (by unfold lead; simpa using h)
    · simp at h
theorem lead_stop_at (p : UInt8 → Bool) : ∀ (l : List UInt8) (c : UInt8), l[lead p l]? = some c → p c = false
  | [], c, h => by simp [lead] at h
  | a :: t, c, h => by
    unfold lead at h
    simp only [List.takeWhile_cons] at h
    split at h
    · exact lead_stop_at p t c (by unfold lead; simpa using h)
    · rename_i ha
      simp at h
      subst h
      simpa using ha
theorem lead_step {p : UInt8 → Bool} {l : List UInt8} {k : Nat} {c : UInt8} (hk : k ≤ lead p l) (hc : l[k]? = some c) (hp : p c = true) : k + 1 ≤ lead p l := by
  rcases Nat.lt_or_ge k (lead p l) with h | h
  · exact h
  · obtain rfl : k = lead p l := by omega
    rw [lead_stop_at p l c hc] at hp
    cases hp
theorem lead_done {p : UInt8 → Bool} {l : List UInt8} {k : Nat} {c : UInt8} (hk : k ≤ lead p l) (hc : l[k]? = some c) (hp : p c = false) : k = lead p l := by
  rcases Nat.lt_or_ge k (lead p l) with h | h
  · obtain ⟨d, hd, hpd⟩ := lead_at p l k h
    rw [hc] at hd
    cases hd
    rw [hp] at hpd
    cases hpd
  · omega
theorem lead_full {p : UInt8 → Bool} {l : List UInt8} {k : Nat} (hk : k ≤ lead p l) (hl : l.length ≤ k) : k = lead p l := by
  have := lead_le p l
  omega
theorem drop_lead (p : UInt8 → Bool) : ∀ l : List UInt8, l.drop (lead p l) = l.dropWhile p
  | [] => by simp [lead]
  | a :: t => by
    unfold lead
    simp only [List.takeWhile_cons, List.dropWhile_cons]
    split
    · have := drop_lead p t
      unfold lead at this
      simpa using this
    · simp

theorem rcut_append_one (p : UInt8 → Bool) (l : List UInt8) (c : UInt8) : rcut p (l ++ [c]) = if p c then rcut p l else l ++ [c] := by
  unfold rcut
  rw [List.reverse_append]
  simp only [List.reverse_cons, List.reverse_nil, List.nil_append, List.cons_append, List.dropWhile_cons]
  split <;> simp
theorem rcut_nil (p : UInt8 → Bool) : rcut p [] = [] := by simp [rcut]
theorem tail_le (p : UInt8 → Bool) (l : List UInt8) : tail p l ≤ l.length := by
  unfold tail rcut
  rw [List.length_reverse]
  have := (List.dropWhile_sublist p (l := l.reverse)).length_le
  simpa using this
/-- What is cut is a beginning. -/
theorem rcut_take (p : UInt8 → Bool) (l : List UInt8) : rcut p l = l.take (tail p l) := by
  unfold tail
  have h : rcut p l <+: l := by
    unfold rcut
    have := List.dropWhile_suffix p (l := l.reverse)
    rw [← List.reverse_prefix] at this
    simpa using this
  exact (List.prefix_iff_eq_take.1 h)
theorem take_succ' {l : List UInt8} {k : Nat} {c : UInt8} (hc : l[k]? = some c) : l.take (k + 1) = l.take k ++ [c] := by
  rw [List.take_add_one, hc]; rfl
/-- From k on all meet p. -/
theorem tail_from {p : UInt8 → Bool} {l : List UInt8} : ∀ {k : Nat}, rcut p (l.take k) = rcut p l → tail p l ≤ k := by
  intro k h
  unfold tail
  rw [← h]
  have := tail_le p (l.take k)
  unfold tail at this
  have h2 : (l.take k).length ≤ k := List.length_take_le _ _
  omega
theorem rcut_take_step {p : UInt8 → Bool} {l : List UInt8} {k : Nat} {c : UInt8} (h : rcut p (l.take (k + 1)) = rcut p l) (hc : l[k]? = some c) (hp : p c = true) : rcut p (l.take k) = rcut p l := by
  rw [take_succ' hc, rcut_append_one, hp] at h
  simpa using h
theorem rcut_take_done {p : UInt8 → Bool} {l : List UInt8} {k : Nat} {c : UInt8} (h : rcut p (l.take (k + 1)) = rcut p l) (hc : l[k]? = some c) (hp : p c = false) : rcut p l = l.take (k + 1) := by
  rw [take_succ' hc, rcut_append_one, hp] at h
  rw [take_succ' hc]
  simpa using h.symm

/-! ### bytes that do not count in an address -/
def ws (c : UInt8) : Bool := decide (c.toNat ≤ 32)
def keep (c : UInt8) : Bool := c.toNat != 9 && c.toNat != 10 && c.toNat != 13
def strip (l : List UInt8) : List UInt8 := (rcut ws (l.dropWhile ws)).filter keep
end Go.Proofs.Ythnakndpdfgapaa
