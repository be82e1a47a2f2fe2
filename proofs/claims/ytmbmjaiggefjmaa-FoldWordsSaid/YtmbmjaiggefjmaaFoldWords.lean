/- Words between spaces: plain laws. -/
import Derived.Test.YtmbmjaiggefjmaaGivenFold2
import Derived.Test.YtmbmjaiggefjmaaPlain
namespace Go.Proofs.Ytmbmjaiggefjmaa
set_option linter.unusedVariables false
set_option linter.unusedSimpArgs false
open Go.RowKit Go.Proofs.YtmbmjaiggefjmaaW.PrintWords

/-! ### words -/
theorem fieldsAux_len {p : UInt8 → Bool} : ∀ (l w x : List UInt8), x ∈ fieldsAux p l w → x.length ≤ w.length + l.length
  | [], w, x, h => by
    unfold fieldsAux at h
    split at h
    · simp at h
    · rw [List.mem_singleton] at h; subst h; simp
  | c :: t, w, x, h => by
    unfold fieldsAux at h
    split at h
    · split at h
      · have := fieldsAux_len t [] x h; simp at this ⊢; omega
      · rcases List.mem_cons.1 h with h | h
        · subst h; simp
        · have := fieldsAux_len t [] x h; simp at this ⊢; omega
    · have := fieldsAux_len t (w ++ [c]) x h; simp at this ⊢; omega
theorem words_len {l x : List UInt8} (h : x ∈ words l) : x.length ≤ l.length := by
  have := fieldsAux_len l [] x h
  simpa using this
theorem fieldsAux_count {p : UInt8 → Bool} : ∀ (l w : List UInt8), (fieldsAux p l w).length ≤ l.length + 1
  | [], w => by unfold fieldsAux; split <;> simp
  | c :: t, w => by
    unfold fieldsAux
    split
    · split
      · have := fieldsAux_count (p := p) t []; simp; omega
      · have := fieldsAux_count (p := p) t []; simp; omega
    · have := fieldsAux_count (p := p) t (w ++ [c]); simp; omega
theorem words_count (l : List UInt8) : (words l).length ≤ l.length + 1 := fieldsAux_count l []
/-- A word has bytes, none of which is a space; they are bytes of the text. -/
theorem fieldsAux_mem {p : UInt8 → Bool} : ∀ (l w x : List UInt8), (∀ c ∈ w, p c = false) → x ∈ fieldsAux p l w → x ≠ [] ∧ (∀ c ∈ x, p c = false) ∧ ∀ c ∈ x, c ∈ w ∨ c ∈ l
  | [], w, x, hw, h => by
    unfold fieldsAux at h
    split at h
    · simp at h
    · rename_i hn
      rw [List.mem_singleton] at h; subst h
      exact ⟨hn, hw, fun c hc => .inl hc⟩
  | c :: t, w, x, hw, h => by
    unfold fieldsAux at h
    split at h
    · split at h
      · obtain ⟨h1, h2, h3⟩ := fieldsAux_mem t [] x (by simp) h
        exact ⟨h1, h2, fun d hd => .inr (by rcases h3 d hd with h | h <;> simp_all)⟩
      · rename_i hn
        rcases List.mem_cons.1 h with h | h
        · subst h; exact ⟨hn, hw, fun d hd => .inl hd⟩
        · obtain ⟨h1, h2, h3⟩ := fieldsAux_mem t [] x (by simp) h
          exact ⟨h1, h2, fun d hd => .inr (by rcases h3 d hd with h | h <;> simp_all)⟩
    · rename_i hp
      obtain ⟨h1, h2, h3⟩ := fieldsAux_mem t (w ++ [c]) x (by
        intro d hd
        rcases List.mem_append.1 hd with h | h
        · exact hw d h
        · rw [List.mem_singleton] at h; subst h; simpa using hp) h
      refine ⟨h1, h2, fun d hd => ?_⟩
      rcases h3 d hd with h | h
      · rcases List.mem_append.1 h with h | h
        · exact .inl h
        · rw [List.mem_singleton] at h; subst h; exact .inr (by simp)
      · exact .inr (by simp [h])
theorem words_mem {l x : List UInt8} (h : x ∈ words l) : x ≠ [] ∧ (∀ c ∈ x, space c = false) ∧ ∀ c ∈ x, c ∈ l := by
  obtain ⟨h1, h2, h3⟩ := fieldsAux_mem l [] x (by simp) h
  exact ⟨h1, h2, fun c hc => by rcases h3 c hc with h | h <;> simp_all⟩
theorem fieldsAux_one {p : UInt8 → Bool} : ∀ (l w : List UInt8), (∀ c ∈ l, p c = false) → w ++ l ≠ [] → fieldsAux p l w = [w ++ l]
  | [], w, h, hn => by unfold fieldsAux; rw [if_neg (by simpa using hn)]; simp
  | c :: t, w, h, hn => by
    unfold fieldsAux
    rw [if_neg (by simp [h c (by simp)]), fieldsAux_one t (w ++ [c]) (fun d hd => h d (by simp [hd])) (by simp)]
    simp
theorem words_one {l : List UInt8} (h : ∀ c ∈ l, space c = false) (hn : l ≠ []) : words l = [l] := by
  have := fieldsAux_one l [] h (by simpa using hn)
  simpa [words] using this
/-- Behind a space the words begin anew. -/
theorem fieldsAux_space {p : UInt8 → Bool} {c : UInt8} (hc : p c = true) : ∀ (a b w : List UInt8), fieldsAux p (a ++ c :: b) w = fieldsAux p a w ++ fieldsAux p b []
  | [], b, w => by
    show (if p c then _ else _) = _
    rw [if_pos hc]
    unfold fieldsAux
    split
    · cases b <;> simp [fieldsAux]
    · cases b <;> simp [fieldsAux]
  | x :: t, b, w => by
    have ih := fieldsAux_space hc t b
    rw [List.cons_append]
    show (if p x then _ else _) = (if p x then _ else _) ++ _
    by_cases hx : p x = true
    · rw [if_pos hx, if_pos hx]
      split
      · exact ih []
      · rw [ih []]; rfl
    · rw [if_neg hx, if_neg hx]
      exact ih _
theorem words_space {c : UInt8} (hc : space c = true) (a b : List UInt8) : words (a ++ c :: b) = words a ++ words b := fieldsAux_space hc a b []
theorem words_nil : words [] = [] := rfl
theorem words_lead {c : UInt8} (hc : space c = true) (b : List UInt8) : words (c :: b) = words b := words_space hc [] b
theorem words_trail {c : UInt8} (hc : space c = true) (a : List UInt8) : words (a ++ [c]) = words a := by
  rw [words_space hc]; simp [words_nil]

/-! ### small letters -/
theorem low_low (c : UInt8) : low (low c) = low c := by
  by_cases h : 65 ≤ c.toNat ∧ c.toNat ≤ 90
  · have := low_hi h.1 h.2
    exact low_id (by omega)
  · rw [low_id h, low_id h]
theorem lower_lower (l : List UInt8) : lower (lower l) = lower l := by
  unfold lower
  rw [List.map_map]
  exact List.map_congr_left fun c _ => low_low c
theorem space_low (c : UInt8) : space (low c) = space c := by
  by_cases h : 65 ≤ c.toNat ∧ c.toNat ≤ 90
  · have := low_hi h.1 h.2
    have h1 : ∀ d : UInt8, 65 ≤ d.toNat → space d = false := by
      intro d hd
      cases hs : space d with
      | false => rfl
      | true =>
        have := (spaceI_iff d.toNat).1 hs
        omega
    rw [h1 _ h.1, h1 _ (by omega)]
  · rw [low_id h]
theorem lower_space {l : List UInt8} (h : ∀ c ∈ l, space c = false) : ∀ c ∈ lower l, space c = false := by
  intro c hc
  obtain ⟨d, hd, rfl⟩ := List.mem_map.1 hc
  rw [space_low]; exact h d hd
theorem lower_ne {l : List UInt8} (h : l ≠ []) : lower l ≠ [] := by
  intro e
  exact h (List.map_eq_nil_iff.1 e)
end Go.Proofs.Ytmbmjaiggefjmaa
