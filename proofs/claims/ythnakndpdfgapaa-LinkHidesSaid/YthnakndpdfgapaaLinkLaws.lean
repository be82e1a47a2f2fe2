/- Plain laws of addresses: what is stripped stays, a scheme's beginning, marks. -/
import Derived.Test.YthnakndpdfgapaaLinkRef2
namespace Go.Proofs.Ythnakndpdfgapaa.Pure
set_option linter.unusedVariables false
set_option linter.unusedSimpArgs false
open Go.RowKit Go.Proofs.Ythnakndpdfgapaa.Pr Go.Proofs.YthnakndpdfgapaaW.PrintWords Go.Proofs.YthnakndpdfgapaaW.PrintLast

theorem takeS (a : ByteArray) (n : Int) (h0 : 0 ≤ n) : 0 ≤ mn (a.size : Int) n ∧ mn (a.size : Int) n ≤ (a.size : Int) ∧ ((a.extract 0 (mn (a.size : Int) n).toNat).size : Int) ≤ n := by
  have h : mn (a.size : Int) n ≤ n ∧ 0 ≤ mn (a.size : Int) n ∧ mn (a.size : Int) n ≤ (a.size : Int) := by
    unfold mn
    split <;> omega
  refine ⟨h.2.1, h.2.2, ?_⟩
  rw [ByteArray.size_extract]
  omega
set_option maxRecDepth 100000 in
theorem fixed_true : boltinglaw09_fixed.f = some true := by decide +kernel
theorem strip_f (s : ByteArray) (h : s.size ≤ 1000000) : link_Strip.f s = some (mkS (strip s.data.toList)) := bnd_of _ (by omega)
theorem percent_f (s : ByteArray) (h : s.size ≤ 1000000) : link_Percent.f s = some (mkS (percent s.data.toList)) := bnd_of _ (by omega)
theorem scheme_f (s : ByteArray) (h : s.size ≤ 1000000) : link_Scheme.f s = some (mkS ((scheme s.data.toList).getD []), (scheme s.data.toList).isSome) := bnd_of _ (by omega)
theorem script_f (s : ByteArray) (h : s.size ≤ 1000000) : link_Script.f s = some (script s.data.toList) := bnd_of _ (by omega)
theorem source_f (s : ByteArray) (h : s.size ≤ 1000000) : link_Source.f s = some (mkS ((source s.data.toList).getD []), (source s.data.toList).isSome) := bnd_of _ (by omega)

/-! ### what is stripped stays -/
theorem drop_head {p : UInt8 → Bool} : ∀ {m : List UInt8} {d : UInt8} {r : List UInt8}, m.dropWhile p = d :: r → p d = false
  | [], d, r, h => by simp at h
  | c :: t, d, r, h => by
    rw [List.dropWhile_cons] at h
    by_cases hp : p c = true
    · rw [if_pos hp] at h; exact drop_head h
    · rw [if_neg hp] at h
      cases h
      simpa using hp
theorem rcut_last {p : UInt8 → Bool} {l : List UInt8} (h : rcut p l ≠ []) : ∃ t d, rcut p l = t ++ [d] ∧ p d = false := by
  unfold rcut at h ⊢
  cases hd : l.reverse.dropWhile p with
  | nil => rw [hd] at h; exact absurd rfl h
  | cons d r => exact ⟨r.reverse, d, by simp, drop_head hd⟩
theorem ws_keep {c : UInt8} (h : ws c = false) : keep c = true := by
  have : ¬ c.toNat ≤ 32 := by simpa [ws] using h
  unfold keep
  simp only [Bool.and_eq_true, bne_iff_ne, ne_eq]
  omega
theorem strip_form (l : List UInt8) : strip l = [] ∨ ((∃ c t, strip l = c :: t ∧ ws c = false) ∧ (∃ t d, strip l = t ++ [d] ∧ ws d = false)) := by
  unfold strip
  by_cases hm : rcut ws (l.dropWhile ws) = []
  · left; rw [hm]; rfl
  · right
    obtain ⟨t, d, h1, h2⟩ := rcut_last hm
    refine ⟨?_, ⟨t.filter keep, d, by rw [h1, List.filter_append, List.filter_cons, if_pos (ws_keep h2)]; rfl, h2⟩⟩
    have hpre := rcut_take ws (l.dropWhile ws)
    cases hD : l.dropWhile ws with
    | nil => rw [hD, rcut_nil] at hm; exact absurd rfl hm
    | cons c r =>
      have hc := drop_head hD
      rw [hD] at hpre hm
      rw [hpre]
      cases htl : tail ws (c :: r) with
      | zero => rw [hpre, htl] at hm; exact absurd rfl hm
      | succ n => exact ⟨c, (r.take n).filter keep, by rw [List.take_succ_cons, List.filter_cons, if_pos (ws_keep hc)], hc⟩
theorem strip_keep (l : List UInt8) : ∀ x ∈ strip l, keep x = true := by
  intro x hx
  unfold strip at hx
  exact (List.mem_filter.1 hx).2
theorem strip_again (l : List UInt8) : strip (strip l) = strip l := by
  rcases strip_form l with h | ⟨⟨c, t, h1, h2⟩, ⟨t', d, h3, h4⟩⟩
  · rw [h]; rfl
  · have hk := strip_keep l
    have hd : (strip l).dropWhile ws = strip l := by rw [h1, List.dropWhile_cons, if_neg (by simp [h2])]
    have hr : rcut ws (strip l) = strip l := by rw [h3, rcut_append_one, h4]; rfl
    show (rcut ws ((strip l).dropWhile ws)).filter keep = strip l
    rw [hd, hr, List.filter_eq_self.2 hk]
theorem strip_plain {l : List UInt8} (h : ∀ c ∈ l, 32 < c.toNat) : strip l = l := by
  have hw : ∀ c ∈ l, ws c = false := fun c hc => by have := h c hc; simp [ws]; omega
  have hd : l.dropWhile ws = l := by
    cases l with
    | nil => rfl
    | cons c t => rw [List.dropWhile_cons, if_neg (by simp [hw c (by simp)])]
  have hr : rcut ws l = l := by
    unfold rcut
    cases hrev : l.reverse with
    | nil => simp at hrev; simp [hrev]
    | cons c t =>
      have hc : ws c = false := hw c (by rw [← List.mem_reverse, hrev]; simp)
      rw [List.dropWhile_cons, if_neg (by simp [hc]), ← hrev, List.reverse_reverse]
  unfold strip
  rw [hd, hr, List.filter_eq_self.2 (fun c hc => ws_keep (hw c hc))]

/-! ### marks -/
theorem percent_len : ∀ l : List UInt8, (percent l).length ≤ l.length
  | [] => by simp [percent]
  | [c] => by simp [percent]
  | [c, d] => by simp [percent]
  | c :: x :: y :: t => by
    rw [percent]
    split
    · have := percent_len t
      simp only [List.length_cons]; omega
    · have := percent_len (x :: y :: t)
      simp only [List.length_cons] at this ⊢; omega
termination_by l => l.length
theorem percent_plain : ∀ l : List UInt8, (∀ c ∈ l, c.toNat ≠ 37) → percent l = l
  | [], _ => by simp [percent]
  | [c], _ => by simp [percent]
  | [c, d], _ => by simp [percent]
  | c :: x :: y :: t, h => by
    rw [percent, if_neg (by rintro ⟨rfl, _⟩; exact h 37 (by simp) rfl), percent_plain (x :: y :: t) (fun d hd => h d (by simp [hd]))]
termination_by l => l.length

/-! ### a scheme is told by what stands ahead of the first colon -/
def pre (l : List UInt8) : List UInt8 := (bef 58 (l.dropWhile ws)).filter keep
theorem ws58 : ws 58 = false := by decide
theorem contains_drop (l : List UInt8) : (l.dropWhile ws).contains 58 = l.contains 58 := by
  induction l with
  | nil => rfl
  | cons c t ih =>
    rw [List.dropWhile_cons]
    by_cases h : ws c = true
    · have hc : c ≠ 58 := by rintro rfl; rw [ws58] at h; cases h
      rw [if_pos h, ih, List.contains_cons]
      simp [Ne.symm hc]
    · rw [if_neg h]
theorem split58 {l : List UInt8} (h : l.contains 58 = true) : l = bef 58 l ++ 58 :: aft 58 l := by
  induction l with
  | nil => simp at h
  | cons c t ih =>
    by_cases hc : c = 58
    · subst hc; simp [bef, aft]
    · have h3 : t.contains 58 = true := by rw [List.contains_cons] at h; simpa [Ne.symm hc] using h
      have hb : bef 58 (c :: t) = c :: bef 58 t := by unfold bef; simp [List.takeWhile_cons, hc]
      have ha : aft 58 (c :: t) = aft 58 t := by unfold aft; simp [List.dropWhile_cons, hc]
      rw [hb, ha, List.cons_append, ← ih h3]
theorem bef_not (l : List UInt8) : (bef 58 l).contains 58 = false := by
  unfold bef
  induction l with
  | nil => rfl
  | cons c t ih =>
    rw [List.takeWhile_cons]
    by_cases hc : c = 58
    · subst hc; simp
    · rw [if_pos (by simpa using hc), List.contains_cons, ih]
      simp [Ne.symm hc]
theorem bef_app {a b : List UInt8} (h : a.contains 58 = false) : bef 58 (a ++ 58 :: b) = a ∧ aft 58 (a ++ 58 :: b) = b := by
  induction a with
  | nil => simp [bef, aft]
  | cons c t ih =>
    have hc : c ≠ 58 ∧ t.contains 58 = false := by
      rw [List.contains_cons] at h
      simp at h
      exact ⟨fun e => h.1 e.symm, by simpa using h.2⟩
    obtain ⟨e1, e2⟩ := ih hc.2
    unfold bef aft at *
    simp only [List.cons_append, List.takeWhile_cons, List.dropWhile_cons]
    rw [if_pos (by simpa using hc.1), if_pos (by simpa using hc.1)]
    exact ⟨by rw [e1], e2⟩
theorem filter_not58 {l : List UInt8} (h : l.contains 58 = false) : (l.filter keep).contains 58 = false := by
  cases hc : (l.filter keep).contains 58 with
  | false => rfl
  | true =>
    have := List.contains_iff_mem.1 hc
    have := List.contains_iff_mem.2 (List.mem_filter.1 this).1
    rw [h] at this; cases this
theorem strip_colon (l : List UInt8) : (l.contains 58 = false ∧ (strip l).contains 58 = false) ∨ (l.contains 58 = true ∧ (strip l).contains 58 = true ∧ bef 58 (strip l) = pre l) := by
  cases h : l.contains 58 with
  | false =>
    left
    refine ⟨rfl, ?_⟩
    cases hc : (strip l).contains 58 with
    | false => rfl
    | true =>
      have h1 := List.contains_iff_mem.1 hc
      unfold strip at h1
      have h2 := (List.mem_filter.1 h1).1
      rw [rcut_take] at h2
      have h3 := List.mem_of_mem_take h2
      have h4 : (l.dropWhile ws).contains 58 = true := List.contains_iff_mem.2 h3
      rw [contains_drop, h] at h4; cases h4
  | true =>
    right
    have hD : (l.dropWhile ws).contains 58 = true := by rw [contains_drop, h]
    have hs := split58 hD
    have hr : rcut ws (l.dropWhile ws) = bef 58 (l.dropWhile ws) ++ 58 :: rcut ws (aft 58 (l.dropWhile ws)) := by
      conv => lhs; rw [hs]
      rw [show bef 58 (l.dropWhile ws) ++ 58 :: aft 58 (l.dropWhile ws) = (bef 58 (l.dropWhile ws) ++ [58]) ++ aft 58 (l.dropWhile ws) by simp, rcut_append]
      split
      · rename_i h0
        rw [rcut_append_one, ws58, h0]; rfl
      · simp
    have hst : strip l = pre l ++ 58 :: (rcut ws (aft 58 (l.dropWhile ws))).filter keep := by
      unfold strip pre
      rw [hr, List.filter_append, List.filter_cons, if_pos (ws_keep ws58)]
    have hp : (pre l).contains 58 = false := filter_not58 (bef_not _)
    refine ⟨rfl, ?_, ?_⟩
    · rw [hst]; simp
    · rw [hst]; exact (bef_app hp).1
theorem scheme_pre (l : List UInt8) : scheme l = if l.contains 58 && okName (pre l) then some (lower (pre l)) else none := by
  unfold scheme
  rcases strip_colon l with ⟨h1, h2⟩ | ⟨h1, h2, h3⟩
  · rw [h1, h2]; rfl
  · rw [h1, h2, h3]
theorem drop_app {l : List UInt8} (h : l.contains 58 = true) (r : List UInt8) : (l ++ r).dropWhile ws = l.dropWhile ws ++ r := by
  rw [List.dropWhile_append]
  have hD : (l.dropWhile ws).contains 58 = true := by rw [contains_drop, h]
  cases hd : l.dropWhile ws with
  | nil => rw [hd] at hD; simp at hD
  | cons c t => simp
theorem pre_app {l : List UInt8} (h : l.contains 58 = true) (r : List UInt8) : pre (l ++ r) = pre l := by
  unfold pre
  rw [drop_app h]
  have hD : (l.dropWhile ws).contains 58 = true := by rw [contains_drop, h]
  have hs := split58 hD
  have h2 : bef 58 (l.dropWhile ws ++ r) = bef 58 (l.dropWhile ws) := by
    conv => lhs; rw [hs]
    rw [List.append_assoc, List.cons_append]
    exact (bef_app (bef_not _)).1
  rw [h2]
end Go.Proofs.Ythnakndpdfgapaa.Pure
