/- The loop's tasks, source by source, against the document's one list. -/
import Derived.Test.YtldbplagenjooaaLoopRef4
import Derived.Test.YtldbplagenjooaaLoopTwo
namespace Go.Proofs.Ytldbplagenjooaa
set_option linter.unusedVariables false
set_option linter.unusedSimpArgs false
open Go.RowKit Go.Lib Go.Shelf Go.Maps Go.Proofs.YtldbplagenjooaaW.PrintWords Go.Proofs.YtldbplagenjooaaW.PrintLast

def ofSrc (L : List Tk) (j : Int) : List ByteArray := (L.filter fun x => x.1 == j).map (·.2)
structure Match (T : Int → List ByteArray) (L : List Tk) : Prop where
  eq : ∀ j, T j = ofSrc L j
  rng : ∀ x ∈ L, 0 ≤ x.1 ∧ x.1 < 8
theorem ofSrc_append (L M : List Tk) (j : Int) : ofSrc (L ++ M) j = ofSrc L j ++ ofSrc M j := by
  unfold ofSrc
  rw [List.filter_append, List.map_append]
theorem ofSrc_one (k j : Int) (s : ByteArray) : ofSrc [(k, s)] j = if j = k then [s] else [] := by
  unfold ofSrc
  rw [List.filter_cons, List.filter_nil]
  by_cases h : j = k
  · subst h; simp
  · have : (k == j) = false := beq_eq_false_iff_ne.2 (fun e => h e.symm)
    simp [this, h]
theorem match_nil : Match (fun _ => []) [] := ⟨fun _ => rfl, fun x hx => by simp at hx⟩
theorem Match.post {T : Int → List ByteArray} {L : List Tk} (h : Match T L) {k : Int} (s : ByteArray) (h0 : 0 ≤ k) (h8 : k < 8) : Match (upd T k (T k ++ [s])) (L ++ [(k, s)]) := by
  refine ⟨fun j => ?_, fun x hx => ?_⟩
  · rw [ofSrc_append, ofSrc_one]
    by_cases e : j = k
    · subst e; rw [upd_self, if_pos rfl, h.eq]
    · rw [upd_ne e, if_neg e, List.append_nil, h.eq]
  · rcases List.mem_append.1 hx with g | g
    · exact h.rng x g
    · simp at g; subst g; exact ⟨h0, h8⟩
theorem pst_true (k : Int) (s : ByteArray) : ∀ (L acc : List Tk), L.foldl (pstep k) (true, s, acc) = (true, s, acc ++ L)
  | [], acc => by simp
  | x :: L, acc => by
    rw [List.foldl_cons]
    have : pstep k (true, s, acc) x = (true, s, acc ++ [x]) := by unfold pstep; rw [if_neg (by simp)]
    rw [this, pst_true k s L, List.append_assoc]; rfl
theorem pst_false (k : Int) (s : ByteArray) : ∀ (L acc : List Tk), ((∀ x ∈ L, x.1 ≠ k) ∧ L.foldl (pstep k) (false, s, acc) = (false, s, acc ++ L)) ∨ ∃ A t B, L = A ++ (k, t) :: B ∧ (∀ x ∈ A, x.1 ≠ k) ∧ L.foldl (pstep k) (false, s, acc) = (true, t, acc ++ (A ++ B))
  | [], acc => .inl ⟨by simp, by simp⟩
  | x :: L, acc => by
    rw [List.foldl_cons]
    by_cases h : x.1 = k
    · right
      obtain ⟨a, t⟩ := x
      simp only at h
      subst h
      refine ⟨[], t, L, rfl, by simp, ?_⟩
      have : pstep a (false, s, acc) (a, t) = (true, t, acc) := by unfold pstep; rw [if_pos (by simp)]
      rw [this, pst_true]; rfl
    · have e : pstep k (false, s, acc) x = (false, s, acc ++ [x]) := by unfold pstep; rw [if_neg (by simp [h])]
      rw [e]
      rcases pst_false k s L (acc ++ [x]) with ⟨h1, h2⟩ | ⟨A, t, B, h1, h2, h3⟩
      · left
        refine ⟨fun y hy => ?_, by rw [h2]; simp⟩
        rcases List.mem_cons.1 hy with g | g
        · subst g; exact h
        · exact h1 y g
      · right
        refine ⟨x :: A, t, B, by rw [h1]; rfl, fun y hy => ?_, by rw [h3]; simp⟩
        rcases List.mem_cons.1 hy with g | g
        · subst g; exact h
        · exact h2 y g
theorem ofSrc_none {L : List Tk} {k : Int} (h : ∀ x ∈ L, x.1 ≠ k) : ofSrc L k = [] := by
  unfold ofSrc
  rw [List.map_eq_nil_iff, List.filter_eq_nil_iff]
  intro x hx
  simpa using h x hx
theorem Match.none {T : Int → List ByteArray} {L : List Tk} (h : Match T L) {k : Int} (hk : T k = []) : (pst k L).1 = false := by
  rcases pst_false k ⟨#[]⟩ L [] with ⟨_, h2⟩ | ⟨A, t, B, h1, h2, h3⟩
  · unfold pst; rw [h2]
  · exfalso
    rw [h.eq, h1, ofSrc_append, show ((k, t) :: B : List Tk) = [(k, t)] ++ B from rfl, ofSrc_append, ofSrc_one, if_pos rfl] at hk
    simp at hk
theorem Match.some {T : Int → List ByteArray} {L : List Tk} (h : Match T L) {k : Int} {t : ByteArray} {ts : List ByteArray} (hk : T k = t :: ts) : (pst k L).1 = true ∧ (pst k L).2.1 = t ∧ Match (upd T k ts) (pst k L).2.2 ∧ (pst k L).2.2.length ≤ L.length := by
  rcases pst_false k ⟨#[]⟩ L [] with ⟨h1, _⟩ | ⟨A, t', B, h1, h2, h3⟩
  · rw [h.eq, ofSrc_none h1] at hk; cases hk
  · have hp : pst k L = (true, t', A ++ B) := h3
    have hx : ∀ j, T j = ofSrc A j ++ ((if j = k then [t'] else []) ++ ofSrc B j) := fun j => by
      rw [h.eq, h1, ofSrc_append, show ((k, t') :: B : List Tk) = [(k, t')] ++ B from rfl, ofSrc_append, ofSrc_one]
    have hk2 := hx k
    rw [hk, ofSrc_none h2, if_pos rfl] at hk2
    simp only [List.nil_append, List.cons_append, List.cons.injEq] at hk2
    rw [hp]
    refine ⟨rfl, hk2.1.symm, ⟨fun j => ?_, fun x hx2 => h.rng x ?_⟩, ?_⟩
    · rw [ofSrc_append]
      by_cases e : j = k
      · subst e; rw [upd_self, ofSrc_none h2, hk2.2, List.nil_append]
      · rw [upd_ne e, hx j, if_neg e]; rfl
    · rw [h1]
      rcases List.mem_append.1 hx2 with g | g
      · exact List.mem_append_left _ g
      · exact List.mem_append_right _ (List.mem_cons_of_mem _ g)
    · rw [h1]; simp
theorem len_one (x : Tk) (h : 0 ≤ x.1 ∧ x.1 < 8) : sumT (ofSrc [x]) = 1 := by
  obtain ⟨a, s⟩ := x
  simp only at h
  have hs : a = 0 ∨ a = 1 ∨ a = 2 ∨ a = 3 ∨ a = 4 ∨ a = 5 ∨ a = 6 ∨ a = 7 := by omega
  unfold sumT
  simp only [ofSrc_one]
  rcases hs with rfl | rfl | rfl | rfl | rfl | rfl | rfl | rfl <;> simp
theorem sumT_ofSrc : ∀ {L : List Tk} (h : ∀ x ∈ L, 0 ≤ x.1 ∧ x.1 < 8), sumT (ofSrc L) = L.length
  | [], _ => rfl
  | x :: L, h => by
    have ih := sumT_ofSrc (L := L) (fun y hy => h y (List.mem_cons_of_mem _ hy))
    have h1 := len_one x (h x (by simp))
    have : ∀ j, (ofSrc (x :: L) j).length = (ofSrc [x] j).length + (ofSrc L j).length := fun j => by
      rw [show x :: L = [x] ++ L from rfl, ofSrc_append, List.length_append]
    unfold sumT at ih h1 ⊢
    simp only [this, List.length_cons]
    omega
theorem Match.sum {T : Int → List ByteArray} {L : List Tk} (h : Match T L) : sumT T = L.length := by
  have : T = ofSrc L := funext h.eq
  rw [this, sumT_ofSrc h.rng]
theorem Match.srcs {T : Int → List ByteArray} {L : List Tk} (h : Match T L) : rsrc L 8 = srcs T := by
  have e1 : ((List.range 8).map fun i : Nat => (i : Int)) = [0, 1, 2, 3, 4, 5, 6, 7] := by decide
  unfold rsrc Proofs.Ytldbplagenjooaa.srcs
  rw [e1]
  apply List.filter_congr
  intro k _
  rw [h.eq k, Bool.eq_iff_iff, decide_eq_true_eq]
  unfold hasT ofSrc
  rw [List.any_eq_true, ne_eq, List.map_eq_nil_iff, List.filter_eq_nil_iff]
  constructor
  · rintro ⟨x, hx, h1⟩ h2
    exact h2 x hx h1
  · intro h1
    apply Classical.byContradiction
    intro h2
    exact h1 (fun x hx h3 => h2 ⟨x, hx, h3⟩)
theorem Match.len {T : Int → List ByteArray} {L : List Tk} (h : Match T L) (k : Int) : (T k).length ≤ L.length := by
  rw [h.eq]
  unfold ofSrc
  rw [List.length_map]
  exact List.length_filter_le _ _
end Go.Proofs.Ytldbplagenjooaa
