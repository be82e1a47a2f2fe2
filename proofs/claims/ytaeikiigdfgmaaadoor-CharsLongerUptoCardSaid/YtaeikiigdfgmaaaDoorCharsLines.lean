/- Lines and samples of characters: plain Lean. -/
import Derived.Test.YtaeikiigdfgmaaaDoorChars
import Derived.Lib.ReplaceLaws
namespace Go.Proofs.YtaeikiigdfgmaaaDoor.Chars
open Go.Lib
set_option linter.unusedVariables false
set_option linter.unusedSimpArgs false

/-! ### ReplaceAll, from the head on -/
theorem rep_eq {s old new : List UInt8} (h : (old == new) = false) : replaceAll s old new = replaceK old new (Lib.count s old) s := by
  unfold replaceAll replace replaceNum
  rw [h, if_neg (by simp), if_pos (Or.inl (by decide))]
theorem rep_nil {old new : List UInt8} (h : (old == new) = false) (ho : old ≠ []) : replaceAll [] old new = [] := by
  have hi : index [] old = -1 := by
    cases old with
    | nil => exact absurd rfl ho
    | cons a t => rfl
  rw [rep_eq h, count_miss hi]
  rfl
theorem rep_cons {c : UInt8} {t old new : List UInt8} (h : (old == new) = false) (ho : old ≠ []) :
    replaceAll (c :: t) old new = if old.isPrefixOf (c :: t) = true then new ++ replaceAll ((c :: t).drop old.length) old new else c :: replaceAll t old new := by
  rw [rep_eq h, rep_eq h, rep_eq h]
  by_cases hp : old.isPrefixOf (c :: t) = true
  · rw [if_pos hp]
    have hi : index (c :: t) old = ((0 : Nat) : Int) := by unfold index; rw [if_pos hp]; rfl
    rw [count_hit ho hi, Nat.add_comm 1, replaceK_hit old new _ _ 0 hi, Nat.zero_add, List.take_zero, List.nil_append]
  · rw [if_neg hp]
    rcases index_spec t old with ⟨h1, _⟩ | ⟨i, h1, _⟩
    · have hi : index (c :: t) old = -1 := by unfold index; rw [if_neg hp, h1]; rfl
      rw [count_miss hi, count_miss h1]
      rfl
    · have hi : index (c :: t) old = ((i + 1 : Nat) : Int) := by
        unfold index
        rw [if_neg hp, h1, if_neg (by rw [beq_iff_eq]; omega)]
        omega
      rw [count_hit ho hi, count_hit ho h1, Nat.add_comm 1, Nat.add_comm 1, replaceK_hit old new _ _ _ hi, replaceK_hit old new _ _ _ h1]
      rw [show i + 1 + old.length = (i + old.length) + 1 by omega, List.drop_succ_cons, List.take_succ_cons]
      rfl

/-! ### lines -/
/-- One end of lines. -/
def lines : List UInt8 → List UInt8
  | [] => []
  | [c] => [if c = 13 then 10 else c]
  | c :: d :: t => if c = 13 then (if d = 10 then 10 :: lines t else 10 :: lines (d :: t)) else c :: lines (d :: t)
def cr : List UInt8 := [13]
def lf : List UInt8 := [10]
def crlf : List UInt8 := [13, 10]
theorem rep_lines : ∀ (n : Nat) (l : List UInt8), l.length ≤ n → replaceAll (replaceAll l crlf lf) cr lf = lines l := by
  have a1 : (crlf == lf) = false := by decide
  have a2 : (cr == lf) = false := by decide
  have b1 : crlf ≠ [] := by decide
  have b2 : cr ≠ [] := by decide
  intro n
  induction n with
  | zero =>
    intro l h
    obtain rfl : l = [] := List.eq_nil_of_length_eq_zero (by omega)
    rw [rep_nil a1 b1, rep_nil a2 b2]; rfl
  | succ n ih =>
    intro l h
    match l, h with
    | [], _ => rw [rep_nil a1 b1, rep_nil a2 b2]; rfl
    | [c], _ =>
      rw [rep_cons a1 b1, if_neg (by simp [crlf]), rep_nil a1 b1, rep_cons a2 b2, rep_nil a2 b2]
      unfold lines
      by_cases hc : c = 13
      · subst hc; rfl
      · rw [if_neg hc, if_neg (by simp [cr]; exact fun e => hc e.symm)]
    | c :: d :: t, h =>
      rw [rep_cons a1 b1]
      unfold lines
      by_cases hc : c = 13
      · subst hc
        rw [if_pos rfl]
        by_cases hd : d = 10
        · subst hd
          rw [if_pos (by simp [crlf]), if_pos rfl, ← ih t (by simp at h; omega)]
          show replaceAll (10 :: replaceAll t crlf lf) cr lf = _
          rw [rep_cons a2 b2, if_neg (by simp [cr])]
        · rw [if_neg (by simp [crlf]; exact fun e => hd e.symm), if_neg hd, ← ih (d :: t) (by simp at h ⊢; omega), rep_cons a2 b2, if_pos (by simp [cr])]
          rfl
      · rw [if_neg (by simp [crlf]; exact fun e => absurd e.symm hc), if_neg hc, ← ih (d :: t) (by simp at h ⊢; omega), rep_cons a2 b2, if_neg (by simp [cr]; exact fun e => hc e.symm)]
theorem lines_rep (l : List UInt8) : replaceAll (replaceAll l crlf lf) cr lf = lines l := rep_lines _ l (Nat.le_refl _)
theorem rep_len (l : List UInt8) : ∀ n, l.length ≤ n → (replaceAll l crlf lf).length ≤ l.length := by
  have a1 : (crlf == lf) = false := by decide
  have b1 : crlf ≠ [] := by decide
  intro n
  induction n generalizing l with
  | zero => intro h; obtain rfl : l = [] := List.eq_nil_of_length_eq_zero (by omega); rw [rep_nil a1 b1]; exact Nat.le_refl _
  | succ n ih =>
    intro h
    cases l with
    | nil => rw [rep_nil a1 b1]; exact Nat.le_refl _
    | cons c t =>
      rw [rep_cons a1 b1]
      split
      · have := ih ((c :: t).drop crlf.length) (by rw [List.length_drop]; simp [crlf] at h ⊢; omega)
        rw [List.length_append]
        rw [List.length_drop] at this
        rename_i hp
        have h2 : 2 ≤ (c :: t).length := by
          cases t with
          | nil => simp [crlf] at hp
          | cons d t => simp
        simp [crlf, lf] at this h2 ⊢
        omega
      · have := ih t (by simp at h; omega)
        simp; omega
theorem lines_cons {c : UInt8} {t : List UInt8} (h : c ≠ 13) : lines (c :: t) = c :: lines t := by
  cases t with
  | nil => simp [lines, h]
  | cons d t => rw [lines, if_neg h]
theorem lines_crlf (t : List UInt8) : lines (13 :: 10 :: t) = 10 :: lines t := by rw [lines, if_pos rfl, if_pos rfl]
theorem lines_cr {t : List UInt8} (h : ∀ u, t ≠ 10 :: u) : lines (13 :: t) = 10 :: lines t := by
  cases t with
  | nil => rfl
  | cons d t => rw [lines, if_pos rfl, if_neg (fun e => h t (by rw [e]))]
/-- induction along the lines' steps -/
theorem by_lines {P : List UInt8 → Prop} (h0 : P []) (h1 : ∀ c t, c ≠ 13 → P t → P (c :: t)) (h2 : ∀ t, P t → P (13 :: 10 :: t)) (h3 : ∀ t, (∀ u, t ≠ 10 :: u) → P t → P (13 :: t)) : ∀ l, P l := by
  have : ∀ n (l : List UInt8), l.length ≤ n → P l := by
    intro n
    induction n with
    | zero => intro l h; obtain rfl : l = [] := List.eq_nil_of_length_eq_zero (by omega); exact h0
    | succ n ih =>
      intro l h
      match l, h with
      | [], _ => exact h0
      | c :: t, h =>
        by_cases hc : c = 13
        · subst hc
          by_cases ht : ∃ u, t = 10 :: u
          · obtain ⟨u, rfl⟩ := ht
            exact h2 u (ih u (by simp at h; omega))
          · exact h3 t (fun u e => ht ⟨u, e⟩) (ih t (by simp at h; omega))
        · exact h1 c t hc (ih t (by simp at h; omega))
  exact fun l => this _ l (Nat.le_refl _)
theorem lines_no : ∀ l : List UInt8, ∀ c ∈ lines l, c ≠ 13 := by
  refine by_lines (by simp [lines]) ?_ ?_ ?_
  · intro c t hc ih x hx
    rw [lines_cons hc] at hx
    rcases List.mem_cons.1 hx with rfl | hx
    · exact hc
    · exact ih x hx
  · intro t ih x hx
    rw [lines_crlf] at hx
    rcases List.mem_cons.1 hx with rfl | hx
    · decide
    · exact ih x hx
  · intro t ht ih x hx
    rw [lines_cr ht] at hx
    rcases List.mem_cons.1 hx with rfl | hx
    · decide
    · exact ih x hx
theorem lines_same {l : List UInt8} (h : ∀ c ∈ l, c ≠ 13) : lines l = l := by
  induction l with
  | nil => rfl
  | cons c t ih => rw [lines_cons (h c List.mem_cons_self), ih (fun x hx => h x (List.mem_cons_of_mem _ hx))]
theorem lines_again (l : List UInt8) : lines (lines l) = lines l := lines_same (lines_no l)
theorem lines_len : ∀ l : List UInt8, (lines l).length ≤ l.length := by
  refine by_lines (P := fun l => (lines l).length ≤ l.length) (Nat.le_refl _) ?_ ?_ ?_
  · intro c t hc ih; rw [lines_cons hc]; simp; omega
  · intro t ih; rw [lines_crlf]; simp; omega
  · intro t ht ih; rw [lines_cr ht]; simp; omega
/-- what is left of a right text's lines is right; a byte that is in neither is not in it -/
theorem lines_mem : ∀ l : List UInt8, ∀ c ∈ lines l, c ∈ l ∨ c = 10 := by
  refine by_lines (by simp [lines]) ?_ ?_ ?_
  · intro c t hc ih x hx
    rw [lines_cons hc] at hx
    rcases List.mem_cons.1 hx with rfl | hx
    · exact .inl List.mem_cons_self
    · rcases ih x hx with h | h
      · exact .inl (List.mem_cons_of_mem _ h)
      · exact .inr h
  · intro t ih x hx
    rw [lines_crlf] at hx
    rcases List.mem_cons.1 hx with rfl | hx
    · exact .inr rfl
    · rcases ih x hx with h | h
      · exact .inl (List.mem_cons_of_mem _ (List.mem_cons_of_mem _ h))
      · exact .inr h
  · intro t ht ih x hx
    rw [lines_cr ht] at hx
    rcases List.mem_cons.1 hx with rfl | hx
    · exact .inr rfl
    · rcases ih x hx with h | h
      · exact .inl (List.mem_cons_of_mem _ h)
      · exact .inr h
theorem good_one {c : UInt8} (h : c.toNat < 128) : good [c] = true := by
  rw [good_iff]; exact ⟨by simp, by rw [size_small h]; rfl⟩
/-- A right text: its characters, one by one. -/
theorem right_cons {c : List UInt8} (hg : good c = true) (t : List UInt8) : right (c ++ t) = right t := by
  unfold right
  rw [chars_good hg, List.all_cons, hg, Bool.true_and]
theorem good_shape {c : List UInt8} (h : good c = true) : (∃ b : UInt8, c = [b] ∧ b.toNat < 128) ∨ (∀ b ∈ c, 128 ≤ b.toNat) := by
  obtain ⟨h1, h2⟩ := good_iff.1 h
  have hl := good_len h
  by_cases e : c.length = 1
  · left
    match c, e with
    | [b], _ => exact ⟨b, rfl, size_one (by rw [h2]; rfl)⟩
  · right
    have := size_high h1 (by omega)
    rw [h2, List.take_length] at this
    exact this
theorem lines_high : ∀ {c : List UInt8}, (∀ b ∈ c, 128 ≤ b.toNat) → ∀ t, lines (c ++ t) = c ++ lines t
  | [], _, t => rfl
  | b :: c, h, t => by
    rw [List.cons_append, lines_cons (fun e => by have := h b List.mem_cons_self; rw [e] at this; exact absurd this (by decide)), lines_high (fun x hx => h x (List.mem_cons_of_mem _ hx)) t]
    rfl
theorem flat_right {cs : List (List UInt8)} (h : ∀ c ∈ cs, good c = true) : right cs.flatten = true := by
  unfold right
  rw [chars_flat_good h]
  exact List.all_eq_true.2 h
theorem right_lines_flat : ∀ (cs : List (List UInt8)), (∀ c ∈ cs, good c = true) → right (lines cs.flatten) = true := by
  have : ∀ n (cs : List (List UInt8)), cs.length ≤ n → (∀ c ∈ cs, good c = true) → right (lines cs.flatten) = true := by
    intro n
    induction n with
    | zero => intro cs h _; obtain rfl : cs = [] := List.eq_nil_of_length_eq_zero (by omega); rfl
    | succ n ih =>
      intro cs h hg
      match cs, h, hg with
      | [], _, _ => rfl
      | c :: cs, h, hg =>
        have hc := hg c List.mem_cons_self
        have hr := fun x hx => hg x (List.mem_cons_of_mem _ hx)
        have h10 : good [10] = true := by decide
        rcases good_shape hc with ⟨b, rfl, hb⟩ | hb
        · by_cases h13 : b = 13
          · subst h13
            match cs, h, hr with
            | [], _, _ => decide
            | d :: cs, h, hr =>
              by_cases hd : d = [10]
              · subst hd
                show right (lines (13 :: 10 :: cs.flatten)) = true
                rw [lines_crlf]
                exact (right_cons h10 _).trans (ih cs (by simp at h; omega) (fun x hx => hr x (List.mem_cons_of_mem _ hx)))
              · have hd1 := hr d List.mem_cons_self
                show right (lines (13 :: (d :: cs).flatten)) = true
                rw [lines_cr (fun u e => ?_)]
                · exact (right_cons h10 _).trans (ih (d :: cs) (by simp at h ⊢; omega) hr)
                · rw [List.flatten_cons] at e
                  rcases good_shape hd1 with ⟨y, rfl, _⟩ | hy
                  · rw [List.cons_append] at e
                    exact hd (by rw [(List.cons.inj e).1])
                  · have hl := good_len hd1
                    match d, hl, hy with
                    | y :: d, _, hy =>
                      rw [List.cons_append] at e
                      have := hy y List.mem_cons_self
                      rw [(List.cons.inj e).1] at this
                      exact absurd this (by decide)
          · show right (lines (b :: cs.flatten)) = true
            rw [lines_cons h13]
            exact (right_cons (good_one hb) _).trans (ih cs (by simp at h; omega) hr)
        · rw [List.flatten_cons, lines_high hb, right_cons hc]
          exact ih cs (by simp at h; omega) hr
  exact fun cs => this _ cs (Nat.le_refl _)
theorem right_lines {l : List UInt8} (h : right l = true) : right (lines l) = true := by
  have := right_lines_flat (chars l) (List.all_eq_true.1 h)
  rw [chars_flat] at this
  exact this
/-- a right text without a byte 0 is decoded as it is -/
theorem decode_same {l : List UInt8} (h : right l = true) (h0 : ∀ c ∈ l, c ≠ 0) : decode l = l := by
  have hg : ∀ c ∈ chars l, good c = true := List.all_eq_true.1 h
  have hm : ∀ c ∈ chars l, ∀ b ∈ c, b ∈ l := fun c hc b hb => by
    have := List.mem_flatten.2 ⟨c, hc, hb⟩
    rw [chars_flat] at this
    exact this
  have e : (chars l).map repl = chars l := by
    conv => rhs; rw [← List.map_id (chars l)]
    refine List.map_congr_left (fun c hc => ?_)
    unfold repl
    rw [if_pos ⟨hg c hc, fun e => h0 0 (hm c hc 0 (by rw [e]; exact List.mem_cons_self)) rfl⟩]
    rfl
  unfold decode
  rw [e, chars_flat]
theorem decode_no0 (l : List UInt8) : ∀ c ∈ decode l, c ≠ 0 := by
  intro b hb
  unfold decode at hb
  obtain ⟨c, hc, hbc⟩ := List.mem_flatten.1 hb
  obtain ⟨d, _, rfl⟩ := List.mem_map.1 hc
  unfold repl at hbc
  split at hbc
  · rename_i hd
    rcases good_shape hd.1 with ⟨x, rfl, _⟩ | hx
    · obtain rfl : b = x := by simpa using hbc
      exact fun e => hd.2 (by rw [e])
    · intro e
      have := hx b hbc
      rw [e] at this
      exact absurd this (by decide)
  · intro e
    rw [e] at hbc
    exact absurd hbc (by decide)
def ready (l : List UInt8) : List UInt8 := lines (decode l)
theorem ready_no (l : List UInt8) : ∀ c ∈ ready l, c ≠ 0 ∧ c ≠ 13 := fun c hc => ⟨fun e => by
  rcases lines_mem _ c hc with h | h
  · exact decode_no0 l c h e
  · rw [h] at e; exact absurd e (by decide), lines_no _ c hc⟩
theorem ready_right (l : List UInt8) : right (ready l) = true := right_lines (right_decode l)
theorem ready_again (l : List UInt8) : ready (ready l) = ready l := by
  show lines (decode (ready l)) = ready l
  rw [decode_same (ready_right l) (fun c hc => (ready_no l c hc).1)]
  exact lines_again _
theorem plain_chars {l : List UInt8} (h : ∀ c ∈ l, c.toNat < 128) : chars l = l.map fun c => [c] := by
  have := chars_flat_good (cs := l.map fun c => [c]) (fun c hc => by obtain ⟨b, hb, rfl⟩ := List.mem_map.1 hc; exact good_one (h b hb))
  rw [show (l.map fun c => [c]).flatten = l by induction l with | nil => rfl | cons b t ih => rw [List.map_cons, List.flatten_cons, ih (fun c hc => h c (List.mem_cons_of_mem _ hc)) (by exact chars_flat_good (fun c hc => by obtain ⟨b, hb, rfl⟩ := List.mem_map.1 hc; exact good_one (h b (List.mem_cons_of_mem _ hb))))]; rfl] at this
  exact this

/-! ### samples -/
/-- The first characters, so many at most. -/
def sample (l : List UInt8) (n : Nat) : List UInt8 := ((chars l).take n).flatten
theorem sample_pre (l : List UInt8) (n : Nat) : l.take (sample l n).length = sample l n := by
  have e : l = sample l n ++ ((chars l).drop n).flatten := by
    unfold sample
    rw [← List.flatten_append, List.take_append_drop, chars_flat]
  obtain ⟨p, hp⟩ : ∃ p, sample l n = p := ⟨_, rfl⟩
  rw [hp] at e ⊢
  rw [e, List.take_left]
theorem sample_all {l : List UInt8} {n : Nat} (h : count l ≤ n) : sample l n = l := by
  unfold sample
  rw [List.take_of_length_le h, chars_flat]
theorem sample_le (l : List UInt8) (n : Nat) : (sample l n).length ≤ l.length := by
  have := congrArg List.length (sample_pre l n)
  rw [List.length_take] at this
  omega
theorem sample_cons {l : List UInt8} (hl : l ≠ []) (n : Nat) : sample l (n + 1) = l.take (step l) ++ sample (l.drop (step l)) n := by
  unfold sample
  rw [chars_cons hl, List.take_succ_cons, List.flatten_cons]
theorem size_pre {l : List UInt8} (hl : l ≠ []) {n : Nat} (h : step l ≤ n) : sizeL (l.take n) = sizeL l := by
  have h1 := step_pos l
  have hle := size_le hl
  have hne : l.take n ≠ [] := fun e => by
    have e2 := congrArg List.length e
    have : 1 ≤ l.length := List.length_pos_iff.2 hl
    rw [List.length_take, List.length_nil] at e2
    omega
  by_cases h0 : sizeL l = 0
  · rw [h0]
    refine Nat.eq_zero_of_not_pos (fun hp => ?_)
    have hle2 := size_le hne
    rw [List.length_take] at hle2
    have := size_of_head hne (m := l) _ rfl hp (by omega) (fun j hj => (nb_take (by omega)).symm)
    omega
  · have e : step l = sizeL l := by unfold step; omega
    exact size_of_head hl _ rfl (by omega) (by rw [List.length_take]; omega) (fun j hj => nb_take (by omega))
/-- a beginning made of characters, read again -/
theorem count_sample : ∀ (l : List UInt8) (n : Nat), count (sample l n) = min n (count l) := by
  refine along (P := fun l => ∀ n, count (sample l n) = min n (count l)) (fun n => by simp [sample, count, chars_nil]) (fun l hl ih n => ?_)
  cases n with
  | zero => simp [sample, count, chars_nil]
  | succ n =>
    have h1 := step_le hl
    have h2 := step_pos l
    have hc := sample_cons hl n
    have hlen : step l ≤ (sample l (n + 1)).length := by rw [hc, List.length_append, List.length_take]; omega
    have hs : step (sample l (n + 1)) = step l := by
      have := size_pre hl hlen
      rw [sample_pre] at this
      unfold step
      rw [this]
    have hne : sample l (n + 1) ≠ [] := fun e => by rw [e] at hlen; simp at hlen; omega
    have := ih n
    unfold count at this ⊢
    rw [chars_cons hne, hs, hc, List.length_cons, List.drop_left' (by rw [List.length_take]; omega), this, chars_cons hl, List.length_cons]
    omega
end Go.Proofs.YtaeikiigdfgmaaaDoor.Chars
