/- fold.Space's and fold.Words' contracts; what stands between spaces, in plain Lean. -/
import Derived.Test.YtmbmjaiggefjmaaShelf
import Derived.Test.YtmbmjaiggefjmaaLower
import Derived.Lib.FieldsP
import Derived.Test.YtmbmjaiggefjmaaWWords
namespace Go.Proofs.Ytmbmjaiggefjmaa
set_option linter.unusedVariables false
set_option linter.unusedSimpArgs false
open Go.RowKit Go.Lib

/-- What stands between the bytes that meet p; w: what has been gathered. -/
def fieldsAux (p : UInt8 → Bool) : List UInt8 → List UInt8 → List (List UInt8)
  | [], w => if w = [] then [] else [w]
  | c :: t, w => if p c then (if w = [] then fieldsAux p t [] else w :: fieldsAux p t []) else fieldsAux p t (w ++ [c])
theorem fieldsAux_keep {p : UInt8 → Bool} : ∀ (a b w : List UInt8), (∀ c ∈ a, p c = false) → fieldsAux p (a ++ b) w = fieldsAux p b (w ++ a)
  | [], b, w, _ => by simp
  | c :: t, b, w, h => by
    rw [List.cons_append]
    show (if p c then _ else _) = _
    rw [h c (by simp)]
    simp only [Bool.false_eq_true, if_false]
    rw [fieldsAux_keep t b (w ++ [c]) (fun d hd => h d (by simp [hd]))]
    simp
/-- Behind a rune's first byte, inside it, no byte is below 128. -/
theorem decode_rest (s : ByteArray) (pos j : Nat) (h0 : 0 < j) (hj : j < (Utf8.decode s pos).2) : ∃ c, s.data.toList[pos + j]? = some c ∧ 128 ≤ c.toNat := by
  have key : ∀ k, (decide (pos + k < s.size) && (s.get! (pos + k)).toNat / 64 == 2) = true → ∃ c, s.data.toList[pos + k]? = some c ∧ 128 ≤ c.toNat := by
    intro k h
    simp only [Bool.and_eq_true, decide_eq_true_eq, beq_iff_eq] at h
    obtain ⟨h1, h2⟩ := h
    refine ⟨s[pos + k]'h1, byte_at s (pos + k) h1, ?_⟩
    have e : s.get! (pos + k) = s[pos + k]'h1 := by
      simp [ByteArray.get!, getElem!_pos, h1]
      rfl
    rw [e] at h2
    omega
  simp only [Utf8.decode] at hj
  repeat' split at hj
  all_goals first
    | omega
    | (simp only at hj; omega)
    | (rename_i h1 h2; simp only [Bool.and_eq_true] at h1 h2; simp only at hj
       rcases (by omega : j = 1 ∨ j = 2 ∨ j = 3) with rfl | rfl | rfl
       all_goals first | omega | (apply key; simp_all))
theorem decode_piece (s : ByteArray) (pos : Nat) (h : pos < s.size) (ha : 128 ≤ (s[pos]'h).toNat) :
    ∃ a, s.data.toList.drop pos = a ++ s.data.toList.drop (pos + (Utf8.decode s pos).2) ∧ a.length = (Utf8.decode s pos).2 ∧ ∀ c ∈ a, 128 ≤ c.toNat := by
  have hw := (decode_high s pos h ha).2
  have hle : pos + (Utf8.decode s pos).2 ≤ s.size := by
    rcases Nat.lt_or_ge 1 (Utf8.decode s pos).2 with h1 | h1
    · obtain ⟨c, hc, _⟩ := decode_rest s pos ((Utf8.decode s pos).2 - 1) (by omega) (by omega)
      have := (List.getElem?_eq_some_iff.1 hc).1
      rw [← Lib.size_eq] at this
      omega
    · omega
  refine ⟨(s.data.toList.drop pos).take (Utf8.decode s pos).2, ?_, ?_, ?_⟩
  · rw [← List.drop_drop, List.take_append_drop]
  · rw [List.length_take, List.length_drop, ← Lib.size_eq]; omega
  · intro c hc
    obtain ⟨j, hj⟩ := List.mem_iff_getElem?.1 hc
    rw [List.getElem?_take] at hj
    split at hj
    · rename_i hlt
      rw [List.getElem?_drop] at hj
      rcases Nat.eq_zero_or_pos j with h0 | h0
      · subst h0
        rw [Nat.add_zero, byte_at s pos h] at hj
        cases hj; exact ha
      · obtain ⟨d, hd, hd2⟩ := decode_rest s pos j h0 hlt
        rw [hd] at hj
        cases hj; exact hd2
    · cases hj
theorem extract_piece (s : ByteArray) (a b : Nat) : s.extract a b = mkS ((s.data.toList.drop a).take (b - a)) := Lib.extract_eq s a b
theorem cur_grow (l : List UInt8) (a pos k : Nat) (x y : List UInt8) (hap : a ≤ pos) (h : l.drop pos = x ++ y) (hx : x.length = k) : (l.drop a).take (pos - a) ++ x = (l.drop a).take (pos + k - a) := by
  have e : l.drop pos = (l.drop a).drop (pos - a) := by rw [List.drop_drop]; congr 1; omega
  rw [e] at h
  rw [show pos + k - a = (pos - a) + k by omega, List.take_add, h]
  congr 1
  rw [← hx]; simp
theorem take_ne {l : List UInt8} {a pos : Nat} (h1 : a < pos) (h2 : pos ≤ l.length) : (l.drop a).take (pos - a) ≠ [] := by
  intro h
  have := congrArg List.length h
  rw [List.length_take, List.length_drop, List.length_nil] at this
  omega
/-- strings.FieldsFunc, byte by byte, at a predicate that no rune from 128 on meets. -/
theorem spans_fields (p : UInt8 → Bool) (pN : Nat → Bool) (hp : ∀ c : UInt8, c.toNat < 128 → pN c.toNat = p c) (hb : ∀ n, 128 ≤ n → pN n = false) (hc : ∀ c : UInt8, 128 ≤ c.toNat → p c = false) (s : ByteArray) :
    ∀ (f pos : Nat) (st : Option Nat) (acc : List (Nat × Nat)), s.size ≤ pos + f → pos ≤ s.size → (∀ a, st = some a → a < pos) →
    (closeSpans s (spansFromP pN s f pos st acc)).map (fun x => s.extract x.1 x.2) = acc.map (fun x => s.extract x.1 x.2) ++ (fieldsAux p (s.data.toList.drop pos) (match st with | none => [] | some a => (s.data.toList.drop a).take (pos - a))).map mkS := by
  intro f
  induction f with
  | zero =>
    intro pos st acc h0 h1 hst
    rw [List.drop_of_length_le (by rw [← Lib.size_eq]; omega)]
    obtain rfl : pos = s.size := by omega
    cases st with
    | none => simp [spansFromP, closeSpans, fieldsAux]
    | some a =>
      have := take_ne (l := s.data.toList) (hst a rfl) (by rw [← Lib.size_eq]; exact Nat.le_refl _)
      simp only [spansFromP, closeSpans, fieldsAux]
      rw [if_neg this]
      simp [extract_piece]
  | succ f ih =>
    intro pos st acc h0 h1 hst
    by_cases hlt : pos < s.size
    · unfold spansFromP
      rw [if_pos hlt]
      by_cases ha : (s[pos]'hlt).toNat < 128
      · rw [decode_ascii s pos hlt ha]
        simp only
        rw [hp _ ha]
        have hd := drop_one (byte_at s pos hlt)
        rw [hd]
        cases hsp : p (s[pos]'hlt) with
        | true =>
          cases st with
          | none =>
            simp only [if_true, fieldsAux, hsp]
            exact ih (pos + 1) none acc (by omega) (by omega) (by simp)
          | some a =>
            have hne := take_ne (l := s.data.toList) (hst a rfl) (by rw [← Lib.size_eq]; omega)
            simp only [if_true, fieldsAux, hsp]
            rw [if_neg hne, ih (pos + 1) none (acc ++ [(a, pos)]) (by omega) (by omega) (by simp)]
            simp [extract_piece]
        | false =>
          cases st with
          | none =>
            simp only [Bool.false_eq_true, if_false, fieldsAux, hsp]
            rw [ih (pos + 1) (some pos) acc (by omega) (by omega) (by intro a h; cases h; omega)]
            simp only [List.nil_append]
            congr 3
            have := cur_grow s.data.toList pos pos 1 [s[pos]'hlt] _ (Nat.le_refl _) (by rw [hd]; rfl) rfl
            simpa using this.symm
          | some a =>
            simp only [Bool.false_eq_true, if_false, fieldsAux, hsp]
            have hlt2 := hst a rfl
            rw [ih (pos + 1) (some a) acc (by omega) (by omega) (by intro b h; cases h; omega)]
            simp only
            congr 3
            exact (cur_grow s.data.toList a pos 1 [s[pos]'hlt] _ (by omega) (by rw [hd]; rfl) rfl).symm
      · obtain ⟨x, hx1, hx2, hx3⟩ := decode_piece s pos hlt (by omega)
        have hhi := decode_high s pos hlt (by omega)
        have hxl : pos + (Utf8.decode s pos).2 ≤ s.size := by
          have := congrArg List.length hx1
          rw [List.length_append, hx2, List.length_drop, ← Lib.size_eq] at this
          omega
        have hg := fun (a : Nat) (h : a ≤ pos) => cur_grow s.data.toList a pos _ x _ h hx1 hx2
        have hfk := fun w => fieldsAux_keep (p := p) x (s.data.toList.drop (pos + (Utf8.decode s pos).2)) w (fun c h => hc c (hx3 c h))
        rw [hx1]
        obtain ⟨W, hW⟩ : ∃ W, (Utf8.decode s pos).2 = W := ⟨_, rfl⟩
        obtain ⟨R, hR⟩ : ∃ R, (Utf8.decode s pos).1 = R := ⟨_, rfl⟩
        rw [hW] at hg hfk hxl hhi ⊢
        rw [hR] at hhi ⊢
        rw [hb R hhi.1]
        cases st with
        | none =>
          simp only [Bool.false_eq_true, if_false]
          rw [ih (pos + W) (some pos) acc (by omega) hxl (by intro a h; cases h; omega), hfk]
          simp only [List.nil_append]
          congr 3
          have := hg pos (Nat.le_refl _)
          simpa using this.symm
        | some a =>
          have hlt2 := hst a rfl
          simp only [Bool.false_eq_true, if_false]
          rw [ih (pos + W) (some a) acc (by omega) hxl (by intro b h; cases h; omega), hfk]
          simp only
          congr 3
          exact (hg a (by omega)).symm
    · unfold spansFromP
      rw [if_neg hlt, List.drop_of_length_le (by rw [← Lib.size_eq]; omega)]
      obtain rfl : pos = s.size := by omega
      cases st with
      | none => simp [closeSpans, fieldsAux]
      | some a =>
        have := take_ne (l := s.data.toList) (hst a rfl) (by rw [← Lib.size_eq]; exact Nat.le_refl _)
        simp only [closeSpans, fieldsAux]
        rw [if_neg this]
        simp [extract_piece]
theorem fields_eq (p : UInt8 → Bool) (pN : Nat → Bool) (hp : ∀ c : UInt8, c.toNat < 128 → pN c.toNat = p c) (hb : ∀ n, 128 ≤ n → pN n = false) (hc : ∀ c : UInt8, 128 ≤ c.toNat → p c = false) (s : ByteArray) :
    goFieldsP pN s = (fieldsAux p s.data.toList []).map mkS := by
  have := spans_fields p pN hp hb hc s s.size 0 none [] (by omega) (Nat.zero_le _) (by simp)
  simpa [goFieldsP, spansOfP] using this

/-! ### Space, Words -/
def spaceI (c : Int) : Bool := decide (c = 32) || decide (c = 9) || decide (c = 10) || decide (c = 12) || decide (c = 13)
theorem spaceI_iff (c : Int) : spaceI c = true ↔ (c = 32 ∨ c = 9 ∨ c = 10 ∨ c = 12 ∨ c = 13) := by
  unfold spaceI
  simp only [Bool.or_eq_true, decide_eq_true_eq, or_assoc]
def space (c : UInt8) : Bool := spaceI c.toNat
def words (l : List UInt8) : List (List UInt8) := fieldsAux space l []
set_option maxHeartbeats 1000000 in
theorem space_calls (c : Int) (w : World) (h0 : 0 ≤ c) (h1 : c < 256) : Calls Try.prog 14 #[.int .u8 c] w fun e w' => e = .returned (.bool (spaceI c)) ∧ w' = w := by
  rcases (by omega : c < 9 ∨ (9 ≤ c ∧ c ≤ 9) ∨ (10 ≤ c ∧ c ≤ 10) ∨ (11 ≤ c ∧ c ≤ 11) ∨ (12 ≤ c ∧ c ≤ 12) ∨ (13 ≤ c ∧ c ≤ 13) ∨ (14 ≤ c ∧ c ≤ 31) ∨ (32 ≤ c ∧ c ≤ 32) ∨ 33 ≤ c) with h | ⟨h, h'⟩ | ⟨h, h'⟩ | ⟨h, h'⟩ | ⟨h, h'⟩ | ⟨h, h'⟩ | ⟨h, h'⟩ | ⟨h, h'⟩ | h
  all_goals
    obtain ⟨B, hB⟩ : ∃ B, spaceI c = B := ⟨_, rfl⟩
    have hB' : Hid (B = true ↔ (c = 32 ∨ c = 9 ∨ c = 10 ∨ c = 12 ∨ c = 13)) := hid (hB ▸ spaceI_iff c)
    rw [hB]
    clear hB
    go_enter Try.func14, Try.ntmps14
    go_wp2
    go_ret
    refine ⟨ret_bool ?_, rfl⟩
    have hb := hB'.out
    rw [Bool.eq_iff_iff, hb]
    simp
    try omega
/-- What the closure of Words tells of a rune. -/
def spaceN (r : Int) : Bool := decide (r < 128) && spaceI r
set_option maxHeartbeats 4000000 in
theorem space_at (w : World) : PredAt Try.prog 32 #[] encR (fun r : Nat => spaceN r) w := fun W n _ => by
  unfold FnGives
  obtain ⟨r, hr⟩ : ∃ r : Int, (n : Int) = r := ⟨_, rfl⟩
  have h0 : 0 ≤ r := by omega
  show Calls Try.prog _ #[.int .i32 (n : Int)] W fun e w' => e = .returned (.bool (spaceN (n : Int))) ∧ ∃ q, w' = W.drewN q
  rw [hr]
  clear hr
  unfold spaceN
  rcases (by omega : r < 128 ∨ 128 ≤ r) with h | h
  · rw [decide_eq_true h, Bool.true_and]
    have cl := hid (space_calls r W h0 (by omega))
    go_enter Try.func32, Try.ntmps32
    go_wp2_with (go_at_call 14; refine cl.out.mono ?_; rintro e w' ⟨rfl, rfl⟩)
    go_ret
    exact ⟨rfl, 0, rfl⟩
  · rw [decide_eq_false (by omega), Bool.false_and]
    go_enter Try.func32, Try.ntmps32
    go_wp2_with fail
    go_ret
    exact ⟨rfl, 0, rfl⟩
theorem space_lt {c : UInt8} (h : 128 ≤ c.toNat) : space c = false := by
  cases hs : space c with
  | false => rfl
  | true =>
    have := (spaceI_iff c.toNat).1 hs
    omega
theorem goFields_words (s : ByteArray) : goFieldsP (fun r : Nat => spaceN r) s = (words s.data.toList).map mkS :=
  fields_eq space _ (fun c h => by
    show (decide ((c.toNat : Int) < 128) && spaceI c.toNat) = spaceI c.toNat
    rw [decide_eq_true (by omega), Bool.true_and]) (fun n h => by
    show (decide ((n : Int) < 128) && spaceI n) = false
    rw [decide_eq_false (by omega), Bool.false_and]) (fun c h => space_lt h) s
set_option maxHeartbeats 1000000 in
theorem words_calls (s : ByteArray) (w : World) (hs : s.size ≤ 4294967296) :
    Calls Try.prog 18 #[.string s] w fun e w' => ∃ v : Value, e = .returned v ∧ w'.ownsRow w.heap.size 9 1 v ((words s.data.toList).map mkS).length (((words s.data.toList).map mkS).map Value.string) ∧ Below w.heap.size w w' := by
  have hc := Try.strings_FieldsFunc 32 #[] (enters_of Try.func32 (by kernel_rfl) rfl) _ s w hs (space_at w)
  rw [goFields_words] at hc
  obtain ⟨L, hL⟩ : ∃ L, (words s.data.toList).map mkS = L := ⟨_, rfl⟩
  rw [hL] at hc ⊢
  clear hL
  have hc' := hid hc
  clear hc
  go_enter Try.func18, Try.ntmps18
  go_wp2_with (go_at_call 31; refine hc'.out.mono ?_; rintro e w' ⟨A, rfl, hA, hrow, hb⟩)
  go_ret
  exact ⟨_, rfl, hrow, hb⟩
end Go.Proofs.Ytmbmjaiggefjmaa
