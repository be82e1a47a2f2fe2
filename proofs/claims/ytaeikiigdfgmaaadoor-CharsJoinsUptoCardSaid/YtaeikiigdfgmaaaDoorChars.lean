/- Bytes as characters: plain Lean over the model's decoder: how many bytes a character has, what is decoded, what is right. -/
import Derived.Lib.ValidLaws
import Derived.Lib.RuneBytes
import Derived.Lib.RuneCount
namespace Go.Proofs.YtaeikiigdfgmaaaDoor.Chars
open Go.Lib
set_option linter.unusedVariables false
set_option linter.unusedSimpArgs false

/-- How many bytes the character has that begins b0 b1 b2 b3, n bytes being there; 0: the byte is wrong. -/
def sizeN (n b0 b1 b2 b3 : Nat) : Nat :=
  if b0 < 128 then 1
  else if (194 ≤ b0 ∧ b0 ≤ 223) ∧ (1 < n ∧ 128 ≤ b1 ∧ b1 ≤ 191) then 2
  else if (1 < n ∧ (if b0 = 224 then 160 else if b0 = 240 then 144 else 128) ≤ b1 ∧ b1 ≤ (if b0 = 237 then 159 else if b0 = 244 then 143 else 191)) ∧ (2 < n ∧ 128 ≤ b2 ∧ b2 ≤ 191) then
    (if 224 ≤ b0 ∧ b0 ≤ 239 then 3 else if (240 ≤ b0 ∧ b0 ≤ 244) ∧ (3 < n ∧ 128 ≤ b3 ∧ b3 ≤ 191) then 4 else 0)
  else 0
set_option maxRecDepth 100000 in
set_option maxHeartbeats 4000000 in
theorem size_cases (n b0 b1 b2 b3 : Nat) (hn : 1 ≤ n) (h0 : b0 < 256) (h1 : b1 < 256) (h2 : b2 < 256) (h3 : b3 < 256) :
    (sizeN n b0 b1 b2 b3 = 0 ∧ 128 ≤ b0 ∧ decodeN n b0 b1 b2 b3 = (65533, 1)) ∨
    (sizeN n b0 b1 b2 b3 = 1 ∧ b0 < 128 ∧ decodeN n b0 b1 b2 b3 = (b0, 1)) ∨
    (sizeN n b0 b1 b2 b3 = 2 ∧ 2 ≤ n ∧ 194 ≤ b0 ∧ b0 ≤ 223 ∧ 128 ≤ b1 ∧ b1 ≤ 191 ∧ decodeN n b0 b1 b2 b3 = (b0 % 32 * 64 + b1 % 64, 2)) ∨
    (sizeN n b0 b1 b2 b3 = 3 ∧ 3 ≤ n ∧ 224 ≤ b0 ∧ b0 ≤ 239 ∧ 128 ≤ b1 ∧ b1 ≤ 191 ∧ 128 ≤ b2 ∧ b2 ≤ 191 ∧ (b0 = 224 → 160 ≤ b1) ∧ (b0 = 237 → b1 ≤ 159) ∧ decodeN n b0 b1 b2 b3 = (b0 % 16 * 4096 + b1 % 64 * 64 + b2 % 64, 3)) ∨
    (sizeN n b0 b1 b2 b3 = 4 ∧ 4 ≤ n ∧ 240 ≤ b0 ∧ b0 ≤ 244 ∧ 128 ≤ b1 ∧ b1 ≤ 191 ∧ 128 ≤ b2 ∧ b2 ≤ 191 ∧ 128 ≤ b3 ∧ b3 ≤ 191 ∧ (b0 = 240 → 144 ≤ b1) ∧ (b0 = 244 → b1 ≤ 143) ∧ decodeN n b0 b1 b2 b3 = (b0 % 8 * 262144 + b1 % 64 * 4096 + b2 % 64 * 64 + b3 % 64, 4)) := by
  by_cases c0 : b0 < 128
  · right; left
    refine ⟨by unfold sizeN; rw [if_pos c0], c0, by unfold decodeN; rw [if_pos c0]⟩
  by_cases c1 : (194 ≤ b0 ∧ b0 ≤ 223) ∧ (1 < n ∧ 128 ≤ b1 ∧ b1 ≤ 191)
  · right; right; left
    refine ⟨by unfold sizeN; rw [if_neg c0, if_pos c1], by omega, by omega, by omega, by omega, by omega, ?_⟩
    unfold decodeN
    rw [if_neg c0, if_pos (by omega), if_pos (by omega)]
  by_cases c2 : (1 < n ∧ (if b0 = 224 then 160 else if b0 = 240 then 144 else 128) ≤ b1 ∧ b1 ≤ (if b0 = 237 then 159 else if b0 = 244 then 143 else 191)) ∧ (2 < n ∧ 128 ≤ b2 ∧ b2 ≤ 191)
  · have hlo : 128 ≤ b1 ∧ (b0 = 224 → 160 ≤ b1) ∧ (b0 = 240 → 144 ≤ b1) := by
      have := c2.1.2.1
      split at this
      · omega
      · split at this <;> omega
    have hhi : b1 ≤ 191 ∧ (b0 = 237 → b1 ≤ 159) ∧ (b0 = 244 → b1 ≤ 143) := by
      have := c2.1.2.2
      split at this
      · omega
      · split at this <;> omega
    have e0 : sizeN n b0 b1 b2 b3 = (if 224 ≤ b0 ∧ b0 ≤ 239 then 3 else if (240 ≤ b0 ∧ b0 ≤ 244) ∧ (3 < n ∧ 128 ≤ b3 ∧ b3 ≤ 191) then 4 else 0) := by unfold sizeN; rw [if_neg c0, if_neg c1, if_pos c2]
    obtain ⟨⟨z1, _, _⟩, z2, z3, z4⟩ := c2
    by_cases c3 : 224 ≤ b0 ∧ b0 ≤ 239
    · right; right; right; left
      refine ⟨by rw [e0, if_pos c3], by omega, by omega, by omega, by omega, by omega, by omega, by omega, by omega, by omega, ?_⟩
      unfold decodeN
      rw [if_neg c0, if_neg (by omega), if_pos (by omega), if_pos (by omega)]
    · by_cases c4 : (240 ≤ b0 ∧ b0 ≤ 244) ∧ (3 < n ∧ 128 ≤ b3 ∧ b3 ≤ 191)
      · right; right; right; right
        refine ⟨by rw [e0, if_neg c3, if_pos c4], by omega, by omega, by omega, by omega, by omega, by omega, by omega, by omega, by omega, by omega, by omega, ?_⟩
        unfold decodeN
        rw [if_neg c0, if_neg (by omega), if_neg (by omega), if_pos (by omega), if_pos (by omega)]
      · left
        refine ⟨by rw [e0, if_neg c3, if_neg c4], by omega, ?_⟩
        unfold decodeN
        repeat' split
        all_goals first | rfl | (exfalso; omega)
  · left
    refine ⟨by unfold sizeN; rw [if_neg c0, if_neg c1, if_neg c2], by omega, ?_⟩
    have hk : ¬ ((1 < n ∧ 128 ≤ b1 ∧ b1 ≤ 191 ∧ (b0 = 224 → 160 ≤ b1) ∧ (b0 = 240 → 144 ≤ b1) ∧ (b0 = 237 → b1 ≤ 159) ∧ (b0 = 244 → b1 ≤ 143)) ∧ (2 < n ∧ 128 ≤ b2 ∧ b2 ≤ 191)) := fun h => c2 ⟨⟨h.1.1, by ((repeat' split) <;> omega), by ((repeat' split) <;> omega)⟩, h.2⟩
    clear c2
    unfold decodeN
    repeat' split
    all_goals first | rfl | (exfalso; omega)

def nb (l : List UInt8) (k : Nat) : Nat := (l.getD k 0).toNat
theorem nb_lt (l : List UInt8) (k : Nat) : nb l k < 256 := (l.getD k 0).toNat_lt
/-- How many bytes the character at the head has; 0: the byte is wrong. -/
def sizeL (l : List UInt8) : Nat := sizeN l.length (nb l 0) (nb l 1) (nb l 2) (nb l 3)
theorem dec_N (l : List UInt8) : decodeL l = decodeN l.length (nb l 0) (nb l 1) (nb l 2) (nb l 3) := decodeL_N l
theorem nb_app {a r : List UInt8} {k : Nat} (h : k < a.length) : nb (a ++ r) k = nb a k := by
  unfold nb; simp only [List.getD_eq_getElem?_getD]; rw [List.getElem?_append_left h]
theorem nb_take {l : List UInt8} {n k : Nat} (h : k < n) : nb (l.take n) k = nb l k := by
  unfold nb; simp only [List.getD_eq_getElem?_getD]; rw [List.getElem?_take, if_pos h]

/-- What the head's character is: its bytes decide it. -/
theorem size_of_head {l m : List UInt8} (hl : l ≠ []) (k : Nat) (hk : sizeL l = k) (h1 : 1 ≤ k) (hm : k ≤ m.length) (h : ∀ j, j < k → nb m j = nb l j) : sizeL m = k := by
  have hn : 1 ≤ l.length := List.length_pos_iff.2 hl
  have hc := size_cases l.length (nb l 0) (nb l 1) (nb l 2) (nb l 3) hn (nb_lt _ _) (nb_lt _ _) (nb_lt _ _) (nb_lt _ _)
  unfold sizeL at hk ⊢
  rw [hk] at hc
  have e0 := h 0
  have e1 := h 1
  have e2 := h 2
  have e3 := h 3
  rcases hc with ⟨rfl, _⟩ | ⟨rfl, hc⟩ | ⟨rfl, hc⟩ | ⟨rfl, hc⟩ | ⟨rfl, hc⟩
  · omega
  · rw [e0 (by omega)]; unfold sizeN; rw [if_pos (by omega)]
  · rw [e0 (by omega), e1 (by omega)]; unfold sizeN; rw [if_neg (by omega), if_pos (by omega)]
  · rw [e0 (by omega), e1 (by omega), e2 (by omega)]; unfold sizeN
    rw [if_neg (by omega), if_neg (by omega), if_pos ⟨⟨by omega, by ((repeat' split) <;> omega), by ((repeat' split) <;> omega)⟩, by omega⟩, if_pos (by omega)]
  · rw [e0 (by omega), e1 (by omega), e2 (by omega), e3 (by omega)]; unfold sizeN
    rw [if_neg (by omega), if_neg (by omega), if_pos ⟨⟨by omega, by ((repeat' split) <;> omega), by ((repeat' split) <;> omega)⟩, by omega⟩, if_neg (by omega), if_pos (by omega)]
theorem size_le {l : List UInt8} (hl : l ≠ []) : sizeL l ≤ l.length := by
  have hn : 1 ≤ l.length := List.length_pos_iff.2 hl
  have hc := size_cases l.length (nb l 0) (nb l 1) (nb l 2) (nb l 3) hn (nb_lt _ _) (nb_lt _ _) (nb_lt _ _) (nb_lt _ _)
  unfold sizeL
  omega
theorem size_le4 {l : List UInt8} (hl : l ≠ []) : sizeL l ≤ 4 := by
  have hn : 1 ≤ l.length := List.length_pos_iff.2 hl
  have hc := size_cases l.length (nb l 0) (nb l 1) (nb l 2) (nb l 3) hn (nb_lt _ _) (nb_lt _ _) (nb_lt _ _) (nb_lt _ _)
  unfold sizeL
  omega
theorem size_take {l : List UInt8} (hl : l ≠ []) (h : 1 ≤ sizeL l) (r : List UInt8) : sizeL (l.take (sizeL l) ++ r) = sizeL l := by
  have hle := size_le hl
  refine size_of_head hl _ rfl h (by rw [List.length_append, List.length_take]; omega) (fun j hj => ?_)
  rw [nb_app (by rw [List.length_take]; omega), nb_take hj]
theorem size_small {b : UInt8} {t : List UInt8} (h : b.toNat < 128) : sizeL (b :: t) = 1 := by
  unfold sizeL sizeN nb
  rw [if_pos (by simpa using h)]
theorem size_bad_one {b : UInt8} (h : 128 ≤ b.toNat) : sizeL [b] = 0 := by
  have hc := size_cases 1 (nb [b] 0) (nb [b] 1) (nb [b] 2) (nb [b] 3) (Nat.le_refl _) (nb_lt _ _) (nb_lt _ _) (nb_lt _ _) (nb_lt _ _)
  have e : nb [b] 0 = b.toNat := rfl
  unfold sizeL
  simp only [List.length_singleton]
  omega
theorem size_one {b : UInt8} {t : List UInt8} (h : sizeL (b :: t) = 1) : b.toNat < 128 := by
  have hc := size_cases (b :: t).length (nb (b :: t) 0) (nb (b :: t) 1) (nb (b :: t) 2) (nb (b :: t) 3) (by simp) (nb_lt _ _) (nb_lt _ _) (nb_lt _ _) (nb_lt _ _)
  have e : nb (b :: t) 0 = b.toNat := rfl
  unfold sizeL at h
  omega
theorem size_zero {b : UInt8} {t : List UInt8} (h : sizeL (b :: t) = 0) : 128 ≤ b.toNat := by
  have hc := size_cases (b :: t).length (nb (b :: t) 0) (nb (b :: t) 1) (nb (b :: t) 2) (nb (b :: t) 3) (by simp) (nb_lt _ _) (nb_lt _ _) (nb_lt _ _) (nb_lt _ _)
  have e : nb (b :: t) 0 = b.toNat := rfl
  unfold sizeL at h
  omega
/-- the bytes of a character of several: none is below 128 -/
theorem size_high {l : List UInt8} (hl : l ≠ []) (h : 2 ≤ sizeL l) : ∀ b ∈ l.take (sizeL l), 128 ≤ b.toNat := by
  have hn : 1 ≤ l.length := List.length_pos_iff.2 hl
  have hc := size_cases l.length (nb l 0) (nb l 1) (nb l 2) (nb l 3) hn (nb_lt _ _) (nb_lt _ _) (nb_lt _ _) (nb_lt _ _)
  have hs : sizeL l = sizeN l.length (nb l 0) (nb l 1) (nb l 2) (nb l 3) := rfl
  rw [← hs] at hc
  intro b hb
  obtain ⟨j, hj⟩ := List.mem_iff_getElem?.1 hb
  rw [List.getElem?_take] at hj
  split at hj
  · rename_i hjk
    have e : nb l j = b.toNat := by unfold nb; rw [List.getD_eq_getElem?_getD, hj]; rfl
    have h4 := size_le4 hl
    rcases (show j = 0 ∨ j = 1 ∨ j = 2 ∨ j = 3 by omega) with rfl | rfl | rfl | rfl <;> omega
  · cases hj

/-! ### the characters -/
def step (l : List UInt8) : Nat := max 1 (sizeL l)
theorem step_pos (l : List UInt8) : 1 ≤ step l := by unfold step; omega
theorem step_le {l : List UInt8} (hl : l ≠ []) : step l ≤ l.length := by
  have := size_le hl
  have : 1 ≤ l.length := List.length_pos_iff.2 hl
  unfold step; omega
def charsF : Nat → List UInt8 → List (List UInt8)
  | 0, _ => []
  | f + 1, l => if l = [] then [] else l.take (step l) :: charsF f (l.drop (step l))
/-- The characters of bytes, each as its bytes; a wrong byte is one by itself. -/
def chars (l : List UInt8) : List (List UInt8) := charsF l.length l
theorem charsF_fuel : ∀ (f g : Nat) (l : List UInt8), l.length ≤ f → l.length ≤ g → charsF f l = charsF g l
  | 0, g, l, h1, h2 => by
    obtain rfl : l = [] := List.eq_nil_of_length_eq_zero (by omega)
    cases g <;> simp [charsF]
  | f + 1, 0, l, h1, h2 => by
    obtain rfl : l = [] := List.eq_nil_of_length_eq_zero (by omega)
    simp [charsF]
  | f + 1, g + 1, l, h1, h2 => by
    simp only [charsF]
    by_cases hl : l = []
    · rw [if_pos hl, if_pos hl]
    · have := step_pos l
      rw [if_neg hl, if_neg hl, charsF_fuel f g (l.drop (step l)) (by rw [List.length_drop]; omega) (by rw [List.length_drop]; omega)]
theorem chars_nil : chars [] = [] := rfl
theorem chars_cons {l : List UInt8} (hl : l ≠ []) : chars l = l.take (step l) :: chars (l.drop (step l)) := by
  have h1 := step_pos l
  unfold chars
  obtain ⟨n, hn⟩ : ∃ n, l.length = n + 1 := ⟨l.length - 1, by have : 1 ≤ l.length := List.length_pos_iff.2 hl; omega⟩
  conv => lhs; rw [hn]
  simp only [charsF]
  rw [if_neg hl, charsF_fuel n (l.drop (step l)).length (l.drop (step l)) (by rw [List.length_drop]; omega) (Nat.le_refl _)]
/-- induction along the characters -/
theorem along {P : List UInt8 → Prop} (h0 : P []) (h1 : ∀ l, l ≠ [] → P (l.drop (step l)) → P l) : ∀ l, P l := by
  have : ∀ n (l : List UInt8), l.length ≤ n → P l := by
    intro n
    induction n with
    | zero => intro l h; obtain rfl : l = [] := List.eq_nil_of_length_eq_zero (by omega); exact h0
    | succ n ih =>
      intro l h
      by_cases hl : l = []
      · subst hl; exact h0
      · have := step_pos l
        exact h1 l hl (ih _ (by rw [List.length_drop]; omega))
  exact fun l => this _ l (Nat.le_refl _)
/-- Is it a right character? -/
def good (c : List UInt8) : Bool := decide (c ≠ [] ∧ sizeL c = c.length)
theorem good_iff {c : List UInt8} : good c = true ↔ c ≠ [] ∧ sizeL c = c.length := by unfold good; rw [decide_eq_true_eq]
theorem good_len {c : List UInt8} (h : good c = true) : 1 ≤ c.length ∧ c.length ≤ 4 := by
  have := good_iff.1 h
  have h4 := size_le4 this.1
  have : 1 ≤ c.length := List.length_pos_iff.2 this.1
  omega
theorem size_good {c : List UInt8} (h : good c = true) (r : List UInt8) : sizeL (c ++ r) = c.length := by
  have hg := good_iff.1 h
  have hl := good_len h
  have := size_take hg.1 (by omega) r
  rw [hg.2, List.take_length] at this
  exact this
theorem chars_good {c : List UInt8} (h : good c = true) (r : List UInt8) : chars (c ++ r) = c :: chars r := by
  have hg := good_iff.1 h
  have hl := good_len h
  have hs := size_good h r
  rw [chars_cons (by simp [hg.1])]
  have e : step (c ++ r) = c.length := by unfold step; rw [hs]; omega
  rw [e, List.take_left, List.drop_left]
theorem chars_flat_good {cs : List (List UInt8)} (h : ∀ c ∈ cs, good c = true) : chars cs.flatten = cs := by
  induction cs with
  | nil => rfl
  | cons c cs ih => rw [List.flatten_cons, chars_good (h c List.mem_cons_self), ih (fun x hx => h x (List.mem_cons_of_mem _ hx))]
theorem chars_flat : ∀ l : List UInt8, (chars l).flatten = l :=
  along rfl (fun l hl ih => by rw [chars_cons hl, List.flatten_cons, ih, List.take_append_drop])
theorem head_good {l : List UInt8} (hl : l ≠ []) : good (l.take (step l)) = decide (sizeL l ≠ 0) := by
  have hle := size_le hl
  by_cases h : sizeL l = 0
  · obtain ⟨b, t, rfl⟩ : ∃ b t, l = b :: t := by cases l with | nil => exact absurd rfl hl | cons b t => exact ⟨b, t, rfl⟩
    have e : step (b :: t) = 1 := by unfold step; rw [h]; rfl
    rw [e, h]
    have := size_bad_one (size_zero h)
    simp [good, this]
  · have e : step l = sizeL l := by unfold step; omega
    rw [e]
    have := size_take hl (by omega) []
    rw [List.append_nil] at this
    have hne : l.take (sizeL l) ≠ [] := by
      intro h2
      have := congrArg List.length h2
      rw [List.length_take, List.length_nil] at this
      omega
    rw [decide_eq_true h, good_iff]
    exact ⟨hne, by rw [this, List.length_take]; omega⟩
/-- each character is right, or a byte from 128 on -/
theorem chars_mem : ∀ (l : List UInt8), ∀ c ∈ chars l, good c = true ∨ ∃ b : UInt8, 128 ≤ b.toNat ∧ c = [b] := by
  refine along (by simp [chars_nil]) (fun l hl ih => ?_)
  rw [chars_cons hl]
  intro c hc
  rcases List.mem_cons.1 hc with rfl | hc
  · rw [head_good hl]
    by_cases h : sizeL l = 0
    · right
      obtain ⟨b, t, rfl⟩ : ∃ b t, l = b :: t := by cases l with | nil => exact absurd rfl hl | cons b t => exact ⟨b, t, rfl⟩
      exact ⟨b, size_zero h, by simp [step, h]⟩
    · left; exact decide_eq_true h
  · exact ih c hc
theorem chars_len {l : List UInt8} {c : List UInt8} (h : c ∈ chars l) : 1 ≤ c.length ∧ c.length ≤ 4 := by
  rcases chars_mem l c h with h | ⟨b, _, rfl⟩
  · exact good_len h
  · simp
def right (l : List UInt8) : Bool := (chars l).all good
theorem chars_app {a : List UInt8} (h : right a = true) (b : List UInt8) : chars (a ++ b) = chars a ++ chars b := by
  have hg : ∀ c ∈ chars a, good c = true := List.all_eq_true.1 h
  have : ∀ (cs : List (List UInt8)), (∀ c ∈ cs, good c = true) → chars (cs.flatten ++ b) = cs ++ chars b := by
    intro cs
    induction cs with
    | nil => intro _; rfl
    | cons c cs ih => intro h; rw [List.flatten_cons, List.append_assoc, chars_good (h c List.mem_cons_self), ih (fun x hx => h x (List.mem_cons_of_mem _ hx))]; rfl
  have e := this (chars a) hg
  rw [chars_flat] at e
  exact e
theorem right_app {a b : List UInt8} (ha : right a = true) (hb : right b = true) : right (a ++ b) = true := by
  unfold right at hb ⊢
  rw [chars_app ha, List.all_append, Bool.and_eq_true]
  exact ⟨ha, hb⟩

/-! ### what is decoded -/
def odd : List UInt8 := [239, 191, 189]
theorem good_odd : good odd = true := by decide
def repl (c : List UInt8) : List UInt8 := if good c = true ∧ c ≠ [0] then c else odd
theorem repl_good (c : List UInt8) : good (repl c) = true := by
  unfold repl
  split
  · rename_i h; exact h.1
  · exact good_odd
theorem repl_again (c : List UInt8) : repl (repl c) = repl c := by
  by_cases h : good c = true ∧ c ≠ [0]
  · have e : repl c = c := by unfold repl; rw [if_pos h]
    rw [e, e]
  · have e : repl c = odd := by unfold repl; rw [if_neg h]
    rw [e]
    unfold repl
    rw [if_pos ⟨good_odd, by decide⟩]
def decode (l : List UInt8) : List UInt8 := ((chars l).map repl).flatten
theorem decode_nil : decode [] = [] := rfl
theorem decode_cons {l : List UInt8} (hl : l ≠ []) : decode l = repl (l.take (step l)) ++ decode (l.drop (step l)) := by
  unfold decode
  rw [chars_cons hl, List.map_cons, List.flatten_cons]
theorem chars_decode (l : List UInt8) : chars (decode l) = (chars l).map repl :=
  chars_flat_good (fun c hc => by obtain ⟨d, _, rfl⟩ := List.mem_map.1 hc; exact repl_good d)
theorem right_decode (l : List UInt8) : right (decode l) = true := by
  unfold right
  rw [chars_decode, List.all_eq_true]
  intro c hc
  obtain ⟨d, _, rfl⟩ := List.mem_map.1 hc
  exact repl_good d
theorem decode_again (l : List UInt8) : decode (decode l) = decode l := by
  show ((chars (decode l)).map repl).flatten = ((chars l).map repl).flatten
  rw [chars_decode, List.map_map]
  congr 1
  exact List.map_congr_left (fun c _ => repl_again c)
theorem decode_app {a : List UInt8} (h : right a = true) (b : List UInt8) : decode (a ++ b) = decode a ++ decode b := by
  unfold decode
  rw [chars_app h, List.map_append, List.flatten_append]
theorem repl_len (c : List UInt8) (h : 1 ≤ c.length) : (repl c).length ≤ 3 * c.length := by
  unfold repl
  split
  · omega
  · show 3 ≤ _; omega
theorem decode_len (l : List UInt8) : (decode l).length ≤ 3 * l.length := by
  refine along (P := fun l => (decode l).length ≤ 3 * l.length) (by simp [decode_nil]) (fun l hl ih => ?_) l
  rw [decode_cons hl, List.length_append]
  have h1 := step_le hl
  have h2 := step_pos l
  have h3 := repl_len (l.take (step l)) (by rw [List.length_take]; omega)
  rw [List.length_take] at h3
  rw [List.length_drop] at ih
  omega
def count (l : List UInt8) : Nat := (chars l).length
theorem count_le (l : List UInt8) : count l ≤ l.length ∧ l.length ≤ 4 * count l := by
  unfold count
  refine along (P := fun l => (chars l).length ≤ l.length ∧ l.length ≤ 4 * (chars l).length) (by simp [chars_nil]) (fun l hl ih => ?_) l
  rw [chars_cons hl, List.length_cons]
  have h1 := step_le hl
  have h2 := step_pos l
  have h4 : step l ≤ 4 := by have := size_le4 hl; unfold step; omega
  rw [List.length_drop] at ih
  omega
theorem count_decode (l : List UInt8) : count (decode l) = count l := by
  unfold count; rw [chars_decode, List.length_map]
theorem count_app {a : List UInt8} (h : right a = true) (b : List UInt8) : count (a ++ b) = count a + count b := by
  unfold count; rw [chars_app h, List.length_append]

/-! ### the model's decoder -/
theorem dec_head {l : List UInt8} (hl : l ≠ []) : (decodeL l).2 = step l ∧ encodeRune ((if (decodeL l).1 = 0 then 65533 else (decodeL l).1 : Nat) : Int) = repl (l.take (step l)) ∧
    (((decodeL l).1 = 65533 ∧ (decodeL l).2 = 1) ↔ sizeL l = 0) := by
  obtain ⟨b, t, rfl⟩ : ∃ b t, l = b :: t := by cases l with | nil => exact absurd rfl hl | cons b t => exact ⟨b, t, rfl⟩
  have hg := head_good hl
  have hc := size_cases (b :: t).length (nb (b :: t) 0) (nb (b :: t) 1) (nb (b :: t) 2) (nb (b :: t) 3) (by simp) (nb_lt _ _) (nb_lt _ _) (nb_lt _ _) (nb_lt _ _)
  have hs : sizeL (b :: t) = sizeN (b :: t).length (nb (b :: t) 0) (nb (b :: t) 1) (nb (b :: t) 2) (nb (b :: t) 3) := rfl
  rw [← hs, ← dec_N] at hc
  have e0 : nb (b :: t) 0 = b.toNat := rfl
  have un : ∀ (c : UInt8) (n : Nat), n = c.toNat → n.toUInt8 = c := fun c n h => by subst h; exact UInt8.ofNat_toNat
  rcases hc with ⟨h1, h2, h3⟩ | ⟨h1, h2, h3⟩ | ⟨h1, h2, h3⟩ | ⟨h1, h2, h3⟩ | ⟨h1, h2, h3⟩
  · have e : step (b :: t) = 1 := by unfold step; rw [h1]; rfl
    rw [e] at hg ⊢
    rw [h1] at hg
    refine ⟨by rw [h3], ?_, by rw [h3, h1]; simp⟩
    rw [h3]
    have er : repl (List.take 1 (b :: t)) = odd := by unfold repl; rw [if_neg (by rw [hg]; simp)]
    rw [er]
    decide
  · have e : step (b :: t) = 1 := by unfold step; rw [h1]; rfl
    rw [e] at hg ⊢
    rw [h1] at hg
    refine ⟨by rw [h3], ?_, by rw [h3, h1]; simp; omega⟩
    rw [h3, e0]
    show encodeRune _ = repl [b]
    simp only
    by_cases hz : b.toNat = 0
    · have : b = 0 := by rw [← UInt8.toNat_inj]; exact hz
      subst this
      rfl
    · rw [if_neg hz]
      have hb0 : b ≠ 0 := fun h => hz (by rw [h]; rfl)
      unfold repl encodeRune
      rw [if_pos ⟨by simpa using hg, by simpa using hb0⟩, encodeRuneZ_one (by omega) (by omega)]
      simp only [List.map_cons, List.map_nil]
      rw [un b _ (by omega)]
  · have hle := size_le hl
    obtain ⟨c, r, rfl⟩ : ∃ c r, t = c :: r := by cases t with | nil => simp at h2 | cons c r => exact ⟨c, r, rfl⟩
    have e1 : nb (b :: c :: r) 1 = c.toNat := rfl
    have e : step (b :: c :: r) = 2 := by unfold step; rw [h1]; rfl
    rw [e] at hg ⊢
    rw [h1] at hg
    obtain ⟨g1, g2, g3, g4, g5⟩ := h3
    refine ⟨by rw [g5], ?_, by rw [g5, h1]; simp⟩
    rw [g5, e0, e1]
    rw [e0, e1] at *
    show encodeRune _ = repl [b, c]
    simp only
    rw [if_neg (by omega)]
    unfold repl encodeRune
    rw [if_pos ⟨by simpa using hg, by simp⟩, encodeRuneZ_two (by omega) (by omega)]
    simp only [List.map_cons, List.map_nil]
    rw [un b _ (by omega), un c _ (by omega)]
  · have hle := size_le hl
    obtain ⟨c, d, r, rfl⟩ : ∃ c d r, t = c :: d :: r := by
      match t, h2 with
      | [], h2 => simp at h2
      | [c], h2 => simp at h2
      | c :: d :: r, _ => exact ⟨c, d, r, rfl⟩
    have e1 : nb (b :: c :: d :: r) 1 = c.toNat := rfl
    have e2 : nb (b :: c :: d :: r) 2 = d.toNat := rfl
    have e : step (b :: c :: d :: r) = 3 := by unfold step; rw [h1]; rfl
    rw [e] at hg ⊢
    rw [h1] at hg
    obtain ⟨g1, g2, g3, g4, g5, g6, g7, g8, g9⟩ := h3
    refine ⟨by rw [g9], ?_, by rw [g9, h1]; simp⟩
    rw [g9, e0, e1, e2]
    rw [e0, e1, e2] at *
    show encodeRune _ = repl [b, c, d]
    simp only
    rw [if_neg (by omega)]
    unfold repl encodeRune
    rw [if_pos ⟨by simpa using hg, by simp⟩, encodeRuneZ_three (by omega)]
    simp only [List.map_cons, List.map_nil]
    rw [un b _ (by omega), un c _ (by omega), un d _ (by omega)]
  · have hle := size_le hl
    obtain ⟨c, d, x, r, rfl⟩ : ∃ c d x r, t = c :: d :: x :: r := by
      match t, h2 with
      | [], h2 => simp at h2
      | [c], h2 => simp at h2
      | [c, d], h2 => simp at h2
      | c :: d :: x :: r, _ => exact ⟨c, d, x, r, rfl⟩
    have e1 : nb (b :: c :: d :: x :: r) 1 = c.toNat := rfl
    have e2 : nb (b :: c :: d :: x :: r) 2 = d.toNat := rfl
    have e3 : nb (b :: c :: d :: x :: r) 3 = x.toNat := rfl
    have e : step (b :: c :: d :: x :: r) = 4 := by unfold step; rw [h1]; rfl
    rw [e] at hg ⊢
    rw [h1] at hg
    obtain ⟨g1, g2, g3, g4, g5, g6, g7, g8, g9, g10, g11⟩ := h3
    refine ⟨by rw [g11], ?_, by rw [g11, h1]; simp⟩
    rw [g11, e0, e1, e2, e3]
    rw [e0, e1, e2, e3] at *
    show encodeRune _ = repl [b, c, d, x]
    simp only
    rw [if_neg (by omega)]
    unfold repl encodeRune
    rw [if_pos ⟨by simpa using hg, by simp⟩, encodeRuneZ_four (by omega) (by omega)]
    simp only [List.map_cons, List.map_nil]
    rw [un b _ (by omega), un c _ (by omega), un d _ (by omega), un x _ (by omega)]
theorem valid_right : ∀ l : List UInt8, validD l = right l := by
  refine along rfl (fun l hl ih => ?_)
  obtain ⟨h1, _, h3⟩ := dec_head hl
  unfold right at ih ⊢
  rw [validD_step l hl, chars_cons hl, List.all_cons, head_good hl]
  by_cases h : sizeL l = 0
  · rw [if_pos (h3.2 h), decide_eq_false (by simp [h]), Bool.false_and]
  · rw [if_neg (fun z => h (h3.1 z)), decide_eq_true h, Bool.true_and, h1, ih]
end Go.Proofs.YtaeikiigdfgmaaaDoor.Chars
