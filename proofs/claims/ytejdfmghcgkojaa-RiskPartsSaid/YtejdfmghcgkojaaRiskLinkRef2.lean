/- The reference's Scheme, Percent, Source: plain Lean. -/
import Derived.Test.YtejdfmghcgkojaaRiskLinkRef
namespace Go.Proofs.Ytejdfmghcgkojaa.Pure
set_option linter.unusedVariables false
set_option linter.unusedSimpArgs false
open Go.RowKit Go.Proofs.Ytejdfmghcgkojaa.Pr Go.Proofs.YtejdfmghcgkojaaW.PrintWords Go.Proofs.YtejdfmghcgkojaaW.PrintLast

theorem letter_f (c : Int) : boltingref02_Letter.f c = some (letterI c) := by
  unfold boltingref02_Letter.f letterI
  repeat' split
  all_goals
    congr 1
    rw [Bool.eq_iff_iff]
    simp only [Bool.or_eq_true, decide_eq_true_eq, eq_self, true_iff, Bool.false_eq_true, false_iff]
    omega
theorem inScheme_iff {c : UInt8} : inScheme c = true ↔ letter c = true ∨ (48 ≤ c.toNat ∧ c.toNat ≤ 57) ∨ c.toNat = 43 ∨ c.toNat = 45 ∨ c.toNat = 46 := by
  unfold inScheme
  simp only [Bool.or_eq_true, decide_eq_true_eq, or_assoc]
theorem ref_colon_j1 (k : Nat) (s : ByteArray) (i : Int) (c : UInt8) :
    boltingref09_colon.j1 (k + 1) s i (c.toNat : Int) false = if letter c = true ∨ (i ≠ 0 ∧ inScheme c = true) then boltingref09_colon.l0 k s (wrap64 (i + 1)) else some (-1) := by
  simp only [boltingref09_colon.j1, letter_f, Option.bind_some, Bool.false_eq_true, if_false]
  show (if letter c = true then _ else _) = _
  by_cases hl : letter c = true
  · rw [if_pos hl, if_pos (Or.inl hl)]
  · rw [if_neg hl]
    by_cases hin : inScheme c = true
    · have h' := (inScheme_iff.1 hin).resolve_left hl
      by_cases hi : i = 0
      · have hR : ¬ (letter c = true ∨ (i ≠ 0 ∧ inScheme c = true)) := fun h => h.elim hl (fun h => h.1 hi)
        rw [if_pos hi, if_neg hR]
      · have hR : letter c = true ∨ (i ≠ 0 ∧ inScheme c = true) := Or.inr ⟨hi, hin⟩
        rw [if_neg hi, if_pos hR]
        repeat' split
        all_goals first | rfl | (exfalso; omega)
    · have h' : ¬ ((48 ≤ c.toNat ∧ c.toNat ≤ 57) ∨ c.toNat = 43 ∨ c.toNat = 45 ∨ c.toNat = 46) := fun h => hin (inScheme_iff.2 (.inr h))
      have hR : ¬ (letter c = true ∨ (i ≠ 0 ∧ inScheme c = true)) := fun h => h.elim hl (fun h => hin h.2)
      rw [if_neg hR]
      repeat' split
      all_goals first | rfl | (exfalso; omega)
/-- From behind the first byte on. -/
def colF : List UInt8 → Nat → Int
  | [], _ => -1
  | c :: t, i => if c = 58 then i else if inScheme c then colF t (i + 1) else -1
theorem colF_eq : ∀ (l : List UInt8) (i : Nat), colF l i = if l.contains 58 && (bef 58 l).all inScheme then ((i + (bef 58 l).length : Nat) : Int) else -1
  | [], i => by simp [colF]
  | c :: t, i => by
    unfold colF
    by_cases hc : c = 58
    · subst hc; simp [bef]
    · have h2 : (c != 58) = true := by simpa using hc
      have h3 : (c :: t).contains 58 = t.contains 58 := by rw [List.contains_cons]; simp [Ne.symm hc]
      rw [if_neg hc, h3, colF_eq t (i + 1)]
      have hb : bef 58 (c :: t) = c :: bef 58 t := by unfold bef; simp [List.takeWhile_cons, hc]
      rw [hb, List.all_cons]
      cases hin : inScheme c with
      | true =>
        simp only [if_true, Bool.true_and, List.length_cons]
        split
        · congr 1; omega
        · rfl
      | false => simp
theorem colF_ge (l : List UInt8) (i : Nat) : -1 ≤ colF l i := by
  rw [colF_eq]
  split <;> omega
theorem ref_colon_l0 (s : ByteArray) (hs : s.size ≤ 1000000) : ∀ (d i : Nat), i + d = s.size → 1 ≤ i → ∀ k, 2 * d + 1 < k → boltingref09_colon.l0 k s (i : Int) = some (colF (s.data.toList.drop i) i)
  | 0, i, h, hi, k, hk => by
    obtain ⟨k, rfl⟩ : ∃ m, k = m + 1 := ⟨k - 1, by omega⟩
    simp only [boltingref09_colon.l0]
    rw [if_neg (by omega), List.drop_of_length_le (by rw [← Lib.size_eq]; omega)]
    rfl
  | d + 1, i, h, hi, k, hk => by
    obtain ⟨k, rfl⟩ : ∃ m, k = m + 2 := ⟨k - 2, by omega⟩
    obtain ⟨c, hc⟩ := at_some s (show i < s.size by omega)
    simp only [boltingref09_colon.l0]
    rw [if_pos (by omega), if_pos (by omega), bt_c hc, drop_one hc]
    unfold colF
    by_cases h58 : c = 58
    · subst h58
      rw [if_pos rfl, if_pos (by rfl)]
      simp only [boltingref09_colon.j1]
      rw [if_pos (by simp; omega)]
    · have hn : ¬ (c.toNat : Int) = 58 := by
        intro e
        exact h58 (UInt8.toNat_inj.1 (by show c.toNat = 58; omega))
      rw [if_neg hn, if_neg h58, ref_colon_j1, wrap_succ (by omega) (by omega), show ((i : Int) + 1) = ((i + 1 : Nat) : Int) by omega]
      rw [ref_colon_l0 s hs d (i + 1) (by omega) (by omega) k (by omega)]
      by_cases hin : inScheme c = true
      · rw [if_pos (.inr ⟨by omega, hin⟩), if_pos hin]
      · rw [if_neg (by rw [inScheme_iff] at hin ⊢; intro h; rcases h with h | h; exact hin (.inl h); exact hin h.2), if_neg hin]
/-- Where a scheme's colon stands. -/
def colon (l : List UInt8) : Int := if l.contains 58 && okName (bef 58 l) then ((bef 58 l).length : Int) else -1
theorem ref_colon (s : ByteArray) (hs : s.size ≤ 1000000) : ∀ k, 3000000 < k → boltingref09_colon.f k s = some (colon s.data.toList) := by
  intro k hk
  unfold boltingref09_colon.f
  obtain ⟨k, rfl⟩ : ∃ m, k = m + 2 := ⟨k - 2, by omega⟩
  simp only [boltingref09_colon.l0]
  cases hd : s.data.toList with
  | nil =>
    have : s.size = 0 := by rw [Lib.size_eq, hd]; rfl
    rw [if_neg (by omega)]
    rfl
  | cons c t =>
    have hsz : s.size = t.length + 1 := by rw [Lib.size_eq, hd]; rfl
    have hc : s.data.toList[0]? = some c := by rw [hd]; rfl
    rw [if_pos (by omega), if_pos (by omega), show ((0 : Int)) = ((0 : Nat) : Int) from rfl, bt_c hc]
    have hn : (decide (((0 : Nat) : Int) > ((0 : Nat) : Int))) = false := by decide
    rw [hn, ite_self, ref_colon_j1]
    have hl := ref_colon_l0 s hs t.length 1 (by omega) (by omega) k (by omega)
    rw [hd] at hl
    simp only [List.drop_succ_cons, List.drop_zero] at hl
    rw [wrap_succ (by omega) (by omega), show (((0 : Nat) : Int) + 1) = ((1 : Nat) : Int) by omega, hl]
    unfold colon
    by_cases h58 : c = 58
    · subst h58
      have : letter 58 = false := by decide
      simp [this, bef, okName]
    · have hb : bef 58 (c :: t) = c :: bef 58 t := by unfold bef; simp [List.takeWhile_cons, h58]
      have h3 : (c :: t).contains 58 = t.contains 58 := by rw [List.contains_cons]; simp [Ne.symm h58]
      rw [hb, h3, colF_eq]
      unfold okName
      cases hlt : letter c with
      | true =>
        have hin : inScheme c = true := inScheme_iff.2 (.inl hlt)
        simp only [true_or, if_true, List.all_cons, hin, hlt, Bool.true_and, List.length_cons]
        congr 1
        split
        · omega
        · rfl
      | false => simp [hlt]

theorem colon_scheme (l : List UInt8) : (colon (strip l) < 0 ∧ scheme l = none) ∨ (colon (strip l) = (bef 58 (strip l)).length ∧ scheme l = some (lower (bef 58 (strip l)))) := by
  unfold colon scheme
  split
  · exact .inr ⟨rfl, rfl⟩
  · exact .inl ⟨by omega, rfl⟩
theorem mkS_extract (l : List UInt8) (n : Nat) : (mkS l).extract 0 n = mkS (l.take n) := by rw [extract_pre]; rfl
theorem ref_scheme (s : ByteArray) (hs : s.size ≤ 1000000) : ∀ k, 3000000 < k → boltingref09_Scheme.f k s = some (mkS ((scheme s.data.toList).getD []), (scheme s.data.toList).isSome) := by
  intro k hk
  unfold boltingref09_Scheme.f
  have hst := strip_le s.data.toList
  rw [← Lib.size_eq] at hst
  rw [ref_strip s hs k hk]
  simp only [Option.bind_some]
  rw [ref_colon (mkS (strip s.data.toList)) (by rw [mkS_size]; omega) k hk]
  simp only [Option.bind_some, mkS_list]
  rcases colon_scheme s.data.toList with ⟨h1, h2⟩ | ⟨h1, h2⟩
  · rw [if_pos h1, h2]
    rfl
  · have hbl := bef_le 58 (strip s.data.toList)
    rw [h1, h2, if_neg (by omega), if_pos (by omega), if_pos (by rw [mkS_size]; omega)]
    simp only [Int.toNat_natCast]
    rw [mkS_extract, bef_take]
    have : boltingref02_Lower.f (mkS (bef 58 (strip s.data.toList))) = some (mkS (lower (bef 58 (strip s.data.toList)))) := bnd_of _ (by rw [mkS_size]; omega)
    rw [this]
    rfl

end Go.Proofs.Ytejdfmghcgkojaa.Pure
