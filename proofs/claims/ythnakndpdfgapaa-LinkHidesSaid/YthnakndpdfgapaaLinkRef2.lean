/- The reference's Scheme, Percent, Source: plain Lean. -/
import Derived.Test.YthnakndpdfgapaaLinkRef
namespace Go.Proofs.Ythnakndpdfgapaa.Pure
set_option linter.unusedVariables false
set_option linter.unusedSimpArgs false
open Go.RowKit Go.Proofs.Ythnakndpdfgapaa.Pr Go.Proofs.YthnakndpdfgapaaW.PrintWords Go.Proofs.YthnakndpdfgapaaW.PrintLast

theorem letter_f (c : Int) : boltingref02_Letter.f c = some (letterI c) := by
  unfold boltingref02_Letter.f letterI
  repeat' split
  all_goals
    congr 1
    rw [Bool.eq_iff_iff]
    simp only [Bool.or_eq_true, decide_eq_true_eq, eq_self, true_iff, Bool.false_eq_true, false_iff]
    omega
theorem inScheme_iff {c : UInt8} : inScheme c = true ↔ letter c = true ∨ (48 ≤ c.toNat ∧ c.toNat ≤ 57) ∨ c.toNat = 43 ∨ c.toNat = 45 ∨ c.toNat = 46 := by
  unfold inScheme
  simp only [Bool.or_eq_true, decide_eq_true_eq, or_assoc]
theorem ref_colon_j1 (k : Nat) (s : ByteArray) (i : Int) (c : UInt8) :
    boltingref09_colon.j1 (k + 1) s i (c.toNat : Int) false = if letter c = true ∨ (i ≠ 0 ∧ inScheme c = true) then boltingref09_colon.l0 k s (wrap64 (i + 1)) else some (-1) := by
  simp only [boltingref09_colon.j1, letter_f, Option.bind_some, Bool.false_eq_true, if_false]
  show (if letter c = true then _ else _) = _
  by_cases hl : letter c = true
  · rw [if_pos hl, if_pos (Or.inl hl)]
  · rw [if_neg hl]
    by_cases hin : inScheme c = true
    · have h' := (inScheme_iff.1 hin).resolve_left hl
      by_cases hi : i = 0
      · have hR : ¬ (letter c = true ∨ (i ≠ 0 ∧ inScheme c = true)) := fun h => h.elim hl (fun h => h.1 hi)
        rw [if_pos hi, if_neg hR]
      · have hR : letter c = true ∨ (i ≠ 0 ∧ inScheme c = true) := Or.inr ⟨hi, hin⟩
        rw [if_neg hi, if_pos hR]
        repeat' split
        all_goals first | rfl | (exfalso; omega)
    · have h' : ¬ ((48 ≤ c.toNat ∧ c.toNat ≤ 57) ∨ c.toNat = 43 ∨ c.toNat = 45 ∨ c.toNat = 46) := fun h => hin (inScheme_iff.2 (.inr h))
      have hR : ¬ (letter c = true ∨ (i ≠ 0 ∧ inScheme c = true)) := fun h => h.elim hl (fun h => hin h.2)
      rw [if_neg hR]
      repeat' split
      all_goals first | rfl | (exfalso; omega)
/-- From behind the first byte on. -/
def colF : List UInt8 → Nat → Int
  | [], _ => -1
  | c :: t, i => if c = 58 then i else if inScheme c then colF t (i + 1) else -1
theorem colF_eq : ∀ (l : List UInt8) (i : Nat), colF l i = if l.contains 58 && (bef 58 l).all inScheme then ((i + (bef 58 l).length : Nat) : Int) else -1
  | [], i => by simp [colF]
  | c :: t, i => by
    unfold colF
    by_cases hc : c = 58
    · subst hc; simp [bef]
    · have h2 : (c != 58) = true := by simpa using hc
      have h3 : (c :: t).contains 58 = t.contains 58 := by rw [List.contains_cons]; simp [Ne.symm hc]
      rw [if_neg hc, h3, colF_eq t (i + 1)]
      have hb : bef 58 (c :: t) = c :: bef 58 t := by unfold bef; simp [List.takeWhile_cons, hc]
      rw [hb, List.all_cons]
      cases hin : inScheme c with
      | true =>
        simp only [if_true, Bool.true_and, List.length_cons]
        split
        · congr 1; omega
        · rfl
      | false => simp
theorem colF_ge (l : List UInt8) (i : Nat) : -1 ≤ colF l i := by
  rw [colF_eq]
  split <;> omega
theorem ref_colon_l0 (s : ByteArray) (hs : s.size ≤ 1000000) : ∀ (d i : Nat), i + d = s.size → 1 ≤ i → ∀ k, 2 * d + 1 < k → boltingref09_colon.l0 k s (i : Int) = some (colF (s.data.toList.drop i) i)
  | 0, i, h, hi, k, hk => by
    obtain ⟨k, rfl⟩ : ∃ m, k = m + 1 := ⟨k - 1, by omega⟩
    simp only [boltingref09_colon.l0]
    rw [if_neg (by omega), List.drop_of_length_le (by rw [← Lib.size_eq]; omega)]
    rfl
  | d + 1, i, h, hi, k, hk => by
    obtain ⟨k, rfl⟩ : ∃ m, k = m + 2 := ⟨k - 2, by omega⟩
    obtain ⟨c, hc⟩ := at_some s (show i < s.size by omega)
    simp only [boltingref09_colon.l0]
    rw [if_pos (by omega), if_pos (by omega), bt_c hc, drop_one hc]
    unfold colF
    by_cases h58 : c = 58
    · subst h58
      rw [if_pos rfl, if_pos (by rfl)]
      simp only [boltingref09_colon.j1]
      rw [if_pos (by simp; omega)]
    · have hn : ¬ (c.toNat : Int) = 58 := by
        intro e
        exact h58 (UInt8.toNat_inj.1 (by show c.toNat = 58; omega))
      rw [if_neg hn, if_neg h58, ref_colon_j1, wrap_succ (by omega) (by omega), show ((i : Int) + 1) = ((i + 1 : Nat) : Int) by omega]
      rw [ref_colon_l0 s hs d (i + 1) (by omega) (by omega) k (by omega)]
      by_cases hin : inScheme c = true
      · rw [if_pos (.inr ⟨by omega, hin⟩), if_pos hin]
      · rw [if_neg (by rw [inScheme_iff] at hin ⊢; intro h; rcases h with h | h; exact hin (.inl h); exact hin h.2), if_neg hin]
/-- Where a scheme's colon stands. -/
def colon (l : List UInt8) : Int := if l.contains 58 && okName (bef 58 l) then ((bef 58 l).length : Int) else -1
theorem ref_colon (s : ByteArray) (hs : s.size ≤ 1000000) : ∀ k, 3000000 < k → boltingref09_colon.f k s = some (colon s.data.toList) := by
  intro k hk
  unfold boltingref09_colon.f
  obtain ⟨k, rfl⟩ : ∃ m, k = m + 2 := ⟨k - 2, by omega⟩
  simp only [boltingref09_colon.l0]
  cases hd : s.data.toList with
  | nil =>
    have : s.size = 0 := by rw [Lib.size_eq, hd]; rfl
    rw [if_neg (by omega)]
    rfl
  | cons c t =>
    have hsz : s.size = t.length + 1 := by rw [Lib.size_eq, hd]; rfl
    have hc : s.data.toList[0]? = some c := by rw [hd]; rfl
    rw [if_pos (by omega), if_pos (by omega), show ((0 : Int)) = ((0 : Nat) : Int) from rfl, bt_c hc]
    have hn : (decide (((0 : Nat) : Int) > ((0 : Nat) : Int))) = false := by decide
    rw [hn, ite_self, ref_colon_j1]
    have hl := ref_colon_l0 s hs t.length 1 (by omega) (by omega) k (by omega)
    rw [hd] at hl
    simp only [List.drop_succ_cons, List.drop_zero] at hl
    rw [wrap_succ (by omega) (by omega), show (((0 : Nat) : Int) + 1) = ((1 : Nat) : Int) by omega, hl]
    unfold colon
    by_cases h58 : c = 58
    · subst h58
      have : letter 58 = false := by decide
      simp [this, bef, okName]
    · have hb : bef 58 (c :: t) = c :: bef 58 t := by unfold bef; simp [List.takeWhile_cons, h58]
      have h3 : (c :: t).contains 58 = t.contains 58 := by rw [List.contains_cons]; simp [Ne.symm h58]
      rw [hb, h3, colF_eq]
      unfold okName
      cases hlt : letter c with
      | true =>
        have hin : inScheme c = true := inScheme_iff.2 (.inl hlt)
        simp only [true_or, if_true, List.all_cons, hin, hlt, Bool.true_and, List.length_cons]
        congr 1
        split
        · omega
        · rfl
      | false => simp [hlt]

theorem colon_scheme (l : List UInt8) : (colon (strip l) < 0 ∧ scheme l = none) ∨ (colon (strip l) = (bef 58 (strip l)).length ∧ scheme l = some (lower (bef 58 (strip l)))) := by
  unfold colon scheme
  split
  · exact .inr ⟨rfl, rfl⟩
  · exact .inl ⟨by omega, rfl⟩
theorem mkS_extract (l : List UInt8) (n : Nat) : (mkS l).extract 0 n = mkS (l.take n) := by rw [extract_pre]; rfl
theorem ref_scheme (s : ByteArray) (hs : s.size ≤ 1000000) : ∀ k, 3000000 < k → boltingref09_Scheme.f k s = some (mkS ((scheme s.data.toList).getD []), (scheme s.data.toList).isSome) := by
  intro k hk
  unfold boltingref09_Scheme.f
  have hst := strip_le s.data.toList
  rw [← Lib.size_eq] at hst
  rw [ref_strip s hs k hk]
  simp only [Option.bind_some]
  rw [ref_colon (mkS (strip s.data.toList)) (by rw [mkS_size]; omega) k hk]
  simp only [Option.bind_some, mkS_list]
  rcases colon_scheme s.data.toList with ⟨h1, h2⟩ | ⟨h1, h2⟩
  · rw [if_pos h1, h2]
    rfl
  · have hbl := bef_le 58 (strip s.data.toList)
    rw [h1, h2, if_neg (by omega), if_pos (by omega), if_pos (by rw [mkS_size]; omega)]
    simp only [Int.toNat_natCast]
    rw [mkS_extract, bef_take]
    have : boltingref02_Lower.f (mkS (bef 58 (strip s.data.toList))) = some (mkS (lower (bef 58 (strip s.data.toList)))) := bnd_of _ (by rw [mkS_size]; omega)
    rw [this]
    rfl

/-! ### Percent, Source -/
theorem ref_digit (c : UInt8) : ∀ k, 2 < k → boltingref09_digit.f k (c.toNat : Int) = some (hex c) := by
  intro k hk
  obtain ⟨k, rfl⟩ : ∃ m, k = m + 2 := ⟨k - 2, by omega⟩
  have hb := c.toNat_lt
  unfold boltingref09_digit.f hex hexI
  simp only [boltingref09_digit.j0, boltingref09_digit.j1]
  rw [show wrap64 (c.toNat : Int) = (c.toNat : Int) from wrap_id (by omega) (by omega)]
  have w1 : wrap64 ((c.toNat : Int) - 48) = (c.toNat : Int) - 48 := wrap_id (by omega) (by omega)
  have w2 : wrap64 ((c.toNat : Int) - 87) = (c.toNat : Int) - 87 := wrap_id (by omega) (by omega)
  have w3 : wrap64 ((c.toNat : Int) - 55) = (c.toNat : Int) - 55 := wrap_id (by omega) (by omega)
  rw [w1, w2, w3]
  simp only [decide_eq_true_eq, Bool.false_eq_true, if_false]
  repeat' split
  all_goals first | rfl | (exfalso; omega)
theorem u8_nat {n : Nat} (h : n < 256) : n.toUInt8.toNat = n := by
  show (UInt8.ofNat n).toNat = n
  rw [UInt8.toNat_ofNat']
  omega
theorem ref_percent_j1_true (k : Nat) (s : ByteArray) (acc : List UInt8) (i : Nat) (x y : UInt8) (hs : s.size ≤ 1000000) (hl : acc.length ≤ i) (h1 : s.data.toList[i + 1]? = some x) (h2 : s.data.toList[i + 2]? = some y) (hx : 0 ≤ hex x) (hy : 0 ≤ hex y) (hk : 2 < k) :
    boltingref09_Percent.j1 (k + 1) s (toI acc) (i : Int) true = boltingref09_Percent.l0 k s (toI (acc ++ [(16 * hex x + hex y).toNat.toUInt8])) ((i + 3 : Nat) : Int) := by
  have i1 := at_lt h1
  have i2 := at_lt h2
  have rx := hexI_range (x.toNat : Int)
  have ry := hexI_range (y.toNat : Int)
  have rx' : hex x ≤ 15 := rx.2
  have ry' : hex y ≤ 15 := ry.2
  clear rx ry
  simp only [boltingref09_Percent.j1, if_true]
  have w1 : wrap64 ((i : Int) + 1) = ((i + 1 : Nat) : Int) := by rw [wrap_id (by omega) (by omega)]; omega
  have w2 : wrap64 ((i : Int) + 2) = ((i + 2 : Nat) : Int) := by rw [wrap_id (by omega) (by omega)]; omega
  have w3 : wrap64 (((i + 2 : Nat) : Int) + 1) = ((i + 3 : Nat) : Int) := by rw [wrap_id (by omega) (by omega)]; omega
  rw [w1, w2, w3, if_pos (by omega), if_pos (by omega), bt_c h1, bt_c h2, ref_digit x k hk]
  simp only [Option.bind_some]
  rw [if_pos (by omega), if_pos (by omega), ref_digit y k hk]
  simp only [Option.bind_some]
  have w4 : wrap64 (16 * hex x) = 16 * hex x := wrap_id (by omega) (by omega)
  have w5 : wrap64 (16 * hex x + hex y) = 16 * hex x + hex y := wrap_id (by omega) (by omega)
  rw [if_pos (by rw [toI_len]; omega), w4, w5]
  have hb : ((16 * hex x + hex y) % 256 : Int) = (((16 * hex x + hex y).toNat.toUInt8).toNat : Int) := by
    rw [u8_nat (by omega)]
    omega
  rw [hb, toI_snoc]
theorem ref_percent_j1_false (k : Nat) (s : ByteArray) (acc : List UInt8) (i : Nat) (c : UInt8) (hs : s.size ≤ 1000000) (hl : acc.length ≤ i) (h0 : s.data.toList[i]? = some c) :
    boltingref09_Percent.j1 (k + 1) s (toI acc) (i : Int) false = boltingref09_Percent.l0 k s (toI (acc ++ [c])) ((i + 1 : Nat) : Int) := by
  have i0 := at_lt h0
  simp only [boltingref09_Percent.j1, Bool.false_eq_true, if_false]
  rw [if_pos (by omega), if_pos (by omega), if_pos (by rw [toI_len]; omega), bt_c h0, toI_snoc, wrap_succ (by omega) (by omega)]
  rfl
theorem ref_percent_l0 (s : ByteArray) (hs : s.size ≤ 1000000) : ∀ (d i : Nat) (acc : List UInt8), i + d = s.size → acc.length ≤ i → ∀ k, 2 * d + 5 < k →
    boltingref09_Percent.l0 k s (toI acc) (i : Int) = some (mkS (acc ++ percent (s.data.toList.drop i))) := by
  intro d
  induction d using Nat.strongRecOn with
  | _ d ih =>
  intro i acc h hl k hk
  obtain ⟨k, rfl⟩ : ∃ m, k = m + 2 := ⟨k - 2, by omega⟩
  simp only [boltingref09_Percent.l0]
  by_cases hd : d = 0
  · rw [if_neg (by omega), List.drop_of_length_le (by rw [← Lib.size_eq]; omega), str_toI, percent_short [] (by simp)]
    simp
  obtain ⟨c, hc⟩ := at_some s (show i < s.size by omega)
  rw [if_pos (by omega), if_pos (by omega), bt_c hc]
  have w1 : wrap64 ((i : Int) + 1) = ((i + 1 : Nat) : Int) := by rw [wrap_id (by omega) (by omega)]; omega
  have w2 : wrap64 ((i : Int) + 2) = ((i + 2 : Nat) : Int) := by rw [wrap_id (by omega) (by omega)]; omega
  rw [w1, w2]
  have one := fun (hp : percent (s.data.toList.drop i) = c :: percent (s.data.toList.drop (i + 1))) => show boltingref09_Percent.j1 (k + 1) s (toI acc) (i : Int) false = some (mkS (acc ++ percent (s.data.toList.drop i))) by
    rw [ref_percent_j1_false k s acc i c hs hl hc, ih (d - 1) (by omega) (i + 1) (acc ++ [c]) (by omega) (by simp; omega) k (by omega), hp]
    simp
  by_cases h37 : (c.toNat : Int) = 37
  · rw [if_pos h37]
    by_cases hlen : i + 2 < s.size
    · rw [if_pos (by omega), if_pos (by omega), if_pos (by omega)]
      obtain ⟨x, h1⟩ := at_some s (show i + 1 < s.size by omega)
      obtain ⟨y, h2⟩ := at_some s (show i + 2 < s.size by omega)
      rw [bt_c h1, bt_c h2, ref_digit x (k + 1) (by omega)]
      simp only [Option.bind_some]
      by_cases hx : 0 ≤ hex x
      · rw [if_pos (by omega), if_pos (by omega), ref_digit y (k + 1) (by omega)]
        simp only [Option.bind_some]
        by_cases hy : 0 ≤ hex y
        · rw [decide_eq_true (by omega), ref_percent_j1_true k s acc i x y hs hl h1 h2 hx hy (by omega), ih (d - 3) (by omega) (i + 3) _ (by omega) (by simp; omega) k (by omega), percent_mark hc h1 h2 (by omega) hx hy]
          simp
        · rw [decide_eq_false (by omega)]
          exact one (percent_one hc (.inr (.inr ⟨x, y, h1, h2, .inr (by omega)⟩)))
      · rw [if_neg (by omega)]
        exact one (percent_one hc (.inr (.inr ⟨x, y, h1, h2, .inl (by omega)⟩)))
    · rw [if_neg (by omega)]
      exact one (percent_one hc (.inr (.inl (by rw [← Lib.size_eq]; omega))))
  · rw [if_neg h37]
    exact one (percent_one hc (.inl (by omega)))
theorem ref_percent (s : ByteArray) (hs : s.size ≤ 1000000) : ∀ k, 3000000 < k → boltingref09_Percent.f k s = some (mkS (percent s.data.toList)) := by
  intro k hk
  have := ref_percent_l0 s hs s.size 0 [] (by omega) (by simp) k (by omega)
  simpa [boltingref09_Percent.f, toI] using this
theorem ref_source (s : ByteArray) (hs : s.size ≤ 1000000) : ∀ k, 3000000 < k → boltingref09_Source.f k s = some (mkS ((source s.data.toList).getD []), (source s.data.toList).isSome) := by
  intro k hk
  unfold boltingref09_Source.f
  have hst := strip_le s.data.toList
  rw [← Lib.size_eq] at hst
  rw [ref_scheme s hs k hk]
  simp only [Option.bind_some, mkS_toList]
  unfold source script
  by_cases hj : (scheme s.data.toList).getD [] = js
  · rw [if_pos (show (scheme s.data.toList).getD [] = [106, 97, 118, 97, 115, 99, 114, 105, 112, 116] from hj), ref_strip s hs k hk, if_pos (by rw [hj]; decide)]
    simp only [Option.bind_some]
    rw [ref_colon (mkS (strip s.data.toList)) (by rw [mkS_size]; omega) k hk]
    simp only [Option.bind_some, mkS_list]
    rcases colon_scheme s.data.toList with ⟨h1, h2⟩ | ⟨h1, h2⟩
    · rw [h2] at hj; cases hj
    · have hcon : (strip s.data.toList).contains 58 = true := by
        unfold scheme at h2
        split at h2
        · rename_i h3
          simp only [Bool.and_eq_true] at h3
          exact h3.1
        · cases h2
      have hlt := bef_lt hcon
      rw [h1, wrap_id (by omega) (by omega), if_pos (by omega), if_pos (by rw [mkS_size]; omega)]
      have he : (mkS (strip s.data.toList)).extract (((bef 58 (strip s.data.toList)).length : Int) + 1).toNat (mkS (strip s.data.toList)).size = mkS (aft 58 (strip s.data.toList)) := by
        rw [extract_suf, mkS_list, ← aft_drop]
        rfl
      have hal := aft_le 58 (strip s.data.toList)
      rw [he, ref_percent _ (by rw [mkS_size]; omega) k hk]
      rfl
  · rw [if_neg (show ¬ (scheme s.data.toList).getD [] = [106, 97, 118, 97, 115, 99, 114, 105, 112, 116] from hj), if_neg (by simpa using hj)]
    rfl
end Go.Proofs.Ythnakndpdfgapaa.Pure
