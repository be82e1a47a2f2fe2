/- The row of RunScripts, with what stands under it.. -/
import Derived.Test.YtakhldahohooiaaJRunScripts5
import Derived.Test.YtakhldahohooiaaRows
import Derived.Test.YtakhldahohooiaaJRunScripts4
import Derived.Test.YtakhldahohooiaaJRunScripts2
import Derived.Test.YtakhldahohooiaaJRunScripts3
import Derived.Deep.CondSized
import Derived.WalkKit
import Derived.ProofKit
import Derived.OpenShut
import Derived.ShutString
import Derived.ChangeOld
import Derived.Below
import Derived.SizedLaws
/- The reference's functions of layers 9 and 10, in chapter 19: plain Lean over the printed functions. -/
namespace Go.Proofs.Ytakhldahohooiaa.Pure
set_option linter.unusedVariables false
set_option linter.unusedSimpArgs false
open Go.RowKit Go.Proofs.Ytakhldahohooiaa.Pr Go.Proofs.YtakhldahohooiaaW.PrintWords Go.Proofs.YtakhldahohooiaaW.PrintLast Go.Proofs.YtakhldahohooiaaW.PrintMore

theorem ref_strip_l1 (s : ByteArray) (e : Nat) (he : e ≤ s.size) (hs : s.size ≤ 1100000) : ∀ (d i : Nat) (acc : List UInt8), i + d = e → acc.length ≤ i → ∀ k, d < k →
    boltingref09_Strip.l1 k s ((e : Int) - 1) (toI acc) (i : Int) = some (mkS (acc ++ (((s.data.toList.drop i).take d).filter keep)))
  | 0, i, acc, h, hl, k, hk => by
    obtain ⟨k, rfl⟩ : ∃ m, k = m + 1 := ⟨k - 1, by omega⟩
    simp only [boltingref09_Strip.l1]
    rw [if_neg (by omega), str_toI]
    simp
  | d + 1, i, acc, h, hl, k, hk => by
    obtain ⟨k, rfl⟩ : ∃ m, k = m + 1 := ⟨k - 1, by omega⟩
    obtain ⟨c, hc⟩ := at_some s (show i < s.size by omega)
    simp only [boltingref09_Strip.l1]
    rw [if_pos (by omega), if_pos (by omega), if_pos (by omega), bt_c hc, wrap_succ (by omega) (by omega)]
    have hd : (s.data.toList.drop i).take (d + 1) = c :: (s.data.toList.drop (i + 1)).take d := by rw [drop_one hc]; rfl
    rw [hd, List.filter_cons]
    have e1 : ((i : Int) + 1) = ((i + 1 : Nat) : Int) := by omega
    rw [e1]
    by_cases k9 : c.toNat = 9
    · rw [if_pos (by omega), if_neg (by simp [keep, k9])]
      exact ref_strip_l1 s e he hs d (i + 1) acc (by omega) (by omega) k (by omega)
    by_cases k10 : c.toNat = 10
    · rw [if_neg (by omega), if_pos (by omega), if_neg (by simp [keep, k10])]
      exact ref_strip_l1 s e he hs d (i + 1) acc (by omega) (by omega) k (by omega)
    by_cases k13 : c.toNat = 13
    · rw [if_neg (by omega), if_neg (by omega), if_pos (by omega), if_neg (by simp [keep, k13])]
      exact ref_strip_l1 s e he hs d (i + 1) acc (by omega) (by omega) k (by omega)
    rw [if_neg (by omega), if_neg (by omega), if_neg (by omega), if_pos (by rw [toI_len]; omega), toI_snoc, if_pos (by simp [keep, k9, k10, k13])]
    have := ref_strip_l1 s e he hs d (i + 1) (acc ++ [c]) (by omega) (by simp; omega) k (by omega)
    rw [this]
    simp
theorem strip_parts (l : List UInt8) : (lead ws l = l.length ∧ strip l = [] ∧ tail ws l = 0) ∨ (lead ws l < l.length ∧ lead ws l ≤ tail ws l ∧ strip l = ((l.drop (lead ws l)).take (tail ws l - lead ws l)).filter keep) := by
  have hle := lead_le ws l
  rcases Nat.lt_or_ge (lead ws l) l.length with h | h
  · refine .inr ⟨h, ?_⟩
    have hsplit : l = l.take (lead ws l) ++ l.drop (lead ws l) := (List.take_append_drop _ _).symm
    obtain ⟨c, hc⟩ : ∃ c, l[lead ws l]? = some c := ⟨_, List.getElem?_eq_getElem h⟩
    have hnc := lead_stop_at ws l c hc
    have hne : rcut ws (l.drop (lead ws l)) ≠ [] := by
      rw [Ne, rcut_nil_iff]
      rw [drop_one hc]
      unfold lead
      simp [List.takeWhile_cons, hnc]
    have hr : rcut ws l = l.take (lead ws l) ++ rcut ws (l.drop (lead ws l)) := by
      conv => lhs; rw [hsplit]
      rw [rcut_append, if_neg hne]
    have ht : tail ws l = lead ws l + tail ws (l.drop (lead ws l)) := by
      unfold tail
      rw [hr]
      simp
      omega
    refine ⟨by omega, ?_⟩
    unfold strip
    rw [← drop_lead, rcut_take ws (l.drop (lead ws l))]
    rw [show tail ws l - lead ws l = tail ws (l.drop (lead ws l)) by omega]
  · have he : lead ws l = l.length := by omega
    refine .inl ⟨he, ?_, ?_⟩
    · unfold strip
      rw [← drop_lead, he]
      simp [rcut_nil]
    · unfold tail
      rw [rcut_nil_iff.2 he]; rfl
theorem ref_strip_l0 (s : ByteArray) (hs : s.size ≤ 1100000) : ∀ (d i : Nat), i + d = s.size → ∀ k, d + s.size + 1 < k →
    boltingref09_Strip.l0 k s (F (s.data.toList.take i)) (T (s.data.toList.take i)) (i : Int) = some (mkS (strip s.data.toList))
  | 0, i, h, k, hk => by
    obtain ⟨k, rfl⟩ : ∃ m, k = m + 1 := ⟨k - 1, by omega⟩
    simp only [boltingref09_Strip.l0]
    rw [if_neg (by omega), List.take_of_length_le (by rw [← Lib.size_eq]; omega)]
    rcases strip_parts s.data.toList with ⟨h1, h2, h3⟩ | ⟨h1, h2, h3⟩
    · unfold F T
      rw [if_pos h1, h3, h2]
      have := ref_strip_l1 s 0 (Nat.zero_le _) hs 0 0 [] rfl (Nat.le_refl _) k (by omega)
      simpa [mx, toI] using this
    · unfold F T
      rw [if_neg (by omega), h3]
      have htl := tail_le ws s.data.toList
      rw [← Lib.size_eq] at htl
      have := ref_strip_l1 s (tail ws s.data.toList) htl hs (tail ws s.data.toList - lead ws s.data.toList) (lead ws s.data.toList) [] (by omega) (Nat.zero_le _) k (by omega)
      rw [show mx 0 ((lead ws s.data.toList : Nat) : Int) = ((lead ws s.data.toList : Nat) : Int) by unfold mx; split <;> omega]
      simpa [toI] using this
  | d + 1, i, h, k, hk => by
    obtain ⟨k, rfl⟩ : ∃ m, k = m + 1 := ⟨k - 1, by omega⟩
    obtain ⟨c, hc⟩ := at_some s (show i < s.size by omega)
    have hlen : (s.data.toList.take i).length = i := by rw [List.length_take, ← Lib.size_eq]; omega
    have ih := ref_strip_l0 s hs d (i + 1) (by omega) k (by omega)
    rw [take_succ' hc] at ih
    simp only [boltingref09_Strip.l0]
    rw [if_pos (by omega), if_pos (by omega), bt_c hc, wrap_succ (by omega) (by omega), show ((i : Int) + 1) = ((i + 1 : Nat) : Int) by omega]
    by_cases hw : c.toNat ≤ 32
    · have hws : ws c = true := by simpa [ws] using hw
      rw [if_neg (by omega)]
      rwa [F_ws hws, T_ws hws] at ih
    · have hws : ws c = false := by simpa [ws] using hw
      rw [if_pos (by omega)]
      rw [F_non hws, T_non hws, hlen] at ih
      by_cases hf : F (s.data.toList.take i) < 0
      · rw [if_pos hf]
        rwa [if_pos hf] at ih
      · rw [if_neg hf]
        rwa [if_neg hf] at ih
theorem ref_strip (s : ByteArray) (hs : s.size ≤ 1100000) : ∀ k, 4000000 < k → boltingref09_Strip.f k s = some (mkS (strip s.data.toList)) := by
  intro k hk
  have := ref_strip_l0 s hs s.size 0 (by omega) k (by omega)
  simpa [F, T, lead, tail, rcut_nil, boltingref09_Strip.f] using this
theorem letter_f (c : Int) : boltingref02_Letter.f c = some (letterI c) := by
  unfold boltingref02_Letter.f letterI
  repeat' split
  all_goals
    congr 1
    rw [Bool.eq_iff_iff]
    simp only [Bool.or_eq_true, decide_eq_true_eq, eq_self, true_iff, Bool.false_eq_true, false_iff]
    omega
theorem inScheme_iff {c : UInt8} : inScheme c = true ↔ letter c = true ∨ (48 ≤ c.toNat ∧ c.toNat ≤ 57) ∨ c.toNat = 43 ∨ c.toNat = 45 ∨ c.toNat = 46 := by
  unfold inScheme
  simp only [Bool.or_eq_true, decide_eq_true_eq, or_assoc]
theorem ref_colon_j1 (k : Nat) (s : ByteArray) (i : Int) (c : UInt8) :
    boltingref09_colon.j1 (k + 1) s i (c.toNat : Int) false = if letter c = true ∨ (i ≠ 0 ∧ inScheme c = true) then boltingref09_colon.l0 k s (wrap64 (i + 1)) else some (-1) := by
  simp only [boltingref09_colon.j1, letter_f, Option.bind_some, Bool.false_eq_true, if_false]
  show (if letter c = true then _ else _) = _
  by_cases hl : letter c = true
  · rw [if_pos hl, if_pos (Or.inl hl)]
  · rw [if_neg hl]
    by_cases hin : inScheme c = true
    · have h' := (inScheme_iff.1 hin).resolve_left hl
      by_cases hi : i = 0
      · have hR : ¬ (letter c = true ∨ (i ≠ 0 ∧ inScheme c = true)) := fun h => h.elim hl (fun h => h.1 hi)
        rw [if_pos hi, if_neg hR]
      · have hR : letter c = true ∨ (i ≠ 0 ∧ inScheme c = true) := Or.inr ⟨hi, hin⟩
        rw [if_neg hi, if_pos hR]
        repeat' split
        all_goals first | rfl | (exfalso; omega)
    · have h' : ¬ ((48 ≤ c.toNat ∧ c.toNat ≤ 57) ∨ c.toNat = 43 ∨ c.toNat = 45 ∨ c.toNat = 46) := fun h => hin (inScheme_iff.2 (.inr h))
      have hR : ¬ (letter c = true ∨ (i ≠ 0 ∧ inScheme c = true)) := fun h => h.elim hl (fun h => hin h.2)
      rw [if_neg hR]
      repeat' split
      all_goals first | rfl | (exfalso; omega)
/-- From behind the first byte on. -/
def colF : List UInt8 → Nat → Int
  | [], _ => -1
  | c :: t, i => if c = 58 then i else if inScheme c then colF t (i + 1) else -1
theorem colF_eq : ∀ (l : List UInt8) (i : Nat), colF l i = if l.contains 58 && (bef 58 l).all inScheme then ((i + (bef 58 l).length : Nat) : Int) else -1
  | [], i => by simp [colF]
  | c :: t, i => by
    unfold colF
    by_cases hc : c = 58
    · subst hc; simp [bef]
    · have h2 : (c != 58) = true := by simpa using hc
      have h3 : (c :: t).contains 58 = t.contains 58 := by rw [List.contains_cons]; simp [Ne.symm hc]
      rw [if_neg hc, h3, colF_eq t (i + 1)]
      have hb : bef 58 (c :: t) = c :: bef 58 t := by unfold bef; simp [List.takeWhile_cons, hc]
      rw [hb, List.all_cons]
      cases hin : inScheme c with
      | true =>
        simp only [if_true, Bool.true_and, List.length_cons]
        split
        · congr 1; omega
        · rfl
      | false => simp
theorem ref_colon_l0 (s : ByteArray) (hs : s.size ≤ 1100000) : ∀ (d i : Nat), i + d = s.size → 1 ≤ i → ∀ k, 2 * d + 1 < k → boltingref09_colon.l0 k s (i : Int) = some (colF (s.data.toList.drop i) i)
  | 0, i, h, hi, k, hk => by
    obtain ⟨k, rfl⟩ : ∃ m, k = m + 1 := ⟨k - 1, by omega⟩
    simp only [boltingref09_colon.l0]
    rw [if_neg (by omega), List.drop_of_length_le (by rw [← Lib.size_eq]; omega)]
    rfl
  | d + 1, i, h, hi, k, hk => by
    obtain ⟨k, rfl⟩ : ∃ m, k = m + 2 := ⟨k - 2, by omega⟩
    obtain ⟨c, hc⟩ := at_some s (show i < s.size by omega)
    simp only [boltingref09_colon.l0]
    rw [if_pos (by omega), if_pos (by omega), bt_c hc, drop_one hc]
    unfold colF
    by_cases h58 : c = 58
    · subst h58
      rw [if_pos rfl, if_pos (by rfl)]
      simp only [boltingref09_colon.j1]
      rw [if_pos (by simp; omega)]
    · have hn : ¬ (c.toNat : Int) = 58 := by
        intro e
        exact h58 (UInt8.toNat_inj.1 (by show c.toNat = 58; omega))
      rw [if_neg hn, if_neg h58, ref_colon_j1, wrap_succ (by omega) (by omega), show ((i : Int) + 1) = ((i + 1 : Nat) : Int) by omega]
      rw [ref_colon_l0 s hs d (i + 1) (by omega) (by omega) k (by omega)]
      by_cases hin : inScheme c = true
      · rw [if_pos (.inr ⟨by omega, hin⟩), if_pos hin]
      · rw [if_neg (by rw [inScheme_iff] at hin ⊢; intro h; rcases h with h | h; exact hin (.inl h); exact hin h.2), if_neg hin]
/-- Where a scheme's colon stands. -/
def colon (l : List UInt8) : Int := if l.contains 58 && okName (bef 58 l) then ((bef 58 l).length : Int) else -1
theorem ref_colon (s : ByteArray) (hs : s.size ≤ 1100000) : ∀ k, 4000000 < k → boltingref09_colon.f k s = some (colon s.data.toList) := by
  intro k hk
  unfold boltingref09_colon.f
  obtain ⟨k, rfl⟩ : ∃ m, k = m + 2 := ⟨k - 2, by omega⟩
  simp only [boltingref09_colon.l0]
  cases hd : s.data.toList with
  | nil =>
    have : s.size = 0 := by rw [Lib.size_eq, hd]; rfl
    rw [if_neg (by omega)]
    rfl
  | cons c t =>
    have hsz : s.size = t.length + 1 := by rw [Lib.size_eq, hd]; rfl
    have hc : s.data.toList[0]? = some c := by rw [hd]; rfl
    rw [if_pos (by omega), if_pos (by omega), show ((0 : Int)) = ((0 : Nat) : Int) from rfl, bt_c hc]
    have hn : (decide (((0 : Nat) : Int) > ((0 : Nat) : Int))) = false := by decide
    rw [hn, ite_self, ref_colon_j1]
    have hl := ref_colon_l0 s hs t.length 1 (by omega) (by omega) k (by omega)
    rw [hd] at hl
    simp only [List.drop_succ_cons, List.drop_zero] at hl
    rw [wrap_succ (by omega) (by omega), show (((0 : Nat) : Int) + 1) = ((1 : Nat) : Int) by omega, hl]
    unfold colon
    by_cases h58 : c = 58
    · subst h58
      have : letter 58 = false := by decide
      simp [this, bef, okName]
    · have hb : bef 58 (c :: t) = c :: bef 58 t := by unfold bef; simp [List.takeWhile_cons, h58]
      have h3 : (c :: t).contains 58 = t.contains 58 := by rw [List.contains_cons]; simp [Ne.symm h58]
      rw [hb, h3, colF_eq]
      unfold okName
      cases hlt : letter c with
      | true =>
        have hin : inScheme c = true := inScheme_iff.2 (.inl hlt)
        simp only [true_or, if_true, List.all_cons, hin, hlt, Bool.true_and, List.length_cons]
        congr 1
        split
        · omega
        · rfl
      | false => simp [hlt]

theorem colon_scheme (l : List UInt8) : (colon (strip l) < 0 ∧ scheme l = none) ∨ (colon (strip l) = (bef 58 (strip l)).length ∧ scheme l = some (lower (bef 58 (strip l)))) := by
  unfold colon scheme
  split
  · exact .inr ⟨rfl, rfl⟩
  · exact .inl ⟨by omega, rfl⟩
theorem mkS_extract (l : List UInt8) (n : Nat) : (mkS l).extract 0 n = mkS (l.take n) := by rw [extract_pre]; rfl
theorem ref_scheme (s : ByteArray) (hs : s.size ≤ 1100000) : ∀ k, 4000000 < k → boltingref09_Scheme.f k s = some (mkS ((scheme s.data.toList).getD []), (scheme s.data.toList).isSome) := by
  intro k hk
  unfold boltingref09_Scheme.f
  have hst := strip_le s.data.toList
  rw [← Lib.size_eq] at hst
  rw [ref_strip s hs k hk]
  simp only [Option.bind_some]
  rw [ref_colon (mkS (strip s.data.toList)) (by rw [mkS_size]; omega) k hk]
  simp only [Option.bind_some, mkS_list]
  rcases colon_scheme s.data.toList with ⟨h1, h2⟩ | ⟨h1, h2⟩
  · rw [if_pos h1, h2]
    rfl
  · have hbl := bef_le 58 (strip s.data.toList)
    rw [h1, h2, if_neg (by omega), if_pos (by omega), if_pos (by rw [mkS_size]; omega)]
    simp only [Int.toNat_natCast]
    rw [mkS_extract, bef_take]
    have : boltingref02_Lower.f (mkS (bef 58 (strip s.data.toList))) = some (mkS (lower (bef 58 (strip s.data.toList)))) := bnd_of _ (by rw [mkS_size]; omega)
    rw [this]
    rfl

theorem ref_digit (c : UInt8) : ∀ k, 2 < k → boltingref09_digit.f k (c.toNat : Int) = some (hex c) := by
  intro k hk
  obtain ⟨k, rfl⟩ : ∃ m, k = m + 2 := ⟨k - 2, by omega⟩
  have hb := c.toNat_lt
  unfold boltingref09_digit.f hex hexI
  simp only [boltingref09_digit.j0, boltingref09_digit.j1]
  rw [show wrap64 (c.toNat : Int) = (c.toNat : Int) from wrap_id (by omega) (by omega)]
  have w1 : wrap64 ((c.toNat : Int) - 48) = (c.toNat : Int) - 48 := wrap_id (by omega) (by omega)
  have w2 : wrap64 ((c.toNat : Int) - 87) = (c.toNat : Int) - 87 := wrap_id (by omega) (by omega)
  have w3 : wrap64 ((c.toNat : Int) - 55) = (c.toNat : Int) - 55 := wrap_id (by omega) (by omega)
  rw [w1, w2, w3]
  simp only [decide_eq_true_eq, Bool.false_eq_true, if_false]
  repeat' split
  all_goals first | rfl | (exfalso; omega)
theorem u8_nat {n : Nat} (h : n < 256) : n.toUInt8.toNat = n := by
  show (UInt8.ofNat n).toNat = n
  rw [UInt8.toNat_ofNat']
  omega
theorem ref_percent_j1_true (k : Nat) (s : ByteArray) (acc : List UInt8) (i : Nat) (x y : UInt8) (hs : s.size ≤ 1100000) (hl : acc.length ≤ i) (h1 : s.data.toList[i + 1]? = some x) (h2 : s.data.toList[i + 2]? = some y) (hx : 0 ≤ hex x) (hy : 0 ≤ hex y) (hk : 2 < k) :
    boltingref09_Percent.j1 (k + 1) s (toI acc) (i : Int) true = boltingref09_Percent.l0 k s (toI (acc ++ [(16 * hex x + hex y).toNat.toUInt8])) ((i + 3 : Nat) : Int) := by
  have i1 := at_lt h1
  have i2 := at_lt h2
  have rx := hexI_range (x.toNat : Int)
  have ry := hexI_range (y.toNat : Int)
  have rx' : hex x ≤ 15 := rx.2
  have ry' : hex y ≤ 15 := ry.2
  clear rx ry
  simp only [boltingref09_Percent.j1, if_true]
  have w1 : wrap64 ((i : Int) + 1) = ((i + 1 : Nat) : Int) := by rw [wrap_id (by omega) (by omega)]; omega
  have w2 : wrap64 ((i : Int) + 2) = ((i + 2 : Nat) : Int) := by rw [wrap_id (by omega) (by omega)]; omega
  have w3 : wrap64 (((i + 2 : Nat) : Int) + 1) = ((i + 3 : Nat) : Int) := by rw [wrap_id (by omega) (by omega)]; omega
  rw [w1, w2, w3, if_pos (by omega), if_pos (by omega), bt_c h1, bt_c h2, ref_digit x k hk]
  simp only [Option.bind_some]
  rw [if_pos (by omega), if_pos (by omega), ref_digit y k hk]
  simp only [Option.bind_some]
  have w4 : wrap64 (16 * hex x) = 16 * hex x := wrap_id (by omega) (by omega)
  have w5 : wrap64 (16 * hex x + hex y) = 16 * hex x + hex y := wrap_id (by omega) (by omega)
  rw [if_pos (by rw [toI_len]; omega), w4, w5]
  have hb : ((16 * hex x + hex y) % 256 : Int) = (((16 * hex x + hex y).toNat.toUInt8).toNat : Int) := by
    rw [u8_nat (by omega)]
    omega
  rw [hb, toI_snoc]
theorem ref_percent_j1_false (k : Nat) (s : ByteArray) (acc : List UInt8) (i : Nat) (c : UInt8) (hs : s.size ≤ 1100000) (hl : acc.length ≤ i) (h0 : s.data.toList[i]? = some c) :
    boltingref09_Percent.j1 (k + 1) s (toI acc) (i : Int) false = boltingref09_Percent.l0 k s (toI (acc ++ [c])) ((i + 1 : Nat) : Int) := by
  have i0 := at_lt h0
  simp only [boltingref09_Percent.j1, Bool.false_eq_true, if_false]
  rw [if_pos (by omega), if_pos (by omega), if_pos (by rw [toI_len]; omega), bt_c h0, toI_snoc, wrap_succ (by omega) (by omega)]
  rfl
theorem ref_percent_l0 (s : ByteArray) (hs : s.size ≤ 1100000) : ∀ (d i : Nat) (acc : List UInt8), i + d = s.size → acc.length ≤ i → ∀ k, 2 * d + 5 < k →
    boltingref09_Percent.l0 k s (toI acc) (i : Int) = some (mkS (acc ++ percent (s.data.toList.drop i))) := by
  intro d
  induction d using Nat.strongRecOn with
  | _ d ih =>
  intro i acc h hl k hk
  obtain ⟨k, rfl⟩ : ∃ m, k = m + 2 := ⟨k - 2, by omega⟩
  simp only [boltingref09_Percent.l0]
  by_cases hd : d = 0
  · rw [if_neg (by omega), List.drop_of_length_le (by rw [← Lib.size_eq]; omega), str_toI, percent_short [] (by simp)]
    simp
  obtain ⟨c, hc⟩ := at_some s (show i < s.size by omega)
  rw [if_pos (by omega), if_pos (by omega), bt_c hc]
  have w1 : wrap64 ((i : Int) + 1) = ((i + 1 : Nat) : Int) := by rw [wrap_id (by omega) (by omega)]; omega
  have w2 : wrap64 ((i : Int) + 2) = ((i + 2 : Nat) : Int) := by rw [wrap_id (by omega) (by omega)]; omega
  rw [w1, w2]
  have one := fun (hp : percent (s.data.toList.drop i) = c :: percent (s.data.toList.drop (i + 1))) => show boltingref09_Percent.j1 (k + 1) s (toI acc) (i : Int) false = some (mkS (acc ++ percent (s.data.toList.drop i))) by
    rw [ref_percent_j1_false k s acc i c hs hl hc, ih (d - 1) (by omega) (i + 1) (acc ++ [c]) (by omega) (by simp; omega) k (by omega), hp]
    simp
  by_cases h37 : (c.toNat : Int) = 37
  · rw [if_pos h37]
    by_cases hlen : i + 2 < s.size
    · rw [if_pos (by omega), if_pos (by omega), if_pos (by omega)]
      obtain ⟨x, h1⟩ := at_some s (show i + 1 < s.size by omega)
      obtain ⟨y, h2⟩ := at_some s (show i + 2 < s.size by omega)
      rw [bt_c h1, bt_c h2, ref_digit x (k + 1) (by omega)]
      simp only [Option.bind_some]
      by_cases hx : 0 ≤ hex x
      · rw [if_pos (by omega), if_pos (by omega), ref_digit y (k + 1) (by omega)]
        simp only [Option.bind_some]
        by_cases hy : 0 ≤ hex y
        · rw [decide_eq_true (by omega), ref_percent_j1_true k s acc i x y hs hl h1 h2 hx hy (by omega), ih (d - 3) (by omega) (i + 3) _ (by omega) (by simp; omega) k (by omega), percent_mark hc h1 h2 (by omega) hx hy]
          simp
        · rw [decide_eq_false (by omega)]
          exact one (percent_one hc (.inr (.inr ⟨x, y, h1, h2, .inr (by omega)⟩)))
      · rw [if_neg (by omega)]
        exact one (percent_one hc (.inr (.inr ⟨x, y, h1, h2, .inl (by omega)⟩)))
    · rw [if_neg (by omega)]
      exact one (percent_one hc (.inr (.inl (by rw [← Lib.size_eq]; omega))))
  · rw [if_neg h37]
    exact one (percent_one hc (.inl (by omega)))
theorem ref_percent (s : ByteArray) (hs : s.size ≤ 1100000) : ∀ k, 4000000 < k → boltingref09_Percent.f k s = some (mkS (percent s.data.toList)) := by
  intro k hk
  have := ref_percent_l0 s hs s.size 0 [] (by omega) (by simp) k (by omega)
  simpa [boltingref09_Percent.f, toI] using this
theorem ref_source (s : ByteArray) (hs : s.size ≤ 1100000) : ∀ k, 4000000 < k → boltingref09_Source.f k s = some (mkS ((source s.data.toList).getD []), (source s.data.toList).isSome) := by
  intro k hk
  unfold boltingref09_Source.f
  have hst := strip_le s.data.toList
  rw [← Lib.size_eq] at hst
  rw [ref_scheme s hs k hk]
  simp only [Option.bind_some, mkS_toList]
  unfold source script
  by_cases hj : (scheme s.data.toList).getD [] = js
  · rw [if_pos (show (scheme s.data.toList).getD [] = [106, 97, 118, 97, 115, 99, 114, 105, 112, 116] from hj), ref_strip s hs k hk, if_pos (by rw [hj]; decide)]
    simp only [Option.bind_some]
    rw [ref_colon (mkS (strip s.data.toList)) (by rw [mkS_size]; omega) k hk]
    simp only [Option.bind_some, mkS_list]
    rcases colon_scheme s.data.toList with ⟨h1, h2⟩ | ⟨h1, h2⟩
    · rw [h2] at hj; cases hj
    · have hcon : (strip s.data.toList).contains 58 = true := by
        unfold scheme at h2
        split at h2
        · rename_i h3
          simp only [Bool.and_eq_true] at h3
          exact h3.1
        · cases h2
      have hlt := bef_lt hcon
      rw [h1, wrap_id (by omega) (by omega), if_pos (by omega), if_pos (by rw [mkS_size]; omega)]
      have he : (mkS (strip s.data.toList)).extract (((bef 58 (strip s.data.toList)).length : Int) + 1).toNat (mkS (strip s.data.toList)).size = mkS (aft 58 (strip s.data.toList)) := by
        rw [extract_suf, mkS_list, ← aft_drop]
        rfl
      have hal := aft_le 58 (strip s.data.toList)
      rw [he, ref_percent _ (by rw [mkS_size]; omega) k hk]
      rfl
  · rw [if_neg (show ¬ (scheme s.data.toList).getD [] = [106, 97, 118, 97, 115, 99, 114, 105, 112, 116] from hj), if_neg (by simpa using hj)]
    rfl
theorem handler_two {s : ByteArray} {c d : UInt8} {t : List UInt8} (h : dat s = c :: d :: t) : Lib.hasPrefix (dat s) [111, 110] = decide (c = 111 ∧ d = 110) := by
  unfold Lib.hasPrefix
  rw [h, isPrefix_take, decide_eq_decide]
  simp
theorem toNat_eq {c : UInt8} {n : Nat} (h : n < 256) : ((c.toNat : Int) = (n : Int)) ↔ c = n.toUInt8 := by
  constructor
  · intro e
    apply UInt8.toNat_inj.1
    have : n.toUInt8.toNat = n := by simp [Nat.toUInt8, UInt8.toNat, UInt8.ofNat]; omega
    rw [this]; omega
  · intro e
    subst e
    have : n.toUInt8.toNat = n := by simp [Nat.toUInt8, UInt8.toNat, UInt8.ofNat]; omega
    rw [this]
theorem rhandler_f (s : ByteArray) : boltingref10_Handler.f s = some (handlerB s) := by
  unfold boltingref10_Handler.f handlerB
  by_cases h : (s.size : Int) > 2
  · rw [if_pos h, if_pos (by omega), decide_eq_true (show 2 < s.size by omega), Bool.and_true]
    rcases hd : dat s with _ | ⟨c, _ | ⟨d, t⟩⟩
    · have := dat_len s; rw [hd] at this; simp at this; omega
    · have := dat_len s; rw [hd] at this; simp at this; omega
    · have b0 : bt s 0 = (c.toNat : Int) := bt_c (k := 0) (by show (dat s)[0]? = _; rw [hd]; rfl)
      have b1 : bt s 1 = (d.toNat : Int) := bt_c (k := 1) (by show (dat s)[1]? = _; rw [hd]; rfl)
      have hh := handler_two hd
      rw [show Lib.hasPrefix s.data.toList [111, 110] = decide (c = 111 ∧ d = 110) from hh, b0, b1]
      have e0 := toNat_eq (c := c) (n := 111) (by omega)
      have e1 := toNat_eq (c := d) (n := 110) (by omega)
      by_cases hc : (c.toNat : Int) = 111
      · rw [if_pos hc, if_pos (by omega)]
        refine congrArg some ?_
        rw [Bool.eq_iff_iff, beq_iff_eq, decide_eq_true_eq]
        exact ⟨fun g => ⟨e0.1 hc, e1.1 g⟩, fun g => e1.2 g.2⟩
      · rw [if_neg hc]
        refine congrArg some (Eq.symm (decide_eq_false ?_))
        exact fun g => hc (e0.2 g.1)
  · rw [if_neg h, decide_eq_false (show ¬ 2 < s.size by omega), Bool.and_false]

theorem rd_at {l : List ByteArray} {i : Nat} {x : ByteArray} (h : l[i]? = some x) : rdOf ByteArray.empty l (i : Int) = x := by
  unfold rdOf
  rw [Int.toNat_natCast, List.getD_eq_getElem?_getD, h]
  rfl
theorem has_l0 (l : List ByteArray) (s : ByteArray) (hl : l.length ≤ 4000000000000000000) : ∀ (d i : Nat), i + d = l.length → ∀ k, d < k → boltingref02_Has.l0 k l s (i : Int) = some (mem (l.drop i) s)
  | 0, i, h, k, hk => by
    obtain ⟨k, rfl⟩ : ∃ m, k = m + 1 := ⟨k - 1, by omega⟩
    simp only [boltingref02_Has.l0]
    rw [if_neg (by omega), List.drop_of_length_le (by omega)]
    rfl
  | d + 1, i, h, k, hk => by
    obtain ⟨k, rfl⟩ : ∃ m, k = m + 1 := ⟨k - 1, by omega⟩
    obtain ⟨x, hx⟩ := get_some (show i < l.length by omega)
    simp only [boltingref02_Has.l0]
    rw [if_pos (by omega), if_pos (by omega), rd_at hx, drop_at hx]
    show _ = some (decide (x = s) || mem (l.drop (i + 1)) s)
    by_cases e : x = s
    · subst e; rw [if_pos rfl]; simp
    · rw [if_neg (fun g => e (dat_inj (by rw [← toList_dat, ← toList_dat]; exact g))), wrap_succ (by omega) (by omega), decide_eq_false e, Bool.false_or]
      exact has_l0 l s hl d (i + 1) (by omega) k (by omega)
theorem has_f (l : List ByteArray) (s : ByteArray) (hl : l.length ≤ 4000000000000000000) {k : Nat} (hk : l.length < k) : boltingref02_Has.f k l s = some (mem l s) :=
  has_l0 l s hl l.length 0 (by omega) k hk
def plain (l : List UInt8) : Bool := l.all fun c => decide (c ≠ 32)
theorem plain_l0 (s : ByteArray) (hs : s.size ≤ 4000000000000000000) : ∀ (d i : Nat), i + d = s.size → ∀ k, d < k → boltingref10_plain.l0 k s (i : Int) = some (plain ((dat s).drop i))
  | 0, i, h, k, hk => by
    obtain ⟨k, rfl⟩ : ∃ m, k = m + 1 := ⟨k - 1, by omega⟩
    simp only [boltingref10_plain.l0]
    rw [if_neg (by omega), List.drop_of_length_le (by rw [dat_len]; omega)]
    rfl
  | d + 1, i, h, k, hk => by
    obtain ⟨k, rfl⟩ : ∃ m, k = m + 1 := ⟨k - 1, by omega⟩
    obtain ⟨c, hc⟩ := at_some s (show i < s.size by omega)
    have hd : (dat s).drop i = c :: (dat s).drop (i + 1) := drop_one hc
    simp only [boltingref10_plain.l0]
    rw [if_pos (by omega), if_pos (by omega), bt_c hc, hd]
    show _ = some (decide (c ≠ 32) && plain ((dat s).drop (i + 1)))
    have e := toNat_eq (c := c) (n := 32) (by omega)
    by_cases g : (c.toNat : Int) = 32
    · rw [if_pos g, decide_eq_false (fun n => n (e.1 g)), Bool.false_and]
    · rw [if_neg g, decide_eq_true (show c ≠ 32 from fun n => g (e.2 n)), Bool.true_and, wrap_succ (by omega) (by omega)]
      exact plain_l0 s hs d (i + 1) (by omega) k (by omega)
theorem plain_f (s : ByteArray) (hs : s.size ≤ 4000000000000000000) {k : Nat} (hk : s.size < k) : boltingref10_plain.f k s = some (plain (dat s)) :=
  plain_l0 s hs s.size 0 (by omega) k hk
/-- A row of the reference's lists tells of a pair. -/
def pairAt (x y z : ByteArray) : Bool := decide (dat z = dat x ++ 32 :: dat y) && !mem [x, y] ByteArray.empty && plain (dat x)
theorem pair_l0 (l : List ByteArray) (x y : ByteArray) (hl : l.length ≤ 1000) (hx : x.size ≤ 140737488355328) (hy : y.size ≤ 140737488355328) : ∀ (d i : Nat), i + d = l.length → ∀ k, d + x.size + 10 < k → boltingref10_pair.l0 k l x y (i : Int) = some ((l.drop i).any (pairAt x y))
  | 0, i, h, k, hk => by
    obtain ⟨k, rfl⟩ : ∃ m, k = m + 1 := ⟨k - 1, by omega⟩
    simp only [boltingref10_pair.l0]
    rw [if_neg (by omega), List.drop_of_length_le (by omega)]
    rfl
  | d + 1, i, h, k, hk => by
    obtain ⟨k, rfl⟩ : ∃ m, k = m + 1 := ⟨k - 1, by omega⟩
    obtain ⟨z, hz⟩ := get_some (show i < l.length by omega)
    have ih := pair_l0 l x y hl hx hy d (i + 1) (by omega) k (by omega)
    have s32 : (⟨#[32]⟩ : ByteArray).size = 1 := rfl
    simp only [boltingref10_pair.l0]
    rw [if_pos (by omega), if_pos (by omega), if_pos (by omega), if_pos (by rw [ByteArray.size_append, s32]; omega), rd_at hz, drop_at hz, List.any_cons, wrap_succ (by omega) (by omega)]
    have e : (z.toList = (x ++ (⟨#[32]⟩ : ByteArray) ++ y).toList) = (dat z = dat x ++ 32 :: dat y) := by
      rw [toList_dat, toList_dat, dat_app, dat_app, List.append_assoc]
      rfl
    rw [has_f _ _ (by simp) (by show 2 < k; omega), plain_f x (by omega) (by omega)]
    simp only [Option.bind_some]
    rw [show ((i : Int) + 1) = ((i + 1 : Nat) : Int) by omega, ih]
    generalize (l.drop (i + 1)).any (pairAt x y) = R
    have hp : pairAt x y z = (decide (dat z = dat x ++ 32 :: dat y) && !mem [x, y] ByteArray.empty && plain (dat x)) := rfl
    rw [hp]
    by_cases g : dat z = dat x ++ 32 :: dat y
    · rw [if_pos (e ▸ g), decide_eq_true g, Bool.true_and]
      show (if mem [x, y] ByteArray.empty = true then _ else _) = _
      cases mem [x, y] ByteArray.empty with
      | true => rw [if_pos rfl]; simp
      | false =>
        rw [if_neg (by simp)]
        cases plain (dat x) with
        | true => rw [if_pos rfl]; rfl
        | false => rw [if_neg (by simp)]; simp
    · rw [if_neg (fun n => g (e ▸ n)), decide_eq_false g]
      simp
theorem pair_f (l : List ByteArray) (x y : ByteArray) (hl : l.length ≤ 1000) (hx : x.size ≤ 140737488355328) (hy : y.size ≤ 140737488355328) {k : Nat} (hk : l.length + x.size + 10 < k) : boltingref10_pair.f k l x y = some (l.any (pairAt x y)) :=
  pair_l0 l x y hl hx hy l.length 0 (by omega) k hk
theorem split32 : ∀ {a b c d : List UInt8}, plain a = true → plain c = true → (a ++ 32 :: b = c ++ 32 :: d ↔ a = c ∧ b = d)
  | [], b, [], d, _, _ => by simp
  | [], b, x :: c, d, _, h => by
    unfold plain at h
    simp at h
    constructor
    · intro e; rw [List.nil_append, List.cons_append] at e; exact absurd (List.cons.inj e).1.symm h.1
    · rintro ⟨e, _⟩; cases e
  | x :: a, b, [], d, h, _ => by
    unfold plain at h
    simp at h
    constructor
    · intro e; rw [List.nil_append, List.cons_append] at e; exact absurd (List.cons.inj e).1 h.1
    · rintro ⟨e, _⟩; cases e
  | x :: a, b, y :: c, d, h, g => by
    have h' : plain a = true := by unfold plain at h ⊢; simp at h ⊢; exact h.2
    have g' : plain c = true := by unfold plain at g ⊢; simp at g ⊢; exact g.2
    rw [List.cons_append, List.cons_append, List.cons.injEq, split32 h' g', List.cons.injEq, and_assoc]
theorem pairAt_eq (x y z e a : ByteArray) (hz : dat z = dat e ++ 32 :: dat a) (he : plain (dat e) = true) (hn : dat e ≠ []) (hm : dat a ≠ []) : pairAt x y z = decide (e = x ∧ a = y) := by
  unfold pairAt
  rw [Bool.eq_iff_iff]
  simp only [Bool.and_eq_true, decide_eq_true_eq, Bool.not_eq_true']
  constructor
  · rintro ⟨⟨h1, h2⟩, h3⟩
    rw [hz, split32 he h3] at h1
    exact ⟨dat_inj h1.1, dat_inj h1.2⟩
  · rintro ⟨rfl, rfl⟩
    refine ⟨⟨hz, ?_⟩, he⟩
    unfold mem
    rw [List.any_eq_false]
    intro v hv
    simp only [List.mem_cons, List.not_mem_nil, or_false] at hv
    simp only [decide_eq_true_eq]
    rcases hv with rfl | rfl
    · rintro rfl; exact hn rfl
    · rintro rfl; exact hm rfl
theorem rnav_f (x y : ByteArray) (hx : x.size ≤ 140737488355328) (hy : y.size ≤ 140737488355328) {k : Nat} (hk : x.size + 100 < k) : boltingref10_Nav.f k x y = some (navB x y) := by
  unfold boltingref10_Nav.f boltingref10_leads.f
  simp only [Option.bind_some]
  rw [pair_f _ x y (by decide) hx hy (by show 9 + x.size + 10 < k; omega)]
  simp only [Option.bind_some]
  refine congrArg some ?_
  unfold navB leadsL
  simp only [List.any_cons, List.any_nil, Bool.or_false]
  unfold isAt
  congr 1
  · exact pairAt_eq x y _ _ _ (by decide) (by decide) (by decide) (by decide)
  congr 1
  · exact pairAt_eq x y _ _ _ (by decide) (by decide) (by decide) (by decide)
  congr 1
  · exact pairAt_eq x y _ _ _ (by decide) (by decide) (by decide) (by decide)
  congr 1
  · exact pairAt_eq x y _ _ _ (by decide) (by decide) (by decide) (by decide)
  congr 1
  · exact pairAt_eq x y _ _ _ (by decide) (by decide) (by decide) (by decide)
  congr 1
  · exact pairAt_eq x y _ _ _ (by decide) (by decide) (by decide) (by decide)
  congr 1
  · exact pairAt_eq x y _ _ _ (by decide) (by decide) (by decide) (by decide)
  congr 1
  · exact pairAt_eq x y _ _ _ (by decide) (by decide) (by decide) (by decide)
  · exact pairAt_eq x y _ _ _ (by decide) (by decide) (by decide) (by decide)
end Go.Proofs.Ytakhldahohooiaa.Pure
/- Trees as rows: which rows stand in a row's tree; parents; rows within a tree that bears a mark. Plain Lean. -/
namespace Go.Proofs.Ytakhldahohooiaa.Tree
set_option linter.unusedVariables false

/-- The depths of right rows. -/
structure RightD (D : Nat → Int) (n : Nat) : Prop where
  root : 0 < n → D 0 = 0
  pos : ∀ i, i < n → 0 ≤ D i
  step : ∀ i, i + 1 < n → D (i + 1) ≤ D i + 1
/-- Row m stands in the tree of row j. -/
def InT (D : Nat → Int) (j m : Nat) : Prop := j ≤ m ∧ ∀ x, j < x → x ≤ m → D j < D x
theorem inT_refl (D : Nat → Int) (m : Nat) : InT D m m := ⟨Nat.le_refl _, fun x h1 h2 => by omega⟩
theorem inT_less {D : Nat → Int} {j m k : Nat} (h : InT D j m) (h1 : j ≤ k) (h2 : k ≤ m) : InT D j k := ⟨h1, fun x a b => h.2 x a (by omega)⟩
/-- Row p is the last one ahead of m that stands one less deep. -/
def IsPar (D : Nat → Int) (m p : Nat) : Prop := p < m ∧ D p = D m - 1 ∧ ∀ x, p < x → x < m → D x ≠ D m - 1
theorem stays {D : Nat → Int} {n m x : Nat} (h : RightD D n) (hm : m < n) (hx : D x ≤ D m - 2) (hn : ∀ y, x ≤ y → y < m → D y ≠ D m - 1) : ∀ k, x + k < m → D (x + k) ≤ D m - 2
  | 0, _ => hx
  | k + 1, hk => by
    have ih := stays h hm hx hn k (by omega)
    have h1 := h.step (x + k) (by omega)
    have h2 := hn (x + (k + 1)) (by omega) hk
    rw [show x + k + 1 = x + (k + 1) by omega] at h1
    omega
theorem climbs {D : Nat → Int} {n m x : Nat} (h : RightD D n) (hm : m < n) (hxm : x < m) (hx : D x ≤ D m - 2) : ∃ y, x ≤ y ∧ y < m ∧ D y = D m - 1 := by
  refine Classical.byContradiction (fun hn => ?_)
  have h1 := stays h hm hx (fun y a b e => hn ⟨y, a, b, e⟩) (m - 1 - x) (by omega)
  rw [show x + (m - 1 - x) = m - 1 by omega] at h1
  have h2 := h.step (m - 1) (by omega)
  rw [show m - 1 + 1 = m by omega] at h2
  omega
theorem par_between {D : Nat → Int} {n m p : Nat} (h : RightD D n) (hm : m < n) (hp : IsPar D m p) : ∀ x, p < x → x < m → D m ≤ D x := by
  intro x h1 h2
  refine Classical.byContradiction (fun hc => ?_)
  have h3 := hp.2.2 x h1 h2
  obtain ⟨y, a, b, e⟩ := climbs h hm h2 (by omega)
  exact hp.2.2 y (by omega) b e
theorem par_none {D : Nat → Int} {n m : Nat} (h : RightD D n) (hm : m < n) (hn : ∀ x, x < m → D x ≠ D m - 1) : D m = 0 := by
  have h0 := h.pos m hm
  refine Classical.byContradiction (fun hc => ?_)
  have hr := h.root (by omega)
  by_cases hz : m = 0
  · subst hz; omega
  · have h1 := hn 0 (by omega)
    obtain ⟨y, a, b, e⟩ := climbs (x := 0) h hm (by omega) (by omega)
    exact hn y b e
theorem inT_par {D : Nat → Int} {n m p : Nat} (h : RightD D n) (hm : m < n) (hp : IsPar D m p) (j : Nat) : InT D j m ↔ j = m ∨ InT D j p := by
  have hb := par_between h hm hp
  obtain ⟨hpm, hpd, _⟩ := hp
  constructor
  · intro hj
    by_cases e : j = m
    · exact .inl e
    · right
      have h1 := hj.1
      by_cases hjp : j ≤ p
      · exact inT_less hj hjp (by omega)
      · have h2 := hb j (by omega) (by omega)
        have h3 := hj.2 m (by omega) (Nat.le_refl _)
        omega
  · rintro (rfl | hj)
    · exact inT_refl D j
    · have h1 := hj.1
      refine ⟨by omega, fun x a b => ?_⟩
      have hjp : D j ≤ D p := by
        by_cases e : j = p
        · rw [e]; exact Int.le_refl _
        · have := hj.2 p (by omega) (Nat.le_refl _); omega
      by_cases c : x ≤ p
      · exact hj.2 x a c
      · by_cases c2 : x < m
        · have := hb x (by omega) c2; omega
        · rw [show x = m by omega]; omega
theorem inT_root {D : Nat → Int} {n m : Nat} (h : RightD D n) (hm : m < n) (h0 : D m = 0) (j : Nat) : InT D j m ↔ j = m := by
  constructor
  · intro hj
    refine Classical.byContradiction (fun e => ?_)
    have h1 := hj.1
    have h2 := hj.2 m (by omega) (Nat.le_refl _)
    have h3 := h.pos j (by omega)
    omega
  · rintro rfl; exact inT_refl D j

/-- Row m stands in the tree of a row that bears the mark. -/
def Marked (T : Nat → Prop) (D : Nat → Int) (m : Nat) : Prop := ∃ j, T j ∧ InT D j m
theorem marked_par {T : Nat → Prop} {D : Nat → Int} {n m p : Nat} (h : RightD D n) (hm : m < n) (hp : IsPar D m p) : Marked T D m ↔ T m ∨ Marked T D p := by
  constructor
  · rintro ⟨j, h1, h2⟩
    rcases (inT_par h hm hp j).1 h2 with rfl | h2
    · exact .inl h1
    · exact .inr ⟨j, h1, h2⟩
  · rintro (h1 | ⟨j, h1, h2⟩)
    · exact ⟨m, h1, inT_refl D m⟩
    · exact ⟨j, h1, (inT_par h hm hp j).2 (.inr h2)⟩
theorem marked_root {T : Nat → Prop} {D : Nat → Int} {n m : Nat} (h : RightD D n) (hm : m < n) (h0 : D m = 0) : Marked T D m ↔ T m := by
  constructor
  · rintro ⟨j, h1, h2⟩
    rw [(inT_root h hm h0 j).1 h2] at h1
    exact h1
  · exact fun h1 => ⟨m, h1, inT_refl D m⟩
/-- e is where the tree of row i ends. -/
structure TEnds (D : Nat → Int) (n i e : Nat) : Prop where
  lt : i < e
  le : e ≤ n
  within : ∀ x, i < x → x < e → D i < D x
  out : e = n ∨ D e ≤ D i
theorem TEnds.inT {D : Nat → Int} {n i e : Nat} (h : TEnds D n i e) {m : Nat} (h1 : i ≤ m) (h2 : m < e) : InT D i m := ⟨h1, fun x a b => h.within x a (by omega)⟩
/-- No row ahead of i that bears the mark has row i in its tree. -/
def Free (T : Nat → Prop) (D : Nat → Int) (i : Nat) : Prop := ∀ j, j < i → T j → ¬ InT D j i
theorem free_zero (T : Nat → Prop) (D : Nat → Int) : Free T D 0 := fun j h => by omega
theorem free_next {T : Nat → Prop} {D : Nat → Int} {i : Nat} (h : Free T D i) (hi : ¬ T i) : Free T D (i + 1) := fun j hj hT hI => by
  by_cases e : j = i
  · rw [e] at hT; exact hi hT
  · exact h j (by omega) hT (inT_less hI (by omega) (by omega))
theorem free_end {T : Nat → Prop} {D : Nat → Int} {n i e : Nat} (h : Free T D i) (he : TEnds D n i e) (hn : e < n) : Free T D e := fun j hj hT hI => by
  have h1 := he.lt
  have ho : D e ≤ D i := by rcases he.out with h2 | h2; omega; exact h2
  by_cases c : j < i
  · exact h j c hT (inT_less hI (by omega) (by omega))
  · have h3 := hI.2 e hj (Nat.le_refl _)
    by_cases c2 : j = i
    · rw [c2] at h3; omega
    · have := he.within j (by omega) hj
      omega
theorem free_not {T : Nat → Prop} {D : Nat → Int} {i : Nat} (h : Free T D i) (hi : ¬ T i) : ¬ Marked T D i := by
  rintro ⟨j, h1, h2⟩
  by_cases e : j = i
  · rw [e] at h1; exact hi h1
  · exact h j (by have := h2.1; omega) h1 h2
theorem marked_in {T : Nat → Prop} {D : Nat → Int} {n i e m : Nat} (he : TEnds D n i e) (hi : T i) (h1 : i ≤ m) (h2 : m < e) : Marked T D m := ⟨i, hi, he.inT h1 h2⟩
end Go.Proofs.Ytakhldahohooiaa.Tree
/- Rows as trees in chapter 19: right rows, parents, ends, texts, values: what the printed functions come to. Plain Lean. -/
namespace Go.Proofs.Ytakhldahohooiaa.Pure
set_option linter.unusedVariables false
set_option linter.unusedSimpArgs false
open Go.RowKit Go.Proofs.Ytakhldahohooiaa.Pr Go.Proofs.Ytakhldahohooiaa.Tree Go.Proofs.YtakhldahohooiaaW.PrintWords Go.Proofs.YtakhldahohooiaaW.PrintLast Go.Proofs.YtakhldahohooiaaW.PrintMore

/-- How deep row j stands. -/
def dep (l : List S34) (j : Nat) : Int := (rd_T34 l (j : Int)).f0
def okAt (l : List S34) (j : Nat) : Prop := 0 ≤ dep l j ∧ dep l j ≤ j ∧ (j = 0 → dep l j = 0) ∧ (0 < j → dep l j ≤ dep l (j - 1) + 1)
theorem right_true_l0 (l : List S34) (hl : l.length ≤ 1000) (d i : Nat) : i + d = l.length → (0 < i → okAt l (i - 1)) → ∀ k, boltingref04_Right.l0 k l (i : Int) = some true → ∀ j, i ≤ j → j < l.length → okAt l j := by
  induction d generalizing i with
  | zero => intro h _ k _ j h1 h2; omega
  | succ d ih =>
    intro h hp k hk j h1 h2
    cases k with
    | zero => simp [boltingref04_Right.l0] at hk
    | succ k =>
      simp only [boltingref04_Right.l0] at hk
      rw [if_pos (by omega), if_pos (by omega)] at hk
      obtain ⟨b, _, hk⟩ := Option.bind_eq_some_iff.1 hk
      -- the join: what it says of row i
      have hj : ∀ b k, boltingref04_Right.j1 k l (i : Int) (rd_T34 l (i : Int)).f0 b = some true → b = false ∧ (0 < i → dep l i ≤ dep l (i - 1) + 1) ∧ ∃ k, boltingref04_Right.l0 k l ((i + 1 : Nat) : Int) = some true := by
        intro b k hk
        cases k with
        | zero => simp [boltingref04_Right.j1] at hk
        | succ k =>
          have hw : wrap64 ((i : Int) + 1) = ((i + 1 : Nat) : Int) := by rw [wrap_succ (by omega) (by omega)]; omega
          simp only [boltingref04_Right.j1] at hk
          rw [hw] at hk
          cases b with
          | true => simp at hk
          | false =>
            rw [if_neg (by simp)] at hk
            refine ⟨rfl, ?_⟩
            by_cases h0 : (i : Int) > 0
            · have hq := hp (by omega)
              have e1 : wrap64 ((i : Int) - 1) = ((i - 1 : Nat) : Int) := by rw [wrap_id (by omega) (by omega)]; omega
              rw [if_pos h0, e1, if_pos (by omega), if_pos (by omega)] at hk
              have e2 : wrap64 ((rd_T34 l ((i - 1 : Nat) : Int)).f0 + 1) = dep l (i - 1) + 1 := wrap_succ (by have := hq.1; show -1 ≤ dep l (i - 1); omega) (by have := hq.2.1; show dep l (i - 1) < _; omega)
              rw [e2] at hk
              split at hk
              · cases hk
              · rename_i hle
                have hle' : dep l i ≤ dep l (i - 1) + 1 := by
                  have : ¬ (dep l i > dep l (i - 1) + 1) := hle
                  omega
                refine ⟨fun _ => hle', ?_⟩
                split at hk
                · split at hk
                  · exact ⟨k, hk⟩
                  · cases hk
                · exact ⟨k, hk⟩
            · rw [if_neg h0] at hk
              exact ⟨fun h => by omega, k, hk⟩
      have hok : okAt l i ∧ ∃ k, boltingref04_Right.l0 k l ((i + 1 : Nat) : Int) = some true := by
        have fin : ∀ b k, (i = 0 → b = false → dep l i = 0) → 0 ≤ dep l i → boltingref04_Right.j1 k l (i : Int) (rd_T34 l (i : Int)).f0 b = some true → okAt l i ∧ ∃ k, boltingref04_Right.l0 k l ((i + 1 : Nat) : Int) = some true := by
          intro b k hb hge hk
          obtain ⟨rfl, h2, h3⟩ := hj b k hk
          refine ⟨⟨hge, ?_, fun h => hb h rfl, h2⟩, h3⟩
          by_cases e : i = 0
          · rw [hb e rfl]; omega
          · have := h2 (by omega)
            have := (hp (by omega)).2.1
            omega
        split at hk
        · split at hk
          · have := (hj _ _ hk).1; cases this
          · rename_i hge
            have hge' : 0 ≤ dep l i := by
              have : ¬ (dep l i < 0) := hge
              omega
            split at hk
            · rename_i h0
              refine fin _ _ (fun _ hb => ?_) hge' hk
              have : ((rd_T34 l (i : Int)).f0 != 0) = false := hb
              simpa [dep] using this
            · rename_i h0
              exact fin _ _ (fun h _ => absurd (by rw [h]; rfl) h0) hge' hk
        · have := (hj _ _ hk).1; cases this
      obtain ⟨hoi, k', hk'⟩ := hok
      by_cases e : j = i
      · rw [e]; exact hoi
      · exact ih (i + 1) (by omega) (fun _ => by simpa using hoi) k' hk' j (by omega) h2
theorem right_true {l : List S34} (hl : l.length ≤ 1000) {k : Nat} (h : boltingref04_Right.f k l = some true) : ∀ j, j < l.length → okAt l j :=
  fun j hj => right_true_l0 l hl l.length 0 (by omega) (fun h => by omega) k h j (Nat.zero_le _) hj
theorem right_D {l : List S34} (h : ∀ j, j < l.length → okAt l j) : RightD (dep l) l.length :=
  ⟨fun h0 => (h 0 h0).2.2.1 rfl, fun i hi => (h i hi).1, fun i hi => by have := (h (i + 1) hi).2.2.2 (by omega); simpa using this⟩

/-! ### ends -/
theorem endN_spec (l : List S34) {i : Nat} (hi : i < l.length) : TEnds (dep l) l.length i (endN l i) := by
  obtain ⟨h1, h2⟩ := endN_le l i hi
  obtain ⟨x, hx⟩ : ∃ x, rd_T34 l (i : Int) = x := ⟨_, rfl⟩
  have hd : dep l i = x.f0 := by unfold dep; rw [hx]
  have he : endN l i = i + 1 + ((l.drop (i + 1)).takeWhile fun y => decide (x.f0 < y.f0)).length := by unfold endN; rw [hx]
  have key : ∀ (m : List S34) (p : S34 → Bool) (j : Nat), j < (m.takeWhile p).length → ∃ y, m[j]? = some y ∧ p y = true := by
    intro m p
    induction m with
    | nil => intro j hj; simp at hj
    | cons a m ih =>
      intro j hj
      rw [List.takeWhile_cons] at hj
      by_cases ha : p a = true
      · rw [if_pos ha] at hj
        cases j with
        | zero => exact ⟨a, rfl, ha⟩
        | succ j =>
          obtain ⟨y, hy, hp⟩ := ih j (by simpa using hj)
          exact ⟨y, by simpa using hy, hp⟩
      · rw [if_neg ha] at hj; simp at hj
  have key2 : ∀ (m : List S34) (p : S34 → Bool) (y : S34), m[(m.takeWhile p).length]? = some y → p y = false := by
    intro m
    induction m with
    | nil => intro p y h; simp at h
    | cons a m ih =>
      intro p y h
      rw [List.takeWhile_cons] at h
      by_cases ha : p a = true
      · rw [if_pos ha] at h
        exact ih p y (by simpa using h)
      · rw [if_neg ha] at h
        simp at h
        rw [← h]; simpa using ha
  refine ⟨by omega, h2, fun z a b => ?_, ?_⟩
  · obtain ⟨y, hy, hp⟩ := key (l.drop (i + 1)) (fun y => decide (x.f0 < y.f0)) (z - (i + 1)) (by rw [he] at b; omega)
    rw [List.getElem?_drop, show i + 1 + (z - (i + 1)) = z by omega] at hy
    rw [hd]
    unfold dep
    rw [t37_at hy]
    simpa using hp
  · by_cases e : endN l i = l.length
    · exact .inl e
    · right
      have hlt : endN l i < l.length := by omega
      obtain ⟨y, hy⟩ := get_some hlt
      have hp := key2 (l.drop (i + 1)) (fun y => decide (x.f0 < y.f0)) y (by rw [List.getElem?_drop, ← he]; exact hy)
      rw [hd]
      unfold dep
      rw [t37_at hy]
      have : ¬ (x.f0 < y.f0) := by simpa using hp
      omega
theorem rend_l0 (l : List S34) (i : Nat) (hi : i < l.length) (hl : l.length ≤ 1000000) : ∀ (d k0 : Nat), k0 + d = l.length → ∀ k, d < k → boltingref04_End.l0 k l (i : Int) (k0 : Int) = some ((k0 + ((l.drop k0).takeWhile fun x => decide ((rd_T34 l (i : Int)).f0 < x.f0)).length : Nat) : Int)
  | 0, k0, h, k, hk => by
    obtain ⟨k, rfl⟩ : ∃ m, k = m + 1 := ⟨k - 1, by omega⟩
    simp only [boltingref04_End.l0]
    rw [if_neg (by omega), List.drop_of_length_le (by omega)]
    congr 1
    simp; omega
  | d + 1, k0, h, k, hk => by
    obtain ⟨k, rfl⟩ : ∃ m, k = m + 1 := ⟨k - 1, by omega⟩
    obtain ⟨x, hx⟩ := get_some (show k0 < l.length by omega)
    simp only [boltingref04_End.l0]
    rw [if_pos (by omega), if_pos (by omega), if_pos (by omega), if_pos (by omega), t37_at hx, drop_at hx, List.takeWhile_cons]
    by_cases g : x.f0 ≤ (rd_T34 l (i : Int)).f0
    · rw [if_pos g, if_neg (by rw [decide_eq_true_eq]; omega)]
      rfl
    · rw [if_neg g, if_pos (by rw [decide_eq_true_eq]; omega), wrap_succ (by omega) (by omega)]
      have := rend_l0 l i hi hl d (k0 + 1) (by omega) k (by omega)
      rw [List.length_cons, show k0 + (((l.drop (k0 + 1)).takeWhile fun x => decide ((rd_T34 l (i : Int)).f0 < x.f0)).length + 1) = k0 + 1 + ((l.drop (k0 + 1)).takeWhile fun x => decide ((rd_T34 l (i : Int)).f0 < x.f0)).length by omega]
      exact this
theorem rend_f (l : List S34) (i : Nat) (hi : i < l.length) (hl : l.length ≤ 1000000) {k : Nat} (hk : l.length + 1 < k) : boltingref04_End.f k l (i : Int) = some (endN l i : Int) := by
  obtain ⟨k, rfl⟩ : ∃ m, k = m + 1 := ⟨k - 1, by omega⟩
  unfold boltingref04_End.f
  rw [if_neg (by omega)]
  simp only [boltingref04_End.j0]
  rw [if_neg (by rw [decide_eq_true_eq]; omega), wrap_succ (by omega) (by omega)]
  exact rend_l0 l i hi hl (l.length - (i + 1)) (i + 1) (by omega) k (by omega)

/-! ### texts -/
def textAt (l : List S34) (m : Nat) : List UInt8 := datas ((l.take (endN l m)).drop m)
theorem rtext_l0 (l : List S34) (i0 : Int) (h0 : 0 ≤ i0) (hl : l.length ≤ 1000000) (hd : (datas l).length ≤ 140737488355328) (b e : Nat) (he : e ≤ l.length) : ∀ (d i : Nat), i + d = e → b ≤ i → ∀ k, 2 * d + 1 < k →
    boltingref04_Text.l0 k l i0 (mkS (datas ((l.take i).drop b))) (e : Int) (i : Int) = some (mkS (datas ((l.take e).drop b)))
  | 0, i, h, hb, k, hk => by
    obtain ⟨k, rfl⟩ : ∃ m, k = m + 1 := ⟨k - 1, by omega⟩
    have hie : i = e := by omega
    subst hie
    simp only [boltingref04_Text.l0]
    rw [if_neg (by omega)]
    cases k with
    | zero => omega
    | succ k => simp only [boltingref04_Text.j2]; rw [if_neg (by simp)]
  | d + 1, i, h, hb, k, hk => by
    obtain ⟨k, rfl⟩ : ∃ m, k = m + 2 := ⟨k - 2, by omega⟩
    obtain ⟨x, hx⟩ := get_some (show i < l.length by omega)
    have ih := rtext_l0 l i0 h0 hl hd b e he d (i + 1) (by omega) (by omega) k (by omega)
    have hst := datas_step hb hx
    have h1 := datas_len (l := l) (i + 1) b
    rw [hst] at ih h1
    simp only [boltingref04_Text.l0]
    rw [if_pos (by omega), decide_eq_true (show i0 ≥ -1 by omega)]
    simp only [boltingref04_Text.j2]
    rw [if_pos trivial, if_pos (by omega), if_pos (by omega), t37_at hx, wrap_succ (by omega) (by omega)]
    by_cases hk1 : x.f1 = 1
    · rw [if_pos hk1] at ih h1 ⊢
      have e1 : mkS (datas ((l.take i).drop b)) ++ x.f3 = mkS (datas ((l.take i).drop b) ++ x.f3.data.toList) := dat_inj (by rw [dat_app]; rfl)
      rw [if_pos (by rw [mkS_size]; rw [List.length_append] at h1; have := dat_len x.f3; show _ + x.f3.size ≤ _; have e2 : (dat x.f3).length = x.f3.data.toList.length := rfl; omega), e1]
      exact ih
    · rw [if_neg hk1] at ih ⊢
      rw [List.append_nil] at ih
      exact ih
theorem rtext_f (l : List S34) (i : Nat) (hi : i < l.length) (hl : l.length ≤ 1000000) (hd : (datas l).length ≤ 140737488355328) {k : Nat} (hk : 2 * l.length + 4 < k) : boltingref04_Text.f k l (i : Int) = some (mkS (textAt l i)) := by
  obtain ⟨h1, h2⟩ := endN_le l i hi
  unfold boltingref04_Text.f
  rw [if_pos (by omega), rend_f l i hi hl (by omega)]
  simp only [Option.bind_some]
  obtain ⟨k, rfl⟩ : ∃ m, k = m + 1 := ⟨k - 1, by omega⟩
  have hm : mn (i : Int) (l.length : Int) = (i : Int) := by unfold mn; split <;> omega
  simp only [boltingref04_Text.j0]
  rw [hm]
  have := rtext_l0 l (i : Int) (by omega) hl hd i (endN l i) h2 (endN l i - i) i (by omega) (Nat.le_refl _) k (by omega)
  rw [List.drop_of_length_le (show (l.take i).length ≤ i by rw [List.length_take]; omega)] at this
  exact this
theorem ptext_f (l : List S34) (i : Nat) (hi : i < l.length) (hl : l.length ≤ 1000000) (hd : (datas l).length ≤ 140737488355328) : rows_Text.f l (i : Int) = some (mkS (textAt l i)) := by
  unfold rows_Text.f
  rw [if_pos ⟨by omega, by omega, hl, hd⟩, Int.toNat_natCast]
  rfl

/-! ### parents, and rows within a template -/
theorem parent_l0 (l : List S34) (hl : l.length ≤ 1000) (m : Nat) (hm : m < l.length) (hok : okAt l m) : ∀ (d i : Nat) (p : Int), i + d = m → ((p = -1 ∧ ∀ x, x < i → dep l x ≠ dep l m - 1) ∨ ∃ q : Nat, p = (q : Int) ∧ q < i ∧ dep l q = dep l m - 1 ∧ ∀ x, q < x → x < i → dep l x ≠ dep l m - 1) →
    ∀ k, 2 * d + 1 < k → ∃ r, boltingref04_Parent.l0 k l (m : Int) p (i : Int) = some r ∧ ((r = -1 ∧ ∀ x, x < m → dep l x ≠ dep l m - 1) ∨ ∃ q : Nat, r = (q : Int) ∧ IsPar (dep l) m q)
  | 0, i, p, h, hp, k, hk => by
    obtain ⟨k, rfl⟩ : ∃ m, k = m + 2 := ⟨k - 2, by omega⟩
    have hie : i = m := by omega
    subst hie
    simp only [boltingref04_Parent.l0]
    rw [if_neg (by omega)]
    simp only [boltingref04_Parent.j1]
    rw [if_neg (by simp)]
    refine ⟨p, rfl, ?_⟩
    rcases hp with hp | ⟨q, h1, h2, h3, h4⟩
    · exact .inl hp
    · exact .inr ⟨q, h1, h2, h3, h4⟩
  | d + 1, i, p, h, hp, k, hk => by
    obtain ⟨k, rfl⟩ : ∃ m, k = m + 2 := ⟨k - 2, by omega⟩
    have ih := parent_l0 l hl m hm hok d (i + 1)
    have hw : wrap64 ((rd_T34 l (m : Int)).f0 - 1) = dep l m - 1 := wrap_id (by have := hok.1; show _ ≤ dep l m - 1; omega) (by have := hok.2.1; show dep l m - 1 < _; omega)
    have hw2 : wrap64 ((i : Int) + 1) = ((i + 1 : Nat) : Int) := by rw [wrap_succ (by omega) (by omega)]; omega
    simp only [boltingref04_Parent.l0]
    rw [if_pos (by omega), decide_eq_true (show (m : Int) < (l.length : Int) by omega)]
    simp only [boltingref04_Parent.j1]
    rw [if_pos trivial, if_pos (by omega), if_pos (by omega), if_pos (by omega), if_pos (by omega), hw, hw2]
    by_cases e : (rd_T34 l (i : Int)).f0 = dep l m - 1
    · rw [if_pos e]
      exact ih (i : Int) (by omega) (.inr ⟨i, rfl, by omega, e, fun x a b => by omega⟩) k (by omega)
    · rw [if_neg e]
      refine ih p (by omega) ?_ k (by omega)
      rcases hp with ⟨h1, h2⟩ | ⟨q, h1, h2, h3, h4⟩
      · refine .inl ⟨h1, fun x hx => ?_⟩
        by_cases c : x = i
        · rw [c]; exact e
        · exact h2 x (by omega)
      · refine .inr ⟨q, h1, by omega, h3, fun x a b => ?_⟩
        by_cases c : x = i
        · rw [c]; exact e
        · exact h4 x a (by omega)
theorem parent_f (l : List S34) (hl : l.length ≤ 1000) (m : Nat) (hm : m < l.length) (hok : okAt l m) {k : Nat} (hk : 3000 < k) :
    ∃ r, boltingref04_Parent.f k l (m : Int) = some r ∧ ((r = -1 ∧ ∀ x, x < m → dep l x ≠ dep l m - 1) ∨ ∃ q : Nat, r = (q : Int) ∧ IsPar (dep l) m q) :=
  parent_l0 l hl m hm hok m 0 (-1) (by omega) (.inl ⟨rfl, fun x h => by omega⟩) k (by omega)
def tagT : ByteArray := ⟨#[116, 101, 109, 112, 108, 97, 116, 101]⟩
/-- Row j is a template. -/
def isT (l : List S34) (j : Nat) : Prop := (rd_T34 l (j : Int)).f1 = 0 ∧ (rd_T34 l (j : Int)).f2 = tagT
theorem toList_iff (s t : ByteArray) : s.toList = t.data.toList ↔ s = t := ⟨fun h => dat_inj (by rw [← toList_dat]; exact h), fun h => by rw [h, toList_dat]⟩
theorem tagT_iff (s : ByteArray) : s.toList = ([116, 101, 109, 112, 108, 97, 116, 101] : List UInt8) ↔ s = tagT := toList_iff s tagT
theorem tagS_iff (s : ByteArray) : s.toList = ([115, 99, 114, 105, 112, 116] : List UInt8) ↔ s = tagS := toList_iff s tagS
open Classical in
theorem inert_l0 (l : List S34) (hl : l.length ≤ 1000) (hok : ∀ j, j < l.length → okAt l j) : ∀ (n m : Nat), m ≤ n → m < l.length → ∀ k, n + 4000 < k → boltingref19_inert.l0 k l (m : Int) = some (decide (Marked (isT l) (dep l) m)) := by
  intro n
  induction n with
  | zero =>
    intro m hn hm k hk
    have hD := right_D hok
    obtain ⟨k, rfl⟩ : ∃ m, k = m + 1 := ⟨k - 1, by omega⟩
    obtain ⟨r, hr, hpar⟩ := parent_f l hl m hm (hok m hm) (k := k) (by omega)
    have hneg : boltingref19_inert.l0 k l (-1) = some false := by
      obtain ⟨k', hk'⟩ : ∃ m, k = m + 1 := ⟨k - 1, by omega⟩
      rw [hk']
      simp only [boltingref19_inert.l0]
      rw [if_neg (by omega)]
    have hr' : r = -1 ∧ dep l m = 0 := by
      rcases hpar with ⟨h1, h2⟩ | ⟨q, _, h2⟩
      · exact ⟨h1, par_none hD hm h2⟩
      · have := h2.1; omega
    have hM := marked_root (T := isT l) hD hm hr'.2
    have hend : boltingref19_inert.l0 k l r = some false := by rw [hr'.1]; exact hneg
    simp only [boltingref19_inert.l0]
    rw [if_pos (by omega), if_pos (by omega), if_pos (by omega), hr]
    simp only [Option.bind_some]
    rw [hend]
    by_cases h1 : (rd_T34 l (m : Int)).f1 = 0
    · rw [if_pos h1]
      by_cases h2 : (rd_T34 l (m : Int)).f2 = tagT
      · rw [if_pos ((tagT_iff _).2 h2), decide_eq_true (hM.2 ⟨h1, h2⟩)]
      · rw [if_neg (fun e => h2 ((tagT_iff _).1 e)), decide_eq_false (fun e => h2 (hM.1 e).2)]
    · rw [if_neg h1, decide_eq_false (fun e => h1 (hM.1 e).1)]
  | succ n ih =>
    intro m hn hm k hk
    have hD := right_D hok
    obtain ⟨k, rfl⟩ : ∃ m, k = m + 1 := ⟨k - 1, by omega⟩
    obtain ⟨r, hr, hpar⟩ := parent_f l hl m hm (hok m hm) (k := k) (by omega)
    have hneg : boltingref19_inert.l0 k l (-1) = some false := by
      obtain ⟨k', hk'⟩ : ∃ m, k = m + 1 := ⟨k - 1, by omega⟩
      rw [hk']
      simp only [boltingref19_inert.l0]
      rw [if_neg (by omega)]
    have hrest : ∃ b : Bool, boltingref19_inert.l0 k l r = some b ∧ (Marked (isT l) (dep l) m ↔ isT l m ∨ b = true) := by
      rcases hpar with ⟨h1, h2⟩ | ⟨q, h1, h2⟩
      · refine ⟨false, by rw [h1]; exact hneg, ?_⟩
        rw [marked_root (T := isT l) hD hm (par_none hD hm h2)]
        simp
      · have hq := h2.1
        refine ⟨_, by rw [h1]; exact ih q (by omega) (by omega) k (by omega), ?_⟩
        rw [marked_par (T := isT l) hD hm h2, decide_eq_true_eq]
    obtain ⟨b, hb, hM⟩ := hrest
    simp only [boltingref19_inert.l0]
    rw [if_pos (by omega), if_pos (by omega), if_pos (by omega), hr]
    simp only [Option.bind_some]
    rw [hb]
    have fin : ¬ isT l m → some b = some (decide (Marked (isT l) (dep l) m)) := fun hT => by
      congr 1
      cases b with
      | true => exact (decide_eq_true (hM.2 (.inr rfl))).symm
      | false => exact (decide_eq_false (fun e => by rcases hM.1 e with h | h; exact hT h; cases h)).symm
    by_cases h1 : (rd_T34 l (m : Int)).f1 = 0
    · rw [if_pos h1]
      by_cases h2 : (rd_T34 l (m : Int)).f2 = tagT
      · rw [if_pos ((tagT_iff _).2 h2), decide_eq_true (hM.2 (.inl ⟨h1, h2⟩))]
      · rw [if_neg (fun e => h2 ((tagT_iff _).1 e))]
        exact fin (fun e => h2 e.2)
    · rw [if_neg h1]
      exact fin (fun e => h1 e.1)
open Classical in
theorem inert_f (l : List S34) (hl : l.length ≤ 1000) (hok : ∀ j, j < l.length → okAt l j) (m : Nat) (hm : m < l.length) {k : Nat} (hk : 6000 < k) : boltingref19_inert.f k l (m : Int) = some (decide (Marked (isT l) (dep l) m)) :=
  inert_l0 l hl hok m m (Nat.le_refl _) hm k (by omega)

/-! ### an attribute's value -/
def valueO (ats : List S39) (nm : ByteArray) : Option ByteArray := (ats.find? fun a => decide (a.f0 = nm)).map (·.f1)
def valueR (o : Option ByteArray) : ByteArray × Bool := (o.getD ⟨#[]⟩, o.isSome)
theorem pvalue_l0 (ats : List S39) (hl : ats.length ≤ 1000) (nm : ByteArray) (d j : Nat) : j + d = ats.length → ∀ k, d < k → run_value.l0 k nm ats (ats.length : Int) (j : Int) = some (valueR (valueO (ats.drop j) nm)) := by
  induction d generalizing j with
  | zero =>
    intro h k hk
    obtain ⟨k, rfl⟩ : ∃ m, k = m + 1 := ⟨k - 1, by omega⟩
    simp only [run_value.l0]
    rw [if_neg (by omega), List.drop_of_length_le (by omega)]
    rfl
  | succ d ih =>
    intro h k hk
    obtain ⟨k, rfl⟩ : ∃ m, k = m + 1 := ⟨k - 1, by omega⟩
    obtain ⟨a, ha⟩ := get_some (show j < ats.length by omega)
    simp only [run_value.l0]
    rw [if_pos (by omega), if_pos (by omega), if_pos (by omega), t30_at ha, drop_at ha]
    by_cases e : a.f0 = nm
    · rw [if_pos (by rw [e])]
      simp [valueO, List.find?_cons, e, valueR]
    · rw [if_neg (fun h => e (dat_inj (by rw [← toList_dat, ← toList_dat]; exact h))), wrap_succ (by omega) (by omega)]
      have := ih (j + 1) (by omega) k (by omega)
      rw [show ((j + 1 : Nat) : Int) = (j : Int) + 1 by omega] at this
      rw [this]
      simp [valueO, List.find?_cons, e]
theorem pvalue_f (x : S34) (hl : x.f4.length ≤ 1000) (hx : x.f1 = 0) (nm : ByteArray) {k : Nat} (hk : 1001 < k) : run_value.f k x.f0 x.f1 x.f2 x.f3 x.f4 nm = some (valueR (valueO x.f4 nm)) := by
  unfold run_value.f
  rw [if_pos hx]
  have := pvalue_l0 x.f4 hl nm x.f4.length 0 (by omega) k (by omega)
  rw [List.drop_zero] at this
  exact this
theorem rvalue_l0 (ats : List S39) (hl : ats.length ≤ 1000) (nm : ByteArray) (f0 : Int) (f2 f3 : ByteArray) (d j : Nat) : j + d = ats.length → ∀ k, 2 * d + 1 < k → boltingref19_Value.l0 k nm (j : Int) f0 0 f2 f3 ats = some (valueR (valueO (ats.drop j) nm)) := by
  induction d generalizing j with
  | zero =>
    intro h k hk
    obtain ⟨k, rfl⟩ : ∃ m, k = m + 2 := ⟨k - 2, by omega⟩
    simp only [boltingref19_Value.l0]
    rw [if_neg (by omega), List.drop_of_length_le (by omega)]
    simp only [boltingref19_Value.j1]
    rw [if_neg (by simp)]
    rfl
  | succ d ih =>
    intro h k hk
    obtain ⟨k, rfl⟩ : ∃ m, k = m + 2 := ⟨k - 2, by omega⟩
    obtain ⟨a, ha⟩ := get_some (show j < ats.length by omega)
    simp only [boltingref19_Value.l0]
    rw [if_pos (by omega)]
    simp only [boltingref19_Value.j1]
    rw [if_pos (by rfl), if_pos (by omega), if_pos (by omega), t30_at ha, drop_at ha]
    by_cases e : a.f0 = nm
    · rw [if_pos (by rw [e])]
      simp [valueO, List.find?_cons, e, valueR]
    · rw [if_neg (fun h => e (dat_inj (by rw [← toList_dat, ← toList_dat]; exact h))), wrap_succ (by omega) (by omega)]
      have := ih (j + 1) (by omega) k (by omega)
      rw [show ((j + 1 : Nat) : Int) = (j : Int) + 1 by omega] at this
      rw [this]
      simp [valueO, List.find?_cons, e]
theorem rvalue_f (x : S34) (hl : x.f4.length ≤ 1000) (hx : x.f1 = 0) (nm : ByteArray) {k : Nat} (hk : 3001 < k) : boltingref19_Value.f k x.f0 x.f1 x.f2 x.f3 x.f4 nm = some (valueR (valueO x.f4 nm)) := by
  unfold boltingref19_Value.f
  rw [hx]
  have := rvalue_l0 x.f4 hl nm x.f0 x.f2 x.f3 x.f4.length 0 (by omega) k (by omega)
  rw [List.drop_zero] at this
  exact this

/-! ### scripts -/
def tagSrc : ByteArray := ⟨#[115, 114, 99]⟩
/-- What row m gives, if it is a script that runs. -/
def gives (l : List S34) (m : Nat) : List S30 :=
  match valueO (rd_T34 l (m : Int)).f4 tagSrc with
  | some v => [⟨m, 3, v⟩]
  | none => if textAt l m = [] then [] else [⟨m, 2, mkS (textAt l m)⟩]
theorem gives_len (l : List S34) (m : Nat) : (gives l m).length ≤ 1 := by
  unfold gives
  split
  · simp
  · split <;> simp
open Classical in
noncomputable def scr (l : List S34) (m : Nat) : List S30 := if isS (rd_T34 l (m : Int)) = true ∧ ¬ Marked (isT l) (dep l) m then gives l m else []
theorem scr_len (l : List S34) (m : Nat) : (scr l m).length ≤ 1 := by
  unfold scr
  split
  · exact gives_len l m
  · simp
noncomputable def scrs (l : List S34) (i d : Nat) : List S30 := (List.range' i d).flatMap (scr l)
theorem scrs_zero (l : List S34) (i : Nat) : scrs l i 0 = [] := rfl
theorem scrs_succ (l : List S34) (i d : Nat) : scrs l i (d + 1) = scr l i ++ scrs l (i + 1) d := by
  unfold scrs
  rw [List.range'_succ, List.flatMap_cons]
theorem scrs_add (l : List S34) (i d e : Nat) : scrs l i (d + e) = scrs l i d ++ scrs l (i + d) e := by
  induction d generalizing i with
  | zero => rw [Nat.zero_add, scrs_zero, List.nil_append, Nat.add_zero]
  | succ d ih => rw [show d + 1 + e = d + e + 1 by omega, scrs_succ, scrs_succ, ih, List.append_assoc, show i + 1 + d = i + (d + 1) by omega]
theorem mem_scrs (l : List S34) (i d : Nat) : (scrs l i d).length ≤ d := by
  induction d generalizing i with
  | zero => simp [scrs_zero]
  | succ d ih =>
    rw [scrs_succ, List.length_append]
    have := scr_len l i
    have := ih (i + 1)
    omega
theorem not_nil {t : List UInt8} : (mkS t).toList = ([] : List UInt8) ↔ t = [] := by rw [mkS_toList]
open Classical in
theorem rscripts_l0 (l : List S34) (hl : l.length ≤ 1000) (ha : ∀ x ∈ l, x.f4.length ≤ 1000) (hd : (datas l).length ≤ 140737488355328) (hok : ∀ j, j < l.length → okAt l j) :
    ∀ (d i : Nat) (acc : List S30), i + d = l.length → acc.length ≤ i → ∀ k, 2 * d + 7000 < k → boltingref19_Scripts.l0 k l acc (i : Int) = some (acc ++ scrs l i d)
  | 0, i, acc, h, hacc, k, hk => by
    obtain ⟨k, rfl⟩ : ∃ m, k = m + 1 := ⟨k - 1, by omega⟩
    simp only [boltingref19_Scripts.l0]
    rw [if_neg (by omega), scrs_zero, List.append_nil]
  | d + 1, i, acc, h, hacc, k, hk => by
    obtain ⟨k, rfl⟩ : ∃ m, k = m + 2 := ⟨k - 2, by omega⟩
    have hi : i < l.length := by omega
    obtain ⟨x, hx⟩ := get_some hi
    have ih := fun acc' (ha' : acc'.length ≤ i + 1) => rscripts_l0 l hl ha hd hok d (i + 1) acc' (by omega) ha' k (by omega)
    have hw : wrap64 ((i : Int) + 1) = ((i + 1 : Nat) : Int) := by rw [wrap_succ (by omega) (by omega)]; omega
    have hno : scr l i = [] → boltingref19_Scripts.j1 (k + 1) l acc (i : Int) true = some (acc ++ scrs l i (d + 1)) := fun e => by
      simp only [boltingref19_Scripts.j1]
      rw [if_pos trivial, hw, ih acc (by omega), scrs_succ, e, List.nil_append]
    have hrd : rd_T34 l (i : Int) = x := t37_at hx
    have hsx : isS (rd_T34 l (i : Int)) = isS x := by rw [hrd]
    simp only [boltingref19_Scripts.l0]
    rw [if_pos (by omega), if_pos (by omega), inert_f l hl hok i hi (by omega), hrd]
    by_cases h1 : x.f1 = 0
    · rw [if_pos h1]
      by_cases h2 : x.f2 = tagS
      · have hS : isS x = true := by simp [isS, h1, h2]
        rw [if_pos ((tagS_iff _).2 h2)]
        simp only [Option.bind_some]
        by_cases hM : Marked (isT l) (dep l) i
        · rw [decide_eq_true hM]
          exact hno (by unfold scr; rw [if_neg (fun e => e.2 hM)])
        · rw [decide_eq_false hM]
          have hsc : scr l i = gives l i := by unfold scr; rw [if_pos ⟨by rw [hsx]; exact hS, hM⟩]
          have hg : gives l i = match valueO x.f4 tagSrc with
            | some v => [⟨i, 3, v⟩]
            | none => if textAt l i = [] then [] else [⟨i, 2, mkS (textAt l i)⟩] := by unfold gives; rw [hrd]
          simp only [boltingref19_Scripts.j1]
          rw [if_neg (by simp), if_pos (by omega), if_pos (by omega), hrd, rvalue_f x (ha x (List.mem_of_getElem? hx)) h1 _ (by omega), rtext_f l i hi (by omega) hd (by omega)]
          simp only [Option.bind_some]
          rw [show (⟨#[115, 114, 99]⟩ : ByteArray) = tagSrc from rfl, scrs_succ, hsc, hg, hw]
          have hacc2 : acc.length < 4398046511104 := by omega
          cases hv : valueO x.f4 tagSrc with
          | some v =>
            rw [if_pos (by rfl), if_pos hacc2, ih _ (by rw [List.length_append]; simp; omega), List.append_assoc]
            rfl
          | none =>
            rw [if_neg (by simp [valueR])]
            by_cases ht : textAt l i = []
            · rw [if_pos (not_nil.2 ht), ih acc (by omega)]
              simp [ht]
            · rw [if_neg (fun e => ht (not_nil.1 e)), if_pos hacc2, ih _ (by rw [List.length_append]; simp; omega), List.append_assoc]
              simp [ht]
      · rw [if_neg (fun e => h2 ((tagS_iff _).1 e))]
        exact hno (by unfold scr; rw [if_neg (fun e => h2 (by have := e.1; rw [hsx] at this; simp [isS] at this; exact this.2))])
    · rw [if_neg h1]
      exact hno (by unfold scr; rw [if_neg (fun e => h1 (by have := e.1; rw [hsx] at this; simp [isS] at this; exact this.1))])
theorem rscripts_f (l : List S34) (hl : l.length ≤ 1000) (ha : ∀ x ∈ l, x.f4.length ≤ 1000) (hd : (datas l).length ≤ 140737488355328) (hok : ∀ j, j < l.length → okAt l j) {k : Nat} (hk : 10000 < k) : boltingref19_Scripts.f k l = some (scrs l 0 l.length) :=
  rscripts_l0 l hl ha hd hok l.length 0 [] (by omega) (by simp) k (by omega)
theorem pend_f (l : List S34) (hl : l.length ≤ 1000) (i : Nat) (hi : i < l.length) {k : Nat} (hk : 1001 < k) : rows_End.f k l (i : Int) = some (endN l i : Int) := Go.Proofs.Ytakhldahohooiaa.end_f l i hi (by omega) (by omega)
theorem scrs_marked {l : List S34} {i e d : Nat} (h : ∀ m, i ≤ m → m < i + d → Marked (isT l) (dep l) m) : scrs l i d = [] := by
  induction d generalizing i with
  | zero => rfl
  | succ d ih =>
    rw [scrs_succ, ih (fun m a b => h m (by omega) (by omega))]
    unfold scr
    rw [if_neg (fun e => e.2 (h i (Nat.le_refl _) (by omega)))]
    rfl
theorem pscripts_l0 (l : List S34) (hl : l.length ≤ 1000) (ha : ∀ x ∈ l, x.f4.length ≤ 1000) (hd : (datas l).length ≤ 140737488355328) :
    ∀ (n d i : Nat) (acc : List S30), d ≤ n → i + d = l.length → (i < l.length → Free (isT l) (dep l) i) → acc.length ≤ i → ∀ k, n + 3000 < k → run_Scripts.l0 k l acc (i : Int) = some (acc ++ scrs l i d) := by
  intro n
  induction n with
  | zero =>
    intro d i acc hn h hF hacc k hk
    obtain rfl : d = 0 := by omega
    obtain ⟨k, rfl⟩ : ∃ m, k = m + 1 := ⟨k - 1, by omega⟩
    simp only [run_Scripts.l0]
    rw [if_neg (by omega), scrs_zero, List.append_nil]
  | succ n ih =>
    intro d i acc hn h hF hacc k hk
    obtain ⟨k, rfl⟩ : ∃ m, k = m + 1 := ⟨k - 1, by omega⟩
    by_cases hi : i < l.length
    · obtain ⟨d, rfl⟩ : ∃ m, d = m + 1 := ⟨d - 1, by omega⟩
      obtain ⟨x, hx⟩ := get_some hi
      have hrd : rd_T34 l (i : Int) = x := t37_at hx
      have hsx : isS (rd_T34 l (i : Int)) = isS x := by rw [hrd]
      have hw : wrap64 ((i : Int) + 1) = ((i + 1 : Nat) : Int) := by rw [wrap_succ (by omega) (by omega)]; omega
      simp only [run_Scripts.l0]
      rw [if_pos (by omega), if_pos (by omega), hrd, is_f x, is_f x]
      simp only [Option.bind_some]
      by_cases hT : x.f1 = 0 ∧ x.f2 = tagT
      · have hiT : isT l i := by unfold isT; rw [hrd]; exact hT
        have he := endN_spec l hi
        have hb : (decide (x.f1 = 0) && decide (x.f2 = (⟨#[116, 101, 109, 112, 108, 97, 116, 101]⟩ : ByteArray))) = true := by
          rw [hT.1, hT.2]; rfl
        rw [if_pos hb, pend_f l hl i hi (by omega)]
        simp only [Option.bind_some]
        have hlt := he.lt
        have hle := he.le
        have hsplit : d + 1 = (endN l i - i) + (l.length - endN l i) := by omega
        have hFe : endN l i < l.length → Free (isT l) (dep l) (endN l i) := fun c => free_end (hF hi) he c
        rw [ih (l.length - endN l i) (endN l i) acc (by omega) (by omega) hFe (by omega) k (by omega), hsplit, scrs_add, scrs_marked (e := endN l i) (fun m a b => marked_in he hiT a (by omega)), List.nil_append, show i + (endN l i - i) = endN l i by omega]
      · have hniT : ¬ isT l i := by unfold isT; rw [hrd]; exact hT
        have hb : (decide (x.f1 = 0) && decide (x.f2 = (⟨#[116, 101, 109, 112, 108, 97, 116, 101]⟩ : ByteArray))) = false := by
          rw [Bool.and_eq_false_iff, decide_eq_false_iff_not, decide_eq_false_iff_not]
          by_cases c : x.f1 = 0
          · exact .inr (fun e => hT ⟨c, e⟩)
          · exact .inl c
        have hM := free_not (hF hi) hniT
        have ihn := fun acc' (ha' : acc'.length ≤ i + 1) => ih d (i + 1) acc' (by omega) (by omega) (fun _ => free_next (hF hi) hniT) ha' k (by omega)
        rw [if_neg (by rw [hb]; simp), hw]
        have eS : (decide (x.f1 = 0) && decide (x.f2 = (⟨#[115, 99, 114, 105, 112, 116]⟩ : ByteArray))) = isS x := rfl
        rw [eS]
        cases hS : isS x with
        | false =>
          rw [if_neg (by simp), ihn acc (by omega), scrs_succ]
          unfold scr
          rw [if_neg (fun e => by have := e.1; rw [hsx, hS] at this; cases this), List.nil_append]
        | true =>
          have h1 : x.f1 = 0 := by simp [isS] at hS; exact hS.1
          have hsc : scr l i = gives l i := by unfold scr; rw [if_pos ⟨by rw [hsx]; exact hS, hM⟩]
          have hg : gives l i = match valueO x.f4 tagSrc with
            | some v => [⟨i, 3, v⟩]
            | none => if textAt l i = [] then [] else [⟨i, 2, mkS (textAt l i)⟩] := by unfold gives; rw [hrd]
          have hacc2 : acc.length < 4398046511104 := by omega
          rw [if_pos rfl, ptext_f l i hi (by omega) hd, pvalue_f x (ha x (List.mem_of_getElem? hx)) h1 _ (by omega)]
          simp only [Option.bind_some]
          rw [show (⟨#[115, 114, 99]⟩ : ByteArray) = tagSrc from rfl, scrs_succ, hsc, hg]
          cases hv : valueO x.f4 tagSrc with
          | some v =>
            rw [if_pos (by rfl), if_pos trivial, if_pos hacc2, ihn _ (by rw [List.length_append]; simp; omega), List.append_assoc]
            rfl
          | none =>
            rw [if_neg (by simp [valueR]), if_neg (by decide)]
            by_cases ht : textAt l i = []
            · rw [if_pos (not_nil.2 ht), ihn acc (by omega)]
              simp [ht]
            · rw [if_neg (fun e => ht (not_nil.1 e)), if_pos hacc2, ihn _ (by rw [List.length_append]; simp; omega), List.append_assoc]
              simp [ht]
    · obtain rfl : d = 0 := by omega
      simp only [run_Scripts.l0]
      rw [if_neg (by omega), scrs_zero, List.append_nil]
theorem pscripts_f (l : List S34) (hl : l.length ≤ 1000) (ha : ∀ x ∈ l, x.f4.length ≤ 1000) (hd : (datas l).length ≤ 140737488355328) {k : Nat} (hk : 5000 < k) : run_Scripts.f k l = some (scrs l 0 l.length) :=
  pscripts_l0 l hl ha hd l.length l.length 0 [] (Nat.le_refl _) (by omega) (fun _ => free_zero _ _) (by simp) k (by omega)
end Go.Proofs.Ytakhldahohooiaa.Pure
/- What rows weigh, and what the bound of the second form says of their texts; run.Follow and run.Nothing of the reference. Plain Lean. -/
namespace Go.Proofs.Ytakhldahohooiaa.Pure
set_option linter.unusedVariables false
set_option linter.unusedSimpArgs false
open Go.RowKit Go.Proofs.Ytakhldahohooiaa.Pr Go.Proofs.Ytakhldahohooiaa.Tree Go.Proofs.YtakhldahohooiaaW.PrintWords Go.Proofs.YtakhldahohooiaaW.PrintLast Go.Proofs.YtakhldahohooiaaW.PrintMore

def wA (y : S39) : Nat := (wS y.f0 + wS y.f1) + 1
def wR (x : S34) : Nat := (wN x.f0 + (wN x.f1 + (wS x.f2 + (wS x.f3 + wL wA x.f4)))) + 1
theorem wL_mem {α : Type} (B : α → Nat) {l : List α} {x : α} (h : x ∈ l) : B x ≤ wL B l := by
  unfold wL
  induction l with
  | nil => simp at h
  | cons a l ih =>
    rw [List.map_cons, List.sum_cons]
    rcases List.mem_cons.1 h with rfl | h
    · omega
    · have := ih h; omega
theorem wR_parts {x : S34} {n : Nat} (h : wR x ≤ n) : x.f2.size ≤ n ∧ x.f3.size ≤ n ∧ ∀ y ∈ x.f4, y.f0.size ≤ n ∧ y.f1.size ≤ n := by
  unfold wR at h
  have h2 : wS x.f2 = x.f2.size + 1 := rfl
  have h3 : wS x.f3 = x.f3.size + 1 := rfl
  refine ⟨by omega, by omega, fun y hy => ?_⟩
  have h4 := wL_mem wA hy
  have h5 : wA y = (y.f0.size + 1 + (y.f1.size + 1)) + 1 := rfl
  omega
theorem datas_w (l : List S34) : (datas l).length ≤ (l.map wR).sum := by
  induction l with
  | nil => simp [datas]
  | cons x l ih =>
    have e : datas (x :: l) = (if x.f1 = 1 then x.f3.data.toList else []) ++ datas l := by
      unfold datas
      rw [List.filter_cons]
      by_cases h : x.f1 = 1
      · rw [if_pos (by rw [decide_eq_true_eq]; exact h), if_pos h, List.flatMap_cons]
      · rw [if_neg (by rw [decide_eq_true_eq]; exact h), if_neg h, List.nil_append]
    rw [e, List.length_append, List.map_cons, List.sum_cons]
    have h3 : wS x.f3 = x.f3.size + 1 := rfl
    have h4 : x.f3.data.toList.length = x.f3.size := dat_len x.f3
    have h5 : wS x.f3 ≤ wR x := by unfold wR; omega
    split
    · omega
    · simp; omega
theorem datas_cut (l : List S34) : datas (l.map cut8) = datas l := by
  unfold datas
  rw [List.filter_map, List.flatMap_map]
  rfl
theorem datas_bnd (l : List S34) : (datas (bnd40 l)).length ≤ (datas l).length := by
  unfold bnd40
  rw [datas_cut]
  have := datas_len (l := l) 40 0
  rwa [List.drop_zero] at this

/-! ### the reference's Follow and Nothing -/
theorem source_is (l : List UInt8) : (source l).isSome = script l := by
  unfold source
  cases h : script l <;> simp
theorem rfollow_l0 (ats : List S39) (hl : ats.length ≤ 1000) (hs : ∀ y ∈ ats, y.f0.size ≤ 1048576 ∧ y.f1.size ≤ 1048576) (f0 : Int) (e f3 : ByteArray) (he : e.size ≤ 1048576) (d j : Nat) : j + d = ats.length → ∀ k, 2 * d + 5000000 < k →
    ∃ s, boltingref19_Follow.l0 k (j : Int) f0 0 e f3 ats = some (s, (ats.drop j).any fun a => navB e a.f0 && script (dat a.f1)) := by
  induction d generalizing j with
  | zero =>
    intro h k hk
    obtain ⟨k, rfl⟩ : ∃ m, k = m + 1 := ⟨k - 1, by omega⟩
    simp only [boltingref19_Follow.l0]
    rw [if_neg (by omega), List.drop_of_length_le (by omega)]
    obtain ⟨k', hk'⟩ : ∃ m, k = m + 1 := ⟨k - 1, by omega⟩
    rw [hk']
    simp only [boltingref19_Follow.j1]
    rw [if_neg (by simp)]
    exact ⟨_, rfl⟩
  | succ d ih =>
    intro h k hk
    obtain ⟨k, rfl⟩ : ∃ m, k = m + 1 := ⟨k - 1, by omega⟩
    obtain ⟨a, ha⟩ := get_some (show j < ats.length by omega)
    have hz := hs a (List.mem_of_getElem? ha)
    simp only [boltingref19_Follow.l0]
    rw [if_pos (by omega)]
    obtain ⟨k, rfl⟩ : ∃ m, k = m + 1 := ⟨k - 1, by omega⟩
    obtain ⟨s, ih⟩ := ih (j + 1) (by omega) k (by omega)
    simp only [boltingref19_Follow.j1]
    rw [if_pos (by rfl), if_pos (by omega), if_pos (by omega), t30_at ha, ref_source a.f1 (by omega) k (by omega)]
    simp only [Option.bind_some]
    rw [source_is, rnav_f e a.f0 (by omega) (by omega) (by omega)]
    simp only [Option.bind_some]
    rw [wrap_succ (by omega) (by omega), show ((j : Int) + 1) = ((j + 1 : Nat) : Int) by omega, ih, drop_at ha, List.any_cons]
    have hd : (source a.f1.data.toList).isSome = script (dat a.f1) := source_is _
    cases hb : navB e a.f0 <;> cases hc : script (dat a.f1) <;> simp [show script a.f1.data.toList = script (dat a.f1) from rfl, hc]
theorem rfollow_f (x : S34) (hs : ∀ y ∈ x.f4, y.f0.size ≤ 1048576 ∧ y.f1.size ≤ 1048576) (he : x.f2.size ≤ 1048576) (hl : x.f4.length ≤ 1000) {k : Nat} (hk : 5010000 < k) : ∃ s, boltingref19_Follow.f k x.f0 x.f1 x.f2 x.f3 x.f4 = some (s, followB x) := by
  unfold boltingref19_Follow.f followB
  by_cases h : x.f1 = 0
  · rw [h]
    obtain ⟨s, h1⟩ := rfollow_l0 x.f4 hl hs x.f0 x.f2 x.f3 he x.f4.length 0 (by omega) k (by omega)
    rw [List.drop_zero] at h1
    exact ⟨s, by simpa using h1⟩
  · have hb : (x.f1 == 0) = false := by simpa using h
    obtain ⟨k', rfl⟩ : ∃ m, k = m + 1 := ⟨k - 1, by omega⟩
    simp only [boltingref19_Follow.l0]
    rw [hb]
    obtain ⟨k, rfl⟩ : ∃ m, k' = m + 1 := ⟨k' - 1, by omega⟩
    have hj : ∀ (i : Int), boltingref19_Follow.j1 (k + 1) i false x.f0 x.f1 x.f2 x.f3 x.f4 = some (⟨#[]⟩, false) := fun i => by simp only [boltingref19_Follow.j1]; rw [if_neg (by simp)]
    rw [hj]
    refine ⟨⟨#[]⟩, ?_⟩
    simp [h]
theorem rnothing_l1 (l : List S34) (hl : l.length ≤ 1000) (i : Nat) (x : S34) (hx : l[i]? = some x) (hxl : x.f4.length ≤ 1000) (b : Bool) (K : Nat) (hK : ∀ k, K ≤ k → boltingref19_Nothing.l0 k l ((i + 1 : Nat) : Int) = some b) (d j : Nat) : j + d = x.f4.length →
    ∀ k, K + 2 * d + 3 ≤ k → boltingref19_Nothing.l1 k l (i : Int) (j : Int) = some ((!decide (x.f1 = 0) || (x.f4.drop j).all fun a => !handlerB a.f0) && b) := by
  have hi := (List.getElem?_eq_some_iff.1 hx).1
  have hw : wrap64 ((i : Int) + 1) = ((i + 1 : Nat) : Int) := by rw [wrap_succ (by omega) (by omega)]; omega
  have hj3 : ∀ k (j : Int), K + 1 ≤ k → boltingref19_Nothing.j3 k l (i : Int) j false = some b := fun k j hk => by
    obtain ⟨k, rfl⟩ : ∃ m, k = m + 1 := ⟨k - 1, by omega⟩
    simp only [boltingref19_Nothing.j3]
    rw [if_neg (by simp), hw]
    exact hK k (by omega)
  induction d generalizing j with
  | zero =>
    intro h k hk
    obtain ⟨k, rfl⟩ : ∃ m, k = m + 1 := ⟨k - 1, by omega⟩
    simp only [boltingref19_Nothing.l1]
    rw [if_pos (by omega), if_pos (by omega), t37_at hx, if_neg (by omega), hj3 k _ (by omega), List.drop_of_length_le (by omega)]
    simp
  | succ d ih =>
    intro h k hk
    obtain ⟨k, rfl⟩ : ∃ m, k = m + 1 := ⟨k - 1, by omega⟩
    obtain ⟨a, ha⟩ := get_some (show j < x.f4.length by omega)
    simp only [boltingref19_Nothing.l1]
    rw [if_pos (by omega), if_pos (by omega), t37_at hx, if_pos (by omega)]
    by_cases h0 : x.f1 = 0
    · have hb : (x.f1 == 0) = true := by simpa using h0
      rw [hb]
      obtain ⟨k, rfl⟩ : ∃ m, k = m + 1 := ⟨k - 1, by omega⟩
      have := ih (j + 1) (by omega) k (by omega)
      simp only [boltingref19_Nothing.j3]
      rw [if_pos trivial, if_pos (by omega), if_pos (by omega), if_pos (by omega), t37_at hx, if_pos (by omega), t30_at ha, rhandler_f]
      simp only [Option.bind_some]
      rw [wrap_succ (by omega) (by omega), show ((j : Int) + 1) = ((j + 1 : Nat) : Int) by omega, this, drop_at ha, List.all_cons]
      cases handlerB a.f0 <;> simp [h0]
    · have hb : (x.f1 == 0) = false := by simpa using h0
      rw [hb, hj3 k _ (by omega)]
      simp [h0]
theorem rnothing_l0 (l : List S34) (hl : l.length ≤ 1000) (hs : ∀ x ∈ l, x.f2.size ≤ 1048576 ∧ ∀ y ∈ x.f4, y.f0.size ≤ 1048576 ∧ y.f1.size ≤ 1048576) (ha : ∀ x ∈ l, x.f4.length ≤ 1000) (d i : Nat) : i + d = l.length →
    ∀ k, d * 2010 + 5020000 ≤ k → boltingref19_Nothing.l0 k l (i : Int) = some ((l.drop i).all quietB) := by
  induction d generalizing i with
  | zero =>
    intro h k hk
    obtain ⟨k, rfl⟩ : ∃ m, k = m + 1 := ⟨k - 1, by omega⟩
    simp only [boltingref19_Nothing.l0]
    rw [if_neg (by omega), List.drop_of_length_le (by omega)]
    rfl
  | succ d ih =>
    intro h k hk
    obtain ⟨k, rfl⟩ : ∃ m, k = m + 1 := ⟨k - 1, by omega⟩
    obtain ⟨x, hx⟩ := get_some (show i < l.length by omega)
    have hm := List.mem_of_getElem? hx
    have hxl := ha x hm
    obtain ⟨s, hf⟩ := rfollow_f x (hs x hm).2 (hs x hm).1 hxl (k := k) (by omega)
    have h1 := rnothing_l1 l hl i x hx hxl ((l.drop (i + 1)).all quietB) (d * 2010 + 5020000) (fun k hk => ih (i + 1) (by omega) k hk) x.f4.length 0 (by omega) (k - 1) (by omega)
    have hj : ∀ b, boltingref19_Nothing.j1 k l (i : Int) b = some (if b = true then false else ((!decide (x.f1 = 0) || x.f4.all fun a => !handlerB a.f0) && (l.drop (i + 1)).all quietB)) := fun b => by
      obtain ⟨k', hk'⟩ : ∃ m, k = m + 1 := ⟨k - 1, by omega⟩
      rw [hk', show k' + 1 - 1 = k' by omega, List.drop_zero] at h1
      rw [hk']
      simp only [boltingref19_Nothing.j1]
      cases b with
      | true => rfl
      | false => rw [if_neg (by simp), if_neg (by simp)]; exact h1
    simp only [boltingref19_Nothing.l0]
    rw [if_pos (by omega), if_pos (by omega), t37_at hx, hf]
    simp only [Option.bind_some]
    rw [hj, hj, hj, drop_at hx, List.all_cons]
    have hq : quietB x = (!followB x && !isS x && (!decide (x.f1 = 0) || x.f4.all fun a => !handlerB a.f0)) := rfl
    rw [hq]
    cases hfb : followB x with
    | true => simp
    | false =>
      rw [if_neg (by simp)]
      by_cases h0 : x.f1 = 0
      · rw [if_pos h0]
        have e : (x.f2.toList == ([115, 99, 114, 105, 112, 116] : List UInt8)) = isS x := by
          unfold isS
          rw [decide_eq_true h0, Bool.true_and]
          by_cases c : x.f2 = tagS
          · rw [decide_eq_true c, beq_iff_eq]; exact (tagS_iff _).2 c
          · rw [decide_eq_false c, beq_eq_false_iff_ne]; exact fun z => c ((tagS_iff _).1 z)
        rw [e]
        cases isS x <;> simp
      · rw [if_neg h0]
        have e : isS x = false := by unfold isS; rw [decide_eq_false h0, Bool.false_and]
        rw [e]
        simp
theorem rnothing_f (l : List S34) (hl : l.length ≤ 1000) (hs : ∀ x ∈ l, x.f2.size ≤ 1048576 ∧ ∀ y ∈ x.f4, y.f0.size ≤ 1048576 ∧ y.f1.size ≤ 1048576) (ha : ∀ x ∈ l, x.f4.length ≤ 1000) {k : Nat} (hk : 8000000 ≤ k) : boltingref19_Nothing.f k l = some (l.all quietB) := by
  have h1 : l.length * 2010 ≤ 1000 * 2010 := Nat.mul_le_mul_right _ hl
  have := rnothing_l0 l hl hs ha l.length 0 (Nat.zero_add _) k (Nat.le_trans (Nat.add_le_add_right h1 5020000) (Nat.le_trans (by decide) hk))
  rw [List.drop_zero] at this
  exact this
theorem same_l0 (s : List S30) (hl : s.length ≤ 1000) (d j : Nat) : j + d = s.length → ∀ k, d < k → boltingref19_Same.l0 k s s (j : Int) = some true := by
  induction d generalizing j with
  | zero =>
    intro h k hk
    obtain ⟨k, rfl⟩ : ∃ m, k = m + 1 := ⟨k - 1, by omega⟩
    simp only [boltingref19_Same.l0]
    rw [if_neg (by omega)]
  | succ d ih =>
    intro h k hk
    obtain ⟨k, rfl⟩ : ∃ m, k = m + 1 := ⟨k - 1, by omega⟩
    simp only [boltingref19_Same.l0]
    rw [if_pos (by omega), if_pos (by omega), if_pos (by omega), if_neg (by simp), wrap_succ (by omega) (by omega)]
    exact ih (j + 1) (by omega) k (by omega)
theorem same_f (s : List S30) (hl : s.length ≤ 1000) {k : Nat} (hk : 1000 < k) : boltingref19_Same.f k s s = some true := by
  unfold boltingref19_Same.f
  rw [if_pos rfl]
  exact same_l0 s hl s.length 0 (by omega) k (by omega)
/-! ### is a row right: it ends -/
theorem row_l1 (ats : List S39) (hl : ats.length ≤ 8) (f0 f1 : Int) (f2 f3 : ByteArray) (i B : Nat) (hi : i < ats.length)
    (hB : ∀ k, B ≤ k → ∃ b, boltingref04_Row.l0 k ((i + 1 : Nat) : Int) f0 f1 f2 f3 ats = some b) (d j : Nat) : j + d = i → ∀ k, B + d + 1 ≤ k → ∃ b, boltingref04_Row.l1 k (i : Int) (j : Int) f0 f1 f2 f3 ats = some b := by
  induction d generalizing j with
  | zero =>
    intro h k hk
    obtain ⟨k, rfl⟩ : ∃ m, k = m + 1 := ⟨k - 1, by omega⟩
    simp only [boltingref04_Row.l1]
    rw [if_neg (by omega), wrap_succ (by omega) (by omega)]
    exact hB k (by omega)
  | succ d ih =>
    intro h k hk
    obtain ⟨k, rfl⟩ : ∃ m, k = m + 1 := ⟨k - 1, by omega⟩
    simp only [boltingref04_Row.l1]
    rw [if_pos (by omega), if_pos (by omega), if_pos (by omega), if_pos (by omega), if_pos (by omega), wrap_succ (by omega) (by omega)]
    split
    · exact ⟨_, rfl⟩
    · exact ih (j + 1) (by omega) k (by omega)
theorem row_l0 (ats : List S39) (hl : ats.length ≤ 8) (f0 f1 : Int) (f2 f3 : ByteArray) (d i : Nat) : i + d = ats.length → ∀ k, d * 12 + 1 ≤ k → ∃ b, boltingref04_Row.l0 k (i : Int) f0 f1 f2 f3 ats = some b := by
  induction d generalizing i with
  | zero =>
    intro h k hk
    obtain ⟨k, rfl⟩ : ∃ m, k = m + 1 := ⟨k - 1, by omega⟩
    simp only [boltingref04_Row.l0]
    rw [if_neg (by omega)]
    split
    · split <;> exact ⟨_, rfl⟩
    · exact ⟨_, rfl⟩
  | succ d ih =>
    intro h k hk
    obtain ⟨k, rfl⟩ : ∃ m, k = m + 1 := ⟨k - 1, by omega⟩
    simp only [boltingref04_Row.l0]
    rw [if_pos (by omega)]
    exact row_l1 ats hl f0 f1 f2 f3 i (d * 12 + 1) (by omega) (fun k hk => ih (i + 1) (by omega) k hk) i 0 (by omega) k (by omega)
theorem row_f (x : S34) (hl : x.f4.length ≤ 8) {k : Nat} (hk : 120 ≤ k) : ∃ b, boltingref04_Row.f k x.f0 x.f1 x.f2 x.f3 x.f4 = some b := by
  obtain ⟨k, rfl⟩ : ∃ m, k = m + 1 := ⟨k - 1, by omega⟩
  have hj : ∀ b, ∃ r, boltingref04_Row.j0 (k + 1) b x.f0 x.f1 x.f2 x.f3 x.f4 = some r := fun b => by
    simp only [boltingref04_Row.j0]
    cases b with
    | true => rw [if_pos rfl]; split <;> exact ⟨_, rfl⟩
    | false => rw [if_neg (by simp)]; exact row_l0 x.f4 hl x.f0 x.f1 x.f2 x.f3 x.f4.length 0 (by omega) k (by omega)
  unfold boltingref04_Row.f
  split
  · exact hj _
  · exact hj _
theorem right_l0 (l : List S34) (hl : l.length ≤ 40) (ha : ∀ x ∈ l, x.f4.length ≤ 8) (d i : Nat) : i + d = l.length → ∀ k, 2 * d + 200 ≤ k → ∃ b, boltingref04_Right.l0 k l (i : Int) = some b := by
  induction d generalizing i with
  | zero =>
    intro h k hk
    obtain ⟨k, rfl⟩ : ∃ m, k = m + 1 := ⟨k - 1, by omega⟩
    simp only [boltingref04_Right.l0]
    rw [if_neg (by omega)]
    exact ⟨_, rfl⟩
  | succ d ih =>
    intro h k hk
    obtain ⟨k, rfl⟩ : ∃ m, k = m + 2 := ⟨k - 2, by omega⟩
    obtain ⟨x, hx⟩ := get_some (show i < l.length by omega)
    have hj : ∀ y b, ∃ r, boltingref04_Right.j1 (k + 1) l (i : Int) y b = some r := fun y b => by
      have := ih (i + 1) (by omega) k (by omega)
      have hw : wrap64 ((i : Int) + 1) = ((i + 1 : Nat) : Int) := by rw [wrap_succ (by omega) (by omega)]; omega
      simp only [boltingref04_Right.j1]
      rw [hw]
      cases b with
      | true => rw [if_pos rfl]; exact ⟨_, rfl⟩
      | false =>
        rw [if_neg (by simp)]
        by_cases h0 : (i : Int) > 0
        · rw [if_pos h0, wrap_id (i := (i : Int) - 1) (by omega) (by omega), if_pos (by omega), if_pos (by omega)]
          split
          · exact ⟨_, rfl⟩
          · split
            · split
              · exact this
              · exact ⟨_, rfl⟩
            · exact this
        · rw [if_neg h0]; exact this
    obtain ⟨b, hb⟩ := row_f x (ha x (List.mem_of_getElem? hx)) (k := k + 1) (by omega)
    simp only [boltingref04_Right.l0]
    rw [if_pos (by omega), if_pos (by omega), t37_at hx, hb]
    simp only [Option.bind_some]
    split
    · split
      · exact hj _ _
      · split
        · exact hj _ _
        · exact hj _ _
    · exact hj _ _
theorem right_some (l : List S34) (hl : l.length ≤ 40) (ha : ∀ x ∈ l, x.f4.length ≤ 8) {k : Nat} (hk : 300 ≤ k) : ∃ b, boltingref04_Right.f k l = some b :=
  right_l0 l hl ha l.length 0 (by omega) k (by omega)

end Go.Proofs.Ytakhldahohooiaa.Pure
/- RunScripts: the scripts that run are the reference's, twice over; so is whether rows would run nothing. Plain Lean. -/
namespace Go.Proofs.Ytakhldahohooiaa.Pure
set_option linter.unusedVariables false
set_option linter.unusedSimpArgs false
open Go.RowKit Go.Proofs.Ytakhldahohooiaa.Pr Go.Proofs.Ytakhldahohooiaa.Tree Go.Proofs.YtakhldahohooiaaW.PrintWords Go.Proofs.YtakhldahohooiaaW.PrintLast Go.Proofs.YtakhldahohooiaaW.PrintMore

theorem turn_l1 (l : List S34) (t : Int) (K : Nat) (hK : ∀ k, K ≤ k → boltinglaw19_RunScripts.l0 k l (wrap64 (t + 1)) = some true) (d : Nat) : ∀ (s : List S30) (j : Nat), s.length ≤ 1000 → j + d = s.length → ∀ k, K + d + 1 ≤ k → boltinglaw19_RunScripts.l1 k l t s (j : Int) = some true := by
  induction d with
  | zero =>
    intro s j hs h k hk
    obtain ⟨k, rfl⟩ : ∃ m, k = m + 1 := ⟨k - 1, by omega⟩
    simp only [boltinglaw19_RunScripts.l1]
    rw [if_neg (by omega)]
    exact hK k (by omega)
  | succ d ih =>
    intro s j hs h k hk
    obtain ⟨k, rfl⟩ : ∃ m, k = m + 1 := ⟨k - 1, by omega⟩
    simp only [boltinglaw19_RunScripts.l1]
    rw [if_pos (by omega), if_pos (by omega), wrap_succ (by omega) (by omega)]
    exact ih _ (j + 1) (by rw [List.length_set]; omega) (by rw [List.length_set]; omega) k (by omega)
theorem RunScripts (l0 : List S34)
    (hS : ∀ x ∈ l0, (Lit.int .i64 x.f0).wf = true ∧ (Lit.int .i64 x.f1).wf = true ∧ yes x.f2 ∧ yes x.f3 ∧ ∀ y ∈ x.f4, yes y.f0 ∧ yes y.f1)
    (hl : l0.length ≤ 9223372036854775807) (hU : wL wR l0 + 0 ≤ 1048576) : ∃ k, boltinglaw19_RunScripts.f k l0 = some true := by
  obtain ⟨k, hk⟩ : ∃ k, 10000000 ≤ k := ⟨_, Nat.le_refl _⟩
  refine ⟨k, ?_⟩
  unfold boltinglaw19_RunScripts.f
  rw [bound_f l0 hl (by omega)]
  simp only [Option.bind_some]
  have hlen := bnd_len l0
  have hp : ∀ x ∈ l0, x.f2.size ≤ 1048576 ∧ x.f3.size ≤ 1048576 ∧ ∀ y ∈ x.f4, y.f0.size ≤ 1048576 ∧ y.f1.size ≤ 1048576 := fun x hx => wR_parts (by have := wL_mem wR hx; omega)
  have hs : ∀ x ∈ bnd40 l0, x.f2.size ≤ 1048576 ∧ ∀ y ∈ x.f4, y.f0.size ≤ 1048576 ∧ y.f1.size ≤ 1048576 := fun x hx => by
    obtain ⟨y, hy, rfl⟩ := bnd_mem hx
    exact ⟨(hp y hy).1, fun z hz => (hp y hy).2.2 z (List.mem_of_mem_take hz)⟩
  have ha : ∀ x ∈ bnd40 l0, x.f4.length ≤ 1000 := fun x hx => by
    obtain ⟨y, hy, rfl⟩ := bnd_mem hx
    have := cut8_len y
    omega
  have ha8 : ∀ x ∈ bnd40 l0, x.f4.length ≤ 8 := fun x hx => by
    obtain ⟨y, hy, rfl⟩ := bnd_mem hx
    exact cut8_len y
  have hd : (datas (bnd40 l0)).length ≤ 140737488355328 := by
    have h1 := datas_bnd l0
    have h2 := datas_w l0
    unfold wL at hU
    omega
  obtain ⟨l, hL⟩ : ∃ l, bnd40 l0 = l := ⟨_, rfl⟩
  rw [hL] at hlen hs ha ha8 hd ⊢
  cases hR : boltingref04_Right.f k l with
  | none =>
    exfalso
    obtain ⟨b, hb⟩ := right_some l hlen ha8 (k := k) (by omega)
    rw [hR] at hb; cases hb
  | some b =>
    simp only [Option.bind_some]
    cases b with
    | false => rw [if_neg (by simp), fixed_f (by omega)]; rfl
    | true =>
      rw [if_pos rfl]
      have hok := right_true (by omega) hR
      have hlast : ∀ k, 8000100 ≤ k → boltinglaw19_RunScripts.l0 k l 2 = some true := fun k hk => by
        obtain ⟨k, rfl⟩ : ∃ m, k = m + 1 := ⟨k - 1, by omega⟩
        simp only [boltinglaw19_RunScripts.l0]
        rw [if_neg (by omega), nothing_f l (by omega) (fun x hx y hy => by have := ((hs x hx).2 y hy).2; omega) (fun x hx y hy => by have := ((hs x hx).2 y hy).1; omega) ha (by omega), rnothing_f l (by omega) hs ha (by omega)]
        simp only [Option.bind_some]
        rw [if_pos (by simp), fixed_f (by omega)]
        rfl
      have hsl : (scrs l 0 l.length).length ≤ 1000 := by have := mem_scrs l 0 l.length; omega
      have hstep : ∀ (t : Int) (K : Nat), 20000 ≤ K → t < 2 → (∀ k, K ≤ k → boltinglaw19_RunScripts.l0 k l (wrap64 (t + 1)) = some true) → ∀ k, K + 2000 ≤ k → boltinglaw19_RunScripts.l0 k l t = some true := by
        intro t K hK0 ht hK k hk
        obtain ⟨k, rfl⟩ : ∃ m, k = m + 1 := ⟨k - 1, by omega⟩
        simp only [boltinglaw19_RunScripts.l0]
        rw [if_pos ht, pscripts_f l (by omega) ha hd (by omega), rscripts_f l (by omega) ha hd hok (by omega)]
        simp only [Option.bind_some]
        rw [same_f _ hsl (by omega)]
        simp only [Option.bind_some]
        rw [if_pos trivial]
        exact turn_l1 l t K hK _ _ 0 hsl (Nat.zero_add _) k (by omega)
      exact hstep 0 8010000 (by omega) (by omega) (fun k hk => by rw [show wrap64 ((0 : Int) + 1) = 1 from wrap_succ (by omega) (by omega)]; exact hstep 1 8000100 (by omega) (by omega) (fun k hk => by rw [show wrap64 ((1 : Int) + 1) = 2 from wrap_succ (by omega) (by omega)]; exact hlast k hk) k (by omega)) k (by omega)
end Go.Proofs.Ytakhldahohooiaa.Pure
/- The row of RunScripts. -/
namespace Go.Proofs.Ytakhldahohooiaa.runScripts
open Go.ChangeShapes Go.WideShapes Go.ChangeAt Go.RowKit
open Go.ChangeMaps (open_string shut_string)
set_option linter.unusedVariables false
set_option linter.unusedSimpArgs false
theorem own : ownKnob Try.prog.godebug = none := by kernel_rfl
theorem laidOut : laidOutB Try.prog = true := by kernel_rfl
set_option maxRecDepth 100000 in
theorem lifted (os : Os) (started : os.Started) (H : Type) (enc : TypeId × Value → H) (F : Stop.Interp) :
    ReturnsInHanded {} Try.checked os 3 .any ((Rows.OpenSpec.upto Rows.runScriptsSpec).pre6 enc Try.prog Try.f3 Rows.runScriptsUptoRow.domain false) (((Rows.OpenSpec.upto Rows.runScriptsSpec).at F).post enc Try.prog Try.f3 false true false false) := by
  refine returnsInHanded_of_cond_sized (C := Try.checked) (s := Rows.OpenSpec.upto Rows.runScriptsSpec) (k := Rows.uptoSmall) rfl own started (by kernel_rfl) Try.func3
    (OpenSpec.witness (enc := enc) (C := Try.checked) (s := Rows.OpenSpec.upto Rows.runScriptsSpec) (k := Rows.uptoSmall) rfl false ⟨#[], #[.slice none 0 0], []⟩ 8 (by kernel_rfl) (by kernel_rfl) (by kernel_rfl)
      (x := ([.nil], [], [])) (by kernel_rfl) rfl (by kernel_rfl)) ?_
  intro W base args ds gs before hval0 hW hcnd hkk hsz0 _
  have hsz : (DataW.weightsEach Try.prog (Try.f3.params.toList ++ Rows.runScriptsSpec.plain.varTypes Try.prog) (ds ++ gs)).all (· ≤ reachBytes) = true := hsz0
  have hval : ∀ (j : Nat) t v, Try.f3.params[j]? = some t → args[j]? = some v → Value.okWide Try.prog W .any base t v := hval0
  have hW' := hW
  obtain ⟨p, q, hA0, hV, rfl, hfz, hnd⟩ := hW
  have hA : DataW.TrodAll enc Try.prog W 0 (fun _ => true) true Try.f3.params.toList args.toList ds p := hA0
  rw [Try.params3] at hA hval hsz
  obtain ⟨v0, vs0, d0, ds0, p0, q0, hargs, rfl, rfl, h0, r0⟩ := trodAll_cons hA
  obtain ⟨rfl, rfl, rfl⟩ := trodAll_nil r0
  obtain rfl : args = #[v0] := by cases args; simp_all
  obtain ⟨rfl, rfl⟩ := trodVars_none hV
  have k0 := h0
  have lt0 : ∀ x ∈ p0, x.block < W.heap.size := by obtain ⟨m, hm⟩ := k0; exact DataW.trod_lt m _ _ _ hm
  obtain ⟨sa0, sn0, sc0, rfl⟩ := okWide_slice Try.underlying22 (hval 0 22 v0 rfl rfl)
  obtain ⟨fu0, hf0⟩ := h0
  obtain ⟨A0, c0, l0, hv0, hc0, hm0, hr0, hS0, hU0⟩ := opensU_row Try.underlying22 (opensU_struct (fun x : Pr.S34 => (x.f0, x.f1, x.f2, x.f3, x.f4)) Try.underlying34 rfl (by kernel_rfl) (opensTailU_cons rfl (opensU_int (by kernel_rfl) Try.underlying3) (opensTailU_cons rfl (opensU_int (by kernel_rfl) Try.underlying3) (opensTailU_cons rfl (opensU_string (by kernel_rfl) Try.underlying9) (opensTailU_cons rfl (opensU_string (by kernel_rfl) Try.underlying9) (opensTailU_last rfl (opensU_slice (by kernel_rfl) Try.underlying32 (opensU_struct (fun x : Pr.S39 => (x.f0, x.f1)) Try.underlying39 rfl (by kernel_rfl) (opensTailU_cons rfl (opensU_string (by kernel_rfl) Try.underlying9) (opensTailU_last rfl (opensU_string (by kernel_rfl) Try.underlying9))) (fun a => ⟨⟨a.1, a.2⟩, rfl⟩)))))))) (fun a => ⟨⟨a.1, a.2.1, a.2.2.1, a.2.2.2.1, a.2.2.2.2⟩, rfl⟩)) hf0
  obtain ⟨rfl, rfl, rfl⟩ : sa0 = A0 ∧ sn0 = l0.length ∧ sc0 = c0 := by simpa [Value.cells] using hv0
  clear hA0 hval0 hsz0 hsz
  have hU : Rows.uptoBulkAll (_ ++ _) ≤ 1048576 := of_decide_eq_true hkk
  simp only [List.append_nil, List.nil_append, List.cons_append, Rows.uptoBulkAll] at hU
  obtain ⟨k, hk⟩ := Pure.RunScripts l0 hS0 (Nat.le_trans hc0 (Nat.le_trans hm0 (by decide))) (Nat.le_trans (Nat.add_le_add hU0 (Nat.le_refl 0)) hU)
  refine (Pr.boltinglaw19_RunScripts.calls k sa0 sc0 l0 true W hr0 hc0 hk).mono fun e W' ⟨he, bel0⟩ => ?_
  have bel : Below W.heap.size W W' := by first | exact bel0 | exact below_of_drawn0 bel0
  subst he
  exact ⟨_, rfl, _, _, _, [], _, [], hW', trodAll_mk1 (shut_bool Try.underlying4 _), (trodAll_cons_mk (Below.trod laidOut (by kernel_rfl) (of_decide_eq_true (by kernel_rfl)) k0 bel lt0) trodAll_mk0), rfl, bel.frame _, fun h => by cases h⟩
theorem over : Rows.runScriptsUptoRow.holds Try.pinned (Rows.OpenSpec.upto Rows.runScriptsSpec) :=
  OpenClaim.holds_of_cond 3 Try.f3 rfl rfl rfl rfl rfl rfl rfl ⟨rfl, rfl, rfl, rfl, rfl⟩ rfl rfl rfl rfl rfl (by kernel_rfl) Try.func3 (by kernel_rfl)
    (of_decide_eq_true (by kernel_rfl)) (by unfold Func.isWrapper; first | (rw [if_pos (by decide +kernel)]; kernel_rfl) | (rw [if_neg (by decide +kernel)]; exact ⟨rfl, rfl⟩))
    (fun os started H enc _ F => lifted os started H enc F)
theorem proved : Rows.RunScriptsUptoSaid := over
#print axioms proved
end Go.Proofs.Ytakhldahohooiaa.runScripts
namespace Go.Proofs.Ytakhldahohooiaa
/-- The row, under a short name, for the claim. -/
theorem runScripts_holds : Rows.RunScriptsUptoSaid := runScripts.proved
end Go.Proofs.Ytakhldahohooiaa
