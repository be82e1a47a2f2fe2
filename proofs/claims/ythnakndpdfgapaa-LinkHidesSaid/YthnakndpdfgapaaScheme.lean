/- link.Scheme, link.Script, link.Source. -/
import Derived.Test.YthnakndpdfgapaaCut
import Derived.Test.YthnakndpdfgapaaLetter
import Derived.Test.YthnakndpdfgapaaLower
import Derived.Test.YthnakndpdfgapaaPercent
import Derived.Lib.TrimU
namespace Go.Proofs.Ythnakndpdfgapaa
set_option linter.unusedVariables false
set_option linter.unusedSimpArgs false
open Go.RowKit Go.Lib

/-- What the closure of Scheme tells of a rune. -/
def oddI (r : Int) : Bool := !(decide (r < 128) && letterI r) && !decide (48 ≤ r ∧ r ≤ 57) && decide (r ≠ 43) && decide (r ≠ 45) && decide (r ≠ 46)
theorem oddI_true (r : Int) : oddI r = true ↔ (r < 128 → letterI r = false) ∧ ¬ (48 ≤ r ∧ r ≤ 57) ∧ r ≠ 43 ∧ r ≠ 45 ∧ r ≠ 46 := by
  unfold oddI
  simp only [Bool.and_eq_true, Bool.not_eq_true', Bool.and_eq_false_imp, decide_eq_true_eq, decide_eq_false_iff_not, and_assoc]
set_option maxHeartbeats 4000000 in
theorem odd_at (w : World) : PredAt Try.prog 23 #[] encR (fun r : Nat => oddI r) w := fun W n _ => by
  unfold FnGives
  obtain ⟨r, hr⟩ : ∃ r : Int, (n : Int) = r := ⟨_, rfl⟩
  have h0 : 0 ≤ r := by omega
  show Calls Try.prog _ #[.int .i32 (n : Int)] W fun e w' => e = .returned (.bool (oddI (n : Int))) ∧ ∃ q, w' = W.drewN q
  rw [hr]
  clear hr
  obtain ⟨B, hB⟩ : ∃ B, oddI r = B := ⟨_, rfl⟩
  have hB' : Hid (B = true ↔ (r < 128 → letterI r = false) ∧ ¬ (48 ≤ r ∧ r ≤ 57) ∧ r ≠ 43 ∧ r ≠ 45 ∧ r ≠ 46) := hB ▸ oddI_true r
  rw [hB]
  clear hB
  rcases (by omega : r < 43 ∨ (43 ≤ r ∧ r ≤ 43) ∨ (44 ≤ r ∧ r ≤ 44) ∨ (45 ≤ r ∧ r ≤ 45) ∨ (46 ≤ r ∧ r ≤ 46) ∨ (47 ≤ r ∧ r ≤ 47) ∨ (48 ≤ r ∧ r ≤ 57) ∨ (58 ≤ r ∧ r ≤ 64) ∨ (65 ≤ r ∧ r ≤ 90) ∨ (91 ≤ r ∧ r ≤ 96) ∨ (97 ≤ r ∧ r ≤ 122) ∨ (123 ≤ r ∧ r ≤ 127) ∨ 128 ≤ r) with h | ⟨h, h'⟩ | ⟨h, h'⟩ | ⟨h, h'⟩ | ⟨h, h'⟩ | ⟨h, h'⟩ | ⟨h, h'⟩ | ⟨h, h'⟩ | ⟨h, h'⟩ | ⟨h, h'⟩ | ⟨h, h'⟩ | ⟨h, h'⟩ | h
  all_goals
    cases hl : letterI r
    all_goals
      first
        | (exfalso; simp [letterI] at hl; omega)
        | (have cl : r < 256 → Calls Try.prog 22 #[.int .u8 r] W _ := fun h1 => letter_calls r W h0 h1
           rw [hl] at cl
           have hl' := hid hl
           clear hl
           go_enter Try.func23, Try.ntmps23
           go_wp2_with (go_at_call 22; refine (cl (by omega)).mono ?_; rintro e w' ⟨rfl, rfl⟩)
           go_ret
           refine ⟨ret_bool ?_, 0, rfl⟩
           have hb := hB'.out
           rw [hl'.out] at hb
           rw [Bool.eq_iff_iff, hb]
           simp
           try omega)

/-- May a byte stand in a scheme? -/
def inScheme (c : UInt8) : Bool := letter c || decide (48 ≤ c.toNat ∧ c.toNat ≤ 57) || decide (c.toNat = 43) || decide (c.toNat = 45) || decide (c.toNat = 46)
theorem letter_lt {c : UInt8} (h : letter c = true) : c.toNat < 128 := by
  unfold letter letterI at h
  simp only [Bool.or_eq_true, decide_eq_true_eq] at h
  omega
theorem inScheme_lt {c : UInt8} (h : inScheme c = true) : c.toNat < 128 := by
  unfold inScheme at h
  simp only [Bool.or_eq_true, decide_eq_true_eq] at h
  rcases h with (((h | h) | h) | h) | h
  · exact letter_lt h
  all_goals omega
theorem odd_in (c : UInt8) (h : c.toNat < 128) : oddI (c.toNat : Int) = true ↔ inScheme c = false := by
  rw [oddI_true]
  unfold inScheme
  simp only [Bool.or_eq_false_iff, decide_eq_false_iff_not]
  show ((c.toNat : Int) < 128 → letter c = false) ∧ _ ↔ _
  constructor
  · rintro ⟨h1, h2, h3, h4, h5⟩
    exact ⟨⟨⟨⟨h1 (by omega), by omega⟩, by omega⟩, by omega⟩, by omega⟩
  · rintro ⟨⟨⟨⟨h1, h2⟩, h3⟩, h4⟩, h5⟩
    exact ⟨fun _ => h1, by omega, by omega, by omega, by omega⟩
theorem odd_big (n : Nat) (h : 128 ≤ n) : oddI (n : Int) = true := by
  rw [oddI_true]
  exact ⟨fun h' => by omega, by omega, by omega, by omega, by omega⟩
theorem idx_odd (s : ByteArray) : ∀ f pos, s.size ≤ pos + f → (0 ≤ Lib.idxFuncFrom (fun r : Nat => oddI r) true s f pos ↔ (s.data.toList.drop pos).all inScheme = false)
  | 0, pos, h => by
    rw [List.drop_of_length_le (by rw [← Lib.size_eq]; omega)]
    simp [Lib.idxFuncFrom]
  | f + 1, pos, h => by
    unfold Lib.idxFuncFrom
    by_cases hp : pos < s.size
    · rw [if_pos hp, drop_one (byte_at s pos hp), List.all_cons]
      by_cases ha : s[pos].toNat < 128
      · rw [decode_ascii s pos hp ha]
        have hoi := odd_in s[pos] ha
        cases hin : inScheme s[pos] with
        | true =>
          have hno : oddI (s[pos].toNat : Int) = false := by
            cases ho : oddI (s[pos].toNat : Int) with
            | true => rw [hoi.1 ho] at hin; cases hin
            | false => rfl
          simp only [hno, Bool.false_eq_true, if_false, Bool.true_and]
          exact idx_odd s f (pos + 1) (by omega)
        | false =>
          simp only [hoi.2 hin, if_true, Bool.false_and, iff_true]
          omega
      · have hb := (decode_high s pos hp (by omega)).1
        have hin : inScheme s[pos] = false := by
          cases hin : inScheme s[pos] with
          | true => exact absurd (inScheme_lt hin) ha
          | false => rfl
        simp only [odd_big _ hb, if_true, hin, Bool.false_and, iff_true]
        omega
    · rw [if_neg hp, List.drop_of_length_le (by rw [← Lib.size_eq]; omega)]
      simp
theorem contains_odd (s : ByteArray) : decide (0 ≤ Lib.idxFunc (fun r : Nat => oddI r) true s) = !s.data.toList.all inScheme := by
  have h := idx_odd s s.size 0 (by omega)
  rw [List.drop_zero] at h
  unfold Lib.idxFunc
  rw [Bool.eq_iff_iff, decide_eq_true_eq, h]
  simp

def okName : List UInt8 → Bool
  | [] => false
  | c :: t => letter c && (c :: t).all inScheme
/-- An address's scheme. -/
def scheme (l : List UInt8) : Option (List UInt8) :=
  if (strip l).contains 58 && okName (bef 58 (strip l)) then some (lower (bef 58 (strip l))) else none

theorem strip_le (l : List UInt8) : (strip l).length ≤ l.length := by
  unfold strip
  refine Nat.le_trans (List.length_filter_le _ _) ?_
  have h1 := tail_le ws (l.dropWhile ws)
  have h2 := (List.dropWhile_sublist ws (l := l)).length_le
  unfold tail at h1
  omega

set_option maxHeartbeats 4000000 in
set_option maxRecDepth 100000 in
theorem scheme_calls (s : ByteArray) (w : World) (hs : s.size ≤ 140737488351232) :
    Calls Try.prog 11 #[.string s] w fun e w' => e = .returned (.tuple #[.string ⟨((scheme s.data.toList).getD []).toArray⟩, .bool (scheme s.data.toList).isSome]) ∧ Below w.heap.size w w' := by
  have hst := strip_calls s w hs
  have hl := strip_le s.data.toList
  rw [← Lib.size_eq] at hl
  unfold scheme
  obtain ⟨T, hT⟩ : ∃ T : ByteArray, (⟨(strip s.data.toList).toArray⟩ : ByteArray) = T := ⟨_, rfl⟩
  have hT' : strip s.data.toList = T.data.toList := by rw [← hT]
  rw [hT'] at hst hl ⊢
  rw [Lib.mk_data] at hst
  rw [← Lib.size_eq] at hl
  clear hT hT'
  have hcut := fun (W : World) => cut_calls 58 T W (by omega)
  obtain ⟨N, hN⟩ : ∃ N : ByteArray, (⟨(bef 58 T.data.toList).toArray⟩ : ByteArray) = N := ⟨_, rfl⟩
  have hN' : bef 58 T.data.toList = N.data.toList := by rw [← hN]
  have hNl := bef_le 58 T.data.toList
  rw [hN', ← Lib.size_eq, ← Lib.size_eq] at hNl
  rw [hN'] at hcut ⊢
  rw [Lib.mk_data] at hcut
  have hlow := fun (W : World) => lower_calls N W (by omega)
  have hcon := fun (W : World) => Try.strings_ContainsFunc 23 #[] (enters_of Try.func23 (by kernel_rfl) rfl) _ N W (odd_at W)
  rw [contains_odd] at hcon
  obtain ⟨R, hR⟩ : ∃ R : ByteArray, (⟨(aft 58 T.data.toList).toArray⟩ : ByteArray) = R := ⟨_, rfl⟩
  rw [hR] at hcut
  clear hR hN hN'
  have hst' := hid hst
  have hcut' := hid hcut
  have hlow' := hid hlow
  have hcon' := hid hcon
  clear hst hcut hlow hcon
  cases hc : T.data.toList.contains 58 with
  | false =>
    rw [hc] at hcut'
    clear hc
    rw [Bool.false_and, if_neg (by simp)]
    go_enter Try.func11, Try.ntmps11
    go_wp2_with (first | (go_at_call 14; refine hst'.out.mono ?_; rintro e w1 ⟨rfl, b1⟩) | (go_at_call 21; refine (hcut'.out _).mono ?_; rintro e w2 ⟨rfl, n2, rfl⟩))
    go_ret2
    exact ⟨rfl, below_drewN' b1 n2⟩
  | true =>
    rw [hc] at hcut'
    clear hc
    rw [Bool.true_and]
    cases hn : N.data.toList with
    | nil =>
      have hN : N = ⟨#[]⟩ := by rw [← Lib.mk_data N, hn]
      subst hN
      rw [show okName [] = false from rfl, if_neg (by simp)]
      clear hn
      go_enter Try.func11, Try.ntmps11
      go_wp2_with (first | (go_at_call 14; refine hst'.out.mono ?_; rintro e w1 ⟨rfl, b1⟩) | (go_at_call 21; refine (hcut'.out _).mono ?_; rintro e w2 ⟨rfl, n2, rfl⟩))
      go_ret2
      exact ⟨rfl, below_drewN' b1 n2⟩
    | cons c t =>
      have hpos : 0 < N.size := by rw [Lib.size_eq, hn]; simp
      have hc0 : N[0] = c := by have := byte_at N 0 hpos; rw [hn] at this; simpa using this.symm
      have hne : ¬ N.toList = [] := by rw [Lib.toList_data, hn]; simp
      have hne' : N.toList.isEmpty = false := by rw [Lib.toList_data, hn]; rfl
      have hlet : ∀ W : World, Calls Try.prog 22 #[.int .u8 ((N[0]'hpos).toNat : Int)] W fun e w' => e = .returned (.bool (letter c)) ∧ w' = W := by rw [hc0]; exact letter_at c
      have hok : okName N.data.toList = (letter c && N.data.toList.all inScheme) := by rw [hn]; rfl
      rw [← hn, hok]
      clear hok hn hc0
      cases hlc : letter c with
      | false =>
        rw [hlc] at hlet
        clear hlc
        have hlet' := hid hlet
        clear hlet
        rw [Bool.false_and, if_neg (by simp)]
        go_enter Try.func11, Try.ntmps11
        go_wp2_with (first | (go_at_call 14; refine hst'.out.mono ?_; rintro e w1 ⟨rfl, b1⟩) | (go_at_call 21; refine (hcut'.out _).mono ?_; rintro e w2 ⟨rfl, n2, rfl⟩) | (go_at_call 22; refine (hlet'.out _).mono ?_; rintro e w3 ⟨rfl, rfl⟩))
        go_ret2
        exact ⟨rfl, below_drewN' b1 n2⟩
      | true =>
        rw [hlc] at hlet
        clear hlc
        have hlet' := hid hlet
        clear hlet
        rw [Bool.true_and]
        cases hal : N.data.toList.all inScheme with
        | false =>
          rw [hal] at hcon'
          clear hal
          rw [if_neg (by simp)]
          go_enter Try.func11, Try.ntmps11
          go_wp2_with (first | (go_at_call 14; refine hst'.out.mono ?_; rintro e w1 ⟨rfl, b1⟩) | (go_at_call 21; refine (hcut'.out _).mono ?_; rintro e w2 ⟨rfl, n2, rfl⟩) | (go_at_call 22; refine (hlet'.out _).mono ?_; rintro e w3 ⟨rfl, rfl⟩) | (go_at_call 24; refine (hcon'.out _).mono ?_; rintro e w4 ⟨rfl, b4⟩))
          go_ret2
          exact ⟨rfl, (below_drewN' b1 n2).trans (b4.mono b1.size)⟩
        | true =>
          rw [hal] at hcon'
          clear hal
          rw [if_pos rfl]
          go_enter Try.func11, Try.ntmps11
          go_wp2_with (first | (go_at_call 14; refine hst'.out.mono ?_; rintro e w1 ⟨rfl, b1⟩) | (go_at_call 21; refine (hcut'.out _).mono ?_; rintro e w2 ⟨rfl, n2, rfl⟩) | (go_at_call 22; refine (hlet'.out _).mono ?_; rintro e w3 ⟨rfl, rfl⟩) | (go_at_call 24; refine (hcon'.out _).mono ?_; rintro e w4 ⟨rfl, b4⟩) | (go_at_call 25; refine (hlow'.out _).mono ?_; rintro e w5 ⟨rfl, b5⟩))
          go_ret2
          exact ⟨rfl, ((below_drewN' b1 n2).trans (b4.mono b1.size)).trans (b5.mono (Nat.le_trans b1.size b4.size))⟩

end Go.Proofs.Ythnakndpdfgapaa
