/- strings.Cut at a separator of one byte; fold.Letter. -/
import Derived.Test.YthnakndpdfgapaaShelf
import Derived.Test.YthnakndpdfgapaaBase
import Derived.RegionTactic
namespace Go.Proofs.Ythnakndpdfgapaa
set_option linter.unusedVariables false
set_option linter.unusedSimpArgs false
open Go.RowKit

def bef (c : UInt8) (l : List UInt8) : List UInt8 := l.takeWhile (· != c)
def aft (c : UInt8) (l : List UInt8) : List UInt8 := (l.dropWhile (· != c)).drop 1
theorem indexByte_bef (c : UInt8) : ∀ l : List UInt8, Lib.indexByte l c = if l.contains c then ((bef c l).length : Int) else -1
  | [] => rfl
  | b :: l => by
    unfold Lib.indexByte bef
    have ih := indexByte_bef c l
    by_cases hb : b = c
    · subst hb; simp
    · have h1 : (b == c) = false := by simpa using hb
      have h2 : (b != c) = true := by simpa using hb
      have h3 : (b :: l).contains c = l.contains c := by rw [List.contains_cons]; simp [Ne.symm hb]
      rw [h1, h3]
      simp only [Bool.false_eq_true, if_false, List.takeWhile_cons, h2, if_true, List.length_cons]
      rw [ih]
      unfold bef
      split
      · rw [if_neg (by rw [beq_iff_eq]; omega)]
        push_cast
        rfl
      · simp
theorem bef_take (c : UInt8) (l : List UInt8) : l.take (bef c l).length = bef c l := (List.prefix_iff_eq_take.1 (List.takeWhile_prefix _)).symm
theorem bef_all {c : UInt8} : ∀ {l : List UInt8}, l.contains c = false → bef c l = l ∧ aft c l = []
  | [], _ => ⟨rfl, rfl⟩
  | b :: l, h => by
    have h1 : b ≠ c ∧ l.contains c = false := by
      rw [List.contains_cons] at h
      simp at h
      exact ⟨fun e => h.1 e.symm, by simpa using h.2⟩
    obtain ⟨e1, e2⟩ := bef_all h1.2
    have h2 : (b != c) = true := by simpa using h1.1
    unfold bef aft at *
    simp only [List.takeWhile_cons, List.dropWhile_cons, h2, if_true]
    exact ⟨by rw [e1], e2⟩
theorem aft_drop (c : UInt8) : ∀ l : List UInt8, l.drop ((bef c l).length + 1) = aft c l
  | [] => rfl
  | b :: l => by
    have ih := aft_drop c l
    unfold bef aft at *
    simp only [List.takeWhile_cons, List.dropWhile_cons]
    split
    · simpa using ih
    · simp
theorem bef_lt {c : UInt8} : ∀ {l : List UInt8}, l.contains c = true → (bef c l).length < l.length
  | [], h => by simp at h
  | b :: l, h => by
    unfold bef
    simp only [List.takeWhile_cons]
    by_cases hb : b = c
    · subst hb; simp
    · have h2 : (b != c) = true := by simpa using hb
      rw [h2]
      have h3 : l.contains c = true := by rw [List.contains_cons] at h; simpa [Ne.symm hb] using h
      have := bef_lt h3
      unfold bef at this
      simpa using this
theorem bef_le (c : UInt8) (l : List UInt8) : (bef c l).length ≤ l.length := (List.takeWhile_sublist _).length_le
theorem aft_le (c : UInt8) (l : List UInt8) : (aft c l).length ≤ l.length := by rw [← aft_drop]; simp
set_option maxHeartbeats 1000000 in
set_option maxRecDepth 100000 in
theorem slite_cut_calls (c : UInt8) (s : ByteArray) (w : World) (hs : s.size ≤ 140737488351232) :
    Calls Try.prog 32 #[.string s, .string ⟨#[c]⟩] w fun e w' => e = .returned (.tuple #[.string ⟨(bef c s.data.toList).toArray⟩, .string ⟨(aft c s.data.toList).toArray⟩, .bool (s.data.toList.contains c)]) ∧ ∃ n, w' = w.drewN n := by
  have hix := indexByte_bef c s.data.toList
  cases hcon : s.data.toList.contains c with
  | false =>
    rw [hcon, if_neg (by simp)] at hix
    obtain ⟨e1, e2⟩ := bef_all hcon
    rw [e1, e2, show (⟨s.data.toList.toArray⟩ : ByteArray) = s from by simp]
    clear hcon e1 e2
    have hix' := hid hix
    clear hix
    go_enter Try.func32, Try.ntmps32
    go_wp2_with (go_at_call 36; refine (Try.stringslite_Index_one s c w).mono ?_; rintro e w' ⟨rfl, rfl⟩; rw [hix'.out])
    go_ret3
    exact ⟨rfl, 0, rfl⟩
  | true =>
    rw [hcon, if_pos rfl] at hix
    have hlt := bef_lt hcon
    rw [← Lib.size_eq] at hlt
    clear hcon
    have e1 := bef_take c s.data.toList
    have e2 := aft_drop c s.data.toList
    obtain ⟨n, hn⟩ : ∃ n, (bef c s.data.toList).length = n := ⟨_, rfl⟩
    rw [hn] at hix hlt e1 e2
    have hix' := hid hix
    have e1' := hid e1
    have e2' := hid e2
    clear hix e1 e2 hn
    have c1 : (0 : Int) ≤ ↑n := by omega
    have c2 : (↑n : Int) ≤ ↑s.size := by omega
    have c3 : (0 : Int) ≤ ↑n + 1 := by omega
    have c4 : (↑n + 1 : Int) ≤ ↑s.size := by omega
    go_enter Try.func32, Try.ntmps32
    go_wp2_with (go_at_call 36; refine (Try.stringslite_Index_one s c w).mono ?_; rintro e w' ⟨rfl, rfl⟩; rw [hix'.out])
    go_region
    go_wp2
    go_ret3
    refine ⟨?_, 1, rfl⟩
    rw [← e1'.out, ← e2'.out, ← extract_pre, ← extract_suf]
    rfl

set_option maxHeartbeats 1000000 in
theorem cut_calls (c : UInt8) (s : ByteArray) (w : World) (hs : s.size ≤ 140737488351232) :
    Calls Try.prog 21 #[.string s, .string ⟨#[c]⟩] w fun e w' => e = .returned (.tuple #[.string ⟨(bef c s.data.toList).toArray⟩, .string ⟨(aft c s.data.toList).toArray⟩, .bool (s.data.toList.contains c)]) ∧ ∃ n, w' = w.drewN n := by
  obtain ⟨B, hB⟩ : ∃ B, (⟨(bef c s.data.toList).toArray⟩ : ByteArray) = B := ⟨_, rfl⟩
  obtain ⟨A, hA⟩ : ∃ A, (⟨(aft c s.data.toList).toArray⟩ : ByteArray) = A := ⟨_, rfl⟩
  obtain ⟨C, hC⟩ : ∃ C, s.data.toList.contains c = C := ⟨_, rfl⟩
  have h := slite_cut_calls c s w hs
  rw [hB, hA, hC] at h ⊢
  clear hB hA hC
  have h' := hid h
  clear h
  go_enter Try.func21, Try.ntmps21
  go_wp2_with (go_at_call 32; refine h'.out.mono ?_; rintro e w' ⟨rfl, n, rfl⟩)
  go_ret3
  exact ⟨rfl, n, rfl⟩

end Go.Proofs.Ythnakndpdfgapaa
