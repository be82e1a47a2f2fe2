/- FoldFinds of the document's chapter 02: it answers true whatever the input. -/
import Derived.Test.YtmbmjaiggefjmaaFoldRef2
import Derived.Test.YtmbmjaiggefjmaaPrx13
namespace Go.Proofs.Ytmbmjaiggefjmaa
set_option linter.unusedVariables false
set_option linter.unusedSimpArgs false
open Go.RowKit Go.Proofs.Ytmbmjaiggefjmaa.Pr Go.Proofs.Ytmbmjaiggefjmaa.Pure Go.Proofs.YtmbmjaiggefjmaaW.PrintWords Go.Proofs.YtmbmjaiggefjmaaW.PrintLast
theorem mn60 (n : Nat) : 0 ≤ mn (n : Int) 60 ∧ mn (n : Int) 60 ≤ (n : Int) ∧ mn (n : Int) 60 ≤ 60 := by
  unfold mn; split <;> omega
theorem up_at {s : List (List UInt8)} (h : Up s) {i j : Nat} {x y : List UInt8} (hij : i < j) (hx : s[i]? = some x) (hy : s[j]? = some y) : x < y := by
  have hj := (List.getElem?_eq_some_iff.1 hy).1
  have := List.pairwise_iff_getElem.1 h i j (by omega) hj hij
  rw [List.getElem?_eq_getElem (by omega)] at hx
  rw [List.getElem?_eq_getElem hj] at hy
  cases hx; cases hy; exact this
theorem is_l0 {s : List (List UInt8)} (h : Up s) (hs : s.length ≤ 1000000) : ∀ (d i : Nat), i + d = s.length → 1 ≤ i → ∀ k, d < k → boltingref02_Is.l0 k (SS s) (i : Int) = some true
  | 0, i, hi, h1, k, hk => by
    obtain ⟨k, rfl⟩ : ∃ m, k = m + 1 := ⟨k - 1, by omega⟩
    simp only [boltingref02_Is.l0]
    rw [if_neg (by rw [SS_len]; omega)]
  | d + 1, i, hi, h1, k, hk => by
    obtain ⟨k, rfl⟩ : ∃ m, k = m + 1 := ⟨k - 1, by omega⟩
    obtain ⟨i, rfl⟩ : ∃ j, i = j + 1 := ⟨i - 1, by omega⟩
    obtain ⟨x, hx⟩ := get_some (show i < s.length by omega)
    obtain ⟨y, hy⟩ := get_some (show i + 1 < s.length by omega)
    simp only [boltingref02_Is.l0]
    rw [show (((i + 1 : Nat) : Int) - 1) = (i : Int) by omega, wrap_id (by omega) (by omega), if_pos (by rw [SS_len]; omega), if_pos (by omega), if_pos (by rw [SS_len]; omega), if_pos (by omega), SS_at hx, SS_at hy, less_f, wrap_succ (by omega) (by omega)]
    rw [show decide (dat (mkS x) < dat (mkS y)) = true from decide_eq_true (up_at h (Nat.lt_succ_self i) hx hy), if_pos rfl]
    exact is_l0 h hs d (i + 1 + 1) (by omega) (by omega) k (by omega)
theorem is_f {s : List (List UInt8)} (h : Up s) (hs : s.length ≤ 1000000) {k : Nat} (hk : s.length < k) : boltingref02_Is.f k (SS s) = some true := by
  unfold boltingref02_Is.f
  cases s with
  | nil =>
    obtain ⟨k, rfl⟩ : ∃ m, k = m + 1 := ⟨k - 1, by omega⟩
    rfl
  | cons x t => exact is_l0 h hs t.length 1 (by simp; omega) (by omega) k (by simp at hk; omega)
theorem finds_l1 (l : List ByteArray) (hl : l.length ≤ 60) (s : List (List UInt8)) (hsd : s = sorted (l.map dat)) (hs : s.length ≤ 60) : ∀ (d i : Nat), i + d = s.length → ∀ k, 200 + d < k → boltinglaw02_FoldFinds.l1 k l (SS s) (i : Int) = some true
  | 0, i, h, k, hk => by
    obtain ⟨k, rfl⟩ : ∃ m, k = m + 1 := ⟨k - 1, by omega⟩
    have hu : Up s := by rw [hsd]; exact sorted_up _
    simp only [boltinglaw02_FoldFinds.l1]
    rw [if_neg (by rw [SS_len]; omega), sorted_f (SS s) (by rw [SS_len]; omega), SS_dat, sorted_of_up hu]
    simp only [Option.bind_some]
    rw [equal_f (SS s) (by rw [SS_len]; omega) (by rw [SS_len]; omega)]
    simp only [Option.bind_some, if_true]
    have m2 : minus l (SS s) = [] := by
      unfold minus
      refine List.filter_eq_nil_iff.2 (fun x hx => ?_)
      rw [mem_SS, decide_eq_true (show dat x ∈ s by rw [hsd, sorted_mem]; exact List.mem_map.2 ⟨x, hx, rfl⟩)]
      simp
    rw [minus_f l (SS s) (by omega) (by rw [SS_len]; omega) (by rw [SS_len]; omega), m2]
    simp only [Option.bind_some]
    rw [if_pos (by rfl), fixed_f (by omega)]
    rfl
  | d + 1, i, h, k, hk => by
    obtain ⟨k, rfl⟩ : ∃ m, k = m + 1 := ⟨k - 1, by omega⟩
    have hu : Up s := by rw [hsd]; exact sorted_up _
    obtain ⟨x, hx⟩ := get_some (show i < s.length by omega)
    have hmem : x ∈ s := List.mem_of_getElem? hx
    simp only [boltinglaw02_FoldFinds.l1]
    rw [if_pos (by rw [SS_len]; omega), if_pos (by omega), SS_at hx, find_f hu (by omega) (mkS x)]
    simp only [Option.bind_some]
    rw [show dat (mkS x) = x from rfl, decide_eq_true hmem, if_pos rfl, belowL_at hu hx, if_pos rfl, has_f l (mkS x) (by omega) (by omega)]
    simp only [Option.bind_some]
    have : mem l (mkS x) = true := by
      rw [hsd, sorted_mem, List.mem_map] at hmem
      obtain ⟨y, hy, e⟩ := hmem
      rw [mem_iff, ← e, show mkS (dat y) = y from mkS_data y]
      exact hy
    rw [this, if_pos rfl, wrap_succ (by omega) (by omega)]
    exact finds_l1 l hl s hsd hs d (i + 1) (by omega) k (by omega)
theorem finds_l0 (l : List ByteArray) (hl : l.length ≤ 60) (s : List (List UInt8)) (hsd : s = sorted (l.map dat)) (hs : s.length ≤ 60) : ∀ (d i : Nat), i + d = l.length → ∀ k, 300 + d < k → boltinglaw02_FoldFinds.l0 k l (SS s) (i : Int) = some true
  | 0, i, h, k, hk => by
    obtain ⟨k, rfl⟩ : ∃ m, k = m + 1 := ⟨k - 1, by omega⟩
    simp only [boltinglaw02_FoldFinds.l0]
    rw [if_neg (by omega)]
    exact finds_l1 l hl s hsd hs s.length 0 (by omega) k (by omega)
  | d + 1, i, h, k, hk => by
    obtain ⟨k, rfl⟩ : ∃ m, k = m + 1 := ⟨k - 1, by omega⟩
    have hu : Up s := by rw [hsd]; exact sorted_up _
    obtain ⟨x, hx⟩ := get_some (show i < l.length by omega)
    have hmem : dat x ∈ s := by rw [hsd, sorted_mem]; exact List.mem_map.2 ⟨x, List.mem_of_getElem? hx, rfl⟩
    have hat := (find_iff (dat x) hu).2 hmem
    have hlt := (List.getElem?_eq_some_iff.1 hat).1
    simp only [boltinglaw02_FoldFinds.l0]
    rw [if_pos (by omega), if_pos (by omega), rd_at hx, find_f hu (by omega) x]
    simp only [Option.bind_some]
    rw [decide_eq_true hmem, if_pos rfl, if_neg (by omega), if_neg (by rw [SS_len]; omega), if_pos (by omega), if_pos (by rw [SS_len]; omega), SS_at hat, show mkS (dat x) = x from mkS_data x, if_pos rfl, wrap_succ (by omega) (by omega)]
    exact finds_l0 l hl s hsd hs d (i + 1) (by omega) k (by omega)
theorem sorted_len (l : List (List UInt8)) : (sorted l).length ≤ l.length := by
  unfold sorted
  have := Lib.compact_length_le (l.mergeSort fun x y => decide (x ≤ y))
  rw [List.length_mergeSort] at this
  exact this
theorem Pure.FoldFinds (l0 : List ByteArray) : ∃ k, boltinglaw02_FoldFinds.f k l0 = some true := by
  obtain ⟨p1, p2, p3⟩ := mn60 l0.length
  refine ⟨1000, ?_⟩
  unfold boltinglaw02_FoldFinds.f
  rw [if_pos p1, if_pos p2]
  simp only [Option.bind_some]
  obtain ⟨l, hl⟩ : ∃ l, l0.take (mn (l0.length : Int) 60).toNat = l := ⟨_, rfl⟩
  have ha : l.length ≤ 60 := by rw [← hl, List.length_take]; omega
  rw [hl, sorted_f l (by omega)]
  simp only [Option.bind_some]
  have hsl : (sorted (l.map dat)).length ≤ 60 := by
    have := sorted_len (l.map dat)
    rw [List.length_map] at this
    omega
  rw [is_f (sorted_up _) (by omega) (by omega)]
  simp only [Option.bind_some, if_true]
  exact finds_l0 l ha _ rfl hsl l.length 0 (by omega) 1000 (by omega)
end Go.Proofs.Ytmbmjaiggefjmaa
