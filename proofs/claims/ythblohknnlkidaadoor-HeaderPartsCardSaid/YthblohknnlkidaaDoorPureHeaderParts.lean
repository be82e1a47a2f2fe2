/- What directives are; no condition. -/
import Derived.Test.YthblohknnlkidaaDoorHeaderLaws
import Derived.Test.YthblohknnlkidaaDoorRefWords
import Derived.Test.YthblohknnlkidaaDoorPrx8
namespace Go.Proofs.YthblohknnlkidaaDoor.Pure
set_option linter.unusedVariables false
set_option linter.unusedSimpArgs false
open Go.RowKit Go.Proofs.YthblohknnlkidaaDoor.Pr Go.Proofs.YthblohknnlkidaaDoorW.PrintWords Go.Proofs.YthblohknnlkidaaDoorW.PrintLast

theorem parts_l2 (P : List (List (List UInt8))) (hP : P.length ≤ 1000) (hok : ∀ d ∈ P, okPart d) (hon : (heads P).Nodup) (i : Nat) (hi : i < P.length) (m : Nat) (next : ∀ k, m < k → boltinglaw15_HeaderParts.l0 k (OO P) ((i : Int) + 1) = some true) :
    ∀ (e j : Nat), j + e = i → ∀ k, m + e + 1 < k → boltinglaw15_HeaderParts.l2 k (OO P) (i : Int) (j : Int) = some true
  | 0, j, h, k, hk => by
    obtain ⟨k, rfl⟩ : ∃ m, k = m + 1 := ⟨k - 1, by omega⟩
    simp only [boltinglaw15_HeaderParts.l2]
    rw [if_neg (by omega), wrap_succ (by omega) (by omega)]
    exact next k (by omega)
  | e + 1, j, h, k, hk => by
    obtain ⟨k, rfl⟩ : ∃ m, k = m + 1 := ⟨k - 1, by omega⟩
    obtain ⟨x, hx⟩ := get_some (show j < P.length by omega)
    obtain ⟨y, hy⟩ := get_some (show i < P.length by omega)
    obtain ⟨⟨x0, xt, rfl, _⟩, _⟩ := hok x (List.mem_iff_getElem?.2 ⟨j, hx⟩)
    obtain ⟨⟨y0, yt, rfl, _⟩, _⟩ := hok y (List.mem_iff_getElem?.2 ⟨i, hy⟩)
    have hne : x0 ≠ y0 := by
      have gx : (heads P)[j]? = some x0 := by unfold heads; rw [List.getElem?_map, hx]; rfl
      have gy : (heads P)[i]? = some y0 := by unfold heads; rw [List.getElem?_map, hy]; rfl
      intro e
      subst e
      have hl : (heads P).length = P.length := List.length_map _
      have a1 : (heads P)[j]'(by omega) = x0 := Option.some.inj ((List.getElem?_eq_getElem _).symm.trans gx)
      have a2 : (heads P)[i]'(by omega) = x0 := Option.some.inj ((List.getElem?_eq_getElem _).symm.trans gy)
      have := (List.getElem_inj hon).1 (a1.trans a2.symm)
      omega
    simp only [boltinglaw15_HeaderParts.l2]
    rw [if_pos (by omega), if_pos (by omega), OO_len, if_pos (by omega), OO_at hx, OO_at hy, SS_len, SS_len, if_pos (by simp; try omega), if_pos (by omega), if_pos (by omega), if_pos (by simp; try omega), SS_zero, SS_zero, mkS_toList, mkS_toList, if_neg hne, wrap_succ (by omega) (by omega)]
    exact parts_l2 P hP hok hon i hi m next e (j + 1) (by omega) k (by omega)
theorem parts_l1' (P : List (List (List UInt8))) (hP : P.length ≤ 1000) (hok : ∀ d ∈ P, okPart d) (hwz : ∀ d ∈ P, d.length ≤ 1000 ∧ ∀ x ∈ d, x.length ≤ 100000) (hon : (heads P).Nodup) (i : Nat) (x : List (List UInt8)) (hx : P[i]? = some x) (m : Nat) (next : ∀ k, m < k → boltinglaw15_HeaderParts.l0 k (OO P) ((i : Int) + 1) = some true) :
    ∀ (e j : Nat), j + e = x.length → ∀ k, m + e + 100000 + i + 3 < k → boltinglaw15_HeaderParts.l1 k (OO P) (i : Int) (j : Int) = some true
  | 0, j, h, k, hk => by
    have hi : i < P.length := (List.getElem?_eq_some_iff.1 hx).1
    obtain ⟨k, rfl⟩ : ∃ m, k = m + 1 := ⟨k - 1, by omega⟩
    simp only [boltinglaw15_HeaderParts.l1]
    rw [if_pos (by omega), OO_len, if_pos (by omega), OO_at hx, SS_len, if_neg (by omega)]
    exact parts_l2 P hP hok hon i hi m next i 0 (by omega) k (by omega)
  | e + 1, j, h, k, hk => by
    have hi : i < P.length := (List.getElem?_eq_some_iff.1 hx).1
    have hxm : x ∈ P := List.mem_iff_getElem?.2 ⟨i, hx⟩
    obtain ⟨k, rfl⟩ : ∃ m, k = m + 1 := ⟨k - 1, by omega⟩
    obtain ⟨v, hv⟩ := get_some (show j < x.length by omega)
    have hvm : v ∈ x := List.mem_iff_getElem?.2 ⟨j, hv⟩
    obtain ⟨hv1, hv2⟩ := (hok x hxm).2 v hvm
    have hvz := (hwz x hxm).2 v hvm
    have hxz := (hwz x hxm).1
    have hW : boltingref02_Words.f k (mkS v) = some (SS [v]) := by
      have := ref_words (mkS v) (by rw [mkS_size]; omega) (k := k) (by rw [mkS_size]; omega)
      rw [mkS_list, words_one hv2 hv1] at this
      exact this
    simp only [boltinglaw15_HeaderParts.l1]
    rw [if_pos (by omega), OO_len, if_pos (by omega), OO_at hx, SS_len, if_pos (by omega), if_pos (by omega), SS_at hv, mkS_toList, if_neg hv1, hW]
    simp only [Option.bind_some]
    rw [if_pos (by rw [SS_len]; rfl), wrap_succ (by omega) (by omega)]
    exact parts_l1' P hP hok hwz hon i x hx m next e (j + 1) (by omega) k (by omega)
theorem parts_l0' (P : List (List (List UInt8))) (hP : P.length ≤ 1000) (hok : ∀ d ∈ P, okPart d) (hwz : ∀ d ∈ P, d.length ≤ 1000 ∧ ∀ x ∈ d, x.length ≤ 100000) (hon : (heads P).Nodup) (B : Nat) (hB : 150000 ≤ B) : ∀ (e i : Nat), i + e = P.length → ∀ k, 1000 + e * B < k → boltinglaw15_HeaderParts.l0 k (OO P) (i : Int) = some true
  | 0, i, h, k, hk => by
    obtain ⟨k, rfl⟩ : ∃ m, k = m + 1 := ⟨k - 1, by omega⟩
    simp only [boltinglaw15_HeaderParts.l0]
    rw [if_neg (by rw [OO_len]; omega), fixed_true (by omega)]
    rfl
  | e + 1, i, h, k, hk => by
    obtain ⟨k, rfl⟩ : ∃ m, k = m + 1 := ⟨k - 1, by omega⟩
    rw [Nat.succ_mul] at hk
    obtain ⟨x, hx⟩ := get_some (show i < P.length by omega)
    have hxm : x ∈ P := List.mem_iff_getElem?.2 ⟨i, hx⟩
    have hxz := hwz x hxm
    obtain ⟨⟨x0, xt, rfl, hl⟩, _⟩ := hok x hxm
    have hx0 := hxz.2 x0 (by simp)
    have hL : boltingref02_Lower.f (mkS x0) = some (mkS (lower x0)) := bnd_of _ (by rw [mkS_size]; omega)
    simp only [boltinglaw15_HeaderParts.l0]
    rw [OO_len, if_pos (by omega), if_pos (by omega), OO_at hx, SS_len, if_neg (by simp; try omega), if_pos (by simp; try omega), SS_zero, hL]
    simp only [Option.bind_some]
    rw [hl]
    obtain ⟨k, rfl⟩ : ∃ m, k = m + 1 := ⟨k - 1, by omega⟩
    have hj : boltinglaw15_HeaderParts.j1 (k + 1) (OO P) (i : Int) ((mkS x0).toList != (mkS x0).toList) = boltinglaw15_HeaderParts.l1 k (OO P) (i : Int) 0 := by
      simp only [boltinglaw15_HeaderParts.j1]
      rw [if_neg (by simp)]
    rw [hj]
    exact parts_l1' P hP hok hwz hon i (x0 :: xt) hx (1000 + e * B) (fun k hk => parts_l0' P hP hok hwz hon B hB e (i + 1) (by omega) k hk) (x0 :: xt).length 0 (by omega) k (by have := hxz.1; omega)
theorem HeaderParts : boltinglaw15_HeaderParts.Pure := by
  intro a0 h0
  obtain ⟨h1, h2, h3⟩ := takeS a0 500 (by omega)
  obtain ⟨K, hK⟩ : ∃ K, 300000001 ≤ K := ⟨_, Nat.le_refl _⟩
  refine ⟨K, ?_⟩
  unfold boltinglaw15_HeaderParts.f
  rw [if_pos h1, if_pos h2]
  generalize a0.extract 0 (mn (a0.size : Int) 500).toNat = X at h3 ⊢
  have hX : X.size ≤ 500 := by omega
  have hc := partsL_count X.data.toList
  have hw := partsL_words X.data.toList
  rw [← Lib.size_eq] at hc hw
  rw [parts_f X (by omega) (by omega)]
  simp only [Option.bind_some]
  obtain ⟨B, hB⟩ : ∃ B, B = 200000 := ⟨_, rfl⟩
  exact parts_l0' _ (by omega) (partsL_ok _) (fun d hd => ⟨by have := (hw d hd).1; omega, fun x hx => by have := (hw d hd).2 x hx; omega⟩) (partsL_once _) B (by omega) _ 0 (Nat.zero_add _) K (by
    have : (partsL X.data.toList).length * B ≤ 501 * B := Nat.mul_le_mul_right _ (by omega)
    omega)
end Go.Proofs.YthblohknnlkidaaDoor.Pure
