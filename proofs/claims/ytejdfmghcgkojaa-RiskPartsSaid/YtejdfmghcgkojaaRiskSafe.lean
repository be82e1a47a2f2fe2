/- risk.Safe over rows: plain Lean. -/
import Derived.Test.YtejdfmghcgkojaaRiskFixed
import Derived.Test.YtejdfmghcgkojaaPrx9
namespace Go.Proofs.Ytejdfmghcgkojaa.Pure
set_option linter.unusedVariables false
set_option linter.unusedSimpArgs false
open Go.RowKit Go.Proofs.Ytejdfmghcgkojaa.Pr Go.Proofs.YtejdfmghcgkojaaW.PrintWords Go.Proofs.YtejdfmghcgkojaaW.PrintLast

/-- Is a node safe? -/
def rowB (x : S37) : Bool := if x.f1 = 0 then !mem unsafeL x.f2 && x.f4.all (fun a => !attrB x.f2 a.f0 a.f1) else true
/-- A row whose texts are no longer than texts are. -/
def Fits (x : S37) : Prop := ∀ y ∈ x.f4, y.f1.size ≤ 140737488351232
theorem t37_at {l : List S37} {i : Nat} {x : S37} (h : l[i]? = some x) : rd_T37 l (i : Int) = x := by
  unfold rd_T37
  rw [Int.toNat_natCast, List.getD_eq_getElem?_getD, h]
  rfl
theorem t30_at {l : List S30} {i : Nat} {x : S30} (h : l[i]? = some x) : rd_T30 l (i : Int) = x := by
  unfold rd_T30
  rw [Int.toNat_natCast, List.getD_eq_getElem?_getD, h]
  rfl
/-- The inner loop: the attributes from one on. -/
theorem safe_l1 (l : List S37) (n i : Int) (ats : List S30) (hl : ats.length ≤ 1000000) (e : ByteArray) (f0 f1 : Int) (f3 : ByteArray) (f4 : List S30) (hs : ∀ y ∈ ats, y.f1.size ≤ 140737488351232) (d j : Nat) : j + d = ats.length → ∀ k, d < k →
    risk_Safe.l1 k l n i ats (ats.length : Int) (j : Int) f0 f1 e f3 f4 = if (ats.drop j).all (fun a => !attrB e a.f0 a.f1) = true then risk_Safe.l0 (k - d - 1) l n (wrap64 (i + 1)) else some false := by
  induction d generalizing j with
  | zero =>
    intro h k hk
    obtain ⟨k, rfl⟩ : ∃ m, k = m + 1 := ⟨k - 1, by omega⟩
    simp only [risk_Safe.l1]
    rw [if_neg (by omega), List.drop_of_length_le (by omega)]
    rfl
  | succ d ih =>
    intro h k hk
    obtain ⟨k, rfl⟩ : ∃ m, k = m + 1 := ⟨k - 1, by omega⟩
    obtain ⟨a, ha⟩ := get_some (show j < ats.length by omega)
    simp only [risk_Safe.l1]
    rw [if_pos (by omega), if_pos (by omega), if_pos (by omega), t30_at ha, attr_f e a.f0 a.f1 (hs a (List.mem_of_getElem? ha)), drop_at ha, List.all_cons]
    simp only [Option.bind_some]
    cases hb : attrB e a.f0 a.f1 with
    | true => rw [if_pos rfl]; simp
    | false =>
      rw [if_neg (by simp), wrap_succ (by omega) (by omega)]
      have := ih (j + 1) (by omega) k (by omega)
      rw [show ((j : Int) + 1) = ((j + 1 : Nat) : Int) by omega, this, show k + 1 - (d + 1) - 1 = k - d - 1 by omega]
      simp
theorem safe_l0 (l : List S37) (hl : l.length ≤ 1000) (hf : ∀ x ∈ l, Fits x) (ha : ∀ x ∈ l, x.f4.length ≤ 1000) (M : Nat) (hM : 1002 ≤ M) (d i : Nat) : i + d = l.length → ∀ k, d * M + 1 ≤ k → risk_Safe.l0 k l (l.length : Int) (i : Int) = some ((l.drop i).all rowB) := by
  induction d generalizing i with
  | zero =>
    intro h k hk
    obtain ⟨k, rfl⟩ : ∃ m, k = m + 1 := ⟨k - 1, by omega⟩
    simp only [risk_Safe.l0]
    rw [if_neg (by omega), List.drop_of_length_le (by omega)]
    rfl
  | succ d ih =>
    intro h k hk
    obtain ⟨k, rfl⟩ : ∃ m, k = m + 1 := ⟨k - 1, by omega⟩
    obtain ⟨x, hx⟩ := get_some (show i < l.length by omega)
    have hk' : d * M + M ≤ k := by rw [← Nat.succ_mul]; exact Nat.le_of_succ_le_succ hk
    obtain ⟨D, hD⟩ : ∃ D, d * M = D := ⟨_, rfl⟩
    rw [hD] at hk' ih
    clear hk hD
    have hm : x ∈ l := List.mem_of_getElem? hx
    have hlen := ha x hm
    simp only [risk_Safe.l0]
    rw [if_pos (by omega), if_pos (by omega), if_pos (by omega), t37_at hx, drop_at hx, List.all_cons]
    have hw : wrap64 ((i : Int) + 1) = ((i + 1 : Nat) : Int) := by rw [wrap_succ (by omega) (by omega)]; omega
    by_cases h1 : x.f1 = 0
    · rw [if_pos h1, element_f]
      simp only [Option.bind_some]
      have hr : rowB x = (!mem unsafeL x.f2 && x.f4.all (fun a => !attrB x.f2 a.f0 a.f1)) := by unfold rowB; rw [if_pos h1]
      cases hu : mem unsafeL x.f2 with
      | true => rw [if_pos rfl, hr, hu]; simp
      | false =>
        rw [if_neg (by simp)]
        have := safe_l1 l (l.length : Int) (i : Int) x.f4 (by omega) x.f2 x.f0 x.f1 x.f3 x.f4 (hf x hm) x.f4.length 0 (by omega) k (by omega)
        rw [show ((0 : Nat) : Int) = 0 from rfl, List.drop_zero] at this
        rw [this, hr, hu, hw]
        cases hall : x.f4.all (fun a => !attrB x.f2 a.f0 a.f1) with
        | true =>
          rw [if_pos rfl]
          have := ih (i + 1) (by omega) (k - x.f4.length - 1) (by omega)
          rw [this]
          simp
        | false => rw [if_neg (by simp)]; simp
    · rw [if_neg h1, hw]
      have hr : rowB x = true := by unfold rowB; rw [if_neg h1]
      rw [hr, Bool.true_and]
      exact ih (i + 1) (by omega) k (by omega)
theorem safe_f (l : List S37) (hl : l.length ≤ 1000) (hf : ∀ x ∈ l, Fits x) (ha : ∀ x ∈ l, x.f4.length ≤ 1000) {k : Nat} (hk : 1100000 ≤ k) : risk_Safe.f k l = some (l.all rowB) := by
  have h1 : l.length * 1002 ≤ 1000 * 1002 := Nat.mul_le_mul_right _ hl
  have := safe_l0 l hl hf ha 1002 (Nat.le_refl _) l.length 0 (Nat.zero_add _) k (Nat.le_trans (Nat.succ_le_succ h1) (Nat.le_trans (by decide) hk))
  rw [List.drop_zero] at this
  exact this
/-! ### no more rows than a statement can hold -/
def cut8 (x : S37) : S37 := ⟨x.f0, x.f1, x.f2, x.f3, x.f4.take (mn (x.f4.length : Int) 8).toNat⟩
def bnd40 (l : List S37) : List S37 := (l.take 40).map cut8
theorem bound_l0 (l : List S37) (hl : l.length ≤ 9223372036854775807) (N : Nat) (hN : N = 40) : ∀ (d i : Nat), i + d = N → i ≤ l.length → ∀ k, d < k → boltinglaw10_bound.l0 k l ((l.take i).map cut8) (i : Int) = some ((l.take N).map cut8) := by
  intro d
  induction d with
  | zero =>
    intro i h hi k hk
    obtain ⟨k, rfl⟩ : ∃ m, k = m + 1 := ⟨k - 1, by omega⟩
    obtain rfl : i = N := by omega
    simp only [boltinglaw10_bound.l0]
    split
    · rw [if_neg (by omega)]
    · rfl
  | succ d ih =>
    intro i h hi k hk
    obtain ⟨k, rfl⟩ : ∃ m, k = m + 1 := ⟨k - 1, by omega⟩
    simp only [boltinglaw10_bound.l0]
    by_cases hlt : i < l.length
    · obtain ⟨x, hx⟩ := get_some hlt
      have hmn : 0 ≤ mn (x.f4.length : Int) 8 ∧ mn (x.f4.length : Int) 8 ≤ (x.f4.length : Int) := by unfold mn; split <;> omega
      rw [if_pos (by omega), if_pos (by omega), if_pos (by omega), t37_at hx, if_pos hmn.1, if_pos hmn.2, if_pos (by rw [List.length_map, List.length_take]; omega), wrap_succ (by omega) (by omega)]
      have e : (l.take i).map cut8 ++ [(⟨x.f0, x.f1, x.f2, x.f3, x.f4.take (mn (x.f4.length : Int) 8).toNat⟩ : S37)] = (l.take (i + 1)).map cut8 := by
        rw [List.take_add_one, hx, List.map_append]; rfl
      rw [e]
      exact ih (i + 1) (by omega) (by omega) k (by omega)
    · rw [if_neg (by omega)]
      refine congrArg some ?_
      rw [List.take_of_length_le (show l.length ≤ i by omega), List.take_of_length_le (show l.length ≤ N by omega)]
theorem bound_f (l : List S37) (hl : l.length ≤ 9223372036854775807) {k : Nat} (hk : 50 < k) : boltinglaw10_bound.f k l = some (bnd40 l) := by
  obtain ⟨N, hN⟩ : ∃ N : Nat, N = 40 := ⟨_, rfl⟩
  have := bound_l0 l hl N hN N 0 (by omega) (by omega) k (by omega)
  unfold bnd40
  rw [← hN]
  exact this
theorem bnd_len (l : List S37) : (bnd40 l).length ≤ 40 := by unfold bnd40; rw [List.length_map, List.length_take]; omega
theorem bnd_mem {l : List S37} {x : S37} (h : x ∈ bnd40 l) : ∃ y ∈ l, x = cut8 y := by
  obtain ⟨y, hy, rfl⟩ := List.mem_map.1 h
  exact ⟨y, List.mem_of_mem_take hy, rfl⟩
theorem cut8_len (x : S37) : (cut8 x).f4.length ≤ 8 := by
  unfold cut8
  show (x.f4.take _).length ≤ 8
  rw [List.length_take]
  unfold mn; split <;> omega
theorem cut8_fits {x : S37} (h : Fits x) : Fits (cut8 x) := fun y hy => h y (List.mem_of_mem_take hy)
end Go.Proofs.Ytejdfmghcgkojaa.Pure
