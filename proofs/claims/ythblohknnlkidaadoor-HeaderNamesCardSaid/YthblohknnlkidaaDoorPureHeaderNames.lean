/- What a guard allows; no condition. -/
import Derived.Test.YthblohknnlkidaaDoorHeaderLaws
import Derived.Test.YthblohknnlkidaaDoorPrx6
namespace Go.Proofs.YthblohknnlkidaaDoor.Pure
set_option linter.unusedVariables false
set_option linter.unusedSimpArgs false
open Go.RowKit Go.Proofs.YthblohknnlkidaaDoor.Pr Go.Proofs.YthblohknnlkidaaDoorW.PrintWords Go.Proofs.YthblohknnlkidaaDoorW.PrintLast

theorem may_blank (l : List UInt8) : mayL (l ++ [32]) = false := by
  unfold mayL
  rw [List.all_append]
  have : [(32 : UInt8)].all mayC = false := by decide
  rw [this]; simp
theorem names_end (n : ByteArray) (hn : n.size ≤ 140737488351232) (on rep any twice : Bool) (L : List (List UInt8)) (hL : L.length ≤ 10000) (hm : ∀ x ∈ L, mayL x = true) (hz : ∀ x ∈ L, x.length ≤ 10000) : ∀ (d i : Nat), i + d = L.length → ∀ k, 200001 + n.size + d < k →
    boltinglaw15_HeaderNames.l0 k n (i : Int) on rep (SS L) any twice = some true
  | 0, i, h, k, hk => by
    obtain ⟨k, rfl⟩ : ∃ m, k = m + 1 := ⟨k - 1, by omega⟩
    simp only [boltinglaw15_HeaderNames.l0]
    have al := fun had => allows_f on rep L any twice n had (by omega) hn (show 100001 ≤ k by omega) (by omega)
    have s1 : (n ++ (⟨#[32]⟩ : ByteArray)).size = n.size + 1 := by rw [ByteArray.size_append]; rfl
    have d1 : (n ++ (⟨#[32]⟩ : ByteArray)).data.toList = n.data.toList ++ [32] := by rw [data_app]
    have hb : header_Allows.f k on rep (SS L) any twice (n ++ (⟨#[32]⟩ : ByteArray)) 0 = some false := by
      have hb0 : header_may.f k (n ++ (⟨#[32]⟩ : ByteArray)) = some false := by
        rw [may_f _ (by rw [s1]; omega) (by rw [s1]; omega), d1, may_blank]
      unfold header_Allows.f
      rw [hb0]
      rfl
    rw [if_neg (by rw [SS_len]; omega), al, al]
    simp only [Option.bind_some]
    rw [hb, fixed_true (by omega)]
    simp only [Option.bind_some]
    have hn1 : n.size + 1 ≤ 9223372036854775807 := by omega
    cases mayL n.data.toList <;> cases any <;> cases L.contains n.data.toList <;> cases twice <;> simp [hn1]
  | d + 1, i, h, k, hk => by
    obtain ⟨k, rfl⟩ : ∃ m, k = m + 1 := ⟨k - 1, by omega⟩
    obtain ⟨x, hx⟩ := get_some (show i < L.length by omega)
    have hxm : x ∈ L := List.mem_iff_getElem?.2 ⟨i, hx⟩
    have hxz := hz x hxm
    simp only [boltinglaw15_HeaderNames.l0]
    rw [if_pos (by rw [SS_len]; omega), if_pos (by omega), SS_at hx, wrap_succ (by omega) (by omega)]
    rw [allows_f on rep L any twice (mkS x) 0 (by omega) (by rw [mkS_size]; omega) (by omega) (by rw [mkS_size]; omega), mkS_list, hm x hxm]
    have : L.contains x = true := by rw [List.contains_eq_mem]; exact decide_eq_true hxm
    rw [this]
    simp only [Option.bind_some, Bool.or_true, Bool.and_true, Bool.true_and]
    rw [if_pos (by simp)]
    exact names_end n hn on rep any twice L hL hm hz d (i + 1) (by omega) k (by omega)
theorem HeaderNames : boltinglaw15_HeaderNames.Pure := by
  intro a0 a1 a2 h0 hn _
  obtain ⟨h1, h2, h3⟩ := takeS a0 500 (by omega)
  obtain ⟨K, hK⟩ : ∃ K, 3000001 + a1.size ≤ K := ⟨_, Nat.le_refl _⟩
  refine ⟨K + 1, ?_⟩
  unfold boltinglaw15_HeaderNames.f
  rw [if_pos h1, if_pos h2]
  generalize a0.extract 0 (mn (a0.size : Int) 500).toNat = X at h3 ⊢
  have hX : X.size ≤ 500 := by omega
  have pl := parse_len X.data.toList false
  rw [← Lib.size_eq] at pl
  have pm := parse_may (partsL X.data.toList) false
  rw [parse_f X (by omega) false (by omega)]
  simp only [Option.bind_some]
  generalize parseG (partsL X.data.toList) false = G at pl pm
  have al := fun any twice had => allows_f G.on G.report G.names any twice a1 had (by omega) hn (show 100001 ≤ K + 1 by omega) (by omega)
  have en := names_end a1 hn G.on G.report G.any G.twice G.names (by omega) pm (fun x hx => by have := pl.2 x hx; omega) G.names.length 0 (by omega) K (by omega)
  have j0 : boltinglaw15_HeaderNames.j0 (K + 1) a1 false G.on G.report (SS G.names) G.any G.twice = some true := en
  simp only [al, Option.bind_some]
  cases hm : mayL a1.data.toList
  · simpa using j0
  · cases hc : G.names.contains a1.data.toList <;> cases ha : G.any <;> cases ht : G.twice <;> by_cases h : a2 ≤ 0 <;> rw [ha, ht] at j0 <;> simpa [h] using j0
end Go.Proofs.YthblohknnlkidaaDoor.Pure
