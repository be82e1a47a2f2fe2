/- A name a second time; no condition. -/
import Derived.Test.YthblohknnlkidaaDoorHeaderLaws
import Derived.Test.YthblohknnlkidaaDoorPrx10
namespace Go.Proofs.YthblohknnlkidaaDoor.Pure
set_option linter.unusedVariables false
set_option linter.unusedSimpArgs false
open Go.RowKit Go.Proofs.YthblohknnlkidaaDoor.Pr Go.Proofs.YthblohknnlkidaaDoorW.PrintWords Go.Proofs.YthblohknnlkidaaDoorW.PrintLast

set_option maxRecDepth 100000 in
theorem twice_a : header_Parse.f 200 (⟨#[116, 114, 117, 115, 116, 101, 100, 45, 116, 121, 112, 101, 115, 32, 42, 32, 39, 97, 108, 108, 111, 119, 45, 100, 117, 112, 108, 105, 99, 97, 116, 101, 115, 39]⟩ : ByteArray) false = some (false, false, [], true, true) := by decide +kernel
set_option maxRecDepth 100000 in
theorem twice_b : header_Parse.f 200 (⟨#[116, 114, 117, 115, 116, 101, 100, 45, 116, 121, 112, 101, 115, 32, 42]⟩ : ByteArray) false = some (false, false, [], true, false) := by decide +kernel
set_option maxRecDepth 100000 in
theorem twice_c : header_Parse.f 200 (⟨#[]⟩ : ByteArray) false = some (false, false, [], true, true) := by decide +kernel
set_option maxRecDepth 100000 in
theorem twice_d : header_Parse.f 200 (⟨#[116, 114, 117, 115, 116, 101, 100, 45, 116, 121, 112, 101, 115, 32, 39, 110, 111, 110, 101, 39]⟩ : ByteArray) false = some (false, false, [], false, false) := by decide +kernel
theorem HeaderTwice : boltinglaw15_HeaderTwice.Pure := by
  intro a0 h0
  obtain ⟨h1, h2, h3⟩ := takeS a0 100 (by omega)
  obtain ⟨K, hK⟩ : ∃ K, 3000001 ≤ K := ⟨_, Nat.le_refl _⟩
  refine ⟨K, ?_⟩
  have up : ∀ (s : ByteArray) r, header_Parse.f 200 s false = some r → header_Parse.f K s false = some r := fun s r h => more (f := fun k => header_Parse.f k s false) (fun k => header_Parse.mono s false k) (by omega) h
  unfold boltinglaw15_HeaderTwice.f
  rw [if_pos h1, if_pos h2]
  generalize a0.extract 0 (mn (a0.size : Int) 100).toNat = X at h3 ⊢
  have al : ∀ any twice had, header_Allows.f K false false [] any twice X had = some (mayL X.data.toList && (any || false) && (decide (had ≤ 0) || twice)) := fun any twice had => allows_f false false [] any twice X had (by simp) (by omega) (by omega) (by omega)
  have j0 : ∀ b, boltinglaw15_HeaderTwice.j0 K b = some b := fun b => by
    obtain ⟨k, rfl⟩ : ∃ m, K = m + 1 := ⟨K - 1, by omega⟩
    rfl
  rw [up _ _ twice_a]
  simp only [Option.bind_some]
  rw [up _ _ twice_b]
  simp only [Option.bind_some]
  rw [up _ _ twice_c]
  simp only [Option.bind_some]
  rw [up _ _ twice_d]
  simp only [Option.bind_some]
  simp only [al, Option.bind_some, fixed_true (show 200 ≤ K by omega), j0]
  cases mayL X.data.toList <;> simp
end Go.Proofs.YthblohknnlkidaaDoor.Pure
