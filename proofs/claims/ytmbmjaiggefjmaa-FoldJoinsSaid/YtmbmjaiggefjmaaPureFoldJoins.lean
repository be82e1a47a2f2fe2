/- FoldJoins of the document's chapter 02: it answers true whatever the input. -/
import Derived.Test.YtmbmjaiggefjmaaFoldRef
import Derived.Test.YtmbmjaiggefjmaaPrx9
namespace Go.Proofs.Ytmbmjaiggefjmaa
set_option linter.unusedVariables false
set_option linter.unusedSimpArgs false
open Go.RowKit Go.Proofs.Ytmbmjaiggefjmaa.Pr Go.Proofs.Ytmbmjaiggefjmaa.Pure Go.Proofs.YtmbmjaiggefjmaaW.PrintWords Go.Proofs.YtmbmjaiggefjmaaW.PrintLast
theorem dat_app (a b : ByteArray) : dat (a ++ b) = dat a ++ dat b := data_app a b
theorem dat_len (a : ByteArray) : (dat a).length = a.size := (Lib.size_eq a).symm
theorem SS_app (a b : List (List UInt8)) : SS a ++ SS b = SS (a ++ b) := by simp [SS]
theorem Pure.FoldJoins : boltinglaw02_FoldJoins.Pure := by
  intro a0 b0 h0 h1
  obtain ⟨p1, p2, p3⟩ := takeS a0 300 (by omega)
  obtain ⟨q1, q2, q3⟩ := takeS b0 300 (by omega)
  refine ⟨10000, ?_⟩
  unfold boltinglaw02_FoldJoins.f
  rw [if_pos p1, if_pos p2, if_pos q1, if_pos q2]
  obtain ⟨a, ea⟩ : ∃ s, a0.extract 0 (mn (a0.size : Int) 300).toNat = s := ⟨_, rfl⟩
  obtain ⟨b, eb⟩ : ∃ s, b0.extract 0 (mn (b0.size : Int) 300).toNat = s := ⟨_, rfl⟩
  rw [ea] at p3 ⊢
  rw [eb] at q3 ⊢
  have la := dat_len a
  have lb := dat_len b
  have wa := words_count (dat a)
  have wb := words_count (dat b)
  have sp : (⟨#[32]⟩ : ByteArray) = mkS [32] := rfl
  have nl : (⟨#[10]⟩ : ByteArray) = mkS [10] := rfl
  have sz32 : (⟨#[32]⟩ : ByteArray).size = 1 := rfl
  have sz10 : (⟨#[10]⟩ : ByteArray).size = 1 := rfl
  rw [words_f a (by omega), words_f b (by omega)]
  simp only [Option.bind_some, List.nil_append, List.length_nil, Nat.zero_add]
  rw [if_pos (by rw [SS_len]; omega), if_pos (by rw [SS_len, SS_len]; omega), if_pos (by omega), if_pos (by rw [ByteArray.size_append, sz32]; omega), words_f _ (by rw [ByteArray.size_append, ByteArray.size_append, sz32]; omega)]
  simp only [Option.bind_some]
  rw [dat_app, dat_app, show dat (⟨#[32]⟩ : ByteArray) = [32] from rfl, List.append_assoc, List.singleton_append, words_space (c := 32) (by decide), ← SS_app, equal_f _ (by rw [List.length_append, SS_len, SS_len]; omega) (by rw [List.length_append, SS_len, SS_len]; omega)]
  simp only [Option.bind_some, if_true]
  have sl : ∀ s : ByteArray, (mkS (lower (dat s))).size = s.size := fun s => by rw [mkS_size]; unfold lower; rw [List.length_map]; exact dat_len s
  rw [if_pos (by omega), lower_f _ (by rw [ByteArray.size_append]; omega), lower_f a (by omega), lower_f b (by omega)]
  simp only [Option.bind_some]
  rw [if_pos (by rw [sl, sl]; omega), mkS_app, if_pos (by rw [dat_app]; unfold lower; rw [List.map_append]), if_pos (by omega), if_pos (by rw [ByteArray.size_append, sz32]; omega), trim_f _ (by rw [ByteArray.size_append, ByteArray.size_append, sz32, sz10]; omega) (by rw [ByteArray.size_append, ByteArray.size_append, sz32, sz10]; omega), trim_f a (by omega) (by omega)]
  simp only [Option.bind_some]
  rw [dat_app, dat_app, show dat (⟨#[32]⟩ : ByteArray) = [32] from rfl, show dat (⟨#[10]⟩ : ByteArray) = [10] from rfl, trim_within (t := [32]) (u := [10]) (by intro c hc; rw [List.mem_singleton] at hc; subst hc; decide) (by intro c hc; rw [List.mem_singleton] at hc; subst hc; decide), if_pos rfl, fixed_f (by omega)]
  rfl
end Go.Proofs.Ytmbmjaiggefjmaa
