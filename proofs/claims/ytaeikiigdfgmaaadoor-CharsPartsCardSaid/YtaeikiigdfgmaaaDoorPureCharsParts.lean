/- CharsParts: a sample is a beginning, of just so many characters, if there are as many; with all of them it is the text. Plain Lean. -/
import Derived.Test.YtaeikiigdfgmaaaDoorCharsRef
import Derived.Test.YtaeikiigdfgmaaaDoorOpensU
import Derived.Test.YtaeikiigdfgmaaaDoorPrx10
namespace Go.Proofs.YtaeikiigdfgmaaaDoor.Pure
set_option linter.unusedVariables false
set_option linter.unusedSimpArgs false
open Go.RowKit Go.Proofs.YtaeikiigdfgmaaaDoor Go.Proofs.YtaeikiigdfgmaaaDoor.Pr Go.Proofs.YtaeikiigdfgmaaaDoorW.PrintWords Go.Proofs.YtaeikiigdfgmaaaDoorW.PrintLast Go.Proofs.YtaeikiigdfgmaaaDoorW.PrintMore

theorem CharsParts (a0 : ByteArray) (a1 : Int) (w0 : a0.size ≤ 140737488351232) (w1 : (Lit.int .i64 a1).wf = true) : ∃ k, boltinglaw01_CharsParts.f k a0 a1 = some true := by
  have hle := Chars.sample_le (dat a0) a1.toNat
  rw [dat_len] at hle
  refine ⟨10, ?_⟩
  unfold boltinglaw01_CharsParts.f
  rw [sample_f a0 a1 (by omega)]
  simp only [Option.bind_some]
  have hz := mkS_size (Chars.sample (dat a0) a1.toNat)
  rw [if_neg (by omega), if_pos (by omega), if_pos (by omega), Int.toNat_natCast, hz, extract_take, Chars.sample_pre, if_pos rfl, count_f _ (by omega), count_f a0 (by omega)]
  simp only [Option.bind_some]
  have hc := Chars.count_sample (dat a0) a1.toNat
  have hb : (((Chars.count (dat (mkS (Chars.sample (dat a0) a1.toNat)))) : Int) != mx 0 (mn a1 (Chars.count (dat a0) : Int))) = false := by
    rw [dat_mk, hc, bne_eq_false_iff_eq]
    unfold mx mn
    split <;> split <;> omega
  rw [hb, show (10 : Nat) = 9 + 1 from rfl]
  simp only [boltinglaw01_CharsParts.j0]
  rw [if_neg (by simp), count_f a0 (by omega)]
  simp only [Option.bind_some]
  rw [sample_f a0 _ (by omega)]
  simp only [Option.bind_some]
  rw [Int.toNat_natCast, Chars.sample_all (Nat.le_refl _), mkS_dat, if_pos rfl, fixed_f]
  rfl
end Go.Proofs.YtaeikiigdfgmaaaDoor.Pure
