/- CharsJoins: two right texts, one behind the other, are right, and decoded as each alone. Plain Lean. -/
import Derived.Test.YtaeikiigdfgmaaaDoorCharsRef
import Derived.Test.YtaeikiigdfgmaaaDoorOpensU
import Derived.Test.YtaeikiigdfgmaaaDoorPrx9
namespace Go.Proofs.YtaeikiigdfgmaaaDoor.Pure
set_option linter.unusedVariables false
set_option linter.unusedSimpArgs false
open Go.RowKit Go.Proofs.YtaeikiigdfgmaaaDoor Go.Proofs.YtaeikiigdfgmaaaDoor.Pr Go.Proofs.YtaeikiigdfgmaaaDoorW.PrintWords Go.Proofs.YtaeikiigdfgmaaaDoorW.PrintLast Go.Proofs.YtaeikiigdfgmaaaDoorW.PrintMore

theorem CharsJoins (a0 a1 : ByteArray) (w0 : a0.size ≤ 140737488351232) (w1 : a1.size ≤ 140737488351232) (hU : wS a0 + (wS a1 + 0) ≤ 1048576) : ∃ k, boltinglaw01_CharsJoins.f k a0 a1 = some true := by
  have hs : a0.size + 1 + (a1.size + 1 + 0) ≤ 1048576 := hU
  have hsz : (a0 ++ a1).size = a0.size + a1.size := ByteArray.size_append
  have d0 := decode_size a0
  have d1 := decode_size a1
  refine ⟨10, ?_⟩
  have hno : boltinglaw01_CharsJoins.j0 10 a0 a1 true = some true := by
    rw [show (10 : Nat) = 9 + 1 from rfl]
    simp only [boltinglaw01_CharsJoins.j0]
    rw [if_pos trivial, fixed_f]
    rfl
  unfold boltinglaw01_CharsJoins.f
  rw [right_f a0 (by omega), right_f a1 (by omega)]
  simp only [Option.bind_some]
  cases h0 : Chars.right (dat a0) with
  | false => rw [if_neg (by simp)]; exact hno
  | true =>
    rw [if_pos rfl]
    cases h1 : Chars.right (dat a1) with
    | false => exact hno
    | true =>
      rw [show (10 : Nat) = 9 + 1 from rfl]
      simp only [boltinglaw01_CharsJoins.j0]
      have c0 := (Chars.count_le (dat a0)).1
      have c1 := (Chars.count_le (dat a1)).1
      rw [dat_len] at c0 c1
      have e : (mkS (Chars.decode (dat a0) ++ Chars.decode (dat a1))).toList = (mkS (Chars.decode (dat a0)) ++ mkS (Chars.decode (dat a1))).toList := by
        rw [toList_dat, toList_dat, dat_app]
        rfl
      rw [if_neg (by simp), if_pos (by omega), right_f _ (by omega), Option.bind_some, dat_app, Chars.right_app h0 h1, if_pos rfl, decode_f _ (by omega), Option.bind_some, decode_f a0 (by omega), Option.bind_some, decode_f a1 (by omega), Option.bind_some, if_pos (by omega), dat_app, Chars.decode_app h0, if_pos e, count_f _ (by omega), Option.bind_some, count_f a0 (by omega), Option.bind_some, count_f a1 (by omega), Option.bind_some, dat_app, Chars.count_app h0, if_pos (by rw [wrap_id (by omega) (by omega)]; omega), fixed_f]
      rfl
end Go.Proofs.YtaeikiigdfgmaaaDoor.Pure
