/- CharsAgain: what is decoded is right, and stays; what is made ready has no byte 0 and no 13, and stays. Plain Lean. -/
import Derived.Test.YtaeikiigdfgmaaaDoorCharsRef
import Derived.Test.YtaeikiigdfgmaaaDoorOpensU
import Derived.Test.YtaeikiigdfgmaaaDoorPrx8
namespace Go.Proofs.YtaeikiigdfgmaaaDoor.Pure
set_option linter.unusedVariables false
set_option linter.unusedSimpArgs false
open Go.RowKit Go.Proofs.YtaeikiigdfgmaaaDoor Go.Proofs.YtaeikiigdfgmaaaDoor.Pr Go.Proofs.YtaeikiigdfgmaaaDoorW.PrintWords Go.Proofs.YtaeikiigdfgmaaaDoorW.PrintLast Go.Proofs.YtaeikiigdfgmaaaDoorW.PrintMore

theorem again_l0 (r : ByteArray) (hr : ∀ c ∈ dat r, c ≠ 0 ∧ c ≠ 13) (hs : r.size ≤ 1000000000) (d i : Nat) : i + d = r.size → ∀ k, d < k → boltinglaw01_CharsAgain.l0 k r (i : Int) = some true := by
  induction d generalizing i with
  | zero =>
    intro h k hk
    obtain ⟨k, rfl⟩ : ∃ m, k = m + 1 := ⟨k - 1, by omega⟩
    simp only [boltinglaw01_CharsAgain.l0]
    rw [if_neg (by omega), fixed_f]
    rfl
  | succ d ih =>
    intro h k hk
    obtain ⟨k, rfl⟩ : ∃ m, k = m + 1 := ⟨k - 1, by omega⟩
    have hi : i < r.size := by omega
    obtain ⟨c, hc, _, hbt⟩ := drop_at hi
    have hm := hr c (List.mem_of_getElem? hc)
    have ne (x y : UInt8) (h : x ≠ y) : ¬ ((x.toNat : Int) = (y.toNat : Int)) := fun z => h (UInt8.toNat_inj.1 (by omega))
    simp only [boltinglaw01_CharsAgain.l0]
    rw [if_pos (by omega), if_pos (by omega), hbt, if_neg (show ¬ ((c.toNat : Int) = 0) from ne c 0 hm.1), if_neg (show ¬ ((c.toNat : Int) = 13) from ne c 13 hm.2), show ((i : Int) + 1) = (i : Int) + ((1 : Nat) : Int) from rfl, wr r (by omega) (by omega)]
    exact ih (i + 1) (by omega) k (by omega)
theorem CharsAgain (a0 : ByteArray) (w0 : a0.size ≤ 140737488351232) (hU : wS a0 + 0 ≤ 1048576) : ∃ k, boltinglaw01_CharsAgain.f k a0 = some true := by
  have hs : a0.size + 1 + 0 ≤ 1048576 := hU
  have h2 := decode_size a0
  have h3 := ready_size a0
  have h4 := lines_size a0
  refine ⟨5000000, ?_⟩
  unfold boltinglaw01_CharsAgain.f
  rw [decode_f a0 (by omega), ready_f a0 (by omega)]
  simp only [Option.bind_some]
  rw [right_f _ (by omega), decode_f (mkS (Chars.decode (dat a0))) (by omega), right_f _ (by omega), ready_f (mkS (Chars.ready (dat a0))) (by omega), lines_f a0 (by omega)]
  simp only [Option.bind_some]
  rw [lines_f _ (by omega)]
  simp only [Option.bind_some]
  rw [dat_mk, dat_mk, dat_mk, Chars.right_decode, Chars.decode_again, Chars.ready_right, Chars.ready_again, Chars.lines_again, if_pos rfl, if_pos rfl, if_pos rfl, if_pos rfl]
  rw [show (5000000 : Nat) = 4999999 + 1 from rfl]
  simp only [boltinglaw01_CharsAgain.j0]
  rw [if_neg (by simp)]
  exact again_l0 _ (fun c hc => Chars.ready_no (dat a0) c hc) (by omega) _ 0 (Nat.zero_add _) _ (by omega)
end Go.Proofs.YtaeikiigdfgmaaaDoor.Pure
