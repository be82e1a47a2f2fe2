/- fold.Letter. -/
import Derived.Test.YthnakndpdfgapaaBase
namespace Go.Proofs.Ythnakndpdfgapaa
set_option linter.unusedVariables false
set_option linter.unusedSimpArgs false
open Go.RowKit

def letterI (c : Int) : Bool := decide (97 ≤ c ∧ c ≤ 122) || decide (65 ≤ c ∧ c ≤ 90)
def letter (c : UInt8) : Bool := letterI c.toNat
set_option maxHeartbeats 1000000 in
theorem letter_calls (c : Int) (w : World) (h0 : 0 ≤ c) (h1 : c < 256) : Calls Try.prog 22 #[.int .u8 c] w fun e w' => e = .returned (.bool (letterI c)) ∧ w' = w := by
  rcases (by omega : c < 65 ∨ (65 ≤ c ∧ c ≤ 90) ∨ (90 < c ∧ c < 97) ∨ (97 ≤ c ∧ c ≤ 122) ∨ 122 < c) with h | ⟨h, h'⟩ | ⟨h, h'⟩ | ⟨h, h'⟩ | h
  all_goals
    go_enter Try.func22, Try.ntmps22
    go_wp2
    go_ret
    exact ⟨ret_bool (by unfold letterI; rw [Bool.eq_iff_iff]; simp only [Bool.or_eq_true, Bool.and_eq_true, decide_eq_true_eq, Bool.false_eq_true, eq_self, true_iff, false_iff]; omega), rfl⟩
theorem letter_at (c : UInt8) (w : World) : Calls Try.prog 22 #[.int .u8 (c.toNat : Int)] w fun e w' => e = .returned (.bool (letter c)) ∧ w' = w :=
  letter_calls _ w (by omega) (by have := c.toNat_lt; omega)
end Go.Proofs.Ythnakndpdfgapaa
