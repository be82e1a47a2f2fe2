/- CharsPlain: bytes below 128, but 0 and 13, are each a character, and are made ready as they are. Plain Lean. -/
import Derived.Test.YtaeikiigdfgmaaaDoorCharsRef
import Derived.Test.YtaeikiigdfgmaaaDoorOpensU
import Derived.Test.YtaeikiigdfgmaaaDoorPrx11
namespace Go.Proofs.YtaeikiigdfgmaaaDoor.Pure
set_option linter.unusedVariables false
set_option linter.unusedSimpArgs false
open Go.RowKit Go.Proofs.YtaeikiigdfgmaaaDoor Go.Proofs.YtaeikiigdfgmaaaDoor.Pr Go.Proofs.YtaeikiigdfgmaaaDoorW.PrintWords Go.Proofs.YtaeikiigdfgmaaaDoorW.PrintLast Go.Proofs.YtaeikiigdfgmaaaDoorW.PrintMore

theorem plain_l0 (s : ByteArray) (hs : s.size ≤ 1048576) (d i : Nat) : i + d = s.size → (∀ (j : Nat) (c : UInt8), j < i → (dat s)[j]? = some c → c ≠ 0 ∧ c ≠ 13 ∧ c.toNat < 128) → ∀ k, d < k → boltinglaw01_CharsPlain.l0 k s (i : Int) = some true := by
  induction d generalizing i with
  | zero =>
    intro h hp k hk
    obtain ⟨k, rfl⟩ : ∃ m, k = m + 1 := ⟨k - 1, by omega⟩
    have hall : ∀ c ∈ dat s, c ≠ 0 ∧ c ≠ 13 ∧ c.toNat < 128 := fun c hc => by
      obtain ⟨j, hj⟩ := List.mem_iff_getElem?.1 hc
      have := (List.getElem?_eq_some_iff.1 hj).1
      rw [dat_len] at this
      exact hp j c (by omega) hj
    have hch := Chars.plain_chars (l := dat s) (fun c hc => (hall c hc).2.2)
    have hr : Chars.right (dat s) = true := by
      unfold Chars.right
      rw [hch, List.all_eq_true]
      intro c hc
      obtain ⟨b, hb, rfl⟩ := List.mem_map.1 hc
      exact Chars.good_one (hall b hb).2.2
    have hrd : Chars.ready (dat s) = dat s := by
      unfold Chars.ready
      rw [Chars.decode_same hr (fun c hc => (hall c hc).1), Chars.lines_same (fun c hc => (hall c hc).2.1)]
    have hcnt : Chars.count (dat s) = s.size := by
      unfold Chars.count
      rw [hch, List.length_map, dat_len]
    simp only [boltinglaw01_CharsPlain.l0]
    rw [if_neg (by omega), right_f s (by omega), ready_f s (by omega), count_f s (by omega), sample_f s _ (by omega)]
    simp only [Option.bind_some]
    rw [hr, hrd, hcnt, Int.toNat_natCast, Chars.sample_all (by omega), mkS_dat, if_pos rfl, if_pos rfl, if_pos rfl, if_pos rfl, fixed_f]
    rfl
  | succ d ih =>
    intro h hp k hk
    obtain ⟨k, rfl⟩ : ∃ m, k = m + 1 := ⟨k - 1, by omega⟩
    have hi : i < s.size := by omega
    obtain ⟨c, hc, _, hbt⟩ := drop_at hi
    have ne (x y : UInt8) (h : x ≠ y) : ¬ ((x.toNat : Int) = (y.toNat : Int)) := fun z => h (UInt8.toNat_inj.1 (by omega))
    simp only [boltinglaw01_CharsPlain.l0]
    rw [if_pos (by omega), if_pos (by omega), hbt, fixed_f, show ((i : Int) + 1) = (i : Int) + ((1 : Nat) : Int) from rfl, wr s (by omega) (by omega)]
    simp only [Option.bind_some]
    by_cases h0 : c = 0
    · rw [if_pos (by rw [h0]; rfl)]
    rw [if_neg (show ¬ ((c.toNat : Int) = 0) from ne c 0 h0)]
    by_cases h13 : c = 13
    · rw [if_pos (by rw [h13]; rfl)]
    rw [if_neg (show ¬ ((c.toNat : Int) = 13) from ne c 13 h13)]
    by_cases h127 : (c.toNat : Int) > 127
    · rw [if_pos h127]
    rw [if_neg h127]
    refine ih (i + 1) (by omega) (fun j x hj hx => ?_) k (by omega)
    by_cases e : j = i
    · rw [e, hc] at hx
      obtain rfl := Option.some.inj hx
      exact ⟨h0, h13, by omega⟩
    · exact hp j x (by omega) hx
theorem CharsPlain (a0 : ByteArray) (w0 : a0.size ≤ 140737488351232) (hU : wS a0 + 0 ≤ 1048576) : ∃ k, boltinglaw01_CharsPlain.f k a0 = some true := by
  have hs : a0.size + 1 + 0 ≤ 1048576 := hU
  exact ⟨a0.size + 1, plain_l0 a0 (by omega) a0.size 0 (Nat.zero_add _) (fun j c h => by omega) _ (by omega)⟩
end Go.Proofs.YtaeikiigdfgmaaaDoor.Pure
