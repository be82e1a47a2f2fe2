/- link.Strip's contract. -/
import Derived.Test.YthnakndpdfgapaaShelf
import Derived.Test.YthnakndpdfgapaaBase
namespace Go.Proofs.Ythnakndpdfgapaa
set_option linter.unusedVariables false
set_option linter.unusedSimpArgs false
open Go.RowKit

set_option maxHeartbeats 4000000 in
set_option maxRecDepth 100000 in
theorem strip_calls (s : ByteArray) (w : World) (hs : s.size ≤ 140737488351232) :
    Calls Try.prog 14 #[.string s] w fun e w' => e = .returned (.string ⟨(strip s.data.toList).toArray⟩) ∧ Below w.heap.size w w' := by
  go_enter Try.func14, Try.ntmps14
  go_upto_block 0 with fail
  go_cut [3] (fun f wx => ∃ a : Nat, Hid (a = lead ws s.data.toList) ∧ a ≤ s.size ∧ f = .int .i64 a ∧ w = wx)
  case first =>
    go_wp2_with fail
    go_loop [3] (fun f => ∃ k : Nat, k ≤ lead ws s.data.toList ∧ k ≤ s.size ∧ f = .int .i64 k) (fun f => s.size - (intOf f).toNat)
    case atStart => exact ⟨0, Nat.zero_le _, Nat.zero_le _, rfl⟩
    case round =>
      obtain ⟨k, hk, hks, rfl⟩ := hrel
      by_cases hlt : k < s.size
      · have hc := byte_at s k hlt
        by_cases h32 : s[k].toNat ≤ 32
        · have hst := lead_step hk hc (by simpa [ws] using h32)
          clear hc
          go_wp2_with fail
          go_round
          case rel => exact ⟨k + 1, hst, hlt, by go_num⟩
          case measure => simp [intOf]; omega
        · have hst := hid (lead_done hk hc (by simpa [ws] using h32))
          clear hc
          go_wp2_with fail
          go_meet
          exact ⟨k, hst, hks, rfl, rfl⟩
      · have hst := hid (lead_full hk (by simp; omega))
        go_wp2_with fail
        go_meet
        exact ⟨k, hst, hks, rfl, rfl⟩
  case rest =>
    obtain ⟨a, ha, has, rfl, rfl⟩ := hcut
    go_upto_block 2 with fail
    go_cut [4] (fun f wx => ∃ b : Nat, Hid (rcut ws (s.data.toList.drop a) = (s.data.toList.drop a).take (b - a)) ∧ a ≤ b ∧ b ≤ s.size ∧ f = .int .i64 b ∧ w = wx)
    case first =>
      go_wp2_with fail
      go_loop [4] (fun f => ∃ b : Nat, Hid (rcut ws ((s.data.toList.drop a).take (b - a)) = rcut ws (s.data.toList.drop a)) ∧ a ≤ b ∧ b ≤ s.size ∧ f = .int .i64 b) (fun f => (intOf f).toNat)
      case atStart => exact ⟨s.size, hid (by rw [List.take_of_length_le (by simp)]), has, Nat.le_refl _, rfl⟩
      case round =>
        obtain ⟨b, hb, hab, hbs, rfl⟩ := hrel
        by_cases hlt : a < b
        · obtain ⟨j, rfl⟩ : ∃ j, b = a + j + 1 := ⟨b - a - 1, by omega⟩
          have hc := byte_drop s a j (by omega)
          have hb' : rcut ws ((s.data.toList.drop a).take (j + 1)) = rcut ws (s.data.toList.drop a) := by have := hb.out; rwa [show a + j + 1 - a = j + 1 from by omega] at this
          by_cases h32 : (s[a + j]'(by omega)).toNat ≤ 32
          · have hst := hid (rcut_take_step hb' hc (by simpa [ws] using h32))
            clear hc hb' hb
            go_wp2_with fail
            go_round
            case rel => exact ⟨a + j, by rw [show a + j - a = j from by omega]; exact hst, by omega, by omega, by go_num⟩
            case measure => simp [intOf]; omega
          · have hst := hid (rcut_take_done hb' hc (by simpa [ws] using h32))
            clear hc hb' hb
            go_wp2_with fail
            go_meet
            exact ⟨a + j + 1, by rw [show a + j + 1 - a = j + 1 from by omega]; exact hst, by omega, hbs, rfl, rfl⟩
        · obtain rfl : b = a := by omega
          go_wp2_with fail
          go_meet
          exact ⟨b, hid (by have := hb.out; simp only [Nat.sub_self, List.take_zero, rcut_nil] at this ⊢; exact this.symm), Nat.le_refl _, hbs, rfl, rfl⟩
    case rest =>
      obtain ⟨b, hb, hab, hbs, rfl, rfl⟩ := hcut
      go_wp2_with fail
      go_loopw [6] (fun f wr => ∃ (i : Nat) (acc : List UInt8), Lib.IsBuilder 41 5 w.heap.size w.heap.size (Lib.byteCells acc) wr ∧ Below w.heap.size w wr ∧ Hid (acc = ((s.data.toList.drop a).take (i - a)).filter keep) ∧ a ≤ i ∧ i ≤ b ∧ acc.length ≤ i ∧ f = .int .i64 i) (fun f _ => b - (intOf f).toNat)
      case atStart => exact ⟨a, [], Lib.fresh_isBuilder _ _ w, (Below.refl _ w).alloc (Nat.le_refl _) _, hid (by simp), Nat.le_refl _, hab, by simp, rfl⟩
      case round =>
        obtain ⟨i, acc, hI, hbw, hacc, hai, hib, hal, rfl⟩ := hrel
        have hsz : w.heap.size ≤ wr.heap.size := hbw.size
        by_cases hlt : i < b
        · obtain ⟨j, rfl⟩ : ∃ j, i = a + j := ⟨i - a, by omega⟩
          have hc := byte_drop s a j (by omega)
          have hst : ((s.data.toList.drop a).take (a + j + 1 - a)).filter keep = ((s.data.toList.drop a).take (a + j - a)).filter keep ++ (if keep (s[a + j]'(by omega)) then [s[a + j]'(by omega)] else []) := by
            rw [show a + j + 1 - a = j + 1 from by omega, show a + j - a = j from by omega, take_succ' hc, List.filter_append]
            congr 1
            simp only [List.filter_cons, List.filter_nil]
          clear hc
          by_cases hk : keep (s[a + j]'(by omega)) = true
          · have hst' := hid hst
            clear hst
            have hk2 := hk
            simp only [keep, Bool.and_eq_true, bne_iff_ne, ne_eq] at hk2
            obtain ⟨⟨k9, k10⟩, k13⟩ := hk2
            have j9 : (((s[a + j]'(by omega)).toNat : Int) != 9) = true := by rw [bne_iff_ne]; omega
            have j10 : (((s[a + j]'(by omega)).toNat : Int) != 10) = true := by rw [bne_iff_ne]; omega
            have j13 : (((s[a + j]'(by omega)).toNat : Int) != 13) = true := by rw [bne_iff_ne]; omega
            have hkk := hid hk
            clear hk
            have hbyte : Lib.byteCells (acc ++ [s[a + j]'(by omega)]) = Lib.byteCells acc ++ [Value.int .u8 (s[a + j]'(by omega)).toNat] := by simp [Lib.byteCells]
            have hbyte' := hid hbyte
            clear hbyte
            go_wp2_with (go_at_call 28; refine (Try.Builder_WriteByte w.heap.size w.heap.size _ _ _ hI (by rw [Lib.byteCells_length]; omega) hsz).mono ?_; rintro e w' ⟨rfl, h1, b1⟩)
            go_roundw
            case rel => exact ⟨a + j + 1, acc ++ [s[a + j]'(by omega)], by rw [hbyte'.out]; exact Or.inr h1, hbw.trans b1, hid (by rw [hst'.out, if_pos hkk.out, ← hacc.out]), by omega, by omega, by simp; omega, by go_num⟩
            case measure => simp [intOf]; omega
          · rw [if_neg hk, List.append_nil] at hst
            have hst' := hid hst
            clear hst
            have hk2 : (s[a + j]'(by omega)).toNat = 9 ∨ (s[a + j]'(by omega)).toNat = 10 ∨ (s[a + j]'(by omega)).toNat = 13 := by
              simp only [keep, Bool.and_eq_true, bne_iff_ne, ne_eq] at hk; omega
            clear hk
            rcases hk2 with k9 | k9 | k9
            all_goals
              go_wp2_with fail
              go_roundw
              case rel => exact ⟨a + j + 1, acc, hI, hbw, hid (by rw [hst'.out, ← hacc.out]), by omega, by omega, by omega, by go_num⟩
              case measure => simp [intOf]; omega
        · go_wp2_with (go_at_call 29; refine (Try.Builder_String_any w.heap.size w.heap.size _ _ hI hsz).mono ?_; rintro e w' ⟨rfl, b1⟩)
          go_ret
          obtain rfl : i = b := by omega
          refine ⟨?_, hbw.trans b1⟩
          rw [hacc.out]
          unfold strip
          rw [← drop_lead, ← ha.out, hb.out]
          rfl
end Go.Proofs.Ythnakndpdfgapaa
