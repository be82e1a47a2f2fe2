/- boltinglaw18.LoopCopies answers true. -/
import Derived.Test.YtldbplagenjooaaLoopTwo
import Derived.Test.YtldbplagenjooaaLoopSmall
namespace Go.Proofs.Ytldbplagenjooaa
set_option linter.unusedVariables false
set_option linter.unusedSimpArgs false
open Go.RowKit Go.Lib Go.Shelf Go.Maps Go.Proofs.YtldbplagenjooaaW.PrintWords Go.Proofs.YtldbplagenjooaaW.PrintLast

/-- A number of a list that came in, in a later world. -/
theorem ints_later {w wr : World} {A : Option Addr} {l : List Int} (hl : ReadsOf (Value.int .i64) 0 w A l.length l) (hb : Below w.heap.size w wr) {j : Nat} (hj : j < l.length) : ∃ ad x, A = some ad ∧ wr.cell? (ad.add j) = some (.int .i64 x) ∧ l.getD j 0 = x := by
  obtain ⟨ad, hA, hc⟩ := hl.2.2 (by omega)
  exact ⟨ad, _, hA, pw_cell_below hb (hc j hj), rfl⟩
set_option maxHeartbeats 4000000 in
set_option maxRecDepth 100000 in
theorem copies_law {A : Option Addr} {c : Nat} {l : List Int} {w : World} (s : ByteArray) (hl : ReadsOf (Value.int .i64) 0 w A l.length l) (hc : l.length ≤ c) :
    Calls Try.prog 4 #[.slice A l.length c, .string s] w fun e w' => e = .returned (.bool true) ∧ Below w.heap.size w w' := by
  obtain ⟨n, hn⟩ : ∃ n, min l.length 40 = n := ⟨_, rfl⟩
  have hn50 : n ≤ 40 := by omega
  have hnl : n ≤ l.length := by omega
  have hmin : min (l.length : Int) 40 = (n : Int) := by omega
  have hcell : Hid (∀ wr, Below w.heap.size w wr → ∀ j, j < n → ∃ ad x, A = some ad ∧ wr.cell? (ad.add j) = some (.int .i64 x) ∧ l.getD j 0 = x) := hid (fun wr hb j hj => ints_later hl hb (by omega))
  have hll : l.length ≤ 9223372036854775807 := hl.2.1
  clear hn hl
  go_enter Try.func4, Try.ntmps4
  go_wp2_with fail
  refine (o_new _).mono ?_
  rintro e w1 ⟨p, rfl, h1⟩
  have H1 := hid h1
  clear h1
  go_wp2
  go_loopw [7] (fun i wr => ∃ (k : Nat) (T : Int → List ByteArray), i = .int .i64 k ∧ k ≤ n ∧ Own w wr p k T [] ∧ sumT T = k ∧ ∀ j, (T j).length ≤ k) (fun i _ => n - (intOf i).toNat)
  case atStart => exact ⟨0, _, rfl, by omega, H1.out, rfl, fun j => Nat.le_refl _⟩
  case round =>
    obtain ⟨k, T, rfl, hk, ho, hsum, hT⟩ := hrel
    have HO := hid ho
    have HSUM := hid hsum
    have HT := hid hT
    clear ho hsum hT
    by_cases hlt : k < n
    · obtain ⟨ad, x, rfl, hce, _⟩ := hcell.out wr HO.out.below k hlt
      have h7 := i64_and7 x
      obtain ⟨k8, hk8⟩ : ∃ k8, x % 8 = k8 := ⟨_, rfl⟩
      have hs0 : 0 ≤ k8 := by omega
      have hs8 : k8 < 8 := by omega
      rw [hk8] at h7
      clear hk8
      go_wp2_with fail
      refine (o_post HO.out s hs0 hs8 (by omega) (Nat.le_trans (HT.out k8) (by omega))).mono ?_
      rintro e w3 ⟨rfl, h3⟩
      have H3 := hid h3
      clear h3
      go_wp2
      go_roundw
      case rel => exact ⟨k + 1, _, by go_num, by omega, H3.out, by
        have h := sumT_upd T k8 (T k8 ++ [s]) hs0 hs8
        have h2 := HSUM.out
        rw [List.length_append, List.length_singleton] at h
        omega, fun j => by
        have h := HT.out j
        have h2 := HT.out k8
        by_cases e : j = k8
        · subst e; rw [upd_self, List.length_append, List.length_singleton]; omega
        · rw [upd_ne e]; omega⟩
      case measure => simp [intOf]; omega
    · have hkn : k = n := by omega
      subst hkn
      clear hlt hk hcell
      go_wp2_with fail
      refine (t_copy HO.out (by omega) (fun j => Nat.le_trans (HT.out j) (by omega)) (by decide)).mono ?_
      rintro e w2 ⟨q, rfl, h2⟩
      have H2 := hid h2
      clear h2
      go_wp2
      go_loopw [9] (fun i wr => ∃ (k' m : Nat) (T' : Int → List ByteArray), i = .int .i64 k' ∧ k' ≤ 8 ∧ m ≤ k + 40 * k' ∧ Two w wr p m T' [] q k T [] ∧ (∀ j : Int, 0 ≤ j → j < k' → T' j = []) ∧ ∀ j, (T' j).length ≤ 40) (fun i _ => 8 - (intOf i).toNat)
      case atStart => exact ⟨0, k, T, rfl, by omega, by omega, H2.out, fun j h0 h1 => by omega, fun j => Nat.le_trans (HT.out j) (by omega)⟩
      case round =>
        obtain ⟨k', m, T', rfl, hk', hm, ho, hgone, hT'⟩ := hrel
        have HO2 := hid ho
        have HG := hid hgone
        have HT' := hid hT'
        clear ho hgone hT'
        by_cases hlt : k' < 8
        · have hb8 : decide ((k' : Int) < 8) = true := decide_eq_true (by omega)
          go_wp2
          obtain ⟨wo, rfl⟩ : ∃ wo : World, wo = wr := ⟨_, rfl⟩
          go_loopw [10] (fun i wr => ∃ (i' m' : Nat) (T2 : Int → List ByteArray), i = .int .i64 i' ∧ i' ≤ 40 ∧ m' ≤ m + i' ∧ Two w wr p m' T2 [] q k T [] ∧ (∀ j : Int, 0 ≤ j → j < k' → T2 j = []) ∧ (∀ j, (T2 j).length ≤ 40) ∧ (T2 k').length ≤ 40 - i') (fun i _ => 40 - (intOf i).toNat)
          case atStart => exact ⟨0, m, T', rfl, by omega, by omega, HO2.out, HG.out, HT'.out, HT'.out _⟩
          case round =>
            obtain ⟨i', m', T2, rfl, hi', hm', ho, hg2, hT2, hlen⟩ := hrel
            have HO3 := hid ho
            have HG2 := hid hg2
            have HT2 := hid hT2
            clear ho hg2 hT2
            by_cases hil : i' < 40
            · cases hTk : T2 k' with
              | nil =>
                have HTK := hid hTk
                clear hTk hlen
                go_wp2_with fail
                refine (t_pick0 HO3.out (by omega) (by omega) (by decide) (.inr HTK.out)).mono ?_
                rintro e w4 ⟨rfl, rfl⟩
                go_wp2
                go_roundw
                case rel => exact ⟨k' + 1, m', T2, by go_num, by omega, by omega, HO3.out, fun j h0 h1 => by
                  by_cases e : j = k'
                  · rw [e]; exact HTK.out
                  · exact HG2.out j h0 (by omega), HT2.out⟩
                case measure => simp [intOf]; omega
              | cons t ts =>
                have HTK := hid hTk
                have hts : ts.length + 1 ≤ 40 - i' := by rw [hTk] at hlen; exact hlen
                clear hTk hlen
                go_wp2_with fail
                refine (t_pick HO3.out HTK.out (by omega) (by omega)).mono ?_
                rintro e w4 ⟨rfl, h4⟩
                have H4 := hid h4
                clear h4
                go_wp2
                go_roundw
                case rel => exact ⟨i' + 1, m' + 1, _, by go_num, by omega, by omega, H4.out, fun j h0 h1 => by
                  rw [upd_ne (by omega)]; exact HG2.out j h0 h1, fun j => by
                  by_cases e : j = k'
                  · rw [e, upd_self]; omega
                  · rw [upd_ne e]; exact HT2.out j, by rw [upd_self]; omega⟩
                case measure => simp [intOf]; omega
            · have hTk : T2 k' = [] := List.eq_nil_of_length_eq_zero (by omega)
              have HTK := hid hTk
              clear hTk hlen
              go_wp2
              go_roundw
              case rel => exact ⟨k' + 1, m', T2, by go_num, by omega, by omega, HO3.out, fun j h0 h1 => by
                by_cases e : j = k'
                · rw [e]; exact HTK.out
                · exact HG2.out j h0 (by omega), HT2.out⟩
              case measure => simp [intOf]; omega
        · have hk8 : k' = 8 := by omega
          subst hk8
          have hs0 : sumT T' = 0 := sumT_nil (fun j h0 h1 => HG.out j h0 (by omega))
          have HS0 := hid hs0
          have HSUM' := hid HSUM.out
          clear hs0
          go_wp2_with fail
          refine (t_small HO2.out.symm _ (by decide)).mono ?_
          rintro e w4 ⟨rfl, h4⟩
          have H4 := hid h4.symm
          clear h4
          go_wp2_with fail
          refine (t_waits H4.out (fun j => Nat.le_trans (HT'.out j) (by decide))).mono ?_
          rintro e w5 ⟨rfl, h5⟩
          have H5 := hid h5
          clear h5
          go_wp2_with fail
          refine (t_waits H5.out.symm (fun j => Nat.le_trans (HT.out j) (by omega))).mono ?_
          rintro e w6 ⟨rfl, h6⟩
          have H6 := hid h6.symm
          clear h6
          go_wp2_with fail
          refine (t_next0 H6.out).mono ?_
          rintro e w7 ⟨rfl, rfl⟩
          rw [HS0.out, HSUM.out]
          go_wp2_with fail
          refine (fixed_calls _).mono ?_
          rintro e w8 ⟨rfl, hb⟩
          have HB := hid hb
          clear hb
          go_wp2
          go_ret
          exact ⟨rfl, H6.out.below.trans (HB.out.mono H6.out.below.size)⟩
end Go.Proofs.Ytldbplagenjooaa
