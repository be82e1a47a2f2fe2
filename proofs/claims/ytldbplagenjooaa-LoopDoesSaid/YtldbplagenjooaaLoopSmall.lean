/- boltinglaw18.LoopSmall answers true. -/
import Derived.Test.YtldbplagenjooaaLoopOwn
import Derived.Outline
namespace Go.Proofs.Ytldbplagenjooaa
set_option linter.unusedVariables false
set_option linter.unusedSimpArgs false
open Go.RowKit Go.Lib Go.Shelf Go.Maps Go.Proofs.YtldbplagenjooaaW.PrintWords Go.Proofs.YtldbplagenjooaaW.PrintLast

theorem i64_and7 (n : Int) : bits .and .i64 n 7 = n % 8 := by
  have h127 : (BitVec.ofInt 64 7).toNat = 2 ^ 3 - 1 := by decide
  have key : (BitVec.ofInt 64 n &&& BitVec.ofInt 64 7).toNat = (n % ((2 ^ 64 : Nat) : Int)).toNat % 2 ^ 3 := by
    rw [BitVec.toNat_and, BitVec.toNat_ofInt, h127, Nat.and_two_pow_sub_one_eq_mod]
  show IntKind.i64.wrap ((BitVec.ofInt 64 n &&& BitVec.ofInt 64 7).toNat : Nat) = n % 8
  rw [key, IntKind.wrap_i64]
  omega
/-- The small ones that stand there in round k. -/
def queue (L : List ByteArray) (k : Nat) : List ByteArray := (L ++ L.take k).drop k
theorem queue_zero (L : List ByteArray) : queue L 0 = L := by unfold queue; simp
theorem queue_end (L : List ByteArray) : queue L (2 * L.length) = [] := by
  unfold queue
  rw [List.take_of_length_le (by omega), List.drop_of_length_le (by rw [List.length_append]; omega)]
theorem queue_at {L : List ByteArray} {k : Nat} (hk : k < 2 * L.length) : ∃ S, queue L k = L.getD (k % L.length) ByteArray.empty :: S ∧ (if k < L.length then S ++ [L.getD (k % L.length) ByteArray.empty] else S) = queue L (k + 1) ∧ S.length ≤ 2 * L.length := by
  have hlen : (L ++ L.take k).length = L.length + min k L.length := by rw [List.length_append, List.length_take]
  have hlt : k < (L ++ L.take k).length := by rw [hlen]; omega
  have hx : (L ++ L.take k)[k] = L.getD (k % L.length) ByteArray.empty := by
    by_cases h : k < L.length
    · rw [List.getElem_append_left h, Nat.mod_eq_of_lt h, List.getD_eq_getElem?_getD, List.getElem?_eq_getElem h]
      rfl
    · have hm : k % L.length = k - L.length := by
        rw [Nat.mod_eq_sub_mod (by omega), Nat.mod_eq_of_lt (by omega)]
      rw [List.getElem_append_right (by omega), List.getElem_take, hm, List.getD_eq_getElem?_getD, List.getElem?_eq_getElem (by omega)]
      rfl
  refine ⟨(L ++ L.take k).drop (k + 1), ?_, ?_, by rw [List.length_drop, hlen]; omega⟩
  · unfold queue
    rw [List.drop_eq_getElem_cons hlt, hx]
  · unfold queue
    by_cases h : k < L.length
    · rw [if_pos h, ← hx, List.getElem_append_left h]
      rw [List.take_succ_eq_append_getElem h, ← List.append_assoc]
      exact (List.drop_append_of_le_length (l₁ := L ++ L.take k) (by rw [hlen]; omega)).symm
    · rw [if_neg h, List.take_of_length_le (by omega), List.take_of_length_le (by omega)]
/-- A string of a list that came in, in a later world. -/
theorem reads_later {w wr : World} {B : Nat} {A : Option Addr} {l : List ByteArray} (hl : ReadsOf Value.string ByteArray.empty w A l.length l) (hb : Below w.heap.size w wr) {j : Nat} (hj : j < l.length) : ∃ ad, A = some ad ∧ wr.cell? (ad.add j) = some (.string (l.getD j ByteArray.empty)) := by
  obtain ⟨ad, hA, hc⟩ := hl.2.2 (by omega)
  exact ⟨ad, hA, pw_cell_below hb (hc j hj)⟩
theorem getD_take (l : List ByteArray) (n j : Nat) (hj : j < n) : (l.take n).getD j ByteArray.empty = l.getD j ByteArray.empty := by
  rw [List.getD_eq_getElem?_getD, List.getD_eq_getElem?_getD, List.getElem?_take, if_pos hj]
set_option maxHeartbeats 4000000 in
set_option maxRecDepth 100000 in
theorem small_law {A : Option Addr} {c : Nat} {l : List ByteArray} {w : World} (source : Int) (hl : ReadsOf Value.string ByteArray.empty w A l.length l) (hc : l.length ≤ c) :
    Calls Try.prog 3 #[.slice A l.length c, .int .i64 source] w fun e w' => e = .returned (.bool true) ∧ Below w.heap.size w w' := by
  have h7 := i64_and7 source
  have hs0 : 0 ≤ source % 8 := by omega
  have hs8 : source % 8 < 8 := by omega
  obtain ⟨n, hn⟩ : ∃ n, min l.length 50 = n := ⟨_, rfl⟩
  obtain ⟨k8, hk8⟩ : ∃ k8, source % 8 = k8 := ⟨_, rfl⟩
  rw [hk8] at h7 hs0 hs8
  have hn50 : n ≤ 50 := by omega
  have hnl : n ≤ l.length := by omega
  have hmin : min (l.length : Int) 50 = (n : Int) := by omega
  obtain ⟨L, hLd⟩ : ∃ L, l.take n = L := ⟨_, rfl⟩
  have hLn : L.length = n := by rw [← hLd, List.length_take]; omega
  have hcell : Hid (∀ wr, Below w.heap.size w wr → ∀ j, j < n → ∃ ad, A = some ad ∧ wr.cell? (ad.add j) = some (.string (L.getD j ByteArray.empty))) := hid (fun wr hb j hj => by
    rw [← hLd, getD_take l n j hj]
    exact reads_later (B := 0) hl hb (by omega))
  have HLN := hid hLn
  have hll : l.length ≤ 9223372036854775807 := hl.2.1
  clear hk8 hn hl hLd hLn
  go_enter Try.func3, Try.ntmps3
  go_wp2_with fail
  refine (o_new _).mono ?_
  rintro e w1 ⟨p, rfl, h1⟩
  have H1 := hid h1
  clear h1
  go_wp2_with fail
  refine (o_post H1.out _ hs0 hs8 (by decide) (by decide)).mono ?_
  rintro e w2 ⟨rfl, h2⟩
  obtain ⟨T, hT⟩ : ∃ T, upd (fun _ => []) k8 ([] ++ [⟨#[116, 97, 115, 107]⟩]) = T := ⟨_, rfl⟩
  have hTk : T k8 = [⟨#[116, 97, 115, 107]⟩] := by rw [← hT, upd_self]; rfl
  rw [hT] at h2
  have H2 := hid h2
  have HT := hid hTk
  clear h2 H1 hT hTk
  go_wp2
  go_loopw [7] (fun i wr => ∃ k : Nat, i = .int .i64 k ∧ k ≤ n ∧ Own w wr p 1 T (L.take k)) (fun i _ => n - (intOf i).toNat)
  case atStart => exact ⟨0, rfl, by omega, H2.out⟩
  case round =>
    obtain ⟨k, rfl, hk, ho⟩ := hrel
    have HO := hid ho
    clear ho
    by_cases hlt : k < n
    · obtain ⟨ad, rfl, hce⟩ := hcell.out wr HO.out.below k hlt
      go_wp2_with fail
      refine (o_small HO.out _ (by rw [List.length_take]; omega)).mono ?_
      rintro e w3 ⟨rfl, h3⟩
      have H3 := hid h3
      clear h3
      go_wp2
      go_roundw
      case rel => exact ⟨k + 1, by go_num, by omega, by
        have h := H3.out
        have e1 : L.take (k + 1) = L.take k ++ [L.getD k ByteArray.empty] := by
          have hk' : k < L.length := by rw [HLN.out]; exact hlt
          rw [List.take_succ_eq_append_getElem hk', List.getD_eq_getElem?_getD, List.getElem?_eq_getElem hk']
          rfl
        rw [e1]
        exact h⟩
      case measure => simp [intOf]; omega
    · have hkn : k = n := by omega
      subst hkn
      have H4 : Hid (Own w wr p 1 T (queue L 0)) := hid (by
        have h := HO.out
        rw [List.take_of_length_le (by rw [HLN.out]; omega)] at h
        rw [queue_zero]
        exact h)
      clear HO hlt hk
      go_wp2
      go_loopw [8] (fun i wr => ∃ q : Nat, i = .int .i64 q ∧ q ≤ 2 * k ∧ Own w wr p 1 T (queue L q)) (fun i _ => 2 * k - (intOf i).toNat)
      case atStart => exact ⟨0, rfl, by omega, H4.out⟩
      case round =>
        obtain ⟨q, rfl, hq, ho⟩ := hrel
        have HO := hid ho
        clear ho
        by_cases hlt : q < 2 * k
        · obtain ⟨S, hS1, hS2, hS3⟩ := queue_at (L := L) (k := q) (by rw [HLN.out]; exact hlt)
          rw [HLN.out] at hS1 hS2 hS3
          have hmod : q % k < k := Nat.mod_lt _ (by omega)
          have H5 := hid (hS1 ▸ HO.out)
          have HS2 := hid hS2
          clear hS1 hS2
          go_wp2_with fail
          refine (o_pick0 H5.out hs0 hs8 (by rw [List.length_cons]; omega) (.inl (by simp))).mono ?_
          rintro e w4 ⟨rfl, rfl⟩
          go_wp2_with fail
          refine (o_next H5.out (by omega)).mono ?_
          rintro e w5 ⟨rfl, h5⟩
          have H6 := hid h5
          clear h5
          obtain ⟨ad, rfl, hce⟩ := hcell.out w5 H6.out.below (q % k) hmod
          have hrem : Int.tmod (q : Int) (k : Int) = ((q % k : Nat) : Int) := by rw [Int.tmod_eq_emod_of_nonneg (by omega)]; rfl
          go_wp2_with fail
          · have hqk : q < k := by assumption
            refine (o_small H6.out _ (by omega)).mono ?_
            rintro e w6 ⟨rfl, h6⟩
            have H7 := hid h6
            clear h6
            go_wp2
            go_roundw
            case rel => exact ⟨q + 1, by go_num, by omega, by
              have h := H7.out
              have e1 := HS2.out
              rw [if_pos hqk, List.getD_eq_getElem?_getD] at e1
              rw [e1] at h
              exact h⟩
            case measure => simp [intOf]; omega
          · have hqk : ¬ q < k := by assumption
            go_roundw
            case rel => exact ⟨q + 1, by go_num, by omega, by
              have h := H6.out
              have e1 := HS2.out
              rw [if_neg hqk] at e1
              rw [e1] at h
              exact h⟩
            case measure => simp [intOf]; omega
        · have hqn : q = 2 * k := by omega
          have H5 : Hid (Own w wr p 1 T []) := hid (by
            have h := HO.out
            rw [hqn, ← HLN.out, queue_end] at h
            exact h)
          clear HO
          go_wp2_with fail
          refine (o_pick H5.out HT.out (by decide) (by decide)).mono ?_
          rintro e w4 ⟨rfl, h6⟩
          have H6 := hid h6
          clear h6
          go_wp2_with fail
          refine (fixed_calls _).mono ?_
          rintro e w5 ⟨rfl, hb⟩
          have HB := hid hb
          clear hb
          go_wp2
          go_ret
          exact ⟨rfl, H6.out.below.trans (HB.out.mono H6.out.below.size)⟩
end Go.Proofs.Ytldbplagenjooaa
