/- link.digit's and link.Percent's contracts. -/
import Derived.Test.YthnakndpdfgapaaStrip
import Derived.Deep.QuietTactic
import Derived.BigQuiet
import Derived.IntWalk
namespace Go.Proofs.Ythnakndpdfgapaa
set_option linter.unusedVariables false
set_option linter.unusedSimpArgs false
open Go.RowKit

/-- A digit's number of base sixteen; -1: it is none. -/
def hexI (c : Int) : Int := if 48 ≤ c ∧ c ≤ 57 then c - 48 else if 97 ≤ c ∧ c ≤ 102 then c - 87 else if 65 ≤ c ∧ c ≤ 70 then c - 55 else -1
theorem hexI_range (c : Int) : -1 ≤ hexI c ∧ hexI c ≤ 15 := by unfold hexI; repeat' split <;> omega
def hex (c : UInt8) : Int := hexI c.toNat
def percent : List UInt8 → List UInt8
  | [] => []
  | [c] => [c]
  | [c, d] => [c, d]
  | c :: x :: y :: t => if c = 37 ∧ 0 ≤ hex x ∧ 0 ≤ hex y then (16 * hex x + hex y).toNat.toUInt8 :: percent t else c :: percent (x :: y :: t)
termination_by l => l.length

theorem percent_short (l : List UInt8) (h : l.length ≤ 2) : percent l = l := by
  match l, h with
  | [], _ => simp [percent]
  | [c], _ => simp [percent]
  | [c, d], _ => simp [percent]
  | c :: x :: y :: t, h => simp at h
theorem percent_mark {l : List UInt8} {i : Nat} {c x y : UInt8} (h0 : l[i]? = some c) (h1 : l[i + 1]? = some x) (h2 : l[i + 2]? = some y) (hc : c.toNat = 37) (hx : 0 ≤ hex x) (hy : 0 ≤ hex y) :
    percent (l.drop i) = (16 * hex x + hex y).toNat.toUInt8 :: percent (l.drop (i + 3)) := by
  rw [drop_three h0 h1 h2]
  have hc' : c = 37 := UInt8.toNat_inj.1 (by simpa using hc)
  simp only [percent]
  rw [if_pos ⟨hc', hx, hy⟩]
theorem percent_one {l : List UInt8} {i : Nat} {c : UInt8} (h0 : l[i]? = some c) (h : c.toNat ≠ 37 ∨ l.length ≤ i + 2 ∨ ∃ x y, l[i + 1]? = some x ∧ l[i + 2]? = some y ∧ (hex x < 0 ∨ hex y < 0)) :
    percent (l.drop i) = c :: percent (l.drop (i + 1)) := by
  rcases Nat.lt_or_ge (i + 2) l.length with hl | hl
  · have h1 : l[i + 1]? = some (l[i + 1]'(by omega)) := List.getElem?_eq_getElem _
    have h2 : l[i + 2]? = some (l[i + 2]'(by omega)) := List.getElem?_eq_getElem _
    have hd := drop_three h0 h1 h2
    have hd1 : l.drop (i + 1) = l[i + 1]'(by omega) :: l[i + 2]'(by omega) :: l.drop (i + 3) := by
      have := drop_one h0
      rw [hd] at this
      exact (List.cons.inj this).2.symm
    rw [hd, hd1]
    simp only [percent]
    rw [if_neg]
    rintro ⟨hc, hx, hy⟩
    rcases h with h | h | ⟨x, y, e1, e2, h⟩
    · subst hc; exact h rfl
    · omega
    · rw [h1] at e1; rw [h2] at e2
      cases e1; cases e2
      omega
  · rw [drop_one h0, percent_short _ (by simp; omega), percent_short (l.drop (i + 1)) (by simp; omega)]


set_option maxHeartbeats 1000000 in
theorem digit_calls (c : Int) (w : World) (h0 : 0 ≤ c) (h1 : c < 256) : Calls Try.prog 30 #[.int .u8 c] w fun e w' => e = .returned (.int .i64 (hexI c)) ∧ w' = w := by
  rcases (by omega : c < 48 ∨ (48 ≤ c ∧ c ≤ 57) ∨ (57 < c ∧ c < 65) ∨ (65 ≤ c ∧ c ≤ 70) ∨ (70 < c ∧ c < 97) ∨ (97 ≤ c ∧ c ≤ 102) ∨ 102 < c) with h | ⟨h, h'⟩ | ⟨h, h'⟩ | ⟨h, h'⟩ | ⟨h, h'⟩ | ⟨h, h'⟩ | h
  all_goals
    go_enter Try.func30, Try.ntmps30
    go_wp2
    go_ret
    exact ⟨ret_int (by unfold hexI; repeat' split <;> omega), rfl⟩

theorem digit_at (c : UInt8) (w : World) : Calls Try.prog 30 #[.int .u8 (c.toNat : Int)] w fun e w' => e = .returned (.int .i64 (hex c)) ∧ w' = w :=
  digit_calls _ w (by omega) (by have := c.toNat_lt; omega)

theorem byte_snoc (acc : List UInt8) (c : UInt8) : Lib.byteCells (acc ++ [c]) = Lib.byteCells acc ++ [Value.int .u8 c.toNat] := by simp [Lib.byteCells]
theorem nib_fin : ∀ x y : Fin 16, bits BinOp.or IntKind.i64 ((x.val : Int) * 16) (y.val : Int) % 256 = ((16 * (x.val : Int) + (y.val : Int)).toNat.toUInt8.toNat : Int) := by decide +kernel
theorem nib (X Y : Int) (h0 : 0 ≤ X) (h1 : X ≤ 15) (h2 : 0 ≤ Y) (h3 : Y ≤ 15) : bits BinOp.or IntKind.i64 (X * 16) Y % 256 = ((16 * X + Y).toNat.toUInt8.toNat : Int) := by
  obtain ⟨x, rfl⟩ := Int.eq_ofNat_of_zero_le h0
  obtain ⟨y, rfl⟩ := Int.eq_ofNat_of_zero_le h2
  exact nib_fin ⟨x, by omega⟩ ⟨y, by omega⟩

set_option maxHeartbeats 4000000 in
set_option maxRecDepth 100000 in
theorem percent_calls (s : ByteArray) (w : World) (hs : s.size ≤ 140737488351232) :
    Calls Try.prog 19 #[.string s] w fun e w' => e = .returned (.string ⟨(percent s.data.toList).toArray⟩) ∧ Below w.heap.size w w' := by
  go_enter Try.func19, Try.ntmps19
  go_wp2_with fail
  go_loopw [4] (fun f wr => ∃ (i : Nat) (acc : List UInt8), Lib.IsBuilder 41 5 w.heap.size w.heap.size (Lib.byteCells acc) wr ∧ Below w.heap.size w wr ∧ Hid (acc ++ percent (s.data.toList.drop i) = percent s.data.toList) ∧ i ≤ s.size ∧ acc.length ≤ i ∧ f = .int .i64 i) (fun f _ => s.size - (intOf f).toNat)
  case atStart => exact ⟨0, [], Lib.fresh_isBuilder _ _ w, (Below.refl _ w).alloc (Nat.le_refl _) _, hid rfl, Nat.zero_le _, by simp, rfl⟩
  case round =>
    obtain ⟨i, acc, hI, hbw, hacc, his, hal, rfl⟩ := hrel
    have hsz : w.heap.size ≤ wr.heap.size := hbw.size
    by_cases hlt : i < s.size
    · have hc := byte_at s i hlt
      by_cases hm : s[i].toNat = 37 ∧ i + 2 < s.size
      · obtain ⟨h37, hlen⟩ := hm
        have hc1 := byte_at s (i + 1) (by omega)
        have hc2 := byte_at s (i + 2) (by omega)
        have j37 : ((s[i].toNat : Int) == 37) = true := by rw [beq_iff_eq]; omega
        have b1 : (0 : Int) ≤ (i : Int) + 1 ∧ (i : Int) + 1 < (s.size : Int) := by omega
        have b2 : (0 : Int) ≤ (i : Int) + 2 ∧ (i : Int) + 2 < (s.size : Int) := by omega
        have h37' := hid h37
        clear h37
        have hc' := hid hc
        have hc1' := hid hc1
        have hc2' := hid hc2
        clear hc hc1 hc2
        go_upto_region 6 with fail
        have w1 : IntKind.i64.wrap ((i : Int) + 1) = (i : Int) + 1 := IntWalk.i64_in _ (by omega)
        have w2 : IntKind.i64.wrap ((i : Int) + 2) = (i : Int) + 2 := IntWalk.i64_in _ (by omega)
        have p1 : (0 : Int) ≤ (i : Int) + 1 := by omega
        have p2 : (0 : Int) ≤ (i : Int) + 2 := by omega
        have n1 : ((i : Int) + 1).toNat = i + 1 := by omega
        have n2 : ((i : Int) + 2).toNat = i + 2 := by omega
        go_quiet ((go_at_call 30; exact Calls.quiet_of_same (digit_at _ _)))
        clear w1 w2
        have hI2 : Lib.IsBuilder 41 5 w.heap.size w.heap.size (Lib.byteCells acc) (wr.drewN nq) := hI
        have hsz2 : w.heap.size ≤ (wr.drewN nq).heap.size := hsz
        have rx := hexI_range (s[i + 1].toNat : Int)
        have ry := hexI_range (s[i + 2].toNat : Int)
        obtain ⟨X, hX⟩ : ∃ X, hex s[i + 1] = X := ⟨_, rfl⟩
        obtain ⟨Y, hY⟩ : ∃ Y, hex s[i + 2] = Y := ⟨_, rfl⟩
        rw [show hexI (s[i + 1].toNat : Int) = X from hX] at rx
        rw [show hexI (s[i + 2].toNat : Int) = Y from hY] at ry
        rw [hX, hY]
        have hX' := hid hX
        have hY' := hid hY
        clear hX hY
        by_cases hx : 0 ≤ X
        · by_cases hy : 0 ≤ Y
          · have hq := hid (percent_mark hc'.out hc1'.out hc2'.out h37'.out (by rw [hX'.out]; exact hx) (by rw [hY'.out]; exact hy))
            have hcell := hid (byte_snoc acc (16 * X + Y).toNat.toUInt8)
            go_wp2_with fail
            rw [nib X Y hx rx.2 hy ry.2]
            refine (Try.Builder_WriteByte w.heap.size w.heap.size _ _ _ hI2 (by rw [Lib.byteCells_length]; omega) hsz2).mono ?_
            rintro e w' ⟨rfl, h1, b3⟩
            go_wp2_with fail
            go_roundw
            case rel => exact ⟨i + 3, acc ++ [(16 * X + Y).toNat.toUInt8], by rw [hcell.out]; exact Or.inr h1, (below_drewN' hbw nq).trans b3, hid (by rw [List.append_assoc]; rw [hX'.out, hY'.out] at hq; rw [← hacc.out, hq.out]; rfl), by omega, by simp; omega, by go_num⟩
            case measure => simp [intOf]; omega
          · have hq := hid (percent_one hc'.out (.inr (.inr ⟨_, _, hc1'.out, hc2'.out, .inr (by rw [hY'.out]; omega)⟩)))
            have hcell := hid (byte_snoc acc s[i])
            go_wp2_with fail
            refine (Try.Builder_WriteByte w.heap.size w.heap.size _ _ _ hI2 (by rw [Lib.byteCells_length]; omega) hsz2).mono ?_
            rintro e w' ⟨rfl, h1, b3⟩
            go_wp2_with fail
            go_roundw
            case rel => exact ⟨i + 1, acc ++ [s[i]], by rw [hcell.out]; exact Or.inr h1, (below_drewN' hbw nq).trans b3, hid (by rw [List.append_assoc, ← hacc.out, hq.out]; rfl), by omega, by simp; omega, by go_num⟩
            case measure => simp [intOf]; omega
        · have hq := hid (percent_one hc'.out (.inr (.inr ⟨_, _, hc1'.out, hc2'.out, .inl (by rw [hX'.out]; omega)⟩)))
          have hcell := hid (byte_snoc acc s[i])
          go_wp2_with fail
          refine (Try.Builder_WriteByte w.heap.size w.heap.size _ _ _ hI2 (by rw [Lib.byteCells_length]; omega) hsz2).mono ?_
          rintro e w' ⟨rfl, h1, b3⟩
          go_wp2_with fail
          go_roundw
          case rel => exact ⟨i + 1, acc ++ [s[i]], by rw [hcell.out]; exact Or.inr h1, (below_drewN' hbw nq).trans b3, hid (by rw [List.append_assoc, ← hacc.out, hq.out]; rfl), by omega, by simp; omega, by go_num⟩
          case measure => simp [intOf]; omega
      · have hq := hid (percent_one hc (by simp only [Array.length_toList]; show _ ∨ s.size ≤ _ ∨ _; omega))
        have hcell := hid (byte_snoc acc s[i])
        clear hc
        by_cases h37 : s[i].toNat = 37
        · have hlen : ¬ (i : Int) + 2 < (s.size : Int) := by omega
          have j37 : ((s[i].toNat : Int) == 37) = true := by rw [beq_iff_eq]; omega
          have h37' := hid h37
          clear h37 hm
          go_wp2_with (go_at_call 28; refine (Try.Builder_WriteByte w.heap.size w.heap.size _ _ _ hI (by rw [Lib.byteCells_length]; omega) hsz).mono ?_; rintro e w' ⟨rfl, h1, b3⟩)
          go_roundw
          case rel => exact ⟨i + 1, acc ++ [s[i]], by rw [hcell.out]; exact Or.inr h1, hbw.trans b3, hid (by rw [List.append_assoc, ← hacc.out, hq.out]; rfl), by omega, by simp; omega, by go_num⟩
          case measure => simp [intOf]; omega
        · have j37 : ((s[i].toNat : Int) == 37) = false := by rw [beq_eq_false_iff_ne]; omega
          clear h37 hm
          go_wp2_with (go_at_call 28; refine (Try.Builder_WriteByte w.heap.size w.heap.size _ _ _ hI (by rw [Lib.byteCells_length]; omega) hsz).mono ?_; rintro e w' ⟨rfl, h1, b3⟩)
          go_roundw
          case rel => exact ⟨i + 1, acc ++ [s[i]], by rw [hcell.out]; exact Or.inr h1, hbw.trans b3, hid (by rw [List.append_assoc, ← hacc.out, hq.out]; rfl), by omega, by simp; omega, by go_num⟩
          case measure => simp [intOf]; omega
    · go_wp2_with (go_at_call 29; refine (Try.Builder_String_any w.heap.size w.heap.size _ _ hI hsz).mono ?_; rintro e w' ⟨rfl, b1⟩)
      go_ret
      obtain rfl : i = s.size := by omega
      refine ⟨ret_str ?_, hbw.trans b1⟩
      rw [← hacc.out]
      rw [List.drop_of_length_le (by simp), percent_short [] (by simp)]
      simp
end Go.Proofs.Ythnakndpdfgapaa
