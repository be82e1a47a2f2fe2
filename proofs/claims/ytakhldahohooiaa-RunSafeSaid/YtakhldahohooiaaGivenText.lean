/- rows.Text's contract: a builder filled in a loop. -/
import Derived.Test.YtakhldahohooiaaPrxEnd
import Derived.Test.YtakhldahohooiaaShelf
namespace Go.Proofs.Ytakhldahohooiaa
set_option linter.unusedVariables false
set_option linter.unusedSimpArgs false
open Go.RowKit Go.Lib Go.Proofs.Ytakhldahohooiaa.Pr Go.Proofs.YtakhldahohooiaaW.PrintWords

/-- Where the tree of the node at i ends. -/
def endN (l : List S34) (i : Nat) : Nat := i + 1 + ((l.drop (i + 1)).takeWhile fun x => decide ((rd_T34 l (i : Int)).f0 < x.f0)).length
/-- The texts' data, one behind the other. -/
def datas (l : List S34) : List UInt8 := (l.filter fun x => decide (x.f1 = 1)).flatMap fun x => x.f3.data.toList
def rows_Text.f (l0 : List S34) (a1 : Int) : Option ByteArray :=
  if 0 ≤ a1 ∧ a1 < l0.length ∧ l0.length ≤ 1000000 ∧ (datas l0).length ≤ 140737488355328 then some (mkS (datas ((l0.take (endN l0 a1.toNat)).drop a1.toNat))) else none
theorem rd34 {l : List S34} {i : Nat} {x : S34} (h : l[i]? = some x) : rd_T34 l (i : Int) = x := by
  unfold rd_T34
  rw [Int.toNat_natCast, List.getD_eq_getElem?_getD, h]
  rfl
theorem endN_le (l : List S34) (i : Nat) (h : i < l.length) : i + 1 ≤ endN l i ∧ endN l i ≤ l.length := by
  unfold endN
  have := (List.takeWhile_sublist (l := l.drop (i + 1)) fun x => decide ((rd_T34 l (i : Int)).f0 < x.f0)).length_le
  rw [List.length_drop] at this
  omega
theorem w64 {i : Int} (h0 : -1 ≤ i) (h : i < 9000000000000000000) : wrap64 (i + 1) = i + 1 := by unfold wrap64; omega
theorem end_l0 (l : List S34) (i : Nat) (hi : i < l.length) (hl : l.length ≤ 1000000) : ∀ (d k0 : Nat), k0 + d = l.length → ∀ k, d < k → rows_End.l0 k l (i : Int) (k0 : Int) = some ((k0 + ((l.drop k0).takeWhile fun x => decide ((rd_T34 l (i : Int)).f0 < x.f0)).length : Nat) : Int)
  | 0, k0, h, k, hk => by
    obtain ⟨k, rfl⟩ : ∃ m, k = m + 1 := ⟨k - 1, by omega⟩
    simp only [rows_End.l0]
    rw [if_neg (by omega), List.drop_of_length_le (by omega)]
    rfl
  | d + 1, k0, h, k, hk => by
    obtain ⟨k, rfl⟩ : ∃ m, k = m + 1 := ⟨k - 1, by omega⟩
    have hx : l[k0]? = some (l[k0]'(by omega)) := List.getElem?_eq_getElem (by omega)
    have hd : l.drop k0 = l[k0]'(by omega) :: l.drop (k0 + 1) := by rw [List.drop_eq_getElem?_toList_append, hx]; simp
    simp only [rows_End.l0]
    rw [if_pos (by omega), if_pos (by omega), if_pos (by omega), if_pos (by omega), rd34 hx, hd, List.takeWhile_cons]
    by_cases g : (l[k0]'(by omega)).f0 > (rd_T34 l (i : Int)).f0
    · rw [if_pos g, if_pos (by rw [decide_eq_true_eq]; exact g), w64 (by omega) (by omega)]
      have := end_l0 l i hi hl d (k0 + 1) (by omega) k (by omega)
      rw [List.length_cons, show k0 + (((l.drop (k0 + 1)).takeWhile fun x => decide ((rd_T34 l (i : Int)).f0 < x.f0)).length + 1) = k0 + 1 + ((l.drop (k0 + 1)).takeWhile fun x => decide ((rd_T34 l (i : Int)).f0 < x.f0)).length by omega]
      exact this
    · rw [if_neg g, if_neg (by rw [decide_eq_true_eq]; exact g)]
      rfl
theorem end_f (l : List S34) (i : Nat) (hi : i < l.length) (hl : l.length ≤ 1000000) {k : Nat} (hk : l.length < k) : rows_End.f k l (i : Int) = some (endN l i : Int) := by
  unfold rows_End.f rows_is.f
  rw [if_pos (by omega)]
  simp only [Option.bind_some]
  rw [if_pos (by rw [decide_eq_true_eq]; omega), w64 (by omega) (by omega)]
  exact end_l0 l i hi hl (l.length - (i + 1)) (i + 1) (by omega) k (by omega)
theorem datas_app (a b : List S34) : datas (a ++ b) = datas a ++ datas b := by
  unfold datas; rw [List.filter_append, List.flatMap_append]
theorem datas_len {l : List S34} (a b : Nat) : (datas ((l.take a).drop b)).length ≤ (datas l).length := by
  have e : l = l.take b ++ ((l.take a).drop b ++ (l.drop a).drop (b - a)) := by
    rcases Nat.le_total a b with h | h
    · rw [List.drop_of_length_le (show (l.take a).length ≤ b by rw [List.length_take]; omega), List.nil_append, List.drop_drop, show a + (b - a) = b by omega, List.take_append_drop]
    · rw [show b - a = 0 by omega, List.drop_zero, ← List.append_assoc]
      have : l.take b ++ (l.take a).drop b = l.take a := by
        conv => rhs; rw [← List.take_append_drop b (l.take a)]
        rw [List.take_take, Nat.min_eq_left h]
      rw [this, List.take_append_drop]
  conv => rhs; rw [e]
  rw [datas_app, datas_app, List.length_append, List.length_append]
  omega
theorem datas_step {l : List S34} {i j : Nat} {x : S34} (hij : i ≤ j) (hx : l[j]? = some x) : datas ((l.take (j + 1)).drop i) = datas ((l.take j).drop i) ++ (if x.f1 = 1 then x.f3.data.toList else []) := by
  have hj := (List.getElem?_eq_some_iff.1 hx).1
  rw [List.take_add_one, hx, List.drop_append, datas_app]
  congr 1
  rw [show i - (l.take j).length = 0 by rw [List.length_take]; omega]
  unfold datas
  simp [List.filter_cons]
  split <;> simp
set_option maxHeartbeats 8000000 in
set_option maxRecDepth 100000 in
theorem rows_Text.calls (A0 : Option Addr) (c0 : Nat) (l0 : List S34) (a1 : Int) (r : ByteArray) (w : World) (hr0 : Kd.C k34 w A0 l0.length l0) (hc0 : l0.length ≤ c0) (h : rows_Text.f l0 a1 = some r) :
    Calls Try.prog 23 #[.slice A0 l0.length c0, .int .i64 a1] w fun e w' => e = .returned (.string r) ∧ Below w.heap.size w w' := by
  unfold rows_Text.f at h
  split at h
  case isFalse => cases h
  rename_i hg
  obtain ⟨g0, g1, g2, g3⟩ := hg
  obtain rfl := Option.some.inj h
  clear h
  obtain ⟨i, rfl⟩ := Int.eq_ofNat_of_zero_le g0
  rw [Int.toNat_natCast]
  have hi : i < l0.length := by omega
  have hEnd := hid (rows_End.calls (l0.length + 1) A0 c0 l0 i (endN l0 i) w hr0 hc0 (end_f l0 i hi g2 (Nat.lt_succ_self _)))
  have hle := endN_le l0 i hi
  obtain ⟨en, hen⟩ : ∃ n, endN l0 i = n := ⟨_, rfl⟩
  rw [hen] at hEnd hle ⊢
  clear hen
  have HR := hid hr0
  clear hr0
  have hne : ((i : Int) != -1) = true := by rw [bne_iff_ne]; omega
  have hm1 : (if (l0.length : Int) < (i : Int) then (l0.length : Int) else (i : Int)) = i := by rw [if_neg (by omega)]
  have hm2 : (if (0 : Int) < (i : Int) then (i : Int) else 0) = i := by split <;> omega
  have hm3 : min (i : Int) (l0.length : Int) = i := by omega
  have hm4 : max 0 (i : Int) = i := by omega
  obtain ⟨hl1, hl2⟩ := hle
  go_enter Try.func23, Try.ntmps23
  go_wp2_with (go_at_call 22; refine hEnd.out.mono ?_; rintro e w' ⟨rfl, nd, rfl⟩)
  go_loopw [8] (fun f wr => ∃ (j : Nat) (acc : List UInt8), Lib.IsBuilder 54 5 w.heap.size w.heap.size (Lib.byteCells acc) wr ∧ Below w.heap.size w wr ∧ Hid (acc = datas ((l0.take j).drop i)) ∧ i ≤ j ∧ j ≤ en ∧ f = .int .i64 j) (fun f _ => en - (intOf f).toNat)
  case atStart => exact ⟨i, [], Lib.fresh_isBuilder _ _ (w.drewN nd), (pw_below_drewN (Below.refl _ w) nd).alloc (Nat.le_refl _) _, hid (by rw [List.drop_of_length_le (by rw [List.length_take]; omega)]; rfl), Nat.le_refl _, by omega, rfl⟩
  case round =>
    obtain ⟨j, acc, hI, hbw, hacc, hij, hje, rfl⟩ := hrel
    have hsz : w.heap.size ≤ wr.heap.size := hbw.size
    by_cases hlt : j < en
    · have hjl : j < l0.length := by omega
      have hx : l0[j]? = some (l0[j]'hjl) := List.getElem?_eq_getElem hjl
      obtain ⟨x, hxx⟩ : ∃ x, l0[j]'hjl = x := ⟨_, rfl⟩
      rw [hxx] at hx
      have hst := hid (datas_step hij hx)
      have hal := hid (datas_len (l := l0) (j + 1) i)
      obtain ⟨ad, A4, c4, hA, q0, q1, q2, q3, q4, _, _⟩ := at_T34 HR.out (j : Int) (by omega) (by omega)
      rw [rd34 hx] at q1 q3
      subst hA
      replace q1 := (hbw.cell (World.block_lt_of_cell? w _ q1)).trans q1
      replace q3 := (hbw.cell (World.block_lt_of_cell? w _ q3)).trans q3
      clear q0 q2 q4 hxx hx
      have hjz : (j : Int) < (en : Int) := by omega
      have hjn : (j : Int) < (l0.length : Int) := by omega
      rw [Int.toNat_natCast] at q1 q3
      obtain ⟨f0, f1, f2, f3, f4⟩ := x
      simp only at q1 q3 hst
      by_cases hk : f1 = 1
      · subst hk
        have hb1 : Lib.byteCells (acc ++ f3.data.toList) = Lib.byteCells acc ++ Lib.strCells f3 := by simp [Lib.byteCells, Lib.strCells]
        have hb1' := hid hb1
        have hlen : acc.length + f3.size ≤ 140737488355328 := by
          have h1 := hal.out
          rw [hst.out, if_pos rfl, ← hacc.out, List.length_append] at h1
          have : f3.data.toList.length = f3.size := (Lib.size_eq f3).symm
          omega
        clear hb1
        go_wp2_with (go_at_call 37; refine (Try.Builder_WriteString w.heap.size w.heap.size _ _ _ hI (by rw [Lib.byteCells_length]; omega) hsz).mono ?_; rintro e w' ⟨rfl, h1, b1⟩)
        go_roundw
        case rel => exact ⟨j + 1, acc ++ f3.data.toList, by rw [hb1'.out]; exact Or.inr h1, hbw.trans b1, hid (by rw [hst.out, ← hacc.out]; (first | rw [if_pos trivial] | rw [if_pos rfl])), by omega, by omega, by go_num⟩
        case measure => simp [intOf]; omega
      · have hk2 : (f1 == 1) = false := by rw [beq_eq_false_iff_ne]; exact hk
        have hst2 := hid (hst.out)
        clear hst
        go_wp2_with fail
        go_roundw
        case rel => exact ⟨j + 1, acc, hI, hbw, hid (by rw [hst2.out, if_neg hk, List.append_nil, ← hacc.out]), by omega, by omega, by go_num⟩
        case measure => simp [intOf]; omega
    · obtain rfl : j = en := by omega
      go_wp2_with (go_at_call 38; refine (Try.Builder_String_any w.heap.size w.heap.size _ _ hI hsz).mono ?_; rintro e w' ⟨rfl, b1⟩)
      go_ret
      refine ⟨?_, hbw.trans b1⟩
      rw [hacc.out]
      rfl
end Go.Proofs.Ytakhldahohooiaa
