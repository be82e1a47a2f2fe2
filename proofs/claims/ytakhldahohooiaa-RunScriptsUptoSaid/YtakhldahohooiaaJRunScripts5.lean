/- Texts under the row of RunScripts (part 5).. -/
import Derived.Test.YtakhldahohooiaaJRunScripts2
import Derived.Test.YtakhldahohooiaaJRunScripts4
import Derived.Test.YtakhldahohooiaaJRunScripts3
import Derived.Test.YtakhldahohooiaaJRunScripts0
import Derived.Test.YtakhldahohooiaaJRunScripts1
namespace Go.Proofs.Ytakhldahohooiaa.Pr
open Go.RowKit Go.Proofs.YtakhldahohooiaaW.PrintWords Go.Proofs.YtakhldahohooiaaW.PrintLast Go.Proofs.YtakhldahohooiaaW.PrintMore
attribute [local go_sem] max2_int min2_int max_two min_two max_three min_three max_four min_four   -- for this text's walks alone
set_option linter.unusedVariables false
set_option linter.unusedSimpArgs false

/-! ### boltingref09_Percent: function 54 -/
mutual
def boltingref09_Percent.l0 : Nat → ByteArray → List Int → Int → Option (ByteArray)
  | 0, _, _, _ => none
  | k + 1, x0, x3, x4 => if x4 < (x0.size : Int) then (if 0 ≤ x4 then (if (bt x0 x4) = 37 then (if (wrap64 (x4 + 2)) < (x0.size : Int) then (if 0 ≤ (wrap64 (x4 + 1)) then (if (wrap64 (x4 + 1)) < (x0.size : Int) then ((boltingref09_digit.f k (bt x0 (wrap64 (x4 + 1)))).bind fun t249 => (if t249 ≥ 0 then (if 0 ≤ (wrap64 (x4 + 2)) then ((boltingref09_digit.f k (bt x0 (wrap64 (x4 + 2)))).bind fun t250 => (boltingref09_Percent.j1 k x0 x3 x4 (decide (t250 ≥ 0)))) else (none)) else (boltingref09_Percent.j1 k x0 x3 x4 false))) else (none)) else (none)) else (boltingref09_Percent.j1 k x0 x3 x4 false)) else (boltingref09_Percent.j1 k x0 x3 x4 false)) else (none)) else (some (strOfNums x3))
def boltingref09_Percent.j1 : Nat → ByteArray → List Int → Int → Bool → Option (ByteArray)
  | 0, _, _, _, _ => none
  | k + 1, x0, x3, x4, x5 => if x5 = true then (if 0 ≤ (wrap64 (x4 + 1)) then (if (wrap64 (x4 + 1)) < (x0.size : Int) then ((boltingref09_digit.f k (bt x0 (wrap64 (x4 + 1)))).bind fun t251 => (if 0 ≤ (wrap64 (x4 + 2)) then (if (wrap64 (x4 + 2)) < (x0.size : Int) then ((boltingref09_digit.f k (bt x0 (wrap64 (x4 + 2)))).bind fun t252 => (if x3.length < 140737488355328 then (boltingref09_Percent.l0 k x0 (x3 ++ [(wrap64 ((wrap64 (16 * t251)) + t252)) % 256]) (wrap64 ((wrap64 (x4 + 2)) + 1))) else (none))) else (none)) else (none))) else (none)) else (none)) else (if 0 ≤ x4 then (if x4 < (x0.size : Int) then (if x3.length < 140737488355328 then (boltingref09_Percent.l0 k x0 (x3 ++ [bt x0 x4]) (wrap64 (x4 + 1))) else (none)) else (none)) else (none))
end
def boltingref09_Percent.f (k : Nat) (a0 : ByteArray) : Option (ByteArray) := boltingref09_Percent.l0 k a0 (([] : List Int)) 0
def boltingref09_Percent.T7 : Bool × List (List Nat × List Nat) := (true, [([], []), ([], []), ([], []), ([2], [2]), ([1, 3], [1, 3]), ([4], [4]), ([5], [5]), ([], []), ([], []), ([8], [8]), ([7, 9], [7, 9]), ([10, 5], [10]), ([6, 11], [6, 11]), ([12], [12]), ([13], [13]), ([0, 14, 11], [0, 14]), ([15, 15, 0, 1, 2, 3, 4, 5, 6, 7, 8, 9, 10, 11, 12, 13, 14, 15], [0, 15])])
def boltingref09_Percent.B7 : List Nat := [0, 0, 0, 4, 14, 30, 62, 0, 0, 256, 896, 1982, 4094, 8190, 16382, 32767, 65535]
theorem boltingref09_Percent.tab7 : rtab .any (opsOf Try.f54 7) = boltingref09_Percent.T7 := by kernel_rfl
theorem boltingref09_Percent.bits7 : waitsOk boltingref09_Percent.T7.2 boltingref09_Percent.B7 = true := by kernel_rfl
set_option maxHeartbeats 8000000 in
set_option maxRecDepth 100000 in
theorem boltingref09_Percent.calls (k : Nat) (a0 : ByteArray) (r : ByteArray) (w : World) (h : boltingref09_Percent.f k a0 = some r) :
    Calls Try.prog 54 #[.string a0] w fun e w' => e = .returned (.string r) ∧ Below w.heap.size w w' := by
  have HB := Aside0.mk (Below.refl w.heap.size w)
  have H : (boltingref09_Percent.l0 k a0 (([] : List Int)) 0) = some r := h
  clear h
  obtain ⟨y246, hy246⟩ : ∃ y_ : List Int, y_ = (([] : List Int)) := ⟨_, rfl⟩
  replace H : (boltingref09_Percent.l0 k a0 y246 0) = some r := by first | (rw [hy246]; with_reducible exact H) | (have H2_ := (Option.bind_some _ _).symm.trans H; rw [hy246]; with_reducible exact H2_) | (have H2_ := (Option.bind_some _ _).symm.trans H; with_reducible exact H2_) | with_reducible exact H | (rw [hy246]; exact H) | exact H
  have Ny246 := Aside0.mk hy246
  clear hy246
  have H' := Aside0.mk H
  clear H
  go_enter Try.func54, Try.ntmps54
  go_wp2_with (first | ((with_reducible refine gate_dst (N := 6) rfl ?_); (try (refine gate_guard (by rfl) ?_; dsimp only)); refine Kd.R_lit (Kd.int .u8) _ 5 ?hg (N := 6) ?hd (xs := ([] : List Int)) (inner := []) (ok := fun _ => True) (okp := fun _ => True) ?hr ?hp (fun _ hk => hk) trivial (Below.refl _ _) (Nat.le_refl _) (by simp) ?_; (case hd => rfl); (case hg => rfl); (case hr => first | (go_simp; done) | (go_simp; rfl)); (case hp => exact (Reps.none _ _)); intro v247 w2 ho3 hb hg_ hnew_; clear hg_ hnew_; (first | rw [← Ny246.out] at ho3 | (simp only [Int.reduceToNat] at ho3; rw [← Ny246.out] at ho3)); have n0_ := Aside0.mk (Kd.R_lower ho3 (below_size (by repeat (first | (with_reducible first | exact HB.out | apply below_alloc | apply pw_below_drewN | apply below_drew1) | exact HB.out)))); have n1_ := Aside0.mk (below_step (by repeat (first | (with_reducible first | exact HB.out | apply below_alloc | apply pw_below_drewN | apply below_drew1) | exact HB.out)) hb); clear HB; have HO248 := n0_; have HB := n1_; clear n0_ n1_; clear hb ho3))
  go_loopg [3, 4] k (fun kq v3 v4 w' => ∃ (x3_1 : List Int) (x4_1 : Int), v4 = .int .i64 x4_1 ∧ Aside0 (boltingref09_Percent.l0 kq a0 x3_1 x4_1 = some r) ∧ Aside0 (kq ≤ k) ∧ Aside0 (Kd.R (Kd.int .u8) 5 w' w.heap.size (fun _ => True) v3 x3_1) ∧ Aside0 (Below w.heap.size w w'))
  case atStart => exact ⟨(y246), (0), (by first | rfl | (simp; done) | (simp [*]; done)), H', ⟨Nat.le_refl _⟩, ⟨by (with_reducible repeat (first | apply Kd.R_alloc | apply Kd.R_drewN | apply Kd.R_drew)); exact HO248.out⟩, ⟨by repeat (first | (with_reducible first | exact HB.out | apply below_alloc | apply pw_below_drewN | apply below_drew1) | exact HB.out)⟩⟩
  case round =>
    clear H'
    try clear p2
    obtain ⟨x3_1, x4_1, rfl, HA, HK1, HO_3, HB⟩ := hrel
    cases gk with
    | zero => exact absurd HA.out (by simp [boltingref09_Percent.l0])
    | succ k1 =>
      have H := HA.out
      clear HA
      simp only [boltingref09_Percent.l0] at H
      by_cases c4 : x4_1 < (a0.size : Int)
      · rw [if_pos c4] at H
        have c4b0 : decide (x4_1 < (a0.size : Int)) = true := decide_eq_true c4
        clear c4
        have HC5 := Aside0.mk H
        clear H
        go_upto_region 5 with (fail)
        go_cut [5] (fun v5 wc => ∃ (kq : Nat) (x5_4 : Bool), v5 = .bool x5_4 ∧ Aside0 (boltingref09_Percent.j1 kq a0 x3_1 x4_1 x5_4 = some r) ∧ Aside0 (kq ≤ k1) ∧ Aside0 (Kd.R (Kd.int .u8) 5 wc w.heap.size (fun _ => True) u3 x3_1) ∧ Aside0 (Below w.heap.size w wc))
        case first =>
          have H := HC5.out
          clear HC5
          by_cases c6 : 0 ≤ x4_1
          · rw [if_pos c6] at H
            have c6b0 : decide (0 ≤ x4_1) = true := decide_eq_true c6
            clear c6
            (first | rw [c6b0] | (simp only [i64_w, i32_w]; rw [c6b0]) | skip)
            by_cases c8 : (bt a0 x4_1) = 37
            · rw [if_pos c8] at H
              have c8b0 : ((bt a0 x4_1) == 37) = true := beq_iff_eq.mpr c8
              have c8b1 : ((bt a0 x4_1) != 37) = false := bne_eq_false_iff_eq.mpr c8
              clear c8
              by_cases c9 : (wrap64 (x4_1 + 2)) < (a0.size : Int)
              · rw [if_pos c9] at H
                have c9b0 : decide ((wrap64 (x4_1 + 2)) < (a0.size : Int)) = true := decide_eq_true c9
                clear c9
                obtain ⟨ji10, hji10⟩ : ∃ j_ : Int, (wrap64 (x4_1 + 1)) = j_ := ⟨_, rfl⟩
                replace H : (if 0 ≤ (ji10) then (if (ji10) < (a0.size : Int) then ((boltingref09_digit.f k1 (bt a0 (ji10))).bind fun t249 => (if t249 ≥ 0 then (if 0 ≤ (wrap64 (x4_1 + 2)) then ((boltingref09_digit.f k1 (bt a0 (wrap64 (x4_1 + 2)))).bind fun t250 => (boltingref09_Percent.j1 k1 a0 x3_1 x4_1 (decide (t250 ≥ 0)))) else (none)) else (boltingref09_Percent.j1 k1 a0 x3_1 x4_1 false))) else (none)) else (none)) = some r := by first | (rw [hji10] at H; exact H) | (simp only [hji10] at H ⊢; exact H)
                have hji10w : (IntKind.i64.wrap (x4_1 + 1)) = ji10 := (i64_w _).trans hji10
                by_cases c11 : 0 ≤ (ji10)
                · rw [if_pos c11] at H
                  have c11b0 : decide (0 ≤ (ji10)) = true := decide_eq_true c11
                  clear c11
                  by_cases c12 : (ji10) < (a0.size : Int)
                  · rw [if_pos c12] at H
                    have c12b0 : decide ((ji10) < (a0.size : Int)) = true := decide_eq_true c12
                    clear c12
                    replace H := Option.bind_eq_some_iff.mp H
                    obtain ⟨t249, A140, H⟩ := H
                    replace H : (if t249 ≥ 0 then (if 0 ≤ (wrap64 (x4_1 + 2)) then ((boltingref09_digit.f k1 (bt a0 (wrap64 (x4_1 + 2)))).bind fun t250 => (boltingref09_Percent.j1 k1 a0 x3_1 x4_1 (decide (t250 ≥ 0)))) else (none)) else (boltingref09_Percent.j1 k1 a0 x3_1 x4_1 false)) = some r := H
                    have A14 := Aside0.mk A140
                    clear A140
                    by_cases c15 : t249 ≥ 0
                    · rw [if_pos c15] at H
                      have c15b0 : decide (0 ≤ t249) = true := decide_eq_true c15
                      clear c15
                      obtain ⟨ji16, hji16⟩ : ∃ j_ : Int, (wrap64 (x4_1 + 2)) = j_ := ⟨_, rfl⟩
                      replace H : (if 0 ≤ (ji16) then ((boltingref09_digit.f k1 (bt a0 (ji16))).bind fun t250 => (boltingref09_Percent.j1 k1 a0 x3_1 x4_1 (decide (t250 ≥ 0)))) else (none)) = some r := by first | (rw [hji16] at H; exact H) | (simp only [hji16] at H ⊢; exact H)
                      (try rw [hji16] at c9b0)
                      (try rw [hji16] at A14)
                      have hji16w : (IntKind.i64.wrap (x4_1 + 2)) = ji16 := (i64_w _).trans hji16
                      by_cases c17 : 0 ≤ (ji16)
                      · rw [if_pos c17] at H
                        have c17b0 : decide (0 ≤ (ji16)) = true := decide_eq_true c17
                        clear c17
                        replace H := Option.bind_eq_some_iff.mp H
                        obtain ⟨t250, A190, H⟩ := H
                        replace H : (boltingref09_Percent.j1 k1 a0 x3_1 x4_1 (decide (t250 ≥ 0))) = some r := H
                        have A19 := Aside0.mk A190
                        clear A190
                        have H' := Aside0.mk H
                        clear H
                        have p7 : 0 ≤ (x4_1 : Int) := of_decide_eq_true (by first | (with_reducible assumption) | assumption)
                        have q7 : x4_1 < (a0.size : Int) := of_decide_eq_true (by first | (with_reducible assumption) | assumption)
                        have hx7 := bt_at a0 x4_1
                        replace p7 := eq_true p7
                        replace q7 := eq_true q7
                        have p13 : 0 ≤ ((ji10) : Int) := of_decide_eq_true (by first | (with_reducible assumption) | assumption)
                        have q13 : (ji10) < (a0.size : Int) := of_decide_eq_true (by first | (with_reducible assumption) | assumption)
                        have hx13 := bt_at a0 (ji10)
                        replace p13 := eq_true p13
                        replace q13 := eq_true q13
                        go_wp2_with (first | (go_at_call 68; (with_reducible refine (boltingref09_digit.calls k1 (bt a0 (ji10)) t249 _ A14.out).mono ?_); rintro e w' ⟨rfl, ⟨nd, rfl⟩⟩; have p18 : 0 ≤ ((ji16) : Int) := of_decide_eq_true (by first | (with_reducible assumption) | assumption); have q18 : (ji16) < (a0.size : Int) := of_decide_eq_true (by first | (with_reducible assumption) | assumption); have hx18 := bt_at a0 (ji16); replace p18 := eq_true p18; replace q18 := eq_true q18) | (go_at_call 68; (with_reducible refine (boltingref09_digit.calls k1 (bt a0 (ji16)) t250 _ A19.out).mono ?_); rintro e w' ⟨rfl, ⟨nd, rfl⟩⟩))
                        go_meet
                        case rel => exact ⟨_, (decide (t250 ≥ 0)), (by first | rfl | (simp; done) | (simp [*]; done)), H', ⟨by have := HK1.out; first | omega | exact Nat.le_refl _⟩, ⟨by (with_reducible repeat (first | apply Kd.R_alloc | apply Kd.R_drewN | apply Kd.R_drew)); exact HO_3.out⟩, ⟨by repeat (first | (with_reducible first | exact HB.out | apply below_alloc | apply pw_below_drewN | apply below_drew1) | exact HB.out)⟩⟩
                      · rw [if_neg c17] at H
                        exact absurd H (by simp)
                    · rw [if_neg c15] at H
                      have c15b0 : decide (0 ≤ t249) = false := decide_eq_false c15
                      clear c15
                      have H' := Aside0.mk H
                      clear H
                      have p7 : 0 ≤ (x4_1 : Int) := of_decide_eq_true (by first | (with_reducible assumption) | assumption)
                      have q7 : x4_1 < (a0.size : Int) := of_decide_eq_true (by first | (with_reducible assumption) | assumption)
                      have hx7 := bt_at a0 x4_1
                      replace p7 := eq_true p7
                      replace q7 := eq_true q7
                      have p13 : 0 ≤ ((ji10) : Int) := of_decide_eq_true (by first | (with_reducible assumption) | assumption)
                      have q13 : (ji10) < (a0.size : Int) := of_decide_eq_true (by first | (with_reducible assumption) | assumption)
                      have hx13 := bt_at a0 (ji10)
                      replace p13 := eq_true p13
                      replace q13 := eq_true q13
                      go_wp2_with (first | (go_at_call 68; (with_reducible refine (boltingref09_digit.calls k1 (bt a0 (ji10)) t249 _ A14.out).mono ?_); rintro e w' ⟨rfl, ⟨nd, rfl⟩⟩))
                      go_meet
                      case rel => exact ⟨_, (false), (by first | rfl | (simp; done) | (simp [*]; done)), H', ⟨by have := HK1.out; first | omega | exact Nat.le_refl _⟩, ⟨by (with_reducible repeat (first | apply Kd.R_alloc | apply Kd.R_drewN | apply Kd.R_drew)); exact HO_3.out⟩, ⟨by repeat (first | (with_reducible first | exact HB.out | apply below_alloc | apply pw_below_drewN | apply below_drew1) | exact HB.out)⟩⟩
                  · rw [if_neg c12] at H
                    exact absurd H (by simp)
                · rw [if_neg c11] at H
                  exact absurd H (by simp)
              · rw [if_neg c9] at H
                have c9b0 : decide ((wrap64 (x4_1 + 2)) < (a0.size : Int)) = false := decide_eq_false c9
                clear c9
                have H' := Aside0.mk H
                clear H
                have p7 : 0 ≤ (x4_1 : Int) := of_decide_eq_true (by first | (with_reducible assumption) | assumption)
                have q7 : x4_1 < (a0.size : Int) := of_decide_eq_true (by first | (with_reducible assumption) | assumption)
                have hx7 := bt_at a0 x4_1
                replace p7 := eq_true p7
                replace q7 := eq_true q7
                go_wp2
                go_meet
                case rel => exact ⟨_, (false), (by first | rfl | (simp; done) | (simp [*]; done)), H', ⟨by have := HK1.out; first | omega | exact Nat.le_refl _⟩, ⟨by (with_reducible repeat (first | apply Kd.R_alloc | apply Kd.R_drewN | apply Kd.R_drew)); exact HO_3.out⟩, ⟨by repeat (first | (with_reducible first | exact HB.out | apply below_alloc | apply pw_below_drewN | apply below_drew1) | exact HB.out)⟩⟩
            · rw [if_neg c8] at H
              have c8b0 : ((bt a0 x4_1) == 37) = false := beq_eq_false_iff_ne.mpr c8
              have c8b1 : ((bt a0 x4_1) != 37) = true := bne_iff_ne.mpr c8
              have H' := Aside0.mk H
              clear H
              have p7 : 0 ≤ (x4_1 : Int) := of_decide_eq_true (by first | (with_reducible assumption) | assumption)
              have q7 : x4_1 < (a0.size : Int) := of_decide_eq_true (by first | (with_reducible assumption) | assumption)
              have hx7 := bt_at a0 x4_1
              replace p7 := eq_true p7
              replace q7 := eq_true q7
              go_wp2
              go_meet
              case rel => exact ⟨_, (false), (by first | rfl | (simp; done) | (simp [*]; done)), H', ⟨by have := HK1.out; first | omega | exact Nat.le_refl _⟩, ⟨by (with_reducible repeat (first | apply Kd.R_alloc | apply Kd.R_drewN | apply Kd.R_drew)); exact HO_3.out⟩, ⟨by repeat (first | (with_reducible first | exact HB.out | apply below_alloc | apply pw_below_drewN | apply below_drew1) | exact HB.out)⟩⟩
          · rw [if_neg c6] at H
            exact absurd H (by simp)
        case rest =>
          clear HC5
          try clear c1
          try clear p1
          try clear q1
          try clear hx1
          try clear p2
          try clear c4
          try clear c4b0
          try clear c5
          try clear c6
          try clear c6b0
          try clear p6
          try clear p7
          try clear q7
          try clear hx7
          try clear c8
          try clear c8b0
          try clear c8b1
          try clear c9
          try clear c9b0
          try clear c11
          try clear c11b0
          try clear c12
          try clear c12b0
          try clear p13
          try clear q13
          try clear hx13
          try clear c15
          try clear c15b0
          try clear c17
          try clear c17b0
          try clear p18
          try clear q18
          try clear hx18
          try clear p13
          try clear p18
          try clear p2
          try clear p7
          try clear q13
          try clear q18
          try clear q7
          obtain ⟨kq, x5_4, rfl, HA, HJ4, HO_3, HB⟩ := hcut
          cases kq with
          | zero => exact absurd HA.out (by simp [boltingref09_Percent.j1])
          | succ kj4 =>
            have H := HA.out
            clear HA
            simp only [boltingref09_Percent.j1] at H
            by_cases c20 : x5_4 = true
            · subst c20
              have H1 : (if 0 ≤ (wrap64 (x4_1 + 1)) then (if (wrap64 (x4_1 + 1)) < (a0.size : Int) then ((boltingref09_digit.f kj4 (bt a0 (wrap64 (x4_1 + 1)))).bind fun t251 => (if 0 ≤ (wrap64 (x4_1 + 2)) then (if (wrap64 (x4_1 + 2)) < (a0.size : Int) then ((boltingref09_digit.f kj4 (bt a0 (wrap64 (x4_1 + 2)))).bind fun t252 => (if x3_1.length < 140737488355328 then (boltingref09_Percent.l0 kj4 a0 (x3_1 ++ [(wrap64 ((wrap64 (16 * t251)) + t252)) % 256]) (wrap64 ((wrap64 (x4_1 + 2)) + 1))) else (none))) else (none)) else (none))) else (none)) else (none)) = some r := by rw [if_pos rfl] at H; exact H
              clear H
              have H := H1
              clear H1
              obtain ⟨ji21, hji21⟩ : ∃ j_ : Int, (wrap64 (x4_1 + 1)) = j_ := ⟨_, rfl⟩
              replace H : (if 0 ≤ (ji21) then (if (ji21) < (a0.size : Int) then ((boltingref09_digit.f kj4 (bt a0 (ji21))).bind fun t251 => (if 0 ≤ (wrap64 (x4_1 + 2)) then (if (wrap64 (x4_1 + 2)) < (a0.size : Int) then ((boltingref09_digit.f kj4 (bt a0 (wrap64 (x4_1 + 2)))).bind fun t252 => (if x3_1.length < 140737488355328 then (boltingref09_Percent.l0 kj4 a0 (x3_1 ++ [(wrap64 ((wrap64 (16 * t251)) + t252)) % 256]) (wrap64 ((wrap64 (x4_1 + 2)) + 1))) else (none))) else (none)) else (none))) else (none)) else (none)) = some r := by first | (rw [hji21] at H; exact H) | (simp only [hji21] at H ⊢; exact H)
              have hji21w : (IntKind.i64.wrap (x4_1 + 1)) = ji21 := (i64_w _).trans hji21
              by_cases c22 : 0 ≤ (ji21)
              · rw [if_pos c22] at H
                have c22b0 : decide (0 ≤ (ji21)) = true := decide_eq_true c22
                clear c22
                by_cases c23 : (ji21) < (a0.size : Int)
                · rw [if_pos c23] at H
                  have c23b0 : decide ((ji21) < (a0.size : Int)) = true := decide_eq_true c23
                  clear c23
                  replace H := Option.bind_eq_some_iff.mp H
                  obtain ⟨t251, A250, H⟩ := H
                  replace H : (if 0 ≤ (wrap64 (x4_1 + 2)) then (if (wrap64 (x4_1 + 2)) < (a0.size : Int) then ((boltingref09_digit.f kj4 (bt a0 (wrap64 (x4_1 + 2)))).bind fun t252 => (if x3_1.length < 140737488355328 then (boltingref09_Percent.l0 kj4 a0 (x3_1 ++ [(wrap64 ((wrap64 (16 * t251)) + t252)) % 256]) (wrap64 ((wrap64 (x4_1 + 2)) + 1))) else (none))) else (none)) else (none)) = some r := H
                  have A25 := Aside0.mk A250
                  clear A250
                  obtain ⟨ji26, hji26⟩ : ∃ j_ : Int, (wrap64 (x4_1 + 2)) = j_ := ⟨_, rfl⟩
                  replace H : (if 0 ≤ (ji26) then (if (ji26) < (a0.size : Int) then ((boltingref09_digit.f kj4 (bt a0 (ji26))).bind fun t252 => (if x3_1.length < 140737488355328 then (boltingref09_Percent.l0 kj4 a0 (x3_1 ++ [(wrap64 ((wrap64 (16 * t251)) + t252)) % 256]) (wrap64 ((ji26) + 1))) else (none))) else (none)) else (none)) = some r := by first | (rw [hji26] at H; exact H) | (simp only [hji26] at H ⊢; exact H)
                  (try rw [hji26] at A25)
                  have hji26w : (IntKind.i64.wrap (x4_1 + 2)) = ji26 := (i64_w _).trans hji26
                  by_cases c27 : 0 ≤ (ji26)
                  · rw [if_pos c27] at H
                    have c27b0 : decide (0 ≤ (ji26)) = true := decide_eq_true c27
                    clear c27
                    by_cases c28 : (ji26) < (a0.size : Int)
                    · rw [if_pos c28] at H
                      have c28b0 : decide ((ji26) < (a0.size : Int)) = true := decide_eq_true c28
                      clear c28
                      replace H := Option.bind_eq_some_iff.mp H
                      obtain ⟨t252, A300, H⟩ := H
                      replace H : (if x3_1.length < 140737488355328 then (boltingref09_Percent.l0 kj4 a0 (x3_1 ++ [(wrap64 ((wrap64 (16 * t251)) + t252)) % 256]) (wrap64 ((ji26) + 1))) else (none)) = some r := H
                      have A30 := Aside0.mk A300
                      clear A300
                      by_cases c31 : x3_1.length < 140737488355328
                      · rw [if_pos c31] at H
                        have LMc31 := Aside0.mk c31
                        clear c31
                        obtain ⟨y253, hy253⟩ : ∃ y_ : List Int, y_ = (x3_1 ++ [(wrap64 ((wrap64 (16 * t251)) + t252)) % 256]) := ⟨_, rfl⟩
                        replace H : (boltingref09_Percent.l0 kj4 a0 y253 (wrap64 ((ji26) + 1))) = some r := by first | (rw [hy253]; with_reducible exact H) | (have H2_ := (Option.bind_some _ _).symm.trans H; rw [hy253]; with_reducible exact H2_) | (have H2_ := (Option.bind_some _ _).symm.trans H; with_reducible exact H2_) | with_reducible exact H | (rw [hy253]; exact H) | exact H
                        have Ny253 := Aside0.mk hy253
                        clear hy253
                        have H' := Aside0.mk H
                        clear H
                        try go_wp2
                        have n0_ := Aside0.mk (Kd.R_drew HO_3.out)
                        have n1_ := Aside0.mk (below_drew1 HB.out)
                        clear HO_3
                        clear HB
                        have HO_3 := n0_
                        have HB := n1_
                        clear n0_ n1_
                        have p24 : 0 ≤ ((ji21) : Int) := of_decide_eq_true (by first | (with_reducible assumption) | assumption)
                        have q24 : (ji21) < (a0.size : Int) := of_decide_eq_true (by first | (with_reducible assumption) | assumption)
                        have hx24 := bt_at a0 (ji21)
                        replace p24 := eq_true p24
                        replace q24 := eq_true q24
                        have p29 : 0 ≤ ((ji26) : Int) := of_decide_eq_true (by first | (with_reducible assumption) | assumption)
                        have q29 : (ji26) < (a0.size : Int) := of_decide_eq_true (by first | (with_reducible assumption) | assumption)
                        have hx29 := bt_at a0 (ji26)
                        replace p29 := eq_true p29
                        replace q29 := eq_true q29
                        refine start_ (n := 17) (S := fun w' => True) (ds := []) #[false, false, false, false, false, false, false, false, false, false, false, false, false, false, false, false, false] (by kernel_rfl) rfl rfl trivial (fun hHeld => ?_); refine with_tabW boltingref09_Percent.tab7 boltingref09_Percent.bits7 (fun HT_ HW_ => ?_)
                        generalize wc.drew = w32 at HO_3 HB hHeld ⊢
                        refine pure_ (i := 0) (N := some 41) (v := ?_) (a' := ?_) #[true, false, false, false, false, false, false, false, false, false, false, false, false, false, false, false, false] rfl rfl (any_of HT_.out (by kernel_rfl)) (fun _ _ _ h => h) (Or.inl ⟨by rfl, ?_⟩) ?_ ?_
                        rotate_left
                        · intro w'
                          go_simp
                          with_reducible rfl
                        rotate_left
                        · simp only [Act.put, List.setIfInBounds_toArray, List.set_cons_zero, List.set_cons_succ, i64_w, i32_w]
                          rfl
                        refine pure_ (i := 1) (N := some 42) (v := ?_) (a' := ?_) #[true, true, false, false, false, false, false, false, false, false, false, false, false, false, false, false, false] rfl rfl (any_of HT_.out (by kernel_rfl)) (fun _ _ _ h => h) (Or.inl ⟨by rfl, ?_⟩) ?_ ?_
                        rotate_left
                        · intro w'
                          go_simp
                          with_reducible rfl
                        rotate_left
                        · simp only [Act.put, List.setIfInBounds_toArray, List.set_cons_zero, List.set_cons_succ, i64_w, i32_w]
                          rfl
                        refine pure_ (i := 2) (N := some 43) (v := ?_) (a' := ?_) #[true, true, true, false, false, false, false, false, false, false, false, false, false, false, false, false, false] rfl rfl (any_of HT_.out (by kernel_rfl)) (fun _ _ _ h => h) (Or.inl ⟨by rfl, ?_⟩) ?_ ?_
                        rotate_left
                        · intro w'
                          go_simp
                          with_reducible rfl
                        rotate_left
                        · simp only [Act.put, List.setIfInBounds_toArray, List.set_cons_zero, List.set_cons_succ, i64_w, i32_w]
                          rfl
                        refine pure_ (i := 3) (N := some 44) (v := ?_) (a' := ?_) #[true, true, true, true, false, false, false, false, false, false, false, false, false, false, false, false, false] rfl rfl (any_of HT_.out (by kernel_rfl)) (fun _ _ _ h => h) (Or.inl ⟨by rfl, ?_⟩) ?_ ?_
                        rotate_left
                        · intro w'
                          go_simp
                          with_reducible rfl
                        rotate_left
                        · simp only [Act.put, List.setIfInBounds_toArray, List.set_cons_zero, List.set_cons_succ, i64_w, i32_w]
                          rfl
                        refine pure_ (i := 7) (N := some 48) (v := ?_) (a' := ?_) #[true, true, true, true, false, false, false, true, false, false, false, false, false, false, false, false, false] rfl rfl (any_of HT_.out (by kernel_rfl)) (fun _ _ _ h => h) (Or.inl ⟨by rfl, ?_⟩) ?_ ?_
                        rotate_left
                        · intro w'
                          go_simp
                          with_reducible rfl
                        rotate_left
                        · simp only [Act.put, List.setIfInBounds_toArray, List.set_cons_zero, List.set_cons_succ, i64_w, i32_w]
                          rfl
                        refine pure_ (i := 8) (N := some 49) (v := ?_) (a' := ?_) #[true, true, true, true, false, false, false, true, true, false, false, false, false, false, false, false, false] rfl rfl (any_of HT_.out (by kernel_rfl)) (fun _ _ _ h => h) (Or.inl ⟨by rfl, ?_⟩) ?_ ?_
                        rotate_left
                        · intro w'
                          go_simp
                          with_reducible rfl
                        rotate_left
                        · simp only [Act.put, List.setIfInBounds_toArray, List.set_cons_zero, List.set_cons_succ, i64_w, i32_w]
                          rfl
                        refine pure_ (i := 9) (N := some 50) (v := ?_) (a' := ?_) #[true, true, true, true, false, false, false, true, true, true, false, false, false, false, false, false, false] rfl rfl (any_of HT_.out (by kernel_rfl)) (fun _ _ _ h => h) (Or.inl ⟨by rfl, ?_⟩) ?_ ?_
                        rotate_left
                        · intro w'
                          go_simp
                          with_reducible rfl
                        rotate_left
                        · simp only [Act.put, List.setIfInBounds_toArray, List.set_cons_zero, List.set_cons_succ, i64_w, i32_w]
                          rfl
                        refine take_ (i := 4) (N := some 45) (v := ?_) (a' := ?_) #[true, true, true, true, true, false, false, true, true, true, false, false, false, false, false, false, false] rfl rfl (take_ofW HT_.out HW_.out (by kernel_rfl)) (fun _ _ _ h => h) (Or.inl ⟨by rfl, ?_⟩) hHeld ?_ ?_
                        rotate_left
                        · intro w' _
                          go_simp
                          with_reducible rfl
                        rotate_left
                        · simp only [Act.put, List.setIfInBounds_toArray, List.set_cons_zero, List.set_cons_succ, i64_w, i32_w]
                          rfl
                        refine take_ (i := 10) (N := some 51) (v := ?_) (a' := ?_) #[true, true, true, true, true, false, false, true, true, true, true, false, false, false, false, false, false] rfl rfl (take_ofW HT_.out HW_.out (by kernel_rfl)) (fun _ _ _ h => h) (Or.inl ⟨by rfl, ?_⟩) hHeld ?_ ?_
                        rotate_left
                        · intro w' _
                          go_simp
                          with_reducible rfl
                        rotate_left
                        · simp only [Act.put, List.setIfInBounds_toArray, List.set_cons_zero, List.set_cons_succ, i64_w, i32_w]
                          rfl
                        refine one_ (i := 5) (N := some 46) #[true, true, true, true, true, true, false, true, true, true, true, false, false, false, false, false, false] rfl rfl (one_of HT_.out (by kernel_rfl)) (by decide) (fun K hK => ?_)
                        refine goes_ Try.func68 (by kernel_rfl) rfl #[.int .u8 (bt a0 (ji21))] (by rfl) rfl rfl (by (try simp only [List.map_toArray, List.map_cons, List.map_nil]); first | done | (simp only [hji21]; rfl) | rfl | (simp only [List.length_drop, List.length_take]; rfl)) ?_
                        with_reducible refine (boltingref09_digit.calls kj4 (bt a0 (ji21)) t251 _ A25.out).mono ?_
                        rintro e w' ⟨rfl, ⟨nd, rfl⟩⟩
                        refine ⟨_, rfl, ?_⟩
                        refine hK.out _ _ trivial (fun hHeld => ?_)
                        clear hK K
                        refine norm_ (a' := ?_) ?_ ?_
                        rotate_left
                        · show Act.put _ (some 46) _ = _
                          simp only [Act.put, List.setIfInBounds_toArray, List.set_cons_zero, List.set_cons_succ, i64_w, i32_w]
                          rfl
                        refine pure_ (i := 6) (N := some 47) (v := ?_) (a' := ?_) #[true, true, true, true, true, true, true, true, true, true, true, false, false, false, false, false, false] rfl rfl (any_of HT_.out (by kernel_rfl)) (fun _ _ _ h => h) (Or.inl ⟨by rfl, ?_⟩) ?_ ?_
                        rotate_left
                        · intro w'
                          go_simp
                          with_reducible rfl
                        rotate_left
                        · simp only [Act.put, List.setIfInBounds_toArray, List.set_cons_zero, List.set_cons_succ, i64_w, i32_w]
                          rfl
                        refine one_ (i := 11) (N := some 52) #[true, true, true, true, true, true, true, true, true, true, true, true, false, false, false, false, false] rfl rfl (one_of HT_.out (by kernel_rfl)) (by decide) (fun K hK => ?_)
                        refine goes_ Try.func68 (by kernel_rfl) rfl #[.int .u8 (bt a0 (ji26))] (by rfl) rfl rfl (by (try simp only [List.map_toArray, List.map_cons, List.map_nil]); first | done | (simp only [hji26]; rfl) | rfl | (simp only [List.length_drop, List.length_take]; rfl)) ?_
                        with_reducible refine (boltingref09_digit.calls kj4 (bt a0 (ji26)) t252 _ A30.out).mono ?_
                        rintro e w' ⟨rfl, ⟨nd, rfl⟩⟩
                        refine ⟨_, rfl, ?_⟩
                        refine hK.out _ _ trivial (fun hHeld => ?_)
                        clear hK K
                        refine norm_ (a' := ?_) ?_ ?_
                        rotate_left
                        · show Act.put _ (some 52) _ = _
                          simp only [Act.put, List.setIfInBounds_toArray, List.set_cons_zero, List.set_cons_succ, i64_w, i32_w]
                          rfl
                        refine pure_ (i := 12) (N := some 53) (v := ?_) (a' := ?_) #[true, true, true, true, true, true, true, true, true, true, true, true, true, false, false, false, false] rfl rfl (any_of HT_.out (by kernel_rfl)) (fun _ _ _ h => h) (Or.inl ⟨by rfl, ?_⟩) ?_ ?_
                        rotate_left
                        · intro w'
                          go_simp
                          with_reducible rfl
                        rotate_left
                        · simp only [Act.put, List.setIfInBounds_toArray, List.set_cons_zero, List.set_cons_succ, i64_w, i32_w]
                          rfl
                        refine pure_ (i := 13) (N := some 54) (v := ?_) (a' := ?_) #[true, true, true, true, true, true, true, true, true, true, true, true, true, true, false, false, false] rfl rfl (any_of HT_.out (by kernel_rfl)) (fun _ _ _ h => h) (Or.inl ⟨by rfl, ?_⟩) ?_ ?_
                        rotate_left
                        · intro w'
                          go_simp
                          with_reducible rfl
                        rotate_left
                        · simp only [Act.put, List.setIfInBounds_toArray, List.set_cons_zero, List.set_cons_succ, i64_w, i32_w]
                          rfl
                        refine one_ (i := 14) (N := some 55) #[true, true, true, true, true, true, true, true, true, true, true, true, true, true, true, false, false] rfl rfl (one_of HT_.out (by kernel_rfl)) (by decide) (fun K hK => ?_)
                        refine value_ (w1 := ?_) (v := ?_) (by rfl) rfl ?_ ?_
                        rotate_left 2
                        · go_simp
                          constructor
                          · rfl
                          · rfl
                        refine hK.out _ _ trivial (fun hHeld => ?_)
                        clear hK K
                        refine norm_ (a' := ?_) ?_ ?_
                        rotate_left
                        · show Act.put _ (some 55) _ = _
                          simp only [Act.put, List.setIfInBounds_toArray, List.set_cons_zero, List.set_cons_succ, i64_w, i32_w]
                          rfl
                        refine one_ (i := 15) (N := some 56) #[true, true, true, true, true, true, true, true, true, true, true, true, true, true, true, true, false] rfl rfl (one_of HT_.out (by kernel_rfl)) (by decide) (fun K hK => ?_)
                        refine Kd.R_append_step (Kd.int .u8) (w0 := w) w.heap.size (by rfl) (.tmp 41) (.tmp 55) 52 5 (.int .u8 0) 1 rfl Try.underlying52 info5 rfl (by decide) (by omega) u3 x3_1 ((wrap64 ((wrap64 (16 * t251)) + t252)) % 256) [.int .u8 ((wrap64 ((wrap64 (16 * t251)) + t252)) % 256)] (fun _ => True) (fun _ => False) rfl rfl ?aP (fun _ hk => hk.elim) ?aF ?aO ?aB ?aS ?aL ?_
                        (case aP => exact rfl)
                        (case aB => exact (by repeat (first | (with_reducible first | exact HB.out | apply below_alloc | apply pw_below_drewN | apply below_drew1) | exact HB.out)))
                        (case aF => exact (fun _ _ => trivial))
                        (case aO => exact (by (with_reducible repeat (first | apply Kd.R_alloc | apply Kd.R_drewN | apply Kd.R_drew)); exact HO_3.out))
                        (case aS => exact (below_size (by repeat (first | (with_reducible first | exact HB.out | apply below_alloc | apply pw_below_drewN | apply below_drew1) | exact HB.out))))
                        (case aL => have := LMc31.out; omega)
                        intro v254 w33 ho hb hg hat
                        rw [← Ny253.out] at ho
                        have n0_ := Aside0.mk (hb)
                        have n1_ := Aside0.mk (ho)
                        clear HB
                        clear HO_3
                        have HB := n0_
                        have HO255 := n1_
                        clear n0_ n1_
                        clear ho hb hg hat
                        refine hK.out _ _ trivial (fun hHeld => ?_)
                        clear hK K
                        refine norm_ (a' := ?_) ?_ ?_
                        rotate_left
                        · show Act.put _ (some 56) _ = _
                          simp only [Act.put, List.setIfInBounds_toArray, List.set_cons_zero, List.set_cons_succ, i64_w, i32_w]
                          rfl
                        refine pure_ (i := 16) (N := some 3) (v := ?_) (a' := ?_) #[true, true, true, true, true, true, true, true, true, true, true, true, true, true, true, true, true] rfl rfl (any_of HT_.out (by kernel_rfl)) (fun _ _ _ h => h) (Or.inl ⟨by rfl, ?_⟩) ?_ ?_
                        rotate_left
                        · intro w'
                          go_simp
                          with_reducible rfl
                        rotate_left
                        · simp only [Act.put, List.setIfInBounds_toArray, List.set_cons_zero, List.set_cons_succ, i64_w, i32_w]
                          rfl
                        refine done_ (done_of HT_.out (by kernel_rfl)) ?_
                        try go_wp2
                        go_roundg kj4
                        case measure => have := HK1.out; have := HJ4.out; omega
                        case rel => exact ⟨(y253), (wrap64 ((ji26) + 1)), (by first | rfl | (simp; done) | (simp only [← hji26] <;> (first | rfl | simp)) | (simp [*]; done)), H', ⟨by have := HK1.out; have := HJ4.out; omega⟩, ⟨by (with_reducible repeat (first | apply Kd.R_alloc | apply Kd.R_drewN | apply Kd.R_drew)); exact HO255.out⟩, ⟨by repeat (first | (with_reducible first | exact HB.out | apply below_alloc | apply pw_below_drewN | apply below_drew1) | exact HB.out)⟩⟩
                      · rw [if_neg c31] at H
                        exact absurd H (by simp)
                    · rw [if_neg c28] at H
                      exact absurd H (by simp)
                  · rw [if_neg c27] at H
                    exact absurd H (by simp)
                · rw [if_neg c23] at H
                  exact absurd H (by simp)
              · rw [if_neg c22] at H
                exact absurd H (by simp)
            · replace c20 := Bool.eq_false_iff.mpr c20
              subst c20
              have H1 : (if 0 ≤ x4_1 then (if x4_1 < (a0.size : Int) then (if x3_1.length < 140737488355328 then (boltingref09_Percent.l0 kj4 a0 (x3_1 ++ [bt a0 x4_1]) (wrap64 (x4_1 + 1))) else (none)) else (none)) else (none)) = some r := by rw [if_neg (show ¬ (false = true) by decide)] at H; exact H
              clear H
              have H := H1
              clear H1
              by_cases c34 : 0 ≤ x4_1
              · rw [if_pos c34] at H
                have c34b0 : decide (0 ≤ x4_1) = true := decide_eq_true c34
                clear c34
                by_cases c35 : x4_1 < (a0.size : Int)
                · rw [if_pos c35] at H
                  have c35b0 : decide (x4_1 < (a0.size : Int)) = true := decide_eq_true c35
                  clear c35
                  by_cases c37 : x3_1.length < 140737488355328
                  · rw [if_pos c37] at H
                    have LMc37 := Aside0.mk c37
                    clear c37
                    obtain ⟨y256, hy256⟩ : ∃ y_ : List Int, y_ = (x3_1 ++ [bt a0 x4_1]) := ⟨_, rfl⟩
                    replace H : (boltingref09_Percent.l0 kj4 a0 y256 (wrap64 (x4_1 + 1))) = some r := by first | (rw [hy256]; with_reducible exact H) | (have H2_ := (Option.bind_some _ _).symm.trans H; rw [hy256]; with_reducible exact H2_) | (have H2_ := (Option.bind_some _ _).symm.trans H; with_reducible exact H2_) | with_reducible exact H | (rw [hy256]; exact H) | exact H
                    have Ny256 := Aside0.mk hy256
                    clear hy256
                    have H' := Aside0.mk H
                    clear H
                    have p36 : 0 ≤ (x4_1 : Int) := of_decide_eq_true (by first | (with_reducible assumption) | assumption)
                    have q36 : x4_1 < (a0.size : Int) := of_decide_eq_true (by first | (with_reducible assumption) | assumption)
                    have hx36 := bt_at a0 x4_1
                    replace p36 := eq_true p36
                    replace q36 := eq_true q36
                    go_wp2_with (first | ((with_reducible refine gate_builtin (b := .append) (xs := #[.tmp 59, .tmp 63]) rfl ?_); (try (refine gate_guard (by rfl) ?_; dsimp only)); at_builtin; refine Kd.R_append (Kd.int .u8) (w0 := w) w.heap.size rfl (.tmp 59) (.tmp 63) 52 5 (.int .u8 0) 1 rfl Try.underlying52 info5 rfl (by decide) (by omega) u3 x3_1 (bt a0 x4_1) [.int .u8 (bt a0 x4_1)] (fun _ => True) (fun _ => False) rfl rfl ?aP (fun _ hk => hk.elim) ?aF ?aO ?aB ?aS ?aL ?_; (case aP => exact rfl); (case aB => exact (by repeat (first | (with_reducible first | exact HB.out | apply below_alloc | apply pw_below_drewN | apply below_drew1) | exact HB.out))); (case aF => exact (fun _ _ => trivial)); (case aO => exact (by (with_reducible repeat (first | apply Kd.R_alloc | apply Kd.R_drewN | apply Kd.R_drew)); exact HO_3.out)); (case aS => exact (below_size (by repeat (first | (with_reducible first | exact HB.out | apply below_alloc | apply pw_below_drewN | apply below_drew1) | exact HB.out)))); (case aL => have := LMc37.out; omega); intro v257 w38 ho hb hg hat; rw [← Ny256.out] at ho; have n0_ := Aside0.mk (hb); have n1_ := Aside0.mk (ho); clear HB; clear HO_3; have HB := n0_; have HO258 := n1_; clear n0_ n1_; clear ho hb hg hat))
                    go_roundg kj4
                    case measure => have := HK1.out; have := HJ4.out; omega
                    case rel => exact ⟨(y256), (wrap64 (x4_1 + 1)), (by first | rfl | (simp; done) | (simp [*]; done)), H', ⟨by have := HK1.out; have := HJ4.out; omega⟩, ⟨by (with_reducible repeat (first | apply Kd.R_alloc | apply Kd.R_drewN | apply Kd.R_drew)); exact HO258.out⟩, ⟨by repeat (first | (with_reducible first | exact HB.out | apply below_alloc | apply pw_below_drewN | apply below_drew1) | exact HB.out)⟩⟩
                  · rw [if_neg c37] at H
                    exact absurd H (by simp)
                · rw [if_neg c35] at H
                  exact absurd H (by simp)
              · rw [if_neg c34] at H
                exact absurd H (by simp)
      · rw [if_neg c4] at H
        have c4b0 : decide (x4_1 < (a0.size : Int)) = false := decide_eq_false c4
        clear c4
        obtain rfl := Option.some.inj H
        have hcv39 := own_string (P := Try.prog) Try.underlying52 Try.underlying5 Try.underlying9 (Kd.own_of_R HO_3.out)
        go_wp2
        go_ret
        exact ⟨by first | rfl | (simp [errW_none, errW_some] <;> rfl) | (simp [*, errW_none, errW_some] <;> rfl), by repeat (first | (with_reducible first | exact HB.out | apply below_alloc | apply pw_below_drewN | apply below_drew1) | exact HB.out)⟩

/-! ### boltingref09_Source: function 42 -/
def boltingref09_Source.f (k : Nat) (a0 : ByteArray) : Option (ByteArray × Bool) := (boltingref09_Scheme.f k a0).bind fun bt259 => (if bt259.1.toList = ([106, 97, 118, 97, 115, 99, 114, 105, 112, 116] : List UInt8) then ((boltingref09_Strip.f k a0).bind fun t261 => ((boltingref09_colon.f k t261).bind fun t262 => (if 0 ≤ (wrap64 (t262 + 1)) then (if (wrap64 (t262 + 1)) ≤ (t261.size : Int) then ((boltingref09_Percent.f k (t261.extract ((wrap64 (t262 + 1)) : Int).toNat t261.size)).bind fun t263 => (some (t263, true))) else (none)) else (none)))) else (some ((⟨#[]⟩ : ByteArray), false)))
set_option maxHeartbeats 8000000 in
set_option maxRecDepth 100000 in
theorem boltingref09_Source.calls (k : Nat) (a0 : ByteArray) (r1 : ByteArray) (r2 : Bool) (w : World) (h : boltingref09_Source.f k a0 = some (r1, r2)) :
    Calls Try.prog 42 #[.string a0] w fun e w' => e = .returned (.tuple #[.string r1, .bool r2]) ∧ Below w.heap.size w w' := by
  have HB := Aside0.mk (Below.refl w.heap.size w)
  have H : ((boltingref09_Scheme.f k a0).bind fun bt259 => (if bt259.1.toList = ([106, 97, 118, 97, 115, 99, 114, 105, 112, 116] : List UInt8) then ((boltingref09_Strip.f k a0).bind fun t261 => ((boltingref09_colon.f k t261).bind fun t262 => (if 0 ≤ (wrap64 (t262 + 1)) then (if (wrap64 (t262 + 1)) ≤ (t261.size : Int) then ((boltingref09_Percent.f k (t261.extract ((wrap64 (t262 + 1)) : Int).toNat t261.size)).bind fun t263 => (some (t263, true))) else (none)) else (none)))) else (some ((⟨#[]⟩ : ByteArray), false)))) = some (r1, r2) := h
  clear h
  replace H := Option.bind_eq_some_iff.mp H
  obtain ⟨⟨t259, t260⟩, A20, H⟩ := H
  replace H : (if t259.toList = ([106, 97, 118, 97, 115, 99, 114, 105, 112, 116] : List UInt8) then ((boltingref09_Strip.f k a0).bind fun t261 => ((boltingref09_colon.f k t261).bind fun t262 => (if 0 ≤ (wrap64 (t262 + 1)) then (if (wrap64 (t262 + 1)) ≤ (t261.size : Int) then ((boltingref09_Percent.f k (t261.extract ((wrap64 (t262 + 1)) : Int).toNat t261.size)).bind fun t263 => (some (t263, true))) else (none)) else (none)))) else (some ((⟨#[]⟩ : ByteArray), false))) = some (r1, r2) := H
  have A2 := Aside0.mk A20
  clear A20
  by_cases c3 : t259.toList = ([106, 97, 118, 97, 115, 99, 114, 105, 112, 116] : List UInt8)
  · rw [if_pos c3] at H
    have c3b0 : (t259.toList == ([106, 97, 118, 97, 115, 99, 114, 105, 112, 116] : List UInt8)) = true := beq_iff_eq.mpr c3
    have c3b1 : (t259.toList != ([106, 97, 118, 97, 115, 99, 114, 105, 112, 116] : List UInt8)) = false := bne_eq_false_iff_eq.mpr c3
    clear c3
    replace H := Option.bind_eq_some_iff.mp H
    obtain ⟨t261, A40, H⟩ := H
    replace H : ((boltingref09_colon.f k t261).bind fun t262 => (if 0 ≤ (wrap64 (t262 + 1)) then (if (wrap64 (t262 + 1)) ≤ (t261.size : Int) then ((boltingref09_Percent.f k (t261.extract ((wrap64 (t262 + 1)) : Int).toNat t261.size)).bind fun t263 => (some (t263, true))) else (none)) else (none))) = some (r1, r2) := H
    have A4 := Aside0.mk A40
    clear A40
    replace H := Option.bind_eq_some_iff.mp H
    obtain ⟨t262, A50, H⟩ := H
    replace H : (if 0 ≤ (wrap64 (t262 + 1)) then (if (wrap64 (t262 + 1)) ≤ (t261.size : Int) then ((boltingref09_Percent.f k (t261.extract ((wrap64 (t262 + 1)) : Int).toNat t261.size)).bind fun t263 => (some (t263, true))) else (none)) else (none)) = some (r1, r2) := H
    have A5 := Aside0.mk A50
    clear A50
    obtain ⟨ji6, hji6⟩ : ∃ j_ : Int, (wrap64 (t262 + 1)) = j_ := ⟨_, rfl⟩
    replace H : (if 0 ≤ (ji6) then (if (ji6) ≤ (t261.size : Int) then ((boltingref09_Percent.f k (t261.extract ((ji6) : Int).toNat t261.size)).bind fun t263 => (some (t263, true))) else (none)) else (none)) = some (r1, r2) := by first | (rw [hji6] at H; exact H) | (simp only [hji6] at H ⊢; exact H)
    (try rw [hji6] at A2)
    (try rw [hji6] at A4)
    (try rw [hji6] at A5)
    have hji6w : (IntKind.i64.wrap (t262 + 1)) = ji6 := (i64_w _).trans hji6
    by_cases c7 : 0 ≤ (ji6)
    · rw [if_pos c7] at H
      have c7b0 := eq_true c7
      have c7b1 : decide (0 ≤ (ji6)) = true := decide_eq_true c7
      clear c7
      by_cases c8 : (ji6) ≤ (t261.size : Int)
      · rw [if_pos c8] at H
        have c8b0 := eq_true c8
        have c8b1 : decide ((ji6) ≤ (t261.size : Int)) = true := decide_eq_true c8
        clear c8
        replace H := Option.bind_eq_some_iff.mp H
        obtain ⟨t263, A90, H⟩ := H
        replace H : (some (t263, true)) = some (r1, r2) := H
        have A9 := Aside0.mk A90
        clear A90
        simp only [Option.some.injEq, Prod.mk.injEq] at H
        obtain ⟨rfl, rfl⟩ := H
        go_enter Try.func42, Try.ntmps42
        go_wp2_with (first | ((with_reducible refine gate_callee (f := 52) rfl ?_); refine goesL_ (some 9) rfl rfl Try.func52 (by kernel_rfl) rfl #[.string a0] rfl (by (try simp only [List.map_toArray, List.map_cons, List.map_nil]); first | done | rfl | (simp only [List.length_drop, List.length_take]; rfl)) ?_; (with_reducible refine (boltingref09_Scheme.calls k a0 t259 t260 _ A2.out).mono ?_); rintro e w10 ⟨rfl, hb⟩; refine ⟨_, rfl, ?_⟩; have n0_ := Aside0.mk (below_step (by repeat (first | (with_reducible first | exact HB.out | apply below_alloc | apply pw_below_drewN | apply below_drew1) | exact HB.out)) hb); clear HB; have HB := n0_; clear n0_; (try clear hb); (try clear hb2); (try clear hk); (try clear hi)) | ((with_reducible refine gate_callee (f := 53) rfl ?_); refine goesL_ (some 15) rfl rfl Try.func53 (by kernel_rfl) rfl #[.string a0] rfl (by (try simp only [List.map_toArray, List.map_cons, List.map_nil]); first | done | rfl | (simp only [List.length_drop, List.length_take]; rfl)) ?_; (with_reducible refine (boltingref09_Strip.calls k a0 t261 _ A4.out).mono ?_); rintro e w11 ⟨rfl, hb⟩; refine ⟨_, rfl, ?_⟩; have n0_ := Aside0.mk (below_step (by repeat (first | (with_reducible first | exact HB.out | apply below_alloc | apply pw_below_drewN | apply below_drew1) | exact HB.out)) hb); clear HB; have HB := n0_; clear n0_; (try clear hb); (try clear hb2); (try clear hk); (try clear hi)) | ((with_reducible refine gate_callee (f := 55) rfl ?_); refine goesL_ (some 18) rfl rfl Try.func55 (by kernel_rfl) rfl #[.string t261] rfl (by (try simp only [List.map_toArray, List.map_cons, List.map_nil]); first | done | rfl | (simp only [List.length_drop, List.length_take]; rfl)) ?_; (with_reducible refine (boltingref09_colon.calls k t261 t262 _ A5.out).mono ?_); rintro e w' ⟨rfl, ⟨nd, rfl⟩⟩; refine ⟨_, rfl, ?_⟩) | ((with_reducible refine gate_callee (f := 54) rfl ?_); refine goesL_ (some 21) rfl rfl Try.func54 (by kernel_rfl) rfl #[.string (t261.extract ((ji6) : Int).toNat t261.size)] rfl (by (try simp only [List.map_toArray, List.map_cons, List.map_nil]); first | done | (simp only [hji6]; rfl) | rfl | (simp only [List.length_drop, List.length_take]; rfl)) ?_; (with_reducible refine (boltingref09_Percent.calls k (t261.extract ((ji6) : Int).toNat t261.size) t263 _ A9.out).mono ?_); rintro e w12 ⟨rfl, hb⟩; refine ⟨_, rfl, ?_⟩; have n0_ := Aside0.mk (below_step (by repeat (first | (with_reducible first | exact HB.out | apply below_alloc | apply pw_below_drewN | apply below_drew1) | exact HB.out)) hb); clear HB; have HB := n0_; clear n0_; (try clear hb); (try clear hb2); (try clear hk); (try clear hi)))
        go_ret2
        exact ⟨by first | rfl | (simp [errW_none, errW_some] <;> rfl) | (simp only [← hji6]; first | rfl | (simp [errW_none, errW_some] <;> rfl)) | (simp [*, errW_none, errW_some] <;> rfl), by repeat (first | (with_reducible first | exact HB.out | apply below_alloc | apply pw_below_drewN | apply below_drew1) | exact HB.out)⟩
      · rw [if_neg c8] at H
        exact absurd H (by simp)
    · rw [if_neg c7] at H
      exact absurd H (by simp)
  · rw [if_neg c3] at H
    have c3b0 : (t259.toList == ([106, 97, 118, 97, 115, 99, 114, 105, 112, 116] : List UInt8)) = false := beq_eq_false_iff_ne.mpr c3
    have c3b1 : (t259.toList != ([106, 97, 118, 97, 115, 99, 114, 105, 112, 116] : List UInt8)) = true := bne_iff_ne.mpr c3
    simp only [Option.some.injEq, Prod.mk.injEq] at H
    obtain ⟨rfl, rfl⟩ := H
    go_enter Try.func42, Try.ntmps42
    go_wp2_with (first | ((with_reducible refine gate_callee (f := 52) rfl ?_); refine goesL_ (some 9) rfl rfl Try.func52 (by kernel_rfl) rfl #[.string a0] rfl (by (try simp only [List.map_toArray, List.map_cons, List.map_nil]); first | done | rfl | (simp only [List.length_drop, List.length_take]; rfl)) ?_; (with_reducible refine (boltingref09_Scheme.calls k a0 t259 t260 _ A2.out).mono ?_); rintro e w13 ⟨rfl, hb⟩; refine ⟨_, rfl, ?_⟩; have n0_ := Aside0.mk (below_step (by repeat (first | (with_reducible first | exact HB.out | apply below_alloc | apply pw_below_drewN | apply below_drew1) | exact HB.out)) hb); clear HB; have HB := n0_; clear n0_; (try clear hb); (try clear hb2); (try clear hk); (try clear hi)))
    go_ret2
    exact ⟨by first | rfl | (simp [errW_none, errW_some] <;> rfl) | (simp [*, errW_none, errW_some] <;> rfl), by repeat (first | (with_reducible first | exact HB.out | apply below_alloc | apply pw_below_drewN | apply below_drew1) | exact HB.out)⟩

/-! ### boltingref02_Has: function 70 -/
def boltingref02_Has.l0 : Nat → List ByteArray → ByteArray → Int → Option (Bool)
  | 0, _, _, _ => none
  | k + 1, x0, x1, x5 => if x5 < (x0.length : Int) then (if 0 ≤ x5 then (if (rdOf ByteArray.empty x0 x5).toList = x1.toList then (some true) else (boltingref02_Has.l0 k x0 x1 (wrap64 (x5 + 1)))) else (none)) else (some false)
def boltingref02_Has.f (k : Nat) (l0 : List ByteArray) (a1 : ByteArray) : Option (Bool) := boltingref02_Has.l0 k l0 a1 0
set_option maxHeartbeats 8000000 in
set_option maxRecDepth 100000 in
theorem boltingref02_Has.calls (k : Nat) (A0 : Option Addr) (c0 : Nat) (l0 : List ByteArray) (a1 : ByteArray) (r : Bool) (w : World) (hr0 : Kd.C Kd.string w A0 l0.length l0) (hc0 : l0.length ≤ c0) (h : boltingref02_Has.f k l0 a1 = some r) :
    Calls Try.prog 70 #[.slice A0 l0.length c0, .string a1] w fun e w' => e = .returned (.bool r) ∧ Drawn0 w w' := by
  have HR0 := Aside0.mk hr0
  have HC0 := Aside0.mk hc0
  clear hr0 hc0
  have H : (boltingref02_Has.l0 k l0 a1 0) = some r := h
  clear h
  have H' := Aside0.mk H
  clear H
  go_enter Try.func70, Try.ntmps70
  go_wp2
  go_loopg [5] k (fun kq v5 w' => ∃ (x5_1 : Int), v5 = .int .i64 x5_1 ∧ Aside0 (boltingref02_Has.l0 kq l0 a1 x5_1 = some r) ∧ Aside0 (kq ≤ k) ∧ Drawn0 w w')
  case atStart => exact ⟨(0), (by first | rfl | (simp; done) | (simp [*]; done)), H', ⟨Nat.le_refl _⟩, by repeat (first | exact Drawn0.refl _ | apply Drawn0.step)⟩
  case round =>
    clear H'
    try clear p2
    obtain ⟨x5_1, rfl, HA, HK1, ⟨m1, rfl⟩⟩ := hrel
    cases gk with
    | zero => exact absurd HA.out (by simp [boltingref02_Has.l0])
    | succ k1 =>
      have H := HA.out
      clear HA
      simp only [boltingref02_Has.l0] at H
      by_cases c3 : x5_1 < (l0.length : Int)
      · rw [if_pos c3] at H
        have c3b0 : decide (x5_1 < (l0.length : Int)) = true := decide_eq_true c3
        clear c3
        by_cases c4 : 0 ≤ x5_1
        · rw [if_pos c4] at H
          have c4b0 : decide (0 ≤ x5_1) = true := decide_eq_true c4
          clear c4
          by_cases c5 : (rdOf ByteArray.empty l0 x5_1).toList = a1.toList
          · rw [if_pos c5] at H
            have c5b0 : ((rdOf ByteArray.empty l0 x5_1).toList == a1.toList) = true := beq_iff_eq.mpr c5
            have c5b1 : ((rdOf ByteArray.empty l0 x5_1).toList != a1.toList) = false := bne_eq_false_iff_eq.mpr c5
            clear c5
            obtain rfl := Option.some.inj H
            have p264 : 0 ≤ (x5_1 : Int) := of_decide_eq_true (by first | (with_reducible assumption) | assumption)
            have q264 : x5_1 < (l0.length : Int) := of_decide_eq_true (by first | (with_reducible assumption) | assumption)
            obtain ⟨ad264, e264, hx264_0⟩ := Kd.at_string HR0.out x5_1 p264 q264
            cases e264
            replace p264 := eq_true p264
            replace q264 := eq_true q264
            go_wp2
            go_ret
            exact ⟨by first | rfl | (simp; done) | (simp [*]; done) | (simp; generalize ByteArray.toList _ = l_; cases l_ <;> rfl), by repeat (first | exact Drawn0.refl _ | apply Drawn0.step)⟩
          · rw [if_neg c5] at H
            have c5b0 : ((rdOf ByteArray.empty l0 x5_1).toList == a1.toList) = false := beq_eq_false_iff_ne.mpr c5
            have c5b1 : ((rdOf ByteArray.empty l0 x5_1).toList != a1.toList) = true := bne_iff_ne.mpr c5
            have H' := Aside0.mk H
            clear H
            have p264 : 0 ≤ (x5_1 : Int) := of_decide_eq_true (by first | (with_reducible assumption) | assumption)
            have q264 : x5_1 < (l0.length : Int) := of_decide_eq_true (by first | (with_reducible assumption) | assumption)
            obtain ⟨ad264, e264, hx264_0⟩ := Kd.at_string HR0.out x5_1 p264 q264
            cases e264
            replace p264 := eq_true p264
            replace q264 := eq_true q264
            go_wp2
            go_roundg k1
            case measure => have := HK1.out; omega
            case rel => exact ⟨(wrap64 (x5_1 + 1)), (by first | rfl | (simp; done) | (simp [*]; done)), H', ⟨by have := HK1.out; omega⟩, by repeat (first | exact Drawn0.refl _ | apply Drawn0.step)⟩
        · rw [if_neg c4] at H
          exact absurd H (by simp)
      · rw [if_neg c3] at H
        have c3b0 : decide (x5_1 < (l0.length : Int)) = false := decide_eq_false c3
        clear c3
        obtain rfl := Option.some.inj H
        go_wp2
        go_ret
        exact ⟨by first | rfl | (simp; done) | (simp [*]; done) | (simp; generalize ByteArray.toList _ = l_; cases l_ <;> rfl), by repeat (first | exact Drawn0.refl _ | apply Drawn0.step)⟩

/-! ### boltingref10_plain: function 71 -/
def boltingref10_plain.l0 : Nat → ByteArray → Int → Option (Bool)
  | 0, _, _ => none
  | k + 1, x0, x3 => if x3 < (x0.size : Int) then (if 0 ≤ x3 then (if (bt x0 x3) = 32 then (some false) else (boltingref10_plain.l0 k x0 (wrap64 (x3 + 1)))) else (none)) else (some true)
def boltingref10_plain.f (k : Nat) (a0 : ByteArray) : Option (Bool) := boltingref10_plain.l0 k a0 0
set_option maxHeartbeats 8000000 in
set_option maxRecDepth 100000 in
theorem boltingref10_plain.calls (k : Nat) (a0 : ByteArray) (r : Bool) (w : World) (h : boltingref10_plain.f k a0 = some r) :
    Calls Try.prog 71 #[.string a0] w fun e w' => e = .returned (.bool r) ∧ Drawn0 w w' := by
  have H : (boltingref10_plain.l0 k a0 0) = some r := h
  clear h
  have H' := Aside0.mk H
  clear H
  go_enter Try.func71, Try.ntmps71
  go_wp2
  go_loopg [3] k (fun kq v3 w' => ∃ (x3_1 : Int), v3 = .int .i64 x3_1 ∧ Aside0 (boltingref10_plain.l0 kq a0 x3_1 = some r) ∧ Aside0 (kq ≤ k) ∧ Drawn0 w w')
  case atStart => exact ⟨(0), (by first | rfl | (simp; done) | (simp [*]; done)), H', ⟨Nat.le_refl _⟩, by repeat (first | exact Drawn0.refl _ | apply Drawn0.step)⟩
  case round =>
    clear H'
    obtain ⟨x3_1, rfl, HA, HK1, ⟨m1, rfl⟩⟩ := hrel
    cases gk with
    | zero => exact absurd HA.out (by simp [boltingref10_plain.l0])
    | succ k1 =>
      have H := HA.out
      clear HA
      simp only [boltingref10_plain.l0] at H
      by_cases c2 : x3_1 < (a0.size : Int)
      · rw [if_pos c2] at H
        have c2b0 : decide (x3_1 < (a0.size : Int)) = true := decide_eq_true c2
        clear c2
        by_cases c3 : 0 ≤ x3_1
        · rw [if_pos c3] at H
          have c3b0 : decide (0 ≤ x3_1) = true := decide_eq_true c3
          clear c3
          by_cases c5 : (bt a0 x3_1) = 32
          · rw [if_pos c5] at H
            have c5b0 : ((bt a0 x3_1) == 32) = true := beq_iff_eq.mpr c5
            have c5b1 : ((bt a0 x3_1) != 32) = false := bne_eq_false_iff_eq.mpr c5
            clear c5
            obtain rfl := Option.some.inj H
            have p4 : 0 ≤ (x3_1 : Int) := of_decide_eq_true (by first | (with_reducible assumption) | assumption)
            have q4 : x3_1 < (a0.size : Int) := of_decide_eq_true (by first | (with_reducible assumption) | assumption)
            have hx4 := bt_at a0 x3_1
            replace p4 := eq_true p4
            replace q4 := eq_true q4
            go_wp2
            go_ret
            exact ⟨by first | rfl | (simp; done) | (simp [*]; done) | (simp; generalize ByteArray.toList _ = l_; cases l_ <;> rfl), by repeat (first | exact Drawn0.refl _ | apply Drawn0.step)⟩
          · rw [if_neg c5] at H
            have c5b0 : ((bt a0 x3_1) == 32) = false := beq_eq_false_iff_ne.mpr c5
            have c5b1 : ((bt a0 x3_1) != 32) = true := bne_iff_ne.mpr c5
            have H' := Aside0.mk H
            clear H
            have p4 : 0 ≤ (x3_1 : Int) := of_decide_eq_true (by first | (with_reducible assumption) | assumption)
            have q4 : x3_1 < (a0.size : Int) := of_decide_eq_true (by first | (with_reducible assumption) | assumption)
            have hx4 := bt_at a0 x3_1
            replace p4 := eq_true p4
            replace q4 := eq_true q4
            go_wp2
            go_roundg k1
            case measure => have := HK1.out; omega
            case rel => exact ⟨(wrap64 (x3_1 + 1)), (by first | rfl | (simp; done) | (simp [*]; done)), H', ⟨by have := HK1.out; omega⟩, by repeat (first | exact Drawn0.refl _ | apply Drawn0.step)⟩
        · rw [if_neg c3] at H
          exact absurd H (by simp)
      · rw [if_neg c2] at H
        have c2b0 : decide (x3_1 < (a0.size : Int)) = false := decide_eq_false c2
        clear c2
        obtain rfl := Option.some.inj H
        go_wp2
        go_ret
        exact ⟨by first | rfl | (simp; done) | (simp [*]; done) | (simp; generalize ByteArray.toList _ = l_; cases l_ <;> rfl), by repeat (first | exact Drawn0.refl _ | apply Drawn0.step)⟩

end Go.Proofs.Ytakhldahohooiaa.Pr
namespace Go.Proofs.Ytakhldahohooiaa.Pr
open Go.RowKit Go.Proofs.YtakhldahohooiaaW.PrintWords Go.Proofs.YtakhldahohooiaaW.PrintLast Go.Proofs.YtakhldahohooiaaW.PrintMore
attribute [local go_sem] max2_int min2_int max_two min_two max_three min_three max_four min_four   -- for this text's walks alone
set_option linter.unusedVariables false
set_option linter.unusedSimpArgs false

/-! ### boltingref10_pair: function 56 -/
def boltingref10_pair.l0 : Nat → List ByteArray → ByteArray → ByteArray → Int → Option (Bool)
  | 0, _, _, _, _ => none
  | k + 1, x0, x1, x2, x7 => if x7 < (x0.length : Int) then (if 0 ≤ x7 then (if x1.size + 1 ≤ 9223372036854775807 then (if (x1 ++ (⟨#[32]⟩ : ByteArray)).size + x2.size ≤ 9223372036854775807 then (if (rdOf ByteArray.empty x0 x7).toList = ((x1 ++ (⟨#[32]⟩ : ByteArray)) ++ x2).toList then ((boltingref02_Has.f k (([x1, x2] : List ByteArray)) (⟨#[]⟩ : ByteArray)).bind fun t269 => (if t269 = true then (boltingref10_pair.l0 k x0 x1 x2 (wrap64 (x7 + 1))) else ((boltingref10_plain.f k x1).bind fun t270 => (if t270 = true then (some true) else (boltingref10_pair.l0 k x0 x1 x2 (wrap64 (x7 + 1))))))) else (boltingref10_pair.l0 k x0 x1 x2 (wrap64 (x7 + 1)))) else (none)) else (none)) else (none)) else (some false)
def boltingref10_pair.f (k : Nat) (l0 : List ByteArray) (a1 : ByteArray) (a2 : ByteArray) : Option (Bool) := boltingref10_pair.l0 k l0 a1 a2 0
set_option maxHeartbeats 8000000 in
set_option maxRecDepth 100000 in
theorem boltingref10_pair.calls (k : Nat) (A0 : Option Addr) (c0 : Nat) (l0 : List ByteArray) (a1 : ByteArray) (a2 : ByteArray) (r : Bool) (w : World) (hr0 : Kd.C Kd.string w A0 l0.length l0) (hc0 : l0.length ≤ c0) (h : boltingref10_pair.f k l0 a1 a2 = some r) :
    Calls Try.prog 56 #[.slice A0 l0.length c0, .string a1, .string a2] w fun e w' => e = .returned (.bool r) ∧ Below w.heap.size w w' := by
  have HR0 := Aside0.mk hr0
  have HC0 := Aside0.mk hc0
  clear hr0 hc0
  have HB := Aside0.mk (Below.refl w.heap.size w)
  have H : (boltingref10_pair.l0 k l0 a1 a2 0) = some r := h
  clear h
  have H' := Aside0.mk H
  clear H
  go_enter Try.func56, Try.ntmps56
  go_wp2
  go_loopg [7] k (fun kq v7 w' => ∃ (x7_1 : Int), v7 = .int .i64 x7_1 ∧ Aside0 (boltingref10_pair.l0 kq l0 a1 a2 x7_1 = some r) ∧ Aside0 (kq ≤ k) ∧ Aside0 (Below w.heap.size w w'))
  case atStart => exact ⟨(0), (by first | rfl | (simp; done) | (simp [*]; done)), H', ⟨Nat.le_refl _⟩, ⟨by repeat (first | (with_reducible first | exact HB.out | apply below_alloc | apply pw_below_drewN | apply below_drew1) | exact HB.out)⟩⟩
  case round =>
    clear H'
    try clear p2
    obtain ⟨x7_1, rfl, HA, HK1, HB⟩ := hrel
    cases gk with
    | zero => exact absurd HA.out (by simp [boltingref10_pair.l0])
    | succ k1 =>
      have H := HA.out
      clear HA
      simp only [boltingref10_pair.l0] at H
      by_cases c4 : x7_1 < (l0.length : Int)
      · rw [if_pos c4] at H
        have c4b0 : decide (x7_1 < (l0.length : Int)) = true := decide_eq_true c4
        clear c4
        by_cases c5 : 0 ≤ x7_1
        · rw [if_pos c5] at H
          have c5b0 : decide (0 ≤ x7_1) = true := decide_eq_true c5
          clear c5
          by_cases c6 : a1.size + 1 ≤ 9223372036854775807
          · rw [if_pos c6] at H
            have c6b0 := eq_true c6
            have c6b1 : decide (a1.size + 1 ≤ 9223372036854775807) = true := decide_eq_true c6
            try have c6b2 : (9223372036854775807 < a1.size + 1) = False := eq_false (Nat.not_lt.2 c6)
            by_cases c7 : (a1 ++ (⟨#[32]⟩ : ByteArray)).size + a2.size ≤ 9223372036854775807
            · rw [if_pos c7] at H
              have c7b0 := eq_true c7
              have c7b1 : decide ((a1 ++ (⟨#[32]⟩ : ByteArray)).size + a2.size ≤ 9223372036854775807) = true := decide_eq_true c7
              (try (have c7t0 : (a1.size + 1 + a2.size ≤ 9223372036854775807) = True := eq_true (by have h_ := c7; simp only [ByteArray.size_append] at h_; exact h_)))
              (try (have c7t1 : (9223372036854775807 < a1.size + 1 + a2.size) = False := eq_false (Nat.not_lt.2 (of_eq_true c7t0))))
              try have c7b2 : (9223372036854775807 < (a1 ++ (⟨#[32]⟩ : ByteArray)).size + a2.size) = False := eq_false (Nat.not_lt.2 c7)
              by_cases c8 : (rdOf ByteArray.empty l0 x7_1).toList = ((a1 ++ (⟨#[32]⟩ : ByteArray)) ++ a2).toList
              · rw [if_pos c8] at H
                have c8b0 : ((rdOf ByteArray.empty l0 x7_1).toList == ((a1 ++ (⟨#[32]⟩ : ByteArray)) ++ a2).toList) = true := beq_iff_eq.mpr c8
                have c8b1 : ((rdOf ByteArray.empty l0 x7_1).toList != ((a1 ++ (⟨#[32]⟩ : ByteArray)) ++ a2).toList) = false := bne_eq_false_iff_eq.mpr c8
                clear c8
                obtain ⟨y266, hy266⟩ : ∃ y_ : List ByteArray, y_ = (([a1, a2] : List ByteArray)) := ⟨_, rfl⟩
                replace H : ((boltingref02_Has.f k1 y266 (⟨#[]⟩ : ByteArray)).bind fun t269 => (if t269 = true then (boltingref10_pair.l0 k1 l0 a1 a2 (wrap64 (x7_1 + 1))) else ((boltingref10_plain.f k1 a1).bind fun t270 => (if t270 = true then (some true) else (boltingref10_pair.l0 k1 l0 a1 a2 (wrap64 (x7_1 + 1))))))) = some r := by first | (rw [hy266]; with_reducible exact H) | (have H2_ := (Option.bind_some _ _).symm.trans H; rw [hy266]; with_reducible exact H2_) | (have H2_ := (Option.bind_some _ _).symm.trans H; with_reducible exact H2_) | with_reducible exact H | (rw [hy266]; exact H) | exact H
                have Ny266 := Aside0.mk hy266
                clear hy266
                replace H := Option.bind_eq_some_iff.mp H
                obtain ⟨t269, A90, H⟩ := H
                replace H : (if t269 = true then (boltingref10_pair.l0 k1 l0 a1 a2 (wrap64 (x7_1 + 1))) else ((boltingref10_plain.f k1 a1).bind fun t270 => (if t270 = true then (some true) else (boltingref10_pair.l0 k1 l0 a1 a2 (wrap64 (x7_1 + 1)))))) = some r := H
                have A9 := Aside0.mk A90
                clear A90
                by_cases c10 : t269 = true
                · subst c10
                  have H1 : (boltingref10_pair.l0 k1 l0 a1 a2 (wrap64 (x7_1 + 1))) = some r := by rw [if_pos rfl] at H; exact H
                  clear H
                  have H := H1
                  clear H1
                  have H' := Aside0.mk H
                  clear H
                  have p265 : 0 ≤ (x7_1 : Int) := of_decide_eq_true (by first | (with_reducible assumption) | assumption)
                  have q265 : x7_1 < (l0.length : Int) := of_decide_eq_true (by first | (with_reducible assumption) | assumption)
                  obtain ⟨ad265, e265, hx265_0⟩ := Kd.at_string HR0.out x7_1 p265 q265
                  cases e265
                  replace hx265_0 := (HB.out.cell (World.block_lt_of_cell? w _ hx265_0)).trans hx265_0
                  replace p265 := eq_true p265
                  replace q265 := eq_true q265
                  go_wp2_with (first | ((with_reducible refine gate_dst (N := 26) rfl ?_); (try (refine gate_guard (by rfl) ?_; dsimp only)); refine Kd.R_lit Kd.string _ 9 ?hg (N := 26) ?hd (xs := ([a1, a2] : List ByteArray)) (inner := [.string a1, .string a2]) (ok := fun _ => True) (okp := fun _ => True) ?hr ?hp (fun _ hk => hk) trivial (Below.refl _ _) (Nat.le_refl _) (by simp) ?_; (case hd => rfl); (case hg => rfl); (case hr => first | (go_simp; done) | (go_simp; rfl)); (case hp => exact (Reps.one (show Kd.M Kd.string _ _ _ a1 [.string a1] from rfl) (Reps.one (show Kd.M Kd.string _ _ _ a2 [.string a2] from rfl) (Reps.none _ _)))); intro v267 w11 ho12 hb hg_ hnew_; clear hg_ hnew_; (first | rw [← Ny266.out] at ho12 | (simp only [Int.reduceToNat] at ho12; rw [← Ny266.out] at ho12)); have n0_ := Aside0.mk (Kd.R_lower ho12 (below_size (by repeat (first | (with_reducible first | exact HB.out | apply below_alloc | apply pw_below_drewN | apply below_drew1) | exact HB.out)))); have n1_ := Aside0.mk (below_step (by repeat (first | (with_reducible first | exact HB.out | apply below_alloc | apply pw_below_drewN | apply below_drew1) | exact HB.out)) hb); clear HB; have HO268 := n0_; have HB := n1_; clear n0_ n1_; clear hb ho12; obtain ⟨Ao13, co13, eo13⟩ := Kd.R_slice HO268.out; subst eo13) | (go_at_call 70; (with_reducible refine (boltingref02_Has.calls k1 _ _ y266 (⟨#[]⟩ : ByteArray) true _ ?side1 ?side2 A9.out).mono ?_); (case side1 => repeat (first | exact (Kd.R_reads' HO268.out).2.2 | (with_reducible refine Kd.C_alloc ?_ _) | (with_reducible refine Kd.C_drewN ?_ _) | (with_reducible refine Kd.C_drew ?_))); (case side2 => exact (Kd.R_reads' HO268.out).2.1); rintro e w' ⟨rfl, ⟨nd, rfl⟩⟩))
                  go_roundg k1
                  case measure => have := HK1.out; omega
                  case rel => exact ⟨(wrap64 (x7_1 + 1)), (by first | rfl | (simp; done) | (simp [*]; done)), H', ⟨by have := HK1.out; omega⟩, ⟨by repeat (first | (with_reducible first | exact HB.out | apply below_alloc | apply pw_below_drewN | apply below_drew1) | exact HB.out)⟩⟩
                · replace c10 := Bool.eq_false_iff.mpr c10
                  subst c10
                  have H1 : ((boltingref10_plain.f k1 a1).bind fun t270 => (if t270 = true then (some true) else (boltingref10_pair.l0 k1 l0 a1 a2 (wrap64 (x7_1 + 1))))) = some r := by rw [if_neg (show ¬ (false = true) by decide)] at H; exact H
                  clear H
                  have H := H1
                  clear H1
                  replace H := Option.bind_eq_some_iff.mp H
                  obtain ⟨t270, A140, H⟩ := H
                  replace H : (if t270 = true then (some true) else (boltingref10_pair.l0 k1 l0 a1 a2 (wrap64 (x7_1 + 1)))) = some r := H
                  have A14 := Aside0.mk A140
                  clear A140
                  by_cases c15 : t270 = true
                  · subst c15
                    have H1 : (some true) = some r := by rw [if_pos rfl] at H; exact H
                    clear H
                    have H := H1
                    clear H1
                    obtain rfl := Option.some.inj H
                    have p265 : 0 ≤ (x7_1 : Int) := of_decide_eq_true (by first | (with_reducible assumption) | assumption)
                    have q265 : x7_1 < (l0.length : Int) := of_decide_eq_true (by first | (with_reducible assumption) | assumption)
                    obtain ⟨ad265, e265, hx265_0⟩ := Kd.at_string HR0.out x7_1 p265 q265
                    cases e265
                    replace hx265_0 := (HB.out.cell (World.block_lt_of_cell? w _ hx265_0)).trans hx265_0
                    replace p265 := eq_true p265
                    replace q265 := eq_true q265
                    go_wp2_with (first | ((with_reducible refine gate_dst (N := 26) rfl ?_); (try (refine gate_guard (by rfl) ?_; dsimp only)); refine Kd.R_lit Kd.string _ 9 ?hg (N := 26) ?hd (xs := ([a1, a2] : List ByteArray)) (inner := [.string a1, .string a2]) (ok := fun _ => True) (okp := fun _ => True) ?hr ?hp (fun _ hk => hk) trivial (Below.refl _ _) (Nat.le_refl _) (by simp) ?_; (case hd => rfl); (case hg => rfl); (case hr => first | (go_simp; done) | (go_simp; rfl)); (case hp => exact (Reps.one (show Kd.M Kd.string _ _ _ a1 [.string a1] from rfl) (Reps.one (show Kd.M Kd.string _ _ _ a2 [.string a2] from rfl) (Reps.none _ _)))); intro v267 w16 ho17 hb hg_ hnew_; clear hg_ hnew_; (first | rw [← Ny266.out] at ho17 | (simp only [Int.reduceToNat] at ho17; rw [← Ny266.out] at ho17)); have n0_ := Aside0.mk (Kd.R_lower ho17 (below_size (by repeat (first | (with_reducible first | exact HB.out | apply below_alloc | apply pw_below_drewN | apply below_drew1) | exact HB.out)))); have n1_ := Aside0.mk (below_step (by repeat (first | (with_reducible first | exact HB.out | apply below_alloc | apply pw_below_drewN | apply below_drew1) | exact HB.out)) hb); clear HB; have HO268 := n0_; have HB := n1_; clear n0_ n1_; clear hb ho17; obtain ⟨Ao18, co18, eo18⟩ := Kd.R_slice HO268.out; subst eo18) | (go_at_call 70; (with_reducible refine (boltingref02_Has.calls k1 _ _ y266 (⟨#[]⟩ : ByteArray) false _ ?side1 ?side2 A9.out).mono ?_); (case side1 => repeat (first | exact (Kd.R_reads' HO268.out).2.2 | (with_reducible refine Kd.C_alloc ?_ _) | (with_reducible refine Kd.C_drewN ?_ _) | (with_reducible refine Kd.C_drew ?_))); (case side2 => exact (Kd.R_reads' HO268.out).2.1); rintro e w' ⟨rfl, ⟨nd, rfl⟩⟩) | (go_at_call 71; (with_reducible refine (boltingref10_plain.calls k1 a1 true _ A14.out).mono ?_); rintro e w' ⟨rfl, ⟨nd, rfl⟩⟩))
                    go_ret
                    exact ⟨by first | rfl | (simp [errW_none, errW_some] <;> rfl) | (simp [*, errW_none, errW_some] <;> rfl), by repeat (first | (with_reducible first | exact HB.out | apply below_alloc | apply pw_below_drewN | apply below_drew1) | exact HB.out)⟩
                  · replace c15 := Bool.eq_false_iff.mpr c15
                    subst c15
                    have H1 : (boltingref10_pair.l0 k1 l0 a1 a2 (wrap64 (x7_1 + 1))) = some r := by rw [if_neg (show ¬ (false = true) by decide)] at H; exact H
                    clear H
                    have H := H1
                    clear H1
                    have H' := Aside0.mk H
                    clear H
                    have p265 : 0 ≤ (x7_1 : Int) := of_decide_eq_true (by first | (with_reducible assumption) | assumption)
                    have q265 : x7_1 < (l0.length : Int) := of_decide_eq_true (by first | (with_reducible assumption) | assumption)
                    obtain ⟨ad265, e265, hx265_0⟩ := Kd.at_string HR0.out x7_1 p265 q265
                    cases e265
                    replace hx265_0 := (HB.out.cell (World.block_lt_of_cell? w _ hx265_0)).trans hx265_0
                    replace p265 := eq_true p265
                    replace q265 := eq_true q265
                    go_wp2_with (first | ((with_reducible refine gate_dst (N := 26) rfl ?_); (try (refine gate_guard (by rfl) ?_; dsimp only)); refine Kd.R_lit Kd.string _ 9 ?hg (N := 26) ?hd (xs := ([a1, a2] : List ByteArray)) (inner := [.string a1, .string a2]) (ok := fun _ => True) (okp := fun _ => True) ?hr ?hp (fun _ hk => hk) trivial (Below.refl _ _) (Nat.le_refl _) (by simp) ?_; (case hd => rfl); (case hg => rfl); (case hr => first | (go_simp; done) | (go_simp; rfl)); (case hp => exact (Reps.one (show Kd.M Kd.string _ _ _ a1 [.string a1] from rfl) (Reps.one (show Kd.M Kd.string _ _ _ a2 [.string a2] from rfl) (Reps.none _ _)))); intro v267 w19 ho20 hb hg_ hnew_; clear hg_ hnew_; (first | rw [← Ny266.out] at ho20 | (simp only [Int.reduceToNat] at ho20; rw [← Ny266.out] at ho20)); have n0_ := Aside0.mk (Kd.R_lower ho20 (below_size (by repeat (first | (with_reducible first | exact HB.out | apply below_alloc | apply pw_below_drewN | apply below_drew1) | exact HB.out)))); have n1_ := Aside0.mk (below_step (by repeat (first | (with_reducible first | exact HB.out | apply below_alloc | apply pw_below_drewN | apply below_drew1) | exact HB.out)) hb); clear HB; have HO268 := n0_; have HB := n1_; clear n0_ n1_; clear hb ho20; obtain ⟨Ao21, co21, eo21⟩ := Kd.R_slice HO268.out; subst eo21) | (go_at_call 70; (with_reducible refine (boltingref02_Has.calls k1 _ _ y266 (⟨#[]⟩ : ByteArray) false _ ?side1 ?side2 A9.out).mono ?_); (case side1 => repeat (first | exact (Kd.R_reads' HO268.out).2.2 | (with_reducible refine Kd.C_alloc ?_ _) | (with_reducible refine Kd.C_drewN ?_ _) | (with_reducible refine Kd.C_drew ?_))); (case side2 => exact (Kd.R_reads' HO268.out).2.1); rintro e w' ⟨rfl, ⟨nd, rfl⟩⟩) | (go_at_call 71; (with_reducible refine (boltingref10_plain.calls k1 a1 false _ A14.out).mono ?_); rintro e w' ⟨rfl, ⟨nd, rfl⟩⟩))
                    go_roundg k1
                    case measure => have := HK1.out; omega
                    case rel => exact ⟨(wrap64 (x7_1 + 1)), (by first | rfl | (simp; done) | (simp [*]; done)), H', ⟨by have := HK1.out; omega⟩, ⟨by repeat (first | (with_reducible first | exact HB.out | apply below_alloc | apply pw_below_drewN | apply below_drew1) | exact HB.out)⟩⟩
              · rw [if_neg c8] at H
                have c8b0 : ((rdOf ByteArray.empty l0 x7_1).toList == ((a1 ++ (⟨#[32]⟩ : ByteArray)) ++ a2).toList) = false := beq_eq_false_iff_ne.mpr c8
                have c8b1 : ((rdOf ByteArray.empty l0 x7_1).toList != ((a1 ++ (⟨#[32]⟩ : ByteArray)) ++ a2).toList) = true := bne_iff_ne.mpr c8
                have H' := Aside0.mk H
                clear H
                have p265 : 0 ≤ (x7_1 : Int) := of_decide_eq_true (by first | (with_reducible assumption) | assumption)
                have q265 : x7_1 < (l0.length : Int) := of_decide_eq_true (by first | (with_reducible assumption) | assumption)
                obtain ⟨ad265, e265, hx265_0⟩ := Kd.at_string HR0.out x7_1 p265 q265
                cases e265
                replace hx265_0 := (HB.out.cell (World.block_lt_of_cell? w _ hx265_0)).trans hx265_0
                replace p265 := eq_true p265
                replace q265 := eq_true q265
                go_wp2
                go_roundg k1
                case measure => have := HK1.out; omega
                case rel => exact ⟨(wrap64 (x7_1 + 1)), (by first | rfl | (simp; done) | (simp [*]; done)), H', ⟨by have := HK1.out; omega⟩, ⟨by repeat (first | (with_reducible first | exact HB.out | apply below_alloc | apply pw_below_drewN | apply below_drew1) | exact HB.out)⟩⟩
            · rw [if_neg c7] at H
              exact absurd H (by simp)
          · rw [if_neg c6] at H
            exact absurd H (by simp)
        · rw [if_neg c5] at H
          exact absurd H (by simp)
      · rw [if_neg c4] at H
        have c4b0 : decide (x7_1 < (l0.length : Int)) = false := decide_eq_false c4
        clear c4
        obtain rfl := Option.some.inj H
        go_wp2
        go_ret
        exact ⟨by first | rfl | (simp [errW_none, errW_some] <;> rfl) | (simp [*, errW_none, errW_some] <;> rfl), by repeat (first | (with_reducible first | exact HB.out | apply below_alloc | apply pw_below_drewN | apply below_drew1) | exact HB.out)⟩

/-! ### boltingref10_leads: function 57 -/
def boltingref10_leads.f  : Option (List ByteArray) := some (([(⟨#[97, 32, 104, 114, 101, 102]⟩ : ByteArray), (⟨#[97, 114, 101, 97, 32, 104, 114, 101, 102]⟩ : ByteArray), (⟨#[98, 117, 116, 116, 111, 110, 32, 102, 111, 114, 109, 97, 99, 116, 105, 111, 110]⟩ : ByteArray), (⟨#[101, 109, 98, 101, 100, 32, 115, 114, 99]⟩ : ByteArray), (⟨#[102, 111, 114, 109, 32, 97, 99, 116, 105, 111, 110]⟩ : ByteArray), (⟨#[102, 114, 97, 109, 101, 32, 115, 114, 99]⟩ : ByteArray), (⟨#[105, 102, 114, 97, 109, 101, 32, 115, 114, 99]⟩ : ByteArray), (⟨#[105, 110, 112, 117, 116, 32, 102, 111, 114, 109, 97, 99, 116, 105, 111, 110]⟩ : ByteArray), (⟨#[111, 98, 106, 101, 99, 116, 32, 100, 97, 116, 97]⟩ : ByteArray)] : List ByteArray))
set_option maxHeartbeats 8000000 in
set_option maxRecDepth 100000 in
theorem boltingref10_leads.calls  (r : List ByteArray) (w : World) (h : boltingref10_leads.f  = some r) :
    Calls Try.prog 57 #[] w fun e w' => ∃ v0_ : Value, e = .returned (v0_) ∧ Kd.R Kd.string 9 w' w.heap.size (fun _ => True) v0_ r ∧ Below w.heap.size w w' := by
  have HB := Aside0.mk (Below.refl w.heap.size w)
  have H : (some (([(⟨#[97, 32, 104, 114, 101, 102]⟩ : ByteArray), (⟨#[97, 114, 101, 97, 32, 104, 114, 101, 102]⟩ : ByteArray), (⟨#[98, 117, 116, 116, 111, 110, 32, 102, 111, 114, 109, 97, 99, 116, 105, 111, 110]⟩ : ByteArray), (⟨#[101, 109, 98, 101, 100, 32, 115, 114, 99]⟩ : ByteArray), (⟨#[102, 111, 114, 109, 32, 97, 99, 116, 105, 111, 110]⟩ : ByteArray), (⟨#[102, 114, 97, 109, 101, 32, 115, 114, 99]⟩ : ByteArray), (⟨#[105, 102, 114, 97, 109, 101, 32, 115, 114, 99]⟩ : ByteArray), (⟨#[105, 110, 112, 117, 116, 32, 102, 111, 114, 109, 97, 99, 116, 105, 111, 110]⟩ : ByteArray), (⟨#[111, 98, 106, 101, 99, 116, 32, 100, 97, 116, 97]⟩ : ByteArray)] : List ByteArray))) = some r := h
  clear h
  obtain ⟨y271, hy271⟩ : ∃ y_ : List ByteArray, y_ = (([(⟨#[97, 32, 104, 114, 101, 102]⟩ : ByteArray), (⟨#[97, 114, 101, 97, 32, 104, 114, 101, 102]⟩ : ByteArray), (⟨#[98, 117, 116, 116, 111, 110, 32, 102, 111, 114, 109, 97, 99, 116, 105, 111, 110]⟩ : ByteArray), (⟨#[101, 109, 98, 101, 100, 32, 115, 114, 99]⟩ : ByteArray), (⟨#[102, 111, 114, 109, 32, 97, 99, 116, 105, 111, 110]⟩ : ByteArray), (⟨#[102, 114, 97, 109, 101, 32, 115, 114, 99]⟩ : ByteArray), (⟨#[105, 102, 114, 97, 109, 101, 32, 115, 114, 99]⟩ : ByteArray), (⟨#[105, 110, 112, 117, 116, 32, 102, 111, 114, 109, 97, 99, 116, 105, 111, 110]⟩ : ByteArray), (⟨#[111, 98, 106, 101, 99, 116, 32, 100, 97, 116, 97]⟩ : ByteArray)] : List ByteArray)) := ⟨_, rfl⟩
  replace H : (some y271) = some r := by first | (rw [hy271]; with_reducible exact H) | (have H2_ := (Option.bind_some _ _).symm.trans H; rw [hy271]; with_reducible exact H2_) | (have H2_ := (Option.bind_some _ _).symm.trans H; with_reducible exact H2_) | with_reducible exact H | (rw [hy271]; exact H) | exact H
  have Ny271 := Aside0.mk hy271
  clear hy271
  obtain rfl := Option.some.inj H
  go_enter Try.func57, Try.ntmps57
  go_wp2_with (first | ((with_reducible refine gate_dst (N := 1) rfl ?_); refine Kd.R_lit Kd.string _ 9 ?hg (N := 1) ?hd (xs := ([(⟨#[97, 32, 104, 114, 101, 102]⟩ : ByteArray), (⟨#[97, 114, 101, 97, 32, 104, 114, 101, 102]⟩ : ByteArray), (⟨#[98, 117, 116, 116, 111, 110, 32, 102, 111, 114, 109, 97, 99, 116, 105, 111, 110]⟩ : ByteArray), (⟨#[101, 109, 98, 101, 100, 32, 115, 114, 99]⟩ : ByteArray), (⟨#[102, 111, 114, 109, 32, 97, 99, 116, 105, 111, 110]⟩ : ByteArray), (⟨#[102, 114, 97, 109, 101, 32, 115, 114, 99]⟩ : ByteArray), (⟨#[105, 102, 114, 97, 109, 101, 32, 115, 114, 99]⟩ : ByteArray), (⟨#[105, 110, 112, 117, 116, 32, 102, 111, 114, 109, 97, 99, 116, 105, 111, 110]⟩ : ByteArray), (⟨#[111, 98, 106, 101, 99, 116, 32, 100, 97, 116, 97]⟩ : ByteArray)] : List ByteArray)) (inner := [.string (⟨#[97, 32, 104, 114, 101, 102]⟩ : ByteArray), .string (⟨#[97, 114, 101, 97, 32, 104, 114, 101, 102]⟩ : ByteArray), .string (⟨#[98, 117, 116, 116, 111, 110, 32, 102, 111, 114, 109, 97, 99, 116, 105, 111, 110]⟩ : ByteArray), .string (⟨#[101, 109, 98, 101, 100, 32, 115, 114, 99]⟩ : ByteArray), .string (⟨#[102, 111, 114, 109, 32, 97, 99, 116, 105, 111, 110]⟩ : ByteArray), .string (⟨#[102, 114, 97, 109, 101, 32, 115, 114, 99]⟩ : ByteArray), .string (⟨#[105, 102, 114, 97, 109, 101, 32, 115, 114, 99]⟩ : ByteArray), .string (⟨#[105, 110, 112, 117, 116, 32, 102, 111, 114, 109, 97, 99, 116, 105, 111, 110]⟩ : ByteArray), .string (⟨#[111, 98, 106, 101, 99, 116, 32, 100, 97, 116, 97]⟩ : ByteArray)]) (ok := fun _ => True) (okp := fun _ => True) ?hr ?hp (fun _ hk => hk) trivial (Below.refl _ _) (Nat.le_refl _) (by simp) ?_; (case hd => rfl); (case hg => rfl); (case hr => first | (go_simp; done) | (go_simp; rfl)); (case hp => exact (Reps.one (show Kd.M Kd.string _ _ _ (⟨#[97, 32, 104, 114, 101, 102]⟩ : ByteArray) [.string (⟨#[97, 32, 104, 114, 101, 102]⟩ : ByteArray)] from rfl) (Reps.one (show Kd.M Kd.string _ _ _ (⟨#[97, 114, 101, 97, 32, 104, 114, 101, 102]⟩ : ByteArray) [.string (⟨#[97, 114, 101, 97, 32, 104, 114, 101, 102]⟩ : ByteArray)] from rfl) (Reps.one (show Kd.M Kd.string _ _ _ (⟨#[98, 117, 116, 116, 111, 110, 32, 102, 111, 114, 109, 97, 99, 116, 105, 111, 110]⟩ : ByteArray) [.string (⟨#[98, 117, 116, 116, 111, 110, 32, 102, 111, 114, 109, 97, 99, 116, 105, 111, 110]⟩ : ByteArray)] from rfl) (Reps.one (show Kd.M Kd.string _ _ _ (⟨#[101, 109, 98, 101, 100, 32, 115, 114, 99]⟩ : ByteArray) [.string (⟨#[101, 109, 98, 101, 100, 32, 115, 114, 99]⟩ : ByteArray)] from rfl) (Reps.one (show Kd.M Kd.string _ _ _ (⟨#[102, 111, 114, 109, 32, 97, 99, 116, 105, 111, 110]⟩ : ByteArray) [.string (⟨#[102, 111, 114, 109, 32, 97, 99, 116, 105, 111, 110]⟩ : ByteArray)] from rfl) (Reps.one (show Kd.M Kd.string _ _ _ (⟨#[102, 114, 97, 109, 101, 32, 115, 114, 99]⟩ : ByteArray) [.string (⟨#[102, 114, 97, 109, 101, 32, 115, 114, 99]⟩ : ByteArray)] from rfl) (Reps.one (show Kd.M Kd.string _ _ _ (⟨#[105, 102, 114, 97, 109, 101, 32, 115, 114, 99]⟩ : ByteArray) [.string (⟨#[105, 102, 114, 97, 109, 101, 32, 115, 114, 99]⟩ : ByteArray)] from rfl) (Reps.one (show Kd.M Kd.string _ _ _ (⟨#[105, 110, 112, 117, 116, 32, 102, 111, 114, 109, 97, 99, 116, 105, 111, 110]⟩ : ByteArray) [.string (⟨#[105, 110, 112, 117, 116, 32, 102, 111, 114, 109, 97, 99, 116, 105, 111, 110]⟩ : ByteArray)] from rfl) (Reps.one (show Kd.M Kd.string _ _ _ (⟨#[111, 98, 106, 101, 99, 116, 32, 100, 97, 116, 97]⟩ : ByteArray) [.string (⟨#[111, 98, 106, 101, 99, 116, 32, 100, 97, 116, 97]⟩ : ByteArray)] from rfl) (Reps.none _ _))))))))))); intro v272 w1 ho2 hb hg_ hnew_; clear hg_ hnew_; (first | rw [← Ny271.out] at ho2 | (simp only [Int.reduceToNat] at ho2; rw [← Ny271.out] at ho2)); have n0_ := Aside0.mk (Kd.R_lower ho2 (below_size (by repeat (first | (with_reducible first | exact HB.out | apply below_alloc | apply pw_below_drewN | apply below_drew1) | exact HB.out)))); have n1_ := Aside0.mk (below_step (by repeat (first | (with_reducible first | exact HB.out | apply below_alloc | apply pw_below_drewN | apply below_drew1) | exact HB.out)) hb); clear HB; have HO273 := n0_; have HB := n1_; clear n0_ n1_; clear hb ho2))
  go_ret
  exact ⟨_, by first | rfl | (simp [errW_none, errW_some] <;> rfl) | (simp [*, errW_none, errW_some] <;> rfl), by (with_reducible repeat (first | apply Kd.R_alloc | apply Kd.R_drewN | apply Kd.R_drew)); exact HO273.out, by repeat (first | (with_reducible first | exact HB.out | apply below_alloc | apply pw_below_drewN | apply below_drew1) | exact HB.out)⟩

/-! ### boltingref10_Nav: function 43 -/
def boltingref10_Nav.f (k : Nat) (a0 : ByteArray) (a1 : ByteArray) : Option (Bool) := (boltingref10_leads.f).bind fun t274 => ((boltingref10_pair.f k t274 a0 a1).bind fun t277 => (some t277))
set_option maxHeartbeats 8000000 in
set_option maxRecDepth 100000 in
theorem boltingref10_Nav.calls (k : Nat) (a0 : ByteArray) (a1 : ByteArray) (r : Bool) (w : World) (h : boltingref10_Nav.f k a0 a1 = some r) :
    Calls Try.prog 43 #[.string a0, .string a1] w fun e w' => e = .returned (.bool r) ∧ Below w.heap.size w w' := by
  have HB := Aside0.mk (Below.refl w.heap.size w)
  have H : ((boltingref10_leads.f).bind fun t274 => ((boltingref10_pair.f k t274 a0 a1).bind fun t277 => (some t277))) = some r := h
  clear h
  replace H := Option.bind_eq_some_iff.mp H
  obtain ⟨t274, A30, H⟩ := H
  replace H : ((boltingref10_pair.f k t274 a0 a1).bind fun t277 => (some t277)) = some r := H
  have A3 := Aside0.mk A30
  clear A30
  replace H := Option.bind_eq_some_iff.mp H
  obtain ⟨t277, A40, H⟩ := H
  replace H : (some t277) = some r := H
  have A4 := Aside0.mk A40
  clear A40
  obtain rfl := Option.some.inj H
  go_enter Try.func43, Try.ntmps43
  go_wp2_with (first | ((with_reducible refine gate_callee (f := 57) rfl ?_); refine goesL_ (some 5) rfl rfl Try.func57 (by kernel_rfl) rfl #[] rfl (by (try simp only [List.map_toArray, List.map_cons, List.map_nil]); first | done | rfl | (simp only [List.length_drop, List.length_take]; rfl)) ?_; (with_reducible refine (boltingref10_leads.calls  t274 _ A3.out).mono ?_); rintro e w5 ⟨v275, rfl, ho0, hb⟩; refine ⟨_, rfl, ?_⟩; have n0_ := Aside0.mk (Kd.R_lower ho0 (below_size (by repeat (first | (with_reducible first | exact HB.out | apply below_alloc | apply pw_below_drewN | apply below_drew1) | exact HB.out)))); have n1_ := Aside0.mk (below_step (by repeat (first | (with_reducible first | exact HB.out | apply below_alloc | apply pw_below_drewN | apply below_drew1) | exact HB.out)) hb); clear HB; have HO276 := n0_; have HB := n1_; clear n0_ n1_; (try clear hb); (try clear hb2); (try clear hk); (try clear hi); (try clear ho0); obtain ⟨Ao6, co6, eo6⟩ := Kd.R_slice HO276.out; subst eo6) | ((with_reducible refine gate_callee (f := 56) rfl ?_); refine goesL_ (some 8) rfl rfl Try.func56 (by kernel_rfl) rfl #[.slice Ao6 t274.length co6, .string a0, .string a1] rfl (by (try simp only [List.map_toArray, List.map_cons, List.map_nil]); first | done | rfl | (simp only [List.length_drop, List.length_take]; rfl)) ?_; (with_reducible refine (boltingref10_pair.calls k _ _ t274 a0 a1 t277 _ ?side1 ?side2 A4.out).mono ?_); (case side1 => repeat (first | exact (Kd.R_reads' HO276.out).2.2 | (with_reducible refine Kd.C_alloc ?_ _) | (with_reducible refine Kd.C_drewN ?_ _) | (with_reducible refine Kd.C_drew ?_))); (case side2 => exact (Kd.R_reads' HO276.out).2.1); rintro e w7 ⟨rfl, hb⟩; refine ⟨_, rfl, ?_⟩; have n0_ := Aside0.mk (Kd.R_below (by (with_reducible repeat (first | apply Kd.R_alloc | apply Kd.R_drewN | apply Kd.R_drew)); exact HO276.out) hb); have n1_ := Aside0.mk (below_step (by repeat (first | (with_reducible first | exact HB.out | apply below_alloc | apply pw_below_drewN | apply below_drew1) | exact HB.out)) hb); clear HO276; clear HB; have HO276 := n0_; have HB := n1_; clear n0_ n1_; (try clear hb); (try clear hb2); (try clear hk); (try clear hi)))
  go_ret
  exact ⟨by first | rfl | (simp [errW_none, errW_some] <;> rfl) | (simp [*, errW_none, errW_some] <;> rfl), by repeat (first | (with_reducible first | exact HB.out | apply below_alloc | apply pw_below_drewN | apply below_drew1) | exact HB.out)⟩

end Go.Proofs.Ytakhldahohooiaa.Pr
namespace Go.Proofs.Ytakhldahohooiaa.Pr
open Go.RowKit Go.Proofs.YtakhldahohooiaaW.PrintWords Go.Proofs.YtakhldahohooiaaW.PrintLast Go.Proofs.YtakhldahohooiaaW.PrintMore
attribute [local go_sem] max2_int min2_int max_two min_two max_three min_three max_four min_four   -- for this text's walks alone
set_option linter.unusedVariables false
set_option linter.unusedSimpArgs false

/-! ### boltingref19_Follow: function 29 -/
mutual
def boltingref19_Follow.l0 : Nat → Int → Int → Int → ByteArray → ByteArray → List (S39) → Option (ByteArray × Bool)
  | 0, _, _, _, _, _, _ => none
  | k + 1, x4, x279000, x279001, x279002, x279003, x279004 => if x4 < (x279004.length : Int) then (boltingref19_Follow.j1 k x4 (x279001 == 0) x279000 x279001 x279002 x279003 x279004) else (boltingref19_Follow.j1 k x4 false x279000 x279001 x279002 x279003 x279004)
def boltingref19_Follow.j1 : Nat → Int → Bool → Int → Int → ByteArray → ByteArray → List (S39) → Option (ByteArray × Bool)
  | 0, _, _, _, _, _, _, _ => none
  | k + 1, x4, x16, x279000, x279001, x279002, x279003, x279004 => if x16 = true then (if 0 ≤ x4 then (if x4 < (x279004.length : Int) then ((boltingref09_Source.f k ((rd_T39 x279004 x4).f1)).bind fun bt280 => (if bt280.2 = true then ((boltingref10_Nav.f k x279002 ((rd_T39 x279004 x4).f0)).bind fun t283 => (if t283 = true then (some (bt280.1, true)) else (boltingref19_Follow.l0 k (wrap64 (x4 + 1)) x279000 x279001 x279002 x279003 x279004))) else (boltingref19_Follow.l0 k (wrap64 (x4 + 1)) x279000 x279001 x279002 x279003 x279004))) else (none)) else (none)) else (some ((⟨#[]⟩ : ByteArray), false))
end
def boltingref19_Follow.f (k : Nat) (a0_0 : Int) (a0_1 : Int) (a0_2 : ByteArray) (a0_3 : ByteArray) (l0_4 : List (S39)) : Option (ByteArray × Bool) := boltingref19_Follow.l0 k 0 a0_0 a0_1 a0_2 a0_3 l0_4
def boltingref19_Follow.T5 : Bool × List (List Nat × List Nat) := (true, [([], []), ([0], [0]), ([1], [1]), ([2, 1], [1, 2]), ([1], [1]), ([4, 1], [1, 4]), ([1], [1]), ([5, 6, 1], [1, 5, 6]), ([7, 1], [1, 7]), ([8, 1], [1, 8]), ([3, 9, 1, 1], [1, 3, 9]), ([1, 10], [1, 10])])
def boltingref19_Follow.B5 : List Nat := [0, 1, 3, 7, 3, 19, 3, 115, 243, 499, 1023, 2047]
theorem boltingref19_Follow.tab5 : rtab .any (opsOf Try.f29 5) = boltingref19_Follow.T5 := by kernel_rfl
theorem boltingref19_Follow.bits5 : waitsOk boltingref19_Follow.T5.2 boltingref19_Follow.B5 = true := by kernel_rfl
set_option maxHeartbeats 8000000 in
set_option maxRecDepth 100000 in
theorem boltingref19_Follow.calls (k : Nat) (a0_0 : Int) (a0_1 : Int) (a0_2 : ByteArray) (a0_3 : ByteArray) (A0_4 : Option Addr) (c0_4 : Nat) (l0_4 : List (S39)) (r1 : ByteArray) (r2 : Bool) (w : World) (hr0_4 : Kd.C k39 w A0_4 l0_4.length l0_4) (hc0_4 : l0_4.length ≤ c0_4) (h : boltingref19_Follow.f k a0_0 a0_1 a0_2 a0_3 l0_4 = some (r1, r2)) :
    Calls Try.prog 29 #[.agg #[.int .i64 a0_0, .int .i64 a0_1, .string a0_2, .string a0_3, .slice A0_4 l0_4.length c0_4]] w fun e w' => e = .returned (.tuple #[.string r1, .bool r2]) ∧ Below w.heap.size w w' := by
  have hu34 := Try.underlying34
  have HR0_4 := Aside0.mk hr0_4
  have HC0_4 := Aside0.mk hc0_4
  clear hr0_4 hc0_4
  have HB := Aside0.mk (Below.refl w.heap.size w)
  have H : (boltingref19_Follow.l0 k 0 a0_0 a0_1 a0_2 a0_3 l0_4) = some (r1, r2) := h
  clear h
  have H' := Aside0.mk H
  clear H
  go_enter Try.func29, Try.ntmps29
  go_wp2_with (first | ((with_reducible refine gate_dst (N := 1) rfl ?_); refine box_event ?hg (N := 1) ?hd (cs := #[.int .i64 a0_0, .int .i64 a0_1, .string a0_2, .string a0_3, .slice A0_4 l0_4.length c0_4]) (t := 34) ?hr ?_; (case hd => rfl); (case hg => rfl); (case hr => first | (go_simp; done) | (go_simp; rfl)); intro gb278 hg w2 hbox hb; have n0_ := Aside0.mk (below_step (by repeat (first | (with_reducible first | exact HB.out | apply below_alloc | apply pw_below_drewN | apply below_drew1) | exact HB.out)) hb); have n1_ := Aside0.mk (hbox); have n2_ := Aside0.mk ((by rw [hg]; exact (below_size (by repeat (first | (with_reducible first | exact HB.out | apply below_alloc | apply pw_below_drewN | apply below_drew1) | exact HB.out))) : w.heap.size ≤ gb278)); have n3_ := Aside0.mk ((by rw [hg]; exact (below_size (by repeat (first | (with_reducible first | exact HB.out | apply below_alloc | apply pw_below_drewN | apply below_drew1) | exact HB.out))) : w.heap.size ≤ gb278)); clear HB; have HB := n0_; have BK278 := n1_; have GW278 := n2_; have GE278 := n3_; clear n0_ n1_ n2_ n3_; clear hb hbox hg))
  go_loopg [4] k (fun kq v4 w' => ∃ (x4_1 : Int), v4 = .int .i64 x4_1 ∧ Aside0 (boltingref19_Follow.l0 kq x4_1 a0_0 a0_1 a0_2 a0_3 l0_4 = some (r1, r2)) ∧ Aside0 (kq ≤ k) ∧ Aside0 (w'.heap[gb278]? = some (.cells #[.int .i64 a0_0, .int .i64 a0_1, .string a0_2, .string a0_3, (.slice A0_4 l0_4.length c0_4)] 34 (0, 0))) ∧ Aside0 (Below w.heap.size w w'))
  case atStart => exact ⟨(0), (by first | rfl | (simp; done) | (simp [*]; done)), H', ⟨Nat.le_refl _⟩, ⟨by (with_reducible repeat (first | refine blk_drewN ?_ _ | refine blk_drew ?_ | refine blk_alloc ?_ _)); exact BK278.out⟩, ⟨by repeat (first | (with_reducible first | exact HB.out | apply below_alloc | apply pw_below_drewN | apply below_drew1 | refine below_set ?_ GE278.out) | exact HB.out)⟩⟩
  case round =>
    clear H'
    try clear c2
    try clear p2
    obtain ⟨x4_1, rfl, HA, HK1, BK278, HB⟩ := hrel
    cases gk with
    | zero => exact absurd HA.out (by simp [boltingref19_Follow.l0])
    | succ k1 =>
      have H := HA.out
      clear HA
      simp only [boltingref19_Follow.l0] at H
      have HC3 := Aside0.mk H
      clear H
      go_upto_region 2 with (fail)
      go_cut [16] (fun v16 wc => ∃ (kq : Nat) (x16_2 : Bool), v16 = .bool x16_2 ∧ Aside0 (boltingref19_Follow.j1 kq x4_1 x16_2 a0_0 a0_1 a0_2 a0_3 l0_4 = some (r1, r2)) ∧ Aside0 (kq ≤ k1) ∧ Aside0 (wc.heap[gb278]? = some (.cells #[.int .i64 a0_0, .int .i64 a0_1, .string a0_2, .string a0_3, (.slice A0_4 l0_4.length c0_4)] 34 (0, 0))) ∧ Aside0 (Below w.heap.size w wc))
      case first =>
        have H := HC3.out
        clear HC3
        by_cases c4 : x4_1 < (l0_4.length : Int)
        · rw [if_pos c4] at H
          have c4b0 : decide (x4_1 < (l0_4.length : Int)) = true := decide_eq_true c4
          clear c4
          (first | rw [c4b0] | (simp only [i64_w, i32_w]; rw [c4b0]) | skip)
          have H' := Aside0.mk H
          clear H
          have hcz5_0 : wr.cell? ⟨gb278, 0, none⟩ = some (.int .i64 a0_0) := (blk_cell BK278.out 0).trans rfl
          have hcz5_1 : wr.cell? ⟨gb278, 1, none⟩ = some (.int .i64 a0_1) := (blk_cell BK278.out 1).trans rfl
          have hcz5_2 : wr.cell? ⟨gb278, 2, none⟩ = some (.string a0_2) := (blk_cell BK278.out 2).trans rfl
          have hcz5_3 : wr.cell? ⟨gb278, 3, none⟩ = some (.string a0_3) := (blk_cell BK278.out 3).trans rfl
          have hcz5_4 : wr.cell? ⟨gb278, 4, none⟩ = some (.slice A0_4 l0_4.length c0_4) := (blk_cell BK278.out 4).trans rfl
          have hfz5_0 := blk_frozen BK278.out 0
          have hfz5_1 := blk_frozen BK278.out 1
          have hfz5_2 := blk_frozen BK278.out 2
          have hfz5_3 := blk_frozen BK278.out 3
          have hfz5_4 := blk_frozen BK278.out 4
          go_wp2
          go_meet
          case rel => exact ⟨_, ((a0_1 == 0)), (by first | rfl | (simp; done) | (simp [*]; done)), H', ⟨by have := HK1.out; first | omega | exact Nat.le_refl _⟩, ⟨by (with_reducible repeat (first | refine blk_drewN ?_ _ | refine blk_drew ?_ | refine blk_alloc ?_ _)); exact BK278.out⟩, ⟨by repeat (first | (with_reducible first | exact HB.out | apply below_alloc | apply pw_below_drewN | apply below_drew1 | refine below_set ?_ GE278.out) | exact HB.out)⟩⟩
        · rw [if_neg c4] at H
          have c4b0 : decide (x4_1 < (l0_4.length : Int)) = false := decide_eq_false c4
          clear c4
          (first | rw [c4b0] | (simp only [i64_w, i32_w]; rw [c4b0]) | skip)
          have H' := Aside0.mk H
          clear H
          have hcz6_0 : wr.cell? ⟨gb278, 0, none⟩ = some (.int .i64 a0_0) := (blk_cell BK278.out 0).trans rfl
          have hcz6_1 : wr.cell? ⟨gb278, 1, none⟩ = some (.int .i64 a0_1) := (blk_cell BK278.out 1).trans rfl
          have hcz6_2 : wr.cell? ⟨gb278, 2, none⟩ = some (.string a0_2) := (blk_cell BK278.out 2).trans rfl
          have hcz6_3 : wr.cell? ⟨gb278, 3, none⟩ = some (.string a0_3) := (blk_cell BK278.out 3).trans rfl
          have hcz6_4 : wr.cell? ⟨gb278, 4, none⟩ = some (.slice A0_4 l0_4.length c0_4) := (blk_cell BK278.out 4).trans rfl
          have hfz6_0 := blk_frozen BK278.out 0
          have hfz6_1 := blk_frozen BK278.out 1
          have hfz6_2 := blk_frozen BK278.out 2
          have hfz6_3 := blk_frozen BK278.out 3
          have hfz6_4 := blk_frozen BK278.out 4
          go_wp2
          go_meet
          case rel => exact ⟨_, (false), (by first | rfl | (simp; done) | (simp [*]; done)), H', ⟨by have := HK1.out; first | omega | exact Nat.le_refl _⟩, ⟨by (with_reducible repeat (first | refine blk_drewN ?_ _ | refine blk_drew ?_ | refine blk_alloc ?_ _)); exact BK278.out⟩, ⟨by repeat (first | (with_reducible first | exact HB.out | apply below_alloc | apply pw_below_drewN | apply below_drew1 | refine below_set ?_ GE278.out) | exact HB.out)⟩⟩
      case rest =>
        clear HC3
        try clear c2
        try clear p2
        try clear c4
        try clear c4b0
        try clear hcz5_0
        try clear hcz5_1
        try clear hcz5_2
        try clear hcz5_3
        try clear hcz5_4
        try clear hcz6_0
        try clear hcz6_1
        try clear hcz6_2
        try clear hcz6_3
        try clear hcz6_4
        try clear hfz5_0
        try clear hfz5_1
        try clear hfz5_2
        try clear hfz5_3
        try clear hfz5_4
        try clear hfz6_0
        try clear hfz6_1
        try clear hfz6_2
        try clear hfz6_3
        try clear hfz6_4
        try clear p2
        obtain ⟨kq, x16_2, rfl, HA, HJ2, BK278, HB⟩ := hcut
        cases kq with
        | zero => exact absurd HA.out (by simp [boltingref19_Follow.j1])
        | succ kj2 =>
          have H := HA.out
          clear HA
          simp only [boltingref19_Follow.j1] at H
          by_cases c7 : x16_2 = true
          · subst c7
            have H1 : (if 0 ≤ x4_1 then (if x4_1 < (l0_4.length : Int) then ((boltingref09_Source.f kj2 ((rd_T39 l0_4 x4_1).f1)).bind fun bt280 => (if bt280.2 = true then ((boltingref10_Nav.f kj2 a0_2 ((rd_T39 l0_4 x4_1).f0)).bind fun t283 => (if t283 = true then (some (bt280.1, true)) else (boltingref19_Follow.l0 kj2 (wrap64 (x4_1 + 1)) a0_0 a0_1 a0_2 a0_3 l0_4))) else (boltingref19_Follow.l0 kj2 (wrap64 (x4_1 + 1)) a0_0 a0_1 a0_2 a0_3 l0_4))) else (none)) else (none)) = some (r1, r2) := by rw [if_pos rfl] at H; exact H
            clear H
            have H := H1
            clear H1
            by_cases c8 : 0 ≤ x4_1
            · rw [if_pos c8] at H
              have c8b0 : decide (0 ≤ x4_1) = true := decide_eq_true c8
              clear c8
              by_cases c9 : x4_1 < (l0_4.length : Int)
              · rw [if_pos c9] at H
                have c9b0 : decide (x4_1 < (l0_4.length : Int)) = true := decide_eq_true c9
                clear c9
                replace H := Option.bind_eq_some_iff.mp H
                obtain ⟨⟨t280, t281⟩, A100, H⟩ := H
                replace H : (if t281 = true then ((boltingref10_Nav.f kj2 a0_2 ((rd_T39 l0_4 x4_1).f0)).bind fun t283 => (if t283 = true then (some (t280, true)) else (boltingref19_Follow.l0 kj2 (wrap64 (x4_1 + 1)) a0_0 a0_1 a0_2 a0_3 l0_4))) else (boltingref19_Follow.l0 kj2 (wrap64 (x4_1 + 1)) a0_0 a0_1 a0_2 a0_3 l0_4)) = some (r1, r2) := H
                have A10 := Aside0.mk A100
                clear A100
                by_cases c11 : t281 = true
                · subst c11
                  have H1 : ((boltingref10_Nav.f kj2 a0_2 ((rd_T39 l0_4 x4_1).f0)).bind fun t283 => (if t283 = true then (some (t280, true)) else (boltingref19_Follow.l0 kj2 (wrap64 (x4_1 + 1)) a0_0 a0_1 a0_2 a0_3 l0_4))) = some (r1, r2) := by rw [if_pos rfl] at H; exact H
                  clear H
                  have H := H1
                  clear H1
                  replace H := Option.bind_eq_some_iff.mp H
                  obtain ⟨t283, A120, H⟩ := H
                  replace H : (if t283 = true then (some (t280, true)) else (boltingref19_Follow.l0 kj2 (wrap64 (x4_1 + 1)) a0_0 a0_1 a0_2 a0_3 l0_4)) = some (r1, r2) := H
                  have A12 := Aside0.mk A120
                  clear A120
                  by_cases c13 : t283 = true
                  · subst c13
                    have H1 : (some (t280, true)) = some (r1, r2) := by rw [if_pos rfl] at H; exact H
                    clear H
                    have H := H1
                    clear H1
                    simp only [Option.some.injEq, Prod.mk.injEq] at H
                    obtain ⟨rfl, rfl⟩ := H
                    have hcz14_0 : wc.cell? ⟨gb278, 0, none⟩ = some (.int .i64 a0_0) := (blk_cell BK278.out 0).trans rfl
                    have hcz14_1 : wc.cell? ⟨gb278, 1, none⟩ = some (.int .i64 a0_1) := (blk_cell BK278.out 1).trans rfl
                    have hcz14_2 : wc.cell? ⟨gb278, 2, none⟩ = some (.string a0_2) := (blk_cell BK278.out 2).trans rfl
                    have hcz14_3 : wc.cell? ⟨gb278, 3, none⟩ = some (.string a0_3) := (blk_cell BK278.out 3).trans rfl
                    have hcz14_4 : wc.cell? ⟨gb278, 4, none⟩ = some (.slice A0_4 l0_4.length c0_4) := (blk_cell BK278.out 4).trans rfl
                    have hfz14_0 := blk_frozen BK278.out 0
                    have hfz14_1 := blk_frozen BK278.out 1
                    have hfz14_2 := blk_frozen BK278.out 2
                    have hfz14_3 := blk_frozen BK278.out 3
                    have hfz14_4 := blk_frozen BK278.out 4
                    have p279 : 0 ≤ (x4_1 : Int) := of_decide_eq_true (by first | (with_reducible assumption) | assumption)
                    have q279 : x4_1 < (l0_4.length : Int) := of_decide_eq_true (by first | (with_reducible assumption) | assumption)
                    obtain ⟨ad279, e279, hx279_0, hx279_1⟩ := at_T39 HR0_4.out x4_1 p279 q279
                    cases e279
                    replace hx279_0 := (HB.out.cell (World.block_lt_of_cell? w _ hx279_0)).trans hx279_0
                    replace hx279_1 := (HB.out.cell (World.block_lt_of_cell? w _ hx279_1)).trans hx279_1
                    replace p279 := eq_true p279
                    replace q279 := eq_true q279
                    try go_wp2_with (first | ((with_reducible refine gate_callee (f := 42) rfl ?_); refine goesL_ (some 26) rfl rfl Try.func42 (by kernel_rfl) rfl #[.string ((rd_T39 l0_4 x4_1).f1)] rfl (by (try simp only [List.map_toArray, List.map_cons, List.map_nil]); first | done | rfl | (simp only [List.length_drop, List.length_take]; rfl)) ?_; (with_reducible refine (boltingref09_Source.calls kj2 ((rd_T39 l0_4 x4_1).f1) t280 true _ A10.out).mono ?_); rintro e w15 ⟨rfl, hb⟩; refine ⟨_, rfl, ?_⟩; have n0_ := Aside0.mk (blk_below (g := gb278) (o := .cells #[.int .i64 a0_0, .int .i64 a0_1, .string a0_2, .string a0_3, .slice (some ad279) l0_4.length c0_4] 34 (0, 0)) (by (with_reducible repeat (first | refine blk_drewN ?_ _ | refine blk_drew ?_ | refine blk_alloc ?_ _)); exact BK278.out) hb); have n1_ := Aside0.mk (below_step (by repeat (first | (with_reducible first | exact HB.out | apply below_alloc | apply pw_below_drewN | apply below_drew1 | refine below_set ?_ GE278.out) | exact HB.out)) hb); clear BK278; clear HB; have BK278 := n0_; have HB := n1_; clear n0_ n1_; (try clear hb); (try clear hb2); (try clear hk); (try clear hi)))
                    have n0_ := Aside0.mk (blk_drew BK278.out)
                    have n1_ := Aside0.mk (below_drew1 HB.out)
                    clear BK278
                    clear HB
                    have BK278 := n0_
                    have HB := n1_
                    clear n0_ n1_
                    have p282 : 0 ≤ (x4_1 : Int) := of_decide_eq_true (by first | (with_reducible assumption) | assumption)
                    have q282 : x4_1 < (l0_4.length : Int) := of_decide_eq_true (by first | (with_reducible assumption) | assumption)
                    obtain ⟨ad282, e282, hx282_0, hx282_1⟩ := at_T39 HR0_4.out x4_1 p282 q282
                    have hw282_1 := hx282_1
                    have hw282_0 := hx282_0
                    obtain rfl : ad279 = ad282 := (by injection e282)
                    replace hx282_0 := (HB.out.cell (World.block_lt_of_cell? w _ hx282_0)).trans hx282_0
                    replace hx282_1 := (HB.out.cell (World.block_lt_of_cell? w _ hx282_1)).trans hx282_1
                    replace p282 := eq_true p282
                    replace q282 := eq_true q282
                    refine start_ (n := 12) (S := fun w' => w'.cell? ⟨gb278, 0, none⟩ = some (.int .i64 a0_0) ∧ w'.cell? ⟨gb278, 1, none⟩ = some (.int .i64 a0_1) ∧ w'.cell? ⟨gb278, 2, none⟩ = some (.string a0_2) ∧ w'.cell? ⟨gb278, 3, none⟩ = some (.string a0_3) ∧ w'.cell? ⟨gb278, 4, none⟩ = some (.slice (some ad279) l0_4.length c0_4) ∧ w'.cell? (ad279.add ((x4_1).toNat * 2)) = some (.string ((rd_T39 l0_4 x4_1).f0)) ∧ w'.cell? ⟨(ad279.add ((x4_1).toNat * 2)).block, (ad279.add ((x4_1).toNat * 2)).off + 1, none⟩ = some (.string ((rd_T39 l0_4 x4_1).f1))) (ds := []) #[false, false, false, false, false, false, false, false, false, false, false, false] (by kernel_rfl) rfl rfl ⟨(blk_cell BK278.out 0).trans rfl, (blk_cell BK278.out 1).trans rfl, (blk_cell BK278.out 2).trans rfl, (blk_cell BK278.out 3).trans rfl, (blk_cell BK278.out 4).trans rfl, ((HB.out.cell (World.block_lt_of_cell? w _ hw282_0)).trans hw282_0), ((HB.out.cell (World.block_lt_of_cell? w _ hw282_1)).trans hw282_1)⟩ (fun hHeld => ?_); refine with_tabW boltingref19_Follow.tab5 boltingref19_Follow.bits5 (fun HT_ HW_ => ?_)
                    generalize w15.drew = w16 at BK278 HB hx282_0 hx282_1 hHeld ⊢
                    refine pure_ (i := 0) (N := some 29) (v := ?_) (a' := ?_) #[true, false, false, false, false, false, false, false, false, false, false, false] rfl rfl (any_of HT_.out (by kernel_rfl)) (fun _ _ _ h => h) (Or.inl ⟨by rfl, ?_⟩) ?_ ?_
                    rotate_left
                    · intro w'
                      go_simp
                      with_reducible rfl
                    rotate_left
                    · simp only [Act.put, List.setIfInBounds_toArray, List.set_cons_zero, List.set_cons_succ, i64_w, i32_w]
                      rfl
                    refine pure_ (i := 1) (N := some 30) (v := ?_) (a' := ?_) #[true, true, false, false, false, false, false, false, false, false, false, false] rfl rfl (any_of HT_.out (by kernel_rfl)) (fun _ _ _ h => h) (Or.inl ⟨by rfl, ?_⟩) ?_ ?_
                    rotate_left
                    · intro w'
                      go_simp
                      with_reducible rfl
                    rotate_left
                    · simp only [Act.put, List.setIfInBounds_toArray, List.set_cons_zero, List.set_cons_succ, i64_w, i32_w]
                      rfl
                    refine pure_ (i := 2) (N := some 31) (v := ?_) (a' := ?_) #[true, true, true, false, false, false, false, false, false, false, false, false] rfl rfl (any_of HT_.out (by kernel_rfl)) (fun _ _ _ h => h) (Or.inl ⟨by rfl, ?_⟩) ?_ ?_
                    rotate_left
                    · intro w'
                      go_simp
                      with_reducible rfl
                    rotate_left
                    · simp only [Act.put, List.setIfInBounds_toArray, List.set_cons_zero, List.set_cons_succ, i64_w, i32_w]
                      rfl
                    refine pure_ (i := 4) (N := some 33) (v := ?_) (a' := ?_) #[true, true, true, false, true, false, false, false, false, false, false, false] rfl rfl (any_of HT_.out (by kernel_rfl)) (fun _ _ _ h => h) (Or.inl ⟨by rfl, ?_⟩) ?_ ?_
                    rotate_left
                    · intro w'
                      go_simp
                      with_reducible rfl
                    rotate_left
                    · simp only [Act.put, List.setIfInBounds_toArray, List.set_cons_zero, List.set_cons_succ, i64_w, i32_w]
                      rfl
                    refine pure_ (i := 6) (N := some 35) (v := ?_) (a' := ?_) #[true, true, true, false, true, false, true, false, false, false, false, false] rfl rfl (any_of HT_.out (by kernel_rfl)) (fun _ _ _ h => h) (Or.inl ⟨by rfl, ?_⟩) ?_ ?_
                    rotate_left
                    · intro w'
                      go_simp
                      with_reducible rfl
                    rotate_left
                    · simp only [Act.put, List.setIfInBounds_toArray, List.set_cons_zero, List.set_cons_succ, i64_w, i32_w]
                      rfl
                    refine take_ (i := 3) (N := some 32) (v := ?_) (a' := ?_) #[true, true, true, true, true, false, true, false, false, false, false, false] rfl rfl (take_ofW HT_.out HW_.out (by kernel_rfl)) (fun _ _ _ h => h) (Or.inl ⟨by rfl, ?_⟩) hHeld ?_ ?_
                    rotate_left
                    · rintro w' ⟨s0, s1, s2, s3, s4, s5, s6⟩
                      go_simp
                      with_reducible rfl
                    rotate_left
                    · simp only [Act.put, List.setIfInBounds_toArray, List.set_cons_zero, List.set_cons_succ, i64_w, i32_w]
                      rfl
                    refine take_ (i := 5) (N := some 34) (v := ?_) (a' := ?_) #[true, true, true, true, true, true, true, false, false, false, false, false] rfl rfl (take_ofW HT_.out HW_.out (by kernel_rfl)) (fun _ _ _ h => h) (Or.inl ⟨by rfl, ?_⟩) hHeld ?_ ?_
                    rotate_left
                    · rintro w' ⟨s0, s1, s2, s3, s4, s5, s6⟩
                      go_simp
                      with_reducible rfl
                    rotate_left
                    · simp only [Act.put, List.setIfInBounds_toArray, List.set_cons_zero, List.set_cons_succ, i64_w, i32_w]
                      rfl
                    refine pure_ (i := 7) (N := some 36) (v := ?_) (a' := ?_) #[true, true, true, true, true, true, true, true, false, false, false, false] rfl rfl (any_of HT_.out (by kernel_rfl)) (fun _ _ _ h => h) (Or.inl ⟨by rfl, ?_⟩) ?_ ?_
                    rotate_left
                    · intro w'
                      go_simp
                      with_reducible rfl
                    rotate_left
                    · simp only [Act.put, List.setIfInBounds_toArray, List.set_cons_zero, List.set_cons_succ, i64_w, i32_w]
                      rfl
                    refine pure_ (i := 8) (N := some 37) (v := ?_) (a' := ?_) #[true, true, true, true, true, true, true, true, true, false, false, false] rfl rfl (any_of HT_.out (by kernel_rfl)) (fun _ _ _ h => h) (Or.inl ⟨by rfl, ?_⟩) ?_ ?_
                    rotate_left
                    · intro w'
                      go_simp
                      with_reducible rfl
                    rotate_left
                    · simp only [Act.put, List.setIfInBounds_toArray, List.set_cons_zero, List.set_cons_succ, i64_w, i32_w]
                      rfl
                    refine take_ (i := 9) (N := some 38) (v := ?_) (a' := ?_) #[true, true, true, true, true, true, true, true, true, true, false, false] rfl rfl (take_ofW HT_.out HW_.out (by kernel_rfl)) (fun _ _ _ h => h) (Or.inl ⟨by rfl, ?_⟩) hHeld ?_ ?_
                    rotate_left
                    · rintro w' ⟨s0, s1, s2, s3, s4, s5, s6⟩
                      go_simp
                      with_reducible rfl
                    rotate_left
                    · simp only [Act.put, List.setIfInBounds_toArray, List.set_cons_zero, List.set_cons_succ, i64_w, i32_w]
                      rfl
                    refine one_ (i := 10) (N := some 39) #[true, true, true, true, true, true, true, true, true, true, true, false] rfl rfl (one_of HT_.out (by kernel_rfl)) (by decide) (fun K hK => ?_)
                    refine goes_ Try.func43 (by kernel_rfl) rfl #[.string a0_2, .string ((rd_T39 l0_4 x4_1).f0)] (by rfl) rfl rfl (by (try simp only [List.map_toArray, List.map_cons, List.map_nil]); first | done | rfl | (simp only [List.length_drop, List.length_take]; rfl)) ?_
                    with_reducible refine (boltingref10_Nav.calls kj2 a0_2 ((rd_T39 l0_4 x4_1).f0) true _ A12.out).mono ?_
                    rintro e w17 ⟨rfl, hb⟩
                    refine ⟨_, rfl, ?_⟩
                    have n0_ := Aside0.mk (blk_below (g := gb278) (o := .cells #[.int .i64 a0_0, .int .i64 a0_1, .string a0_2, .string a0_3, .slice (some ad279) l0_4.length c0_4] 34 (0, 0)) (by (with_reducible repeat (first | refine blk_drewN ?_ _ | refine blk_drew ?_ | refine blk_alloc ?_ _)); exact BK278.out) hb)
                    have n1_ := Aside0.mk (below_step (by repeat (first | (with_reducible first | exact HB.out | apply below_alloc | apply pw_below_drewN | apply below_drew1 | refine below_set ?_ GE278.out) | exact HB.out)) hb)
                    clear BK278
                    clear HB
                    have BK278 := n0_
                    have HB := n1_
                    clear n0_ n1_
                    (try clear hb)
                    (try clear hb2)
                    (try clear hk)
                    (try clear hi)
                    refine hK.out _ _ ⟨(blk_cell BK278.out 0).trans rfl, (blk_cell BK278.out 1).trans rfl, (blk_cell BK278.out 2).trans rfl, (blk_cell BK278.out 3).trans rfl, (blk_cell BK278.out 4).trans rfl, ((HB.out.cell (World.block_lt_of_cell? w _ hw282_0)).trans hw282_0), ((HB.out.cell (World.block_lt_of_cell? w _ hw282_1)).trans hw282_1)⟩ (fun hHeld => ?_)
                    clear hK K
                    refine norm_ (a' := ?_) ?_ ?_
                    rotate_left
                    · show Act.put _ (some 39) _ = _
                      simp only [Act.put, List.setIfInBounds_toArray, List.set_cons_zero, List.set_cons_succ, i64_w, i32_w]
                      rfl
                    refine pure_ (i := 11) (N := some 40) (v := ?_) (a' := ?_) #[true, true, true, true, true, true, true, true, true, true, true, true] rfl rfl (any_of HT_.out (by kernel_rfl)) (fun _ _ _ h => h) (Or.inl ⟨by rfl, ?_⟩) ?_ ?_
                    rotate_left
                    · intro w'
                      go_simp
                      with_reducible rfl
                    rotate_left
                    · simp only [Act.put, List.setIfInBounds_toArray, List.set_cons_zero, List.set_cons_succ, i64_w, i32_w]
                      rfl
                    refine done_ (done_of HT_.out (by kernel_rfl)) ?_
                    try go_wp2
                    go_ret2
                    exact ⟨by first | rfl | (simp [errW_none, errW_some] <;> rfl) | (simp [*, errW_none, errW_some] <;> rfl), by repeat (first | (with_reducible first | exact HB.out | apply below_alloc | apply pw_below_drewN | apply below_drew1 | refine below_set ?_ GE278.out) | exact HB.out)⟩
                  · replace c13 := Bool.eq_false_iff.mpr c13
                    subst c13
                    have H1 : (boltingref19_Follow.l0 kj2 (wrap64 (x4_1 + 1)) a0_0 a0_1 a0_2 a0_3 l0_4) = some (r1, r2) := by rw [if_neg (show ¬ (false = true) by decide)] at H; exact H
                    clear H
                    have H := H1
                    clear H1
                    have H' := Aside0.mk H
                    clear H
                    have hcz18_0 : wc.cell? ⟨gb278, 0, none⟩ = some (.int .i64 a0_0) := (blk_cell BK278.out 0).trans rfl
                    have hcz18_1 : wc.cell? ⟨gb278, 1, none⟩ = some (.int .i64 a0_1) := (blk_cell BK278.out 1).trans rfl
                    have hcz18_2 : wc.cell? ⟨gb278, 2, none⟩ = some (.string a0_2) := (blk_cell BK278.out 2).trans rfl
                    have hcz18_3 : wc.cell? ⟨gb278, 3, none⟩ = some (.string a0_3) := (blk_cell BK278.out 3).trans rfl
                    have hcz18_4 : wc.cell? ⟨gb278, 4, none⟩ = some (.slice A0_4 l0_4.length c0_4) := (blk_cell BK278.out 4).trans rfl
                    have hfz18_0 := blk_frozen BK278.out 0
                    have hfz18_1 := blk_frozen BK278.out 1
                    have hfz18_2 := blk_frozen BK278.out 2
                    have hfz18_3 := blk_frozen BK278.out 3
                    have hfz18_4 := blk_frozen BK278.out 4
                    have p279 : 0 ≤ (x4_1 : Int) := of_decide_eq_true (by first | (with_reducible assumption) | assumption)
                    have q279 : x4_1 < (l0_4.length : Int) := of_decide_eq_true (by first | (with_reducible assumption) | assumption)
                    obtain ⟨ad279, e279, hx279_0, hx279_1⟩ := at_T39 HR0_4.out x4_1 p279 q279
                    cases e279
                    replace hx279_0 := (HB.out.cell (World.block_lt_of_cell? w _ hx279_0)).trans hx279_0
                    replace hx279_1 := (HB.out.cell (World.block_lt_of_cell? w _ hx279_1)).trans hx279_1
                    replace p279 := eq_true p279
                    replace q279 := eq_true q279
                    try go_wp2_with (first | ((with_reducible refine gate_callee (f := 42) rfl ?_); refine goesL_ (some 26) rfl rfl Try.func42 (by kernel_rfl) rfl #[.string ((rd_T39 l0_4 x4_1).f1)] rfl (by (try simp only [List.map_toArray, List.map_cons, List.map_nil]); first | done | rfl | (simp only [List.length_drop, List.length_take]; rfl)) ?_; (with_reducible refine (boltingref09_Source.calls kj2 ((rd_T39 l0_4 x4_1).f1) t280 true _ A10.out).mono ?_); rintro e w19 ⟨rfl, hb⟩; refine ⟨_, rfl, ?_⟩; have n0_ := Aside0.mk (blk_below (g := gb278) (o := .cells #[.int .i64 a0_0, .int .i64 a0_1, .string a0_2, .string a0_3, .slice (some ad279) l0_4.length c0_4] 34 (0, 0)) (by (with_reducible repeat (first | refine blk_drewN ?_ _ | refine blk_drew ?_ | refine blk_alloc ?_ _)); exact BK278.out) hb); have n1_ := Aside0.mk (below_step (by repeat (first | (with_reducible first | exact HB.out | apply below_alloc | apply pw_below_drewN | apply below_drew1 | refine below_set ?_ GE278.out) | exact HB.out)) hb); clear BK278; clear HB; have BK278 := n0_; have HB := n1_; clear n0_ n1_; (try clear hb); (try clear hb2); (try clear hk); (try clear hi)))
                    have n0_ := Aside0.mk (blk_drew BK278.out)
                    have n1_ := Aside0.mk (below_drew1 HB.out)
                    clear BK278
                    clear HB
                    have BK278 := n0_
                    have HB := n1_
                    clear n0_ n1_
                    have p282 : 0 ≤ (x4_1 : Int) := of_decide_eq_true (by first | (with_reducible assumption) | assumption)
                    have q282 : x4_1 < (l0_4.length : Int) := of_decide_eq_true (by first | (with_reducible assumption) | assumption)
                    obtain ⟨ad282, e282, hx282_0, hx282_1⟩ := at_T39 HR0_4.out x4_1 p282 q282
                    have hw282_1 := hx282_1
                    have hw282_0 := hx282_0
                    obtain rfl : ad279 = ad282 := (by injection e282)
                    replace hx282_0 := (HB.out.cell (World.block_lt_of_cell? w _ hx282_0)).trans hx282_0
                    replace hx282_1 := (HB.out.cell (World.block_lt_of_cell? w _ hx282_1)).trans hx282_1
                    replace p282 := eq_true p282
                    replace q282 := eq_true q282
                    refine start_ (n := 12) (S := fun w' => w'.cell? ⟨gb278, 0, none⟩ = some (.int .i64 a0_0) ∧ w'.cell? ⟨gb278, 1, none⟩ = some (.int .i64 a0_1) ∧ w'.cell? ⟨gb278, 2, none⟩ = some (.string a0_2) ∧ w'.cell? ⟨gb278, 3, none⟩ = some (.string a0_3) ∧ w'.cell? ⟨gb278, 4, none⟩ = some (.slice (some ad279) l0_4.length c0_4) ∧ w'.cell? (ad279.add ((x4_1).toNat * 2)) = some (.string ((rd_T39 l0_4 x4_1).f0)) ∧ w'.cell? ⟨(ad279.add ((x4_1).toNat * 2)).block, (ad279.add ((x4_1).toNat * 2)).off + 1, none⟩ = some (.string ((rd_T39 l0_4 x4_1).f1))) (ds := []) #[false, false, false, false, false, false, false, false, false, false, false, false] (by kernel_rfl) rfl rfl ⟨(blk_cell BK278.out 0).trans rfl, (blk_cell BK278.out 1).trans rfl, (blk_cell BK278.out 2).trans rfl, (blk_cell BK278.out 3).trans rfl, (blk_cell BK278.out 4).trans rfl, ((HB.out.cell (World.block_lt_of_cell? w _ hw282_0)).trans hw282_0), ((HB.out.cell (World.block_lt_of_cell? w _ hw282_1)).trans hw282_1)⟩ (fun hHeld => ?_); refine with_tabW boltingref19_Follow.tab5 boltingref19_Follow.bits5 (fun HT_ HW_ => ?_)
                    generalize w19.drew = w20 at BK278 HB hx282_0 hx282_1 hHeld ⊢
                    refine pure_ (i := 0) (N := some 29) (v := ?_) (a' := ?_) #[true, false, false, false, false, false, false, false, false, false, false, false] rfl rfl (any_of HT_.out (by kernel_rfl)) (fun _ _ _ h => h) (Or.inl ⟨by rfl, ?_⟩) ?_ ?_
                    rotate_left
                    · intro w'
                      go_simp
                      with_reducible rfl
                    rotate_left
                    · simp only [Act.put, List.setIfInBounds_toArray, List.set_cons_zero, List.set_cons_succ, i64_w, i32_w]
                      rfl
                    refine pure_ (i := 1) (N := some 30) (v := ?_) (a' := ?_) #[true, true, false, false, false, false, false, false, false, false, false, false] rfl rfl (any_of HT_.out (by kernel_rfl)) (fun _ _ _ h => h) (Or.inl ⟨by rfl, ?_⟩) ?_ ?_
                    rotate_left
                    · intro w'
                      go_simp
                      with_reducible rfl
                    rotate_left
                    · simp only [Act.put, List.setIfInBounds_toArray, List.set_cons_zero, List.set_cons_succ, i64_w, i32_w]
                      rfl
                    refine pure_ (i := 2) (N := some 31) (v := ?_) (a' := ?_) #[true, true, true, false, false, false, false, false, false, false, false, false] rfl rfl (any_of HT_.out (by kernel_rfl)) (fun _ _ _ h => h) (Or.inl ⟨by rfl, ?_⟩) ?_ ?_
                    rotate_left
                    · intro w'
                      go_simp
                      with_reducible rfl
                    rotate_left
                    · simp only [Act.put, List.setIfInBounds_toArray, List.set_cons_zero, List.set_cons_succ, i64_w, i32_w]
                      rfl
                    refine pure_ (i := 4) (N := some 33) (v := ?_) (a' := ?_) #[true, true, true, false, true, false, false, false, false, false, false, false] rfl rfl (any_of HT_.out (by kernel_rfl)) (fun _ _ _ h => h) (Or.inl ⟨by rfl, ?_⟩) ?_ ?_
                    rotate_left
                    · intro w'
                      go_simp
                      with_reducible rfl
                    rotate_left
                    · simp only [Act.put, List.setIfInBounds_toArray, List.set_cons_zero, List.set_cons_succ, i64_w, i32_w]
                      rfl
                    refine pure_ (i := 6) (N := some 35) (v := ?_) (a' := ?_) #[true, true, true, false, true, false, true, false, false, false, false, false] rfl rfl (any_of HT_.out (by kernel_rfl)) (fun _ _ _ h => h) (Or.inl ⟨by rfl, ?_⟩) ?_ ?_
                    rotate_left
                    · intro w'
                      go_simp
                      with_reducible rfl
                    rotate_left
                    · simp only [Act.put, List.setIfInBounds_toArray, List.set_cons_zero, List.set_cons_succ, i64_w, i32_w]
                      rfl
                    refine take_ (i := 3) (N := some 32) (v := ?_) (a' := ?_) #[true, true, true, true, true, false, true, false, false, false, false, false] rfl rfl (take_ofW HT_.out HW_.out (by kernel_rfl)) (fun _ _ _ h => h) (Or.inl ⟨by rfl, ?_⟩) hHeld ?_ ?_
                    rotate_left
                    · rintro w' ⟨s0, s1, s2, s3, s4, s5, s6⟩
                      go_simp
                      with_reducible rfl
                    rotate_left
                    · simp only [Act.put, List.setIfInBounds_toArray, List.set_cons_zero, List.set_cons_succ, i64_w, i32_w]
                      rfl
                    refine take_ (i := 5) (N := some 34) (v := ?_) (a' := ?_) #[true, true, true, true, true, true, true, false, false, false, false, false] rfl rfl (take_ofW HT_.out HW_.out (by kernel_rfl)) (fun _ _ _ h => h) (Or.inl ⟨by rfl, ?_⟩) hHeld ?_ ?_
                    rotate_left
                    · rintro w' ⟨s0, s1, s2, s3, s4, s5, s6⟩
                      go_simp
                      with_reducible rfl
                    rotate_left
                    · simp only [Act.put, List.setIfInBounds_toArray, List.set_cons_zero, List.set_cons_succ, i64_w, i32_w]
                      rfl
                    refine pure_ (i := 7) (N := some 36) (v := ?_) (a' := ?_) #[true, true, true, true, true, true, true, true, false, false, false, false] rfl rfl (any_of HT_.out (by kernel_rfl)) (fun _ _ _ h => h) (Or.inl ⟨by rfl, ?_⟩) ?_ ?_
                    rotate_left
                    · intro w'
                      go_simp
                      with_reducible rfl
                    rotate_left
                    · simp only [Act.put, List.setIfInBounds_toArray, List.set_cons_zero, List.set_cons_succ, i64_w, i32_w]
                      rfl
                    refine pure_ (i := 8) (N := some 37) (v := ?_) (a' := ?_) #[true, true, true, true, true, true, true, true, true, false, false, false] rfl rfl (any_of HT_.out (by kernel_rfl)) (fun _ _ _ h => h) (Or.inl ⟨by rfl, ?_⟩) ?_ ?_
                    rotate_left
                    · intro w'
                      go_simp
                      with_reducible rfl
                    rotate_left
                    · simp only [Act.put, List.setIfInBounds_toArray, List.set_cons_zero, List.set_cons_succ, i64_w, i32_w]
                      rfl
                    refine take_ (i := 9) (N := some 38) (v := ?_) (a' := ?_) #[true, true, true, true, true, true, true, true, true, true, false, false] rfl rfl (take_ofW HT_.out HW_.out (by kernel_rfl)) (fun _ _ _ h => h) (Or.inl ⟨by rfl, ?_⟩) hHeld ?_ ?_
                    rotate_left
                    · rintro w' ⟨s0, s1, s2, s3, s4, s5, s6⟩
                      go_simp
                      with_reducible rfl
                    rotate_left
                    · simp only [Act.put, List.setIfInBounds_toArray, List.set_cons_zero, List.set_cons_succ, i64_w, i32_w]
                      rfl
                    refine one_ (i := 10) (N := some 39) #[true, true, true, true, true, true, true, true, true, true, true, false] rfl rfl (one_of HT_.out (by kernel_rfl)) (by decide) (fun K hK => ?_)
                    refine goes_ Try.func43 (by kernel_rfl) rfl #[.string a0_2, .string ((rd_T39 l0_4 x4_1).f0)] (by rfl) rfl rfl (by (try simp only [List.map_toArray, List.map_cons, List.map_nil]); first | done | rfl | (simp only [List.length_drop, List.length_take]; rfl)) ?_
                    with_reducible refine (boltingref10_Nav.calls kj2 a0_2 ((rd_T39 l0_4 x4_1).f0) false _ A12.out).mono ?_
                    rintro e w21 ⟨rfl, hb⟩
                    refine ⟨_, rfl, ?_⟩
                    have n0_ := Aside0.mk (blk_below (g := gb278) (o := .cells #[.int .i64 a0_0, .int .i64 a0_1, .string a0_2, .string a0_3, .slice (some ad279) l0_4.length c0_4] 34 (0, 0)) (by (with_reducible repeat (first | refine blk_drewN ?_ _ | refine blk_drew ?_ | refine blk_alloc ?_ _)); exact BK278.out) hb)
                    have n1_ := Aside0.mk (below_step (by repeat (first | (with_reducible first | exact HB.out | apply below_alloc | apply pw_below_drewN | apply below_drew1 | refine below_set ?_ GE278.out) | exact HB.out)) hb)
                    clear BK278
                    clear HB
                    have BK278 := n0_
                    have HB := n1_
                    clear n0_ n1_
                    (try clear hb)
                    (try clear hb2)
                    (try clear hk)
                    (try clear hi)
                    refine hK.out _ _ ⟨(blk_cell BK278.out 0).trans rfl, (blk_cell BK278.out 1).trans rfl, (blk_cell BK278.out 2).trans rfl, (blk_cell BK278.out 3).trans rfl, (blk_cell BK278.out 4).trans rfl, ((HB.out.cell (World.block_lt_of_cell? w _ hw282_0)).trans hw282_0), ((HB.out.cell (World.block_lt_of_cell? w _ hw282_1)).trans hw282_1)⟩ (fun hHeld => ?_)
                    clear hK K
                    refine norm_ (a' := ?_) ?_ ?_
                    rotate_left
                    · show Act.put _ (some 39) _ = _
                      simp only [Act.put, List.setIfInBounds_toArray, List.set_cons_zero, List.set_cons_succ, i64_w, i32_w]
                      rfl
                    refine pure_ (i := 11) (N := some 40) (v := ?_) (a' := ?_) #[true, true, true, true, true, true, true, true, true, true, true, true] rfl rfl (any_of HT_.out (by kernel_rfl)) (fun _ _ _ h => h) (Or.inl ⟨by rfl, ?_⟩) ?_ ?_
                    rotate_left
                    · intro w'
                      go_simp
                      with_reducible rfl
                    rotate_left
                    · simp only [Act.put, List.setIfInBounds_toArray, List.set_cons_zero, List.set_cons_succ, i64_w, i32_w]
                      rfl
                    refine done_ (done_of HT_.out (by kernel_rfl)) ?_
                    try go_wp2
                    go_roundg kj2
                    case measure => have := HK1.out; have := HJ2.out; omega
                    case rel => exact ⟨(wrap64 (x4_1 + 1)), (by first | rfl | (simp; done) | (simp [*]; done)), H', ⟨by have := HK1.out; have := HJ2.out; omega⟩, ⟨by (with_reducible repeat (first | refine blk_drewN ?_ _ | refine blk_drew ?_ | refine blk_alloc ?_ _)); exact BK278.out⟩, ⟨by repeat (first | (with_reducible first | exact HB.out | apply below_alloc | apply pw_below_drewN | apply below_drew1 | refine below_set ?_ GE278.out) | exact HB.out)⟩⟩
                · replace c11 := Bool.eq_false_iff.mpr c11
                  subst c11
                  have H1 : (boltingref19_Follow.l0 kj2 (wrap64 (x4_1 + 1)) a0_0 a0_1 a0_2 a0_3 l0_4) = some (r1, r2) := by rw [if_neg (show ¬ (false = true) by decide)] at H; exact H
                  clear H
                  have H := H1
                  clear H1
                  have H' := Aside0.mk H
                  clear H
                  have hcz22_0 : wc.cell? ⟨gb278, 0, none⟩ = some (.int .i64 a0_0) := (blk_cell BK278.out 0).trans rfl
                  have hcz22_1 : wc.cell? ⟨gb278, 1, none⟩ = some (.int .i64 a0_1) := (blk_cell BK278.out 1).trans rfl
                  have hcz22_2 : wc.cell? ⟨gb278, 2, none⟩ = some (.string a0_2) := (blk_cell BK278.out 2).trans rfl
                  have hcz22_3 : wc.cell? ⟨gb278, 3, none⟩ = some (.string a0_3) := (blk_cell BK278.out 3).trans rfl
                  have hcz22_4 : wc.cell? ⟨gb278, 4, none⟩ = some (.slice A0_4 l0_4.length c0_4) := (blk_cell BK278.out 4).trans rfl
                  have hfz22_0 := blk_frozen BK278.out 0
                  have hfz22_1 := blk_frozen BK278.out 1
                  have hfz22_2 := blk_frozen BK278.out 2
                  have hfz22_3 := blk_frozen BK278.out 3
                  have hfz22_4 := blk_frozen BK278.out 4
                  have p279 : 0 ≤ (x4_1 : Int) := of_decide_eq_true (by first | (with_reducible assumption) | assumption)
                  have q279 : x4_1 < (l0_4.length : Int) := of_decide_eq_true (by first | (with_reducible assumption) | assumption)
                  obtain ⟨ad279, e279, hx279_0, hx279_1⟩ := at_T39 HR0_4.out x4_1 p279 q279
                  cases e279
                  replace hx279_0 := (HB.out.cell (World.block_lt_of_cell? w _ hx279_0)).trans hx279_0
                  replace hx279_1 := (HB.out.cell (World.block_lt_of_cell? w _ hx279_1)).trans hx279_1
                  replace p279 := eq_true p279
                  replace q279 := eq_true q279
                  try go_wp2_with (first | ((with_reducible refine gate_callee (f := 42) rfl ?_); refine goesL_ (some 26) rfl rfl Try.func42 (by kernel_rfl) rfl #[.string ((rd_T39 l0_4 x4_1).f1)] rfl (by (try simp only [List.map_toArray, List.map_cons, List.map_nil]); first | done | rfl | (simp only [List.length_drop, List.length_take]; rfl)) ?_; (with_reducible refine (boltingref09_Source.calls kj2 ((rd_T39 l0_4 x4_1).f1) t280 false _ A10.out).mono ?_); rintro e w23 ⟨rfl, hb⟩; refine ⟨_, rfl, ?_⟩; have n0_ := Aside0.mk (blk_below (g := gb278) (o := .cells #[.int .i64 a0_0, .int .i64 a0_1, .string a0_2, .string a0_3, .slice (some ad279) l0_4.length c0_4] 34 (0, 0)) (by (with_reducible repeat (first | refine blk_drewN ?_ _ | refine blk_drew ?_ | refine blk_alloc ?_ _)); exact BK278.out) hb); have n1_ := Aside0.mk (below_step (by repeat (first | (with_reducible first | exact HB.out | apply below_alloc | apply pw_below_drewN | apply below_drew1 | refine below_set ?_ GE278.out) | exact HB.out)) hb); clear BK278; clear HB; have BK278 := n0_; have HB := n1_; clear n0_ n1_; (try clear hb); (try clear hb2); (try clear hk); (try clear hi)))
                  have n0_ := Aside0.mk (blk_drew BK278.out)
                  have n1_ := Aside0.mk (below_drew1 HB.out)
                  clear BK278
                  clear HB
                  have BK278 := n0_
                  have HB := n1_
                  clear n0_ n1_
                  refine start_ (n := 12) (S := fun w' => True) (ds := []) #[false, false, false, false, false, false, false, false, false, false, false, false] (by kernel_rfl) rfl rfl trivial (fun hHeld => ?_); refine with_tabW boltingref19_Follow.tab5 boltingref19_Follow.bits5 (fun HT_ HW_ => ?_)
                  generalize w23.drew = w24 at BK278 HB hHeld ⊢
                  refine pure_ (i := 0) (N := some 29) (v := ?_) (a' := ?_) #[true, false, false, false, false, false, false, false, false, false, false, false] rfl rfl (any_of HT_.out (by kernel_rfl)) (fun _ _ _ h => h) (Or.inl ⟨by rfl, ?_⟩) ?_ ?_
                  rotate_left
                  · intro w'
                    go_simp
                    with_reducible rfl
                  rotate_left
                  · simp only [Act.put, List.setIfInBounds_toArray, List.set_cons_zero, List.set_cons_succ, i64_w, i32_w]
                    rfl
                  refine pure_ (i := 1) (N := some 30) (v := ?_) (a' := ?_) #[true, true, false, false, false, false, false, false, false, false, false, false] rfl rfl (any_of HT_.out (by kernel_rfl)) (fun _ _ _ h => h) (Or.inl ⟨by rfl, ?_⟩) ?_ ?_
                  rotate_left
                  · intro w'
                    go_simp
                    with_reducible rfl
                  rotate_left
                  · simp only [Act.put, List.setIfInBounds_toArray, List.set_cons_zero, List.set_cons_succ, i64_w, i32_w]
                    rfl
                  refine pure_ (i := 2) (N := some 31) (v := undef) (a' := ?_) #[true, true, true, false, false, false, false, false, false, false, false, false] rfl rfl (any_of HT_.out (by kernel_rfl)) (fun _ _ _ h => h) (Or.inr ⟨by rfl, rfl⟩) ?_ ?_
                  rotate_left
                  · simp only [Act.put, List.setIfInBounds_toArray, List.set_cons_zero, List.set_cons_succ, i64_w, i32_w]
                    rfl
                  refine pure_ (i := 3) (N := some 32) (v := undef) (a' := ?_) #[true, true, true, true, false, false, false, false, false, false, false, false] rfl rfl (any_of HT_.out (by kernel_rfl)) (fun _ _ _ h => h) (Or.inr ⟨by rfl, rfl⟩) ?_ ?_
                  rotate_left
                  · simp only [Act.put, List.setIfInBounds_toArray, List.set_cons_zero, List.set_cons_succ, i64_w, i32_w]
                    rfl
                  refine pure_ (i := 4) (N := some 33) (v := undef) (a' := ?_) #[true, true, true, true, true, false, false, false, false, false, false, false] rfl rfl (any_of HT_.out (by kernel_rfl)) (fun _ _ _ h => h) (Or.inr ⟨by rfl, rfl⟩) ?_ ?_
                  rotate_left
                  · simp only [Act.put, List.setIfInBounds_toArray, List.set_cons_zero, List.set_cons_succ, i64_w, i32_w]
                    rfl
                  refine pure_ (i := 5) (N := some 34) (v := undef) (a' := ?_) #[true, true, true, true, true, true, false, false, false, false, false, false] rfl rfl (any_of HT_.out (by kernel_rfl)) (fun _ _ _ h => h) (Or.inr ⟨by rfl, rfl⟩) ?_ ?_
                  rotate_left
                  · simp only [Act.put, List.setIfInBounds_toArray, List.set_cons_zero, List.set_cons_succ, i64_w, i32_w]
                    rfl
                  refine pure_ (i := 6) (N := some 35) (v := undef) (a' := ?_) #[true, true, true, true, true, true, true, false, false, false, false, false] rfl rfl (any_of HT_.out (by kernel_rfl)) (fun _ _ _ h => h) (Or.inr ⟨by rfl, rfl⟩) ?_ ?_
                  rotate_left
                  · simp only [Act.put, List.setIfInBounds_toArray, List.set_cons_zero, List.set_cons_succ, i64_w, i32_w]
                    rfl
                  refine pure_ (i := 7) (N := some 36) (v := undef) (a' := ?_) #[true, true, true, true, true, true, true, true, false, false, false, false] rfl rfl (any_of HT_.out (by kernel_rfl)) (fun _ _ _ h => h) (Or.inr ⟨by rfl, rfl⟩) ?_ ?_
                  rotate_left
                  · simp only [Act.put, List.setIfInBounds_toArray, List.set_cons_zero, List.set_cons_succ, i64_w, i32_w]
                    rfl
                  refine pure_ (i := 8) (N := some 37) (v := undef) (a' := ?_) #[true, true, true, true, true, true, true, true, true, false, false, false] rfl rfl (any_of HT_.out (by kernel_rfl)) (fun _ _ _ h => h) (Or.inr ⟨by rfl, rfl⟩) ?_ ?_
                  rotate_left
                  · simp only [Act.put, List.setIfInBounds_toArray, List.set_cons_zero, List.set_cons_succ, i64_w, i32_w]
                    rfl
                  refine pure_ (i := 9) (N := some 38) (v := undef) (a' := ?_) #[true, true, true, true, true, true, true, true, true, true, false, false] rfl rfl (any_of HT_.out (by kernel_rfl)) (fun _ _ _ h => h) (Or.inr ⟨by rfl, rfl⟩) ?_ ?_
                  rotate_left
                  · simp only [Act.put, List.setIfInBounds_toArray, List.set_cons_zero, List.set_cons_succ, i64_w, i32_w]
                    rfl
                  refine pure_ (i := 10) (N := some 39) (v := undef) (a' := ?_) #[true, true, true, true, true, true, true, true, true, true, true, false] rfl rfl (any_of HT_.out (by kernel_rfl)) (fun _ _ _ h => h) (Or.inr ⟨by rfl, rfl⟩) ?_ ?_
                  rotate_left
                  · simp only [Act.put, List.setIfInBounds_toArray, List.set_cons_zero, List.set_cons_succ, i64_w, i32_w]
                    rfl
                  refine pure_ (i := 11) (N := some 40) (v := ?_) (a' := ?_) #[true, true, true, true, true, true, true, true, true, true, true, true] rfl rfl (any_of HT_.out (by kernel_rfl)) (fun _ _ _ h => h) (Or.inl ⟨by rfl, ?_⟩) ?_ ?_
                  rotate_left
                  · intro w'
                    go_simp
                    with_reducible rfl
                  rotate_left
                  · simp only [Act.put, List.setIfInBounds_toArray, List.set_cons_zero, List.set_cons_succ, i64_w, i32_w]
                    rfl
                  refine done_ (done_of HT_.out (by kernel_rfl)) ?_
                  try go_wp2
                  go_roundg kj2
                  case measure => have := HK1.out; have := HJ2.out; omega
                  case rel => exact ⟨(wrap64 (x4_1 + 1)), (by first | rfl | (simp; done) | (simp [*]; done)), H', ⟨by have := HK1.out; have := HJ2.out; omega⟩, ⟨by (with_reducible repeat (first | refine blk_drewN ?_ _ | refine blk_drew ?_ | refine blk_alloc ?_ _)); exact BK278.out⟩, ⟨by repeat (first | (with_reducible first | exact HB.out | apply below_alloc | apply pw_below_drewN | apply below_drew1 | refine below_set ?_ GE278.out) | exact HB.out)⟩⟩
              · rw [if_neg c9] at H
                exact absurd H (by simp)
            · rw [if_neg c8] at H
              exact absurd H (by simp)
          · replace c7 := Bool.eq_false_iff.mpr c7
            subst c7
            have H1 : (some ((⟨#[]⟩ : ByteArray), false)) = some (r1, r2) := by rw [if_neg (show ¬ (false = true) by decide)] at H; exact H
            clear H
            have H := H1
            clear H1
            simp only [Option.some.injEq, Prod.mk.injEq] at H
            obtain ⟨rfl, rfl⟩ := H
            go_wp2
            go_ret2
            exact ⟨by first | rfl | (simp [errW_none, errW_some] <;> rfl) | (simp [*, errW_none, errW_some] <;> rfl), by repeat (first | (with_reducible first | exact HB.out | apply below_alloc | apply pw_below_drewN | apply below_drew1 | refine below_set ?_ GE278.out) | exact HB.out)⟩

/-! ### boltingref10_Handler: function 30 -/
def boltingref10_Handler.f (a0 : ByteArray) : Option (Bool) := if (a0.size : Int) > 2 then (if 0 < (a0.size : Int) then (if (bt a0 0) = 111 then (if 1 < (a0.size : Int) then (some ((bt a0 1) == 110)) else (none)) else (some false)) else (none)) else (some false)
set_option maxHeartbeats 8000000 in
set_option maxRecDepth 100000 in
theorem boltingref10_Handler.calls (a0 : ByteArray) (r : Bool) (w : World) (h : boltingref10_Handler.f a0 = some r) :
    Calls Try.prog 30 #[.string a0] w fun e w' => e = .returned (.bool r) ∧ Drawn0 w w' := by
  have H : (if (a0.size : Int) > 2 then (if 0 < (a0.size : Int) then (if (bt a0 0) = 111 then (if 1 < (a0.size : Int) then (some ((bt a0 1) == 110)) else (none)) else (some false)) else (none)) else (some false)) = some r := h
  clear h
  by_cases c2 : (a0.size : Int) > 2
  · rw [if_pos c2] at H
    have c2b0 : decide (2 < (a0.size : Int)) = true := decide_eq_true c2
    have c2b1 : decide (2 < a0.size) = true := decide_eq_true (by omega)
    clear c2
    by_cases c3 : 0 < (a0.size : Int)
    · rw [if_pos c3] at H
      have c3b0 : decide (0 < (a0.size : Int)) = true := decide_eq_true c3
      have c3b1 : decide (0 < a0.size) = true := decide_eq_true (by omega)
      clear c3
      by_cases c5 : (bt a0 0) = 111
      · rw [if_pos c5] at H
        have c5b0 : ((bt a0 0) == 111) = true := beq_iff_eq.mpr c5
        have c5b1 : ((bt a0 0) != 111) = false := bne_eq_false_iff_eq.mpr c5
        clear c5
        by_cases c6 : 1 < (a0.size : Int)
        · rw [if_pos c6] at H
          have c6b0 : decide (1 < (a0.size : Int)) = true := decide_eq_true c6
          have c6b1 : decide (1 < a0.size) = true := decide_eq_true (by omega)
          clear c6
          obtain rfl := Option.some.inj H
          have p4 : 0 ≤ (0 : Int) := (by omega)
          have q4 : 0 < a0.size := (by have : (0 : Int) < (a0.size : Int) := of_decide_eq_true (by first | (with_reducible assumption) | assumption); omega)
          have hx4 : ∀ h : 0 < a0.size, ((a0[0]'h).toNat : Int) = bt a0 0 := bt_at a0 0
          clear p4
          have qi4 : (0 < (a0.size : Int)) = True := eq_true (of_decide_eq_true (by first | (with_reducible assumption) | assumption))
          replace q4 := eq_true q4
          have p7 : 0 ≤ (1 : Int) := (by omega)
          have q7 : 1 < a0.size := (by have : (1 : Int) < (a0.size : Int) := of_decide_eq_true (by first | (with_reducible assumption) | assumption); omega)
          have hx7 : ∀ h : 1 < a0.size, ((a0[1]'h).toNat : Int) = bt a0 1 := bt_at a0 1
          clear p7
          have qi7 : (1 < (a0.size : Int)) = True := eq_true (of_decide_eq_true (by first | (with_reducible assumption) | assumption))
          replace q7 := eq_true q7
          go_enter Try.func30, Try.ntmps30
          go_wp2
          go_ret
          exact ⟨by first | rfl | (simp; done) | (simp [*]; done) | (simp; generalize ByteArray.toList _ = l_; cases l_ <;> rfl), by repeat (first | exact Drawn0.refl _ | apply Drawn0.step)⟩
        · rw [if_neg c6] at H
          exact absurd H (by simp)
      · rw [if_neg c5] at H
        have c5b0 : ((bt a0 0) == 111) = false := beq_eq_false_iff_ne.mpr c5
        have c5b1 : ((bt a0 0) != 111) = true := bne_iff_ne.mpr c5
        obtain rfl := Option.some.inj H
        have p4 : 0 ≤ (0 : Int) := (by omega)
        have q4 : 0 < a0.size := (by have : (0 : Int) < (a0.size : Int) := of_decide_eq_true (by first | (with_reducible assumption) | assumption); omega)
        have hx4 : ∀ h : 0 < a0.size, ((a0[0]'h).toNat : Int) = bt a0 0 := bt_at a0 0
        clear p4
        have qi4 : (0 < (a0.size : Int)) = True := eq_true (of_decide_eq_true (by first | (with_reducible assumption) | assumption))
        replace q4 := eq_true q4
        go_enter Try.func30, Try.ntmps30
        go_wp2
        go_ret
        exact ⟨by first | rfl | (simp; done) | (simp [*]; done) | (simp; generalize ByteArray.toList _ = l_; cases l_ <;> rfl), by repeat (first | exact Drawn0.refl _ | apply Drawn0.step)⟩
    · rw [if_neg c3] at H
      exact absurd H (by simp)
  · rw [if_neg c2] at H
    have c2b0 : decide (2 < (a0.size : Int)) = false := decide_eq_false c2
    have c2b1 : decide (2 < a0.size) = false := decide_eq_false (by omega)
    clear c2
    obtain rfl := Option.some.inj H
    go_enter Try.func30, Try.ntmps30
    go_wp2
    go_ret
    exact ⟨by first | rfl | (simp; done) | (simp [*]; done) | (simp; generalize ByteArray.toList _ = l_; cases l_ <;> rfl), by repeat (first | exact Drawn0.refl _ | apply Drawn0.step)⟩

end Go.Proofs.Ytakhldahohooiaa.Pr
namespace Go.Proofs.Ytakhldahohooiaa.Pr
open Go.RowKit Go.Proofs.YtakhldahohooiaaW.PrintWords Go.Proofs.YtakhldahohooiaaW.PrintLast Go.Proofs.YtakhldahohooiaaW.PrintMore
attribute [local go_sem] max2_int min2_int max_two min_two max_three min_three max_four min_four   -- for this text's walks alone
set_option linter.unusedVariables false
set_option linter.unusedSimpArgs false

/-! ### boltingref19_Nothing: function 14 -/
mutual
def boltingref19_Nothing.l0 : Nat → List (S34) → Int → Option (Bool)
  | 0, _, _ => none
  | k + 1, x0, x3 => if x3 < (x0.length : Int) then (if 0 ≤ x3 then ((boltingref19_Follow.f k ((rd_T34 x0 x3).f0) ((rd_T34 x0 x3).f1) ((rd_T34 x0 x3).f2) ((rd_T34 x0 x3).f3) ((rd_T34 x0 x3).f4)).bind fun bt285 => (if bt285.2 = true then (boltingref19_Nothing.j1 k x0 x3 true) else (if ((rd_T34 x0 x3).f1) = 0 then (boltingref19_Nothing.j1 k x0 x3 (((rd_T34 x0 x3).f2).toList == ([115, 99, 114, 105, 112, 116] : List UInt8))) else (boltingref19_Nothing.j1 k x0 x3 false)))) else (none)) else (some true)
def boltingref19_Nothing.j1 : Nat → List (S34) → Int → Bool → Option (Bool)
  | 0, _, _, _ => none
  | k + 1, x0, x3, x37 => if x37 = true then (some false) else (boltingref19_Nothing.l1 k x0 x3 0)
def boltingref19_Nothing.l1 : Nat → List (S34) → Int → Int → Option (Bool)
  | 0, _, _, _ => none
  | k + 1, x0, x3, x6 => if 0 ≤ x3 then (if x3 < (x0.length : Int) then (if x6 < (((rd_T34 x0 x3).f4).length : Int) then (boltingref19_Nothing.j3 k x0 x3 x6 (((rd_T34 x0 x3).f1) == 0)) else (boltingref19_Nothing.j3 k x0 x3 x6 false)) else (none)) else (none)
def boltingref19_Nothing.j3 : Nat → List (S34) → Int → Int → Bool → Option (Bool)
  | 0, _, _, _, _ => none
  | k + 1, x0, x3, x6, x53 => if x53 = true then (if 0 ≤ x3 then (if x3 < (x0.length : Int) then (if 0 ≤ x6 then (if x6 < (((rd_T34 x0 x3).f4).length : Int) then ((boltingref10_Handler.f ((rd_T39 ((rd_T34 x0 x3).f4) x6).f0)).bind fun t293 => (if t293 = true then (some false) else (boltingref19_Nothing.l1 k x0 x3 (wrap64 (x6 + 1))))) else (none)) else (none)) else (none)) else (none)) else (boltingref19_Nothing.l0 k x0 (wrap64 (x3 + 1)))
end
def boltingref19_Nothing.f (k : Nat) (l0 : List (S34)) : Option (Bool) := boltingref19_Nothing.l0 k l0 0
set_option maxHeartbeats 8000000 in
set_option maxRecDepth 100000 in
theorem boltingref19_Nothing.calls (k : Nat) (A0 : Option Addr) (c0 : Nat) (l0 : List (S34)) (r : Bool) (w : World) (hr0 : Kd.C k34 w A0 l0.length l0) (hc0 : l0.length ≤ c0) (h : boltingref19_Nothing.f k l0 = some r) :
    Calls Try.prog 14 #[.slice A0 l0.length c0] w fun e w' => e = .returned (.bool r) ∧ Below w.heap.size w w' := by
  have hu34 := Try.underlying34
  have HR0 := Aside0.mk hr0
  have HC0 := Aside0.mk hc0
  clear hr0 hc0
  have HB := Aside0.mk (Below.refl w.heap.size w)
  have H : (boltingref19_Nothing.l0 k l0 0) = some r := h
  clear h
  have H' := Aside0.mk H
  clear H
  go_enter Try.func14, Try.ntmps14
  go_wp2
  go_loopg [3] k (fun kq v3 w' => ∃ (x3_1 : Int), v3 = .int .i64 x3_1 ∧ Aside0 (boltingref19_Nothing.l0 kq l0 x3_1 = some r) ∧ Aside0 (kq ≤ k) ∧ Aside0 (Below w.heap.size w w'))
  case atStart => exact ⟨(0), (by first | rfl | (simp; done) | (simp [*]; done)), H', ⟨Nat.le_refl _⟩, ⟨by repeat (first | (with_reducible first | exact HB.out | apply below_alloc | apply pw_below_drewN | apply below_drew1) | exact HB.out)⟩⟩
  case round =>
    clear H'
    try clear c1
    obtain ⟨x3_1, rfl, HA, HK1, HB⟩ := hrel
    cases gk with
    | zero => exact absurd HA.out (by simp [boltingref19_Nothing.l0])
    | succ k1 =>
      have H := HA.out
      clear HA
      simp only [boltingref19_Nothing.l0] at H
      by_cases c2 : x3_1 < (l0.length : Int)
      · rw [if_pos c2] at H
        have c2b0 : decide (x3_1 < (l0.length : Int)) = true := decide_eq_true c2
        clear c2
        by_cases c3 : 0 ≤ x3_1
        · rw [if_pos c3] at H
          have c3b0 : decide (0 ≤ x3_1) = true := decide_eq_true c3
          clear c3
          replace H := Option.bind_eq_some_iff.mp H
          obtain ⟨⟨t285, t286⟩, A40, H⟩ := H
          replace H : (if t286 = true then (boltingref19_Nothing.j1 k1 l0 x3_1 true) else (if ((rd_T34 l0 x3_1).f1) = 0 then (boltingref19_Nothing.j1 k1 l0 x3_1 (((rd_T34 l0 x3_1).f2).toList == ([115, 99, 114, 105, 112, 116] : List UInt8))) else (boltingref19_Nothing.j1 k1 l0 x3_1 false))) = some r := H
          have A4 := Aside0.mk A40
          clear A40
          have HC5 := Aside0.mk H
          clear H
          have p284 : 0 ≤ (x3_1 : Int) := of_decide_eq_true (by first | (with_reducible assumption) | assumption)
          have q284 : x3_1 < (l0.length : Int) := of_decide_eq_true (by first | (with_reducible assumption) | assumption)
          obtain ⟨ad284, A284_4, c284_4, e284, hx284_0, hx284_1, hx284_2, hx284_3, hx284_4, hl284_4, hi284_4⟩ := at_T34 HR0.out x3_1 p284 q284
          cases e284
          replace hx284_0 := (HB.out.cell (World.block_lt_of_cell? w _ hx284_0)).trans hx284_0
          replace hx284_1 := (HB.out.cell (World.block_lt_of_cell? w _ hx284_1)).trans hx284_1
          replace hx284_2 := (HB.out.cell (World.block_lt_of_cell? w _ hx284_2)).trans hx284_2
          replace hx284_3 := (HB.out.cell (World.block_lt_of_cell? w _ hx284_3)).trans hx284_3
          replace hx284_4 := (HB.out.cell (World.block_lt_of_cell? w _ hx284_4)).trans hx284_4
          have HR284_4 := Aside0.mk hi284_4
          have HC284_4 := Aside0.mk hl284_4
          clear hi284_4 hl284_4
          replace p284 := eq_true p284
          replace q284 := eq_true q284
          go_upto_region 5 with (first | ((with_reducible refine gate_callee (f := 29) rfl ?_); refine goesL_ (some 18) rfl rfl Try.func29 (by kernel_rfl) rfl #[.agg #[.int .i64 ((rd_T34 l0 x3_1).f0), .int .i64 ((rd_T34 l0 x3_1).f1), .string ((rd_T34 l0 x3_1).f2), .string ((rd_T34 l0 x3_1).f3), .slice A284_4 ((rd_T34 l0 x3_1).f4).length c284_4]] rfl (by (try simp only [List.map_toArray, List.map_cons, List.map_nil]); first | done | rfl | (simp only [List.length_drop, List.length_take]; rfl)) ?_; (with_reducible refine (boltingref19_Follow.calls k1 ((rd_T34 l0 x3_1).f0) ((rd_T34 l0 x3_1).f1) ((rd_T34 l0 x3_1).f2) ((rd_T34 l0 x3_1).f3) _ _ ((rd_T34 l0 x3_1).f4) t285 t286 _ ?side1 ?side2 A4.out).mono ?_); (case side1 => repeat (first | exact (Kd.C_below HR284_4.out HB.out) | (with_reducible refine Kd.C_alloc ?_ _) | (with_reducible refine Kd.C_drewN ?_ _) | (with_reducible refine Kd.C_drew ?_))); (case side2 => exact HC284_4.out); rintro e w6 ⟨rfl, hb⟩; refine ⟨_, rfl, ?_⟩; have n0_ := Aside0.mk (below_step (by repeat (first | (with_reducible first | exact HB.out | apply below_alloc | apply pw_below_drewN | apply below_drew1) | exact HB.out)) hb); clear HB; have HB := n0_; clear n0_; (try clear hb); (try clear hb2); (try clear hk); (try clear hi)))
          (try simp only [Act.put, List.setIfInBounds_toArray, List.set_cons_zero, List.set_cons_succ])
          go_cut [37] (fun v37 wc => ∃ (kq : Nat) (x37_4 : Bool), v37 = .bool x37_4 ∧ Aside0 (boltingref19_Nothing.j1 kq l0 x3_1 x37_4 = some r) ∧ Aside0 (kq ≤ k1) ∧ Aside0 (Below w.heap.size w wc))
          case first =>
            have H := HC5.out
            clear HC5
            by_cases c7 : t286 = true
            · subst c7
              have H1 : (boltingref19_Nothing.j1 k1 l0 x3_1 true) = some r := by rw [if_pos rfl] at H; exact H
              clear H
              have H := H1
              clear H1
              have H' := Aside0.mk H
              clear H
              go_wp2
              go_meet
              case rel => exact ⟨_, (true), (by first | rfl | (simp; done) | (simp [*]; done)), H', ⟨by have := HK1.out; first | omega | exact Nat.le_refl _⟩, ⟨by repeat (first | (with_reducible first | exact HB.out | apply below_alloc | apply pw_below_drewN | apply below_drew1) | exact HB.out)⟩⟩
            · replace c7 := Bool.eq_false_iff.mpr c7
              subst c7
              have H1 : (if ((rd_T34 l0 x3_1).f1) = 0 then (boltingref19_Nothing.j1 k1 l0 x3_1 (((rd_T34 l0 x3_1).f2).toList == ([115, 99, 114, 105, 112, 116] : List UInt8))) else (boltingref19_Nothing.j1 k1 l0 x3_1 false)) = some r := by rw [if_neg (show ¬ (false = true) by decide)] at H; exact H
              clear H
              have H := H1
              clear H1
              by_cases c8 : ((rd_T34 l0 x3_1).f1) = 0
              · rw [if_pos c8] at H
                have c8b0 : (((rd_T34 l0 x3_1).f1) == 0) = true := beq_iff_eq.mpr c8
                have c8b1 : (((rd_T34 l0 x3_1).f1) != 0) = false := bne_eq_false_iff_eq.mpr c8
                clear c8
                (first | rw [c8b0] | (simp only [i64_w, i32_w]; rw [c8b0]) | skip)
                have H' := Aside0.mk H
                clear H
                have p287 : 0 ≤ (x3_1 : Int) := of_decide_eq_true (by first | (with_reducible assumption) | assumption)
                have q287 : x3_1 < (l0.length : Int) := of_decide_eq_true (by first | (with_reducible assumption) | assumption)
                obtain ⟨ad287, A287_4, c287_4, e287, hx287_0, hx287_1, hx287_2, hx287_3, hx287_4, hl287_4, hi287_4⟩ := at_T34 HR0.out x3_1 p287 q287
                obtain rfl : ad284 = ad287 := (by injection e287)
                replace hx287_0 := (HB.out.cell (World.block_lt_of_cell? w _ hx287_0)).trans hx287_0
                replace hx287_1 := (HB.out.cell (World.block_lt_of_cell? w _ hx287_1)).trans hx287_1
                replace hx287_2 := (HB.out.cell (World.block_lt_of_cell? w _ hx287_2)).trans hx287_2
                replace hx287_3 := (HB.out.cell (World.block_lt_of_cell? w _ hx287_3)).trans hx287_3
                replace hx287_4 := (HB.out.cell (World.block_lt_of_cell? w _ hx287_4)).trans hx287_4
                have HR287_4 := Aside0.mk hi287_4
                have HC287_4 := Aside0.mk hl287_4
                clear hi287_4 hl287_4
                replace p287 := eq_true p287
                replace q287 := eq_true q287
                have p288 : 0 ≤ (x3_1 : Int) := of_decide_eq_true (by first | (with_reducible assumption) | assumption)
                have q288 : x3_1 < (l0.length : Int) := of_decide_eq_true (by first | (with_reducible assumption) | assumption)
                obtain ⟨ad288, A288_4, c288_4, e288, hx288_0, hx288_1, hx288_2, hx288_3, hx288_4, hl288_4, hi288_4⟩ := at_T34 HR0.out x3_1 p288 q288
                obtain rfl : ad284 = ad288 := (by injection e288)
                replace hx288_0 := (HB.out.cell (World.block_lt_of_cell? w _ hx288_0)).trans hx288_0
                replace hx288_1 := (HB.out.cell (World.block_lt_of_cell? w _ hx288_1)).trans hx288_1
                replace hx288_2 := (HB.out.cell (World.block_lt_of_cell? w _ hx288_2)).trans hx288_2
                replace hx288_3 := (HB.out.cell (World.block_lt_of_cell? w _ hx288_3)).trans hx288_3
                replace hx288_4 := (HB.out.cell (World.block_lt_of_cell? w _ hx288_4)).trans hx288_4
                have HR288_4 := Aside0.mk hi288_4
                have HC288_4 := Aside0.mk hl288_4
                clear hi288_4 hl288_4
                replace p288 := eq_true p288
                replace q288 := eq_true q288
                have ea_ := Option.some.inj (hx287_4.symm.trans hx288_4)
                injection ea_ with ea_ en_ ec_
                subst ea_
                subst ec_
                clear en_
                go_wp2
                go_meet
                case rel => exact ⟨_, ((((rd_T34 l0 x3_1).f2).toList == ([115, 99, 114, 105, 112, 116] : List UInt8))), (by first | rfl | (simp; done) | (simp [*]; done)), H', ⟨by have := HK1.out; first | omega | exact Nat.le_refl _⟩, ⟨by repeat (first | (with_reducible first | exact HB.out | apply below_alloc | apply pw_below_drewN | apply below_drew1) | exact HB.out)⟩⟩
              · rw [if_neg c8] at H
                have c8b0 : (((rd_T34 l0 x3_1).f1) == 0) = false := beq_eq_false_iff_ne.mpr c8
                have c8b1 : (((rd_T34 l0 x3_1).f1) != 0) = true := bne_iff_ne.mpr c8
                (first | rw [c8b0] | (simp only [i64_w, i32_w]; rw [c8b0]) | skip)
                have H' := Aside0.mk H
                clear H
                have p287 : 0 ≤ (x3_1 : Int) := of_decide_eq_true (by first | (with_reducible assumption) | assumption)
                have q287 : x3_1 < (l0.length : Int) := of_decide_eq_true (by first | (with_reducible assumption) | assumption)
                obtain ⟨ad287, A287_4, c287_4, e287, hx287_0, hx287_1, hx287_2, hx287_3, hx287_4, hl287_4, hi287_4⟩ := at_T34 HR0.out x3_1 p287 q287
                obtain rfl : ad284 = ad287 := (by injection e287)
                replace hx287_0 := (HB.out.cell (World.block_lt_of_cell? w _ hx287_0)).trans hx287_0
                replace hx287_1 := (HB.out.cell (World.block_lt_of_cell? w _ hx287_1)).trans hx287_1
                replace hx287_2 := (HB.out.cell (World.block_lt_of_cell? w _ hx287_2)).trans hx287_2
                replace hx287_3 := (HB.out.cell (World.block_lt_of_cell? w _ hx287_3)).trans hx287_3
                replace hx287_4 := (HB.out.cell (World.block_lt_of_cell? w _ hx287_4)).trans hx287_4
                have HR287_4 := Aside0.mk hi287_4
                have HC287_4 := Aside0.mk hl287_4
                clear hi287_4 hl287_4
                replace p287 := eq_true p287
                replace q287 := eq_true q287
                go_wp2
                go_meet
                case rel => exact ⟨_, (false), (by first | rfl | (simp; done) | (simp [*]; done)), H', ⟨by have := HK1.out; first | omega | exact Nat.le_refl _⟩, ⟨by repeat (first | (with_reducible first | exact HB.out | apply below_alloc | apply pw_below_drewN | apply below_drew1) | exact HB.out)⟩⟩
          case rest =>
            clear HC5
            try clear c1
            try clear c2
            try clear c2b0
            try clear p2
            try clear q2
            try clear hx2
            try clear c3
            try clear c3b0
            try clear c7
            try clear c8
            try clear c8b0
            try clear c8b1
            try clear hx284_0
            try clear hx284_1
            try clear hx284_2
            try clear hx284_3
            try clear hx284_4
            try clear hx287_0
            try clear hx287_1
            try clear hx287_2
            try clear hx287_3
            try clear hx287_4
            try clear hx288_0
            try clear hx288_1
            try clear hx288_2
            try clear hx288_3
            try clear hx288_4
            try clear p284
            try clear p287
            try clear p288
            try clear q284
            try clear q287
            try clear q288
            obtain ⟨kq, x37_4, rfl, HA, HJ4, HB⟩ := hcut
            cases kq with
            | zero => exact absurd HA.out (by simp [boltingref19_Nothing.j1])
            | succ kj4 =>
              have H := HA.out
              clear HA
              simp only [boltingref19_Nothing.j1] at H
              by_cases c9 : x37_4 = true
              · subst c9
                have H1 : (some false) = some r := by rw [if_pos rfl] at H; exact H
                clear H
                have H := H1
                clear H1
                obtain rfl := Option.some.inj H
                go_wp2
                go_ret
                exact ⟨by first | rfl | (simp [errW_none, errW_some] <;> rfl) | (simp [*, errW_none, errW_some] <;> rfl), by repeat (first | (with_reducible first | exact HB.out | apply below_alloc | apply pw_below_drewN | apply below_drew1) | exact HB.out)⟩
              · replace c9 := Bool.eq_false_iff.mpr c9
                subst c9
                have H1 : (boltingref19_Nothing.l1 kj4 l0 x3_1 0) = some r := by rw [if_neg (show ¬ (false = true) by decide)] at H; exact H
                clear H
                have H := H1
                clear H1
                have H' := Aside0.mk H
                clear H
                go_wp2
                go_loopg [6] kj4 (fun kq v6 w' => ∃ (x6_3 : Int), v6 = .int .i64 x6_3 ∧ Aside0 (boltingref19_Nothing.l1 kq l0 x3_1 x6_3 = some r) ∧ Aside0 (kq ≤ kj4) ∧ Aside0 (Below w.heap.size w w'))
                case atStart => exact ⟨(0), (by first | rfl | (simp; done) | (simp [*]; done)), H', ⟨Nat.le_refl _⟩, ⟨by repeat (first | (with_reducible first | exact HB.out | apply below_alloc | apply pw_below_drewN | apply below_drew1) | exact HB.out)⟩⟩
                case round =>
                  clear H'
                  try clear c1
                  try clear c2
                  try clear c2b0
                  try clear p2
                  try clear q2
                  try clear hx2
                  try clear c3
                  try clear c3b0
                  try clear c7
                  try clear c8
                  try clear c8b0
                  try clear c8b1
                  try clear c9
                  try clear hx284_0
                  try clear hx284_1
                  try clear hx284_2
                  try clear hx284_3
                  try clear hx284_4
                  try clear hx287_0
                  try clear hx287_1
                  try clear hx287_2
                  try clear hx287_3
                  try clear hx287_4
                  try clear hx288_0
                  try clear hx288_1
                  try clear hx288_2
                  try clear hx288_3
                  try clear hx288_4
                  try clear p2
                  try clear p284
                  try clear p287
                  try clear p288
                  try clear q2
                  try clear q284
                  try clear q287
                  try clear q288
                  obtain ⟨x6_3, rfl, HA, HK3, HB⟩ := hrel
                  cases gk with
                  | zero => exact absurd HA.out (by simp [boltingref19_Nothing.l1])
                  | succ k3 =>
                    have H := HA.out
                    clear HA
                    simp only [boltingref19_Nothing.l1] at H
                    have HC10 := Aside0.mk H
                    clear H
                    go_upto_region 8 with (fail)
                    go_cut [53] (fun v53 wc => ∃ (kq : Nat) (x53_9 : Bool), v53 = .bool x53_9 ∧ Aside0 (boltingref19_Nothing.j3 kq l0 x3_1 x6_3 x53_9 = some r) ∧ Aside0 (kq ≤ k3) ∧ Aside0 (Below w.heap.size w wc))
                    case first =>
                      have H := HC10.out
                      clear HC10
                      by_cases c11 : 0 ≤ x3_1
                      · rw [if_pos c11] at H
                        have c11b0 : decide (0 ≤ x3_1) = true := decide_eq_true c11
                        clear c11
                        (first | rw [c11b0] | (simp only [i64_w, i32_w]; rw [c11b0]) | skip)
                        by_cases c12 : x3_1 < (l0.length : Int)
                        · rw [if_pos c12] at H
                          have c12b0 : decide (x3_1 < (l0.length : Int)) = true := decide_eq_true c12
                          clear c12
                          by_cases c13 : x6_3 < (((rd_T34 l0 x3_1).f4).length : Int)
                          · rw [if_pos c13] at H
                            have c13b0 : decide (x6_3 < (((rd_T34 l0 x3_1).f4).length : Int)) = true := decide_eq_true c13
                            clear c13
                            have H' := Aside0.mk H
                            clear H
                            have p289 : 0 ≤ (x3_1 : Int) := of_decide_eq_true (by first | (with_reducible assumption) | assumption)
                            have q289 : x3_1 < (l0.length : Int) := of_decide_eq_true (by first | (with_reducible assumption) | assumption)
                            obtain ⟨ad289, A289_4, c289_4, e289, hx289_0, hx289_1, hx289_2, hx289_3, hx289_4, hl289_4, hi289_4⟩ := at_T34 HR0.out x3_1 p289 q289
                            obtain rfl : ad284 = ad289 := (by injection e289)
                            replace hx289_0 := (HB.out.cell (World.block_lt_of_cell? w _ hx289_0)).trans hx289_0
                            replace hx289_1 := (HB.out.cell (World.block_lt_of_cell? w _ hx289_1)).trans hx289_1
                            replace hx289_2 := (HB.out.cell (World.block_lt_of_cell? w _ hx289_2)).trans hx289_2
                            replace hx289_3 := (HB.out.cell (World.block_lt_of_cell? w _ hx289_3)).trans hx289_3
                            replace hx289_4 := (HB.out.cell (World.block_lt_of_cell? w _ hx289_4)).trans hx289_4
                            have HR289_4 := Aside0.mk hi289_4
                            have HC289_4 := Aside0.mk hl289_4
                            clear hi289_4 hl289_4
                            replace p289 := eq_true p289
                            replace q289 := eq_true q289
                            have p290 : 0 ≤ (x3_1 : Int) := of_decide_eq_true (by first | (with_reducible assumption) | assumption)
                            have q290 : x3_1 < (l0.length : Int) := of_decide_eq_true (by first | (with_reducible assumption) | assumption)
                            obtain ⟨ad290, A290_4, c290_4, e290, hx290_0, hx290_1, hx290_2, hx290_3, hx290_4, hl290_4, hi290_4⟩ := at_T34 HR0.out x3_1 p290 q290
                            obtain rfl : ad284 = ad290 := (by injection e290)
                            replace hx290_0 := (HB.out.cell (World.block_lt_of_cell? w _ hx290_0)).trans hx290_0
                            replace hx290_1 := (HB.out.cell (World.block_lt_of_cell? w _ hx290_1)).trans hx290_1
                            replace hx290_2 := (HB.out.cell (World.block_lt_of_cell? w _ hx290_2)).trans hx290_2
                            replace hx290_3 := (HB.out.cell (World.block_lt_of_cell? w _ hx290_3)).trans hx290_3
                            replace hx290_4 := (HB.out.cell (World.block_lt_of_cell? w _ hx290_4)).trans hx290_4
                            have HR290_4 := Aside0.mk hi290_4
                            have HC290_4 := Aside0.mk hl290_4
                            clear hi290_4 hl290_4
                            replace p290 := eq_true p290
                            replace q290 := eq_true q290
                            have ea_ := Option.some.inj (hx289_4.symm.trans hx290_4)
                            injection ea_ with ea_ en_ ec_
                            subst ea_
                            subst ec_
                            clear en_
                            go_wp2
                            go_meet
                            case rel => exact ⟨_, ((((rd_T34 l0 x3_1).f1) == 0)), (by first | rfl | (simp; done) | (simp [*]; done)), H', ⟨by have := HK1.out; have := HJ4.out; have := HK3.out; first | omega | exact Nat.le_refl _⟩, ⟨by repeat (first | (with_reducible first | exact HB.out | apply below_alloc | apply pw_below_drewN | apply below_drew1) | exact HB.out)⟩⟩
                          · rw [if_neg c13] at H
                            have c13b0 : decide (x6_3 < (((rd_T34 l0 x3_1).f4).length : Int)) = false := decide_eq_false c13
                            clear c13
                            have H' := Aside0.mk H
                            clear H
                            have p289 : 0 ≤ (x3_1 : Int) := of_decide_eq_true (by first | (with_reducible assumption) | assumption)
                            have q289 : x3_1 < (l0.length : Int) := of_decide_eq_true (by first | (with_reducible assumption) | assumption)
                            obtain ⟨ad289, A289_4, c289_4, e289, hx289_0, hx289_1, hx289_2, hx289_3, hx289_4, hl289_4, hi289_4⟩ := at_T34 HR0.out x3_1 p289 q289
                            obtain rfl : ad284 = ad289 := (by injection e289)
                            replace hx289_0 := (HB.out.cell (World.block_lt_of_cell? w _ hx289_0)).trans hx289_0
                            replace hx289_1 := (HB.out.cell (World.block_lt_of_cell? w _ hx289_1)).trans hx289_1
                            replace hx289_2 := (HB.out.cell (World.block_lt_of_cell? w _ hx289_2)).trans hx289_2
                            replace hx289_3 := (HB.out.cell (World.block_lt_of_cell? w _ hx289_3)).trans hx289_3
                            replace hx289_4 := (HB.out.cell (World.block_lt_of_cell? w _ hx289_4)).trans hx289_4
                            have HR289_4 := Aside0.mk hi289_4
                            have HC289_4 := Aside0.mk hl289_4
                            clear hi289_4 hl289_4
                            replace p289 := eq_true p289
                            replace q289 := eq_true q289
                            go_wp2
                            go_meet
                            case rel => exact ⟨_, (false), (by first | rfl | (simp; done) | (simp [*]; done)), H', ⟨by have := HK1.out; have := HJ4.out; have := HK3.out; first | omega | exact Nat.le_refl _⟩, ⟨by repeat (first | (with_reducible first | exact HB.out | apply below_alloc | apply pw_below_drewN | apply below_drew1) | exact HB.out)⟩⟩
                        · rw [if_neg c12] at H
                          exact absurd H (by simp)
                      · rw [if_neg c11] at H
                        exact absurd H (by simp)
                    case rest =>
                      clear HC10
                      try clear c1
                      try clear c2
                      try clear c2b0
                      try clear p2
                      try clear q2
                      try clear hx2
                      try clear c3
                      try clear c3b0
                      try clear c7
                      try clear c8
                      try clear c8b0
                      try clear c8b1
                      try clear c9
                      try clear c11
                      try clear c11b0
                      try clear c12
                      try clear c12b0
                      try clear c13
                      try clear c13b0
                      try clear hx284_0
                      try clear hx284_1
                      try clear hx284_2
                      try clear hx284_3
                      try clear hx284_4
                      try clear hx287_0
                      try clear hx287_1
                      try clear hx287_2
                      try clear hx287_3
                      try clear hx287_4
                      try clear hx288_0
                      try clear hx288_1
                      try clear hx288_2
                      try clear hx288_3
                      try clear hx288_4
                      try clear hx289_0
                      try clear hx289_1
                      try clear hx289_2
                      try clear hx289_3
                      try clear hx289_4
                      try clear hx290_0
                      try clear hx290_1
                      try clear hx290_2
                      try clear hx290_3
                      try clear hx290_4
                      try clear p2
                      try clear p284
                      try clear p287
                      try clear p288
                      try clear p289
                      try clear p290
                      try clear q2
                      try clear q284
                      try clear q287
                      try clear q288
                      try clear q289
                      try clear q290
                      obtain ⟨kq, x53_9, rfl, HA, HJ9, HB⟩ := hcut
                      cases kq with
                      | zero => exact absurd HA.out (by simp [boltingref19_Nothing.j3])
                      | succ kj9 =>
                        have H := HA.out
                        clear HA
                        simp only [boltingref19_Nothing.j3] at H
                        by_cases c14 : x53_9 = true
                        · subst c14
                          have H1 : (if 0 ≤ x3_1 then (if x3_1 < (l0.length : Int) then (if 0 ≤ x6_3 then (if x6_3 < (((rd_T34 l0 x3_1).f4).length : Int) then ((boltingref10_Handler.f ((rd_T39 ((rd_T34 l0 x3_1).f4) x6_3).f0)).bind fun t293 => (if t293 = true then (some false) else (boltingref19_Nothing.l1 kj9 l0 x3_1 (wrap64 (x6_3 + 1))))) else (none)) else (none)) else (none)) else (none)) = some r := by rw [if_pos rfl] at H; exact H
                          clear H
                          have H := H1
                          clear H1
                          by_cases c15 : 0 ≤ x3_1
                          · rw [if_pos c15] at H
                            have c15b0 : decide (0 ≤ x3_1) = true := decide_eq_true c15
                            clear c15
                            by_cases c16 : x3_1 < (l0.length : Int)
                            · rw [if_pos c16] at H
                              have c16b0 : decide (x3_1 < (l0.length : Int)) = true := decide_eq_true c16
                              clear c16
                              by_cases c17 : 0 ≤ x6_3
                              · rw [if_pos c17] at H
                                have c17b0 : decide (0 ≤ x6_3) = true := decide_eq_true c17
                                clear c17
                                by_cases c18 : x6_3 < (((rd_T34 l0 x3_1).f4).length : Int)
                                · rw [if_pos c18] at H
                                  have c18b0 : decide (x6_3 < (((rd_T34 l0 x3_1).f4).length : Int)) = true := decide_eq_true c18
                                  clear c18
                                  replace H := Option.bind_eq_some_iff.mp H
                                  obtain ⟨t293, A190, H⟩ := H
                                  replace H : (if t293 = true then (some false) else (boltingref19_Nothing.l1 kj9 l0 x3_1 (wrap64 (x6_3 + 1)))) = some r := H
                                  have A19 := Aside0.mk A190
                                  clear A190
                                  by_cases c20 : t293 = true
                                  · subst c20
                                    have H1 : (some false) = some r := by rw [if_pos rfl] at H; exact H
                                    clear H
                                    have H := H1
                                    clear H1
                                    obtain rfl := Option.some.inj H
                                    have p291 : 0 ≤ (x3_1 : Int) := of_decide_eq_true (by first | (with_reducible assumption) | assumption)
                                    have q291 : x3_1 < (l0.length : Int) := of_decide_eq_true (by first | (with_reducible assumption) | assumption)
                                    obtain ⟨ad291, A291_4, c291_4, e291, hx291_0, hx291_1, hx291_2, hx291_3, hx291_4, hl291_4, hi291_4⟩ := at_T34 HR0.out x3_1 p291 q291
                                    obtain rfl : ad284 = ad291 := (by injection e291)
                                    replace hx291_0 := (HB.out.cell (World.block_lt_of_cell? w _ hx291_0)).trans hx291_0
                                    replace hx291_1 := (HB.out.cell (World.block_lt_of_cell? w _ hx291_1)).trans hx291_1
                                    replace hx291_2 := (HB.out.cell (World.block_lt_of_cell? w _ hx291_2)).trans hx291_2
                                    replace hx291_3 := (HB.out.cell (World.block_lt_of_cell? w _ hx291_3)).trans hx291_3
                                    replace hx291_4 := (HB.out.cell (World.block_lt_of_cell? w _ hx291_4)).trans hx291_4
                                    have HR291_4 := Aside0.mk hi291_4
                                    have HC291_4 := Aside0.mk hl291_4
                                    clear hi291_4 hl291_4
                                    replace p291 := eq_true p291
                                    replace q291 := eq_true q291
                                    have p292 : 0 ≤ (x6_3 : Int) := of_decide_eq_true (by first | (with_reducible assumption) | assumption)
                                    have q292 : x6_3 < (((rd_T34 l0 x3_1).f4).length : Int) := of_decide_eq_true (by first | (with_reducible assumption) | assumption)
                                    obtain ⟨ad292, e292, hx292_0, hx292_1⟩ := at_T39 HR291_4.out x6_3 p292 q292
                                    cases e292
                                    replace hx292_0 := (HB.out.cell (World.block_lt_of_cell? w _ hx292_0)).trans hx292_0
                                    replace hx292_1 := (HB.out.cell (World.block_lt_of_cell? w _ hx292_1)).trans hx292_1
                                    replace p292 := eq_true p292
                                    replace q292 := eq_true q292
                                    go_wp2_with (first | ((with_reducible refine gate_callee (f := 30) rfl ?_); refine goesL_ (some 65) rfl rfl Try.func30 (by kernel_rfl) rfl #[.string ((rd_T39 ((rd_T34 l0 x3_1).f4) x6_3).f0)] rfl (by (try simp only [List.map_toArray, List.map_cons, List.map_nil]); first | done | rfl | (simp only [List.length_drop, List.length_take]; rfl)) ?_; (with_reducible refine (boltingref10_Handler.calls ((rd_T39 ((rd_T34 l0 x3_1).f4) x6_3).f0) true _ A19.out).mono ?_); rintro e w' ⟨rfl, ⟨nd, rfl⟩⟩; refine ⟨_, rfl, ?_⟩))
                                    go_ret
                                    exact ⟨by first | rfl | (simp [errW_none, errW_some] <;> rfl) | (simp [*, errW_none, errW_some] <;> rfl), by repeat (first | (with_reducible first | exact HB.out | apply below_alloc | apply pw_below_drewN | apply below_drew1) | exact HB.out)⟩
                                  · replace c20 := Bool.eq_false_iff.mpr c20
                                    subst c20
                                    have H1 : (boltingref19_Nothing.l1 kj9 l0 x3_1 (wrap64 (x6_3 + 1))) = some r := by rw [if_neg (show ¬ (false = true) by decide)] at H; exact H
                                    clear H
                                    have H := H1
                                    clear H1
                                    have H' := Aside0.mk H
                                    clear H
                                    have p291 : 0 ≤ (x3_1 : Int) := of_decide_eq_true (by first | (with_reducible assumption) | assumption)
                                    have q291 : x3_1 < (l0.length : Int) := of_decide_eq_true (by first | (with_reducible assumption) | assumption)
                                    obtain ⟨ad291, A291_4, c291_4, e291, hx291_0, hx291_1, hx291_2, hx291_3, hx291_4, hl291_4, hi291_4⟩ := at_T34 HR0.out x3_1 p291 q291
                                    obtain rfl : ad284 = ad291 := (by injection e291)
                                    replace hx291_0 := (HB.out.cell (World.block_lt_of_cell? w _ hx291_0)).trans hx291_0
                                    replace hx291_1 := (HB.out.cell (World.block_lt_of_cell? w _ hx291_1)).trans hx291_1
                                    replace hx291_2 := (HB.out.cell (World.block_lt_of_cell? w _ hx291_2)).trans hx291_2
                                    replace hx291_3 := (HB.out.cell (World.block_lt_of_cell? w _ hx291_3)).trans hx291_3
                                    replace hx291_4 := (HB.out.cell (World.block_lt_of_cell? w _ hx291_4)).trans hx291_4
                                    have HR291_4 := Aside0.mk hi291_4
                                    have HC291_4 := Aside0.mk hl291_4
                                    clear hi291_4 hl291_4
                                    replace p291 := eq_true p291
                                    replace q291 := eq_true q291
                                    have p292 : 0 ≤ (x6_3 : Int) := of_decide_eq_true (by first | (with_reducible assumption) | assumption)
                                    have q292 : x6_3 < (((rd_T34 l0 x3_1).f4).length : Int) := of_decide_eq_true (by first | (with_reducible assumption) | assumption)
                                    obtain ⟨ad292, e292, hx292_0, hx292_1⟩ := at_T39 HR291_4.out x6_3 p292 q292
                                    cases e292
                                    replace hx292_0 := (HB.out.cell (World.block_lt_of_cell? w _ hx292_0)).trans hx292_0
                                    replace hx292_1 := (HB.out.cell (World.block_lt_of_cell? w _ hx292_1)).trans hx292_1
                                    replace p292 := eq_true p292
                                    replace q292 := eq_true q292
                                    go_wp2_with (first | ((with_reducible refine gate_callee (f := 30) rfl ?_); refine goesL_ (some 65) rfl rfl Try.func30 (by kernel_rfl) rfl #[.string ((rd_T39 ((rd_T34 l0 x3_1).f4) x6_3).f0)] rfl (by (try simp only [List.map_toArray, List.map_cons, List.map_nil]); first | done | rfl | (simp only [List.length_drop, List.length_take]; rfl)) ?_; (with_reducible refine (boltingref10_Handler.calls ((rd_T39 ((rd_T34 l0 x3_1).f4) x6_3).f0) false _ A19.out).mono ?_); rintro e w' ⟨rfl, ⟨nd, rfl⟩⟩; refine ⟨_, rfl, ?_⟩))
                                    go_roundg kj9
                                    case measure => have := HK1.out; have := HJ4.out; have := HK3.out; have := HJ9.out; omega
                                    case rel => exact ⟨(wrap64 (x6_3 + 1)), (by first | rfl | (simp; done) | (simp [*]; done)), H', ⟨by have := HK1.out; have := HJ4.out; have := HK3.out; have := HJ9.out; omega⟩, ⟨by repeat (first | (with_reducible first | exact HB.out | apply below_alloc | apply pw_below_drewN | apply below_drew1) | exact HB.out)⟩⟩
                                · rw [if_neg c18] at H
                                  exact absurd H (by simp)
                              · rw [if_neg c17] at H
                                exact absurd H (by simp)
                            · rw [if_neg c16] at H
                              exact absurd H (by simp)
                          · rw [if_neg c15] at H
                            exact absurd H (by simp)
                        · replace c14 := Bool.eq_false_iff.mpr c14
                          subst c14
                          have H1 : (boltingref19_Nothing.l0 kj9 l0 (wrap64 (x3_1 + 1))) = some r := by rw [if_neg (show ¬ (false = true) by decide)] at H; exact H
                          clear H
                          have H := H1
                          clear H1
                          have H' := Aside0.mk H
                          clear H
                          go_wp2
                          go_roundg kj9
                          case measure => have := HK1.out; have := HJ4.out; have := HK3.out; have := HJ9.out; omega
                          case rel => exact ⟨(wrap64 (x3_1 + 1)), (by first | rfl | (simp; done) | (simp [*]; done)), H', ⟨by have := HK1.out; have := HJ4.out; have := HK3.out; have := HJ9.out; omega⟩, ⟨by repeat (first | (with_reducible first | exact HB.out | apply below_alloc | apply pw_below_drewN | apply below_drew1) | exact HB.out)⟩⟩
        · rw [if_neg c3] at H
          exact absurd H (by simp)
      · rw [if_neg c2] at H
        have c2b0 : decide (x3_1 < (l0.length : Int)) = false := decide_eq_false c2
        clear c2
        obtain rfl := Option.some.inj H
        go_wp2
        go_ret
        exact ⟨by first | rfl | (simp [errW_none, errW_some] <;> rfl) | (simp [*, errW_none, errW_some] <;> rfl), by repeat (first | (with_reducible first | exact HB.out | apply below_alloc | apply pw_below_drewN | apply below_drew1) | exact HB.out)⟩

end Go.Proofs.Ytakhldahohooiaa.Pr
namespace Go.Proofs.Ytakhldahohooiaa.Pr
open Go.RowKit Go.Proofs.YtakhldahohooiaaW.PrintWords Go.Proofs.YtakhldahohooiaaW.PrintLast Go.Proofs.YtakhldahohooiaaW.PrintMore
attribute [local go_sem] max2_int min2_int max_two min_two max_three min_three max_four min_four   -- for this text's walks alone
set_option linter.unusedVariables false
set_option linter.unusedSimpArgs false

/-! ### boltinglaw19_RunScripts: function 3 -/
mutual
def boltinglaw19_RunScripts.l0 : Nat → List (S34) → Int → Option (Bool)
  | 0, _, _ => none
  | k + 1, x0, x3 => if x3 < 2 then ((run_Scripts.f k x0).bind fun t302 => ((boltingref19_Scripts.f k x0).bind fun t305 => ((boltingref19_Same.f k t302 t305).bind fun t308 => (if t308 = true then (boltinglaw19_RunScripts.l1 k x0 x3 t302 0) else (some false))))) else ((run_Nothing.f k x0).bind fun t299 => ((boltingref19_Nothing.f k x0).bind fun t300 => (if (t299 == t300) = true then ((boltinglaw19_fixed.f k).bind fun t301 => (some t301)) else (some false))))
def boltinglaw19_RunScripts.l1 : Nat → List (S34) → Int → List (S30) → Int → Option (Bool)
  | 0, _, _, _, _ => none
  | k + 1, x0, x3, x4, x5 => if x5 < (x4.length : Int) then (if 0 ≤ x5 then (boltinglaw19_RunScripts.l1 k x0 x3 (x4.set (x5 : Int).toNat (⟨(rd_T30 x4 x5).f0, (rd_T30 x4 x5).f1, (⟨#[120]⟩ : ByteArray)⟩ : S30)) (wrap64 (x5 + 1))) else (none)) else (boltinglaw19_RunScripts.l0 k x0 (wrap64 (x3 + 1)))
end
def boltinglaw19_RunScripts.f (k : Nat) (l0 : List (S34)) : Option (Bool) := (boltinglaw19_bound.f k l0).bind fun t294 => ((boltingref04_Right.f k t294).bind fun t297 => (if t297 = true then (boltinglaw19_RunScripts.l0 k t294 0) else ((boltinglaw19_fixed.f k).bind fun t298 => (some t298))))
set_option maxHeartbeats 8000000 in
set_option maxRecDepth 100000 in
theorem boltinglaw19_RunScripts.calls (k : Nat) (A0 : Option Addr) (c0 : Nat) (l0 : List (S34)) (r : Bool) (w : World) (hr0 : Kd.C k34 w A0 l0.length l0) (hc0 : l0.length ≤ c0) (h : boltinglaw19_RunScripts.f k l0 = some r) :
    Calls Try.prog 3 #[.slice A0 l0.length c0] w fun e w' => e = .returned (.bool r) ∧ Below w.heap.size w w' := by
  have HR0 := Aside0.mk hr0
  have HC0 := Aside0.mk hc0
  clear hr0 hc0
  have HB := Aside0.mk (Below.refl w.heap.size w)
  have H : ((boltinglaw19_bound.f k l0).bind fun t294 => ((boltingref04_Right.f k t294).bind fun t297 => (if t297 = true then (boltinglaw19_RunScripts.l0 k t294 0) else ((boltinglaw19_fixed.f k).bind fun t298 => (some t298))))) = some r := h
  clear h
  replace H := Option.bind_eq_some_iff.mp H
  obtain ⟨t294, A20, H⟩ := H
  replace H : ((boltingref04_Right.f k t294).bind fun t297 => (if t297 = true then (boltinglaw19_RunScripts.l0 k t294 0) else ((boltinglaw19_fixed.f k).bind fun t298 => (some t298)))) = some r := H
  have A2 := Aside0.mk A20
  clear A20
  replace H := Option.bind_eq_some_iff.mp H
  obtain ⟨t297, A30, H⟩ := H
  replace H : (if t297 = true then (boltinglaw19_RunScripts.l0 k t294 0) else ((boltinglaw19_fixed.f k).bind fun t298 => (some t298))) = some r := H
  have A3 := Aside0.mk A30
  clear A30
  by_cases c4 : t297 = true
  · subst c4
    have H1 : (boltinglaw19_RunScripts.l0 k t294 0) = some r := by rw [if_pos rfl] at H; exact H
    clear H
    have H := H1
    clear H1
    have H' := Aside0.mk H
    clear H
    go_enter Try.func3, Try.ntmps3
    go_wp2_with (first | ((with_reducible refine gate_callee (f := 7) rfl ?_); refine goesL_ (some 7) rfl rfl Try.func7 (by kernel_rfl) rfl #[.slice A0 l0.length c0] rfl (by (try simp only [List.map_toArray, List.map_cons, List.map_nil]); first | done | rfl | (simp only [List.length_drop, List.length_take]; rfl)) ?_; (with_reducible refine (boltinglaw19_bound.calls k (fun k_ => k_ < w.heap.size) _ _ l0 t294 _ ?side1 A2.out).mono ?_); (case side1 => exact Kd.V_mk HC0.out (Kd.F_below (Kd.C_F k34_heap HR0.out) (by repeat (first | (with_reducible first | exact HB.out | apply below_alloc | apply pw_below_drewN | apply below_drew1) | exact HB.out)))); rintro e w5 ⟨v295, rfl, ho0, hb⟩; refine ⟨_, rfl, ?_⟩; have n0_ := Aside0.mk (Kd.N_lower (Kd.N_mono (ok' := fun k_ => True) ho0 (fun k_ hk_ => trivial)) (below_size (by repeat (first | (with_reducible first | exact HB.out | apply below_alloc | apply pw_below_drewN | apply below_drew1) | exact HB.out)))); have n1_ := Aside0.mk (below_step (by repeat (first | (with_reducible first | exact HB.out | apply below_alloc | apply pw_below_drewN | apply below_drew1) | exact HB.out)) hb); clear HB; have HO296 := n0_; have HB := n1_; clear n0_ n1_; (try clear hb); (try clear hb2); (try clear hk); (try clear hi); (try clear ho0); obtain ⟨Ao6, co6, eo6⟩ := Kd.N_slice HO296.out; subst eo6) | ((with_reducible refine gate_callee (f := 8) rfl ?_); refine goesL_ (some 9) rfl rfl Try.func8 (by kernel_rfl) rfl #[.slice Ao6 t294.length co6] rfl (by (try simp only [List.map_toArray, List.map_cons, List.map_nil]); first | done | rfl | (simp only [List.length_drop, List.length_take]; rfl)) ?_; (with_reducible refine (boltingref04_Right.calls k _ _ t294 true _ ?side1 ?side2 A3.out).mono ?_); (case side1 => repeat (first | exact (Kd.N_reads' HO296.out).2.2 | (with_reducible refine Kd.C_alloc ?_ _) | (with_reducible refine Kd.C_drewN ?_ _) | (with_reducible refine Kd.C_drew ?_))); (case side2 => exact (Kd.N_reads' HO296.out).2.1); rintro e w7 ⟨rfl, hb⟩; refine ⟨_, rfl, ?_⟩; have n0_ := Aside0.mk (Kd.N_below (by (with_reducible repeat (first | apply Kd.N_alloc | apply Kd.N_drewN | apply Kd.N_drew)); exact HO296.out) hb); have n1_ := Aside0.mk (below_step (by repeat (first | (with_reducible first | exact HB.out | apply below_alloc | apply pw_below_drewN | apply below_drew1) | exact HB.out)) hb); clear HO296; clear HB; have HO296 := n0_; have HB := n1_; clear n0_ n1_; (try clear hb); (try clear hb2); (try clear hk); (try clear hi)))
    go_loopg [3] k (fun kq v3 w' => ∃ (x3_1 : Int), v3 = .int .i64 x3_1 ∧ Aside0 (boltinglaw19_RunScripts.l0 kq t294 x3_1 = some r) ∧ Aside0 (kq ≤ k) ∧ Aside0 (Kd.N k34 34 w' w.heap.size (fun _ => True) (.slice Ao6 t294.length co6) t294) ∧ Aside0 (Below w.heap.size w w'))
    case atStart => exact ⟨(0), (by first | rfl | (simp; done) | (simp [*]; done)), H', ⟨Nat.le_refl _⟩, ⟨by (with_reducible repeat (first | apply Kd.N_alloc | apply Kd.N_drewN | apply Kd.N_drew)); exact HO296.out⟩, ⟨by repeat (first | (with_reducible first | exact HB.out | apply below_alloc | apply pw_below_drewN | apply below_drew1) | exact HB.out)⟩⟩
    case round =>
      clear H'
      try clear p2
      try clear c3
      try clear c4
      try clear c7
      obtain ⟨x3_1, rfl, HA, HK1, HO_0, HB⟩ := hrel
      cases gk with
      | zero => exact absurd HA.out (by simp [boltinglaw19_RunScripts.l0])
      | succ k1 =>
        have H := HA.out
        clear HA
        simp only [boltinglaw19_RunScripts.l0] at H
        by_cases c8 : x3_1 < 2
        · rw [if_pos c8] at H
          have c8b0 : decide (x3_1 < 2) = true := decide_eq_true c8
          clear c8
          replace H := Option.bind_eq_some_iff.mp H
          obtain ⟨t302, A90, H⟩ := H
          replace H : ((boltingref19_Scripts.f k1 t294).bind fun t305 => ((boltingref19_Same.f k1 t302 t305).bind fun t308 => (if t308 = true then (boltinglaw19_RunScripts.l1 k1 t294 x3_1 t302 0) else (some false)))) = some r := H
          have A9 := Aside0.mk A90
          clear A90
          replace H := Option.bind_eq_some_iff.mp H
          obtain ⟨t305, A100, H⟩ := H
          replace H : ((boltingref19_Same.f k1 t302 t305).bind fun t308 => (if t308 = true then (boltinglaw19_RunScripts.l1 k1 t294 x3_1 t302 0) else (some false))) = some r := H
          have A10 := Aside0.mk A100
          clear A100
          replace H := Option.bind_eq_some_iff.mp H
          obtain ⟨t308, A110, H⟩ := H
          replace H : (if t308 = true then (boltinglaw19_RunScripts.l1 k1 t294 x3_1 t302 0) else (some false)) = some r := H
          have A11 := Aside0.mk A110
          clear A110
          by_cases c12 : t308 = true
          · subst c12
            have H1 : (boltinglaw19_RunScripts.l1 k1 t294 x3_1 t302 0) = some r := by rw [if_pos rfl] at H; exact H
            clear H
            have H := H1
            clear H1
            have H' := Aside0.mk H
            clear H
            go_wp2_with (first | ((with_reducible refine gate_callee (f := 10) rfl ?_); refine goesL_ (some 17) rfl rfl Try.func10 (by kernel_rfl) rfl #[.slice Ao6 t294.length co6] rfl (by (try simp only [List.map_toArray, List.map_cons, List.map_nil]); first | done | rfl | (simp only [List.length_drop, List.length_take]; rfl)) ?_; (with_reducible refine (run_Scripts.calls k1 _ _ t294 t302 _ ?side1 ?side2 A9.out).mono ?_); (case side1 => repeat (first | exact (Kd.N_reads' HO_0.out).2.2 | (with_reducible refine Kd.C_alloc ?_ _) | (with_reducible refine Kd.C_drewN ?_ _) | (with_reducible refine Kd.C_drew ?_))); (case side2 => exact (Kd.N_reads' HO_0.out).2.1); rintro e w13 ⟨v303, rfl, ho0, hb⟩; refine ⟨_, rfl, ?_⟩; have n0_ := Aside0.mk (Kd.N_elder' (by (with_reducible repeat (first | apply Kd.N_alloc | apply Kd.N_drewN | apply Kd.N_drew)); exact HO_0.out) (Kd.R_base ho0) hb); have n1_ := Aside0.mk (Kd.R_lower ho0 (below_size (by repeat (first | (with_reducible first | exact HB.out | apply below_alloc | apply pw_below_drewN | apply below_drew1) | exact HB.out)))); have n2_ := Aside0.mk (below_step (by repeat (first | (with_reducible first | exact HB.out | apply below_alloc | apply pw_below_drewN | apply below_drew1) | exact HB.out)) hb); clear HO_0; clear HB; have HO_0 := n0_; have HO304 := n1_; have HB := n2_; clear n0_ n1_ n2_; (try clear hb); (try clear hb2); (try clear hk); (try clear hi); (try clear ho0)) | ((with_reducible refine gate_callee (f := 12) rfl ?_); refine goesL_ (some 20) rfl rfl Try.func12 (by kernel_rfl) rfl #[.slice Ao6 t294.length co6] rfl (by (try simp only [List.map_toArray, List.map_cons, List.map_nil]); first | done | rfl | (simp only [List.length_drop, List.length_take]; rfl)) ?_; (with_reducible refine (boltingref19_Scripts.calls k1 _ _ t294 t305 _ ?side1 ?side2 A10.out).mono ?_); (case side1 => repeat (first | exact (Kd.N_reads' HO_0.out).2.2 | (with_reducible refine Kd.C_alloc ?_ _) | (with_reducible refine Kd.C_drewN ?_ _) | (with_reducible refine Kd.C_drew ?_))); (case side2 => exact (Kd.N_reads' HO_0.out).2.1); rintro e w14 ⟨v306, rfl, ho0, hb⟩; refine ⟨_, rfl, ?_⟩; have n0_ := Aside0.mk (Kd.N_elder' (by (with_reducible repeat (first | apply Kd.N_alloc | apply Kd.N_drewN | apply Kd.N_drew)); exact HO_0.out) (Kd.R_base ho0) hb); have n1_ := Aside0.mk (Kd.R_elder' (by (with_reducible repeat (first | apply Kd.R_alloc | apply Kd.R_drewN | apply Kd.R_drew)); exact HO304.out) (Kd.R_base ho0) hb); have n2_ := Aside0.mk (Kd.R_lower (Kd.R_new' ho0 (Kd.R_lt (by (with_reducible repeat (first | apply Kd.R_alloc | apply Kd.R_drewN | apply Kd.R_drew)); exact HO304.out))) (below_size (by repeat (first | (with_reducible first | exact HB.out | apply below_alloc | apply pw_below_drewN | apply below_drew1) | exact HB.out)))); have n3_ := Aside0.mk (below_step (by repeat (first | (with_reducible first | exact HB.out | apply below_alloc | apply pw_below_drewN | apply below_drew1) | exact HB.out)) hb); clear HO_0; clear HO304; clear HB; have HO_0 := n0_; have HO304 := n1_; have HO307 := n2_; have HB := n3_; clear n0_ n1_ n2_ n3_; (try clear hb); (try clear hb2); (try clear hk); (try clear hi); (try clear ho0); obtain ⟨Ao15, co15, eo15⟩ := Kd.R_slice HO304.out; subst eo15; obtain ⟨Ao16, co16, eo16⟩ := Kd.R_slice HO307.out; subst eo16) | ((with_reducible refine gate_callee (f := 11) rfl ?_); refine goesL_ (some 21) rfl rfl Try.func11 (by kernel_rfl) rfl #[.slice Ao15 t302.length co15, .slice Ao16 t305.length co16] rfl (by (try simp only [List.map_toArray, List.map_cons, List.map_nil]); first | done | rfl | (simp only [List.length_drop, List.length_take]; rfl)) ?_; (with_reducible refine (boltingref19_Same.calls k1 _ _ t302 _ _ t305 true _ ?side1 ?side2 ?side3 ?side4 A11.out).mono ?_); (case side1 => repeat (first | exact (Kd.R_reads' HO304.out).2.2 | (with_reducible refine Kd.C_alloc ?_ _) | (with_reducible refine Kd.C_drewN ?_ _) | (with_reducible refine Kd.C_drew ?_))); (case side2 => exact (Kd.R_reads' HO304.out).2.1); (case side3 => repeat (first | exact (Kd.R_reads' HO307.out).2.2 | (with_reducible refine Kd.C_alloc ?_ _) | (with_reducible refine Kd.C_drewN ?_ _) | (with_reducible refine Kd.C_drew ?_))); (case side4 => exact (Kd.R_reads' HO307.out).2.1); rintro e w' ⟨rfl, ⟨nd, rfl⟩⟩; refine ⟨_, rfl, ?_⟩))
            go_loopg [5] k1 (fun kq v5 w' => ∃ (x4_2 : List (S30)) (x5_2 : Int), v5 = .int .i64 x5_2 ∧ Aside0 (boltinglaw19_RunScripts.l1 kq t294 x3_1 x4_2 x5_2 = some r) ∧ Aside0 (kq ≤ k1) ∧ Aside0 (Kd.N k34 34 w' w.heap.size (fun k_ => some k_ ≠ ((.slice Ao15 t302.length co15) : Value).ownBlock) (.slice Ao6 t294.length co6) t294) ∧ Aside0 (Kd.R k30 30 w' w.heap.size (fun _ => True) (.slice Ao15 t302.length co15) x4_2) ∧ Aside0 (Below w.heap.size w w'))
            case atStart => exact ⟨(t302), (0), (by first | rfl | (simp; done) | (simp [*]; done)), H', ⟨Nat.le_refl _⟩, ⟨by (with_reducible repeat (first | apply Kd.N_alloc | apply Kd.N_drewN | apply Kd.N_drew)); exact Kd.N_mono HO_0.out (fun _ hk => hk.1.2)⟩, ⟨by (with_reducible repeat (first | apply Kd.R_alloc | apply Kd.R_drewN | apply Kd.R_drew)); exact Kd.R_mono HO304.out (fun _ hk => trivial)⟩, ⟨by repeat (first | (with_reducible first | exact HB.out | apply below_alloc | apply pw_below_drewN | apply below_drew1) | exact HB.out)⟩⟩
            case round =>
              clear H'
              try clear c1
              try clear p2
              try clear c3
              try clear c4
              try clear c7
              try clear c8
              try clear c8b0
              try clear c10
              try clear c11
              try clear c12
              try clear p2
              obtain ⟨x4_2, x5_2, rfl, HA, HK2, HO_0, HO_4, HB⟩ := hrel
              have hl4_2 := (Kd.R_reads' HO_4.out).1
              rw [hl4_2] at HO_4
              (try simp only [hl4_2])
              (try simp only [hl4_2] at HO_0)
              cases gk with
              | zero => exact absurd HA.out (by simp [boltinglaw19_RunScripts.l1])
              | succ k2 =>
                have H := HA.out
                clear HA
                simp only [boltinglaw19_RunScripts.l1] at H
                by_cases c17 : x5_2 < (x4_2.length : Int)
                · rw [if_pos c17] at H
                  have c17b0 : decide (x5_2 < (x4_2.length : Int)) = true := decide_eq_true c17
                  (try (have c17h0 := c17b0; simp only [hl4_2] at c17h0))
                  clear c17
                  by_cases c18 : 0 ≤ x5_2
                  · rw [if_pos c18] at H
                    have c18b0 : decide (0 ≤ x5_2) = true := decide_eq_true c18
                    clear c18
                    obtain ⟨y309, hy309⟩ : ∃ y_ : List (S30), y_ = (x4_2.set (x5_2 : Int).toNat (⟨(rd_T30 x4_2 x5_2).f0, (rd_T30 x4_2 x5_2).f1, (⟨#[120]⟩ : ByteArray)⟩ : S30)) := ⟨_, rfl⟩
                    replace H : (boltinglaw19_RunScripts.l1 k2 t294 x3_1 y309 (wrap64 (x5_2 + 1))) = some r := by first | (rw [hy309]; with_reducible exact H) | (have H2_ := (Option.bind_some _ _).symm.trans H; rw [hy309]; with_reducible exact H2_) | (have H2_ := (Option.bind_some _ _).symm.trans H; with_reducible exact H2_) | with_reducible exact H | (rw [hy309]; exact H) | exact H
                    have Ny309 := Aside0.mk hy309
                    clear hy309
                    have H' := Aside0.mk H
                    clear H
                    have p19 : 0 ≤ (x5_2 : Int) := of_decide_eq_true (by first | (with_reducible assumption) | assumption)
                    have q19 : (x5_2 : Int) < ((x4_2.length : Int) : Int) := of_decide_eq_true (by first | (with_reducible assumption) | assumption)
                    obtain ⟨go19, co19, eo19, gb19, gl19, cl19, HG19⟩ := Kd.R_form HO_4.out (by omega)
                    (first | cases eo19 | (injection eo19 with ea_ en_ ec_; (first | subst ea_ | (injection ea_ with ea_; subst ea_)); subst ec_; clear en_))
                    have GB19 := Aside0.mk gb19
                    have GG19 := Aside0.mk HG19
                    clear gb19 gl19 HG19
                    obtain ⟨ce19, hcl19, hM19, hcc19, hfr19⟩ := Kd.R_elem HO_4.out z30 (x5_2 : Int) p19 q19
                    obtain rfl := k30_openM hM19
                    have hx19_0 : wr.cell? ⟨go19, (x5_2 : Int).toNat * 3, none⟩ = some (.int .i64 ((rd_T30 x4_2 x5_2).f0)) := hcc19 0 _ rfl
                    have hx19_1 : wr.cell? ⟨go19, (x5_2 : Int).toNat * 3 + 1, none⟩ = some (.int .i64 ((rd_T30 x4_2 x5_2).f1)) := hcc19 1 _ rfl
                    have hx19_2 : wr.cell? ⟨go19, (x5_2 : Int).toNat * 3 + 2, none⟩ = some (.string ((rd_T30 x4_2 x5_2).f2)) := hcc19 2 _ rfl
                    have hf19_0 : wr.frozen? ⟨go19, (x5_2 : Int).toNat * 3, none⟩ = false := hfr19 0
                    have hf19_1 : wr.frozen? ⟨go19, (x5_2 : Int).toNat * 3 + 1, none⟩ = false := hfr19 1
                    have hf19_2 : wr.frozen? ⟨go19, (x5_2 : Int).toNat * 3 + 2, none⟩ = false := hfr19 2
                    clear hcl19 hcc19 hfr19 hM19
                    replace p19 := eq_true p19
                    replace q19 := eq_true q19
                    have HX20 := Aside0.mk (show Kd.R k30 30 wr w.heap.size (fun _ => True) (.slice (some ⟨go19, 0, none⟩) x4_2.length co15) x4_2 from (by (with_reducible repeat (first | apply Kd.R_alloc | apply Kd.R_drewN | apply Kd.R_drew)); exact HO_4.out))
                    obtain ⟨ce20, hcl20, hM20, hcc20, hfr20⟩ := Kd.R_elem HX20.out z30 (x5_2 : Int) (of_decide_eq_true (by first | (with_reducible assumption) | assumption)) (by have h_ : (x5_2 : Int) < ((x4_2.length : Int) : Int) := of_decide_eq_true (by first | (with_reducible assumption) | assumption); first | exact h_ | (have e_ := (Kd.R_reads' HO_4.out).1; omega) | simpa using h_)
                    obtain rfl := k30_openM hM20
                    have HP20 := Kd.R_seg HX20.out (x5_2 : Int) (of_decide_eq_true (by first | (with_reducible assumption) | assumption)) (by have h_ : (x5_2 : Int) < ((x4_2.length : Int) : Int) := of_decide_eq_true (by first | (with_reducible assumption) | assumption); first | exact h_ | (have e_ := (Kd.R_reads' HO_4.out).1; omega) | simpa using h_) (seg := [.string (⟨#[120]⟩ : ByteArray)]) (j := 2) hcl20 hcc20 (show 3 ≤ 3 from by decide) (x' := (⟨(rd_T30 x4_2 x5_2).f0, (rd_T30 x4_2 x5_2).f1, (⟨#[120]⟩ : ByteArray)⟩ : S30)) (k30_mkM _ _ _ (⟨(rd_T30 x4_2 x5_2).f0, (rd_T30 x4_2 x5_2).f1, (⟨#[120]⟩ : ByteArray)⟩ : S30) ) (fun _ hk => hk)
                    have hx20_2 := hcc20 2 _ rfl
                    (try simp only [show (k30).sz = 3 from rfl, Nat.mul_one, Nat.add_zero] at hx20_2)
                    have hf20_2 := hfr20 2
                    (try simp only [show (k30).sz = 3 from rfl, Nat.mul_one, Nat.add_zero] at hf20_2)
                    clear hcl20 hcc20 hfr20 hM20
                    go_wp2_with (first | ((with_reducible refine gate_store (t := 9) (p := 32) rfl ?_); refine store_event (t := 9) (p := 32) (v := ?vo_w21) (w1 := (wr.setCell ⟨go19, (x5_2 : Int).toNat * 3 + 2, none⟩ (.string (⟨#[120]⟩ : ByteArray)))) ?hg ?ho ?hn ?hr ?_; (case ho => rfl); (case hg => rfl); (case hn => rfl); (case hr => first | (go_simp; done) | (go_simp; rfl)); intro w21 hw; have hg : wr.grownBy w21 (some go19) := (by rw [hw]; exact HP20.2); have hp_ : Kd.R k30 30 w21 w.heap.size (fun _ => True) (.slice (some ⟨go19, 0, none⟩) x4_2.length co15) y309 := (by rw [hw, Ny309.out]; exact HP20.1); clear HP20; have n0_ := Aside0.mk (Kd.N_afterv (v := (.slice (some ⟨go19, 0, none⟩) x4_2.length co15)) (v1 := (.slice (some ⟨go19, 0, none⟩) x4_2.length co15)) (ok := (fun _ => True)) (by (with_reducible repeat (first | apply Kd.N_alloc | apply Kd.N_drewN | apply Kd.N_drew)); exact Kd.N_mono HO_0.out (fun _ hk => ⟨trivial, hk⟩)) hg (.inl rfl)); have n1_ := Aside0.mk (hp_); have n2_ := Aside0.mk ((by rw [hw]; exact below_set (HB.out) GB19.out : Below w.heap.size w w21)); clear HO_0; clear HO_4; clear HB; have HO_0 := n0_; have HO_4 := n1_; have HB := n2_; clear n0_ n1_ n2_; clear hg hw hp_))
                    (try simp only [← hl4_2])
                    go_roundg k2
                    case measure => have := HK1.out; have := HK2.out; omega
                    case rel => exact ⟨(y309), (wrap64 (x5_2 + 1)), (by first | rfl | (simp; done) | (simp [*]; done)), H', ⟨by have := HK1.out; have := HK2.out; omega⟩, ⟨by (try simp only [hl4_2]); (with_reducible repeat (first | apply Kd.N_alloc | apply Kd.N_drewN | apply Kd.N_drew)); exact Kd.N_mono HO_0.out (fun _ hk => hk.2)⟩, ⟨by (try simp only [hl4_2]); (with_reducible repeat (first | apply Kd.R_alloc | apply Kd.R_drewN | apply Kd.R_drew)); exact HO_4.out⟩, ⟨by repeat (first | (with_reducible first | exact HB.out | apply below_alloc | apply pw_below_drewN | apply below_drew1) | exact HB.out)⟩⟩
                  · rw [if_neg c18] at H
                    exact absurd H (by simp)
                · rw [if_neg c17] at H
                  have c17b0 : decide (x5_2 < (x4_2.length : Int)) = false := decide_eq_false c17
                  (try (have c17h0 := c17b0; simp only [hl4_2] at c17h0))
                  clear c17
                  have H' := Aside0.mk H
                  clear H
                  go_wp2
                  (try simp only [← hl4_2])
                  go_roundg k2
                  case measure => have := HK1.out; have := HK2.out; omega
                  case rel => exact ⟨(wrap64 (x3_1 + 1)), (by first | rfl | (simp; done) | (simp [*]; done)), H', ⟨by have := HK1.out; have := HK2.out; omega⟩, ⟨by (try simp only [hl4_2]); (with_reducible repeat (first | apply Kd.N_alloc | apply Kd.N_drewN | apply Kd.N_drew)); exact Kd.N_mono HO_0.out (fun _ hk => trivial)⟩, ⟨by repeat (first | (with_reducible first | exact HB.out | apply below_alloc | apply pw_below_drewN | apply below_drew1) | exact HB.out)⟩⟩
          · replace c12 := Bool.eq_false_iff.mpr c12
            subst c12
            have H1 : (some false) = some r := by rw [if_neg (show ¬ (false = true) by decide)] at H; exact H
            clear H
            have H := H1
            clear H1
            obtain rfl := Option.some.inj H
            go_wp2_with (first | ((with_reducible refine gate_callee (f := 10) rfl ?_); refine goesL_ (some 17) rfl rfl Try.func10 (by kernel_rfl) rfl #[.slice Ao6 t294.length co6] rfl (by (try simp only [List.map_toArray, List.map_cons, List.map_nil]); first | done | rfl | (simp only [List.length_drop, List.length_take]; rfl)) ?_; (with_reducible refine (run_Scripts.calls k1 _ _ t294 t302 _ ?side1 ?side2 A9.out).mono ?_); (case side1 => repeat (first | exact (Kd.N_reads' HO_0.out).2.2 | (with_reducible refine Kd.C_alloc ?_ _) | (with_reducible refine Kd.C_drewN ?_ _) | (with_reducible refine Kd.C_drew ?_))); (case side2 => exact (Kd.N_reads' HO_0.out).2.1); rintro e w22 ⟨v303, rfl, ho0, hb⟩; refine ⟨_, rfl, ?_⟩; have n0_ := Aside0.mk (Kd.N_elder' (by (with_reducible repeat (first | apply Kd.N_alloc | apply Kd.N_drewN | apply Kd.N_drew)); exact HO_0.out) (Kd.R_base ho0) hb); have n1_ := Aside0.mk (Kd.R_lower ho0 (below_size (by repeat (first | (with_reducible first | exact HB.out | apply below_alloc | apply pw_below_drewN | apply below_drew1) | exact HB.out)))); have n2_ := Aside0.mk (below_step (by repeat (first | (with_reducible first | exact HB.out | apply below_alloc | apply pw_below_drewN | apply below_drew1) | exact HB.out)) hb); clear HO_0; clear HB; have HO_0 := n0_; have HO304 := n1_; have HB := n2_; clear n0_ n1_ n2_; (try clear hb); (try clear hb2); (try clear hk); (try clear hi); (try clear ho0)) | ((with_reducible refine gate_callee (f := 12) rfl ?_); refine goesL_ (some 20) rfl rfl Try.func12 (by kernel_rfl) rfl #[.slice Ao6 t294.length co6] rfl (by (try simp only [List.map_toArray, List.map_cons, List.map_nil]); first | done | rfl | (simp only [List.length_drop, List.length_take]; rfl)) ?_; (with_reducible refine (boltingref19_Scripts.calls k1 _ _ t294 t305 _ ?side1 ?side2 A10.out).mono ?_); (case side1 => repeat (first | exact (Kd.N_reads' HO_0.out).2.2 | (with_reducible refine Kd.C_alloc ?_ _) | (with_reducible refine Kd.C_drewN ?_ _) | (with_reducible refine Kd.C_drew ?_))); (case side2 => exact (Kd.N_reads' HO_0.out).2.1); rintro e w23 ⟨v306, rfl, ho0, hb⟩; refine ⟨_, rfl, ?_⟩; have n0_ := Aside0.mk (Kd.N_elder' (by (with_reducible repeat (first | apply Kd.N_alloc | apply Kd.N_drewN | apply Kd.N_drew)); exact HO_0.out) (Kd.R_base ho0) hb); have n1_ := Aside0.mk (Kd.R_elder' (by (with_reducible repeat (first | apply Kd.R_alloc | apply Kd.R_drewN | apply Kd.R_drew)); exact HO304.out) (Kd.R_base ho0) hb); have n2_ := Aside0.mk (Kd.R_lower (Kd.R_new' ho0 (Kd.R_lt (by (with_reducible repeat (first | apply Kd.R_alloc | apply Kd.R_drewN | apply Kd.R_drew)); exact HO304.out))) (below_size (by repeat (first | (with_reducible first | exact HB.out | apply below_alloc | apply pw_below_drewN | apply below_drew1) | exact HB.out)))); have n3_ := Aside0.mk (below_step (by repeat (first | (with_reducible first | exact HB.out | apply below_alloc | apply pw_below_drewN | apply below_drew1) | exact HB.out)) hb); clear HO_0; clear HO304; clear HB; have HO_0 := n0_; have HO304 := n1_; have HO307 := n2_; have HB := n3_; clear n0_ n1_ n2_ n3_; (try clear hb); (try clear hb2); (try clear hk); (try clear hi); (try clear ho0); obtain ⟨Ao24, co24, eo24⟩ := Kd.R_slice HO304.out; subst eo24; obtain ⟨Ao25, co25, eo25⟩ := Kd.R_slice HO307.out; subst eo25) | ((with_reducible refine gate_callee (f := 11) rfl ?_); refine goesL_ (some 21) rfl rfl Try.func11 (by kernel_rfl) rfl #[.slice Ao24 t302.length co24, .slice Ao25 t305.length co25] rfl (by (try simp only [List.map_toArray, List.map_cons, List.map_nil]); first | done | rfl | (simp only [List.length_drop, List.length_take]; rfl)) ?_; (with_reducible refine (boltingref19_Same.calls k1 _ _ t302 _ _ t305 false _ ?side1 ?side2 ?side3 ?side4 A11.out).mono ?_); (case side1 => repeat (first | exact (Kd.R_reads' HO304.out).2.2 | (with_reducible refine Kd.C_alloc ?_ _) | (with_reducible refine Kd.C_drewN ?_ _) | (with_reducible refine Kd.C_drew ?_))); (case side2 => exact (Kd.R_reads' HO304.out).2.1); (case side3 => repeat (first | exact (Kd.R_reads' HO307.out).2.2 | (with_reducible refine Kd.C_alloc ?_ _) | (with_reducible refine Kd.C_drewN ?_ _) | (with_reducible refine Kd.C_drew ?_))); (case side4 => exact (Kd.R_reads' HO307.out).2.1); rintro e w' ⟨rfl, ⟨nd, rfl⟩⟩; refine ⟨_, rfl, ?_⟩))
            go_ret
            exact ⟨by first | rfl | (simp [errW_none, errW_some] <;> rfl) | (simp [*, errW_none, errW_some] <;> rfl), by repeat (first | (with_reducible first | exact HB.out | apply below_alloc | apply pw_below_drewN | apply below_drew1) | exact HB.out)⟩
        · rw [if_neg c8] at H
          have c8b0 : decide (x3_1 < 2) = false := decide_eq_false c8
          clear c8
          replace H := Option.bind_eq_some_iff.mp H
          obtain ⟨t299, A260, H⟩ := H
          replace H : ((boltingref19_Nothing.f k1 t294).bind fun t300 => (if (t299 == t300) = true then ((boltinglaw19_fixed.f k1).bind fun t301 => (some t301)) else (some false))) = some r := H
          have A26 := Aside0.mk A260
          clear A260
          replace H := Option.bind_eq_some_iff.mp H
          obtain ⟨t300, A270, H⟩ := H
          replace H : (if (t299 == t300) = true then ((boltinglaw19_fixed.f k1).bind fun t301 => (some t301)) else (some false)) = some r := H
          have A27 := Aside0.mk A270
          clear A270
          by_cases c28 : (t299 == t300) = true
          · rw [if_pos c28] at H
            have c28b0 : (t299 == t300) = true := c28
            (try (have c28b1 : decide (t299 = t300) = true := by simpa using c28))
            (try (have c28b2 : (t299 == t300) = true := by simpa using c28))
            clear c28
            replace H := Option.bind_eq_some_iff.mp H
            obtain ⟨t301, A290, H⟩ := H
            replace H : (some t301) = some r := H
            have A29 := Aside0.mk A290
            clear A290
            obtain rfl := Option.some.inj H
            go_wp2_with (first | ((with_reducible refine gate_callee (f := 13) rfl ?_); refine goesL_ (some 34) rfl rfl Try.func13 (by kernel_rfl) rfl #[.slice Ao6 t294.length co6] rfl (by (try simp only [List.map_toArray, List.map_cons, List.map_nil]); first | done | rfl | (simp only [List.length_drop, List.length_take]; rfl)) ?_; (with_reducible refine (run_Nothing.calls k1 _ _ t294 t299 _ ?side1 ?side2 A26.out).mono ?_); (case side1 => repeat (first | exact (Kd.N_reads' HO_0.out).2.2 | (with_reducible refine Kd.C_alloc ?_ _) | (with_reducible refine Kd.C_drewN ?_ _) | (with_reducible refine Kd.C_drew ?_))); (case side2 => exact (Kd.N_reads' HO_0.out).2.1); rintro e w30 ⟨rfl, hb⟩; refine ⟨_, rfl, ?_⟩; have n0_ := Aside0.mk (Kd.N_below (by (with_reducible repeat (first | apply Kd.N_alloc | apply Kd.N_drewN | apply Kd.N_drew)); exact HO_0.out) hb); have n1_ := Aside0.mk (below_step (by repeat (first | (with_reducible first | exact HB.out | apply below_alloc | apply pw_below_drewN | apply below_drew1) | exact HB.out)) hb); clear HO_0; clear HB; have HO_0 := n0_; have HB := n1_; clear n0_ n1_; (try clear hb); (try clear hb2); (try clear hk); (try clear hi)) | ((with_reducible refine gate_callee (f := 14) rfl ?_); refine goesL_ (some 36) rfl rfl Try.func14 (by kernel_rfl) rfl #[.slice Ao6 t294.length co6] rfl (by (try simp only [List.map_toArray, List.map_cons, List.map_nil]); first | done | rfl | (simp only [List.length_drop, List.length_take]; rfl)) ?_; (with_reducible refine (boltingref19_Nothing.calls k1 _ _ t294 t300 _ ?side1 ?side2 A27.out).mono ?_); (case side1 => repeat (first | exact (Kd.N_reads' HO_0.out).2.2 | (with_reducible refine Kd.C_alloc ?_ _) | (with_reducible refine Kd.C_drewN ?_ _) | (with_reducible refine Kd.C_drew ?_))); (case side2 => exact (Kd.N_reads' HO_0.out).2.1); rintro e w31 ⟨rfl, hb⟩; refine ⟨_, rfl, ?_⟩; have n0_ := Aside0.mk (Kd.N_below (by (with_reducible repeat (first | apply Kd.N_alloc | apply Kd.N_drewN | apply Kd.N_drew)); exact HO_0.out) hb); have n1_ := Aside0.mk (below_step (by repeat (first | (with_reducible first | exact HB.out | apply below_alloc | apply pw_below_drewN | apply below_drew1) | exact HB.out)) hb); clear HO_0; clear HB; have HO_0 := n0_; have HB := n1_; clear n0_ n1_; (try clear hb); (try clear hb2); (try clear hk); (try clear hi)) | (go_at_call 9; (with_reducible refine (boltinglaw19_fixed.calls k1  t301 _ A29.out).mono ?_); rintro e w32 ⟨rfl, hb⟩; have n0_ := Aside0.mk (Kd.N_below (by (with_reducible repeat (first | apply Kd.N_alloc | apply Kd.N_drewN | apply Kd.N_drew)); exact HO_0.out) hb); have n1_ := Aside0.mk (below_step (by repeat (first | (with_reducible first | exact HB.out | apply below_alloc | apply pw_below_drewN | apply below_drew1) | exact HB.out)) hb); clear HO_0; clear HB; have HO_0 := n0_; have HB := n1_; clear n0_ n1_; (try clear hb); (try clear hb2); (try clear hk); (try clear hi)))
            go_ret
            exact ⟨by first | rfl | (simp [errW_none, errW_some] <;> rfl) | (simp [*, errW_none, errW_some] <;> rfl), by repeat (first | (with_reducible first | exact HB.out | apply below_alloc | apply pw_below_drewN | apply below_drew1) | exact HB.out)⟩
          · rw [if_neg c28] at H
            have c28b0 : (t299 == t300) = false := by simpa using c28
            (try (have c28b1 : decide (t299 = t300) = false := by simpa using c28))
            (try (have c28b2 : (t299 == t300) = false := by simpa using c28))
            (try (have c28b3 : ¬ (t299 = t300) := by simpa using c28))
            clear c28
            obtain rfl := Option.some.inj H
            go_wp2_with (first | ((with_reducible refine gate_callee (f := 13) rfl ?_); refine goesL_ (some 34) rfl rfl Try.func13 (by kernel_rfl) rfl #[.slice Ao6 t294.length co6] rfl (by (try simp only [List.map_toArray, List.map_cons, List.map_nil]); first | done | rfl | (simp only [List.length_drop, List.length_take]; rfl)) ?_; (with_reducible refine (run_Nothing.calls k1 _ _ t294 t299 _ ?side1 ?side2 A26.out).mono ?_); (case side1 => repeat (first | exact (Kd.N_reads' HO_0.out).2.2 | (with_reducible refine Kd.C_alloc ?_ _) | (with_reducible refine Kd.C_drewN ?_ _) | (with_reducible refine Kd.C_drew ?_))); (case side2 => exact (Kd.N_reads' HO_0.out).2.1); rintro e w33 ⟨rfl, hb⟩; refine ⟨_, rfl, ?_⟩; have n0_ := Aside0.mk (Kd.N_below (by (with_reducible repeat (first | apply Kd.N_alloc | apply Kd.N_drewN | apply Kd.N_drew)); exact HO_0.out) hb); have n1_ := Aside0.mk (below_step (by repeat (first | (with_reducible first | exact HB.out | apply below_alloc | apply pw_below_drewN | apply below_drew1) | exact HB.out)) hb); clear HO_0; clear HB; have HO_0 := n0_; have HB := n1_; clear n0_ n1_; (try clear hb); (try clear hb2); (try clear hk); (try clear hi)) | ((with_reducible refine gate_callee (f := 14) rfl ?_); refine goesL_ (some 36) rfl rfl Try.func14 (by kernel_rfl) rfl #[.slice Ao6 t294.length co6] rfl (by (try simp only [List.map_toArray, List.map_cons, List.map_nil]); first | done | rfl | (simp only [List.length_drop, List.length_take]; rfl)) ?_; (with_reducible refine (boltingref19_Nothing.calls k1 _ _ t294 t300 _ ?side1 ?side2 A27.out).mono ?_); (case side1 => repeat (first | exact (Kd.N_reads' HO_0.out).2.2 | (with_reducible refine Kd.C_alloc ?_ _) | (with_reducible refine Kd.C_drewN ?_ _) | (with_reducible refine Kd.C_drew ?_))); (case side2 => exact (Kd.N_reads' HO_0.out).2.1); rintro e w34 ⟨rfl, hb⟩; refine ⟨_, rfl, ?_⟩; have n0_ := Aside0.mk (Kd.N_below (by (with_reducible repeat (first | apply Kd.N_alloc | apply Kd.N_drewN | apply Kd.N_drew)); exact HO_0.out) hb); have n1_ := Aside0.mk (below_step (by repeat (first | (with_reducible first | exact HB.out | apply below_alloc | apply pw_below_drewN | apply below_drew1) | exact HB.out)) hb); clear HO_0; clear HB; have HO_0 := n0_; have HB := n1_; clear n0_ n1_; (try clear hb); (try clear hb2); (try clear hk); (try clear hi)))
            go_ret
            exact ⟨by first | rfl | (simp [errW_none, errW_some] <;> rfl) | (simp [*, errW_none, errW_some] <;> rfl), by repeat (first | (with_reducible first | exact HB.out | apply below_alloc | apply pw_below_drewN | apply below_drew1) | exact HB.out)⟩
  · replace c4 := Bool.eq_false_iff.mpr c4
    subst c4
    have H1 : ((boltinglaw19_fixed.f k).bind fun t298 => (some t298)) = some r := by rw [if_neg (show ¬ (false = true) by decide)] at H; exact H
    clear H
    have H := H1
    clear H1
    replace H := Option.bind_eq_some_iff.mp H
    obtain ⟨t298, A350, H⟩ := H
    replace H : (some t298) = some r := H
    have A35 := Aside0.mk A350
    clear A350
    obtain rfl := Option.some.inj H
    go_enter Try.func3, Try.ntmps3
    go_wp2_with (first | ((with_reducible refine gate_callee (f := 7) rfl ?_); refine goesL_ (some 7) rfl rfl Try.func7 (by kernel_rfl) rfl #[.slice A0 l0.length c0] rfl (by (try simp only [List.map_toArray, List.map_cons, List.map_nil]); first | done | rfl | (simp only [List.length_drop, List.length_take]; rfl)) ?_; (with_reducible refine (boltinglaw19_bound.calls k (fun k_ => k_ < w.heap.size) _ _ l0 t294 _ ?side1 A2.out).mono ?_); (case side1 => exact Kd.V_mk HC0.out (Kd.F_below (Kd.C_F k34_heap HR0.out) (by repeat (first | (with_reducible first | exact HB.out | apply below_alloc | apply pw_below_drewN | apply below_drew1) | exact HB.out)))); rintro e w36 ⟨v295, rfl, ho0, hb⟩; refine ⟨_, rfl, ?_⟩; have n0_ := Aside0.mk (Kd.N_lower (Kd.N_mono (ok' := fun k_ => True) ho0 (fun k_ hk_ => trivial)) (below_size (by repeat (first | (with_reducible first | exact HB.out | apply below_alloc | apply pw_below_drewN | apply below_drew1) | exact HB.out)))); have n1_ := Aside0.mk (below_step (by repeat (first | (with_reducible first | exact HB.out | apply below_alloc | apply pw_below_drewN | apply below_drew1) | exact HB.out)) hb); clear HB; have HO296 := n0_; have HB := n1_; clear n0_ n1_; (try clear hb); (try clear hb2); (try clear hk); (try clear hi); (try clear ho0); obtain ⟨Ao37, co37, eo37⟩ := Kd.N_slice HO296.out; subst eo37) | ((with_reducible refine gate_callee (f := 8) rfl ?_); refine goesL_ (some 9) rfl rfl Try.func8 (by kernel_rfl) rfl #[.slice Ao37 t294.length co37] rfl (by (try simp only [List.map_toArray, List.map_cons, List.map_nil]); first | done | rfl | (simp only [List.length_drop, List.length_take]; rfl)) ?_; (with_reducible refine (boltingref04_Right.calls k _ _ t294 false _ ?side1 ?side2 A3.out).mono ?_); (case side1 => repeat (first | exact (Kd.N_reads' HO296.out).2.2 | (with_reducible refine Kd.C_alloc ?_ _) | (with_reducible refine Kd.C_drewN ?_ _) | (with_reducible refine Kd.C_drew ?_))); (case side2 => exact (Kd.N_reads' HO296.out).2.1); rintro e w38 ⟨rfl, hb⟩; refine ⟨_, rfl, ?_⟩; have n0_ := Aside0.mk (Kd.N_below (by (with_reducible repeat (first | apply Kd.N_alloc | apply Kd.N_drewN | apply Kd.N_drew)); exact HO296.out) hb); have n1_ := Aside0.mk (below_step (by repeat (first | (with_reducible first | exact HB.out | apply below_alloc | apply pw_below_drewN | apply below_drew1) | exact HB.out)) hb); clear HO296; clear HB; have HO296 := n0_; have HB := n1_; clear n0_ n1_; (try clear hb); (try clear hb2); (try clear hk); (try clear hi)) | ((with_reducible refine gate_callee (f := 9) rfl ?_); refine goesL_ (some 11) rfl rfl Try.func9 (by kernel_rfl) rfl #[] rfl (by (try simp only [List.map_toArray, List.map_cons, List.map_nil]); first | done | rfl | (simp only [List.length_drop, List.length_take]; rfl)) ?_; (with_reducible refine (boltinglaw19_fixed.calls k  t298 _ A35.out).mono ?_); rintro e w39 ⟨rfl, hb⟩; refine ⟨_, rfl, ?_⟩; have n0_ := Aside0.mk (Kd.N_below (by (with_reducible repeat (first | apply Kd.N_alloc | apply Kd.N_drewN | apply Kd.N_drew)); exact HO296.out) hb); have n1_ := Aside0.mk (below_step (by repeat (first | (with_reducible first | exact HB.out | apply below_alloc | apply pw_below_drewN | apply below_drew1) | exact HB.out)) hb); clear HO296; clear HB; have HO296 := n0_; have HB := n1_; clear n0_ n1_; (try clear hb); (try clear hb2); (try clear hk); (try clear hi)))
    go_ret
    exact ⟨by first | rfl | (simp [errW_none, errW_some] <;> rfl) | (simp [*, errW_none, errW_some] <;> rfl), by repeat (first | (with_reducible first | exact HB.out | apply below_alloc | apply pw_below_drewN | apply below_drew1) | exact HB.out)⟩

end Go.Proofs.Ytakhldahohooiaa.Pr
/- Plain laws of addresses (chapter 19). -/
namespace Go.Proofs.Ytakhldahohooiaa.Pure
set_option linter.unusedVariables false
set_option linter.unusedSimpArgs false
open Go.RowKit Go.Proofs.YtakhldahohooiaaW.PrintWords Go.Proofs.YtakhldahohooiaaW.PrintLast Go.Proofs.YtakhldahohooiaaW.PrintMore

theorem wrap_succ {i : Int} (h0 : -1 ≤ i) (h : i < 9000000000000000000) : wrap64 (i + 1) = i + 1 := by unfold wrap64; omega
theorem wrap_id {i : Int} (h0 : -9000000000000000000 ≤ i) (h : i < 9000000000000000000) : wrap64 i = i := by unfold wrap64; omega
theorem bt_c {s : ByteArray} {k : Nat} {c : UInt8} (h : s.data.toList[k]? = some c) : bt s (k : Int) = (c.toNat : Int) := by
  have hl : k < s.data.toList.length := (List.getElem?_eq_some_iff.1 h).1
  have hl' : k < s.size := by simpa using hl
  have := byte_at s k hl'
  rw [h] at this
  unfold bt
  rw [dif_pos (by simpa using hl')]
  simp only [Int.toNat_natCast]
  rw [← Option.some.inj this]
theorem at_some (s : ByteArray) {k : Nat} (h : k < s.size) : ∃ c, s.data.toList[k]? = some c := ⟨_, byte_at s k h⟩
theorem at_lt {s : ByteArray} {k : Nat} {c : UInt8} (h : s.data.toList[k]? = some c) : k < s.size := by
  have hl : k < s.data.toList.length := (List.getElem?_eq_some_iff.1 h).1
  simpa using hl
def toI (l : List UInt8) : List Int := l.map fun c => (c.toNat : Int)
theorem toI_snoc (l : List UInt8) (c : UInt8) : toI l ++ [(c.toNat : Int)] = toI (l ++ [c]) := by simp [toI]
theorem toI_len (l : List UInt8) : (toI l).length = l.length := by simp [toI]
theorem str_toI (l : List UInt8) : strOfNums (toI l) = mkS l := by
  simp [strOfNums, toI, mkS, List.map_map, Function.comp_def]
theorem mkS_list (l : List UInt8) : (mkS l).data.toList = l := rfl
theorem mkS_toList (l : List UInt8) : (mkS l).toList = l := by rw [Lib.toList_data]; rfl
theorem mkS_size (l : List UInt8) : (mkS l).size = l.length := by rw [Lib.size_eq]; rfl

/-! ### Strip -/
theorem rcut_append (p : UInt8 → Bool) (a b : List UInt8) : rcut p (a ++ b) = if rcut p b = [] then rcut p a else a ++ rcut p b := by
  unfold rcut
  rw [List.reverse_append, List.dropWhile_append]
  cases h : (b.reverse.dropWhile p) with
  | nil => simp
  | cons x t => simp
theorem lead_snoc (p : UInt8 → Bool) (l : List UInt8) (c : UInt8) : lead p (l ++ [c]) = if lead p l = l.length then (if p c then l.length + 1 else l.length) else lead p l := by
  unfold lead
  rw [List.takeWhile_append]
  split
  · simp only [List.takeWhile_cons, List.takeWhile_nil]
    split <;> simp
  · rfl
def F (l : List UInt8) : Int := if lead ws l = l.length then -1 else (lead ws l : Int)
def T (l : List UInt8) : Int := (tail ws l : Int) - 1
theorem F_ws {l : List UInt8} {c : UInt8} (h : ws c = true) : F (l ++ [c]) = F l := by
  unfold F
  rw [lead_snoc, h]
  have := lead_le ws l
  by_cases h1 : lead ws l = l.length
  · rw [if_pos h1, if_pos h1]; simp
  · rw [if_neg h1, if_neg h1, if_neg (by simp; omega)]
theorem F_non {l : List UInt8} {c : UInt8} (h : ws c = false) : F (l ++ [c]) = if F l < 0 then (l.length : Int) else F l := by
  unfold F
  rw [lead_snoc, h]
  have := lead_le ws l
  by_cases h1 : lead ws l = l.length
  · rw [if_pos h1, if_pos h1]; simp
  · rw [if_neg h1, if_neg h1, if_neg (by simp; omega), if_neg (by omega)]
theorem T_ws {l : List UInt8} {c : UInt8} (h : ws c = true) : T (l ++ [c]) = T l := by
  unfold T tail
  rw [rcut_append_one, h]; simp
theorem T_non {l : List UInt8} {c : UInt8} (h : ws c = false) : T (l ++ [c]) = l.length := by
  unfold T tail
  rw [rcut_append_one, h]; simp
theorem drop_nil_all {p : UInt8 → Bool} : ∀ {m : List UInt8}, m.dropWhile p = [] ↔ ∀ x ∈ m, p x = true
  | [] => by simp
  | c :: t => by
    rw [List.dropWhile_cons]
    by_cases h : p c = true
    · rw [if_pos h, drop_nil_all]; simp [h]
    · rw [if_neg h]; simp [h]
theorem lead_all {p : UInt8 → Bool} : ∀ {m : List UInt8}, lead p m = m.length ↔ ∀ x ∈ m, p x = true
  | [] => by simp [lead]
  | c :: t => by
    have ih := @lead_all p t
    unfold lead at ih ⊢
    rw [List.takeWhile_cons]
    by_cases h : p c = true
    · rw [if_pos h]; simp [h, ih]
    · rw [if_neg h]; simp [h]
theorem rcut_nil_iff {p : UInt8 → Bool} {l : List UInt8} : rcut p l = [] ↔ lead p l = l.length := by
  rw [lead_all]
  unfold rcut
  rw [List.reverse_eq_nil_iff, drop_nil_all]
  simp
/-! ### a scheme is told by what stands ahead of the first colon -/
def pre (l : List UInt8) : List UInt8 := (bef 58 (l.dropWhile ws)).filter keep
end Go.Proofs.Ytakhldahohooiaa.Pure
namespace Go.Proofs.Ytakhldahohooiaa.Pr
open Go.RowKit Go.Proofs.YtakhldahohooiaaW.PrintWords Go.Proofs.YtakhldahohooiaaW.PrintLast Go.Proofs.YtakhldahohooiaaW.PrintMore
attribute [local go_sem] max2_int min2_int max_two min_two max_three min_three max_four min_four   -- for this text's walks alone
set_option linter.unusedVariables false
set_option linter.unusedSimpArgs false

/-! ### risk_Element: function 34 -/
def risk_Element.f (a0 : ByteArray) : Option (Bool) := if a0.toList = ([98, 97, 115, 101] : List UInt8) then (some true) else (if a0.toList = ([101, 109, 98, 101, 100] : List UInt8) then (some true) else (if a0.toList = ([102, 114, 97, 109, 101] : List UInt8) then (some true) else (if a0.toList = ([105, 102, 114, 97, 109, 101] : List UInt8) then (some true) else (if a0.toList = ([108, 105, 110, 107] : List UInt8) then (some true) else (if a0.toList = ([109, 101, 116, 97] : List UInt8) then (some true) else (if a0.toList = ([111, 98, 106, 101, 99, 116] : List UInt8) then (some true) else (if a0.toList = ([115, 99, 114, 105, 112, 116] : List UInt8) then (some true) else (some false))))))))
/-! ### risk_Attr: function 35 -/
def risk_Attr.f (a0 : ByteArray) (a1_0 : ByteArray) (a1_1 : ByteArray) : Option (Bool) := (risk_Sink.f a0 a1_0).bind fun t390 => (if t390 = 0 then ((risk_Nav.f a0 a1_0).bind fun t391 => (if t391 = true then ((link_Script.f a1_1).bind fun t392 => (some t392)) else (some false))) else (some true))
/-! ### risk_Safe: function 18 -/
mutual
def risk_Safe.l0 : Nat → List (S34) → Int → Int → Option (Bool)
  | 0, _, _, _ => none
  | k + 1, x7, x8, x9 => if x9 < x8 then (if 0 ≤ x9 then (if x9 < (x7.length : Int) then (if ((rd_T34 x7 x9).f1) = 0 then ((risk_Element.f ((rd_T34 x7 x9).f2)).bind fun t395 => (if t395 = true then (some false) else (risk_Safe.l1 k x7 x8 x9 ((rd_T34 x7 x9).f4) (((rd_T34 x7 x9).f4).length : Int) 0 ((rd_T34 x7 x9).f0) ((rd_T34 x7 x9).f1) ((rd_T34 x7 x9).f2) ((rd_T34 x7 x9).f3) ((rd_T34 x7 x9).f4)))) else (risk_Safe.l0 k x7 x8 (wrap64 (x9 + 1)))) else (none)) else (none)) else (some true)
def risk_Safe.l1 : Nat → List (S34) → Int → Int → List (S39) → Int → Int → Int → Int → ByteArray → ByteArray → List (S39) → Option (Bool)
  | 0, _, _, _, _, _, _, _, _, _, _, _ => none
  | k + 1, x7, x8, x9, x20, x21, x22, x395000, x395001, x395002, x395003, x395004 => if x22 < x21 then (if 0 ≤ x22 then (if x22 < (x20.length : Int) then ((risk_Attr.f x395002 ((rd_T39 x20 x22).f0) ((rd_T39 x20 x22).f1)).bind fun t398 => (if t398 = true then (some false) else (risk_Safe.l1 k x7 x8 x9 x20 x21 (wrap64 (x22 + 1)) x395000 x395001 x395002 x395003 x395004))) else (none)) else (none)) else (risk_Safe.l0 k x7 x8 (wrap64 (x9 + 1)))
end
def risk_Safe.f (k : Nat) (l0 : List (S34)) : Option (Bool) := risk_Safe.l0 k l0 (l0.length : Int) 0
end Go.Proofs.Ytakhldahohooiaa.Pr
/- risk.Safe, run.Nothing and the rest of chapter 19 over rows: plain Lean. -/
namespace Go.Proofs.Ytakhldahohooiaa.Pure
set_option linter.unusedVariables false
set_option linter.unusedSimpArgs false
open Go.RowKit Go.Proofs.Ytakhldahohooiaa.Pr Go.Proofs.YtakhldahohooiaaW.PrintWords Go.Proofs.YtakhldahohooiaaW.PrintLast Go.Proofs.YtakhldahohooiaaW.PrintMore

abbrev dat (s : ByteArray) : List UInt8 := s.data.toList
theorem toList_dat (s : ByteArray) : s.toList = dat s := Lib.toList_data s
theorem dat_inj {a b : ByteArray} (h : dat a = dat b) : a = b := by rw [← Lib.mk_data a, ← Lib.mk_data b]; exact congrArg (fun l : List UInt8 => (⟨l.toArray⟩ : ByteArray)) h
theorem dat_len (s : ByteArray) : (dat s).length = s.size := (Lib.size_eq s).symm
theorem dat_app (a b : ByteArray) : dat (a ++ b) = dat a ++ dat b := by simp
theorem more {α : Type} {f : Nat → Option α} (hm : ∀ k, LeO (f k) (f (k + 1))) {m k : Nat} (hk : m ≤ k) {r : α} (h : f m = some r) : f k = some r := by
  induction hk with
  | refl => exact h
  | step _ ih => exact hm _ _ ih
set_option maxRecDepth 100000 in
theorem fixed_f {k : Nat} (hk : 40 ≤ k) : boltinglaw19_fixed.f k = some true :=
  more (f := fun k => boltinglaw19_fixed.f k) boltinglaw19_fixed.mono hk (by decide +kernel)
theorem extract_pre' (s : ByteArray) (n : Nat) : (s.extract 0 n).toList = (dat s).take n := by rw [Lib.toList_data, extract_pre]
theorem isPrefix_take (s p : List UInt8) : p.isPrefixOf s = decide (s.take p.length = p) := by
  rw [Bool.eq_iff_iff, List.isPrefixOf_iff_prefix, decide_eq_true_eq, List.prefix_iff_eq_take]
  exact ⟨fun h => h.symm, fun h => h.symm⟩
theorem prefix_f (s p : ByteArray) (hs : s.size ≤ 4000000000000000000) : strings_HasPrefix.f s p = some (Lib.hasPrefix (dat s) (dat p)) := by
  unfold strings_HasPrefix.f stringslite_HasPrefix.f
  unfold Lib.hasPrefix
  rw [isPrefix_take, dat_len]
  by_cases h : (s.size : Int) ≥ (p.size : Int)
  · rw [if_pos h, if_pos (by omega), if_pos (by omega)]
    simp only [Option.bind_some]
    rw [extract_pre', Int.toNat_natCast, toList_dat]
    refine congrArg some ?_
    rw [Bool.eq_iff_iff, beq_iff_eq, decide_eq_true_eq]
  · rw [if_neg h]
    simp only [Option.bind_some]
    refine congrArg some (Eq.symm (decide_eq_false ?_))
    intro e
    have := congrArg List.length e
    rw [List.length_take, dat_len, dat_len] at this
    omega
theorem handler_f (s : ByteArray) (hs : s.size ≤ 4000000000000000000) : risk_Handler.f s = some (handlerB s) := by
  unfold risk_Handler.f handlerB
  rw [prefix_f s _ hs]
  simp only [Option.bind_some]
  show (if Lib.hasPrefix (dat s) [111, 110] = true then _ else _) = _
  cases Lib.hasPrefix (dat s) [111, 110] with
  | true =>
    rw [if_pos rfl, Bool.true_and]
    refine congrArg some ?_
    rw [decide_eq_decide]; omega
  | false => rfl
theorem get_some {α : Type} {l : List α} {i : Nat} (h : i < l.length) : ∃ x, l[i]? = some x := ⟨_, List.getElem?_eq_getElem h⟩
theorem drop_at {α : Type} {l : List α} {i : Nat} {x : α} (h : l[i]? = some x) : l.drop i = x :: l.drop (i + 1) := by
  rw [List.drop_eq_getElem?_toList_append, h]
  simp
/-- Does a text stand in a list? -/
def mem (l : List ByteArray) (s : ByteArray) : Bool := l.any fun x => decide (x = s)
def sinkF (x y : ByteArray) : Int := if handlerB y = true then 2 else sinkI x y
def unsafeL : List ByteArray := [⟨#[98, 97, 115, 101]⟩, ⟨#[101, 109, 98, 101, 100]⟩, ⟨#[102, 114, 97, 109, 101]⟩, ⟨#[105, 102, 114, 97, 109, 101]⟩, ⟨#[108, 105, 110, 107]⟩, ⟨#[109, 101, 116, 97]⟩, ⟨#[111, 98, 106, 101, 99, 116]⟩, ⟨#[115, 99, 114, 105, 112, 116]⟩]
/-- Is an attribute not safe? -/
def attrB (e n v : ByteArray) : Bool := decide (sinkF e n ≠ 0) || (navB e n && script (dat v))
theorem attr_f (e n v : ByteArray) (hv : v.size ≤ 140737488351232) : risk_Attr.f e n v = some (attrB e n v) := by
  unfold risk_Attr.f risk_Sink.f risk_Nav.f attrB
  simp only [Option.bind_some]
  show (if sinkF e n = 0 then _ else _) = _
  by_cases h : sinkF e n = 0
  · rw [if_pos h, h]
    cases hb : navB e n with
    | true => rw [if_pos rfl, show link_Script.f v = some (script (dat v)) from bnd_of _ hv]; simp
    | false => rw [if_neg (by simp)]; simp
  · rw [if_neg h]; simp [h]
/-- Is a node safe? -/
def rowB (x : S34) : Bool := if x.f1 = 0 then !mem unsafeL x.f2 && x.f4.all (fun a => !attrB x.f2 a.f0 a.f1) else true
/-- A row whose texts are no longer than texts are. -/
def Fits (x : S34) : Prop := ∀ y ∈ x.f4, y.f1.size ≤ 140737488351232
theorem t37_at {l : List S34} {i : Nat} {x : S34} (h : l[i]? = some x) : rd_T34 l (i : Int) = x := by
  unfold rd_T34
  rw [Int.toNat_natCast, List.getD_eq_getElem?_getD, h]
  rfl
theorem t30_at {l : List S39} {i : Nat} {x : S39} (h : l[i]? = some x) : rd_T39 l (i : Int) = x := by
  unfold rd_T39
  rw [Int.toNat_natCast, List.getD_eq_getElem?_getD, h]
  rfl
/-- The inner loop: the attributes from one on. -/
theorem safe_l1 (l : List S34) (n i : Int) (ats : List S39) (hl : ats.length ≤ 1000000) (e : ByteArray) (f0 f1 : Int) (f3 : ByteArray) (f4 : List S39) (hs : ∀ y ∈ ats, y.f1.size ≤ 140737488351232) (d j : Nat) : j + d = ats.length → ∀ k, d < k →
    risk_Safe.l1 k l n i ats (ats.length : Int) (j : Int) f0 f1 e f3 f4 = if (ats.drop j).all (fun a => !attrB e a.f0 a.f1) = true then risk_Safe.l0 (k - d - 1) l n (wrap64 (i + 1)) else some false := by
  induction d generalizing j with
  | zero =>
    intro h k hk
    obtain ⟨k, rfl⟩ : ∃ m, k = m + 1 := ⟨k - 1, by omega⟩
    simp only [risk_Safe.l1]
    rw [if_neg (by omega), List.drop_of_length_le (by omega)]
    rfl
  | succ d ih =>
    intro h k hk
    obtain ⟨k, rfl⟩ : ∃ m, k = m + 1 := ⟨k - 1, by omega⟩
    obtain ⟨a, ha⟩ := get_some (show j < ats.length by omega)
    simp only [risk_Safe.l1]
    rw [if_pos (by omega), if_pos (by omega), if_pos (by omega), t30_at ha, attr_f e a.f0 a.f1 (hs a (List.mem_of_getElem? ha)), drop_at ha, List.all_cons]
    simp only [Option.bind_some]
    cases hb : attrB e a.f0 a.f1 with
    | true => rw [if_pos rfl]; simp
    | false =>
      rw [if_neg (by simp), wrap_succ (by omega) (by omega)]
      have := ih (j + 1) (by omega) k (by omega)
      rw [show ((j : Int) + 1) = ((j + 1 : Nat) : Int) by omega, this, show k + 1 - (d + 1) - 1 = k - d - 1 by omega]
      simp
/-! ### no more rows than a statement can hold -/
def cut8 (x : S34) : S34 := ⟨x.f0, x.f1, x.f2, x.f3, x.f4.take (mn (x.f4.length : Int) 8).toNat⟩
def bnd40 (l : List S34) : List S34 := (l.take 40).map cut8
theorem bound_l0 (l : List S34) (hl : l.length ≤ 9223372036854775807) (N : Nat) (hN : N = 40) : ∀ (d i : Nat), i + d = N → i ≤ l.length → ∀ k, d < k → boltinglaw19_bound.l0 k l ((l.take i).map cut8) (i : Int) = some ((l.take N).map cut8) := by
  intro d
  induction d with
  | zero =>
    intro i h hi k hk
    obtain ⟨k, rfl⟩ : ∃ m, k = m + 1 := ⟨k - 1, by omega⟩
    obtain rfl : i = N := by omega
    simp only [boltinglaw19_bound.l0]
    split
    · rw [if_neg (by omega)]
    · rfl
  | succ d ih =>
    intro i h hi k hk
    obtain ⟨k, rfl⟩ : ∃ m, k = m + 1 := ⟨k - 1, by omega⟩
    simp only [boltinglaw19_bound.l0]
    by_cases hlt : i < l.length
    · obtain ⟨x, hx⟩ := get_some hlt
      have hmn : 0 ≤ mn (x.f4.length : Int) 8 ∧ mn (x.f4.length : Int) 8 ≤ (x.f4.length : Int) := by unfold mn; split <;> omega
      rw [if_pos (by omega), if_pos (by omega), if_pos (by omega), t37_at hx, if_pos hmn.1, if_pos hmn.2, if_pos (by rw [List.length_map, List.length_take]; omega), wrap_succ (by omega) (by omega)]
      have e : (l.take i).map cut8 ++ [(⟨x.f0, x.f1, x.f2, x.f3, x.f4.take (mn (x.f4.length : Int) 8).toNat⟩ : S34)] = (l.take (i + 1)).map cut8 := by
        rw [List.take_add_one, hx, List.map_append]; rfl
      rw [e]
      exact ih (i + 1) (by omega) (by omega) k (by omega)
    · rw [if_neg (by omega)]
      refine congrArg some ?_
      rw [List.take_of_length_le (show l.length ≤ i by omega), List.take_of_length_le (show l.length ≤ N by omega)]
theorem bound_f (l : List S34) (hl : l.length ≤ 9223372036854775807) {k : Nat} (hk : 50 < k) : boltinglaw19_bound.f k l = some (bnd40 l) := by
  obtain ⟨N, hN⟩ : ∃ N : Nat, N = 40 := ⟨_, rfl⟩
  have := bound_l0 l hl N hN N 0 (by omega) (by omega) k (by omega)
  unfold bnd40
  rw [← hN]
  exact this
theorem bnd_len (l : List S34) : (bnd40 l).length ≤ 40 := by unfold bnd40; rw [List.length_map, List.length_take]; omega
theorem bnd_mem {l : List S34} {x : S34} (h : x ∈ bnd40 l) : ∃ y ∈ l, x = cut8 y := by
  obtain ⟨y, hy, rfl⟩ := List.mem_map.1 h
  exact ⟨y, List.mem_of_mem_take hy, rfl⟩
theorem cut8_len (x : S34) : (cut8 x).f4.length ≤ 8 := by
  unfold cut8
  show (x.f4.take _).length ≤ 8
  rw [List.length_take]
  unfold mn; split <;> omega
/-! ### what runs nothing -/
def tagS : ByteArray := ⟨#[115, 99, 114, 105, 112, 116]⟩
def followB (x : S34) : Bool := decide (x.f1 = 0) && x.f4.any fun a => navB x.f2 a.f0 && script (dat a.f1)
def isS (x : S34) : Bool := decide (x.f1 = 0) && decide (x.f2 = tagS)
def quietB (x : S34) : Bool := !followB x && !isS x && (!decide (x.f1 = 0) || x.f4.all fun a => !handlerB a.f0)
theorem source_some (l : List UInt8) (h : script l = true) : (source l).isSome = true := by
  unfold source; rw [if_pos h]; rfl
theorem follow_l0 (ats : List S39) (hl : ats.length ≤ 1000000) (hs : ∀ y ∈ ats, y.f1.size ≤ 140737488351232) (f0 f1 : Int) (e f3 : ByteArray) (f4 : List S39) (d j : Nat) : j + d = ats.length → ∀ k, d < k →
    ∃ s, run_Follow.l0 k ats (ats.length : Int) (j : Int) f0 f1 e f3 f4 = some (s, (ats.drop j).any fun a => navB e a.f0 && script (dat a.f1)) := by
  induction d generalizing j with
  | zero =>
    intro h k hk
    obtain ⟨k, rfl⟩ : ∃ m, k = m + 1 := ⟨k - 1, by omega⟩
    simp only [run_Follow.l0]
    rw [if_neg (by omega), List.drop_of_length_le (by omega)]
    exact ⟨_, rfl⟩
  | succ d ih =>
    intro h k hk
    obtain ⟨k, rfl⟩ : ∃ m, k = m + 1 := ⟨k - 1, by omega⟩
    obtain ⟨a, ha⟩ := get_some (show j < ats.length by omega)
    have hz := hs a (List.mem_of_getElem? ha)
    obtain ⟨s, ih⟩ := ih (j + 1) (by omega) k (by omega)
    simp only [run_Follow.l0]
    rw [if_pos (by omega), if_pos (by omega), if_pos (by omega), t30_at ha, drop_at ha, List.any_cons, show risk_Nav.f e a.f0 = some (navB e a.f0) from rfl, wrap_succ (by omega) (by omega), show ((j : Int) + 1) = ((j + 1 : Nat) : Int) by omega, ih]
    simp only [Option.bind_some]
    cases hb : navB e a.f0 with
    | false => rw [if_neg (by simp)]; exact ⟨s, by simp⟩
    | true =>
      rw [if_pos rfl, show link_Script.f a.f1 = some (script (dat a.f1)) from bnd_of _ hz]
      simp only [Option.bind_some]
      cases hsc : script (dat a.f1) with
      | false => rw [if_neg (by simp)]; exact ⟨s, by simp⟩
      | true =>
        rw [if_pos rfl, show link_Source.f a.f1 = some (mkS ((source (dat a.f1)).getD []), (source (dat a.f1)).isSome) from bnd_of _ hz]
        simp only [Option.bind_some]
        rw [source_some _ hsc]
        exact ⟨mkS ((source (dat a.f1)).getD []), by simp⟩
theorem follow_f (x : S34) (hf : Fits x) (hl : x.f4.length ≤ 1000) {k : Nat} (hk : 1001 < k) : ∃ s, run_Follow.f k x.f0 x.f1 x.f2 x.f3 x.f4 = some (s, followB x) := by
  unfold run_Follow.f followB
  by_cases h : x.f1 = 0
  · rw [if_pos h]
    obtain ⟨s, hs⟩ := follow_l0 x.f4 (by omega) hf x.f0 x.f1 x.f2 x.f3 x.f4 x.f4.length 0 (by omega) k (by omega)
    rw [show ((0 : Nat) : Int) = 0 from rfl, List.drop_zero] at hs
    rw [hs]
    exact ⟨s, by simp [h]⟩
  · rw [if_neg h]; exact ⟨⟨#[]⟩, by simp [h]⟩
theorem is_f (x : S34) (t : ByteArray) : run_is.f x.f0 x.f1 x.f2 x.f3 x.f4 t = some (decide (x.f1 = 0) && decide (x.f2 = t)) := by
  unfold run_is.f
  by_cases h : x.f1 = 0
  · rw [if_pos h, toList_dat, toList_dat]
    refine congrArg some ?_
    rw [Bool.eq_iff_iff, beq_iff_eq]
    simp only [h, decide_true, Bool.true_and, decide_eq_true_eq]
    exact ⟨dat_inj, fun e => by rw [e]⟩
  · rw [if_neg h]; simp [h]
theorem nothing_l1 (l : List S34) (n i : Int) (ats : List S39) (hl : ats.length ≤ 1000000) (hh : ∀ y ∈ ats, y.f0.size ≤ 4000000000000000000) (d j : Nat) : j + d = ats.length → ∀ k, d < k →
    run_Nothing.l1 k l n i ats (ats.length : Int) (j : Int) = if (ats.drop j).all (fun a => !handlerB a.f0) = true then run_Nothing.l0 (k - d - 1) l n (wrap64 (i + 1)) else some false := by
  induction d generalizing j with
  | zero =>
    intro h k hk
    obtain ⟨k, rfl⟩ : ∃ m, k = m + 1 := ⟨k - 1, by omega⟩
    simp only [run_Nothing.l1]
    rw [if_neg (by omega), List.drop_of_length_le (by omega)]
    rfl
  | succ d ih =>
    intro h k hk
    obtain ⟨k, rfl⟩ : ∃ m, k = m + 1 := ⟨k - 1, by omega⟩
    obtain ⟨a, ha⟩ := get_some (show j < ats.length by omega)
    simp only [run_Nothing.l1]
    rw [if_pos (by omega), if_pos (by omega), if_pos (by omega), t30_at ha, handler_f a.f0 (hh a (List.mem_of_getElem? ha)), drop_at ha, List.all_cons]
    simp only [Option.bind_some]
    cases hb : handlerB a.f0 with
    | true => rw [if_pos rfl]; simp
    | false =>
      rw [if_neg (by simp), wrap_succ (by omega) (by omega)]
      have := ih (j + 1) (by omega) k (by omega)
      rw [show ((j : Int) + 1) = ((j + 1 : Nat) : Int) by omega, this, show k + 1 - (d + 1) - 1 = k - d - 1 by omega]
      simp
theorem nothing_l0 (l : List S34) (hl : l.length ≤ 1000) (hf : ∀ x ∈ l, Fits x) (hh : ∀ x ∈ l, ∀ y ∈ x.f4, y.f0.size ≤ 4000000000000000000) (ha : ∀ x ∈ l, x.f4.length ≤ 1000) (M : Nat) (hM : 1004 ≤ M) (d i : Nat) : i + d = l.length → ∀ k, d * M + 2000 ≤ k → run_Nothing.l0 k l (l.length : Int) (i : Int) = some ((l.drop i).all quietB) := by
  induction d generalizing i with
  | zero =>
    intro h k hk
    obtain ⟨k, rfl⟩ : ∃ m, k = m + 1 := ⟨k - 1, by omega⟩
    simp only [run_Nothing.l0]
    rw [if_neg (by omega), List.drop_of_length_le (by omega)]
    rfl
  | succ d ih =>
    intro h k hk
    have hk' : d * M + M + 2000 ≤ k := by rw [← Nat.succ_mul]; exact hk
    obtain ⟨D, hD⟩ : ∃ D, d * M = D := ⟨_, rfl⟩
    rw [hD] at hk' ih
    clear hk hD
    obtain ⟨k, rfl⟩ : ∃ m, k = m + 2 := ⟨k - 2, by omega⟩
    obtain ⟨x, hx⟩ := get_some (show i < l.length by omega)
    have hm : x ∈ l := List.mem_of_getElem? hx
    have hlen := ha x hm
    obtain ⟨s, hfo⟩ := follow_f x (hf x hm) hlen (k := k + 1) (by omega)
    have hw : wrap64 ((i : Int) + 1) = ((i + 1 : Nat) : Int) := by rw [wrap_succ (by omega) (by omega)]; omega
    simp only [run_Nothing.l0]
    rw [if_pos (by omega), if_pos (by omega), if_pos (by omega), t37_at hx, hfo, drop_at hx, List.all_cons, is_f x]
    simp only [Option.bind_some]
    have hq : quietB x = (!followB x && !isS x && (!decide (x.f1 = 0) || x.f4.all fun a => !handlerB a.f0)) := rfl
    rw [hq]
    show (if followB x = true then _ else run_Nothing.j1 (k + 1) l (l.length : Int) (i : Int) (isS x) x.f0 x.f1 x.f2 x.f3 x.f4) = _
    cases hfb : followB x with
    | true =>
      rw [if_pos rfl]
      simp only [run_Nothing.j1]
      rw [if_pos trivial]; simp
    | false =>
      rw [if_neg (by simp)]
      simp only [run_Nothing.j1]
      cases his : isS x with
      | true => rw [if_pos rfl]; simp
      | false =>
        rw [if_neg (by simp)]
        by_cases h1 : x.f1 = 0
        · rw [if_pos h1]
          have := nothing_l1 l (l.length : Int) (i : Int) x.f4 (by omega) (hh x hm) x.f4.length 0 (by omega) k (by omega)
          rw [show ((0 : Nat) : Int) = 0 from rfl, List.drop_zero] at this
          rw [this, hw, decide_eq_true h1]
          cases hall : x.f4.all (fun a => !handlerB a.f0) with
          | true =>
            rw [if_pos rfl, ih (i + 1) (by omega) (k - x.f4.length - 1) (by omega)]
            simp
          | false => rw [if_neg (by simp)]; simp
        · rw [if_neg h1, hw, ih (i + 1) (by omega) k (by omega), decide_eq_false h1]
          simp
theorem nothing_f (l : List S34) (hl : l.length ≤ 1000) (hf : ∀ x ∈ l, Fits x) (hh : ∀ x ∈ l, ∀ y ∈ x.f4, y.f0.size ≤ 4000000000000000000) (ha : ∀ x ∈ l, x.f4.length ≤ 1000) {k : Nat} (hk : 1100000 ≤ k) : run_Nothing.f k l = some (l.all quietB) := by
  have h1 : l.length * 1004 ≤ 1000 * 1004 := Nat.mul_le_mul_right _ hl
  have := nothing_l0 l hl hf hh ha 1004 (Nat.le_refl _) l.length 0 (Nat.zero_add _) k (Nat.le_trans (Nat.add_le_add_right h1 2000) (Nat.le_trans (by decide) hk))
  rw [List.drop_zero] at this
  exact this
/-- Safe rows run nothing. -/
theorem safe_quiet {x : S34} (h : rowB x = true) : quietB x = true := by
  unfold rowB at h
  unfold quietB followB isS
  by_cases h1 : x.f1 = 0
  · rw [if_pos h1, Bool.and_eq_true, List.all_eq_true] at h
    obtain ⟨g1, g2⟩ := h
    rw [decide_eq_true h1]
    have e1 : (x.f4.any fun a => navB x.f2 a.f0 && script (dat a.f1)) = false := List.any_eq_false.2 (fun a ha => by
      have := g2 a ha
      unfold attrB at this
      simp at this
      cases hn : navB x.f2 a.f0 with
      | false => simp
      | true => rw [hn] at this; simpa using this.2)
    have e2 : decide (x.f2 = tagS) = false := by
      refine decide_eq_false (fun e => ?_)
      rw [e] at g1
      revert g1
      decide
    have e3 : (x.f4.all fun a => !handlerB a.f0) = true := List.all_eq_true.2 (fun a ha => by
      have := g2 a ha
      unfold attrB sinkF at this
      cases hn : handlerB a.f0 with
      | false => rfl
      | true => rw [hn] at this; simp at this)
    rw [e1, e2, e3]
    rfl
  · rw [decide_eq_false h1]
    rfl
end Go.Proofs.Ytakhldahohooiaa.Pure
