import Derived.Test.YticacakoefojbaaGreatJCleanKeeps1
import Derived.Test.YticacakoefojbaaGreatJCleanKeeps4
import Derived.Test.YticacakoefojbaaGreatJCleanKeeps2
import Derived.Test.YticacakoefojbaaGreatJCleanKeeps3
import Derived.Deep.QuietTactic
import Derived.BigQuiet
set_option linter.unusedSimpArgs false
set_option linter.unusedVariables false
namespace Go.Proofs.YticacakoefojbaaGreat.Pr
open Go.RowKit Go.Proofs.YticacakoefojbaaGreatW.PrintWords Go.Proofs.YticacakoefojbaaGreatW.PrintLast Go.Proofs.YticacakoefojbaaGreatW.PrintMore
attribute [local go_sem] max2_int min2_int max_two min_two max_three min_three max_four min_four   -- for this text's walks alone

mutual
def boltingref04_Right.l0 : Nat → List (S38) → Int → Option (Bool)
 | 0, _, _ => none
 | k + 1, x0, x3 => if x3 < (x0.length : Int) then (if 0 ≤ x3 then ((boltingref04_Row.f k ((rd_T38 x0 x3).f0) ((rd_T38 x0 x3).f1) ((rd_T38 x0 x3).f2) ((rd_T38 x0 x3).f3) ((rd_T38 x0 x3).f4)).bind fun t313 => (if t313 = true then (if ((rd_T38 x0 x3).f0) < 0 then (boltingref04_Right.j1 k x0 x3 ((rd_T38 x0 x3).f0) true) else (if x3 = 0 then (boltingref04_Right.j1 k x0 x3 ((rd_T38 x0 x3).f0) (((rd_T38 x0 x3).f0) != 0)) else (boltingref04_Right.j1 k x0 x3 ((rd_T38 x0 x3).f0) false))) else (boltingref04_Right.j1 k x0 x3 ((rd_T38 x0 x3).f0) true))) else (none)) else (some true)
def boltingref04_Right.j1 : Nat → List (S38) → Int → Int → Bool → Option (Bool)
 | 0, _, _, _, _ => none
 | k + 1, x0, x3, x4, x33 => if x33 = true then (some false) else (if x3 > 0 then (if 0 ≤ (wrap64 (x3 - 1)) then (if (wrap64 (x3 - 1)) < (x0.length : Int) then (if x4 > (wrap64 (((rd_T38 x0 (wrap64 (x3 - 1))).f0) + 1)) then (some false) else (if x4 = (wrap64 (((rd_T38 x0 (wrap64 (x3 - 1))).f0) + 1)) then (if ((rd_T38 x0 (wrap64 (x3 - 1))).f1) = 0 then (boltingref04_Right.l0 k x0 (wrap64 (x3 + 1))) else (some false)) else (boltingref04_Right.l0 k x0 (wrap64 (x3 + 1))))) else (none)) else (none)) else (boltingref04_Right.l0 k x0 (wrap64 (x3 + 1))))
end
def boltingref04_Right.f (k : Nat) (l0 : List (S38)) : Option (Bool) := boltingref04_Right.l0 k l0 0
set_option maxHeartbeats 8000000 in
set_option maxRecDepth 100000 in
theorem boltingref04_Right.calls (k : Nat) (A0 : Option Addr) (c0 : Nat) (l0 : List (S38)) (r : Bool) (w : World) (hr0 : Kd.C k38 w A0 l0.length l0) (hc0 : l0.length ≤ c0) (h : boltingref04_Right.f k l0 = some r) :
  Calls Tryz.prog 30 #[.slice A0 l0.length c0] w fun e w' => e = .returned (.bool r) ∧ Below w.heap.size w w' := by
 have hu38 := Tryz.underlying38
 have HR0 := am hr0
 have HC0 := am hc0
 clear hr0 hc0
 have HB := am (Below.refl w.heap.size w)
 have H : (boltingref04_Right.l0 k l0 0) = some r := h
 clear h
 have H' := am H
 clear H
 go_enter Tryz.func30, Tryz.ntmps30
 go_wp2
 go_loopg [3] k (fun kq v3 w' => ∃ (x3_1 : Int), v3 = .int .i64 x3_1 ∧ Aside0 (boltingref04_Right.l0 kq l0 x3_1 = some r) ∧ Aside0 (kq ≤ k) ∧ Aside0 (Below w.heap.size w w'))
 case atStart => exact ⟨(0), zr, H', ⟨Nat.le_refl _⟩, ⟨zb HB⟩⟩
 case round =>
  clear H'
  obtain ⟨x3_1, rfl, HA, HK1, HB⟩ := hrel
  cases gk with
  | zero => exact absurd HA.out (by simp [boltingref04_Right.l0])
  | succ k1 =>
   have H := HA.out
   clear HA
   simp only [boltingref04_Right.l0] at H
   by_cases c2 : x3_1 < (l0.length : Int)
   ·rw [if_pos c2] at H
    have c2b0 : decide (x3_1 < (l0.length : Int)) = true := decide_eq_true c2
    clear c2
    by_cases c3 : 0 ≤ x3_1
    ·rw [if_pos c3] at H
     have c3b0 : decide (0 ≤ x3_1) = true := decide_eq_true c3
     clear c3
     have HC4 := am H
     clear H
     have p311 : 0 ≤ (x3_1 : Int) := of_decide_eq_true za
     have q311 : x3_1 < (l0.length : Int) := of_decide_eq_true za
     obtain ⟨ad311, A311_4, c311_4, e311, hx311_0, hx311_1, hx311_2, hx311_3, hx311_4, hl311_4, hi311_4⟩ := at_T38 HR0.out x3_1 p311 q311
     cases e311
     replace hx311_0 := (HB.out.cell (World.block_lt_of_cell? w _ hx311_0)).trans hx311_0
     replace hx311_1 := (HB.out.cell (World.block_lt_of_cell? w _ hx311_1)).trans hx311_1
     replace hx311_2 := (HB.out.cell (World.block_lt_of_cell? w _ hx311_2)).trans hx311_2
     replace hx311_3 := (HB.out.cell (World.block_lt_of_cell? w _ hx311_3)).trans hx311_3
     replace hx311_4 := (HB.out.cell (World.block_lt_of_cell? w _ hx311_4)).trans hx311_4
     have HR311_4 := am hi311_4
     have HC311_4 := am hl311_4
     clear hi311_4 hl311_4
     replace p311 := eq_true p311
     replace q311 := eq_true q311
     go_upto_region 5 with (fail)
     go_cut [33] (fun v33 wc => ∃ (kq : Nat) (x33_3 : Bool), v33 = .bool x33_3 ∧ Aside0 (boltingref04_Right.j1 kq l0 x3_1 ((rd_T38 l0 x3_1).f0) x33_3 = some r) ∧ Aside0 (kq ≤ k1) ∧ Aside0 (Below w.heap.size w wc))
     case first =>
      have H := HC4.out
      clear HC4
      replace H := Option.bind_eq_some_iff.mp H
      obtain ⟨t313, A50, H⟩ := H
      have A5 := am A50
      clear A50
      by_cases c6 : t313 = true
      ·subst c6
       replace H : (if ((rd_T38 l0 x3_1).f0) < 0 then (boltingref04_Right.j1 k1 l0 x3_1 ((rd_T38 l0 x3_1).f0) true) else (if x3_1 = 0 then (boltingref04_Right.j1 k1 l0 x3_1 ((rd_T38 l0 x3_1).f0) (((rd_T38 l0 x3_1).f0) != 0)) else (boltingref04_Right.j1 k1 l0 x3_1 ((rd_T38 l0 x3_1).f0) false))) = some r := by rw [if_pos rfl] at H; exact H
       by_cases c7 : ((rd_T38 l0 x3_1).f0) < 0
       ·rw [if_pos c7] at H
        have c7b0 : decide (((rd_T38 l0 x3_1).f0) < 0) = true := decide_eq_true c7
        clear c7
        (first | rw [c7b0] | (simp only [i64_w, i32_w]; rw [c7b0]) | skip)
        have H' := am H
        clear H
        have p312 : 0 ≤ (x3_1 : Int) := of_decide_eq_true za
        have q312 : x3_1 < (l0.length : Int) := of_decide_eq_true za
        obtain ⟨ad312, A312_4, c312_4, e312, hx312_0, hx312_1, hx312_2, hx312_3, hx312_4, hl312_4, hi312_4⟩ := at_T38 HR0.out x3_1 p312 q312
        obtain rfl : ad311 = ad312 := (by injection e312)
        replace hx312_0 := (HB.out.cell (World.block_lt_of_cell? w _ hx312_0)).trans hx312_0
        replace hx312_1 := (HB.out.cell (World.block_lt_of_cell? w _ hx312_1)).trans hx312_1
        replace hx312_2 := (HB.out.cell (World.block_lt_of_cell? w _ hx312_2)).trans hx312_2
        replace hx312_3 := (HB.out.cell (World.block_lt_of_cell? w _ hx312_3)).trans hx312_3
        replace hx312_4 := (HB.out.cell (World.block_lt_of_cell? w _ hx312_4)).trans hx312_4
        (try (have eq_ := hx312_4.symm.trans hx311_4; simp only [Option.some.injEq, Value.slice.injEq] at eq_; obtain ⟨eqA_, _, eqc_⟩ := eq_; subst eqA_; subst eqc_))
        have HR312_4 := am hi312_4
        have HC312_4 := am hl312_4
        clear hi312_4 hl312_4
        replace p312 := eq_true p312
        replace q312 := eq_true q312
        go_wp2_with (first | ((with_reducible refine gate_callee (f := 50) rfl ?_); refine goesL_ (some 20) rfl rfl Tryz.func50 (by kernel_rfl) rfl #[.agg #[.int .i64 ((rd_T38 l0 x3_1).f0), .int .i64 ((rd_T38 l0 x3_1).f1), .string ((rd_T38 l0 x3_1).f2), .string ((rd_T38 l0 x3_1).f3), .slice A312_4 ((rd_T38 l0 x3_1).f4).length c312_4]] rfl zm ?_; (with_reducible refine (boltingref04_Row.calls k1 ((rd_T38 l0 x3_1).f0) ((rd_T38 l0 x3_1).f1) ((rd_T38 l0 x3_1).f2) ((rd_T38 l0 x3_1).f3) _ _ ((rd_T38 l0 x3_1).f4) true _ ?side1 ?side2 A5.out).mono ?_); (case side1 => exact zc (Kd.C_below HR312_4.out HB.out)); (case side2 => exact HC312_4.out); rintro e w8 ⟨rfl, hb⟩; refine ⟨_, rfl, ?_⟩; have n0_ := am (below_step (zb HB) hb); clear HB; have HB := n0_; clear n0_; (try clear hb)))
        go_meet
        case rel => exact ⟨_, (true), zr, H', ⟨by have := HK1.out; first | omega | exact Nat.le_refl _⟩, ⟨zb HB⟩⟩
       ·rw [if_neg c7] at H
        have c7b0 : decide (((rd_T38 l0 x3_1).f0) < 0) = false := decide_eq_false c7
        clear c7
        (first | rw [c7b0] | (simp only [i64_w, i32_w]; rw [c7b0]) | skip)
        by_cases c9 : x3_1 = 0
        ·rw [if_pos c9] at H
         have c9b0 : (x3_1 == 0) = true := beq_iff_eq.mpr c9
         have c9b1 : (x3_1 != 0) = false := bne_eq_false_iff_eq.mpr c9
         clear c9
         have H' := am H
         clear H
         have p312 : 0 ≤ (x3_1 : Int) := of_decide_eq_true za
         have q312 : x3_1 < (l0.length : Int) := of_decide_eq_true za
         obtain ⟨ad312, A312_4, c312_4, e312, hx312_0, hx312_1, hx312_2, hx312_3, hx312_4, hl312_4, hi312_4⟩ := at_T38 HR0.out x3_1 p312 q312
         obtain rfl : ad311 = ad312 := (by injection e312)
         replace hx312_0 := (HB.out.cell (World.block_lt_of_cell? w _ hx312_0)).trans hx312_0
         replace hx312_1 := (HB.out.cell (World.block_lt_of_cell? w _ hx312_1)).trans hx312_1
         replace hx312_2 := (HB.out.cell (World.block_lt_of_cell? w _ hx312_2)).trans hx312_2
         replace hx312_3 := (HB.out.cell (World.block_lt_of_cell? w _ hx312_3)).trans hx312_3
         replace hx312_4 := (HB.out.cell (World.block_lt_of_cell? w _ hx312_4)).trans hx312_4
         (try (have eq_ := hx312_4.symm.trans hx311_4; simp only [Option.some.injEq, Value.slice.injEq] at eq_; obtain ⟨eqA_, _, eqc_⟩ := eq_; subst eqA_; subst eqc_))
         have HR312_4 := am hi312_4
         have HC312_4 := am hl312_4
         clear hi312_4 hl312_4
         replace p312 := eq_true p312
         replace q312 := eq_true q312
         go_wp2_with (first | ((with_reducible refine gate_callee (f := 50) rfl ?_); refine goesL_ (some 20) rfl rfl Tryz.func50 (by kernel_rfl) rfl #[.agg #[.int .i64 ((rd_T38 l0 x3_1).f0), .int .i64 ((rd_T38 l0 x3_1).f1), .string ((rd_T38 l0 x3_1).f2), .string ((rd_T38 l0 x3_1).f3), .slice A312_4 ((rd_T38 l0 x3_1).f4).length c312_4]] rfl zm ?_; (with_reducible refine (boltingref04_Row.calls k1 ((rd_T38 l0 x3_1).f0) ((rd_T38 l0 x3_1).f1) ((rd_T38 l0 x3_1).f2) ((rd_T38 l0 x3_1).f3) _ _ ((rd_T38 l0 x3_1).f4) true _ ?side1 ?side2 A5.out).mono ?_); (case side1 => exact zc (Kd.C_below HR312_4.out HB.out)); (case side2 => exact HC312_4.out); rintro e w10 ⟨rfl, hb⟩; refine ⟨_, rfl, ?_⟩; have n0_ := am (below_step (zb HB) hb); clear HB; have HB := n0_; clear n0_; (try clear hb)))
         go_meet
         case rel => exact ⟨_, ((((rd_T38 l0 x3_1).f0) != 0)), zr, H', ⟨by have := HK1.out; first | omega | exact Nat.le_refl _⟩, ⟨zb HB⟩⟩
        ·rw [if_neg c9] at H
         have c9b0 : (x3_1 == 0) = false := beq_eq_false_iff_ne.mpr c9
         have c9b1 : (x3_1 != 0) = true := bne_iff_ne.mpr c9
         have H' := am H
         clear H
         have p312 : 0 ≤ (x3_1 : Int) := of_decide_eq_true za
         have q312 : x3_1 < (l0.length : Int) := of_decide_eq_true za
         obtain ⟨ad312, A312_4, c312_4, e312, hx312_0, hx312_1, hx312_2, hx312_3, hx312_4, hl312_4, hi312_4⟩ := at_T38 HR0.out x3_1 p312 q312
         obtain rfl : ad311 = ad312 := (by injection e312)
         replace hx312_0 := (HB.out.cell (World.block_lt_of_cell? w _ hx312_0)).trans hx312_0
         replace hx312_1 := (HB.out.cell (World.block_lt_of_cell? w _ hx312_1)).trans hx312_1
         replace hx312_2 := (HB.out.cell (World.block_lt_of_cell? w _ hx312_2)).trans hx312_2
         replace hx312_3 := (HB.out.cell (World.block_lt_of_cell? w _ hx312_3)).trans hx312_3
         replace hx312_4 := (HB.out.cell (World.block_lt_of_cell? w _ hx312_4)).trans hx312_4
         (try (have eq_ := hx312_4.symm.trans hx311_4; simp only [Option.some.injEq, Value.slice.injEq] at eq_; obtain ⟨eqA_, _, eqc_⟩ := eq_; subst eqA_; subst eqc_))
         have HR312_4 := am hi312_4
         have HC312_4 := am hl312_4
         clear hi312_4 hl312_4
         replace p312 := eq_true p312
         replace q312 := eq_true q312
         go_wp2_with (first | ((with_reducible refine gate_callee (f := 50) rfl ?_); refine goesL_ (some 20) rfl rfl Tryz.func50 (by kernel_rfl) rfl #[.agg #[.int .i64 ((rd_T38 l0 x3_1).f0), .int .i64 ((rd_T38 l0 x3_1).f1), .string ((rd_T38 l0 x3_1).f2), .string ((rd_T38 l0 x3_1).f3), .slice A312_4 ((rd_T38 l0 x3_1).f4).length c312_4]] rfl zm ?_; (with_reducible refine (boltingref04_Row.calls k1 ((rd_T38 l0 x3_1).f0) ((rd_T38 l0 x3_1).f1) ((rd_T38 l0 x3_1).f2) ((rd_T38 l0 x3_1).f3) _ _ ((rd_T38 l0 x3_1).f4) true _ ?side1 ?side2 A5.out).mono ?_); (case side1 => exact zc (Kd.C_below HR312_4.out HB.out)); (case side2 => exact HC312_4.out); rintro e w11 ⟨rfl, hb⟩; refine ⟨_, rfl, ?_⟩; have n0_ := am (below_step (zb HB) hb); clear HB; have HB := n0_; clear n0_; (try clear hb)))
         go_meet
         case rel => exact ⟨_, (false), zr, H', ⟨by have := HK1.out; first | omega | exact Nat.le_refl _⟩, ⟨zb HB⟩⟩
      ·replace c6 := Bool.eq_false_iff.mpr c6
       subst c6
       replace H : (boltingref04_Right.j1 k1 l0 x3_1 ((rd_T38 l0 x3_1).f0) true) = some r := by rw [if_neg (show ¬ (false = true) by decide)] at H; exact H
       have H' := am H
       clear H
       have p312 : 0 ≤ (x3_1 : Int) := of_decide_eq_true za
       have q312 : x3_1 < (l0.length : Int) := of_decide_eq_true za
       obtain ⟨ad312, A312_4, c312_4, e312, hx312_0, hx312_1, hx312_2, hx312_3, hx312_4, hl312_4, hi312_4⟩ := at_T38 HR0.out x3_1 p312 q312
       obtain rfl : ad311 = ad312 := (by injection e312)
       replace hx312_0 := (HB.out.cell (World.block_lt_of_cell? w _ hx312_0)).trans hx312_0
       replace hx312_1 := (HB.out.cell (World.block_lt_of_cell? w _ hx312_1)).trans hx312_1
       replace hx312_2 := (HB.out.cell (World.block_lt_of_cell? w _ hx312_2)).trans hx312_2
       replace hx312_3 := (HB.out.cell (World.block_lt_of_cell? w _ hx312_3)).trans hx312_3
       replace hx312_4 := (HB.out.cell (World.block_lt_of_cell? w _ hx312_4)).trans hx312_4
       (try (have eq_ := hx312_4.symm.trans hx311_4; simp only [Option.some.injEq, Value.slice.injEq] at eq_; obtain ⟨eqA_, _, eqc_⟩ := eq_; subst eqA_; subst eqc_))
       have HR312_4 := am hi312_4
       have HC312_4 := am hl312_4
       clear hi312_4 hl312_4
       replace p312 := eq_true p312
       replace q312 := eq_true q312
       go_wp2_with (first | ((with_reducible refine gate_callee (f := 50) rfl ?_); refine goesL_ (some 20) rfl rfl Tryz.func50 (by kernel_rfl) rfl #[.agg #[.int .i64 ((rd_T38 l0 x3_1).f0), .int .i64 ((rd_T38 l0 x3_1).f1), .string ((rd_T38 l0 x3_1).f2), .string ((rd_T38 l0 x3_1).f3), .slice A312_4 ((rd_T38 l0 x3_1).f4).length c312_4]] rfl zm ?_; (with_reducible refine (boltingref04_Row.calls k1 ((rd_T38 l0 x3_1).f0) ((rd_T38 l0 x3_1).f1) ((rd_T38 l0 x3_1).f2) ((rd_T38 l0 x3_1).f3) _ _ ((rd_T38 l0 x3_1).f4) false _ ?side1 ?side2 A5.out).mono ?_); (case side1 => exact zc (Kd.C_below HR312_4.out HB.out)); (case side2 => exact HC312_4.out); rintro e w12 ⟨rfl, hb⟩; refine ⟨_, rfl, ?_⟩; have n0_ := am (below_step (zb HB) hb); clear HB; have HB := n0_; clear n0_; (try clear hb)))
       go_meet
       case rel => exact ⟨_, (true), zr, H', ⟨by have := HK1.out; first | omega | exact Nat.le_refl _⟩, ⟨zb HB⟩⟩
     case rest =>
      clear HC4
      try clear c2
      try clear c2b0
      try clear p2
      try clear c3
      try clear c3b0
      try clear p3
      try clear q3
      try clear hx3
      try clear c5
      try clear c6
      try clear c7
      try clear c7b0
      try clear c9
      try clear c9b0
      try clear c9b1
      try clear hx311_0
      try clear hx311_1
      try clear hx311_2
      try clear hx311_3
      try clear hx311_4
      try clear hx312_0
      try clear hx312_1
      try clear hx312_2
      try clear hx312_3
      try clear hx312_4
      try clear p311
      try clear p312
      try clear q311
      try clear q312
      obtain ⟨kq, x33_3, rfl, HA, HJ3, HB⟩ := hcut
      cases kq with
      | zero => exact absurd HA.out (by simp [boltingref04_Right.j1])
      | succ kj3 =>
       have H := HA.out
       clear HA
       simp only [boltingref04_Right.j1] at H
       by_cases c13 : x33_3 = true
       ·subst c13
        replace H : (some false) = some r := by rw [if_pos rfl] at H; exact H
        obtain rfl := Option.some.inj H
        go_wp2
        go_ret
        exact ⟨ze, zb HB⟩
       ·replace c13 := Bool.eq_false_iff.mpr c13
        subst c13
        replace H : (if x3_1 > 0 then (if 0 ≤ (wrap64 (x3_1 - 1)) then (if (wrap64 (x3_1 - 1)) < (l0.length : Int) then (if ((rd_T38 l0 x3_1).f0) > (wrap64 (((rd_T38 l0 (wrap64 (x3_1 - 1))).f0) + 1)) then (some false) else (if ((rd_T38 l0 x3_1).f0) = (wrap64 (((rd_T38 l0 (wrap64 (x3_1 - 1))).f0) + 1)) then (if ((rd_T38 l0 (wrap64 (x3_1 - 1))).f1) = 0 then (boltingref04_Right.l0 kj3 l0 (wrap64 (x3_1 + 1))) else (some false)) else (boltingref04_Right.l0 kj3 l0 (wrap64 (x3_1 + 1))))) else (none)) else (none)) else (boltingref04_Right.l0 kj3 l0 (wrap64 (x3_1 + 1)))) = some r := by rw [if_neg (show ¬ (false = true) by decide)] at H; exact H
        by_cases c14 : x3_1 > 0
        ·rw [if_pos c14] at H
         have c14b0 : decide (0 < x3_1) = true := decide_eq_true c14
         clear c14
         obtain ⟨ji15, hji15⟩ : ∃ j_ : Int, (wrap64 (x3_1 - 1)) = j_ := ⟨_, rfl⟩
         replace H : (if 0 ≤ (ji15) then (if (ji15) < (l0.length : Int) then (if ((rd_T38 l0 x3_1).f0) > (wrap64 (((rd_T38 l0 (ji15)).f0) + 1)) then (some false) else (if ((rd_T38 l0 x3_1).f0) = (wrap64 (((rd_T38 l0 (ji15)).f0) + 1)) then (if ((rd_T38 l0 (ji15)).f1) = 0 then (boltingref04_Right.l0 kj3 l0 (wrap64 (x3_1 + 1))) else (some false)) else (boltingref04_Right.l0 kj3 l0 (wrap64 (x3_1 + 1))))) else (none)) else (none)) = some r := by first | (rw [hji15] at H; exact H) | (simp only [hji15] at H ⊢; exact H)
         have hji15w : (IntKind.i64.wrap (x3_1 - 1)) = ji15 := (i64_w _).trans hji15
         by_cases c16 : 0 ≤ (ji15)
         ·rw [if_pos c16] at H
          have c16b0 : decide (0 ≤ (ji15)) = true := decide_eq_true c16
          clear c16
          by_cases c17 : (ji15) < (l0.length : Int)
          ·rw [if_pos c17] at H
           have c17b0 : decide ((ji15) < (l0.length : Int)) = true := decide_eq_true c17
           clear c17
           by_cases c18 : ((rd_T38 l0 x3_1).f0) > (wrap64 (((rd_T38 l0 (ji15)).f0) + 1))
           ·rw [if_pos c18] at H
            have c18b0 : decide ((wrap64 (((rd_T38 l0 (ji15)).f0) + 1)) < ((rd_T38 l0 x3_1).f0)) = true := decide_eq_true c18
            clear c18
            obtain rfl := Option.some.inj H
            have p314 : 0 ≤ ((ji15) : Int) := of_decide_eq_true za
            have q314 : (ji15) < (l0.length : Int) := of_decide_eq_true za
            obtain ⟨ad314, A314_4, c314_4, e314, hx314_0, hx314_1, hx314_2, hx314_3, hx314_4, hl314_4, hi314_4⟩ := at_T38 HR0.out (ji15) p314 q314
            obtain rfl : ad311 = ad314 := (by injection e314)
            replace hx314_0 := (HB.out.cell (World.block_lt_of_cell? w _ hx314_0)).trans hx314_0
            replace hx314_1 := (HB.out.cell (World.block_lt_of_cell? w _ hx314_1)).trans hx314_1
            replace hx314_2 := (HB.out.cell (World.block_lt_of_cell? w _ hx314_2)).trans hx314_2
            replace hx314_3 := (HB.out.cell (World.block_lt_of_cell? w _ hx314_3)).trans hx314_3
            replace hx314_4 := (HB.out.cell (World.block_lt_of_cell? w _ hx314_4)).trans hx314_4
            (try (have eq_ := hx314_4.symm.trans hx311_4; simp only [Option.some.injEq, Value.slice.injEq] at eq_; obtain ⟨eqA_, _, eqc_⟩ := eq_; subst eqA_; subst eqc_))
            have HR314_4 := am hi314_4
            have HC314_4 := am hl314_4
            clear hi314_4 hl314_4
            replace p314 := eq_true p314
            replace q314 := eq_true q314
            go_wp2
            go_ret
            exact ⟨by first | rfl | (simp [errW_none, errW_some] <;> rfl) | (simp only [← hji15]; first | rfl | (simp [errW_none, errW_some] <;> rfl)) | (simp [*, errW_none, errW_some] <;> rfl), zb HB⟩
           ·rw [if_neg c18] at H
            have c18b0 : decide ((wrap64 (((rd_T38 l0 (ji15)).f0) + 1)) < ((rd_T38 l0 x3_1).f0)) = false := decide_eq_false c18
            clear c18
            by_cases c19 : ((rd_T38 l0 x3_1).f0) = (wrap64 (((rd_T38 l0 (ji15)).f0) + 1))
            ·rw [if_pos c19] at H
             have c19b0 : (((rd_T38 l0 x3_1).f0) == (wrap64 (((rd_T38 l0 (ji15)).f0) + 1))) = true := beq_iff_eq.mpr c19
             have c19b1 : (((rd_T38 l0 x3_1).f0) != (wrap64 (((rd_T38 l0 (ji15)).f0) + 1))) = false := bne_eq_false_iff_eq.mpr c19
             clear c19
             by_cases c20 : ((rd_T38 l0 (ji15)).f1) = 0
             ·rw [if_pos c20] at H
              have c20b0 : (((rd_T38 l0 (ji15)).f1) == 0) = true := beq_iff_eq.mpr c20
              have c20b1 : (((rd_T38 l0 (ji15)).f1) != 0) = false := bne_eq_false_iff_eq.mpr c20
              clear c20
              have H' := am H
              clear H
              have p314 : 0 ≤ ((ji15) : Int) := of_decide_eq_true za
              have q314 : (ji15) < (l0.length : Int) := of_decide_eq_true za
              obtain ⟨ad314, A314_4, c314_4, e314, hx314_0, hx314_1, hx314_2, hx314_3, hx314_4, hl314_4, hi314_4⟩ := at_T38 HR0.out (ji15) p314 q314
              obtain rfl : ad311 = ad314 := (by injection e314)
              replace hx314_0 := (HB.out.cell (World.block_lt_of_cell? w _ hx314_0)).trans hx314_0
              replace hx314_1 := (HB.out.cell (World.block_lt_of_cell? w _ hx314_1)).trans hx314_1
              replace hx314_2 := (HB.out.cell (World.block_lt_of_cell? w _ hx314_2)).trans hx314_2
              replace hx314_3 := (HB.out.cell (World.block_lt_of_cell? w _ hx314_3)).trans hx314_3
              replace hx314_4 := (HB.out.cell (World.block_lt_of_cell? w _ hx314_4)).trans hx314_4
              (try (have eq_ := hx314_4.symm.trans hx311_4; simp only [Option.some.injEq, Value.slice.injEq] at eq_; obtain ⟨eqA_, _, eqc_⟩ := eq_; subst eqA_; subst eqc_))
              have HR314_4 := am hi314_4
              have HC314_4 := am hl314_4
              clear hi314_4 hl314_4
              replace p314 := eq_true p314
              replace q314 := eq_true q314
              have p315 : 0 ≤ ((ji15) : Int) := of_decide_eq_true za
              have q315 : (ji15) < (l0.length : Int) := of_decide_eq_true za
              obtain ⟨ad315, A315_4, c315_4, e315, hx315_0, hx315_1, hx315_2, hx315_3, hx315_4, hl315_4, hi315_4⟩ := at_T38 HR0.out (ji15) p315 q315
              obtain rfl : ad311 = ad315 := (by injection e315)
              replace hx315_0 := (HB.out.cell (World.block_lt_of_cell? w _ hx315_0)).trans hx315_0
              replace hx315_1 := (HB.out.cell (World.block_lt_of_cell? w _ hx315_1)).trans hx315_1
              replace hx315_2 := (HB.out.cell (World.block_lt_of_cell? w _ hx315_2)).trans hx315_2
              replace hx315_3 := (HB.out.cell (World.block_lt_of_cell? w _ hx315_3)).trans hx315_3
              replace hx315_4 := (HB.out.cell (World.block_lt_of_cell? w _ hx315_4)).trans hx315_4
              (try (have eq_ := hx315_4.symm.trans hx311_4; simp only [Option.some.injEq, Value.slice.injEq] at eq_; obtain ⟨eqA_, _, eqc_⟩ := eq_; subst eqA_; subst eqc_))
              have HR315_4 := am hi315_4
              have HC315_4 := am hl315_4
              clear hi315_4 hl315_4
              replace p315 := eq_true p315
              replace q315 := eq_true q315
              have ea_ := Option.some.inj (hx314_4.symm.trans hx315_4)
              injection ea_ with ea_ en_ ec_
              subst ea_
              subst ec_
              clear en_
              have p316 : 0 ≤ ((ji15) : Int) := of_decide_eq_true za
              have q316 : (ji15) < (l0.length : Int) := of_decide_eq_true za
              obtain ⟨ad316, A316_4, c316_4, e316, hx316_0, hx316_1, hx316_2, hx316_3, hx316_4, hl316_4, hi316_4⟩ := at_T38 HR0.out (ji15) p316 q316
              obtain rfl : ad311 = ad316 := (by injection e316)
              replace hx316_0 := (HB.out.cell (World.block_lt_of_cell? w _ hx316_0)).trans hx316_0
              replace hx316_1 := (HB.out.cell (World.block_lt_of_cell? w _ hx316_1)).trans hx316_1
              replace hx316_2 := (HB.out.cell (World.block_lt_of_cell? w _ hx316_2)).trans hx316_2
              replace hx316_3 := (HB.out.cell (World.block_lt_of_cell? w _ hx316_3)).trans hx316_3
              replace hx316_4 := (HB.out.cell (World.block_lt_of_cell? w _ hx316_4)).trans hx316_4
              (try (have eq_ := hx316_4.symm.trans hx311_4; simp only [Option.some.injEq, Value.slice.injEq] at eq_; obtain ⟨eqA_, _, eqc_⟩ := eq_; subst eqA_; subst eqc_))
              have HR316_4 := am hi316_4
              have HC316_4 := am hl316_4
              clear hi316_4 hl316_4
              replace p316 := eq_true p316
              replace q316 := eq_true q316
              have ea_ := Option.some.inj (hx314_4.symm.trans hx316_4)
              injection ea_ with ea_ en_ ec_
              subst ea_
              subst ec_
              clear en_
              go_wp2
              go_roundg kj3
              case measure => have := HK1.out; have := HJ3.out; omega
              case rel => exact ⟨(wrap64 (x3_1 + 1)), zr, H', ⟨by have := HK1.out; have := HJ3.out; omega⟩, ⟨zb HB⟩⟩
             ·rw [if_neg c20] at H
              have c20b0 : (((rd_T38 l0 (ji15)).f1) == 0) = false := beq_eq_false_iff_ne.mpr c20
              have c20b1 : (((rd_T38 l0 (ji15)).f1) != 0) = true := bne_iff_ne.mpr c20
              obtain rfl := Option.some.inj H
              have p314 : 0 ≤ ((ji15) : Int) := of_decide_eq_true za
              have q314 : (ji15) < (l0.length : Int) := of_decide_eq_true za
              obtain ⟨ad314, A314_4, c314_4, e314, hx314_0, hx314_1, hx314_2, hx314_3, hx314_4, hl314_4, hi314_4⟩ := at_T38 HR0.out (ji15) p314 q314
              obtain rfl : ad311 = ad314 := (by injection e314)
              replace hx314_0 := (HB.out.cell (World.block_lt_of_cell? w _ hx314_0)).trans hx314_0
              replace hx314_1 := (HB.out.cell (World.block_lt_of_cell? w _ hx314_1)).trans hx314_1
              replace hx314_2 := (HB.out.cell (World.block_lt_of_cell? w _ hx314_2)).trans hx314_2
              replace hx314_3 := (HB.out.cell (World.block_lt_of_cell? w _ hx314_3)).trans hx314_3
              replace hx314_4 := (HB.out.cell (World.block_lt_of_cell? w _ hx314_4)).trans hx314_4
              (try (have eq_ := hx314_4.symm.trans hx311_4; simp only [Option.some.injEq, Value.slice.injEq] at eq_; obtain ⟨eqA_, _, eqc_⟩ := eq_; subst eqA_; subst eqc_))
              have HR314_4 := am hi314_4
              have HC314_4 := am hl314_4
              clear hi314_4 hl314_4
              replace p314 := eq_true p314
              replace q314 := eq_true q314
              have p315 : 0 ≤ ((ji15) : Int) := of_decide_eq_true za
              have q315 : (ji15) < (l0.length : Int) := of_decide_eq_true za
              obtain ⟨ad315, A315_4, c315_4, e315, hx315_0, hx315_1, hx315_2, hx315_3, hx315_4, hl315_4, hi315_4⟩ := at_T38 HR0.out (ji15) p315 q315
              obtain rfl : ad311 = ad315 := (by injection e315)
              replace hx315_0 := (HB.out.cell (World.block_lt_of_cell? w _ hx315_0)).trans hx315_0
              replace hx315_1 := (HB.out.cell (World.block_lt_of_cell? w _ hx315_1)).trans hx315_1
              replace hx315_2 := (HB.out.cell (World.block_lt_of_cell? w _ hx315_2)).trans hx315_2
              replace hx315_3 := (HB.out.cell (World.block_lt_of_cell? w _ hx315_3)).trans hx315_3
              replace hx315_4 := (HB.out.cell (World.block_lt_of_cell? w _ hx315_4)).trans hx315_4
              (try (have eq_ := hx315_4.symm.trans hx311_4; simp only [Option.some.injEq, Value.slice.injEq] at eq_; obtain ⟨eqA_, _, eqc_⟩ := eq_; subst eqA_; subst eqc_))
              have HR315_4 := am hi315_4
              have HC315_4 := am hl315_4
              clear hi315_4 hl315_4
              replace p315 := eq_true p315
              replace q315 := eq_true q315
              have ea_ := Option.some.inj (hx314_4.symm.trans hx315_4)
              injection ea_ with ea_ en_ ec_
              subst ea_
              subst ec_
              clear en_
              have p316 : 0 ≤ ((ji15) : Int) := of_decide_eq_true za
              have q316 : (ji15) < (l0.length : Int) := of_decide_eq_true za
              obtain ⟨ad316, A316_4, c316_4, e316, hx316_0, hx316_1, hx316_2, hx316_3, hx316_4, hl316_4, hi316_4⟩ := at_T38 HR0.out (ji15) p316 q316
              obtain rfl : ad311 = ad316 := (by injection e316)
              replace hx316_0 := (HB.out.cell (World.block_lt_of_cell? w _ hx316_0)).trans hx316_0
              replace hx316_1 := (HB.out.cell (World.block_lt_of_cell? w _ hx316_1)).trans hx316_1
              replace hx316_2 := (HB.out.cell (World.block_lt_of_cell? w _ hx316_2)).trans hx316_2
              replace hx316_3 := (HB.out.cell (World.block_lt_of_cell? w _ hx316_3)).trans hx316_3
              replace hx316_4 := (HB.out.cell (World.block_lt_of_cell? w _ hx316_4)).trans hx316_4
              (try (have eq_ := hx316_4.symm.trans hx311_4; simp only [Option.some.injEq, Value.slice.injEq] at eq_; obtain ⟨eqA_, _, eqc_⟩ := eq_; subst eqA_; subst eqc_))
              have HR316_4 := am hi316_4
              have HC316_4 := am hl316_4
              clear hi316_4 hl316_4
              replace p316 := eq_true p316
              replace q316 := eq_true q316
              have ea_ := Option.some.inj (hx314_4.symm.trans hx316_4)
              injection ea_ with ea_ en_ ec_
              subst ea_
              subst ec_
              clear en_
              go_wp2
              go_ret
              exact ⟨by first | rfl | (simp [errW_none, errW_some] <;> rfl) | (simp only [← hji15]; first | rfl | (simp [errW_none, errW_some] <;> rfl)) | (simp [*, errW_none, errW_some] <;> rfl), zb HB⟩
            ·rw [if_neg c19] at H
             have c19b0 : (((rd_T38 l0 x3_1).f0) == (wrap64 (((rd_T38 l0 (ji15)).f0) + 1))) = false := beq_eq_false_iff_ne.mpr c19
             have c19b1 : (((rd_T38 l0 x3_1).f0) != (wrap64 (((rd_T38 l0 (ji15)).f0) + 1))) = true := bne_iff_ne.mpr c19
             have H' := am H
             clear H
             have p314 : 0 ≤ ((ji15) : Int) := of_decide_eq_true za
             have q314 : (ji15) < (l0.length : Int) := of_decide_eq_true za
             obtain ⟨ad314, A314_4, c314_4, e314, hx314_0, hx314_1, hx314_2, hx314_3, hx314_4, hl314_4, hi314_4⟩ := at_T38 HR0.out (ji15) p314 q314
             obtain rfl : ad311 = ad314 := (by injection e314)
             replace hx314_0 := (HB.out.cell (World.block_lt_of_cell? w _ hx314_0)).trans hx314_0
             replace hx314_1 := (HB.out.cell (World.block_lt_of_cell? w _ hx314_1)).trans hx314_1
             replace hx314_2 := (HB.out.cell (World.block_lt_of_cell? w _ hx314_2)).trans hx314_2
             replace hx314_3 := (HB.out.cell (World.block_lt_of_cell? w _ hx314_3)).trans hx314_3
             replace hx314_4 := (HB.out.cell (World.block_lt_of_cell? w _ hx314_4)).trans hx314_4
             (try (have eq_ := hx314_4.symm.trans hx311_4; simp only [Option.some.injEq, Value.slice.injEq] at eq_; obtain ⟨eqA_, _, eqc_⟩ := eq_; subst eqA_; subst eqc_))
             have HR314_4 := am hi314_4
             have HC314_4 := am hl314_4
             clear hi314_4 hl314_4
             replace p314 := eq_true p314
             replace q314 := eq_true q314
             have p315 : 0 ≤ ((ji15) : Int) := of_decide_eq_true za
             have q315 : (ji15) < (l0.length : Int) := of_decide_eq_true za
             obtain ⟨ad315, A315_4, c315_4, e315, hx315_0, hx315_1, hx315_2, hx315_3, hx315_4, hl315_4, hi315_4⟩ := at_T38 HR0.out (ji15) p315 q315
             obtain rfl : ad311 = ad315 := (by injection e315)
             replace hx315_0 := (HB.out.cell (World.block_lt_of_cell? w _ hx315_0)).trans hx315_0
             replace hx315_1 := (HB.out.cell (World.block_lt_of_cell? w _ hx315_1)).trans hx315_1
             replace hx315_2 := (HB.out.cell (World.block_lt_of_cell? w _ hx315_2)).trans hx315_2
             replace hx315_3 := (HB.out.cell (World.block_lt_of_cell? w _ hx315_3)).trans hx315_3
             replace hx315_4 := (HB.out.cell (World.block_lt_of_cell? w _ hx315_4)).trans hx315_4
             (try (have eq_ := hx315_4.symm.trans hx311_4; simp only [Option.some.injEq, Value.slice.injEq] at eq_; obtain ⟨eqA_, _, eqc_⟩ := eq_; subst eqA_; subst eqc_))
             have HR315_4 := am hi315_4
             have HC315_4 := am hl315_4
             clear hi315_4 hl315_4
             replace p315 := eq_true p315
             replace q315 := eq_true q315
             have ea_ := Option.some.inj (hx314_4.symm.trans hx315_4)
             injection ea_ with ea_ en_ ec_
             subst ea_
             subst ec_
             clear en_
             go_wp2
             go_roundg kj3
             case measure => have := HK1.out; have := HJ3.out; omega
             case rel => exact ⟨(wrap64 (x3_1 + 1)), zr, H', ⟨by have := HK1.out; have := HJ3.out; omega⟩, ⟨zb HB⟩⟩
          ·rw [if_neg c17] at H
           exact absurd H (by simp)
         ·rw [if_neg c16] at H
          exact absurd H (by simp)
        ·rw [if_neg c14] at H
         have c14b0 : decide (0 < x3_1) = false := decide_eq_false c14
         clear c14
         have H' := am H
         clear H
         go_wp2
         go_roundg kj3
         case measure => have := HK1.out; have := HJ3.out; omega
         case rel => exact ⟨(wrap64 (x3_1 + 1)), zr, H', ⟨by have := HK1.out; have := HJ3.out; omega⟩, ⟨zb HB⟩⟩
    ·rw [if_neg c3] at H
     exact absurd H (by simp)
   ·rw [if_neg c2] at H
    have c2b0 : decide (x3_1 < (l0.length : Int)) = false := decide_eq_false c2
    clear c2
    obtain rfl := Option.some.inj H
    go_wp2
    go_ret
    exact ⟨ze, zb HB⟩

def boltingref04_Check.f (k : Nat) (l0 : List (S38)) : Option (Int) := (boltingref04_Big.f k l0).bind fun t317 => (if t317 = true then (some 2) else ((boltingref04_Right.f k l0).bind fun t318 => (if t318 = true then (some 0) else (some 40))))
set_option maxHeartbeats 8000000 in
set_option maxRecDepth 100000 in
theorem boltingref04_Check.calls (k : Nat) (A0 : Option Addr) (c0 : Nat) (l0 : List (S38)) (r : Int) (w : World) (hr0 : Kd.C k38 w A0 l0.length l0) (hc0 : l0.length ≤ c0) (h : boltingref04_Check.f k l0 = some r) :
  Calls Tryz.prog 11 #[.slice A0 l0.length c0] w fun e w' => e = .returned (.int .i64 r) ∧ Below w.heap.size w w' := by
 have HR0 := am hr0
 have HC0 := am hc0
 clear hr0 hc0
 have HB := am (Below.refl w.heap.size w)
 have H : ((boltingref04_Big.f k l0).bind fun t317 => (if t317 = true then (some 2) else ((boltingref04_Right.f k l0).bind fun t318 => (if t318 = true then (some 0) else (some 40))))) = some r := h
 clear h
 replace H := Option.bind_eq_some_iff.mp H
 obtain ⟨t317, A20, H⟩ := H
 have A2 := am A20
 clear A20
 by_cases c3 : t317 = true
 ·subst c3
  replace H : (some 2) = some r := by rw [if_pos rfl] at H; exact H
  obtain rfl := Option.some.inj H
  go_enter Tryz.func11, Tryz.ntmps11
  go_wp2_with (first | ((with_reducible refine gate_callee (f := 29) rfl ?_); refine goesL_ (some 4) rfl rfl Tryz.func29 (by kernel_rfl) rfl #[.slice A0 l0.length c0] rfl zm ?_; (with_reducible refine (boltingref04_Big.calls k _ _ l0 true _ ?side1 ?side2 A2.out).mono ?_); (case side1 => repeat (first | exact HR0.out | (with_reducible refine Kd.C_alloc ?_ _) | (with_reducible refine Kd.C_drewN ?_ _) | (with_reducible refine Kd.C_drew ?_))); (case side2 => exact HC0.out); rintro e w' ⟨rfl, ⟨nd, rfl⟩⟩; refine ⟨_, rfl, ?_⟩))
  go_ret
  exact ⟨ze, zb HB⟩
 ·replace c3 := Bool.eq_false_iff.mpr c3
  subst c3
  replace H : ((boltingref04_Right.f k l0).bind fun t318 => (if t318 = true then (some 0) else (some 40))) = some r := by rw [if_neg (show ¬ (false = true) by decide)] at H; exact H
  replace H := Option.bind_eq_some_iff.mp H
  obtain ⟨t318, A40, H⟩ := H
  have A4 := am A40
  clear A40
  by_cases c5 : t318 = true
  ·subst c5
   replace H : (some 0) = some r := by rw [if_pos rfl] at H; exact H
   obtain rfl := Option.some.inj H
   go_enter Tryz.func11, Tryz.ntmps11
   go_wp2_with (first | ((with_reducible refine gate_callee (f := 29) rfl ?_); refine goesL_ (some 4) rfl rfl Tryz.func29 (by kernel_rfl) rfl #[.slice A0 l0.length c0] rfl zm ?_; (with_reducible refine (boltingref04_Big.calls k _ _ l0 false _ ?side1 ?side2 A2.out).mono ?_); (case side1 => repeat (first | exact HR0.out | (with_reducible refine Kd.C_alloc ?_ _) | (with_reducible refine Kd.C_drewN ?_ _) | (with_reducible refine Kd.C_drew ?_))); (case side2 => exact HC0.out); rintro e w' ⟨rfl, ⟨nd, rfl⟩⟩; refine ⟨_, rfl, ?_⟩) | ((with_reducible refine gate_callee (f := 30) rfl ?_); refine goesL_ (some 6) rfl rfl Tryz.func30 (by kernel_rfl) rfl #[.slice A0 l0.length c0] rfl zm ?_; (with_reducible refine (boltingref04_Right.calls k _ _ l0 true _ ?side1 ?side2 A4.out).mono ?_); (case side1 => repeat (first | exact HR0.out | (with_reducible refine Kd.C_alloc ?_ _) | (with_reducible refine Kd.C_drewN ?_ _) | (with_reducible refine Kd.C_drew ?_))); (case side2 => exact HC0.out); rintro e w6 ⟨rfl, hb⟩; refine ⟨_, rfl, ?_⟩; have n0_ := am (below_step (zb HB) hb); clear HB; have HB := n0_; clear n0_; (try clear hb)))
   go_ret
   exact ⟨ze, zb HB⟩
  ·replace c5 := Bool.eq_false_iff.mpr c5
   subst c5
   replace H : (some 40) = some r := by rw [if_neg (show ¬ (false = true) by decide)] at H; exact H
   obtain rfl := Option.some.inj H
   go_enter Tryz.func11, Tryz.ntmps11
   go_wp2_with (first | ((with_reducible refine gate_callee (f := 29) rfl ?_); refine goesL_ (some 4) rfl rfl Tryz.func29 (by kernel_rfl) rfl #[.slice A0 l0.length c0] rfl zm ?_; (with_reducible refine (boltingref04_Big.calls k _ _ l0 false _ ?side1 ?side2 A2.out).mono ?_); (case side1 => repeat (first | exact HR0.out | (with_reducible refine Kd.C_alloc ?_ _) | (with_reducible refine Kd.C_drewN ?_ _) | (with_reducible refine Kd.C_drew ?_))); (case side2 => exact HC0.out); rintro e w' ⟨rfl, ⟨nd, rfl⟩⟩; refine ⟨_, rfl, ?_⟩) | ((with_reducible refine gate_callee (f := 30) rfl ?_); refine goesL_ (some 6) rfl rfl Tryz.func30 (by kernel_rfl) rfl #[.slice A0 l0.length c0] rfl zm ?_; (with_reducible refine (boltingref04_Right.calls k _ _ l0 false _ ?side1 ?side2 A4.out).mono ?_); (case side1 => repeat (first | exact HR0.out | (with_reducible refine Kd.C_alloc ?_ _) | (with_reducible refine Kd.C_drewN ?_ _) | (with_reducible refine Kd.C_drew ?_))); (case side2 => exact HC0.out); rintro e w7 ⟨rfl, hb⟩; refine ⟨_, rfl, ?_⟩; have n0_ := am (below_step (zb HB) hb); clear HB; have HB := n0_; clear n0_; (try clear hb)))
   go_ret
   exact ⟨ze, zb HB⟩

def boltingref04_Moved.l0 : Nat → List (S38) → Int → List (S38) → Int → Option ((List (S38)))
 | 0, _, _, _, _ => none
 | k + 1, x0, x1, x5, x6 => if x6 < (x0.length : Int) then (if 0 ≤ x6 then ((some (([] : List (S45)) : List (S45))).bind fun y324 => (if y324.length + ((rd_T38 x0 x6).f4).length < 4398046511104 then (if x5.length < 1954687338268 then (boltingref04_Moved.l0 k x0 x1 (x5 ++ [(⟨wrap64 (((rd_T38 x0 x6).f0) + x1), (rd_T38 x0 x6).f1, (rd_T38 x0 x6).f2, (rd_T38 x0 x6).f3, (y324 ++ ((rd_T38 x0 x6).f4))⟩ : S38)]) (wrap64 (x6 + 1))) else (none)) else (none))) else (none)) else (some x5)
def boltingref04_Moved.f (k : Nat) (l0 : List (S38)) (a1 : Int) : Option ((List (S38))) := boltingref04_Moved.l0 k l0 a1 (([] : List (S38))) 0
set_option maxHeartbeats 8000000 in
set_option maxRecDepth 100000 in
theorem boltingref04_Moved.calls (k : Nat) (A0 : Option Addr) (c0 : Nat) (l0 : List (S38)) (a1 : Int) (r : List (S38)) (w : World) (hr0 : Kd.C k38 w A0 l0.length l0) (hc0 : l0.length ≤ c0) (h : boltingref04_Moved.f k l0 a1 = some r) :
  Calls Tryz.prog 21 #[.slice A0 l0.length c0, .int .i64 a1] w fun e w' => ∃ v0_ : Value, e = .returned (v0_) ∧ Kd.S k38 38 w' w.heap.size (fun _ => True) v0_ r ∧ Below w.heap.size w w' := by
 have hu38 := Tryz.underlying38
 have HR0 := am hr0
 have HC0 := am hc0
 clear hr0 hc0
 have HB := am (Below.refl w.heap.size w)
 have H : (boltingref04_Moved.l0 k l0 a1 (([] : List (S38))) 0) = some r := h
 clear h
 obtain ⟨y319, hy319⟩ : ∃ y_ : List (S38), y_ = (([] : List (S38))) := ⟨_, rfl⟩
 replace H : (boltingref04_Moved.l0 k l0 a1 y319 0) = some r := by first | (rw [hy319]; with_reducible exact H) | (have H2_ := (Option.bind_some _ _).symm.trans H; rw [hy319]; with_reducible exact H2_) | (have H2_ := (Option.bind_some _ _).symm.trans H; with_reducible exact H2_) | with_reducible exact H | (rw [hy319]; exact H) | exact H
 have Ny319 := am hy319
 clear hy319
 have H' := am H
 clear H
 go_enter Tryz.func21, Tryz.ntmps21
 go_wp2_with (first | ((with_reducible refine gate_dst (N := 8) rfl ?_); refine Kd.S_lit k38 _ 38 ?hg (N := 8) ?hd (xs := ([] : List (S38))) (inner := []) (ok := fun _ => True) (okp := fun _ => True) ?hr ?hp (fun _ hk => hk) trivial (Below.refl _ _) (Nat.le_refl _) (by simp) ?_; (case hd => rfl); (case hg => rfl); (case hr => first | (go_simp; done) | (go_simp; rfl)); (case hp => exact (Reps.none _ _)); intro v320 w3 ho4 hb hg_ hnew_; clear hg_ hnew_; (first | rw [← Ny319.out] at ho4 | (simp only [Int.reduceToNat] at ho4; rw [← Ny319.out] at ho4)); have n0_ := am (Kd.S_lower ho4 (below_size (zb HB))); have n1_ := am (below_step (zb HB) hb); clear HB; have HO321 := n0_; have HB := n1_; clear n0_ n1_; clear hb ho4))
 go_loopg [5, 6] k (fun kq v5 v6 w' => ∃ (x5_1 : List (S38)) (x6_1 : Int), v6 = .int .i64 x6_1 ∧ Aside0 (boltingref04_Moved.l0 kq l0 a1 x5_1 x6_1 = some r) ∧ Aside0 (kq ≤ k) ∧ Aside0 (Kd.S k38 38 w' w.heap.size (fun _ => True) v5 x5_1) ∧ Aside0 (Below w.heap.size w w'))
 case atStart => exact ⟨(y319), (0), zr, H', ⟨Nat.le_refl _⟩, ⟨by exact HO321.out⟩, ⟨zb HB⟩⟩
 case round =>
  clear H'
  try clear c2
  try clear p2
  obtain ⟨x5_1, x6_1, rfl, HA, HK1, HO_5, HB⟩ := hrel
  cases gk with
  | zero => exact absurd HA.out (by simp [boltingref04_Moved.l0])
  | succ k1 =>
   have H := HA.out
   clear HA
   simp only [boltingref04_Moved.l0] at H
   by_cases c5 : x6_1 < (l0.length : Int)
   ·rw [if_pos c5] at H
    have c5b0 : decide (x6_1 < (l0.length : Int)) = true := decide_eq_true c5
    clear c5
    by_cases c6 : 0 ≤ x6_1
    ·rw [if_pos c6] at H
     have c6b0 : decide (0 ≤ x6_1) = true := decide_eq_true c6
     clear c6
     obtain ⟨y324, hy324⟩ : ∃ y_ : List (S45), y_ = (([] : List (S45))) := ⟨_, rfl⟩
     replace H : (if y324.length + ((rd_T38 l0 x6_1).f4).length < 4398046511104 then (if x5_1.length < 1954687338268 then (boltingref04_Moved.l0 k1 l0 a1 (x5_1 ++ [(⟨wrap64 (((rd_T38 l0 x6_1).f0) + a1), (rd_T38 l0 x6_1).f1, (rd_T38 l0 x6_1).f2, (rd_T38 l0 x6_1).f3, (y324 ++ ((rd_T38 l0 x6_1).f4))⟩ : S38)]) (wrap64 (x6_1 + 1))) else (none)) else (none)) = some r := by first | (rw [hy324]; with_reducible exact H) | (have H2_ := (Option.bind_some _ _).symm.trans H; rw [hy324]; with_reducible exact H2_) | (have H2_ := (Option.bind_some _ _).symm.trans H; with_reducible exact H2_) | with_reducible exact H | (rw [hy324]; exact H) | exact H
     have Ny324 := am hy324
     clear hy324
     by_cases c7 : y324.length + ((rd_T38 l0 x6_1).f4).length < 4398046511104
     ·rw [if_pos c7] at H
      have LMc7 := am c7
      clear c7
      obtain ⟨y327, hy327⟩ : ∃ y_ : List (S45), y_ = (y324 ++ ((rd_T38 l0 x6_1).f4)) := ⟨_, rfl⟩
      replace H : (if x5_1.length < 1954687338268 then (boltingref04_Moved.l0 k1 l0 a1 (x5_1 ++ [(⟨wrap64 (((rd_T38 l0 x6_1).f0) + a1), (rd_T38 l0 x6_1).f1, (rd_T38 l0 x6_1).f2, (rd_T38 l0 x6_1).f3, y327⟩ : S38)]) (wrap64 (x6_1 + 1))) else (none)) = some r := by first | (rw [hy327]; with_reducible exact H) | (have H2_ := (Option.bind_some _ _).symm.trans H; rw [hy327]; with_reducible exact H2_) | (have H2_ := (Option.bind_some _ _).symm.trans H; with_reducible exact H2_) | with_reducible exact H | (rw [hy327]; exact H) | exact H
      have Ny327 := am hy327
      clear hy327
      by_cases c8 : x5_1.length < 1954687338268
      ·rw [if_pos c8] at H
       have LMc8 := am c8
       clear c8
       obtain ⟨y330, hy330⟩ : ∃ y_ : List (S38), y_ = (x5_1 ++ [(⟨wrap64 (((rd_T38 l0 x6_1).f0) + a1), (rd_T38 l0 x6_1).f1, (rd_T38 l0 x6_1).f2, (rd_T38 l0 x6_1).f3, y327⟩ : S38)]) := ⟨_, rfl⟩
       replace H : (boltingref04_Moved.l0 k1 l0 a1 y330 (wrap64 (x6_1 + 1))) = some r := by first | (rw [hy330]; with_reducible exact H) | (have H2_ := (Option.bind_some _ _).symm.trans H; rw [hy330]; with_reducible exact H2_) | (have H2_ := (Option.bind_some _ _).symm.trans H; with_reducible exact H2_) | with_reducible exact H | (rw [hy330]; exact H) | exact H
       have Ny330 := am hy330
       clear hy330
       have H' := am H
       clear H
       have p322 : 0 ≤ (x6_1 : Int) := of_decide_eq_true za
       have q322 : x6_1 < (l0.length : Int) := of_decide_eq_true za
       obtain ⟨ad322, A322_4, c322_4, e322, hx322_0, hx322_1, hx322_2, hx322_3, hx322_4, hl322_4, hi322_4⟩ := at_T38 HR0.out x6_1 p322 q322
       cases e322
       replace hx322_0 := (HB.out.cell (World.block_lt_of_cell? w _ hx322_0)).trans hx322_0
       replace hx322_1 := (HB.out.cell (World.block_lt_of_cell? w _ hx322_1)).trans hx322_1
       replace hx322_2 := (HB.out.cell (World.block_lt_of_cell? w _ hx322_2)).trans hx322_2
       replace hx322_3 := (HB.out.cell (World.block_lt_of_cell? w _ hx322_3)).trans hx322_3
       replace hx322_4 := (HB.out.cell (World.block_lt_of_cell? w _ hx322_4)).trans hx322_4
       have HR322_4 := am hi322_4
       have HC322_4 := am hl322_4
       clear hi322_4 hl322_4
       replace p322 := eq_true p322
       replace q322 := eq_true q322
       go_wp2_with (first | ((with_reducible refine gate_dst (N := 7) rfl ?_); refine box_event ?hg (N := 7) ?hd (cs := #[.int .i64 0, .int .i64 0, .string (⟨#[]⟩ : ByteArray), .string (⟨#[]⟩ : ByteArray), .slice none 0 0]) (t := 38) ?hr ?_; (case hd => rfl); (case hg => rfl); (case hr => first | (go_simp; done) | (go_simp; rfl)); intro gb323 hg w9 hbox hb; have n0_ := am (Kd.S_below (Kd.S_elderB HO_5.out gb323 (Nat.le_of_eq hg.symm)) hb); have n1_ := am (below_step (zb HB) hb); have n2_ := am (hbox); have n4_ := am ((by rw [hg]; exact (below_size (zb HB)) : w.heap.size ≤ gb323)); clear HO_5; clear HB; have HO_5 := n0_; have HB := n1_; have BK323 := n2_; have GE323 := n4_; clear n0_ n1_ n2_ n4_; clear hb hbox hg; obtain ⟨hcz10_0, hcz10_1, hcz10_2, hcz10_3, hcz10_4, hfz10_0, hfz10_1, hfz10_2, hfz10_3, hfz10_4⟩ := cz5 BK323.out) | ((with_reducible refine gate_dst (N := 24) rfl ?_); refine Kd.R_lit k45 _ 45 ?hg (N := 24) ?hd (xs := ([] : List (S45))) (inner := []) (ok := fun _ => True) (okp := fun _ => True) ?hr ?hp (fun _ hk => hk) trivial (Below.refl _ _) (Nat.le_refl _) (by simp) ?_; (case hd => rfl); (case hg => rfl); (case hr => first | (go_simp; done) | (go_simp; rfl)); (case hp => exact (Reps.none _ _)); intro v325 w11 ho12 hb hg_ hnew_; clear hg_ hnew_; (first | rw [← Ny324.out] at ho12 | (simp only [Int.reduceToNat] at ho12; rw [← Ny324.out] at ho12)); have n0_ := am (Kd.S_elder' (by exact (Kd.S_mono (Kd.S_far (p := ⟨gb323, 0, none⟩) (Kd.S_far (p := ⟨gb323, 4, none⟩) (Kd.S_far (p := ⟨gb323, 3, none⟩) (Kd.S_far (p := ⟨gb323, 2, none⟩) (Kd.S_far (p := ⟨gb323, 1, none⟩) (Kd.S_far (p := ⟨gb323, 0, none⟩) (Kd.S_mono HO_5.out (fun k_ hk => (⟨hk, hk.2⟩ : _ ∧ k_ ≠ gb323))) (fun _ hk => hk.2) (.int .i64 ((rd_T38 l0 x6_1).f0))) (fun _ hk => hk.2) (.int .i64 ((rd_T38 l0 x6_1).f1))) (fun _ hk => hk.2) (.string ((rd_T38 l0 x6_1).f2))) (fun _ hk => hk.2) (.string ((rd_T38 l0 x6_1).f3))) (fun _ hk => hk.2) (.slice A322_4 ((rd_T38 l0 x6_1).f4).length c322_4)) (fun _ hk => hk.2) (.int .i64 (wrap64 (((rd_T38 l0 x6_1).f0) + a1)))) (fun _ h_ => h_.1))) (Kd.R_base ho12) hb); have n1_ := am (Kd.R_lower ho12 (below_size (zb1 HB GE323))); have n2_ := am (blk_below (g := gb323) (o := .cells #[.int .i64 (wrap64 (((rd_T38 l0 x6_1).f0) + a1)), .int .i64 ((rd_T38 l0 x6_1).f1), .string ((rd_T38 l0 x6_1).f2), .string ((rd_T38 l0 x6_1).f3), .slice A322_4 ((rd_T38 l0 x6_1).f4).length c322_4] 38 (0, 0)) (by refine blk_put (cs := #[.int .i64 ((rd_T38 l0 x6_1).f0), .int .i64 ((rd_T38 l0 x6_1).f1), .string ((rd_T38 l0 x6_1).f2), .string ((rd_T38 l0 x6_1).f3), .slice A322_4 ((rd_T38 l0 x6_1).f4).length c322_4]) ?_ 0 _ rfl; refine blk_put (cs := #[.int .i64 ((rd_T38 l0 x6_1).f0), .int .i64 ((rd_T38 l0 x6_1).f1), .string ((rd_T38 l0 x6_1).f2), .string ((rd_T38 l0 x6_1).f3), .slice none 0 0]) ?_ 4 _ rfl; refine blk_put (cs := #[.int .i64 ((rd_T38 l0 x6_1).f0), .int .i64 ((rd_T38 l0 x6_1).f1), .string ((rd_T38 l0 x6_1).f2), .string (⟨#[]⟩ : ByteArray), .slice none 0 0]) ?_ 3 _ rfl; refine blk_put (cs := #[.int .i64 ((rd_T38 l0 x6_1).f0), .int .i64 ((rd_T38 l0 x6_1).f1), .string (⟨#[]⟩ : ByteArray), .string (⟨#[]⟩ : ByteArray), .slice none 0 0]) ?_ 2 _ rfl; refine blk_put (cs := #[.int .i64 ((rd_T38 l0 x6_1).f0), .int .i64 0, .string (⟨#[]⟩ : ByteArray), .string (⟨#[]⟩ : ByteArray), .slice none 0 0]) ?_ 1 _ rfl; refine blk_put (cs := #[.int .i64 0, .int .i64 0, .string (⟨#[]⟩ : ByteArray), .string (⟨#[]⟩ : ByteArray), .slice none 0 0]) ?_ 0 _ rfl; exact BK323.out) hb); have n3_ := am (below_step (zb1 HB GE323) hb); clear HO_5; clear BK323; clear HB; have HO_5 := n0_; have HO326 := n1_; have BK323 := n2_; have HB := n3_; clear n0_ n1_ n2_ n3_; clear hb ho12; obtain ⟨hcz13_0, hcz13_1, hcz13_2, hcz13_3, hcz13_4, hfz13_0, hfz13_1, hfz13_2, hfz13_3, hfz13_4⟩ := cz5 BK323.out) | ((with_reducible refine gate_builtin (b := .append) (xs := #[.tmp 24, .tmp 26]) rfl ?_); at_builtin; refine Kd.R_append_rows k45 (w0 := w) w.heap.size rfl (.tmp 24) (.tmp 26) 36 45 (.agg #[(.string ⟨#[]⟩), (.string ⟨#[]⟩)]) 32 rfl Tryz.underlying36 info45 rfl (by decide) (by omega) v325 y324 ((rd_T38 l0 x6_1).f4) _ _ _ (fun _ => True) (fun _ => False) rfl rfl ?aO ?aR (fun _ _ h => h) (fun _ h => h.elim) ?aF ?aB ?aS ?aL ?_; (case aR => repeat (first | exact (Kd.C_below HR322_4.out HB.out) | (with_reducible refine Kd.C_alloc ?_ _) | (with_reducible refine Kd.C_drewN ?_ _) | (with_reducible refine Kd.C_drew ?_))); (case aB => exact (zb1 HB GE323)); (case aF => exact (fun _ _ => trivial)); (case aO => exact HO326.out); (case aS => exact (below_size (zb1 HB GE323))); (case aL => have := LMc7.out; omega); intro v328 w14 ho hb hg hat; rw [← Ny327.out] at ho; have n0_ := am (Kd.S_after (ok := (fun k_ => k_ ≠ gb323)) (by exact Kd.S_mono HO_5.out (fun _ hk => ⟨hk.1.2, hk.2⟩)) hg hat); have n1_ := am (blk_grown BK323.out hg (Kd.R_ne HO326.out BK323.out (by decide))); have n2_ := am (hb); have n3_ := am (ho); clear HO_5; clear BK323; clear HB; clear HO326; have HO_5 := n0_; have BK323 := n1_; have HB := n2_; have HO329 := n3_; clear n0_ n1_ n2_ n3_; clear ho hb hg hat; obtain ⟨Ao15, co15, eo15⟩ := Kd.R_slice HO329.out; subst eo15; obtain ⟨hcz16_0, hcz16_1, hcz16_2, hcz16_3, hcz16_4, hfz16_0, hfz16_1, hfz16_2, hfz16_3, hfz16_4⟩ := cz5 BK323.out) | ((with_reducible refine gate_store (t := 36) (p := 28) rfl ?_); refine store_event (t := 36) (p := 28) (v := ?vo_w17) (w1 := (w14.setCell ⟨gb323, 4, none⟩ (.slice Ao15 y327.length co15))) ?hg ?ho ?hn ?hr ?_; (case ho => rfl); (case hg => rfl); (case hn => rfl); (case hr => first | (go_simp; done) | (go_simp; rfl)); intro w17 hw; have n0_ : Aside0 (Kd.S k38 38 w17 w.heap.size (fun k_ => some k_ ≠ (.slice Ao15 y327.length co15 : Value).ownBlock ∧ k_ ≠ gb323) u5 x5_1) := ⟨(by rw [hw]; exact (by exact Kd.S_mono (Kd.S_far (p := ⟨gb323, 4, none⟩) (Kd.S_mono HO_5.out (fun k_ hk => (⟨hk, hk.1⟩ : _ ∧ k_ ≠ gb323))) (fun _ hk => hk.2) (.slice Ao15 y327.length co15)) (fun _ hk => ⟨hk.1.2, hk.1.1⟩)))⟩; have n1_ : Aside0 (Kd.R k45 45 w17 w.heap.size (fun _ => True) (.slice Ao15 y327.length co15) y327) := ⟨(by rw [hw]; exact (by exact Kd.R_mono (Kd.R_far (p := ⟨gb323, 4, none⟩) (Kd.R_types HO329.out BK323.out (by decide)) (fun _ hk => hk.2) (.slice Ao15 y327.length co15)) (fun _ hk => trivial)))⟩; have n2_ : Aside0 (w17.heap[gb323]? = some (.cells #[.int .i64 (wrap64 (((rd_T38 l0 x6_1).f0) + a1)), .int .i64 ((rd_T38 l0 x6_1).f1), .string ((rd_T38 l0 x6_1).f2), .string ((rd_T38 l0 x6_1).f3), .slice Ao15 y327.length co15] 38 (0, 0))) := ⟨(by rw [hw]; exact (by refine blk_put (cs := #[.int .i64 (wrap64 (((rd_T38 l0 x6_1).f0) + a1)), .int .i64 ((rd_T38 l0 x6_1).f1), .string ((rd_T38 l0 x6_1).f2), .string ((rd_T38 l0 x6_1).f3), .slice A322_4 ((rd_T38 l0 x6_1).f4).length c322_4]) ?_ 4 _ rfl; exact BK323.out))⟩; have n3_ : Aside0 (Below w.heap.size w w17) := ⟨(by rw [hw]; exact (zb1 HB GE323))⟩; clear hw; clear HO_5; clear HO329; clear BK323; clear HB; have HO_5 := n0_; have HO329 := n1_; have BK323 := n2_; have HB := n3_; clear n0_ n1_ n2_ n3_; obtain ⟨hcz18_0, hcz18_1, hcz18_2, hcz18_3, hcz18_4, hfz18_0, hfz18_1, hfz18_2, hfz18_3, hfz18_4⟩ := cz5 BK323.out) | ((with_reducible refine gate_builtin (b := .append) (xs := #[.tmp 29, .tmp 31]) rfl ?_); at_builtin; refine Kd.S_append k38 (w0 := w) w.heap.size rfl (.tmp 29) (.tmp 31) 22 38 (.agg #[(.int .i64 0), (.int .i64 0), (.string ⟨#[]⟩), (.string ⟨#[]⟩), (.slice none 0 0)]) 72 rfl Tryz.underlying22 info38 rfl (by decide) (by omega) u5 x5_1 (⟨wrap64 (((rd_T38 l0 x6_1).f0) + a1), (rd_T38 l0 x6_1).f1, (rd_T38 l0 x6_1).f2, (rd_T38 l0 x6_1).f3, y327⟩ : S38) [.int .i64 (wrap64 (((rd_T38 l0 x6_1).f0) + a1)), .int .i64 ((rd_T38 l0 x6_1).f1), .string ((rd_T38 l0 x6_1).f2), .string ((rd_T38 l0 x6_1).f3), .slice Ao15 y327.length co15] (fun k_ => k_ ≠ gb323) (fun k_ => some k_ = (.slice Ao15 y327.length co15 : Value).ownBlock) rfl rfl ?aP (fun k_ hk_ => ((Kd.R_mono (ok' := fun k_ => ((fun k_ => k_ ≠ gb323)) k_ ∧ some k_ ≠ (u5 : Value).ownBlock) (Kd.R_types (Kd.R_apart' (HO329.out) (Kd.S_typed HO_5.out) (by decide)) BK323.out (by decide)) (fun k_ hk => ⟨hk.2, hk.1.2⟩))).1 k_ hk_.symm) ?aF ?aO ?aB ?aS ?aL ?_; (case aP => exact k38_mkM _ _ _ (⟨wrap64 (((rd_T38 l0 x6_1).f0) + a1), (rd_T38 l0 x6_1).f1, (rd_T38 l0 x6_1).f2, (rd_T38 l0 x6_1).f3, y327⟩ : S38) (Kd.R_mono (Kd.R_tight rfl (Kd.R_mono (ok' := fun k_ => ((fun k_ => k_ ≠ gb323)) k_ ∧ some k_ ≠ (u5 : Value).ownBlock) (Kd.R_types (Kd.R_apart' (HO329.out) (Kd.S_typed HO_5.out) (by decide)) BK323.out (by decide)) (fun k_ hk => ⟨hk.2, hk.1.2⟩))) (fun _ h_ => h_))); (case aB => exact (zb1 HB GE323)); (case aF => exact (fun k_ hk => Kd.freshB BK323.out k_ hk)); (case aO => exact (by exact Kd.S_mono HO_5.out (fun k_ hk => ⟨hk.2, fun e_ => hk.1 e_⟩))); (case aS => exact (below_size (zb1 HB GE323))); (case aL => have := LMc8.out; omega); intro v331 w19 ho hb hg hat; rw [← Ny330.out] at ho; have n1_ := am (hb); have n2_ := am (ho); clear BK323; clear HB; clear HO_5; clear HO329; have HB := n1_; have HO332 := n2_; clear n1_ n2_; clear ho hb hg hat))
       go_roundg k1
       case measure => have := HK1.out; omega
       case rel => exact ⟨(y330), (wrap64 (x6_1 + 1)), zr, H', ⟨by have := HK1.out; omega⟩, ⟨by exact Kd.S_mono HO332.out (fun _ hk => trivial)⟩, ⟨zb1 HB GE323⟩⟩
      ·rw [if_neg c8] at H
       exact absurd H (by simp)
     ·rw [if_neg c7] at H
      exact absurd H (by simp)
    ·rw [if_neg c6] at H
     exact absurd H (by simp)
   ·rw [if_neg c5] at H
    have c5b0 : decide (x6_1 < (l0.length : Int)) = false := decide_eq_false c5
    clear c5
    obtain rfl := Option.some.inj H
    go_wp2
    go_ret
    exact ⟨_, ze, by exact HO_5.out, zb HB⟩


def boltingref04_Normal.l0 : Nat → List (S38) → List (S38) → Int → Option ((List (S38)))
 | 0, _, _, _ => none
 | k + 1, x0, x3, x4 => if x4 < (x0.length : Int) then (if 0 ≤ x4 then (if x4 ≤ (wrap64 (x4 + 1)) then (if (wrap64 (x4 + 1)) ≤ (x0.length : Int) then ((boltingref04_Moved.f k ((x0.take ((wrap64 (x4 + 1)) : Int).toNat).drop (x4 : Int).toNat) 0).bind fun t340 => (if ((rd_T38 x0 x4).f1) = 1 then (if ((rd_T38 x0 x4).f3).toList = ([] : List UInt8) then (boltingref04_Normal.l0 k x0 x3 (wrap64 (x4 + 1))) else (if (x3.length : Int) > 0 then (if 0 ≤ (wrap64 ((x3.length : Int) - 1)) then (if (wrap64 ((x3.length : Int) - 1)) < (x3.length : Int) then (if ((rd_T38 x3 (wrap64 ((x3.length : Int) - 1))).f1) = 1 then (if ((rd_T38 x3 (wrap64 ((x3.length : Int) - 1))).f0) = ((rd_T38 x0 x4).f0) then (if ((rd_T38 x3 (wrap64 ((x3.length : Int) - 1))).f3).size + ((rd_T38 x0 x4).f3).size ≤ 9223372036854775807 then (boltingref04_Normal.l0 k x0 (x3.set ((wrap64 ((x3.length : Int) - 1)) : Int).toNat (⟨(rd_T38 x3 (wrap64 ((x3.length : Int) - 1))).f0, (rd_T38 x3 (wrap64 ((x3.length : Int) - 1))).f1, (rd_T38 x3 (wrap64 ((x3.length : Int) - 1))).f2, ((rd_T38 x3 (wrap64 ((x3.length : Int) - 1))).f3) ++ ((rd_T38 x0 x4).f3), (rd_T38 x3 (wrap64 ((x3.length : Int) - 1))).f4⟩ : S38)) (wrap64 (x4 + 1))) else (none)) else (if x3.length + t340.length < 1954687338268 then (boltingref04_Normal.l0 k x0 (x3 ++ t340) (wrap64 (x4 + 1))) else (none))) else (if x3.length + t340.length < 1954687338268 then (boltingref04_Normal.l0 k x0 (x3 ++ t340) (wrap64 (x4 + 1))) else (none))) else (none)) else (none)) else (if x3.length + t340.length < 1954687338268 then (boltingref04_Normal.l0 k x0 (x3 ++ t340) (wrap64 (x4 + 1))) else (none)))) else (if x3.length + t340.length < 1954687338268 then (boltingref04_Normal.l0 k x0 (x3 ++ t340) (wrap64 (x4 + 1))) else (none)))) else (none)) else (none)) else (none)) else (some x3)
def boltingref04_Normal.f (k : Nat) (l0 : List (S38)) : Option ((List (S38))) := boltingref04_Normal.l0 k l0 (([] : List (S38))) 0
def boltingref04_Normal.T8 : Bool × List (List Nat × List Nat) := (true, [([], []), ([], []), ([0, 1], [0, 1]), ([2], [2]), ([3], [3]), ([4], [4]), ([5], [5]), ([6], [6]), ([7, 6], [6, 7]), ([6, 8], [6, 8]), ([9, 6], [9]), ([10], [10]), ([10], [10]), ([12, 10], [10, 12]), ([11, 13, 10], [10, 11, 13]), ([14, 10], [10, 14]), ([15, 10], [10, 15]), ([16, 10], [10, 16]), ([10, 17], [10, 17]), ([18, 10], [18]), ([19], [19]), ([19], [19]), ([21, 19], [19, 21]), ([20, 22, 19], [19, 20, 22]), ([23, 19], [19, 23]), ([24, 19], [19, 24]), ([19], [19]), ([19], [19]), ([26, 27, 19], [19, 26, 27]), ([28, 19], [19, 28]), ([29, 19], [19, 29]), ([25, 30, 19], [19, 25, 30]), ([19, 31], [19, 31])])
def boltingref04_Normal.B8 : List Nat := [0, 0, 3, 7, 15, 31, 63, 127, 255, 511, 1023, 2047, 2047, 6143, 16383, 32767, 65535, 131071, 262143, 524287, 1048575, 1048575, 3145727, 8388607, 16777215, 33554431, 1048575, 1048575, 202375167, 470810623, 1007681535, 2147483647, 4294967295]
def boltingref04_Normal.T10 : Bool × List (List Nat × List Nat) := (true, [([], []), ([0], [0]), ([], []), ([], []), ([2, 3], [2, 3]), ([4], [4]), ([5], [5]), ([1, 6], [1, 6]), ([0, 1, 2, 3, 4, 5, 6, 7], []), ([8, 7, 0, 1, 2, 3, 4, 5, 6, 7], [7, 8])])
def boltingref04_Normal.B10 : List Nat := [0, 1, 0, 0, 12, 28, 60, 127, 255, 511]
set_option maxHeartbeats 8000000 in
set_option maxRecDepth 100000 in
theorem boltingref04_Normal.calls (k : Nat) (A0 : Option Addr) (c0 : Nat) (l0 : List (S38)) (r : List (S38)) (w : World) (hr0 : Kd.C k38 w A0 l0.length l0) (hc0 : l0.length ≤ c0) (h : boltingref04_Normal.f k l0 = some r) :
  Calls Tryz.prog 13 #[.slice A0 l0.length c0] w fun e w' => ∃ v0_ : Value, e = .returned (v0_) ∧ Kd.N k38 38 w' w.heap.size (fun k_ => (w.heap.size ≤ k_)) v0_ r ∧ Below w.heap.size w w' := by
 have hu38 := Tryz.underlying38
 have HR0 := am hr0
 have HC0 := am hc0
 clear hr0 hc0
 have HB := am (Below.refl w.heap.size w)
 have H : (boltingref04_Normal.l0 k l0 (([] : List (S38))) 0) = some r := h
 clear h
 obtain ⟨y333, hy333⟩ : ∃ y_ : List (S38), y_ = (([] : List (S38))) := ⟨_, rfl⟩
 replace H : (boltingref04_Normal.l0 k l0 y333 0) = some r := by first | (rw [hy333]; with_reducible exact H) | (have H2_ := (Option.bind_some _ _).symm.trans H; rw [hy333]; with_reducible exact H2_) | (have H2_ := (Option.bind_some _ _).symm.trans H; with_reducible exact H2_) | with_reducible exact H | (rw [hy333]; exact H) | exact H
 have Ny333 := am hy333
 clear hy333
 have H' := am H
 clear H
 go_enter Tryz.func13, Tryz.ntmps13
 go_wp2_with (first | ((with_reducible refine gate_dst (N := 8) rfl ?_); refine Kd.N_lit k38 _ 38 ?hg (N' := 8) ?hd (xs := ([] : List (S38))) (inner := []) (ok := (fun k_ => (w.heap.size ≤ k_))) (okp := (fun k_ => (w.heap.size ≤ k_))) ?hr ?hp (fun _ hk => hk) ((show ∀ k_, w.heap.size ≤ k_ → (fun k_ => (w.heap.size ≤ k_)) k_ from fun k_ hk => (Nat.le_trans (below_size (zb HB)) hk)) _ (Nat.le_refl _)) (Below.refl _ _) (Nat.le_refl _) (by simp) ?_; (case hd => rfl); (case hg => rfl); (case hr => first | (go_simp; done) | (go_simp; rfl)); (case hp => exact (Reps.none _ _)); intro v334 w2 ho3 hb hg_ hnew_; clear hg_ hnew_; (first | rw [← Ny333.out] at ho3 | (simp only [Int.reduceToNat] at ho3; rw [← Ny333.out] at ho3)); have n0_ := am (Kd.N_lower ho3 (below_size (zb HB))); have n1_ := am (below_step (zb HB) hb); clear HB; have HO335 := n0_; have HB := n1_; clear n0_ n1_; clear hb ho3))
 go_loopg [3, 4] k (fun kq v3 v4 w' => ∃ (x3_1 : List (S38)) (x4_1 : Int), v4 = .int .i64 x4_1 ∧ Aside0 (boltingref04_Normal.l0 kq l0 x3_1 x4_1 = some r) ∧ Aside0 (kq ≤ k) ∧ Aside0 (Kd.N k38 38 w' w.heap.size (fun k_ => (w.heap.size ≤ k_)) v3 x3_1) ∧ Aside0 (Below w.heap.size w w'))
 case atStart => exact ⟨(y333), (0), zr, H', ⟨Nat.le_refl _⟩, ⟨by exact HO335.out⟩, ⟨zb HB⟩⟩
 case round =>
  clear H'
  try clear c1
  try clear p2
  obtain ⟨x3_1, x4_1, rfl, HA, HK1, HO_3, HB⟩ := hrel
  cases gk with
  | zero => exact absurd HA.out (by simp [boltingref04_Normal.l0])
  | succ k1 =>
   have H := HA.out
   clear HA
   simp only [boltingref04_Normal.l0] at H
   by_cases c4 : x4_1 < (l0.length : Int)
   ·rw [if_pos c4] at H
    have c4b0 : decide (x4_1 < (l0.length : Int)) = true := decide_eq_true c4
    clear c4
    by_cases c5 : 0 ≤ x4_1
    ·rw [if_pos c5] at H
     have c5b0 := eq_true c5
     have c5b1 : decide (0 ≤ x4_1) = true := decide_eq_true c5
     clear c5
     by_cases c6 : x4_1 ≤ (wrap64 (x4_1 + 1))
     ·rw [if_pos c6] at H
      have c6b0 := eq_true c6
      have c6b1 : decide (x4_1 ≤ (wrap64 (x4_1 + 1))) = true := decide_eq_true c6
      by_cases c7 : (wrap64 (x4_1 + 1)) ≤ (l0.length : Int)
      ·rw [if_pos c7] at H
       have c7b0 := eq_true c7
       have c7b1 : decide ((wrap64 (x4_1 + 1)) ≤ (l0.length : Int)) = true := decide_eq_true c7
       obtain ⟨y336, hy336⟩ : ∃ y_ : List (S38), y_ = ((l0.take ((wrap64 (x4_1 + 1)) : Int).toNat).drop (x4_1 : Int).toNat) := ⟨_, rfl⟩
       replace H : ((boltingref04_Moved.f k1 y336 0).bind fun t340 => (if ((rd_T38 l0 x4_1).f1) = 1 then (if ((rd_T38 l0 x4_1).f3).toList = ([] : List UInt8) then (boltingref04_Normal.l0 k1 l0 x3_1 (wrap64 (x4_1 + 1))) else (if (x3_1.length : Int) > 0 then (if 0 ≤ (wrap64 ((x3_1.length : Int) - 1)) then (if (wrap64 ((x3_1.length : Int) - 1)) < (x3_1.length : Int) then (if ((rd_T38 x3_1 (wrap64 ((x3_1.length : Int) - 1))).f1) = 1 then (if ((rd_T38 x3_1 (wrap64 ((x3_1.length : Int) - 1))).f0) = ((rd_T38 l0 x4_1).f0) then (if ((rd_T38 x3_1 (wrap64 ((x3_1.length : Int) - 1))).f3).size + ((rd_T38 l0 x4_1).f3).size ≤ 9223372036854775807 then (boltingref04_Normal.l0 k1 l0 (x3_1.set ((wrap64 ((x3_1.length : Int) - 1)) : Int).toNat (⟨(rd_T38 x3_1 (wrap64 ((x3_1.length : Int) - 1))).f0, (rd_T38 x3_1 (wrap64 ((x3_1.length : Int) - 1))).f1, (rd_T38 x3_1 (wrap64 ((x3_1.length : Int) - 1))).f2, ((rd_T38 x3_1 (wrap64 ((x3_1.length : Int) - 1))).f3) ++ ((rd_T38 l0 x4_1).f3), (rd_T38 x3_1 (wrap64 ((x3_1.length : Int) - 1))).f4⟩ : S38)) (wrap64 (x4_1 + 1))) else (none)) else (if x3_1.length + t340.length < 1954687338268 then (boltingref04_Normal.l0 k1 l0 (x3_1 ++ t340) (wrap64 (x4_1 + 1))) else (none))) else (if x3_1.length + t340.length < 1954687338268 then (boltingref04_Normal.l0 k1 l0 (x3_1 ++ t340) (wrap64 (x4_1 + 1))) else (none))) else (none)) else (none)) else (if x3_1.length + t340.length < 1954687338268 then (boltingref04_Normal.l0 k1 l0 (x3_1 ++ t340) (wrap64 (x4_1 + 1))) else (none)))) else (if x3_1.length + t340.length < 1954687338268 then (boltingref04_Normal.l0 k1 l0 (x3_1 ++ t340) (wrap64 (x4_1 + 1))) else (none)))) = some r := by first | (rw [hy336]; with_reducible exact H) | (have H2_ := (Option.bind_some _ _).symm.trans H; rw [hy336]; with_reducible exact H2_) | (have H2_ := (Option.bind_some _ _).symm.trans H; with_reducible exact H2_) | with_reducible exact H | (rw [hy336]; exact H) | exact H
       have Ny336 := am hy336
       clear hy336
       replace H := Option.bind_eq_some_iff.mp H
       obtain ⟨t340, A80, H⟩ := H
       have A8 := am A80
       clear A80
       by_cases c9 : ((rd_T38 l0 x4_1).f1) = 1
       ·rw [if_pos c9] at H
        have c9b0 : (((rd_T38 l0 x4_1).f1) == 1) = true := beq_iff_eq.mpr c9
        have c9b1 : (((rd_T38 l0 x4_1).f1) != 1) = false := bne_eq_false_iff_eq.mpr c9
        clear c9
        by_cases c10 : ((rd_T38 l0 x4_1).f3).toList = ([] : List UInt8)
        ·rw [if_pos c10] at H
         have c10b0 : (((rd_T38 l0 x4_1).f3).toList == ([] : List UInt8)) = true := beq_iff_eq.mpr c10
         have c10b1 : (((rd_T38 l0 x4_1).f3).toList != ([] : List UInt8)) = false := bne_eq_false_iff_eq.mpr c10
         clear c10
         have H' := am H
         clear H
         have q11 : ((wrap64 (x4_1 + 1)) : Int) ≤ ((l0.length : Int) : Int) := of_decide_eq_true za
         obtain ⟨i011, hi011, _, hsz11, _⟩ := info_parts info38
         have hroom11 : l0.length ≤ c0 := HC0.out
         have hC11 : Kd.C k38 _ A0 l0.length l0 := HR0.out
         have ql11 : (x4_1 : Int) ≤ ((wrap64 (x4_1 + 1)) : Int) := of_decide_eq_true za
         have q011 : (0 : Int) ≤ (x4_1 : Int) := of_decide_eq_true za
         have hcut11 := cut_mid (P := Tryz.prog) 22 38 .i64 .i64 Tryz.underlying22 hi011 5 hsz11 A0 l0.length c0 x4_1 (wrap64 (x4_1 + 1)) q011 ql11 q11 hroom11
         have hr11 := Kd.C_mid (lo := (x4_1 : Int).toNat) (hi := ((wrap64 (x4_1 + 1)) : Int).toNat) (c := c0) hC11 (by omega) (by omega) hroom11
         obtain ⟨A11, hA11⟩ : ∃ A1, A1 = (if c0 = (x4_1 : Int).toNat then A0 else (A0 : Option Addr).map (·.add ((x4_1 : Int).toNat * 5))) := ⟨_, rfl⟩
         obtain ⟨c11, hc11⟩ : ∃ c1, c1 = c0 - (x4_1 : Int).toNat := ⟨_, rfl⟩
         have hy11 : y336.length = ((wrap64 (x4_1 + 1)) : Int).toNat - (x4_1 : Int).toNat := (by rw [Ny336.out, List.length_drop, List.length_take] <;> omega)
         rw [show ((l0).take ((wrap64 (x4_1 + 1)) : Int).toNat).drop (x4_1 : Int).toNat = y336 from Ny336.out.symm] at hr11
         replace hr11 : Kd.C k38 _ A11 y336.length y336 := (by rw [hA11]; exact hr11)
         rw [← hy11, ← hA11, ← hc11] at hcut11
         have HR339 := am hr11
         have HC339 := am (show y336.length ≤ c11 from by rw [hy11, hc11]; exact Nat.sub_le_sub_right (Nat.le_trans (by omega) hroom11) _)
         clear hr11 hC11 hroom11 hi011 hsz11 hc11
         have KY11 := am hy11
         have KA11 := am hA11
         clear hy11 hA11
         replace q11 := eq_true q11
         go_wp2_with (first | ((with_reducible refine gate_callee (f := 21) rfl ?_); refine goesL_ (some 20) rfl rfl Tryz.func21 (by kernel_rfl) rfl #[.slice A11 y336.length c11, .int .i64 0] rfl zm ?_; (with_reducible refine (boltingref04_Moved.calls k1 _ _ y336 0 t340 _ ?side1 ?side2 A8.out).mono ?_); (case side1 => exact zc (Kd.C_below HR339.out HB.out)); (case side2 => exact HC339.out); rintro e w12 ⟨v341, rfl, ho0, hb⟩; refine ⟨_, rfl, ?_⟩; have n0_ := am (Kd.N_elder' HO_3.out (zn ho0) hb); have n2_ := am (below_step (zb HB) hb); clear HO_3; clear HB; have HO_3 := n0_; have HB := n2_; clear n0_ n2_; (try clear hb); (try clear ho0); obtain ⟨Ao13, co13, eo13⟩ := Kd.N_slice HO_3.out; subst eo13; have p343 : 0 ≤ (x4_1 : Int) := of_decide_eq_true za; have q343 : x4_1 < (l0.length : Int) := of_decide_eq_true za; obtain ⟨ad343, A343_4, c343_4, e343, hx343_0, hx343_1, hx343_2, hx343_3, hx343_4, hl343_4, hi343_4⟩ := at_T38 HR0.out x4_1 p343 q343; cases e343; replace hx343_0 := (HB.out.cell (World.block_lt_of_cell? w _ hx343_0)).trans hx343_0; replace hx343_1 := (HB.out.cell (World.block_lt_of_cell? w _ hx343_1)).trans hx343_1; replace hx343_2 := (HB.out.cell (World.block_lt_of_cell? w _ hx343_2)).trans hx343_2; replace hx343_3 := (HB.out.cell (World.block_lt_of_cell? w _ hx343_3)).trans hx343_3; replace hx343_4 := (HB.out.cell (World.block_lt_of_cell? w _ hx343_4)).trans hx343_4; have HR343_4 := am hi343_4; have HC343_4 := am hl343_4; clear hi343_4 hl343_4; replace p343 := eq_true p343; replace q343 := eq_true q343; have p344 : 0 ≤ (x4_1 : Int) := of_decide_eq_true za; have q344 : x4_1 < (l0.length : Int) := of_decide_eq_true za; obtain ⟨ad344, A344_4, c344_4, e344, hx344_0, hx344_1, hx344_2, hx344_3, hx344_4, hl344_4, hi344_4⟩ := at_T38 HR0.out x4_1 p344 q344; obtain rfl : ad343 = ad344 := (by injection e344); replace hx344_0 := (HB.out.cell (World.block_lt_of_cell? w _ hx344_0)).trans hx344_0; replace hx344_1 := (HB.out.cell (World.block_lt_of_cell? w _ hx344_1)).trans hx344_1; replace hx344_2 := (HB.out.cell (World.block_lt_of_cell? w _ hx344_2)).trans hx344_2; replace hx344_3 := (HB.out.cell (World.block_lt_of_cell? w _ hx344_3)).trans hx344_3; replace hx344_4 := (HB.out.cell (World.block_lt_of_cell? w _ hx344_4)).trans hx344_4; have HR344_4 := am hi344_4; have HC344_4 := am hl344_4; clear hi344_4 hl344_4; replace p344 := eq_true p344; replace q344 := eq_true q344; have ea_ := Option.some.inj (hx343_4.symm.trans hx344_4); injection ea_ with ea_ en_ ec_; subst ea_; subst ec_; clear en_))
         go_roundg k1
         case measure => have := HK1.out; omega
         case rel => exact ⟨(x3_1), (wrap64 (x4_1 + 1)), zr, H', ⟨by have := HK1.out; omega⟩, ⟨by exact Kd.N_mono HO_3.out (fun _ hk => hk.1)⟩, ⟨zb HB⟩⟩
        ·rw [if_neg c10] at H
         have c10b0 : (((rd_T38 l0 x4_1).f3).toList == ([] : List UInt8)) = false := beq_eq_false_iff_ne.mpr c10
         have c10b1 : (((rd_T38 l0 x4_1).f3).toList != ([] : List UInt8)) = true := bne_iff_ne.mpr c10
         by_cases c14 : (x3_1.length : Int) > 0
         ·rw [if_pos c14] at H
          have c14b0 : decide (0 < (x3_1.length : Int)) = true := decide_eq_true c14
          have c14b1 : decide (0 < x3_1.length) = true := decide_eq_true (by omega)
          clear c14
          obtain ⟨ji15, hji15⟩ : ∃ j_ : Int, (wrap64 ((x3_1.length : Int) - 1)) = j_ := ⟨_, rfl⟩
          replace H : (if 0 ≤ (ji15) then (if (ji15) < (x3_1.length : Int) then (if ((rd_T38 x3_1 (ji15)).f1) = 1 then (if ((rd_T38 x3_1 (ji15)).f0) = ((rd_T38 l0 x4_1).f0) then (if ((rd_T38 x3_1 (ji15)).f3).size + ((rd_T38 l0 x4_1).f3).size ≤ 9223372036854775807 then (boltingref04_Normal.l0 k1 l0 (x3_1.set ((ji15) : Int).toNat (⟨(rd_T38 x3_1 (ji15)).f0, (rd_T38 x3_1 (ji15)).f1, (rd_T38 x3_1 (ji15)).f2, ((rd_T38 x3_1 (ji15)).f3) ++ ((rd_T38 l0 x4_1).f3), (rd_T38 x3_1 (ji15)).f4⟩ : S38)) (wrap64 (x4_1 + 1))) else (none)) else (if x3_1.length + t340.length < 1954687338268 then (boltingref04_Normal.l0 k1 l0 (x3_1 ++ t340) (wrap64 (x4_1 + 1))) else (none))) else (if x3_1.length + t340.length < 1954687338268 then (boltingref04_Normal.l0 k1 l0 (x3_1 ++ t340) (wrap64 (x4_1 + 1))) else (none))) else (none)) else (none)) = some r := by first | (rw [hji15] at H; exact H) | (simp only [hji15] at H ⊢; exact H)
          (try rw [hji15] at A8)
          have hji15w : (IntKind.i64.wrap ((x3_1.length : Int) - 1)) = ji15 := (i64_w _).trans hji15
          by_cases c16 : 0 ≤ (ji15)
          ·rw [if_pos c16] at H
           have c16b0 : decide (0 ≤ (ji15)) = true := decide_eq_true c16
           clear c16
           by_cases c17 : (ji15) < (x3_1.length : Int)
           ·rw [if_pos c17] at H
            have c17b0 : decide ((ji15) < (x3_1.length : Int)) = true := decide_eq_true c17
            clear c17
            by_cases c18 : ((rd_T38 x3_1 (ji15)).f1) = 1
            ·rw [if_pos c18] at H
             have c18b0 : (((rd_T38 x3_1 (ji15)).f1) == 1) = true := beq_iff_eq.mpr c18
             have c18b1 : (((rd_T38 x3_1 (ji15)).f1) != 1) = false := bne_eq_false_iff_eq.mpr c18
             clear c18
             by_cases c19 : ((rd_T38 x3_1 (ji15)).f0) = ((rd_T38 l0 x4_1).f0)
             ·rw [if_pos c19] at H
              have c19b0 : (((rd_T38 x3_1 (ji15)).f0) == ((rd_T38 l0 x4_1).f0)) = true := beq_iff_eq.mpr c19
              have c19b1 : (((rd_T38 x3_1 (ji15)).f0) != ((rd_T38 l0 x4_1).f0)) = false := bne_eq_false_iff_eq.mpr c19
              clear c19
              by_cases c20 : ((rd_T38 x3_1 (ji15)).f3).size + ((rd_T38 l0 x4_1).f3).size ≤ 9223372036854775807
              ·rw [if_pos c20] at H
               have c20b0 := eq_true c20
               have c20b1 : decide (((rd_T38 x3_1 (ji15)).f3).size + ((rd_T38 l0 x4_1).f3).size ≤ 9223372036854775807) = true := decide_eq_true c20
               try have c20b2 : (9223372036854775807 < ((rd_T38 x3_1 (ji15)).f3).size + ((rd_T38 l0 x4_1).f3).size) = False := eq_false (Nat.not_lt.2 c20)
               obtain ⟨y352, hy352⟩ : ∃ y_ : List (S38), y_ = (x3_1.set ((ji15) : Int).toNat (⟨(rd_T38 x3_1 (ji15)).f0, (rd_T38 x3_1 (ji15)).f1, (rd_T38 x3_1 (ji15)).f2, ((rd_T38 x3_1 (ji15)).f3) ++ ((rd_T38 l0 x4_1).f3), (rd_T38 x3_1 (ji15)).f4⟩ : S38)) := ⟨_, rfl⟩
               replace H : (boltingref04_Normal.l0 k1 l0 y352 (wrap64 (x4_1 + 1))) = some r := by first | (rw [hy352]; with_reducible exact H) | (have H2_ := (Option.bind_some _ _).symm.trans H; rw [hy352]; with_reducible exact H2_) | (have H2_ := (Option.bind_some _ _).symm.trans H; with_reducible exact H2_) | with_reducible exact H | (rw [hy352]; exact H) | exact H
               have Ny352 := am hy352
               clear hy352
               have H' := am H
               clear H
               have q22 : ((wrap64 (x4_1 + 1)) : Int) ≤ ((l0.length : Int) : Int) := of_decide_eq_true za
               obtain ⟨i022, hi022, _, hsz22, _⟩ := info_parts info38
               have hroom22 : l0.length ≤ c0 := HC0.out
               have hC22 : Kd.C k38 _ A0 l0.length l0 := HR0.out
               have ql22 : (x4_1 : Int) ≤ ((wrap64 (x4_1 + 1)) : Int) := of_decide_eq_true za
               have q022 : (0 : Int) ≤ (x4_1 : Int) := of_decide_eq_true za
               have hcut22 := cut_mid (P := Tryz.prog) 22 38 .i64 .i64 Tryz.underlying22 hi022 5 hsz22 A0 l0.length c0 x4_1 (wrap64 (x4_1 + 1)) q022 ql22 q22 hroom22
               have hr22 := Kd.C_mid (lo := (x4_1 : Int).toNat) (hi := ((wrap64 (x4_1 + 1)) : Int).toNat) (c := c0) hC22 (by omega) (by omega) hroom22
               obtain ⟨A22, hA22⟩ : ∃ A1, A1 = (if c0 = (x4_1 : Int).toNat then A0 else (A0 : Option Addr).map (·.add ((x4_1 : Int).toNat * 5))) := ⟨_, rfl⟩
               obtain ⟨c22, hc22⟩ : ∃ c1, c1 = c0 - (x4_1 : Int).toNat := ⟨_, rfl⟩
               have hy22 : y336.length = ((wrap64 (x4_1 + 1)) : Int).toNat - (x4_1 : Int).toNat := (by rw [Ny336.out, List.length_drop, List.length_take] <;> omega)
               rw [show ((l0).take ((wrap64 (x4_1 + 1)) : Int).toNat).drop (x4_1 : Int).toNat = y336 from Ny336.out.symm] at hr22
               replace hr22 : Kd.C k38 _ A22 y336.length y336 := (by rw [hA22]; exact hr22)
               rw [← hy22, ← hA22, ← hc22] at hcut22
               have HR339 := am hr22
               have HC339 := am (show y336.length ≤ c22 from by rw [hy22, hc22]; exact Nat.sub_le_sub_right (Nat.le_trans (by omega) hroom22) _)
               clear hr22 hC22 hroom22 hi022 hsz22 hc22
               have KY22 := am hy22
               have KA22 := am hA22
               clear hy22 hA22
               replace q22 := eq_true q22
               try go_wp2_with (first | ((with_reducible refine gate_callee (f := 21) rfl ?_); refine goesL_ (some 20) rfl rfl Tryz.func21 (by kernel_rfl) rfl #[.slice A22 y336.length c22, .int .i64 0] rfl zm ?_; (with_reducible refine (boltingref04_Moved.calls k1 _ _ y336 0 t340 _ ?side1 ?side2 A8.out).mono ?_); (case side1 => exact zc (Kd.C_below HR339.out HB.out)); (case side2 => exact HC339.out); rintro e w23 ⟨v341, rfl, ho0, hb⟩; refine ⟨_, rfl, ?_⟩; have n0_ := am (Kd.N_elder' HO_3.out (zn ho0) hb); have n2_ := am (below_step (zb HB) hb); clear HO_3; clear HB; have HO_3 := n0_; have HB := n2_; clear n0_ n2_; (try clear hb); (try clear ho0); obtain ⟨Ao24, co24, eo24⟩ := Kd.N_slice HO_3.out; subst eo24; have p343 : 0 ≤ (x4_1 : Int) := of_decide_eq_true za; have q343 : x4_1 < (l0.length : Int) := of_decide_eq_true za; obtain ⟨ad343, A343_4, c343_4, e343, hx343_0, hx343_1, hx343_2, hx343_3, hx343_4, hl343_4, hi343_4⟩ := at_T38 HR0.out x4_1 p343 q343; cases e343; replace hx343_0 := (HB.out.cell (World.block_lt_of_cell? w _ hx343_0)).trans hx343_0; replace hx343_1 := (HB.out.cell (World.block_lt_of_cell? w _ hx343_1)).trans hx343_1; replace hx343_2 := (HB.out.cell (World.block_lt_of_cell? w _ hx343_2)).trans hx343_2; replace hx343_3 := (HB.out.cell (World.block_lt_of_cell? w _ hx343_3)).trans hx343_3; replace hx343_4 := (HB.out.cell (World.block_lt_of_cell? w _ hx343_4)).trans hx343_4; have HR343_4 := am hi343_4; have HC343_4 := am hl343_4; clear hi343_4 hl343_4; replace p343 := eq_true p343; replace q343 := eq_true q343; have p344 : 0 ≤ (x4_1 : Int) := of_decide_eq_true za; have q344 : x4_1 < (l0.length : Int) := of_decide_eq_true za; obtain ⟨ad344, A344_4, c344_4, e344, hx344_0, hx344_1, hx344_2, hx344_3, hx344_4, hl344_4, hi344_4⟩ := at_T38 HR0.out x4_1 p344 q344; obtain rfl : ad343 = ad344 := (by injection e344); replace hx344_0 := (HB.out.cell (World.block_lt_of_cell? w _ hx344_0)).trans hx344_0; replace hx344_1 := (HB.out.cell (World.block_lt_of_cell? w _ hx344_1)).trans hx344_1; replace hx344_2 := (HB.out.cell (World.block_lt_of_cell? w _ hx344_2)).trans hx344_2; replace hx344_3 := (HB.out.cell (World.block_lt_of_cell? w _ hx344_3)).trans hx344_3; replace hx344_4 := (HB.out.cell (World.block_lt_of_cell? w _ hx344_4)).trans hx344_4; have HR344_4 := am hi344_4; have HC344_4 := am hl344_4; clear hi344_4 hl344_4; replace p344 := eq_true p344; replace q344 := eq_true q344; have ea_ := Option.some.inj (hx343_4.symm.trans hx344_4); injection ea_ with ea_ en_ ec_; subst ea_; subst ec_; clear en_))
               have n0_ := am (Kd.N_drew HO_3.out)
               have n2_ := am (below_drew1 HB.out)
               clear HO_3
               clear HB
               have HO_3 := n0_
               have HB := n2_
               clear n0_ n2_
               have p345 : 0 ≤ (x4_1 : Int) := of_decide_eq_true za
               have q345 : x4_1 < (l0.length : Int) := of_decide_eq_true za
               obtain ⟨ad345, A345_4, c345_4, e345, hx345_0, hx345_1, hx345_2, hx345_3, hx345_4, hl345_4, hi345_4⟩ := at_T38 HR0.out x4_1 p345 q345
               have hw345_4 := hx345_4
               have hw345_3 := hx345_3
               have hw345_2 := hx345_2
               have hw345_1 := hx345_1
               have hw345_0 := hx345_0
               obtain rfl : ad343 = ad345 := (by injection e345)
               replace hx345_0 := (HB.out.cell (World.block_lt_of_cell? w _ hx345_0)).trans hx345_0
               replace hx345_1 := (HB.out.cell (World.block_lt_of_cell? w _ hx345_1)).trans hx345_1
               replace hx345_2 := (HB.out.cell (World.block_lt_of_cell? w _ hx345_2)).trans hx345_2
               replace hx345_3 := (HB.out.cell (World.block_lt_of_cell? w _ hx345_3)).trans hx345_3
               replace hx345_4 := (HB.out.cell (World.block_lt_of_cell? w _ hx345_4)).trans hx345_4
               have HR345_4 := am hi345_4
               have HC345_4 := am hl345_4
               clear hi345_4 hl345_4
               replace p345 := eq_true p345
               replace q345 := eq_true q345
               have p346 : 0 ≤ ((ji15) : Int) := of_decide_eq_true za
               have q346 : (ji15) < (x3_1.length : Int) := of_decide_eq_true za
               obtain ⟨ad346, A346_4, c346_4, e346, hx346_0, hx346_1, hx346_2, hx346_3, hx346_4, hl346_4, hi346_4⟩ := at_T38 (Kd.N_reads' HO_3.out).2.2 (ji15) p346 q346
               cases e346
               obtain ⟨ce346, hce346, hMe346, hcc346⟩ := Kd.N_get HO_3.out z38 (ji15) p346 (by first | exact q346 | exact of_decide_eq_true za | (have e_ := (Kd.N_reads' HO_3.out).1; omega))
               obtain ⟨ua346_4, uc346_4, rfl, ul346_4, ge346_4⟩ := k38_openF hMe346
               have hv346_4 := hcc346 4 _ rfl
               rw [add_field _ _ 4 (by omega)] at hv346_4
               replace hv346_4 := Option.some.inj (hv346_4.symm.trans hx346_4)
               injection hv346_4 with hva_ hvn_ hvc_
               rw [hva_] at ge346_4
               rw [hvc_] at ul346_4
               have HL346_4 := am (show Kd.V k45 45 _ w.heap.size _ _ ((rd_T38 x3_1 (ji15)).f4) from Kd.V_mk ul346_4 ge346_4)
               clear hva_ hvn_ hvc_ ge346_4 ul346_4
               clear hcc346 hce346
               have HR346_4 := am hi346_4
               have HC346_4 := am hl346_4
               clear hi346_4 hl346_4
               replace p346 := eq_true p346
               replace q346 := eq_true q346
               have p347 : 0 ≤ ((ji15) : Int) := of_decide_eq_true za
               have q347 : (ji15) < (x3_1.length : Int) := of_decide_eq_true za
               obtain ⟨ad347, A347_4, c347_4, e347, hx347_0, hx347_1, hx347_2, hx347_3, hx347_4, hl347_4, hi347_4⟩ := at_T38 (Kd.N_reads' HO_3.out).2.2 (ji15) p347 q347
               obtain rfl : ad346 = ad347 := (by injection e347)
               obtain ⟨ce347, hce347, hMe347, hcc347⟩ := Kd.N_get HO_3.out z38 (ji15) p347 (by first | exact q347 | exact of_decide_eq_true za | (have e_ := (Kd.N_reads' HO_3.out).1; omega))
               obtain ⟨ua347_4, uc347_4, rfl, ul347_4, ge347_4⟩ := k38_openF hMe347
               have hv347_4 := hcc347 4 _ rfl
               rw [add_field _ _ 4 (by omega)] at hv347_4
               replace hv347_4 := Option.some.inj (hv347_4.symm.trans hx347_4)
               injection hv347_4 with hva_ hvn_ hvc_
               rw [hva_] at ge347_4
               rw [hvc_] at ul347_4
               have HL347_4 := am (show Kd.V k45 45 _ w.heap.size _ _ ((rd_T38 x3_1 (ji15)).f4) from Kd.V_mk ul347_4 ge347_4)
               clear hva_ hvn_ hvc_ ge347_4 ul347_4
               clear hcc347 hce347
               have HR347_4 := am hi347_4
               have HC347_4 := am hl347_4
               clear hi347_4 hl347_4
               replace p347 := eq_true p347
               replace q347 := eq_true q347
               have ea_ := Option.some.inj (hx346_4.symm.trans hx347_4)
               injection ea_ with ea_ en_ ec_
               subst ea_
               subst ec_
               clear en_
               have p348 : 0 ≤ (x4_1 : Int) := of_decide_eq_true za
               have q348 : x4_1 < (l0.length : Int) := of_decide_eq_true za
               obtain ⟨ad348, A348_4, c348_4, e348, hx348_0, hx348_1, hx348_2, hx348_3, hx348_4, hl348_4, hi348_4⟩ := at_T38 HR0.out x4_1 p348 q348
               have hw348_4 := hx348_4
               have hw348_3 := hx348_3
               have hw348_2 := hx348_2
               have hw348_1 := hx348_1
               have hw348_0 := hx348_0
               obtain rfl : ad343 = ad348 := (by injection e348)
               replace hx348_0 := (HB.out.cell (World.block_lt_of_cell? w _ hx348_0)).trans hx348_0
               replace hx348_1 := (HB.out.cell (World.block_lt_of_cell? w _ hx348_1)).trans hx348_1
               replace hx348_2 := (HB.out.cell (World.block_lt_of_cell? w _ hx348_2)).trans hx348_2
               replace hx348_3 := (HB.out.cell (World.block_lt_of_cell? w _ hx348_3)).trans hx348_3
               replace hx348_4 := (HB.out.cell (World.block_lt_of_cell? w _ hx348_4)).trans hx348_4
               have HR348_4 := am hi348_4
               have HC348_4 := am hl348_4
               clear hi348_4 hl348_4
               replace p348 := eq_true p348
               replace q348 := eq_true q348
               have ea_ := Option.some.inj (hx345_4.symm.trans hx348_4)
               injection ea_ with ea_ en_ ec_
               subst ea_
               subst ec_
               clear en_
               have hz0 : w23.cell? (ad343.add ((x4_1).toNat * 5)) = some (.int .i64 ((rd_T38 l0 x4_1).f0)) := ((HB.out.cell (World.block_lt_of_cell? w _ hw345_0)).trans hw345_0)
               have hz1 : w23.cell? ⟨(ad343.add ((x4_1).toNat * 5)).block, (ad343.add ((x4_1).toNat * 5)).off + 1, none⟩ = some (.int .i64 ((rd_T38 l0 x4_1).f1)) := ((HB.out.cell (World.block_lt_of_cell? w _ hw345_1)).trans hw345_1)
               have hz2 : w23.cell? ⟨(ad343.add ((x4_1).toNat * 5)).block, (ad343.add ((x4_1).toNat * 5)).off + 2, none⟩ = some (.string ((rd_T38 l0 x4_1).f2)) := ((HB.out.cell (World.block_lt_of_cell? w _ hw345_2)).trans hw345_2)
               have hz3 : w23.cell? ⟨(ad343.add ((x4_1).toNat * 5)).block, (ad343.add ((x4_1).toNat * 5)).off + 3, none⟩ = some (.string ((rd_T38 l0 x4_1).f3)) := ((HB.out.cell (World.block_lt_of_cell? w _ hw345_3)).trans hw345_3)
               have hz4 : w23.cell? ⟨(ad343.add ((x4_1).toNat * 5)).block, (ad343.add ((x4_1).toNat * 5)).off + 4, none⟩ = some (.slice A345_4 ((rd_T38 l0 x4_1).f4).length c345_4) := ((HB.out.cell (World.block_lt_of_cell? w _ hw345_4)).trans hw345_4)
               have hz5 : w23.cell? (ad346.add (((ji15)).toNat * 5)) = some (.int .i64 ((rd_T38 x3_1 (ji15)).f0)) := hx346_0
               have hz6 : w23.cell? ⟨(ad346.add (((ji15)).toNat * 5)).block, (ad346.add (((ji15)).toNat * 5)).off + 1, none⟩ = some (.int .i64 ((rd_T38 x3_1 (ji15)).f1)) := hx346_1
               have hz7 : w23.cell? ⟨(ad346.add (((ji15)).toNat * 5)).block, (ad346.add (((ji15)).toNat * 5)).off + 2, none⟩ = some (.string ((rd_T38 x3_1 (ji15)).f2)) := hx346_2
               have hz8 : w23.cell? ⟨(ad346.add (((ji15)).toNat * 5)).block, (ad346.add (((ji15)).toNat * 5)).off + 3, none⟩ = some (.string ((rd_T38 x3_1 (ji15)).f3)) := hx346_3
               have hz9 : w23.cell? ⟨(ad346.add (((ji15)).toNat * 5)).block, (ad346.add (((ji15)).toNat * 5)).off + 4, none⟩ = some (.slice A346_4 ((rd_T38 x3_1 (ji15)).f4).length c346_4) := hx346_4
               go_region
               clear hz0 hz1 hz2 hz3 hz4 hz5 hz6 hz7 hz8 hz9
               generalize w23.drew = w25 at HO_3 HB HL346_4 HL347_4 HR345_4 HR346_4 HR347_4 HR348_4 hx345_0 hx345_1 hx345_2 hx345_3 hx345_4 hx346_0 hx346_1 hx346_2 hx346_3 hx346_4 hx347_0 hx347_1 hx347_2 hx347_3 hx347_4 hx348_0 hx348_1 hx348_2 hx348_3 hx348_4 ⊢
               have p349 : 0 ≤ ((ji15) : Int) := of_decide_eq_true za
               have q349 : (ji15) < (x3_1.length : Int) := of_decide_eq_true za
               obtain ⟨ad349, A349_4, c349_4, e349, hx349_0, hx349_1, hx349_2, hx349_3, hx349_4, hl349_4, hi349_4⟩ := at_T38 (Kd.N_reads' HO_3.out).2.2 (ji15) p349 q349
               obtain rfl : ad346 = ad349 := (by injection e349)
               obtain ⟨ce349, hce349, hMe349, hcc349⟩ := Kd.N_get HO_3.out z38 (ji15) p349 (by first | exact q349 | exact of_decide_eq_true za | (have e_ := (Kd.N_reads' HO_3.out).1; omega))
               obtain ⟨ua349_4, uc349_4, rfl, ul349_4, ge349_4⟩ := k38_openF hMe349
               have hv349_4 := hcc349 4 _ rfl
               rw [add_field _ _ 4 (by omega)] at hv349_4
               replace hv349_4 := Option.some.inj (hv349_4.symm.trans hx349_4)
               injection hv349_4 with hva_ hvn_ hvc_
               rw [hva_] at ge349_4
               rw [hvc_] at ul349_4
               have HL349_4 := am (show Kd.V k45 45 _ w.heap.size _ _ ((rd_T38 x3_1 (ji15)).f4) from Kd.V_mk ul349_4 ge349_4)
               clear hva_ hvn_ hvc_ ge349_4 ul349_4
               clear hcc349 hce349
               have HR349_4 := am hi349_4
               have HC349_4 := am hl349_4
               clear hi349_4 hl349_4
               replace p349 := eq_true p349
               replace q349 := eq_true q349
               have ea_ := Option.some.inj (hx346_4.symm.trans hx349_4)
               injection ea_ with ea_ en_ ec_
               subst ea_
               subst ec_
               clear en_
               try go_wp2_with (first | ((with_reducible refine gate_dst (N := 7) rfl ?_); refine box_event ?hg (N := 7) ?hd (cs := #[.int .i64 0, .int .i64 0, .string (⟨#[]⟩ : ByteArray), .string (⟨#[]⟩ : ByteArray), .slice none 0 0]) (t := 38) ?hr ?_; (case hd => rfl); (case hg => rfl); (case hr => first | (go_simp; done) | (go_simp; rfl)); intro gb350 hg w26 hbox hb; have n0_ := am (Kd.N_below (Kd.N_elderB HO_3.out gb350 (Nat.le_of_eq hg.symm)) hb); have n4_ := am (Kd.V_below (Kd.V_elderB HL349_4.out gb350 (Nat.le_of_eq hg.symm)) hb); have n8_ := am (below_step (zb HB) hb); have n9_ := am (hbox); have n11_ := am ((by rw [hg]; exact (below_size (zb HB)) : w.heap.size ≤ gb350)); clear HO_3; clear HL346_4; clear HL347_4; clear HL349_4; clear HR346_4; clear HR347_4; clear HR349_4; clear HB; have HO_3 := n0_; have HL349_4 := n4_; have HB := n8_; have BK350 := n9_; have GE350 := n11_; clear n0_ n4_ n8_ n9_ n11_; clear hb hbox hg; obtain ⟨hcz27_0, hcz27_1, hcz27_2, hcz27_3, hcz27_4, hfz27_0, hfz27_1, hfz27_2, hfz27_3, hfz27_4⟩ := cz5 BK350.out))
               have n0_ : Aside0 (Kd.N k38 38 (((((w26.setCell ⟨gb350, 0, none⟩ (.int .i64 ((rd_T38 x3_1 (ji15)).f0))).setCell ⟨gb350, 1, none⟩ (.int .i64 ((rd_T38 x3_1 (ji15)).f1))).setCell ⟨gb350, 2, none⟩ (.string ((rd_T38 x3_1 (ji15)).f2))).setCell ⟨gb350, 3, none⟩ (.string ((rd_T38 x3_1 (ji15)).f3))).setCell ⟨gb350, 4, none⟩ (.slice A346_4 ((rd_T38 x3_1 (ji15)).f4).length c346_4)) w.heap.size (fun k_ => (w.heap.size ≤ k_) ∧ some k_ ≠ (v341 : Value).ownBlock ∧ k_ ≠ gb350) (.slice (some ad346) x3_1.length co24) x3_1) := ⟨by exact Kd.N_mono (Nf5 (g := gb350) (Kd.N_mono HO_3.out (fun k_ hk => (⟨hk, hk.2⟩ : _ ∧ k_ ≠ gb350))) (fun _ hk => hk.2) (.int .i64 ((rd_T38 x3_1 (ji15)).f0)) (.int .i64 ((rd_T38 x3_1 (ji15)).f1)) (.string ((rd_T38 x3_1 (ji15)).f2)) (.string ((rd_T38 x3_1 (ji15)).f3)) (.slice A346_4 ((rd_T38 x3_1 (ji15)).f4).length c346_4)) (fun _ hk => ⟨hk.1.1.1, ⟨hk.1.1.2, hk.1.2⟩⟩)⟩
               have n4_ : Aside0 (Kd.V k45 45 (((((w26.setCell ⟨gb350, 0, none⟩ (.int .i64 ((rd_T38 x3_1 (ji15)).f0))).setCell ⟨gb350, 1, none⟩ (.int .i64 ((rd_T38 x3_1 (ji15)).f1))).setCell ⟨gb350, 2, none⟩ (.string ((rd_T38 x3_1 (ji15)).f2))).setCell ⟨gb350, 3, none⟩ (.string ((rd_T38 x3_1 (ji15)).f3))).setCell ⟨gb350, 4, none⟩ (.slice A346_4 ((rd_T38 x3_1 (ji15)).f4).length c346_4)) w.heap.size (fun k_ => (w.heap.size ≤ k_) ∧ some k_ ≠ (.slice (some ad346) x3_1.length co24 : Value).ownBlock ∧ some k_ ≠ (v341 : Value).ownBlock ∧ k_ ≠ gb350) (.slice A346_4 ((rd_T38 x3_1 (ji15)).f4).length c346_4) ((rd_T38 x3_1 (ji15)).f4)) := ⟨by exact Kd.V_mono (Vf5 (g := gb350) (Kd.V_mono HL349_4.out (fun k_ hk => (⟨hk, hk.2⟩ : _ ∧ k_ ≠ gb350))) (fun _ hk => hk.2) (.int .i64 ((rd_T38 x3_1 (ji15)).f0)) (.int .i64 ((rd_T38 x3_1 (ji15)).f1)) (.string ((rd_T38 x3_1 (ji15)).f2)) (.string ((rd_T38 x3_1 (ji15)).f3)) (.slice A346_4 ((rd_T38 x3_1 (ji15)).f4).length c346_4)) (fun _ hk => ⟨hk.1.1.1.1, ⟨hk.1.1.2, ⟨hk.1.1.1.2, hk.1.2⟩⟩⟩)⟩
               have n5_ : Aside0 ((((((w26.setCell ⟨gb350, 0, none⟩ (.int .i64 ((rd_T38 x3_1 (ji15)).f0))).setCell ⟨gb350, 1, none⟩ (.int .i64 ((rd_T38 x3_1 (ji15)).f1))).setCell ⟨gb350, 2, none⟩ (.string ((rd_T38 x3_1 (ji15)).f2))).setCell ⟨gb350, 3, none⟩ (.string ((rd_T38 x3_1 (ji15)).f3))).setCell ⟨gb350, 4, none⟩ (.slice A346_4 ((rd_T38 x3_1 (ji15)).f4).length c346_4)).heap[gb350]? = some (.cells #[.int .i64 ((rd_T38 x3_1 (ji15)).f0), .int .i64 ((rd_T38 x3_1 (ji15)).f1), .string ((rd_T38 x3_1 (ji15)).f2), .string ((rd_T38 x3_1 (ji15)).f3), .slice A346_4 ((rd_T38 x3_1 (ji15)).f4).length c346_4] 38 (0, 0))) := ⟨by refine blk_put (cs := #[.int .i64 ((rd_T38 x3_1 (ji15)).f0), .int .i64 ((rd_T38 x3_1 (ji15)).f1), .string ((rd_T38 x3_1 (ji15)).f2), .string ((rd_T38 x3_1 (ji15)).f3), .slice none 0 0]) ?_ 4 _ rfl; refine blk_put (cs := #[.int .i64 ((rd_T38 x3_1 (ji15)).f0), .int .i64 ((rd_T38 x3_1 (ji15)).f1), .string ((rd_T38 x3_1 (ji15)).f2), .string (⟨#[]⟩ : ByteArray), .slice none 0 0]) ?_ 3 _ rfl; refine blk_put (cs := #[.int .i64 ((rd_T38 x3_1 (ji15)).f0), .int .i64 ((rd_T38 x3_1 (ji15)).f1), .string (⟨#[]⟩ : ByteArray), .string (⟨#[]⟩ : ByteArray), .slice none 0 0]) ?_ 2 _ rfl; refine blk_put (cs := #[.int .i64 ((rd_T38 x3_1 (ji15)).f0), .int .i64 0, .string (⟨#[]⟩ : ByteArray), .string (⟨#[]⟩ : ByteArray), .slice none 0 0]) ?_ 1 _ rfl; refine blk_put (cs := #[.int .i64 0, .int .i64 0, .string (⟨#[]⟩ : ByteArray), .string (⟨#[]⟩ : ByteArray), .slice none 0 0]) ?_ 0 _ rfl; exact BK350.out⟩
               have n6_ : Aside0 (Below w.heap.size w (((((w26.setCell ⟨gb350, 0, none⟩ (.int .i64 ((rd_T38 x3_1 (ji15)).f0))).setCell ⟨gb350, 1, none⟩ (.int .i64 ((rd_T38 x3_1 (ji15)).f1))).setCell ⟨gb350, 2, none⟩ (.string ((rd_T38 x3_1 (ji15)).f2))).setCell ⟨gb350, 3, none⟩ (.string ((rd_T38 x3_1 (ji15)).f3))).setCell ⟨gb350, 4, none⟩ (.slice A346_4 ((rd_T38 x3_1 (ji15)).f4).length c346_4))) := ⟨zb1 HB GE350⟩
               (try clear HO_3)
               (try clear HL349_4)
               (try clear BK350)
               (try clear HB)
               generalize (((((w26.setCell ⟨gb350, 0, none⟩ (.int .i64 ((rd_T38 x3_1 (ji15)).f0))).setCell ⟨gb350, 1, none⟩ (.int .i64 ((rd_T38 x3_1 (ji15)).f1))).setCell ⟨gb350, 2, none⟩ (.string ((rd_T38 x3_1 (ji15)).f2))).setCell ⟨gb350, 3, none⟩ (.string ((rd_T38 x3_1 (ji15)).f3))).setCell ⟨gb350, 4, none⟩ (.slice A346_4 ((rd_T38 x3_1 (ji15)).f4).length c346_4)) = w28 at n0_ n4_ n5_ n6_ ⊢
               have HO_3 := n0_
               have HL349_4 := n4_
               have BK350 := n5_
               have HB := n6_
               clear n0_ n4_ n5_ n6_
               have n0_ := am (Kd.N_drew HO_3.out)
               have n4_ := am (Kd.V_drew HL349_4.out)
               have n5_ := am (blk_drew BK350.out)
               have n6_ := am (below_drew1 HB.out)
               clear HO_3
               clear HL349_4
               clear BK350
               clear HB
               have HO_3 := n0_
               have HL349_4 := n4_
               have BK350 := n5_
               have HB := n6_
               clear n0_ n4_ n5_ n6_
               have p351 : 0 ≤ (x4_1 : Int) := of_decide_eq_true za
               have q351 : x4_1 < (l0.length : Int) := of_decide_eq_true za
               obtain ⟨ad351, A351_4, c351_4, e351, hx351_0, hx351_1, hx351_2, hx351_3, hx351_4, hl351_4, hi351_4⟩ := at_T38 HR0.out x4_1 p351 q351
               have hw351_4 := hx351_4
               have hw351_3 := hx351_3
               have hw351_2 := hx351_2
               have hw351_1 := hx351_1
               have hw351_0 := hx351_0
               obtain rfl : ad343 = ad351 := (by injection e351)
               replace hx351_0 := (HB.out.cell (World.block_lt_of_cell? w _ hx351_0)).trans hx351_0
               replace hx351_1 := (HB.out.cell (World.block_lt_of_cell? w _ hx351_1)).trans hx351_1
               replace hx351_2 := (HB.out.cell (World.block_lt_of_cell? w _ hx351_2)).trans hx351_2
               replace hx351_3 := (HB.out.cell (World.block_lt_of_cell? w _ hx351_3)).trans hx351_3
               replace hx351_4 := (HB.out.cell (World.block_lt_of_cell? w _ hx351_4)).trans hx351_4
               have HR351_4 := am hi351_4
               have HC351_4 := am hl351_4
               clear hi351_4 hl351_4
               replace p351 := eq_true p351
               replace q351 := eq_true q351
               have hz0 : w28.cell? ⟨gb350, 0, none⟩ = some (.int .i64 ((rd_T38 x3_1 (ji15)).f0)) := (blk_cell BK350.out 0).trans rfl
               have hz1 : w28.cell? ⟨gb350, 1, none⟩ = some (.int .i64 ((rd_T38 x3_1 (ji15)).f1)) := (blk_cell BK350.out 1).trans rfl
               have hz2 : w28.cell? ⟨gb350, 2, none⟩ = some (.string ((rd_T38 x3_1 (ji15)).f2)) := (blk_cell BK350.out 2).trans rfl
               have hz3 : w28.cell? ⟨gb350, 3, none⟩ = some (.string ((rd_T38 x3_1 (ji15)).f3)) := (blk_cell BK350.out 3).trans rfl
               have hz4 : w28.cell? ⟨gb350, 4, none⟩ = some (.slice A346_4 ((rd_T38 x3_1 (ji15)).f4).length c346_4) := (blk_cell BK350.out 4).trans rfl
               have hz5 : w28.cell? (ad343.add ((x4_1).toNat * 5)) = some (.int .i64 ((rd_T38 l0 x4_1).f0)) := ((HB.out.cell (World.block_lt_of_cell? w _ hw351_0)).trans hw351_0)
               have hz6 : w28.cell? ⟨(ad343.add ((x4_1).toNat * 5)).block, (ad343.add ((x4_1).toNat * 5)).off + 1, none⟩ = some (.int .i64 ((rd_T38 l0 x4_1).f1)) := ((HB.out.cell (World.block_lt_of_cell? w _ hw351_1)).trans hw351_1)
               have hz7 : w28.cell? ⟨(ad343.add ((x4_1).toNat * 5)).block, (ad343.add ((x4_1).toNat * 5)).off + 2, none⟩ = some (.string ((rd_T38 l0 x4_1).f2)) := ((HB.out.cell (World.block_lt_of_cell? w _ hw351_2)).trans hw351_2)
               have hz8 : w28.cell? ⟨(ad343.add ((x4_1).toNat * 5)).block, (ad343.add ((x4_1).toNat * 5)).off + 3, none⟩ = some (.string ((rd_T38 l0 x4_1).f3)) := ((HB.out.cell (World.block_lt_of_cell? w _ hw351_3)).trans hw351_3)
               have hz9 : w28.cell? ⟨(ad343.add ((x4_1).toNat * 5)).block, (ad343.add ((x4_1).toNat * 5)).off + 4, none⟩ = some (.slice A351_4 ((rd_T38 l0 x4_1).f4).length c351_4) := ((HB.out.cell (World.block_lt_of_cell? w _ hw351_4)).trans hw351_4)
               have hfBK350_0 : World.frozen? w28 ⟨gb350, 0, none⟩ = false := blk_frozen BK350.out 0
               have hfBK350_1 : World.frozen? w28 ⟨gb350, 1, none⟩ = false := blk_frozen BK350.out 1
               have hfBK350_2 : World.frozen? w28 ⟨gb350, 2, none⟩ = false := blk_frozen BK350.out 2
               have hfBK350_3 : World.frozen? w28 ⟨gb350, 3, none⟩ = false := blk_frozen BK350.out 3
               have hfBK350_4 : World.frozen? w28 ⟨gb350, 4, none⟩ = false := blk_frozen BK350.out 4
               go_region
               try rw [show ∀ (w : World) a v, (w.setCell a v).drew = w.drew.setCell a v from fun _ _ _ => rfl]
               clear hz0 hz1 hz2 hz3 hz4 hz5 hz6 hz7 hz8 hz9 hfBK350_0 hfBK350_1 hfBK350_2 hfBK350_3 hfBK350_4
               generalize w28.drew = w29 at HO_3 HL349_4 BK350 HB HR351_4 hx351_0 hx351_1 hx351_2 hx351_3 hx351_4 ⊢
               have n0_ : Aside0 (Kd.N k38 38 (w29.setCell ⟨gb350, 3, none⟩ (.string (((rd_T38 x3_1 (ji15)).f3) ++ ((rd_T38 l0 x4_1).f3)))) w.heap.size (fun k_ => (w.heap.size ≤ k_) ∧ some k_ ≠ (v341 : Value).ownBlock ∧ k_ ≠ gb350) (.slice (some ad346) x3_1.length co24) x3_1) := ⟨by exact Kd.N_mono (Kd.N_far (p := ⟨gb350, 3, none⟩) (Kd.N_mono HO_3.out (fun k_ hk => (⟨hk, hk.2.2⟩ : _ ∧ k_ ≠ gb350))) (fun _ hk => hk.2) (.string (((rd_T38 x3_1 (ji15)).f3) ++ ((rd_T38 l0 x4_1).f3)))) (fun _ hk => ⟨hk.1.1, ⟨hk.1.2.1, hk.1.2.2⟩⟩)⟩
               have n4_ : Aside0 (Kd.V k45 45 (w29.setCell ⟨gb350, 3, none⟩ (.string (((rd_T38 x3_1 (ji15)).f3) ++ ((rd_T38 l0 x4_1).f3)))) w.heap.size (fun k_ => (w.heap.size ≤ k_) ∧ some k_ ≠ (.slice (some ad346) x3_1.length co24 : Value).ownBlock ∧ some k_ ≠ (v341 : Value).ownBlock ∧ k_ ≠ gb350) (.slice A346_4 ((rd_T38 x3_1 (ji15)).f4).length c346_4) ((rd_T38 x3_1 (ji15)).f4)) := ⟨by exact Kd.V_mono (Kd.V_far (p := ⟨gb350, 3, none⟩) (Kd.V_mono HL349_4.out (fun k_ hk => (⟨hk, hk.2.2.2⟩ : _ ∧ k_ ≠ gb350))) (fun _ hk => hk.2) (.string (((rd_T38 x3_1 (ji15)).f3) ++ ((rd_T38 l0 x4_1).f3)))) (fun _ hk => ⟨hk.1.1, ⟨hk.1.2.1, ⟨hk.1.2.2.1, hk.1.2.2.2⟩⟩⟩)⟩
               have n5_ : Aside0 ((w29.setCell ⟨gb350, 3, none⟩ (.string (((rd_T38 x3_1 (ji15)).f3) ++ ((rd_T38 l0 x4_1).f3)))).heap[gb350]? = some (.cells #[.int .i64 ((rd_T38 x3_1 (ji15)).f0), .int .i64 ((rd_T38 x3_1 (ji15)).f1), .string ((rd_T38 x3_1 (ji15)).f2), .string (((rd_T38 x3_1 (ji15)).f3) ++ ((rd_T38 l0 x4_1).f3)), .slice A346_4 ((rd_T38 x3_1 (ji15)).f4).length c346_4] 38 (0, 0))) := ⟨by refine blk_put (cs := #[.int .i64 ((rd_T38 x3_1 (ji15)).f0), .int .i64 ((rd_T38 x3_1 (ji15)).f1), .string ((rd_T38 x3_1 (ji15)).f2), .string ((rd_T38 x3_1 (ji15)).f3), .slice A346_4 ((rd_T38 x3_1 (ji15)).f4).length c346_4]) ?_ 3 _ rfl; exact BK350.out⟩
               have n6_ : Aside0 (Below w.heap.size w (w29.setCell ⟨gb350, 3, none⟩ (.string (((rd_T38 x3_1 (ji15)).f3) ++ ((rd_T38 l0 x4_1).f3))))) := ⟨zb1 HB GE350⟩
               (try clear HO_3)
               (try clear HL349_4)
               (try clear BK350)
               (try clear HB)
               generalize (w29.setCell ⟨gb350, 3, none⟩ (.string (((rd_T38 x3_1 (ji15)).f3) ++ ((rd_T38 l0 x4_1).f3)))) = w31 at n0_ n4_ n5_ n6_ ⊢
               have HO_3 := n0_
               have HL349_4 := n4_
               have BK350 := n5_
               have HB := n6_
               clear n0_ n4_ n5_ n6_
               obtain ⟨hcz32_0, hcz32_1, hcz32_2, hcz32_3, hcz32_4, hfz32_0, hfz32_1, hfz32_2, hfz32_3, hfz32_4⟩ := cz5 BK350.out
               have p21 : 0 ≤ ((ji15) : Int) := of_decide_eq_true za
               have q21 : ((ji15) : Int) < ((x3_1.length : Int) : Int) := of_decide_eq_true za
               obtain ⟨go21, co21, eo21, gb21, gl21, cl21, HG21⟩ := Kd.N_form HO_3.out (by omega)
               (first | cases eo21 | (injection eo21 with ea_ en_ ec_; (first | subst ea_ | (injection ea_ with ea_; subst ea_)); subst ec_; clear en_))
               have GB21 := am gb21
               have GG21 := am HG21
               clear gb21 gl21 HG21
               (first | simp only [add_plain] at hx346_0 | skip)
               (first | simp only [add_plain] at hx346_1 | skip)
               (first | simp only [add_plain] at hx346_2 | skip)
               (first | simp only [add_plain] at hx346_3 | skip)
               (first | simp only [add_plain] at hx346_4 | skip)
               (first | simp only [add_plain] at hx347_0 | skip)
               (first | simp only [add_plain] at hx347_1 | skip)
               (first | simp only [add_plain] at hx347_2 | skip)
               (first | simp only [add_plain] at hx347_3 | skip)
               (first | simp only [add_plain] at hx347_4 | skip)
               (first | simp only [add_plain] at hx349_0 | skip)
               (first | simp only [add_plain] at hx349_1 | skip)
               (first | simp only [add_plain] at hx349_2 | skip)
               (first | simp only [add_plain] at hx349_3 | skip)
               (first | simp only [add_plain] at hx349_4 | skip)
               obtain ⟨ce21, hcl21, hM21, hcc21, hfr21⟩ := Kd.N_elem HO_3.out z38 ((ji15) : Int) p21 q21
               obtain ⟨ua21_4, uc21_4, rfl, ul21_4, ge21_4⟩ := k38_openF hM21
               have hx21_0 : w31.cell? ⟨go21, ((ji15) : Int).toNat * 5, none⟩ = some (.int .i64 ((rd_T38 x3_1 (ji15)).f0)) := hcc21 0 _ rfl
               have hx21_1 : w31.cell? ⟨go21, ((ji15) : Int).toNat * 5 + 1, none⟩ = some (.int .i64 ((rd_T38 x3_1 (ji15)).f1)) := hcc21 1 _ rfl
               have hx21_2 : w31.cell? ⟨go21, ((ji15) : Int).toNat * 5 + 2, none⟩ = some (.string ((rd_T38 x3_1 (ji15)).f2)) := hcc21 2 _ rfl
               have hx21_3 : w31.cell? ⟨go21, ((ji15) : Int).toNat * 5 + 3, none⟩ = some (.string ((rd_T38 x3_1 (ji15)).f3)) := hcc21 3 _ rfl
               have hx21_4 : w31.cell? ⟨go21, ((ji15) : Int).toNat * 5 + 4, none⟩ = some (.slice ua21_4 ((rd_T38 x3_1 (ji15)).f4).length uc21_4) := hcc21 4 _ rfl
               have hf21_0 : w31.frozen? ⟨go21, ((ji15) : Int).toNat * 5, none⟩ = false := hfr21 0
               have hf21_1 : w31.frozen? ⟨go21, ((ji15) : Int).toNat * 5 + 1, none⟩ = false := hfr21 1
               have hf21_2 : w31.frozen? ⟨go21, ((ji15) : Int).toNat * 5 + 2, none⟩ = false := hfr21 2
               have hf21_3 : w31.frozen? ⟨go21, ((ji15) : Int).toNat * 5 + 3, none⟩ = false := hfr21 3
               have hf21_4 : w31.frozen? ⟨go21, ((ji15) : Int).toNat * 5 + 4, none⟩ = false := hfr21 4
               clear hcl21 hcc21 hfr21 hM21
               replace p21 := eq_true p21
               replace q21 := eq_true q21
               have HX33 := am (show Kd.N k38 38 w31 w.heap.size (fun k_ => (w.heap.size ≤ k_) ∧ some k_ ≠ (v341 : Value).ownBlock ∧ k_ ≠ gb350) (.slice (some ⟨go21, 0, none⟩) x3_1.length co24) x3_1 from HO_3.out)
               obtain ⟨ce33, hcl33, hM33, hcc33, hfr33⟩ := Kd.N_elem HX33.out z38 ((ji15) : Int) (of_decide_eq_true za) (by have h_ : ((ji15) : Int) < ((x3_1.length : Int) : Int) := of_decide_eq_true za; first | exact h_ | (have e_ := (Kd.N_reads' HO_3.out).1; omega) | simpa using h_)
               obtain ⟨ua33_4, uc33_4, rfl, ul33_4, ge33_4⟩ := k38_openF hM33
               have HP33 := Kd.N_seg HX33.out ((ji15) : Int) (of_decide_eq_true za) (by have h_ : ((ji15) : Int) < ((x3_1.length : Int) : Int) := of_decide_eq_true za; first | exact h_ | (have e_ := (Kd.N_reads' HO_3.out).1; omega) | simpa using h_) (seg := [.int .i64 ((rd_T38 x3_1 (ji15)).f0), .int .i64 ((rd_T38 x3_1 (ji15)).f1), .string ((rd_T38 x3_1 (ji15)).f2), .string (((rd_T38 x3_1 (ji15)).f3) ++ ((rd_T38 l0 x4_1).f3)), .slice A346_4 ((rd_T38 x3_1 (ji15)).f4).length c346_4]) (j := 0) hcl33 hcc33 (show 5 ≤ 5 from by decide) (x' := (⟨(rd_T38 x3_1 (ji15)).f0, (rd_T38 x3_1 (ji15)).f1, (rd_T38 x3_1 (ji15)).f2, ((rd_T38 x3_1 (ji15)).f3) ++ ((rd_T38 l0 x4_1).f3), (rd_T38 x3_1 (ji15)).f4⟩ : S38)) (k38_mkF _ _ (⟨(rd_T38 x3_1 (ji15)).f0, (rd_T38 x3_1 (ji15)).f1, (rd_T38 x3_1 (ji15)).f2, ((rd_T38 x3_1 (ji15)).f3) ++ ((rd_T38 l0 x4_1).f3), (rd_T38 x3_1 (ji15)).f4⟩ : S38) (Kd.V_reads' (Kd.V_mono (ok' := (fun k_ => ((fun k_ => (w.heap.size ≤ k_) ∧ some k_ ≠ (v341 : Value).ownBlock ∧ k_ ≠ gb350)) k_ ∧ k_ ≠ go21)) (HL349_4.out) (fun k_ hk => ⟨⟨hk.1, ⟨hk.2.2.1, hk.2.2.2⟩⟩, fun e_ => (hk.2.1) (by rw [e_]; rfl)⟩))).2.1 (Kd.V_F (Kd.V_mono (ok' := (fun k_ => ((fun k_ => (w.heap.size ≤ k_) ∧ some k_ ≠ (v341 : Value).ownBlock ∧ k_ ≠ gb350)) k_ ∧ k_ ≠ go21)) (HL349_4.out) (fun k_ hk => ⟨⟨hk.1, ⟨hk.2.2.1, hk.2.2.2⟩⟩, fun e_ => (hk.2.1) (by rw [e_]; rfl)⟩)))) (fun _ hk => hk)
               have hx33_0 := hcc33 0 _ rfl
               (try simp only [show (k38).sz = 5 from rfl, Nat.mul_one, Nat.add_zero] at hx33_0)
               have hf33_0 := hfr33 0
               (try simp only [show (k38).sz = 5 from rfl, Nat.mul_one, Nat.add_zero] at hf33_0)
               have hx33_1 := hcc33 1 _ rfl
               (try simp only [show (k38).sz = 5 from rfl, Nat.mul_one, Nat.add_zero] at hx33_1)
               have hf33_1 := hfr33 1
               (try simp only [show (k38).sz = 5 from rfl, Nat.mul_one, Nat.add_zero] at hf33_1)
               have hx33_2 := hcc33 2 _ rfl
               (try simp only [show (k38).sz = 5 from rfl, Nat.mul_one, Nat.add_zero] at hx33_2)
               have hf33_2 := hfr33 2
               (try simp only [show (k38).sz = 5 from rfl, Nat.mul_one, Nat.add_zero] at hf33_2)
               have hx33_3 := hcc33 3 _ rfl
               (try simp only [show (k38).sz = 5 from rfl, Nat.mul_one, Nat.add_zero] at hx33_3)
               have hf33_3 := hfr33 3
               (try simp only [show (k38).sz = 5 from rfl, Nat.mul_one, Nat.add_zero] at hf33_3)
               have hx33_4 := hcc33 4 _ rfl
               (try simp only [show (k38).sz = 5 from rfl, Nat.mul_one, Nat.add_zero] at hx33_4)
               have hf33_4 := hfr33 4
               (try simp only [show (k38).sz = 5 from rfl, Nat.mul_one, Nat.add_zero] at hf33_4)
               clear hcl33 hcc33 hfr33 hM33
               try go_wp2_with (first | ((with_reducible refine gate_store (t := 38) (p := 88) rfl ?_); refine store_event (t := 38) (p := 88) (v := ?vo_w34) (w1 := (((((w31.setCell ⟨go21, ((ji15) : Int).toNat * 5, none⟩ (.int .i64 ((rd_T38 x3_1 (ji15)).f0))).setCell ⟨go21, ((ji15) : Int).toNat * 5 + 1, none⟩ (.int .i64 ((rd_T38 x3_1 (ji15)).f1))).setCell ⟨go21, ((ji15) : Int).toNat * 5 + 2, none⟩ (.string ((rd_T38 x3_1 (ji15)).f2))).setCell ⟨go21, ((ji15) : Int).toNat * 5 + 3, none⟩ (.string (((rd_T38 x3_1 (ji15)).f3) ++ ((rd_T38 l0 x4_1).f3)))).setCell ⟨go21, ((ji15) : Int).toNat * 5 + 4, none⟩ (.slice A346_4 ((rd_T38 x3_1 (ji15)).f4).length c346_4))) ?hg ?ho ?hn ?hr ?_; (case ho => rfl); (case hg => rfl); (case hn => rfl); (case hr => first | (go_simp; done) | (go_simp; rfl)); intro w34 hw; have hg : w31.grownBy w34 (some go21) := (by rw [hw]; exact HP33.2); have hp_ : Kd.N k38 38 w34 w.heap.size (fun k_ => (w.heap.size ≤ k_) ∧ some k_ ≠ (v341 : Value).ownBlock ∧ k_ ≠ gb350) (.slice (some ⟨go21, 0, none⟩) x3_1.length co24) y352 := (by rw [hw, Ny352.out]; exact HP33.1); clear HP33; have n0_ := am (hp_); have n6_ := am ((by rw [hw]; exact below_set (below_set (below_set (below_set (below_set (HB.out) GB21.out) GB21.out) GB21.out) GB21.out) GB21.out : Below w.heap.size w w34)); clear HO_3; clear HL349_4; clear BK350; clear HB; have HO_3 := n0_; have HB := n6_; clear n0_ n6_; clear hg hw hp_))
               go_roundg k1
               case measure => have := HK1.out; omega
               case rel => exact ⟨(y352), (wrap64 (x4_1 + 1)), zr, H', ⟨by have := HK1.out; omega⟩, ⟨by exact Kd.N_mono HO_3.out (fun _ hk => hk.1)⟩, ⟨zb1 HB GE350⟩⟩
              ·rw [if_neg c20] at H
               exact absurd H (by simp)
             ·rw [if_neg c19] at H
              have c19b0 : (((rd_T38 x3_1 (ji15)).f0) == ((rd_T38 l0 x4_1).f0)) = false := beq_eq_false_iff_ne.mpr c19
              have c19b1 : (((rd_T38 x3_1 (ji15)).f0) != ((rd_T38 l0 x4_1).f0)) = true := bne_iff_ne.mpr c19
              by_cases c35 : x3_1.length + t340.length < 1954687338268
              ·rw [if_pos c35] at H
               have LMc35 := am c35
               clear c35
               obtain ⟨y353, hy353⟩ : ∃ y_ : List (S38), y_ = (x3_1 ++ t340) := ⟨_, rfl⟩
               replace H : (boltingref04_Normal.l0 k1 l0 y353 (wrap64 (x4_1 + 1))) = some r := by first | (rw [hy353]; with_reducible exact H) | (have H2_ := (Option.bind_some _ _).symm.trans H; rw [hy353]; with_reducible exact H2_) | (have H2_ := (Option.bind_some _ _).symm.trans H; with_reducible exact H2_) | with_reducible exact H | (rw [hy353]; exact H) | exact H
               have Ny353 := am hy353
               clear hy353
               have H' := am H
               clear H
               have q36 : ((wrap64 (x4_1 + 1)) : Int) ≤ ((l0.length : Int) : Int) := of_decide_eq_true za
               obtain ⟨i036, hi036, _, hsz36, _⟩ := info_parts info38
               have hroom36 : l0.length ≤ c0 := HC0.out
               have hC36 : Kd.C k38 _ A0 l0.length l0 := HR0.out
               have ql36 : (x4_1 : Int) ≤ ((wrap64 (x4_1 + 1)) : Int) := of_decide_eq_true za
               have q036 : (0 : Int) ≤ (x4_1 : Int) := of_decide_eq_true za
               have hcut36 := cut_mid (P := Tryz.prog) 22 38 .i64 .i64 Tryz.underlying22 hi036 5 hsz36 A0 l0.length c0 x4_1 (wrap64 (x4_1 + 1)) q036 ql36 q36 hroom36
               have hr36 := Kd.C_mid (lo := (x4_1 : Int).toNat) (hi := ((wrap64 (x4_1 + 1)) : Int).toNat) (c := c0) hC36 (by omega) (by omega) hroom36
               obtain ⟨A36, hA36⟩ : ∃ A1, A1 = (if c0 = (x4_1 : Int).toNat then A0 else (A0 : Option Addr).map (·.add ((x4_1 : Int).toNat * 5))) := ⟨_, rfl⟩
               obtain ⟨c36, hc36⟩ : ∃ c1, c1 = c0 - (x4_1 : Int).toNat := ⟨_, rfl⟩
               have hy36 : y336.length = ((wrap64 (x4_1 + 1)) : Int).toNat - (x4_1 : Int).toNat := (by rw [Ny336.out, List.length_drop, List.length_take] <;> omega)
               rw [show ((l0).take ((wrap64 (x4_1 + 1)) : Int).toNat).drop (x4_1 : Int).toNat = y336 from Ny336.out.symm] at hr36
               replace hr36 : Kd.C k38 _ A36 y336.length y336 := (by rw [hA36]; exact hr36)
               rw [← hy36, ← hA36, ← hc36] at hcut36
               have HR339 := am hr36
               have HC339 := am (show y336.length ≤ c36 from by rw [hy36, hc36]; exact Nat.sub_le_sub_right (Nat.le_trans (by omega) hroom36) _)
               clear hr36 hC36 hroom36 hi036 hsz36 hc36
               have KY36 := am hy36
               have KA36 := am hA36
               clear hy36 hA36
               replace q36 := eq_true q36
               try go_wp2_with (first | ((with_reducible refine gate_callee (f := 21) rfl ?_); refine goesL_ (some 20) rfl rfl Tryz.func21 (by kernel_rfl) rfl #[.slice A36 y336.length c36, .int .i64 0] rfl zm ?_; (with_reducible refine (boltingref04_Moved.calls k1 _ _ y336 0 t340 _ ?side1 ?side2 A8.out).mono ?_); (case side1 => exact zc (Kd.C_below HR339.out HB.out)); (case side2 => exact HC339.out); rintro e w37 ⟨v341, rfl, ho0, hb⟩; refine ⟨_, rfl, ?_⟩; have n0_ := am (Kd.N_elder' HO_3.out (zn ho0) hb); have n1_ := am (Kd.N_lower (Kd.N_mono (ok' := fun k_ => (w.heap.size ≤ k_) ∧ some k_ ≠ (u3 : Value).ownBlock) (Kd.S_N (Kd.S_bound ho0)) (fun k_ hk_ => ⟨(Nat.le_trans (below_size (zb HB)) hk_.2.1), (Kd.fresh' (Kd.N_lt HO_3.out) k_ hk_.2.1)⟩)) (below_size (zb HB))); have n2_ := am (below_step (zb HB) hb); clear HO_3; clear HB; have HO_3 := n0_; have HO342 := n1_; have HB := n2_; clear n0_ n1_ n2_; (try clear hb); (try clear ho0); obtain ⟨Ao38, co38, eo38⟩ := Kd.N_slice HO_3.out; subst eo38; have p343 : 0 ≤ (x4_1 : Int) := of_decide_eq_true za; have q343 : x4_1 < (l0.length : Int) := of_decide_eq_true za; obtain ⟨ad343, A343_4, c343_4, e343, hx343_0, hx343_1, hx343_2, hx343_3, hx343_4, hl343_4, hi343_4⟩ := at_T38 HR0.out x4_1 p343 q343; cases e343; replace hx343_0 := (HB.out.cell (World.block_lt_of_cell? w _ hx343_0)).trans hx343_0; replace hx343_1 := (HB.out.cell (World.block_lt_of_cell? w _ hx343_1)).trans hx343_1; replace hx343_2 := (HB.out.cell (World.block_lt_of_cell? w _ hx343_2)).trans hx343_2; replace hx343_3 := (HB.out.cell (World.block_lt_of_cell? w _ hx343_3)).trans hx343_3; replace hx343_4 := (HB.out.cell (World.block_lt_of_cell? w _ hx343_4)).trans hx343_4; have HR343_4 := am hi343_4; have HC343_4 := am hl343_4; clear hi343_4 hl343_4; replace p343 := eq_true p343; replace q343 := eq_true q343; have p344 : 0 ≤ (x4_1 : Int) := of_decide_eq_true za; have q344 : x4_1 < (l0.length : Int) := of_decide_eq_true za; obtain ⟨ad344, A344_4, c344_4, e344, hx344_0, hx344_1, hx344_2, hx344_3, hx344_4, hl344_4, hi344_4⟩ := at_T38 HR0.out x4_1 p344 q344; obtain rfl : ad343 = ad344 := (by injection e344); replace hx344_0 := (HB.out.cell (World.block_lt_of_cell? w _ hx344_0)).trans hx344_0; replace hx344_1 := (HB.out.cell (World.block_lt_of_cell? w _ hx344_1)).trans hx344_1; replace hx344_2 := (HB.out.cell (World.block_lt_of_cell? w _ hx344_2)).trans hx344_2; replace hx344_3 := (HB.out.cell (World.block_lt_of_cell? w _ hx344_3)).trans hx344_3; replace hx344_4 := (HB.out.cell (World.block_lt_of_cell? w _ hx344_4)).trans hx344_4; have HR344_4 := am hi344_4; have HC344_4 := am hl344_4; clear hi344_4 hl344_4; replace p344 := eq_true p344; replace q344 := eq_true q344; have ea_ := Option.some.inj (hx343_4.symm.trans hx344_4); injection ea_ with ea_ en_ ec_; subst ea_; subst ec_; clear en_))
               have n0_ := am (Kd.N_drew HO_3.out)
               have n1_ := am (Kd.N_drew HO342.out)
               have n2_ := am (below_drew1 HB.out)
               clear HO_3
               clear HO342
               clear HB
               have HO_3 := n0_
               have HO342 := n1_
               have HB := n2_
               clear n0_ n1_ n2_
               have p345 : 0 ≤ (x4_1 : Int) := of_decide_eq_true za
               have q345 : x4_1 < (l0.length : Int) := of_decide_eq_true za
               obtain ⟨ad345, A345_4, c345_4, e345, hx345_0, hx345_1, hx345_2, hx345_3, hx345_4, hl345_4, hi345_4⟩ := at_T38 HR0.out x4_1 p345 q345
               have hw345_4 := hx345_4
               have hw345_3 := hx345_3
               have hw345_2 := hx345_2
               have hw345_1 := hx345_1
               have hw345_0 := hx345_0
               obtain rfl : ad343 = ad345 := (by injection e345)
               replace hx345_0 := (HB.out.cell (World.block_lt_of_cell? w _ hx345_0)).trans hx345_0
               replace hx345_1 := (HB.out.cell (World.block_lt_of_cell? w _ hx345_1)).trans hx345_1
               replace hx345_2 := (HB.out.cell (World.block_lt_of_cell? w _ hx345_2)).trans hx345_2
               replace hx345_3 := (HB.out.cell (World.block_lt_of_cell? w _ hx345_3)).trans hx345_3
               replace hx345_4 := (HB.out.cell (World.block_lt_of_cell? w _ hx345_4)).trans hx345_4
               have HR345_4 := am hi345_4
               have HC345_4 := am hl345_4
               clear hi345_4 hl345_4
               replace p345 := eq_true p345
               replace q345 := eq_true q345
               have p346 : 0 ≤ ((ji15) : Int) := of_decide_eq_true za
               have q346 : (ji15) < (x3_1.length : Int) := of_decide_eq_true za
               obtain ⟨ad346, A346_4, c346_4, e346, hx346_0, hx346_1, hx346_2, hx346_3, hx346_4, hl346_4, hi346_4⟩ := at_T38 (Kd.N_reads' HO_3.out).2.2 (ji15) p346 q346
               cases e346
               obtain ⟨ce346, hce346, hMe346, hcc346⟩ := Kd.N_get HO_3.out z38 (ji15) p346 (by first | exact q346 | exact of_decide_eq_true za | (have e_ := (Kd.N_reads' HO_3.out).1; omega))
               obtain ⟨ua346_4, uc346_4, rfl, ul346_4, ge346_4⟩ := k38_openF hMe346
               have hv346_4 := hcc346 4 _ rfl
               rw [add_field _ _ 4 (by omega)] at hv346_4
               replace hv346_4 := Option.some.inj (hv346_4.symm.trans hx346_4)
               injection hv346_4 with hva_ hvn_ hvc_
               rw [hva_] at ge346_4
               rw [hvc_] at ul346_4
               have HL346_4 := am (show Kd.V k45 45 _ w.heap.size _ _ ((rd_T38 x3_1 (ji15)).f4) from Kd.V_mk ul346_4 ge346_4)
               clear hva_ hvn_ hvc_ ge346_4 ul346_4
               clear hcc346 hce346
               have HR346_4 := am hi346_4
               have HC346_4 := am hl346_4
               clear hi346_4 hl346_4
               replace p346 := eq_true p346
               replace q346 := eq_true q346
               have p347 : 0 ≤ ((ji15) : Int) := of_decide_eq_true za
               have q347 : (ji15) < (x3_1.length : Int) := of_decide_eq_true za
               obtain ⟨ad347, A347_4, c347_4, e347, hx347_0, hx347_1, hx347_2, hx347_3, hx347_4, hl347_4, hi347_4⟩ := at_T38 (Kd.N_reads' HO_3.out).2.2 (ji15) p347 q347
               obtain rfl : ad346 = ad347 := (by injection e347)
               obtain ⟨ce347, hce347, hMe347, hcc347⟩ := Kd.N_get HO_3.out z38 (ji15) p347 (by first | exact q347 | exact of_decide_eq_true za | (have e_ := (Kd.N_reads' HO_3.out).1; omega))
               obtain ⟨ua347_4, uc347_4, rfl, ul347_4, ge347_4⟩ := k38_openF hMe347
               have hv347_4 := hcc347 4 _ rfl
               rw [add_field _ _ 4 (by omega)] at hv347_4
               replace hv347_4 := Option.some.inj (hv347_4.symm.trans hx347_4)
               injection hv347_4 with hva_ hvn_ hvc_
               rw [hva_] at ge347_4
               rw [hvc_] at ul347_4
               have HL347_4 := am (show Kd.V k45 45 _ w.heap.size _ _ ((rd_T38 x3_1 (ji15)).f4) from Kd.V_mk ul347_4 ge347_4)
               clear hva_ hvn_ hvc_ ge347_4 ul347_4
               clear hcc347 hce347
               have HR347_4 := am hi347_4
               have HC347_4 := am hl347_4
               clear hi347_4 hl347_4
               replace p347 := eq_true p347
               replace q347 := eq_true q347
               have ea_ := Option.some.inj (hx346_4.symm.trans hx347_4)
               injection ea_ with ea_ en_ ec_
               subst ea_
               subst ec_
               clear en_
               have p348 : 0 ≤ (x4_1 : Int) := of_decide_eq_true za
               have q348 : x4_1 < (l0.length : Int) := of_decide_eq_true za
               obtain ⟨ad348, A348_4, c348_4, e348, hx348_0, hx348_1, hx348_2, hx348_3, hx348_4, hl348_4, hi348_4⟩ := at_T38 HR0.out x4_1 p348 q348
               have hw348_4 := hx348_4
               have hw348_3 := hx348_3
               have hw348_2 := hx348_2
               have hw348_1 := hx348_1
               have hw348_0 := hx348_0
               obtain rfl : ad343 = ad348 := (by injection e348)
               replace hx348_0 := (HB.out.cell (World.block_lt_of_cell? w _ hx348_0)).trans hx348_0
               replace hx348_1 := (HB.out.cell (World.block_lt_of_cell? w _ hx348_1)).trans hx348_1
               replace hx348_2 := (HB.out.cell (World.block_lt_of_cell? w _ hx348_2)).trans hx348_2
               replace hx348_3 := (HB.out.cell (World.block_lt_of_cell? w _ hx348_3)).trans hx348_3
               replace hx348_4 := (HB.out.cell (World.block_lt_of_cell? w _ hx348_4)).trans hx348_4
               have HR348_4 := am hi348_4
               have HC348_4 := am hl348_4
               clear hi348_4 hl348_4
               replace p348 := eq_true p348
               replace q348 := eq_true q348
               have ea_ := Option.some.inj (hx345_4.symm.trans hx348_4)
               injection ea_ with ea_ en_ ec_
               subst ea_
               subst ec_
               clear en_
               have hz0 : w37.cell? (ad343.add ((x4_1).toNat * 5)) = some (.int .i64 ((rd_T38 l0 x4_1).f0)) := ((HB.out.cell (World.block_lt_of_cell? w _ hw345_0)).trans hw345_0)
               have hz1 : w37.cell? ⟨(ad343.add ((x4_1).toNat * 5)).block, (ad343.add ((x4_1).toNat * 5)).off + 1, none⟩ = some (.int .i64 ((rd_T38 l0 x4_1).f1)) := ((HB.out.cell (World.block_lt_of_cell? w _ hw345_1)).trans hw345_1)
               have hz2 : w37.cell? ⟨(ad343.add ((x4_1).toNat * 5)).block, (ad343.add ((x4_1).toNat * 5)).off + 2, none⟩ = some (.string ((rd_T38 l0 x4_1).f2)) := ((HB.out.cell (World.block_lt_of_cell? w _ hw345_2)).trans hw345_2)
               have hz3 : w37.cell? ⟨(ad343.add ((x4_1).toNat * 5)).block, (ad343.add ((x4_1).toNat * 5)).off + 3, none⟩ = some (.string ((rd_T38 l0 x4_1).f3)) := ((HB.out.cell (World.block_lt_of_cell? w _ hw345_3)).trans hw345_3)
               have hz4 : w37.cell? ⟨(ad343.add ((x4_1).toNat * 5)).block, (ad343.add ((x4_1).toNat * 5)).off + 4, none⟩ = some (.slice A345_4 ((rd_T38 l0 x4_1).f4).length c345_4) := ((HB.out.cell (World.block_lt_of_cell? w _ hw345_4)).trans hw345_4)
               have hz5 : w37.cell? (ad346.add (((ji15)).toNat * 5)) = some (.int .i64 ((rd_T38 x3_1 (ji15)).f0)) := hx346_0
               have hz6 : w37.cell? ⟨(ad346.add (((ji15)).toNat * 5)).block, (ad346.add (((ji15)).toNat * 5)).off + 1, none⟩ = some (.int .i64 ((rd_T38 x3_1 (ji15)).f1)) := hx346_1
               have hz7 : w37.cell? ⟨(ad346.add (((ji15)).toNat * 5)).block, (ad346.add (((ji15)).toNat * 5)).off + 2, none⟩ = some (.string ((rd_T38 x3_1 (ji15)).f2)) := hx346_2
               have hz8 : w37.cell? ⟨(ad346.add (((ji15)).toNat * 5)).block, (ad346.add (((ji15)).toNat * 5)).off + 3, none⟩ = some (.string ((rd_T38 x3_1 (ji15)).f3)) := hx346_3
               have hz9 : w37.cell? ⟨(ad346.add (((ji15)).toNat * 5)).block, (ad346.add (((ji15)).toNat * 5)).off + 4, none⟩ = some (.slice A346_4 ((rd_T38 x3_1 (ji15)).f4).length c346_4) := hx346_4
               go_region
               clear hz0 hz1 hz2 hz3 hz4 hz5 hz6 hz7 hz8 hz9
               generalize w37.drew = w39 at HO_3 HO342 HB HL346_4 HL347_4 HR345_4 HR346_4 HR347_4 HR348_4 hx345_0 hx345_1 hx345_2 hx345_3 hx345_4 hx346_0 hx346_1 hx346_2 hx346_3 hx346_4 hx347_0 hx347_1 hx347_2 hx347_3 hx347_4 hx348_0 hx348_1 hx348_2 hx348_3 hx348_4 ⊢
               obtain ⟨Ao41, co41, eo41⟩ := Kd.N_slice HO342.out
               subst eo41
               try go_wp2_with (first | ((with_reducible refine gate_builtin (b := .append) (xs := #[.tmp 89, .tmp 90]) rfl ?_); at_builtin; refine Kd.N_append_rows k38 (w0 := w) w.heap.size rfl (.tmp 89) (.tmp 90) 22 38 (.agg #[(.int .i64 0), (.int .i64 0), (.string ⟨#[]⟩), (.string ⟨#[]⟩), (.slice none 0 0)]) 72 rfl Tryz.underlying22 info38 rfl (by decide) (by omega) (.slice (some ad346) x3_1.length co38) x3_1 t340 _ _ _ (fun k_ => (w.heap.size ≤ k_)) (fun k_ => ((fun k_ => (w.heap.size ≤ k_))) k_ ∧ some k_ ≠ (.slice (some ad346) x3_1.length co38 : Value).ownBlock) rfl rfl ?aO ?aR (fun _ hk => hk) ?aF ?aB ?aS ?aL ?_; (case aR => exact (by skip; exact Kd.N_F (Kd.N_mono (ok' := (fun k_ => ((fun k_ => (w.heap.size ≤ k_))) k_ ∧ some k_ ≠ (.slice (some ad346) x3_1.length co38 : Value).ownBlock)) (HO342.out) (fun k_ hk => ⟨hk.1, hk.2⟩)))); (case aB => exact (zb HB)); (case aF => exact (fun k_ hk => (Nat.le_trans (below_size (zb HB)) hk))); (case aO => exact (by exact Kd.N_mono HO_3.out (fun _ hk => hk.1))); (case aS => exact (below_size (zb HB))); (case aL => have := LMc35.out; omega); intro v354 w40 ho hb hg hat; rw [← Ny353.out] at ho; have n3_ := am (hb); have n4_ := am (ho); clear HO342; clear HL346_4; clear HL347_4; clear HB; clear HO_3; have HB := n3_; have HO355 := n4_; clear n3_ n4_; clear ho hb hg hat))
               go_roundg k1
               case measure => have := HK1.out; omega
               case rel => exact ⟨(y353), (wrap64 (x4_1 + 1)), zr, H', ⟨by have := HK1.out; omega⟩, ⟨by exact HO355.out⟩, ⟨zb HB⟩⟩
              ·rw [if_neg c35] at H
               exact absurd H (by simp)
            ·rw [if_neg c18] at H
             have c18b0 : (((rd_T38 x3_1 (ji15)).f1) == 1) = false := beq_eq_false_iff_ne.mpr c18
             have c18b1 : (((rd_T38 x3_1 (ji15)).f1) != 1) = true := bne_iff_ne.mpr c18
             by_cases c42 : x3_1.length + t340.length < 1954687338268
             ·rw [if_pos c42] at H
              have LMc42 := am c42
              clear c42
              obtain ⟨y356, hy356⟩ : ∃ y_ : List (S38), y_ = (x3_1 ++ t340) := ⟨_, rfl⟩
              replace H : (boltingref04_Normal.l0 k1 l0 y356 (wrap64 (x4_1 + 1))) = some r := by first | (rw [hy356]; with_reducible exact H) | (have H2_ := (Option.bind_some _ _).symm.trans H; rw [hy356]; with_reducible exact H2_) | (have H2_ := (Option.bind_some _ _).symm.trans H; with_reducible exact H2_) | with_reducible exact H | (rw [hy356]; exact H) | exact H
              have Ny356 := am hy356
              clear hy356
              have H' := am H
              clear H
              have q43 : ((wrap64 (x4_1 + 1)) : Int) ≤ ((l0.length : Int) : Int) := of_decide_eq_true za
              obtain ⟨i043, hi043, _, hsz43, _⟩ := info_parts info38
              have hroom43 : l0.length ≤ c0 := HC0.out
              have hC43 : Kd.C k38 _ A0 l0.length l0 := HR0.out
              have ql43 : (x4_1 : Int) ≤ ((wrap64 (x4_1 + 1)) : Int) := of_decide_eq_true za
              have q043 : (0 : Int) ≤ (x4_1 : Int) := of_decide_eq_true za
              have hcut43 := cut_mid (P := Tryz.prog) 22 38 .i64 .i64 Tryz.underlying22 hi043 5 hsz43 A0 l0.length c0 x4_1 (wrap64 (x4_1 + 1)) q043 ql43 q43 hroom43
              have hr43 := Kd.C_mid (lo := (x4_1 : Int).toNat) (hi := ((wrap64 (x4_1 + 1)) : Int).toNat) (c := c0) hC43 (by omega) (by omega) hroom43
              obtain ⟨A43, hA43⟩ : ∃ A1, A1 = (if c0 = (x4_1 : Int).toNat then A0 else (A0 : Option Addr).map (·.add ((x4_1 : Int).toNat * 5))) := ⟨_, rfl⟩
              obtain ⟨c43, hc43⟩ : ∃ c1, c1 = c0 - (x4_1 : Int).toNat := ⟨_, rfl⟩
              have hy43 : y336.length = ((wrap64 (x4_1 + 1)) : Int).toNat - (x4_1 : Int).toNat := (by rw [Ny336.out, List.length_drop, List.length_take] <;> omega)
              rw [show ((l0).take ((wrap64 (x4_1 + 1)) : Int).toNat).drop (x4_1 : Int).toNat = y336 from Ny336.out.symm] at hr43
              replace hr43 : Kd.C k38 _ A43 y336.length y336 := (by rw [hA43]; exact hr43)
              rw [← hy43, ← hA43, ← hc43] at hcut43
              have HR339 := am hr43
              have HC339 := am (show y336.length ≤ c43 from by rw [hy43, hc43]; exact Nat.sub_le_sub_right (Nat.le_trans (by omega) hroom43) _)
              clear hr43 hC43 hroom43 hi043 hsz43 hc43
              have KY43 := am hy43
              have KA43 := am hA43
              clear hy43 hA43
              replace q43 := eq_true q43
              try go_wp2_with (first | ((with_reducible refine gate_callee (f := 21) rfl ?_); refine goesL_ (some 20) rfl rfl Tryz.func21 (by kernel_rfl) rfl #[.slice A43 y336.length c43, .int .i64 0] rfl zm ?_; (with_reducible refine (boltingref04_Moved.calls k1 _ _ y336 0 t340 _ ?side1 ?side2 A8.out).mono ?_); (case side1 => exact zc (Kd.C_below HR339.out HB.out)); (case side2 => exact HC339.out); rintro e w44 ⟨v341, rfl, ho0, hb⟩; refine ⟨_, rfl, ?_⟩; have n0_ := am (Kd.N_elder' HO_3.out (zn ho0) hb); have n1_ := am (Kd.N_lower (Kd.N_mono (ok' := fun k_ => (w.heap.size ≤ k_) ∧ some k_ ≠ (u3 : Value).ownBlock) (Kd.S_N (Kd.S_bound ho0)) (fun k_ hk_ => ⟨(Nat.le_trans (below_size (zb HB)) hk_.2.1), (Kd.fresh' (Kd.N_lt HO_3.out) k_ hk_.2.1)⟩)) (below_size (zb HB))); have n2_ := am (below_step (zb HB) hb); clear HO_3; clear HB; have HO_3 := n0_; have HO342 := n1_; have HB := n2_; clear n0_ n1_ n2_; (try clear hb); (try clear ho0); obtain ⟨Ao45, co45, eo45⟩ := Kd.N_slice HO_3.out; subst eo45; have p343 : 0 ≤ (x4_1 : Int) := of_decide_eq_true za; have q343 : x4_1 < (l0.length : Int) := of_decide_eq_true za; obtain ⟨ad343, A343_4, c343_4, e343, hx343_0, hx343_1, hx343_2, hx343_3, hx343_4, hl343_4, hi343_4⟩ := at_T38 HR0.out x4_1 p343 q343; cases e343; replace hx343_0 := (HB.out.cell (World.block_lt_of_cell? w _ hx343_0)).trans hx343_0; replace hx343_1 := (HB.out.cell (World.block_lt_of_cell? w _ hx343_1)).trans hx343_1; replace hx343_2 := (HB.out.cell (World.block_lt_of_cell? w _ hx343_2)).trans hx343_2; replace hx343_3 := (HB.out.cell (World.block_lt_of_cell? w _ hx343_3)).trans hx343_3; replace hx343_4 := (HB.out.cell (World.block_lt_of_cell? w _ hx343_4)).trans hx343_4; have HR343_4 := am hi343_4; have HC343_4 := am hl343_4; clear hi343_4 hl343_4; replace p343 := eq_true p343; replace q343 := eq_true q343; have p344 : 0 ≤ (x4_1 : Int) := of_decide_eq_true za; have q344 : x4_1 < (l0.length : Int) := of_decide_eq_true za; obtain ⟨ad344, A344_4, c344_4, e344, hx344_0, hx344_1, hx344_2, hx344_3, hx344_4, hl344_4, hi344_4⟩ := at_T38 HR0.out x4_1 p344 q344; obtain rfl : ad343 = ad344 := (by injection e344); replace hx344_0 := (HB.out.cell (World.block_lt_of_cell? w _ hx344_0)).trans hx344_0; replace hx344_1 := (HB.out.cell (World.block_lt_of_cell? w _ hx344_1)).trans hx344_1; replace hx344_2 := (HB.out.cell (World.block_lt_of_cell? w _ hx344_2)).trans hx344_2; replace hx344_3 := (HB.out.cell (World.block_lt_of_cell? w _ hx344_3)).trans hx344_3; replace hx344_4 := (HB.out.cell (World.block_lt_of_cell? w _ hx344_4)).trans hx344_4; have HR344_4 := am hi344_4; have HC344_4 := am hl344_4; clear hi344_4 hl344_4; replace p344 := eq_true p344; replace q344 := eq_true q344; have ea_ := Option.some.inj (hx343_4.symm.trans hx344_4); injection ea_ with ea_ en_ ec_; subst ea_; subst ec_; clear en_))
              have n0_ := am (Kd.N_drew HO_3.out)
              have n1_ := am (Kd.N_drew HO342.out)
              have n2_ := am (below_drew1 HB.out)
              clear HO_3
              clear HO342
              clear HB
              have HO_3 := n0_
              have HO342 := n1_
              have HB := n2_
              clear n0_ n1_ n2_
              have p345 : 0 ≤ (x4_1 : Int) := of_decide_eq_true za
              have q345 : x4_1 < (l0.length : Int) := of_decide_eq_true za
              obtain ⟨ad345, A345_4, c345_4, e345, hx345_0, hx345_1, hx345_2, hx345_3, hx345_4, hl345_4, hi345_4⟩ := at_T38 HR0.out x4_1 p345 q345
              have hw345_4 := hx345_4
              have hw345_3 := hx345_3
              have hw345_2 := hx345_2
              have hw345_1 := hx345_1
              have hw345_0 := hx345_0
              obtain rfl : ad343 = ad345 := (by injection e345)
              replace hx345_0 := (HB.out.cell (World.block_lt_of_cell? w _ hx345_0)).trans hx345_0
              replace hx345_1 := (HB.out.cell (World.block_lt_of_cell? w _ hx345_1)).trans hx345_1
              replace hx345_2 := (HB.out.cell (World.block_lt_of_cell? w _ hx345_2)).trans hx345_2
              replace hx345_3 := (HB.out.cell (World.block_lt_of_cell? w _ hx345_3)).trans hx345_3
              replace hx345_4 := (HB.out.cell (World.block_lt_of_cell? w _ hx345_4)).trans hx345_4
              have HR345_4 := am hi345_4
              have HC345_4 := am hl345_4
              clear hi345_4 hl345_4
              replace p345 := eq_true p345
              replace q345 := eq_true q345
              have p346 : 0 ≤ ((ji15) : Int) := of_decide_eq_true za
              have q346 : (ji15) < (x3_1.length : Int) := of_decide_eq_true za
              obtain ⟨ad346, A346_4, c346_4, e346, hx346_0, hx346_1, hx346_2, hx346_3, hx346_4, hl346_4, hi346_4⟩ := at_T38 (Kd.N_reads' HO_3.out).2.2 (ji15) p346 q346
              cases e346
              obtain ⟨ce346, hce346, hMe346, hcc346⟩ := Kd.N_get HO_3.out z38 (ji15) p346 (by first | exact q346 | exact of_decide_eq_true za | (have e_ := (Kd.N_reads' HO_3.out).1; omega))
              obtain ⟨ua346_4, uc346_4, rfl, ul346_4, ge346_4⟩ := k38_openF hMe346
              have hv346_4 := hcc346 4 _ rfl
              rw [add_field _ _ 4 (by omega)] at hv346_4
              replace hv346_4 := Option.some.inj (hv346_4.symm.trans hx346_4)
              injection hv346_4 with hva_ hvn_ hvc_
              rw [hva_] at ge346_4
              rw [hvc_] at ul346_4
              have HL346_4 := am (show Kd.V k45 45 _ w.heap.size _ _ ((rd_T38 x3_1 (ji15)).f4) from Kd.V_mk ul346_4 ge346_4)
              clear hva_ hvn_ hvc_ ge346_4 ul346_4
              clear hcc346 hce346
              have HR346_4 := am hi346_4
              have HC346_4 := am hl346_4
              clear hi346_4 hl346_4
              replace p346 := eq_true p346
              replace q346 := eq_true q346
              have hz0 : w44.cell? (ad343.add ((x4_1).toNat * 5)) = some (.int .i64 ((rd_T38 l0 x4_1).f0)) := ((HB.out.cell (World.block_lt_of_cell? w _ hw345_0)).trans hw345_0)
              have hz1 : w44.cell? ⟨(ad343.add ((x4_1).toNat * 5)).block, (ad343.add ((x4_1).toNat * 5)).off + 1, none⟩ = some (.int .i64 ((rd_T38 l0 x4_1).f1)) := ((HB.out.cell (World.block_lt_of_cell? w _ hw345_1)).trans hw345_1)
              have hz2 : w44.cell? ⟨(ad343.add ((x4_1).toNat * 5)).block, (ad343.add ((x4_1).toNat * 5)).off + 2, none⟩ = some (.string ((rd_T38 l0 x4_1).f2)) := ((HB.out.cell (World.block_lt_of_cell? w _ hw345_2)).trans hw345_2)
              have hz3 : w44.cell? ⟨(ad343.add ((x4_1).toNat * 5)).block, (ad343.add ((x4_1).toNat * 5)).off + 3, none⟩ = some (.string ((rd_T38 l0 x4_1).f3)) := ((HB.out.cell (World.block_lt_of_cell? w _ hw345_3)).trans hw345_3)
              have hz4 : w44.cell? ⟨(ad343.add ((x4_1).toNat * 5)).block, (ad343.add ((x4_1).toNat * 5)).off + 4, none⟩ = some (.slice A345_4 ((rd_T38 l0 x4_1).f4).length c345_4) := ((HB.out.cell (World.block_lt_of_cell? w _ hw345_4)).trans hw345_4)
              have hz5 : w44.cell? (ad346.add (((ji15)).toNat * 5)) = some (.int .i64 ((rd_T38 x3_1 (ji15)).f0)) := hx346_0
              have hz6 : w44.cell? ⟨(ad346.add (((ji15)).toNat * 5)).block, (ad346.add (((ji15)).toNat * 5)).off + 1, none⟩ = some (.int .i64 ((rd_T38 x3_1 (ji15)).f1)) := hx346_1
              have hz7 : w44.cell? ⟨(ad346.add (((ji15)).toNat * 5)).block, (ad346.add (((ji15)).toNat * 5)).off + 2, none⟩ = some (.string ((rd_T38 x3_1 (ji15)).f2)) := hx346_2
              have hz8 : w44.cell? ⟨(ad346.add (((ji15)).toNat * 5)).block, (ad346.add (((ji15)).toNat * 5)).off + 3, none⟩ = some (.string ((rd_T38 x3_1 (ji15)).f3)) := hx346_3
              have hz9 : w44.cell? ⟨(ad346.add (((ji15)).toNat * 5)).block, (ad346.add (((ji15)).toNat * 5)).off + 4, none⟩ = some (.slice A346_4 ((rd_T38 x3_1 (ji15)).f4).length c346_4) := hx346_4
              go_region
              clear hz0 hz1 hz2 hz3 hz4 hz5 hz6 hz7 hz8 hz9
              generalize w44.drew = w46 at HO_3 HO342 HB HL346_4 HR345_4 HR346_4 hx345_0 hx345_1 hx345_2 hx345_3 hx345_4 hx346_0 hx346_1 hx346_2 hx346_3 hx346_4 ⊢
              obtain ⟨Ao48, co48, eo48⟩ := Kd.N_slice HO342.out
              subst eo48
              try go_wp2_with (first | ((with_reducible refine gate_builtin (b := .append) (xs := #[.tmp 89, .tmp 90]) rfl ?_); at_builtin; refine Kd.N_append_rows k38 (w0 := w) w.heap.size rfl (.tmp 89) (.tmp 90) 22 38 (.agg #[(.int .i64 0), (.int .i64 0), (.string ⟨#[]⟩), (.string ⟨#[]⟩), (.slice none 0 0)]) 72 rfl Tryz.underlying22 info38 rfl (by decide) (by omega) (.slice (some ad346) x3_1.length co45) x3_1 t340 _ _ _ (fun k_ => (w.heap.size ≤ k_)) (fun k_ => ((fun k_ => (w.heap.size ≤ k_))) k_ ∧ some k_ ≠ (.slice (some ad346) x3_1.length co45 : Value).ownBlock) rfl rfl ?aO ?aR (fun _ hk => hk) ?aF ?aB ?aS ?aL ?_; (case aR => exact (by skip; exact Kd.N_F (Kd.N_mono (ok' := (fun k_ => ((fun k_ => (w.heap.size ≤ k_))) k_ ∧ some k_ ≠ (.slice (some ad346) x3_1.length co45 : Value).ownBlock)) (HO342.out) (fun k_ hk => ⟨hk.1, hk.2⟩)))); (case aB => exact (zb HB)); (case aF => exact (fun k_ hk => (Nat.le_trans (below_size (zb HB)) hk))); (case aO => exact (by exact Kd.N_mono HO_3.out (fun _ hk => hk.1))); (case aS => exact (below_size (zb HB))); (case aL => have := LMc42.out; omega); intro v357 w47 ho hb hg hat; rw [← Ny356.out] at ho; have n2_ := am (hb); have n3_ := am (ho); clear HO342; clear HL346_4; clear HB; clear HO_3; have HB := n2_; have HO358 := n3_; clear n2_ n3_; clear ho hb hg hat))
              go_roundg k1
              case measure => have := HK1.out; omega
              case rel => exact ⟨(y356), (wrap64 (x4_1 + 1)), zr, H', ⟨by have := HK1.out; omega⟩, ⟨by exact HO358.out⟩, ⟨zb HB⟩⟩
             ·rw [if_neg c42] at H
              exact absurd H (by simp)
           ·rw [if_neg c17] at H
            exact absurd H (by simp)
          ·rw [if_neg c16] at H
           exact absurd H (by simp)
         ·rw [if_neg c14] at H
          have c14b0 : decide (0 < (x3_1.length : Int)) = false := decide_eq_false c14
          have c14b1 : decide (0 < x3_1.length) = false := decide_eq_false (by omega)
          clear c14
          by_cases c49 : x3_1.length + t340.length < 1954687338268
          ·rw [if_pos c49] at H
           have LMc49 := am c49
           clear c49
           obtain ⟨y359, hy359⟩ : ∃ y_ : List (S38), y_ = (x3_1 ++ t340) := ⟨_, rfl⟩
           replace H : (boltingref04_Normal.l0 k1 l0 y359 (wrap64 (x4_1 + 1))) = some r := by first | (rw [hy359]; with_reducible exact H) | (have H2_ := (Option.bind_some _ _).symm.trans H; rw [hy359]; with_reducible exact H2_) | (have H2_ := (Option.bind_some _ _).symm.trans H; with_reducible exact H2_) | with_reducible exact H | (rw [hy359]; exact H) | exact H
           have Ny359 := am hy359
           clear hy359
           have H' := am H
           clear H
           have q50 : ((wrap64 (x4_1 + 1)) : Int) ≤ ((l0.length : Int) : Int) := of_decide_eq_true za
           obtain ⟨i050, hi050, _, hsz50, _⟩ := info_parts info38
           have hroom50 : l0.length ≤ c0 := HC0.out
           have hC50 : Kd.C k38 _ A0 l0.length l0 := HR0.out
           have ql50 : (x4_1 : Int) ≤ ((wrap64 (x4_1 + 1)) : Int) := of_decide_eq_true za
           have q050 : (0 : Int) ≤ (x4_1 : Int) := of_decide_eq_true za
           have hcut50 := cut_mid (P := Tryz.prog) 22 38 .i64 .i64 Tryz.underlying22 hi050 5 hsz50 A0 l0.length c0 x4_1 (wrap64 (x4_1 + 1)) q050 ql50 q50 hroom50
           have hr50 := Kd.C_mid (lo := (x4_1 : Int).toNat) (hi := ((wrap64 (x4_1 + 1)) : Int).toNat) (c := c0) hC50 (by omega) (by omega) hroom50
           obtain ⟨A50, hA50⟩ : ∃ A1, A1 = (if c0 = (x4_1 : Int).toNat then A0 else (A0 : Option Addr).map (·.add ((x4_1 : Int).toNat * 5))) := ⟨_, rfl⟩
           obtain ⟨c50, hc50⟩ : ∃ c1, c1 = c0 - (x4_1 : Int).toNat := ⟨_, rfl⟩
           have hy50 : y336.length = ((wrap64 (x4_1 + 1)) : Int).toNat - (x4_1 : Int).toNat := (by rw [Ny336.out, List.length_drop, List.length_take] <;> omega)
           rw [show ((l0).take ((wrap64 (x4_1 + 1)) : Int).toNat).drop (x4_1 : Int).toNat = y336 from Ny336.out.symm] at hr50
           replace hr50 : Kd.C k38 _ A50 y336.length y336 := (by rw [hA50]; exact hr50)
           rw [← hy50, ← hA50, ← hc50] at hcut50
           have HR339 := am hr50
           have HC339 := am (show y336.length ≤ c50 from by rw [hy50, hc50]; exact Nat.sub_le_sub_right (Nat.le_trans (by omega) hroom50) _)
           clear hr50 hC50 hroom50 hi050 hsz50 hc50
           have KY50 := am hy50
           have KA50 := am hA50
           clear hy50 hA50
           replace q50 := eq_true q50
           try go_wp2_with (first | ((with_reducible refine gate_callee (f := 21) rfl ?_); refine goesL_ (some 20) rfl rfl Tryz.func21 (by kernel_rfl) rfl #[.slice A50 y336.length c50, .int .i64 0] rfl zm ?_; (with_reducible refine (boltingref04_Moved.calls k1 _ _ y336 0 t340 _ ?side1 ?side2 A8.out).mono ?_); (case side1 => exact zc (Kd.C_below HR339.out HB.out)); (case side2 => exact HC339.out); rintro e w51 ⟨v341, rfl, ho0, hb⟩; refine ⟨_, rfl, ?_⟩; have n0_ := am (Kd.N_elder' HO_3.out (zn ho0) hb); have n1_ := am (Kd.N_lower (Kd.N_mono (ok' := fun k_ => (w.heap.size ≤ k_) ∧ some k_ ≠ (u3 : Value).ownBlock) (Kd.S_N (Kd.S_bound ho0)) (fun k_ hk_ => ⟨(Nat.le_trans (below_size (zb HB)) hk_.2.1), (Kd.fresh' (Kd.N_lt HO_3.out) k_ hk_.2.1)⟩)) (below_size (zb HB))); have n2_ := am (below_step (zb HB) hb); clear HO_3; clear HB; have HO_3 := n0_; have HO342 := n1_; have HB := n2_; clear n0_ n1_ n2_; (try clear hb); (try clear ho0); obtain ⟨Ao52, co52, eo52⟩ := Kd.N_slice HO_3.out; subst eo52; have p343 : 0 ≤ (x4_1 : Int) := of_decide_eq_true za; have q343 : x4_1 < (l0.length : Int) := of_decide_eq_true za; obtain ⟨ad343, A343_4, c343_4, e343, hx343_0, hx343_1, hx343_2, hx343_3, hx343_4, hl343_4, hi343_4⟩ := at_T38 HR0.out x4_1 p343 q343; cases e343; replace hx343_0 := (HB.out.cell (World.block_lt_of_cell? w _ hx343_0)).trans hx343_0; replace hx343_1 := (HB.out.cell (World.block_lt_of_cell? w _ hx343_1)).trans hx343_1; replace hx343_2 := (HB.out.cell (World.block_lt_of_cell? w _ hx343_2)).trans hx343_2; replace hx343_3 := (HB.out.cell (World.block_lt_of_cell? w _ hx343_3)).trans hx343_3; replace hx343_4 := (HB.out.cell (World.block_lt_of_cell? w _ hx343_4)).trans hx343_4; have HR343_4 := am hi343_4; have HC343_4 := am hl343_4; clear hi343_4 hl343_4; replace p343 := eq_true p343; replace q343 := eq_true q343; have p344 : 0 ≤ (x4_1 : Int) := of_decide_eq_true za; have q344 : x4_1 < (l0.length : Int) := of_decide_eq_true za; obtain ⟨ad344, A344_4, c344_4, e344, hx344_0, hx344_1, hx344_2, hx344_3, hx344_4, hl344_4, hi344_4⟩ := at_T38 HR0.out x4_1 p344 q344; obtain rfl : ad343 = ad344 := (by injection e344); replace hx344_0 := (HB.out.cell (World.block_lt_of_cell? w _ hx344_0)).trans hx344_0; replace hx344_1 := (HB.out.cell (World.block_lt_of_cell? w _ hx344_1)).trans hx344_1; replace hx344_2 := (HB.out.cell (World.block_lt_of_cell? w _ hx344_2)).trans hx344_2; replace hx344_3 := (HB.out.cell (World.block_lt_of_cell? w _ hx344_3)).trans hx344_3; replace hx344_4 := (HB.out.cell (World.block_lt_of_cell? w _ hx344_4)).trans hx344_4; have HR344_4 := am hi344_4; have HC344_4 := am hl344_4; clear hi344_4 hl344_4; replace p344 := eq_true p344; replace q344 := eq_true q344; have ea_ := Option.some.inj (hx343_4.symm.trans hx344_4); injection ea_ with ea_ en_ ec_; subst ea_; subst ec_; clear en_))
           have n0_ := am (Kd.N_drew HO_3.out)
           have n1_ := am (Kd.N_drew HO342.out)
           have n2_ := am (below_drew1 HB.out)
           clear HO_3
           clear HO342
           clear HB
           have HO_3 := n0_
           have HO342 := n1_
           have HB := n2_
           clear n0_ n1_ n2_
           have p345 : 0 ≤ (x4_1 : Int) := of_decide_eq_true za
           have q345 : x4_1 < (l0.length : Int) := of_decide_eq_true za
           obtain ⟨ad345, A345_4, c345_4, e345, hx345_0, hx345_1, hx345_2, hx345_3, hx345_4, hl345_4, hi345_4⟩ := at_T38 HR0.out x4_1 p345 q345
           have hw345_4 := hx345_4
           have hw345_3 := hx345_3
           have hw345_2 := hx345_2
           have hw345_1 := hx345_1
           have hw345_0 := hx345_0
           obtain rfl : ad343 = ad345 := (by injection e345)
           replace hx345_0 := (HB.out.cell (World.block_lt_of_cell? w _ hx345_0)).trans hx345_0
           replace hx345_1 := (HB.out.cell (World.block_lt_of_cell? w _ hx345_1)).trans hx345_1
           replace hx345_2 := (HB.out.cell (World.block_lt_of_cell? w _ hx345_2)).trans hx345_2
           replace hx345_3 := (HB.out.cell (World.block_lt_of_cell? w _ hx345_3)).trans hx345_3
           replace hx345_4 := (HB.out.cell (World.block_lt_of_cell? w _ hx345_4)).trans hx345_4
           have HR345_4 := am hi345_4
           have HC345_4 := am hl345_4
           clear hi345_4 hl345_4
           replace p345 := eq_true p345
           replace q345 := eq_true q345
           have hz0 : w51.cell? (ad343.add ((x4_1).toNat * 5)) = some (.int .i64 ((rd_T38 l0 x4_1).f0)) := ((HB.out.cell (World.block_lt_of_cell? w _ hw345_0)).trans hw345_0)
           have hz1 : w51.cell? ⟨(ad343.add ((x4_1).toNat * 5)).block, (ad343.add ((x4_1).toNat * 5)).off + 1, none⟩ = some (.int .i64 ((rd_T38 l0 x4_1).f1)) := ((HB.out.cell (World.block_lt_of_cell? w _ hw345_1)).trans hw345_1)
           have hz2 : w51.cell? ⟨(ad343.add ((x4_1).toNat * 5)).block, (ad343.add ((x4_1).toNat * 5)).off + 2, none⟩ = some (.string ((rd_T38 l0 x4_1).f2)) := ((HB.out.cell (World.block_lt_of_cell? w _ hw345_2)).trans hw345_2)
           have hz3 : w51.cell? ⟨(ad343.add ((x4_1).toNat * 5)).block, (ad343.add ((x4_1).toNat * 5)).off + 3, none⟩ = some (.string ((rd_T38 l0 x4_1).f3)) := ((HB.out.cell (World.block_lt_of_cell? w _ hw345_3)).trans hw345_3)
           have hz4 : w51.cell? ⟨(ad343.add ((x4_1).toNat * 5)).block, (ad343.add ((x4_1).toNat * 5)).off + 4, none⟩ = some (.slice A345_4 ((rd_T38 l0 x4_1).f4).length c345_4) := ((HB.out.cell (World.block_lt_of_cell? w _ hw345_4)).trans hw345_4)
           go_region
           clear hz0 hz1 hz2 hz3 hz4
           generalize w51.drew = w53 at HO_3 HO342 HB HR345_4 hx345_0 hx345_1 hx345_2 hx345_3 hx345_4 ⊢
           obtain ⟨Ao55, co55, eo55⟩ := Kd.N_slice HO342.out
           subst eo55
           try go_wp2_with (first | ((with_reducible refine gate_builtin (b := .append) (xs := #[.tmp 89, .tmp 90]) rfl ?_); at_builtin; refine Kd.N_append_rows k38 (w0 := w) w.heap.size rfl (.tmp 89) (.tmp 90) 22 38 (.agg #[(.int .i64 0), (.int .i64 0), (.string ⟨#[]⟩), (.string ⟨#[]⟩), (.slice none 0 0)]) 72 rfl Tryz.underlying22 info38 rfl (by decide) (by omega) (.slice Ao52 x3_1.length co52) x3_1 t340 _ _ _ (fun k_ => (w.heap.size ≤ k_)) (fun k_ => ((fun k_ => (w.heap.size ≤ k_))) k_ ∧ some k_ ≠ (.slice Ao52 x3_1.length co52 : Value).ownBlock) rfl rfl ?aO ?aR (fun _ hk => hk) ?aF ?aB ?aS ?aL ?_; (case aR => exact (by skip; exact Kd.N_F (Kd.N_mono (ok' := (fun k_ => ((fun k_ => (w.heap.size ≤ k_))) k_ ∧ some k_ ≠ (.slice Ao52 x3_1.length co52 : Value).ownBlock)) (HO342.out) (fun k_ hk => ⟨hk.1, hk.2⟩)))); (case aB => exact (zb HB)); (case aF => exact (fun k_ hk => (Nat.le_trans (below_size (zb HB)) hk))); (case aO => exact (by exact Kd.N_mono HO_3.out (fun _ hk => hk.1))); (case aS => exact (below_size (zb HB))); (case aL => have := LMc49.out; omega); intro v360 w54 ho hb hg hat; rw [← Ny359.out] at ho; have n1_ := am (hb); have n2_ := am (ho); clear HO342; clear HB; clear HO_3; have HB := n1_; have HO361 := n2_; clear n1_ n2_; clear ho hb hg hat))
           go_roundg k1
           case measure => have := HK1.out; omega
           case rel => exact ⟨(y359), (wrap64 (x4_1 + 1)), zr, H', ⟨by have := HK1.out; omega⟩, ⟨by exact HO361.out⟩, ⟨zb HB⟩⟩
          ·rw [if_neg c49] at H
           exact absurd H (by simp)
       ·rw [if_neg c9] at H
        have c9b0 : (((rd_T38 l0 x4_1).f1) == 1) = false := beq_eq_false_iff_ne.mpr c9
        have c9b1 : (((rd_T38 l0 x4_1).f1) != 1) = true := bne_iff_ne.mpr c9
        by_cases c56 : x3_1.length + t340.length < 1954687338268
        ·rw [if_pos c56] at H
         have LMc56 := am c56
         clear c56
         obtain ⟨y363, hy363⟩ : ∃ y_ : List (S38), y_ = (x3_1 ++ t340) := ⟨_, rfl⟩
         replace H : (boltingref04_Normal.l0 k1 l0 y363 (wrap64 (x4_1 + 1))) = some r := by first | (rw [hy363]; with_reducible exact H) | (have H2_ := (Option.bind_some _ _).symm.trans H; rw [hy363]; with_reducible exact H2_) | (have H2_ := (Option.bind_some _ _).symm.trans H; with_reducible exact H2_) | with_reducible exact H | (rw [hy363]; exact H) | exact H
         have Ny363 := am hy363
         clear hy363
         have H' := am H
         clear H
         have q57 : ((wrap64 (x4_1 + 1)) : Int) ≤ ((l0.length : Int) : Int) := of_decide_eq_true za
         obtain ⟨i057, hi057, _, hsz57, _⟩ := info_parts info38
         have hroom57 : l0.length ≤ c0 := HC0.out
         have hC57 : Kd.C k38 _ A0 l0.length l0 := HR0.out
         have ql57 : (x4_1 : Int) ≤ ((wrap64 (x4_1 + 1)) : Int) := of_decide_eq_true za
         have q057 : (0 : Int) ≤ (x4_1 : Int) := of_decide_eq_true za
         have hcut57 := cut_mid (P := Tryz.prog) 22 38 .i64 .i64 Tryz.underlying22 hi057 5 hsz57 A0 l0.length c0 x4_1 (wrap64 (x4_1 + 1)) q057 ql57 q57 hroom57
         have hr57 := Kd.C_mid (lo := (x4_1 : Int).toNat) (hi := ((wrap64 (x4_1 + 1)) : Int).toNat) (c := c0) hC57 (by omega) (by omega) hroom57
         obtain ⟨A57, hA57⟩ : ∃ A1, A1 = (if c0 = (x4_1 : Int).toNat then A0 else (A0 : Option Addr).map (·.add ((x4_1 : Int).toNat * 5))) := ⟨_, rfl⟩
         obtain ⟨c57, hc57⟩ : ∃ c1, c1 = c0 - (x4_1 : Int).toNat := ⟨_, rfl⟩
         have hy57 : y336.length = ((wrap64 (x4_1 + 1)) : Int).toNat - (x4_1 : Int).toNat := (by rw [Ny336.out, List.length_drop, List.length_take] <;> omega)
         rw [show ((l0).take ((wrap64 (x4_1 + 1)) : Int).toNat).drop (x4_1 : Int).toNat = y336 from Ny336.out.symm] at hr57
         replace hr57 : Kd.C k38 _ A57 y336.length y336 := (by rw [hA57]; exact hr57)
         rw [← hy57, ← hA57, ← hc57] at hcut57
         have HR339 := am hr57
         have HC339 := am (show y336.length ≤ c57 from by rw [hy57, hc57]; exact Nat.sub_le_sub_right (Nat.le_trans (by omega) hroom57) _)
         clear hr57 hC57 hroom57 hi057 hsz57 hc57
         have KY57 := am hy57
         have KA57 := am hA57
         clear hy57 hA57
         replace q57 := eq_true q57
         try go_wp2_with (first | ((with_reducible refine gate_callee (f := 21) rfl ?_); refine goesL_ (some 20) rfl rfl Tryz.func21 (by kernel_rfl) rfl #[.slice A57 y336.length c57, .int .i64 0] rfl zm ?_; (with_reducible refine (boltingref04_Moved.calls k1 _ _ y336 0 t340 _ ?side1 ?side2 A8.out).mono ?_); (case side1 => exact zc (Kd.C_below HR339.out HB.out)); (case side2 => exact HC339.out); rintro e w58 ⟨v341, rfl, ho0, hb⟩; refine ⟨_, rfl, ?_⟩; have n0_ := am (Kd.N_elder' HO_3.out (zn ho0) hb); have n1_ := am (Kd.N_lower (Kd.N_mono (ok' := fun k_ => (w.heap.size ≤ k_) ∧ some k_ ≠ (u3 : Value).ownBlock) (Kd.S_N (Kd.S_bound ho0)) (fun k_ hk_ => ⟨(Nat.le_trans (below_size (zb HB)) hk_.2.1), (Kd.fresh' (Kd.N_lt HO_3.out) k_ hk_.2.1)⟩)) (below_size (zb HB))); have n2_ := am (below_step (zb HB) hb); clear HO_3; clear HB; have HO_3 := n0_; have HO342 := n1_; have HB := n2_; clear n0_ n1_ n2_; (try clear hb); (try clear ho0); obtain ⟨Ao59, co59, eo59⟩ := Kd.N_slice HO_3.out; subst eo59; have p343 : 0 ≤ (x4_1 : Int) := of_decide_eq_true za; have q343 : x4_1 < (l0.length : Int) := of_decide_eq_true za; obtain ⟨ad343, A343_4, c343_4, e343, hx343_0, hx343_1, hx343_2, hx343_3, hx343_4, hl343_4, hi343_4⟩ := at_T38 HR0.out x4_1 p343 q343; cases e343; replace hx343_0 := (HB.out.cell (World.block_lt_of_cell? w _ hx343_0)).trans hx343_0; replace hx343_1 := (HB.out.cell (World.block_lt_of_cell? w _ hx343_1)).trans hx343_1; replace hx343_2 := (HB.out.cell (World.block_lt_of_cell? w _ hx343_2)).trans hx343_2; replace hx343_3 := (HB.out.cell (World.block_lt_of_cell? w _ hx343_3)).trans hx343_3; replace hx343_4 := (HB.out.cell (World.block_lt_of_cell? w _ hx343_4)).trans hx343_4; have HR343_4 := am hi343_4; have HC343_4 := am hl343_4; clear hi343_4 hl343_4; replace p343 := eq_true p343; replace q343 := eq_true q343))
         have n0_ := am (Kd.N_drew HO_3.out)
         have n1_ := am (Kd.N_drew HO342.out)
         have n2_ := am (below_drew1 HB.out)
         clear HO_3
         clear HO342
         clear HB
         have HO_3 := n0_
         have HO342 := n1_
         have HB := n2_
         clear n0_ n1_ n2_
         have p362 : 0 ≤ (x4_1 : Int) := of_decide_eq_true za
         have q362 : x4_1 < (l0.length : Int) := of_decide_eq_true za
         obtain ⟨ad362, A362_4, c362_4, e362, hx362_0, hx362_1, hx362_2, hx362_3, hx362_4, hl362_4, hi362_4⟩ := at_T38 HR0.out x4_1 p362 q362
         have hw362_4 := hx362_4
         have hw362_3 := hx362_3
         have hw362_2 := hx362_2
         have hw362_1 := hx362_1
         have hw362_0 := hx362_0
         obtain rfl : ad343 = ad362 := (by injection e362)
         replace hx362_0 := (HB.out.cell (World.block_lt_of_cell? w _ hx362_0)).trans hx362_0
         replace hx362_1 := (HB.out.cell (World.block_lt_of_cell? w _ hx362_1)).trans hx362_1
         replace hx362_2 := (HB.out.cell (World.block_lt_of_cell? w _ hx362_2)).trans hx362_2
         replace hx362_3 := (HB.out.cell (World.block_lt_of_cell? w _ hx362_3)).trans hx362_3
         replace hx362_4 := (HB.out.cell (World.block_lt_of_cell? w _ hx362_4)).trans hx362_4
         have HR362_4 := am hi362_4
         have HC362_4 := am hl362_4
         clear hi362_4 hl362_4
         replace p362 := eq_true p362
         replace q362 := eq_true q362
         have hz0 : w58.cell? (ad343.add ((x4_1).toNat * 5)) = some (.int .i64 ((rd_T38 l0 x4_1).f0)) := ((HB.out.cell (World.block_lt_of_cell? w _ hw362_0)).trans hw362_0)
         have hz1 : w58.cell? ⟨(ad343.add ((x4_1).toNat * 5)).block, (ad343.add ((x4_1).toNat * 5)).off + 1, none⟩ = some (.int .i64 ((rd_T38 l0 x4_1).f1)) := ((HB.out.cell (World.block_lt_of_cell? w _ hw362_1)).trans hw362_1)
         have hz2 : w58.cell? ⟨(ad343.add ((x4_1).toNat * 5)).block, (ad343.add ((x4_1).toNat * 5)).off + 2, none⟩ = some (.string ((rd_T38 l0 x4_1).f2)) := ((HB.out.cell (World.block_lt_of_cell? w _ hw362_2)).trans hw362_2)
         have hz3 : w58.cell? ⟨(ad343.add ((x4_1).toNat * 5)).block, (ad343.add ((x4_1).toNat * 5)).off + 3, none⟩ = some (.string ((rd_T38 l0 x4_1).f3)) := ((HB.out.cell (World.block_lt_of_cell? w _ hw362_3)).trans hw362_3)
         have hz4 : w58.cell? ⟨(ad343.add ((x4_1).toNat * 5)).block, (ad343.add ((x4_1).toNat * 5)).off + 4, none⟩ = some (.slice A362_4 ((rd_T38 l0 x4_1).f4).length c362_4) := ((HB.out.cell (World.block_lt_of_cell? w _ hw362_4)).trans hw362_4)
         go_region
         clear hz0 hz1 hz2 hz3 hz4
         generalize w58.drew = w60 at HO_3 HO342 HB HR362_4 hx362_0 hx362_1 hx362_2 hx362_3 hx362_4 ⊢
         obtain ⟨Ao62, co62, eo62⟩ := Kd.N_slice HO342.out
         subst eo62
         try go_wp2_with (first | ((with_reducible refine gate_builtin (b := .append) (xs := #[.tmp 89, .tmp 90]) rfl ?_); at_builtin; refine Kd.N_append_rows k38 (w0 := w) w.heap.size rfl (.tmp 89) (.tmp 90) 22 38 (.agg #[(.int .i64 0), (.int .i64 0), (.string ⟨#[]⟩), (.string ⟨#[]⟩), (.slice none 0 0)]) 72 rfl Tryz.underlying22 info38 rfl (by decide) (by omega) (.slice Ao59 x3_1.length co59) x3_1 t340 _ _ _ (fun k_ => (w.heap.size ≤ k_)) (fun k_ => ((fun k_ => (w.heap.size ≤ k_))) k_ ∧ some k_ ≠ (.slice Ao59 x3_1.length co59 : Value).ownBlock) rfl rfl ?aO ?aR (fun _ hk => hk) ?aF ?aB ?aS ?aL ?_; (case aR => exact (by skip; exact Kd.N_F (Kd.N_mono (ok' := (fun k_ => ((fun k_ => (w.heap.size ≤ k_))) k_ ∧ some k_ ≠ (.slice Ao59 x3_1.length co59 : Value).ownBlock)) (HO342.out) (fun k_ hk => ⟨hk.1, hk.2⟩)))); (case aB => exact (zb HB)); (case aF => exact (fun k_ hk => (Nat.le_trans (below_size (zb HB)) hk))); (case aO => exact (by exact Kd.N_mono HO_3.out (fun _ hk => hk.1))); (case aS => exact (below_size (zb HB))); (case aL => have := LMc56.out; omega); intro v364 w61 ho hb hg hat; rw [← Ny363.out] at ho; have n1_ := am (hb); have n2_ := am (ho); clear HO342; clear HB; clear HO_3; have HB := n1_; have HO365 := n2_; clear n1_ n2_; clear ho hb hg hat))
         go_roundg k1
         case measure => have := HK1.out; omega
         case rel => exact ⟨(y363), (wrap64 (x4_1 + 1)), zr, H', ⟨by have := HK1.out; omega⟩, ⟨by exact HO365.out⟩, ⟨zb HB⟩⟩
        ·rw [if_neg c56] at H
         exact absurd H (by simp)
      ·rw [if_neg c7] at H
       exact absurd H (by simp)
     ·rw [if_neg c6] at H
      exact absurd H (by simp)
    ·rw [if_neg c5] at H
     exact absurd H (by simp)
   ·rw [if_neg c4] at H
    have c4b0 : decide (x4_1 < (l0.length : Int)) = false := decide_eq_false c4
    clear c4
    obtain rfl := Option.some.inj H
    go_wp2
    go_ret
    exact ⟨_, ze, by exact HO_3.out, zb HB⟩


mutual
def risk_Safe.l0 : Nat → List (S38) → Int → Int → Option (Bool)
 | 0, _, _, _ => none
 | k + 1, x7, x8, x9 => if x9 < x8 then (if 0 ≤ x9 then (if x9 < (x7.length : Int) then (if ((rd_T38 x7 x9).f1) = 0 then ((risk_Element.f ((rd_T38 x7 x9).f2)).bind fun t470 => (if t470 = true then (some false) else (risk_Safe.l1 k x7 x8 x9 ((rd_T38 x7 x9).f4) (((rd_T38 x7 x9).f4).length : Int) 0 ((rd_T38 x7 x9).f0) ((rd_T38 x7 x9).f1) ((rd_T38 x7 x9).f2) ((rd_T38 x7 x9).f3) ((rd_T38 x7 x9).f4)))) else (risk_Safe.l0 k x7 x8 (wrap64 (x9 + 1)))) else (none)) else (none)) else (some true)
def risk_Safe.l1 : Nat → List (S38) → Int → Int → List (S45) → Int → Int → Int → Int → ByteArray → ByteArray → List (S45) → Option (Bool)
 | 0, _, _, _, _, _, _, _, _, _, _, _ => none
 | k + 1, x7, x8, x9, x20, x21, x22, x470000, x470001, x470002, x470003, x470004 => if x22 < x21 then (if 0 ≤ x22 then (if x22 < (x20.length : Int) then ((risk_Attr.f x470002 ((rd_T45 x20 x22).f0) ((rd_T45 x20 x22).f1)).bind fun t473 => (if t473 = true then (some false) else (risk_Safe.l1 k x7 x8 x9 x20 x21 (wrap64 (x22 + 1)) x470000 x470001 x470002 x470003 x470004))) else (none)) else (none)) else (risk_Safe.l0 k x7 x8 (wrap64 (x9 + 1)))
end
def risk_Safe.f (k : Nat) (l0 : List (S38)) : Option (Bool) := risk_Safe.l0 k l0 (l0.length : Int) 0
set_option maxHeartbeats 8000000 in
set_option maxRecDepth 100000 in
theorem risk_Safe.calls (k : Nat) (A0 : Option Addr) (c0 : Nat) (l0 : List (S38)) (r : Bool) (w : World) (hr0 : Kd.C k38 w A0 l0.length l0) (hc0 : l0.length ≤ c0) (h : risk_Safe.f k l0 = some r) :
  Calls Tryz.prog 17 #[.slice A0 l0.length c0] w fun e w' => e = .returned (.bool r) ∧ Below w.heap.size w w' := by
 have hu38 := Tryz.underlying38
 have hu45 := Tryz.underlying45
 have HR0 := am hr0
 have HC0 := am hc0
 clear hr0 hc0
 have HB := am (Below.refl w.heap.size w)
 have H : (risk_Safe.l0 k l0 (l0.length : Int) 0) = some r := h
 clear h
 have H' := am H
 clear H
 go_enter Tryz.func17, Tryz.ntmps17
 go_wp2
 go_loopg [9] k (fun kq v9 w' => ∃ (x9_1 : Int), v9 = .int .i64 x9_1 ∧ Aside0 (risk_Safe.l0 kq l0 (l0.length : Int) x9_1 = some r) ∧ Aside0 (kq ≤ k) ∧ Aside0 (Below w.heap.size w w'))
 case atStart => exact ⟨(0), zr, H', ⟨Nat.le_refl _⟩, ⟨zb HB⟩⟩
 case round =>
  clear H'
  try clear c1
  obtain ⟨x9_1, rfl, HA, HK1, HB⟩ := hrel
  cases gk with
  | zero => exact absurd HA.out (by simp [risk_Safe.l0])
  | succ k1 =>
   have H := HA.out
   clear HA
   simp only [risk_Safe.l0] at H
   by_cases c2 : x9_1 < (l0.length : Int)
   ·rw [if_pos c2] at H
    have c2b0 : decide (x9_1 < (l0.length : Int)) = true := decide_eq_true c2
    clear c2
    by_cases c3 : 0 ≤ x9_1
    ·rw [if_pos c3] at H
     have c3b0 : decide (0 ≤ x9_1) = true := decide_eq_true c3
     clear c3
     by_cases c4 : x9_1 < (l0.length : Int)
     ·rw [if_pos c4] at H
      have c4b0 : decide (x9_1 < (l0.length : Int)) = true := decide_eq_true c4
      clear c4
      by_cases c5 : ((rd_T38 l0 x9_1).f1) = 0
      ·rw [if_pos c5] at H
       have c5b0 : (((rd_T38 l0 x9_1).f1) == 0) = true := beq_iff_eq.mpr c5
       have c5b1 : (((rd_T38 l0 x9_1).f1) != 0) = false := bne_eq_false_iff_eq.mpr c5
       clear c5
       replace H := Option.bind_eq_some_iff.mp H
       obtain ⟨t470, A60, H⟩ := H
       have A6 := am A60
       clear A60
       by_cases c7 : t470 = true
       ·subst c7
        replace H : (some false) = some r := by rw [if_pos rfl] at H; exact H
        obtain rfl := Option.some.inj H
        have p468 : 0 ≤ (x9_1 : Int) := of_decide_eq_true za
        have q468 : x9_1 < (l0.length : Int) := of_decide_eq_true za
        obtain ⟨ad468, A468_4, c468_4, e468, hx468_0, hx468_1, hx468_2, hx468_3, hx468_4, hl468_4, hi468_4⟩ := at_T38 HR0.out x9_1 p468 q468
        cases e468
        replace hx468_0 := (HB.out.cell (World.block_lt_of_cell? w _ hx468_0)).trans hx468_0
        replace hx468_1 := (HB.out.cell (World.block_lt_of_cell? w _ hx468_1)).trans hx468_1
        replace hx468_2 := (HB.out.cell (World.block_lt_of_cell? w _ hx468_2)).trans hx468_2
        replace hx468_3 := (HB.out.cell (World.block_lt_of_cell? w _ hx468_3)).trans hx468_3
        replace hx468_4 := (HB.out.cell (World.block_lt_of_cell? w _ hx468_4)).trans hx468_4
        have HR468_4 := am hi468_4
        have HC468_4 := am hl468_4
        clear hi468_4 hl468_4
        replace p468 := eq_true p468
        replace q468 := eq_true q468
        go_wp2_with (first | ((with_reducible refine gate_dst (N := 4) rfl ?_); refine box_event ?hg (N := 4) ?hd (cs := #[.int .i64 0, .int .i64 0, .string (⟨#[]⟩ : ByteArray), .string (⟨#[]⟩ : ByteArray), .slice none 0 0]) (t := 38) ?hr ?_; (case hd => rfl); (case hg => rfl); (case hr => first | (go_simp; done) | (go_simp; rfl)); intro gb469 hg w8 hbox hb; have n0_ := am (below_step (zb HB) hb); have n1_ := am (hbox); have n3_ := am ((by rw [hg]; exact (below_size (zb HB)) : w.heap.size ≤ gb469)); clear HB; have HB := n0_; have BK469 := n1_; have GE469 := n3_; clear n0_ n1_ n3_; clear hb hbox hg; obtain ⟨hcz9_0, hcz9_1, hcz9_2, hcz9_3, hcz9_4, hfz9_0, hfz9_1, hfz9_2, hfz9_3, hfz9_4⟩ := cz5 BK469.out) | ((with_reducible refine gate_callee (f := 37) rfl ?_); refine goesL_ (some 18) rfl rfl Tryz.func37 (by kernel_rfl) rfl #[.string ((rd_T38 l0 x9_1).f2)] rfl zm ?_; (with_reducible refine (risk_Element.calls ((rd_T38 l0 x9_1).f2) true _ A6.out).mono ?_); rintro e w' ⟨rfl, ⟨nd, rfl⟩⟩; refine ⟨_, rfl, ?_⟩))
        go_ret
        exact ⟨ze, zb1 HB GE469⟩
       ·replace c7 := Bool.eq_false_iff.mpr c7
        subst c7
        replace H : (risk_Safe.l1 k1 l0 (l0.length : Int) x9_1 ((rd_T38 l0 x9_1).f4) (((rd_T38 l0 x9_1).f4).length : Int) 0 ((rd_T38 l0 x9_1).f0) ((rd_T38 l0 x9_1).f1) ((rd_T38 l0 x9_1).f2) ((rd_T38 l0 x9_1).f3) ((rd_T38 l0 x9_1).f4)) = some r := by rw [if_neg (show ¬ (false = true) by decide)] at H; exact H
        have H' := am H
        clear H
        have p468 : 0 ≤ (x9_1 : Int) := of_decide_eq_true za
        have q468 : x9_1 < (l0.length : Int) := of_decide_eq_true za
        obtain ⟨ad468, A468_4, c468_4, e468, hx468_0, hx468_1, hx468_2, hx468_3, hx468_4, hl468_4, hi468_4⟩ := at_T38 HR0.out x9_1 p468 q468
        cases e468
        replace hx468_0 := (HB.out.cell (World.block_lt_of_cell? w _ hx468_0)).trans hx468_0
        replace hx468_1 := (HB.out.cell (World.block_lt_of_cell? w _ hx468_1)).trans hx468_1
        replace hx468_2 := (HB.out.cell (World.block_lt_of_cell? w _ hx468_2)).trans hx468_2
        replace hx468_3 := (HB.out.cell (World.block_lt_of_cell? w _ hx468_3)).trans hx468_3
        replace hx468_4 := (HB.out.cell (World.block_lt_of_cell? w _ hx468_4)).trans hx468_4
        have HR468_4 := am hi468_4
        have HC468_4 := am hl468_4
        clear hi468_4 hl468_4
        replace p468 := eq_true p468
        replace q468 := eq_true q468
        go_wp2_with (first | ((with_reducible refine gate_dst (N := 4) rfl ?_); refine box_event ?hg (N := 4) ?hd (cs := #[.int .i64 0, .int .i64 0, .string (⟨#[]⟩ : ByteArray), .string (⟨#[]⟩ : ByteArray), .slice none 0 0]) (t := 38) ?hr ?_; (case hd => rfl); (case hg => rfl); (case hr => first | (go_simp; done) | (go_simp; rfl)); intro gb469 hg w10 hbox hb; have n0_ := am (below_step (zb HB) hb); have n1_ := am (hbox); have n3_ := am ((by rw [hg]; exact (below_size (zb HB)) : w.heap.size ≤ gb469)); clear HB; have HB := n0_; have BK469 := n1_; have GE469 := n3_; clear n0_ n1_ n3_; clear hb hbox hg; obtain ⟨hcz11_0, hcz11_1, hcz11_2, hcz11_3, hcz11_4, hfz11_0, hfz11_1, hfz11_2, hfz11_3, hfz11_4⟩ := cz5 BK469.out) | ((with_reducible refine gate_callee (f := 37) rfl ?_); refine goesL_ (some 18) rfl rfl Tryz.func37 (by kernel_rfl) rfl #[.string ((rd_T38 l0 x9_1).f2)] rfl zm ?_; (with_reducible refine (risk_Element.calls ((rd_T38 l0 x9_1).f2) false _ A6.out).mono ?_); rintro e w' ⟨rfl, ⟨nd, rfl⟩⟩; refine ⟨_, rfl, ?_⟩))
        go_loopg [22] k1 (fun kq v22 w' => ∃ (x22_2 : Int), v22 = .int .i64 x22_2 ∧ Aside0 (risk_Safe.l1 kq l0 (l0.length : Int) x9_1 ((rd_T38 l0 x9_1).f4) (((rd_T38 l0 x9_1).f4).length : Int) x22_2 ((rd_T38 l0 x9_1).f0) ((rd_T38 l0 x9_1).f1) ((rd_T38 l0 x9_1).f2) ((rd_T38 l0 x9_1).f3) ((rd_T38 l0 x9_1).f4) = some r) ∧ Aside0 (kq ≤ k1) ∧ Aside0 (w'.heap[gb469]? = some (.cells #[.int .i64 ((rd_T38 l0 x9_1).f0), .int .i64 ((rd_T38 l0 x9_1).f1), .string ((rd_T38 l0 x9_1).f2), .string ((rd_T38 l0 x9_1).f3), (.slice A468_4 ((rd_T38 l0 x9_1).f4).length c468_4)] 38 (0, 0))) ∧ Aside0 (Below w.heap.size w w'))
        case atStart => exact ⟨(0), zr, H', ⟨Nat.le_refl _⟩, ⟨by refine blk_put (cs := #[.int .i64 ((rd_T38 l0 x9_1).f0), .int .i64 ((rd_T38 l0 x9_1).f1), .string ((rd_T38 l0 x9_1).f2), .string ((rd_T38 l0 x9_1).f3), .slice none 0 0]) ?_ 4 _ rfl; refine blk_put (cs := #[.int .i64 ((rd_T38 l0 x9_1).f0), .int .i64 ((rd_T38 l0 x9_1).f1), .string ((rd_T38 l0 x9_1).f2), .string (⟨#[]⟩ : ByteArray), .slice none 0 0]) ?_ 3 _ rfl; refine blk_put (cs := #[.int .i64 ((rd_T38 l0 x9_1).f0), .int .i64 ((rd_T38 l0 x9_1).f1), .string (⟨#[]⟩ : ByteArray), .string (⟨#[]⟩ : ByteArray), .slice none 0 0]) ?_ 2 _ rfl; refine blk_put (cs := #[.int .i64 ((rd_T38 l0 x9_1).f0), .int .i64 0, .string (⟨#[]⟩ : ByteArray), .string (⟨#[]⟩ : ByteArray), .slice none 0 0]) ?_ 1 _ rfl; refine blk_put (cs := #[.int .i64 0, .int .i64 0, .string (⟨#[]⟩ : ByteArray), .string (⟨#[]⟩ : ByteArray), .slice none 0 0]) ?_ 0 _ rfl; exact BK469.out⟩, ⟨zb1 HB GE469⟩⟩
        case round =>
         clear H'
         try clear c1
         try clear c2
         try clear c2b0
         try clear p2
         try clear c3
         try clear c3b0
         try clear c4
         try clear c4b0
         try clear p4
         try clear q4
         try clear hx4
         try clear c5
         try clear c5b0
         try clear c5b1
         try clear c7
         try clear hcz11_0
         try clear hcz11_1
         try clear hcz11_2
         try clear hcz11_3
         try clear hcz11_4
         try clear hcz9_0
         try clear hcz9_1
         try clear hcz9_2
         try clear hcz9_3
         try clear hcz9_4
         try clear hfz11_0
         try clear hfz11_1
         try clear hfz11_2
         try clear hfz11_3
         try clear hfz11_4
         try clear hfz9_0
         try clear hfz9_1
         try clear hfz9_2
         try clear hfz9_3
         try clear hfz9_4
         try clear hx468_0
         try clear hx468_1
         try clear hx468_2
         try clear hx468_3
         try clear hx468_4
         try clear p468
         try clear q468
         obtain ⟨x22_2, rfl, HA, HK2, BK469, HB⟩ := hrel
         cases gk with
         | zero => exact absurd HA.out (by simp [risk_Safe.l1])
         | succ k2 =>
          have H := HA.out
          clear HA
          simp only [risk_Safe.l1] at H
          by_cases c12 : x22_2 < (((rd_T38 l0 x9_1).f4).length : Int)
          ·rw [if_pos c12] at H
           have c12b0 : decide (x22_2 < (((rd_T38 l0 x9_1).f4).length : Int)) = true := decide_eq_true c12
           clear c12
           by_cases c13 : 0 ≤ x22_2
           ·rw [if_pos c13] at H
            have c13b0 : decide (0 ≤ x22_2) = true := decide_eq_true c13
            clear c13
            by_cases c14 : x22_2 < (((rd_T38 l0 x9_1).f4).length : Int)
            ·rw [if_pos c14] at H
             have c14b0 : decide (x22_2 < (((rd_T38 l0 x9_1).f4).length : Int)) = true := decide_eq_true c14
             clear c14
             replace H := Option.bind_eq_some_iff.mp H
             obtain ⟨t473, A150, H⟩ := H
             have A15 := am A150
             clear A150
             by_cases c16 : t473 = true
             ·subst c16
              replace H : (some false) = some r := by rw [if_pos rfl] at H; exact H
              obtain rfl := Option.some.inj H
              have p471 : 0 ≤ (x22_2 : Int) := of_decide_eq_true za
              have q471 : x22_2 < (((rd_T38 l0 x9_1).f4).length : Int) := of_decide_eq_true za
              obtain ⟨ad471, e471, hx471_0, hx471_1⟩ := at_T45 HR468_4.out x22_2 p471 q471
              cases e471
              replace hx471_0 := (HB.out.cell (World.block_lt_of_cell? w _ hx471_0)).trans hx471_0
              replace hx471_1 := (HB.out.cell (World.block_lt_of_cell? w _ hx471_1)).trans hx471_1
              replace p471 := eq_true p471
              replace q471 := eq_true q471
              go_wp2_with (first | ((with_reducible refine gate_dst (N := 6) rfl ?_); refine box_event ?hg (N := 6) ?hd (cs := #[.string (⟨#[]⟩ : ByteArray), .string (⟨#[]⟩ : ByteArray)]) (t := 45) ?hr ?_; (case hd => rfl); (case hg => rfl); (case hr => first | (go_simp; done) | (go_simp; rfl)); intro gb472 hg w17 hbox hb; have n0_ := am (blk_below (by exact BK469.out) hb); have n1_ := am (below_step (zb1 HB GE469) hb); have n2_ := am (hbox); have n4_ := am ((by rw [hg]; exact (below_size (zb1 HB GE469)) : w.heap.size ≤ gb472)); have n5_ := am ((by rw [hg]; exact Nat.ne_of_lt (blk_lt (by exact BK469.out)) : gb469 ≠ gb472)); have n6_ := am ((by rw [hg]; exact Nat.ne_of_gt (blk_lt (by exact BK469.out)) : gb472 ≠ gb469)); clear BK469; clear HB; have BK469 := n0_; have HB := n1_; have BK472 := n2_; have GE472 := n4_; have NB469_472 := n5_; have NB472_469 := n6_; clear n0_ n1_ n2_ n4_ n5_ n6_; clear hb hbox hg; have hnb18 := NB472_469.out; have hnc18 := NB469_472.out; obtain ⟨hcz19_0, hcz19_1, hfz19_0, hfz19_1⟩ := cz2 BK472.out; obtain ⟨hcz20_0, hcz20_1, hcz20_2, hcz20_3, hcz20_4, hfz20_0, hfz20_1, hfz20_2, hfz20_3, hfz20_4⟩ := cz5 BK469.out) | ((with_reducible refine gate_callee (f := 38) rfl ?_); refine goesL_ (some 29) rfl rfl Tryz.func38 (by kernel_rfl) rfl #[.string ((rd_T38 l0 x9_1).f2), .agg #[.string ((rd_T45 ((rd_T38 l0 x9_1).f4) x22_2).f0), .string ((rd_T45 ((rd_T38 l0 x9_1).f4) x22_2).f1)]] rfl zm ?_; (with_reducible refine (risk_Attr.calls ((rd_T38 l0 x9_1).f2) ((rd_T45 ((rd_T38 l0 x9_1).f4) x22_2).f0) ((rd_T45 ((rd_T38 l0 x9_1).f4) x22_2).f1) true _ A15.out).mono ?_); rintro e w21 ⟨rfl, hb⟩; refine ⟨_, rfl, ?_⟩; have n2_ := am (below_step (zb2 HB GE469 GE472) hb); clear BK469; clear BK472; clear HB; have HB := n2_; clear n2_; (try clear hb)))
              go_ret
              exact ⟨ze, zb2 HB GE469 GE472⟩
             ·replace c16 := Bool.eq_false_iff.mpr c16
              subst c16
              replace H : (risk_Safe.l1 k2 l0 (l0.length : Int) x9_1 ((rd_T38 l0 x9_1).f4) (((rd_T38 l0 x9_1).f4).length : Int) (wrap64 (x22_2 + 1)) ((rd_T38 l0 x9_1).f0) ((rd_T38 l0 x9_1).f1) ((rd_T38 l0 x9_1).f2) ((rd_T38 l0 x9_1).f3) ((rd_T38 l0 x9_1).f4)) = some r := by rw [if_neg (show ¬ (false = true) by decide)] at H; exact H
              have H' := am H
              clear H
              have p471 : 0 ≤ (x22_2 : Int) := of_decide_eq_true za
              have q471 : x22_2 < (((rd_T38 l0 x9_1).f4).length : Int) := of_decide_eq_true za
              obtain ⟨ad471, e471, hx471_0, hx471_1⟩ := at_T45 HR468_4.out x22_2 p471 q471
              cases e471
              replace hx471_0 := (HB.out.cell (World.block_lt_of_cell? w _ hx471_0)).trans hx471_0
              replace hx471_1 := (HB.out.cell (World.block_lt_of_cell? w _ hx471_1)).trans hx471_1
              replace p471 := eq_true p471
              replace q471 := eq_true q471
              go_wp2_with (first | ((with_reducible refine gate_dst (N := 6) rfl ?_); refine box_event ?hg (N := 6) ?hd (cs := #[.string (⟨#[]⟩ : ByteArray), .string (⟨#[]⟩ : ByteArray)]) (t := 45) ?hr ?_; (case hd => rfl); (case hg => rfl); (case hr => first | (go_simp; done) | (go_simp; rfl)); intro gb472 hg w22 hbox hb; have n0_ := am (blk_below (by exact BK469.out) hb); have n1_ := am (below_step (zb1 HB GE469) hb); have n2_ := am (hbox); have n4_ := am ((by rw [hg]; exact (below_size (zb1 HB GE469)) : w.heap.size ≤ gb472)); have n5_ := am ((by rw [hg]; exact Nat.ne_of_lt (blk_lt (by exact BK469.out)) : gb469 ≠ gb472)); have n6_ := am ((by rw [hg]; exact Nat.ne_of_gt (blk_lt (by exact BK469.out)) : gb472 ≠ gb469)); clear BK469; clear HB; have BK469 := n0_; have HB := n1_; have BK472 := n2_; have GE472 := n4_; have NB469_472 := n5_; have NB472_469 := n6_; clear n0_ n1_ n2_ n4_ n5_ n6_; clear hb hbox hg; have hnb23 := NB472_469.out; have hnc23 := NB469_472.out; obtain ⟨hcz24_0, hcz24_1, hfz24_0, hfz24_1⟩ := cz2 BK472.out; obtain ⟨hcz25_0, hcz25_1, hcz25_2, hcz25_3, hcz25_4, hfz25_0, hfz25_1, hfz25_2, hfz25_3, hfz25_4⟩ := cz5 BK469.out) | ((with_reducible refine gate_callee (f := 38) rfl ?_); refine goesL_ (some 29) rfl rfl Tryz.func38 (by kernel_rfl) rfl #[.string ((rd_T38 l0 x9_1).f2), .agg #[.string ((rd_T45 ((rd_T38 l0 x9_1).f4) x22_2).f0), .string ((rd_T45 ((rd_T38 l0 x9_1).f4) x22_2).f1)]] rfl zm ?_; (with_reducible refine (risk_Attr.calls ((rd_T38 l0 x9_1).f2) ((rd_T45 ((rd_T38 l0 x9_1).f4) x22_2).f0) ((rd_T45 ((rd_T38 l0 x9_1).f4) x22_2).f1) false _ A15.out).mono ?_); rintro e w26 ⟨rfl, hb⟩; refine ⟨_, rfl, ?_⟩; have n0_ := am (blk_below (g := gb469) (o := .cells #[.int .i64 ((rd_T38 l0 x9_1).f0), .int .i64 ((rd_T38 l0 x9_1).f1), .string ((rd_T38 l0 x9_1).f2), .string ((rd_T38 l0 x9_1).f3), .slice (some ad471) ((rd_T38 l0 x9_1).f4).length c468_4] 38 (0, 0)) (by refine blk_far ?_ NB469_472.out _; refine blk_far ?_ NB469_472.out _; exact BK469.out) hb); have n2_ := am (below_step (zb2 HB GE469 GE472) hb); clear BK469; clear BK472; clear HB; have BK469 := n0_; have HB := n2_; clear n0_ n2_; (try clear hb)))
              go_roundg k2
              case measure => have := HK1.out; have := HK2.out; omega
              case rel => exact ⟨(wrap64 (x22_2 + 1)), zr, H', ⟨by have := HK1.out; have := HK2.out; omega⟩, ⟨by exact BK469.out⟩, ⟨zb2 HB GE469 GE472⟩⟩
            ·rw [if_neg c14] at H
             exact absurd H (by simp)
           ·rw [if_neg c13] at H
            exact absurd H (by simp)
          ·rw [if_neg c12] at H
           have c12b0 : decide (x22_2 < (((rd_T38 l0 x9_1).f4).length : Int)) = false := decide_eq_false c12
           clear c12
           have H' := am H
           clear H
           go_wp2
           go_roundg k2
           case measure => have := HK1.out; have := HK2.out; omega
           case rel => exact ⟨(wrap64 (x9_1 + 1)), zr, H', ⟨by have := HK1.out; have := HK2.out; omega⟩, ⟨zb1 HB GE469⟩⟩
      ·rw [if_neg c5] at H
       have c5b0 : (((rd_T38 l0 x9_1).f1) == 0) = false := beq_eq_false_iff_ne.mpr c5
       have c5b1 : (((rd_T38 l0 x9_1).f1) != 0) = true := bne_iff_ne.mpr c5
       have H' := am H
       clear H
       have p468 : 0 ≤ (x9_1 : Int) := of_decide_eq_true za
       have q468 : x9_1 < (l0.length : Int) := of_decide_eq_true za
       obtain ⟨ad468, A468_4, c468_4, e468, hx468_0, hx468_1, hx468_2, hx468_3, hx468_4, hl468_4, hi468_4⟩ := at_T38 HR0.out x9_1 p468 q468
       cases e468
       replace hx468_0 := (HB.out.cell (World.block_lt_of_cell? w _ hx468_0)).trans hx468_0
       replace hx468_1 := (HB.out.cell (World.block_lt_of_cell? w _ hx468_1)).trans hx468_1
       replace hx468_2 := (HB.out.cell (World.block_lt_of_cell? w _ hx468_2)).trans hx468_2
       replace hx468_3 := (HB.out.cell (World.block_lt_of_cell? w _ hx468_3)).trans hx468_3
       replace hx468_4 := (HB.out.cell (World.block_lt_of_cell? w _ hx468_4)).trans hx468_4
       have HR468_4 := am hi468_4
       have HC468_4 := am hl468_4
       clear hi468_4 hl468_4
       replace p468 := eq_true p468
       replace q468 := eq_true q468
       go_wp2_with (first | ((with_reducible refine gate_dst (N := 4) rfl ?_); refine box_event ?hg (N := 4) ?hd (cs := #[.int .i64 0, .int .i64 0, .string (⟨#[]⟩ : ByteArray), .string (⟨#[]⟩ : ByteArray), .slice none 0 0]) (t := 38) ?hr ?_; (case hd => rfl); (case hg => rfl); (case hr => first | (go_simp; done) | (go_simp; rfl)); intro gb469 hg w27 hbox hb; have n0_ := am (below_step (zb HB) hb); have n1_ := am (hbox); have n3_ := am ((by rw [hg]; exact (below_size (zb HB)) : w.heap.size ≤ gb469)); clear HB; have HB := n0_; have BK469 := n1_; have GE469 := n3_; clear n0_ n1_ n3_; clear hb hbox hg; obtain ⟨hcz28_0, hcz28_1, hcz28_2, hcz28_3, hcz28_4, hfz28_0, hfz28_1, hfz28_2, hfz28_3, hfz28_4⟩ := cz5 BK469.out))
       go_roundg k1
       case measure => have := HK1.out; omega
       case rel => exact ⟨(wrap64 (x9_1 + 1)), zr, H', ⟨by have := HK1.out; omega⟩, ⟨zb1 HB GE469⟩⟩
     ·rw [if_neg c4] at H
      exact absurd H (by simp)
    ·rw [if_neg c3] at H
     exact absurd H (by simp)
   ·rw [if_neg c2] at H
    have c2b0 : decide (x9_1 < (l0.length : Int)) = false := decide_eq_false c2
    clear c2
    obtain rfl := Option.some.inj H
    go_wp2
    go_ret
    exact ⟨ze, zb HB⟩

mutual
def boltingref04_Text.j0 : Nat → List (S38) → Int → ByteArray → Int → Int → Option (ByteArray)
 | 0, _, _, _, _, _ => none
 | k + 1, x0, x1, x5, x6, x7 => boltingref04_Text.l0 k x0 x1 x5 x7 x6
def boltingref04_Text.l0 : Nat → List (S38) → Int → ByteArray → Int → Int → Option (ByteArray)
 | 0, _, _, _, _, _ => none
 | k + 1, x0, x1, x5, x7, x8 => if x8 < x7 then (boltingref04_Text.j2 k x0 x1 x5 x7 x8 (decide (x1 ≥ (-1)))) else (boltingref04_Text.j2 k x0 x1 x5 x7 x8 false)
def boltingref04_Text.j2 : Nat → List (S38) → Int → ByteArray → Int → Int → Bool → Option (ByteArray)
 | 0, _, _, _, _, _, _ => none
 | k + 1, x0, x1, x5, x7, x8, x27 => if x27 = true then (if 0 ≤ x8 then (if x8 < (x0.length : Int) then (if ((rd_T38 x0 x8).f1) = 1 then (if x5.size + ((rd_T38 x0 x8).f3).size ≤ 9223372036854775807 then (boltingref04_Text.l0 k x0 x1 (x5 ++ ((rd_T38 x0 x8).f3)) x7 (wrap64 (x8 + 1))) else (none)) else (boltingref04_Text.l0 k x0 x1 x5 x7 (wrap64 (x8 + 1)))) else (none)) else (none)) else (some x5)
end
def boltingref04_Text.f (k : Nat) (l0 : List (S38)) (a1 : Int) : Option (ByteArray) := if a1 ≥ 0 then ((boltingref04_End.f k l0 a1).bind fun t474 => (boltingref04_Text.j0 k l0 a1 (⟨#[]⟩ : ByteArray) (mn a1 (l0.length : Int)) t474)) else (boltingref04_Text.j0 k l0 a1 (⟨#[]⟩ : ByteArray) 0 (l0.length : Int))
set_option maxHeartbeats 8000000 in
set_option maxRecDepth 100000 in
theorem boltingref04_Text.calls (k : Nat) (A0 : Option Addr) (c0 : Nat) (l0 : List (S38)) (a1 : Int) (r : ByteArray) (w : World) (hr0 : Kd.C k38 w A0 l0.length l0) (hc0 : l0.length ≤ c0) (h : boltingref04_Text.f k l0 a1 = some r) :
  Calls Tryz.prog 19 #[.slice A0 l0.length c0, .int .i64 a1] w fun e w' => e = .returned (.string r) ∧ Below w.heap.size w w' := by
 have HR0 := am hr0
 have HC0 := am hc0
 clear hr0 hc0
 have HB := am (Below.refl w.heap.size w)
 have H : (if a1 ≥ 0 then ((boltingref04_End.f k l0 a1).bind fun t474 => (boltingref04_Text.j0 k l0 a1 (⟨#[]⟩ : ByteArray) (mn a1 (l0.length : Int)) t474)) else (boltingref04_Text.j0 k l0 a1 (⟨#[]⟩ : ByteArray) 0 (l0.length : Int))) = some r := h
 clear h
 have HC3 := am H
 clear H
 go_enter Tryz.func19, Tryz.ntmps19
 go_upto_if 12 with (fail)
 go_cut [6, 7] (fun v6 v7 wc => ∃ (kq : Nat) (x6_2 : Int) (x7_2 : Int), v6 = .int .i64 x6_2 ∧ v7 = .int .i64 x7_2 ∧ Aside0 (boltingref04_Text.j0 kq l0 a1 (⟨#[]⟩ : ByteArray) x6_2 x7_2 = some r) ∧ Aside0 (kq ≤ k) ∧ Aside0 (Below w.heap.size w wc))
 case first =>
  have H := HC3.out
  clear HC3
  by_cases c4 : a1 ≥ 0
  ·rw [if_pos c4] at H
   have c4b0 : decide (0 ≤ a1) = true := decide_eq_true c4
   clear c4
   (first | rw [c4b0] | (simp only [i64_w, i32_w]; rw [c4b0]) | skip)
   obtain ⟨ji5, hji5⟩ : ∃ j_ : Int, (mn a1 (l0.length : Int)) = j_ := ⟨_, rfl⟩
   replace H : ((boltingref04_End.f k l0 a1).bind fun t474 => (boltingref04_Text.j0 k l0 a1 (⟨#[]⟩ : ByteArray) ji5 t474)) = some r := by first | (rw [hji5] at H; exact H) | (simp only [hji5] at H ⊢; exact H)
   have hji5_ : (if (l0.length : Int) < a1 then (l0.length : Int) else a1) = ji5 := hji5
   replace H := Option.bind_eq_some_iff.mp H
   obtain ⟨t474, A60, H⟩ := H
   have A6 := am A60
   clear A60
   have H' := am H
   clear H
   go_wp2_with (first | ((with_reducible refine gate_callee (f := 43) rfl ?_); refine goesL_ (some 19) rfl rfl Tryz.func43 (by kernel_rfl) rfl #[.slice A0 l0.length c0, .int .i64 a1] rfl zm ?_; (with_reducible refine (boltingref04_End.calls k _ _ l0 a1 t474 _ ?side1 ?side2 A6.out).mono ?_); (case side1 => exact zc (Kd.C_below HR0.out HB.out)); (case side2 => exact HC0.out); rintro e w' ⟨rfl, ⟨nd, rfl⟩⟩; refine ⟨_, rfl, ?_⟩))
   go_meet
   case rel => exact ⟨_, (ji5), (t474), (by first | rfl | (simp; done) | (simp only [← hji5] <;> (first | rfl | simp)) | (simp [*]; done)), zr, H', ⟨by first | omega | exact Nat.le_refl _⟩, ⟨zb HB⟩⟩
  ·rw [if_neg c4] at H
   have c4b0 : decide (0 ≤ a1) = false := decide_eq_false c4
   clear c4
   (first | rw [c4b0] | (simp only [i64_w, i32_w]; rw [c4b0]) | skip)
   have H' := am H
   clear H
   go_wp2
   go_meet
   case rel => exact ⟨_, (0), ((l0.length : Int)), zr, zr, H', ⟨by first | omega | exact Nat.le_refl _⟩, ⟨zb HB⟩⟩
 case rest =>
  clear HC3
  try clear c1
  try clear p2
  try clear c4
  try clear c4b0
  obtain ⟨kq, x6_2, x7_2, rfl, rfl, HA, HJ2, HB⟩ := hcut
  cases kq with
  | zero => exact absurd HA.out (by simp [boltingref04_Text.j0])
  | succ kj2 =>
   have H := HA.out
   clear HA
   simp only [boltingref04_Text.j0] at H
   have H' := am H
   clear H
   go_wp2
   go_loopg [5, 8] kj2 (fun kq v5 v8 w' => ∃ (x5_2 : ByteArray) (x8_2 : Int), v5 = .string x5_2 ∧ v8 = .int .i64 x8_2 ∧ Aside0 (boltingref04_Text.l0 kq l0 a1 x5_2 x7_2 x8_2 = some r) ∧ Aside0 (kq ≤ kj2) ∧ Aside0 (Below w.heap.size w w'))
   case atStart => exact ⟨((⟨#[]⟩ : ByteArray)), (x6_2), zr, zr, H', ⟨Nat.le_refl _⟩, ⟨zb HB⟩⟩
   case round =>
    clear H'
    try clear c1
    try clear p2
    try clear c4
    try clear c4b0
    try clear p2
    obtain ⟨x5_2, x8_2, rfl, rfl, HA, HK2, HB⟩ := hrel
    cases gk with
    | zero => exact absurd HA.out (by simp [boltingref04_Text.l0])
    | succ k2 =>
     have H := HA.out
     clear HA
     simp only [boltingref04_Text.l0] at H
     have HC7 := am H
     clear H
     go_upto_region 6 with (fail)
     go_cut [27] (fun v27 wc => ∃ (kq : Nat) (x27_6 : Bool), v27 = .bool x27_6 ∧ Aside0 (boltingref04_Text.j2 kq l0 a1 x5_2 x7_2 x8_2 x27_6 = some r) ∧ Aside0 (kq ≤ k2) ∧ Aside0 (Below w.heap.size w wc))
     case first =>
      have H := HC7.out
      clear HC7
      by_cases c8 : x8_2 < x7_2
      ·rw [if_pos c8] at H
       have c8b0 : decide (x8_2 < x7_2) = true := decide_eq_true c8
       clear c8
       (first | rw [c8b0] | (simp only [i64_w, i32_w]; rw [c8b0]) | skip)
       have H' := am H
       clear H
       go_wp2
       go_meet
       case rel => exact ⟨_, (decide (a1 ≥ (-1))), zr, H', ⟨by have := HJ2.out; have := HK2.out; first | omega | exact Nat.le_refl _⟩, ⟨zb HB⟩⟩
      ·rw [if_neg c8] at H
       have c8b0 : decide (x8_2 < x7_2) = false := decide_eq_false c8
       clear c8
       (first | rw [c8b0] | (simp only [i64_w, i32_w]; rw [c8b0]) | skip)
       have H' := am H
       clear H
       go_wp2
       go_meet
       case rel => exact ⟨_, (false), zr, H', ⟨by have := HJ2.out; have := HK2.out; first | omega | exact Nat.le_refl _⟩, ⟨zb HB⟩⟩
     case rest =>
      clear HC7
      try clear c1
      try clear p2
      try clear c4
      try clear c4b0
      try clear c8
      try clear c8b0
      try clear p2
      obtain ⟨kq, x27_6, rfl, HA, HJ6, HB⟩ := hcut
      cases kq with
      | zero => exact absurd HA.out (by simp [boltingref04_Text.j2])
      | succ kj6 =>
       have H := HA.out
       clear HA
       simp only [boltingref04_Text.j2] at H
       by_cases c9 : x27_6 = true
       ·subst c9
        replace H : (if 0 ≤ x8_2 then (if x8_2 < (l0.length : Int) then (if ((rd_T38 l0 x8_2).f1) = 1 then (if x5_2.size + ((rd_T38 l0 x8_2).f3).size ≤ 9223372036854775807 then (boltingref04_Text.l0 kj6 l0 a1 (x5_2 ++ ((rd_T38 l0 x8_2).f3)) x7_2 (wrap64 (x8_2 + 1))) else (none)) else (boltingref04_Text.l0 kj6 l0 a1 x5_2 x7_2 (wrap64 (x8_2 + 1)))) else (none)) else (none)) = some r := by rw [if_pos rfl] at H; exact H
        by_cases c10 : 0 ≤ x8_2
        ·rw [if_pos c10] at H
         have c10b0 : decide (0 ≤ x8_2) = true := decide_eq_true c10
         clear c10
         by_cases c11 : x8_2 < (l0.length : Int)
         ·rw [if_pos c11] at H
          have c11b0 : decide (x8_2 < (l0.length : Int)) = true := decide_eq_true c11
          clear c11
          by_cases c12 : ((rd_T38 l0 x8_2).f1) = 1
          ·rw [if_pos c12] at H
           have c12b0 : (((rd_T38 l0 x8_2).f1) == 1) = true := beq_iff_eq.mpr c12
           have c12b1 : (((rd_T38 l0 x8_2).f1) != 1) = false := bne_eq_false_iff_eq.mpr c12
           clear c12
           by_cases c13 : x5_2.size + ((rd_T38 l0 x8_2).f3).size ≤ 9223372036854775807
           ·rw [if_pos c13] at H
            have c13b0 := eq_true c13
            have c13b1 : decide (x5_2.size + ((rd_T38 l0 x8_2).f3).size ≤ 9223372036854775807) = true := decide_eq_true c13
            try have c13b2 : (9223372036854775807 < x5_2.size + ((rd_T38 l0 x8_2).f3).size) = False := eq_false (Nat.not_lt.2 c13)
            have H' := am H
            clear H
            have p475 : 0 ≤ (x8_2 : Int) := of_decide_eq_true za
            have q475 : x8_2 < (l0.length : Int) := of_decide_eq_true za
            obtain ⟨ad475, A475_4, c475_4, e475, hx475_0, hx475_1, hx475_2, hx475_3, hx475_4, hl475_4, hi475_4⟩ := at_T38 HR0.out x8_2 p475 q475
            cases e475
            replace hx475_0 := (HB.out.cell (World.block_lt_of_cell? w _ hx475_0)).trans hx475_0
            replace hx475_1 := (HB.out.cell (World.block_lt_of_cell? w _ hx475_1)).trans hx475_1
            replace hx475_2 := (HB.out.cell (World.block_lt_of_cell? w _ hx475_2)).trans hx475_2
            replace hx475_3 := (HB.out.cell (World.block_lt_of_cell? w _ hx475_3)).trans hx475_3
            replace hx475_4 := (HB.out.cell (World.block_lt_of_cell? w _ hx475_4)).trans hx475_4
            have HR475_4 := am hi475_4
            have HC475_4 := am hl475_4
            clear hi475_4 hl475_4
            replace p475 := eq_true p475
            replace q475 := eq_true q475
            have p476 : 0 ≤ (x8_2 : Int) := of_decide_eq_true za
            have q476 : x8_2 < (l0.length : Int) := of_decide_eq_true za
            obtain ⟨ad476, A476_4, c476_4, e476, hx476_0, hx476_1, hx476_2, hx476_3, hx476_4, hl476_4, hi476_4⟩ := at_T38 HR0.out x8_2 p476 q476
            obtain rfl : ad475 = ad476 := (by injection e476)
            replace hx476_0 := (HB.out.cell (World.block_lt_of_cell? w _ hx476_0)).trans hx476_0
            replace hx476_1 := (HB.out.cell (World.block_lt_of_cell? w _ hx476_1)).trans hx476_1
            replace hx476_2 := (HB.out.cell (World.block_lt_of_cell? w _ hx476_2)).trans hx476_2
            replace hx476_3 := (HB.out.cell (World.block_lt_of_cell? w _ hx476_3)).trans hx476_3
            replace hx476_4 := (HB.out.cell (World.block_lt_of_cell? w _ hx476_4)).trans hx476_4
            have HR476_4 := am hi476_4
            have HC476_4 := am hl476_4
            clear hi476_4 hl476_4
            replace p476 := eq_true p476
            replace q476 := eq_true q476
            have ea_ := Option.some.inj (hx475_4.symm.trans hx476_4)
            injection ea_ with ea_ en_ ec_
            subst ea_
            subst ec_
            clear en_
            go_wp2
            go_roundg kj6
            case measure => have := HJ2.out; have := HK2.out; have := HJ6.out; omega
            case rel => exact ⟨(x5_2 ++ ((rd_T38 l0 x8_2).f3)), (wrap64 (x8_2 + 1)), zr, zr, H', ⟨by have := HJ2.out; have := HK2.out; have := HJ6.out; omega⟩, ⟨zb HB⟩⟩
           ·rw [if_neg c13] at H
            exact absurd H (by simp)
          ·rw [if_neg c12] at H
           have c12b0 : (((rd_T38 l0 x8_2).f1) == 1) = false := beq_eq_false_iff_ne.mpr c12
           have c12b1 : (((rd_T38 l0 x8_2).f1) != 1) = true := bne_iff_ne.mpr c12
           have H' := am H
           clear H
           have p475 : 0 ≤ (x8_2 : Int) := of_decide_eq_true za
           have q475 : x8_2 < (l0.length : Int) := of_decide_eq_true za
           obtain ⟨ad475, A475_4, c475_4, e475, hx475_0, hx475_1, hx475_2, hx475_3, hx475_4, hl475_4, hi475_4⟩ := at_T38 HR0.out x8_2 p475 q475
           cases e475
           replace hx475_0 := (HB.out.cell (World.block_lt_of_cell? w _ hx475_0)).trans hx475_0
           replace hx475_1 := (HB.out.cell (World.block_lt_of_cell? w _ hx475_1)).trans hx475_1
           replace hx475_2 := (HB.out.cell (World.block_lt_of_cell? w _ hx475_2)).trans hx475_2
           replace hx475_3 := (HB.out.cell (World.block_lt_of_cell? w _ hx475_3)).trans hx475_3
           replace hx475_4 := (HB.out.cell (World.block_lt_of_cell? w _ hx475_4)).trans hx475_4
           have HR475_4 := am hi475_4
           have HC475_4 := am hl475_4
           clear hi475_4 hl475_4
           replace p475 := eq_true p475
           replace q475 := eq_true q475
           go_wp2
           go_roundg kj6
           case measure => have := HJ2.out; have := HK2.out; have := HJ6.out; omega
           case rel => exact ⟨(x5_2), (wrap64 (x8_2 + 1)), zr, zr, H', ⟨by have := HJ2.out; have := HK2.out; have := HJ6.out; omega⟩, ⟨zb HB⟩⟩
         ·rw [if_neg c11] at H
          exact absurd H (by simp)
        ·rw [if_neg c10] at H
         exact absurd H (by simp)
       ·replace c9 := Bool.eq_false_iff.mpr c9
        subst c9
        replace H : (some x5_2) = some r := by rw [if_neg (show ¬ (false = true) by decide)] at H; exact H
        obtain rfl := Option.some.inj H
        go_wp2
        go_ret
        exact ⟨ze, zb HB⟩

end Go.Proofs.YticacakoefojbaaGreat.Pr
namespace Go.Proofs.YticacakoefojbaaGreat.Pure
open Go.RowKit Go.Lib Go.Shelf Go.Proofs.YticacakoefojbaaGreatW.PrintWords Go.Proofs.YticacakoefojbaaGreatW.PrintLast Go.Proofs.YticacakoefojbaaGreatW.PrintMore Go.Proofs.YticacakoefojbaaGreat.Pr

def elNames : List S38 → List ByteArray
 | [] => []
 | x :: t => if x.f1 = 0 then x.f2 :: elNames t else elNames t
theorem elNames_snoc (l : List S38) (x : S38) : elNames (l ++ [x]) = if x.f1 = 0 then elNames l ++ [x.f2] else elNames l := by
 induction l with
 | nil => simp [elNames]
 | cons y t ih =>
  rw [List.cons_append, elNames, ih, elNames]
  split <;> split <;> simp
theorem elNames_len : ∀ l : List S38, (elNames l).length ≤ l.length
 | [] => Nat.le_refl _
 | x :: t => by
  have := elNames_len t
  rw [elNames]
  split <;> simp <;> omega
theorem rows_C {w : World} {A : Option Addr} {n : Nat} {c : Nat} {xs : List ByteArray} {base : Nat} {ok : Nat → Prop} (h : Kd.R Kd.string 9 w base ok (.slice A n c) xs) : n = xs.length ∧ xs.length ≤ c ∧ Kd.C Kd.string w A xs.length xs := by
 obtain ⟨_, _, e, hl, k⟩ := Kd.R_reads h
 injection e with e1 e2 e3
 subst e1 e2 e3
 exact ⟨rfl, hl, k⟩
theorem one_row {W : World} {g : Nat} {T : ByteArray} (h : W.heap[g]? = some (.cells #[.int .i64 0, .int .i64 1, .string ⟨#[]⟩, .string T, .slice none 0 0] 38 (0, 0))) : Kd.C k38 W (some ⟨g, 0, none⟩) 1 [⟨0, 1, ⟨#[]⟩, T, []⟩] := by
 refine ⟨rfl, by decide, fun _ => ⟨⟨g, 0, none⟩, rfl, fun j p hj => ?_⟩⟩
 obtain rfl : j = 0 := by
  have := (List.getElem?_eq_some_iff.1 hj).1
  simpa using this
 cases hj
 refine ⟨_, rfl, k38_mk W ⟨0, 1, ⟨#[]⟩, T, []⟩ (A4 := none) (c4 := 0) (Nat.le_refl _) (Kd.C_nil _ _), fun i u hu => ?_⟩
 rw [add_at, Nat.zero_mul, Nat.zero_add, Nat.zero_add]
 exact (blk_cell h i).trans (by rw [← hu]; simp)
structure Keeps (k : Nat) (l0 L n a b t : List S38) (g : Int) (sf : Bool) (r : List ByteArray) (T : ByteArray) : Prop where
 bnd : boltinglaw13_bound.f k l0 = some L
 chk : boltingref04_Check.f k L = some 0
 nrm : boltingref04_Normal.f k L = some n
 ka : clean_Rows.f k n false false [] [] [] [] true false false = some (a, 0)
 kb : clean_Rows.f k n false false [] [] [] [] true false true = some (b, 0)
 same : boltingref04_Same.f k a n = some true
 safe : risk_Safe.f k n = some sf
 sameb : boltingref04_Same.f k b n = some sf
 sort : fold_Sorted.f (elNames n) = some r
 kt : clean_Rows.f k n false false [] r [] [] false false false = some (t, g)
 text : boltingref04_Text.f k n (-1) = some T
 len : n.length ≤ 1000
 last0 : g = 0 → T.toList = [] → t.length = 0
 last1 : g = 0 → T.toList ≠ [] → boltingref04_Same.f k t [⟨0, 1, ⟨#[]⟩, T, []⟩] = some true
theorem allE_calls (w : World) : Calls Tryz.prog 15 #[] w fun e w' => ∃ a2 n2 a3 n3 a4 n4 a5 n5, e = .returned (.agg #[.bool false, .bool false, .slice a2 ([] : List ByteArray).length n2, .slice a3 ([] : List ByteArray).length n3, .slice a4 ([] : List ByteArray).length n4, .slice a5 ([] : List S60).length n5, .bool true, .bool false]) ∧ Kd.C Kd.string w' a2 ([] : List ByteArray).length [] ∧ Kd.C Kd.string w' a3 ([] : List ByteArray).length [] ∧ Kd.C Kd.string w' a4 ([] : List ByteArray).length [] ∧ Kd.C k60 w' a5 ([] : List S60).length [] ∧ Below w.heap.size w w' := by
 refine (config_All.calls false false [] [] [] [] true false w rfl).mono ?_
 rintro e w' ⟨v2, v3, v4, v5, rfl, h2, h3, h4, h5, hb⟩
 obtain ⟨a2, n2, rfl, _, k2⟩ := Kd.R_reads h2
 obtain ⟨a3, n3, rfl, _, k3⟩ := Kd.R_reads h3
 obtain ⟨a4, n4, rfl, _, k4⟩ := Kd.R_reads h4
 obtain ⟨a5, n5, rfl, _, k5⟩ := Kd.R_reads (Kd.S_R h5)
 exact ⟨a2, n2, a3, n3, a4, n4, a5, n5, rfl, k2, k3, k4, k5, hb⟩
theorem boxed {w0 W : World} {g : Nat} {cs : Array Value} {v2 v3 v4 : Value} {x2 x3 x4 : List ByteArray} {B : Nat} (hg : w0.heap.size ≤ g) (h : W.heap[g]? = some (.cells cs 32 (0, 0)) ∧ Below w0.heap.size w0 W ∧ Kd.R Kd.string 9 W B (fun _ => True) v2 x2 ∧ Kd.R Kd.string 9 W B (fun _ => True) v3 x3 ∧ Kd.R Kd.string 9 W B (fun _ => True) v4 x4) (i : Nat) (u : Value) :
  (W.setCell ⟨g, i, none⟩ u).heap[g]? = some (.cells (cs.setIfInBounds i u) 32 (0, 0)) ∧ Below w0.heap.size w0 (W.setCell ⟨g, i, none⟩ u) ∧ Kd.R Kd.string 9 (W.setCell ⟨g, i, none⟩ u) B (fun _ => True) v2 x2 ∧ Kd.R Kd.string 9 (W.setCell ⟨g, i, none⟩ u) B (fun _ => True) v3 x3 ∧ Kd.R Kd.string 9 (W.setCell ⟨g, i, none⟩ u) B (fun _ => True) v4 x4 :=
 ⟨blk_set h.1 i u, h.2.1.setCell hg _, Kd.R_set h.2.2.1 h.1 (by decide) i u, Kd.R_set h.2.2.2.1 h.1 (by decide) i u, Kd.R_set h.2.2.2.2 h.1 (by decide) i u⟩
set_option maxHeartbeats 8000000 in
set_option maxRecDepth 100000 in
theorem keeps_law {k : Nat} {A0 : Option Addr} {c0 : Nat} {l0 L n a b t : List S38} {g : Int} {sf : Bool} {r : List ByteArray} {T : ByteArray} (w : World) (h0 : Kd.C k38 w A0 l0.length l0) (hc0 : l0.length ≤ c0) (H : Keeps k l0 L n a b t g sf r T) :
  Calls Tryz.prog 3 #[.slice A0 l0.length c0] w fun e w' => e = .returned (.bool true) ∧ Below w.heap.size w w' := by
 have mixed : Tryz.prog.follows Departure.mixedOrders = true := by kernel_rfl
 have hu32 := Tryz.underlying32
 have hu38 := Tryz.underlying38
 have hlen := H.len
 have HH := hid H
 have H0 := hid h0
 clear H h0
 go_enter Tryz.func3, Tryz.ntmps3
 go_wp2_with fail
 refine (boltinglaw13_bound.calls k (fun k_ => k_ < w.heap.size) A0 c0 l0 L _ (Kd.V_mk hc0 (Kd.C_F k38_heap H0.out)) HH.out.bnd).mono ?_
 rintro e1 w1 ⟨v1, rfl, ho, hb1⟩
 obtain ⟨A1, c1, rfl, hc1, hC1⟩ := Kd.N_reads ho
 have C1 := hid hC1
 have B1 := hid hb1
 clear ho hC1 hb1
 go_wp2_with fail
 refine (boltingref04_Check.calls k A1 c1 L 0 _ C1.out hc1 HH.out.chk).mono ?_
 rintro e2 w2 ⟨rfl, hb2⟩
 have C1 := hid (Kd.C_below C1.out hb2)
 have B2 := hid (B1.out.trans (hb2.mono B1.out.size))
 clear hb2 B1
 go_wp2_with fail
 refine (boltingref04_Normal.calls k A1 c1 L n _ C1.out hc1 HH.out.nrm).mono ?_
 rintro e3 w3 ⟨v3, rfl, ho, hb3⟩
 obtain ⟨A3, c3, rfl, hc3, hC3⟩ := Kd.N_reads ho
 have C3 := hid hC3
 have B3 := hid (B2.out.trans (hb3.mono B2.out.size))
 clear ho hC3 hb3 B2 C1
 go_wp2_with fail
 refine (allE_calls _).mono ?_
 rintro e4 w4 ⟨p2, q2, p3, q3, p4, q4, p5, q5, rfl, k2, k3, k4, k5, hb4⟩
 have C4 := hid (Kd.C_below C3.out hb4)
 have B4 := hid (B3.out.trans (hb4.mono B3.out.size))
 have K2 := hid k2
 have K3 := hid k3
 have K4 := hid k4
 have K5 := hid k5
 clear k2 k3 k4 k5 hb4 B3 C3
 go_wp2_with fail
 refine (clean_Rows.calls k A3 c3 n false false p2 q2 [] p3 q3 [] p4 q4 [] p5 q5 [] true false false a 0 _ C4.out hc3 K2.out (Nat.zero_le _) K3.out (Nat.zero_le _) K4.out (Nat.zero_le _) K5.out (Nat.zero_le _) HH.out.ka).mono ?_
 rintro e5 w5 ⟨v5, rfl, ho, hb5⟩
 obtain ⟨A5, c5, rfl, hc5, hC5⟩ := Kd.N_reads ho
 have C5 := hid hC5
 have C4 := hid (Kd.C_below C4.out hb5)
 have B5 := hid (B4.out.trans (hb5.mono B4.out.size))
 clear ho hC5 hb5 B4 K2 K3 K4 K5
 go_wp2_with fail
 refine (allE_calls _).mono ?_
 rintro e6 w6 ⟨p2, q2, p3, q3, p4, q4, p5, q5, rfl, k2, k3, k4, k5, hb6⟩
 have C4 := hid (Kd.C_below C4.out hb6)
 have C5 := hid (Kd.C_below C5.out hb6)
 have B6 := hid (B5.out.trans (hb6.mono B5.out.size))
 have K2 := hid k2
 have K3 := hid k3
 have K4 := hid k4
 have K5 := hid k5
 clear k2 k3 k4 k5 hb6 B5
 go_wp2_with fail
 refine (clean_Rows.calls k A3 c3 n false false p2 q2 [] p3 q3 [] p4 q4 [] p5 q5 [] true false true b 0 _ C4.out hc3 K2.out (Nat.zero_le _) K3.out (Nat.zero_le _) K4.out (Nat.zero_le _) K5.out (Nat.zero_le _) HH.out.kb).mono ?_
 rintro e7 w7 ⟨v7, rfl, ho, hb7⟩
 obtain ⟨A7, c7, rfl, hc7, hC7⟩ := Kd.N_reads ho
 have C7 := hid hC7
 have C4 := hid (Kd.C_below C4.out hb7)
 have C5 := hid (Kd.C_below C5.out hb7)
 have B7 := hid (B6.out.trans (hb7.mono B6.out.size))
 clear ho hC7 hb7 B6 K2 K3 K4 K5
 go_wp2_with fail
 refine (boltingref04_Same.calls k A5 c5 a A3 c3 n true _ C5.out hc5 C4.out hc3 HH.out.same).mono ?_
 rintro e8 w8 ⟨rfl, hb8⟩
 have C7 := hid (Kd.C_below C7.out hb8)
 have C4 := hid (Kd.C_below C4.out hb8)
 have B8 := hid (B7.out.trans (hb8.mono B7.out.size))
 clear hb8 B7 C5
 go_wp2_with fail
 refine (risk_Safe.calls k A3 c3 n sf _ C4.out hc3 HH.out.safe).mono ?_
 rintro e9 w9 ⟨rfl, hb9⟩
 have C7 := hid (Kd.C_below C7.out hb9)
 have C4 := hid (Kd.C_below C4.out hb9)
 have B9 := hid (B8.out.trans (hb9.mono B8.out.size))
 clear hb9 B8
 go_wp2_with fail
 refine (boltingref04_Same.calls k A7 c7 b A3 c3 n sf _ C7.out hc7 C4.out hc3 HH.out.sameb).mono ?_
 rintro e10 wN ⟨rfl, hb10⟩
 have CN := hid (Kd.C_below C4.out hb10)
 have BN := hid (B9.out.trans (hb10.mono B9.out.size))
 clear hb10 B9 C7 C4
 have hbx := blk_new wN (.cells zB 32)
 have hb0 : Below wN.heap.size wN (wN.alloc (.cells zB 32)) := (Below.refl _ wN).alloc (Nat.le_refl _) _
 obtain ⟨g8, hg8⟩ : ∃ q, wN.heap.size = q := ⟨_, rfl⟩
 rw [hg8] at hbx
 have esf : (sf != sf) = false := by cases sf <;> rfl
 have HBX := hid hbx
 have HB0 := hid hb0
 clear hbx hb0
 go_wp2
 go_loopw [9] (fun iv wr => ∃ (i : Nat) (u : Value), iv = .int .i64 i ∧ i ≤ n.length ∧ Below wN.heap.size wN wr ∧ wr.heap[g8]? = some (oB (.slice none 0 0) u (.slice none 0 0)) ∧ Kd.R Kd.string 9 wr wN.heap.size (fun _ => True) u (elNames (n.take i))) (fun iv _ => n.length - (intOf iv).toNat)
 case atStart => exact ⟨0, .slice none 0 0, rfl, by omega, HB0.out, HBX.out, Kd.R_nil _ _ _ _ _⟩
 case round =>
  clear HB0 HBX
  obtain ⟨i, u, rfl, hi, hb, hbox, hR⟩ := hrel
  have HB := hid hb
  have BK := hid hbox
  have HR := hid hR
  clear hb hbox hR
  by_cases hil : i < n.length
  ·have hid1 : decide (i < n.length) = true := decide_eq_true hil
   have CN2 := hid (Kd.C_below CN.out HB.out)
   obtain ⟨ad, A4, c4, eA, hx0, hx1, hx2, hx3, hx4, _, _⟩ := at_T38 CN2.out (i : Int) (by omega) (by omega)
   subst eA
   obtain ⟨x, hx⟩ : ∃ x, n[i]? = some x := ⟨_, List.getElem?_eq_getElem hil⟩
   have ex : rd_T38 n (i : Int) = x := by
    unfold rd_T38
    rw [Int.toNat_natCast, List.getD_eq_getElem?_getD, hx]
    rfl
   have et : n.take (i + 1) = n.take i ++ [x] := by
    rw [List.take_add_one, hx]
    rfl
   have en : elNames (n.take (i + 1)) = if x.f1 = 0 then elNames (n.take i) ++ [x.f2] else elNames (n.take i) := by rw [et, elNames_snoc]
   have hnl : (elNames (n.take i)).length ≤ 1000 := Nat.le_trans (elNames_len _) (Nat.le_trans (List.length_take_le _ _) (by omega))
   rw [ex, Int.toNat_natCast] at hx0 hx1 hx2
   have EN := hid en
   have i0 : (0 : Int) ≤ (i : Int) := by omega
   have i1 : (i : Int) < (n.length : Int) := by omega
   clear hx0 hx3 hx4 et en ex hx
   by_cases h1 : x.f1 = 0
   ·have EN1 := hid (EN.out.trans (if_pos h1))
    have h1b : (x.f1 == 0) = true := beq_iff_eq.2 h1
    have h1d : decide (x.f1 = 0) = true := decide_eq_true h1
    go_upto_region 14 with fail
    refine start_ (n := 11) (S := fun w' => w'.heap[g8]? = some (oB (.slice none 0 0) u (.slice none 0 0)) ∧ w'.cell? ⟨(ad.add (i * 5)).block, (ad.add (i * 5)).off + 2, none⟩ = some (.string x.f2)) (ds := [8, 10]) #[false, false, false, false, false, false, false, false, false, false, false] mixed rfl rfl ⟨blk_drew BK.out, hx2⟩ (fun hHeld => ?_)
    have HB1 := hid (below_drew HB.out)
    have HR1 := hid (Kd.R_drew HR.out)
    generalize World.drew wr = w48 at HB1 HR1 hHeld ⊢
    have BK1 := hid hHeld.1
    refine pure_ (i := 0) (N := (some 66)) (v := ?_) (a' := ?_) #[true, false, false, false, false, false, false, false, false, false, false] rfl rfl (by kernel_rfl) (fun _ _ _ h => h) (Or.inl ⟨by rfl, ?_⟩) ?_ ?_
    rotate_left
    ·intro w'
     go_simp
     first | done | with_reducible rfl | rfl
    rotate_left
    ·simp only [Act.put, List.setIfInBounds_toArray, List.set_cons_zero, List.set_cons_succ]
     rfl
    refine pure_ (i := 2) (N := (some 68)) (v := ?_) (a' := ?_) #[true, false, true, false, false, false, false, false, false, false, false] rfl rfl (by kernel_rfl) (fun _ _ _ h => h) (Or.inl ⟨by rfl, ?_⟩) ?_ ?_
    rotate_left
    ·intro w'
     go_simp
     first | done | with_reducible rfl | rfl
    rotate_left
    ·simp only [Act.put, List.setIfInBounds_toArray, List.set_cons_zero, List.set_cons_succ]
     rfl
    refine pure_ (i := 3) (N := (some 69)) (v := ?_) (a' := ?_) #[true, false, true, true, false, false, false, false, false, false, false] rfl rfl (by kernel_rfl) (fun _ _ _ h => h) (Or.inl ⟨by rfl, ?_⟩) ?_ ?_
    rotate_left
    ·intro w'
     go_simp
     first | done | with_reducible rfl | rfl
    rotate_left
    ·simp only [Act.put, List.setIfInBounds_toArray, List.set_cons_zero, List.set_cons_succ]
     rfl
    refine pure_ (i := 4) (N := (some 70)) (v := ?_) (a' := ?_) #[true, false, true, true, true, false, false, false, false, false, false] rfl rfl (by kernel_rfl) (fun _ _ _ h => h) (Or.inl ⟨by rfl, ?_⟩) ?_ ?_
    rotate_left
    ·intro w'
     go_simp
     first | done | with_reducible rfl | rfl
    rotate_left
    ·simp only [Act.put, List.setIfInBounds_toArray, List.set_cons_zero, List.set_cons_succ]
     rfl
    refine pure_ (i := 5) (N := (some 71)) (v := ?_) (a' := ?_) #[true, false, true, true, true, true, false, false, false, false, false] rfl rfl (by kernel_rfl) (fun _ _ _ h => h) (Or.inl ⟨by rfl, ?_⟩) ?_ ?_
    rotate_left
    ·intro w'
     go_simp
     first | done | with_reducible rfl | rfl
    rotate_left
    ·simp only [Act.put, List.setIfInBounds_toArray, List.set_cons_zero, List.set_cons_succ]
     rfl
    refine take_ (i := 1) (N := (some 67)) (v := ?_) (a' := ?_) #[true, true, true, true, true, true, false, false, false, false, false] rfl rfl (by kernel_rfl) (fun _ _ _ h => h) (Or.inl ⟨by rfl, ?_⟩) hHeld ?_ ?_
    rotate_left
    ·rintro w' ⟨sB, sN⟩
     obtain ⟨s0, s1, s2, s3, s4, s5, s6, s7⟩ := cellsB sB
     go_simp
     first | done | with_reducible rfl | rfl
    rotate_left
    ·simp only [Act.put, List.setIfInBounds_toArray, List.set_cons_zero, List.set_cons_succ]
     rfl
    refine take_ (i := 6) (N := (some 72)) (v := ?_) (a' := ?_) #[true, true, true, true, true, true, true, false, false, false, false] rfl rfl (by kernel_rfl) (fun _ _ _ h => h) (Or.inl ⟨by rfl, ?_⟩) hHeld ?_ ?_
    rotate_left
    ·rintro w' ⟨sB, sN⟩
     go_simp
     first | done | with_reducible rfl | rfl
    rotate_left
    ·simp only [Act.put, List.setIfInBounds_toArray, List.set_cons_zero, List.set_cons_succ]
     rfl
    refine one_ (i := 7) (N := (some 73)) #[true, true, true, true, true, true, true, true, false, false, false] rfl rfl (by kernel_rfl) (by decide) (fun K hK => ?_)
    refine value_ (w1 := ?_) (v := ?_) (by rfl) rfl ?_ ?_
    rotate_left 2
    ·go_simp
     constructor
     ·rfl
     ·rfl
    refine hK.out _ _ ⟨blk_alloc hHeld.1 _, (World.cell?_alloc_lt _ _ _ (World.block_lt_of_cell? _ _ hHeld.2)).trans hHeld.2⟩ (fun hHeld => ?_)
    clear hK K
    refine norm_ (a' := ?_) ?_ ?_
    rotate_left
    ·show Act.put _ (some 73) _ = _
     simp only [Act.put, List.setIfInBounds_toArray, List.set_cons_zero, List.set_cons_succ]
     rfl
    refine last_ (i := 8) (N := (some 74)) #[true, true, true, true, true, true, true, true, true, false, false] rfl rfl (by kernel_rfl) (by decide) (fun K hK => ?_)
    refine Kd.R_append_step Kd.string (w0 := wN) wN.heap.size (by rfl) (.tmp 67) (.tmp 73) 29 9 (.string ⟨#[]⟩) 16 rfl Tryz.underlying29 info9 rfl (by decide) (by omega) u (elNames (n.take i)) x.f2 [.string x.f2] (fun _ => True) (fun _ => False) rfl rfl ?aP (fun _ hk => hk.elim) ?aF ?aO ?aB ?aS ?aL ?_
    (case aP => exact rfl)
    (case aB => exact HB1.out)
    (case aF => exact (fun _ _ => trivial))
    (case aO => exact HR1.out)
    (case aS => exact HB1.out.size)
    (case aL => omega)
    intro v532 w49 ho hb hg hat
    obtain ⟨y, hy⟩ : ∃ y, elNames (n.take i) ++ [x.f2] = y := ⟨_, rfl⟩
    rw [hy] at ho
    have EN2 := hid (EN1.out.trans hy)
    clear hy
    have BK2 := hid (blk_grown (g := g8) (o := oB (.slice none 0 0) u (.slice none 0 0)) BK1.out hg (Kd.R_ne HR1.out BK1.out (by decide)))
    have HR2 := hid ho
    have HB2 := hid hb
    clear ho hb hg hat
    obtain ⟨Av, cv, hv⟩ := Kd.R_slice HR2.out
    subst hv
    refine hK.out _ _ ?_
    clear hK K
    refine norm_ (a' := ?_) ?_ ?_
    rotate_left
    ·show Act.put _ (some 74) _ = _
     simp only [Act.put, List.setIfInBounds_toArray, List.set_cons_zero, List.set_cons_succ]
     rfl
    refine pure_ (i := 9) (N := (some 75)) (v := ?_) (a' := ?_) #[true, true, true, true, true, true, true, true, true, true, false] rfl rfl (by kernel_rfl) (fun _ _ _ h => h) (Or.inl ⟨by rfl, ?_⟩) ?_ ?_
    rotate_left
    ·intro w'
     go_simp
     first | done | with_reducible rfl | rfl
    rotate_left
    ·simp only [Act.put, List.setIfInBounds_toArray, List.set_cons_zero, List.set_cons_succ]
     rfl
    refine last_ (i := 10) (N := none) #[true, true, true, true, true, true, true, true, true, true, true] rfl rfl (by kernel_rfl) (by decide) (fun K hK => ?_)
    have hs51 : w49.cell? ⟨g8, 3, none⟩ = some u := (blk_cell BK2.out 3).trans rfl
    have hfs51 := blk_frozen BK2.out 3
    refine skip_ (w1 := World.setCell w49 ⟨g8, 3, none⟩ (.slice Av y.length cv)) (by rfl) rfl (by go_simp; first | done | rfl) ?_
    refine hK.out _ _ ?_
    clear hK K
    refine done_ (by kernel_rfl) ?_
    have HR3 := hid (Kd.R_set HR2.out BK2.out (by decide) 3 (.slice Av y.length cv))
    have BK3 := hid (blk_set BK2.out 3 (.slice Av y.length cv))
    have HB3 := hid (HB2.out.setCell (p := ⟨g8, 3, none⟩) (Nat.le_of_eq hg8) (.slice Av y.length cv))
    go_wp2
    go_roundw
    case rel => exact ⟨i + 1, .slice Av y.length cv, by go_num, by omega, HB3.out, BK3.out, by rw [EN2.out]; exact HR3.out⟩
    case measure => simp [intOf]; omega
   ·have EN1 := hid (EN.out.trans (if_neg h1))
    have h1b : (x.f1 == 0) = false := beq_eq_false_iff_ne.2 h1
    have h1d : decide (x.f1 = 0) = false := decide_eq_false h1
    go_wp2
    go_roundw
    case rel => exact ⟨i + 1, u, by go_num, by omega, HB.out, BK.out, by rw [EN1.out]; exact HR.out⟩
    case measure => simp [intOf]; omega
  ·have hid1 : decide (i < n.length) = false := decide_eq_false hil
   obtain rfl : i = n.length := by omega
   have HR1 := hid HR.out
   rw [List.take_length] at HR1
   obtain ⟨Au, cu, hu⟩ := Kd.R_slice HR1.out
   subst hu
   have lu := (rows_C HR1.out).2.1
   have CU := hid (rows_C HR1.out).2.2
   obtain ⟨s0, s1, s2, s3, s4, s5, s6, s7⟩ := cellsB BK.out
   go_wp2_with fail
   refine (canon0_calls CU.out lu HH.out.sort).mono ?_
   rintro e11 wC ⟨a2, n2, a3, n3, a4, n4, rfl, r2, r3, r4, hbC⟩
   have BKC := hid ((hbC.block g8 (blk_lt BK.out)).trans BK.out)
   have HBC := hid (HB.out.trans (hbC.mono HB.out.size))
   have R2 := hid r2
   have R3 := hid r3
   have R4 := hid r4
   clear r2 r3 r4 hbC s0 s1 s2 s3 s4 s5 s6 s7 CU HR1 HR
   obtain ⟨s0, s1, s2, s3, s4, s5, s6, s7⟩ := cellsB BKC.out
   have f0 := blk_frozen BKC.out 0
   have f1 := blk_frozen BKC.out 1
   have f2 := blk_frozen BKC.out 2
   have f3 := blk_frozen BKC.out 3
   have f4 := blk_frozen BKC.out 4
   have f5 := blk_frozen BKC.out 5
   have f6 := blk_frozen BKC.out 6
   have f7 := blk_frozen BKC.out 7
   have hg := Nat.le_of_eq hg8
   have T8 := hid (boxed hg (boxed hg (boxed hg (boxed hg (boxed hg (boxed hg (boxed hg (boxed hg ⟨BKC.out, HBC.out, R2.out, R3.out, R4.out⟩ 0 (.bool false)) 1 (.bool false)) 2 (.slice a2 0 n2)) 3 (.slice a3 r.length n3)) 4 (.slice a4 0 n4)) 5 (.slice none 0 0)) 6 (.bool false)) 7 (.bool false))
   go_upto_region 16 with fail
   generalize World.setCell _ ⟨g8, 7, none⟩ (.bool false) = W at T8 ⊢
   clear s0 s1 s2 s3 s4 s5 s6 s7 f0 f1 f2 f3 f4 f5 f6 f7 BKC R2 R3 R4
   obtain ⟨hbk, hbW, r2, r3, r4⟩ := T8.out
   simp only [List.setIfInBounds_toArray, List.set_cons_zero, List.set_cons_succ] at hbk
   have l2 := (rows_C r2).2.1
   have l3 := (rows_C r3).2.1
   have l4 := (rows_C r4).2.1
   have K2 := hid (rows_C r2).2.2
   have K3 := hid (rows_C r3).2.2
   have K4 := hid (rows_C r4).2.2
   have CW := hid (Kd.C_below CN.out hbW)
   have BW := hid (BN.out.trans (hbW.mono BN.out.size))
   obtain ⟨s0, s1, s2, s3, s4, s5, s6, s7⟩ := cellsB (show W.heap[g8]? = some (oB (.slice a2 0 n2) (.slice a3 r.length n3) (.slice a4 0 n4)) from hbk)
   clear hbk hbW r2 r3 r4 T8 hg
   go_wp2_with fail
   refine (clean_Rows.calls k A3 c3 n false false a2 n2 [] a3 n3 r a4 n4 [] none 0 [] false false false t g _ CW.out hc3 K2.out l2 K3.out l3 K4.out l4 (Kd.C_nil _ _) (Nat.le_refl _) HH.out.kt).mono ?_
   rintro e12 w12 ⟨v12, rfl, ho, hb12⟩
   obtain ⟨At, ct, rfl, hct, hCt⟩ := Kd.N_reads ho
   have CT := hid hCt
   have C3 := hid (Kd.C_below CW.out hb12)
   have B12 := hid (BW.out.trans (hb12.mono BW.out.size))
   clear ho hCt hb12 K2 K3 K4 s0 s1 s2 s3 s4 s5 s6 s7
   go_wp2_with fail
   refine (boltingref04_Text.calls k A3 c3 n (-1) T _ C3.out hc3 HH.out.text).mono ?_
   rintro e13 w13 ⟨rfl, hb13⟩
   have CT := hid (Kd.C_below CT.out hb13)
   have B13 := hid (B12.out.trans (hb13.mono B12.out.size))
   clear hb13 B12 C3
   by_cases hg0 : g = 0
   ·have g1 : (g != 0) = false := bne_eq_false_iff_eq.2 hg0
    have g2 : (g == 0) = true := beq_iff_eq.2 hg0
    by_cases hT : T.toList = []
    ·have t1 : (T.toList == ([] : List UInt8)) = true := beq_iff_eq.2 hT
     have tl := HH.out.last0 hg0 hT
     go_wp2_with fail
     refine (boltinglaw13_fixed.calls true _ rfl).mono ?_
     rintro e14 w14 ⟨rfl, hb14⟩
     have B14 := hid (B13.out.trans (hb14.mono B13.out.size))
     clear hb14
     go_wp2
     go_ret
     exact ⟨rfl, B14.out⟩
    ·have t1 : (T.toList == ([] : List UInt8)) = false := beq_eq_false_iff_ne.2 hT
     have tl := HH.out.last1 hg0 hT
     have hl0 : Below w13.heap.size w13 (w13.alloc (.cells #[.int .i64 0, .int .i64 1, .string ⟨#[]⟩, .string T, .slice none 0 0] 38)) := (Below.refl _ w13).alloc (Nat.le_refl _) _
     have CT2 := hid (Kd.C_below CT.out hl0)
     have B15 := hid (B13.out.trans (hl0.mono B13.out.size))
     have C1 := hid (one_row (blk_new w13 (.cells #[.int .i64 0, .int .i64 1, .string ⟨#[]⟩, .string T, .slice none 0 0] 38)))
     clear hl0
     go_wp2_with fail
     refine (boltingref04_Same.calls k At ct t (some ⟨w13.heap.size, 0, none⟩) 1 [⟨0, 1, ⟨#[]⟩, T, []⟩] true _ CT2.out hct C1.out (Nat.le_refl _) tl).mono ?_
     rintro e15 w15 ⟨rfl, hb15⟩
     have B16 := hid (B15.out.trans (hb15.mono B15.out.size))
     clear hb15
     go_wp2_with fail
     refine (boltinglaw13_fixed.calls true _ rfl).mono ?_
     rintro e14 w14 ⟨rfl, hb14⟩
     have B14 := hid (B16.out.trans (hb14.mono B16.out.size))
     clear hb14
     go_wp2
     go_ret
     exact ⟨rfl, B14.out⟩
   ·have g1 : (g != 0) = true := bne_iff_ne.2 hg0
    have g2 : (g == 0) = false := beq_eq_false_iff_ne.2 hg0
    go_wp2_with fail
    refine (boltinglaw13_fixed.calls true _ rfl).mono ?_
    rintro e14 w14 ⟨rfl, hb14⟩
    have B14 := hid (B13.out.trans (hb14.mono B13.out.size))
    clear hb14
    go_wp2
    go_ret
    exact ⟨rfl, B14.out⟩
set_option maxHeartbeats 4000000 in
set_option maxRecDepth 100000 in
theorem keeps_bad {k : Nat} {A0 : Option Addr} {c0 : Nat} {l0 L : List S38} {q : Int} (w : World) (h0 : Kd.C k38 w A0 l0.length l0) (hc0 : l0.length ≤ c0) (hb : boltinglaw13_bound.f k l0 = some L) (hq : boltingref04_Check.f k L = some q) (hne : q ≠ 0) :
  Calls Tryz.prog 3 #[.slice A0 l0.length c0] w fun e w' => e = .returned (.bool true) ∧ Below w.heap.size w w' := by
 have H0 := hid h0
 clear h0
 have g1 : (q != 0) = true := bne_iff_ne.2 hne
 have g2 : (q == 0) = false := beq_eq_false_iff_ne.2 hne
 go_enter Tryz.func3, Tryz.ntmps3
 go_wp2_with fail
 refine (boltinglaw13_bound.calls k (fun k_ => k_ < w.heap.size) A0 c0 l0 L _ (Kd.V_mk hc0 (Kd.C_F k38_heap H0.out)) hb).mono ?_
 rintro e1 w1 ⟨v1, rfl, ho, hb1⟩
 obtain ⟨A1, c1, rfl, hc1, hC1⟩ := Kd.N_reads ho
 have C1 := hid hC1
 have B1 := hid hb1
 clear ho hC1 hb1
 go_wp2_with fail
 refine (boltingref04_Check.calls k A1 c1 L q _ C1.out hc1 hq).mono ?_
 rintro e2 w2 ⟨rfl, hb2⟩
 have B2 := hid (B1.out.trans (hb2.mono B1.out.size))
 clear hb2 B1
 go_wp2_with fail
 refine (boltinglaw13_fixed.calls true _ rfl).mono ?_
 rintro e3 w3 ⟨rfl, hb3⟩
 have B3 := hid (B2.out.trans (hb3.mono B2.out.size))
 clear hb3
 go_wp2
 go_ret
 exact ⟨rfl, B3.out⟩
end Go.Proofs.YticacakoefojbaaGreat.Pure
namespace Go.Proofs.YticacakoefojbaaGreat.Fo
open Go.Proofs.YticacakoefojbaaGreat.Pr

inductive Fo where
 | nil
 | cons (x : Rw) (k r : Fo)
def Fo.app : Fo → Fo → Fo
 | .nil, G => G
 | .cons x k r, G => .cons x k (r.app G)
def Fo.size : Fo → Nat
 | .nil => 0
 | .cons _ k r => 1 + k.size + r.size
def Fo.height : Fo → Nat
 | .nil => 0
 | .cons _ k r => max (1 + k.height) r.height
theorem app_nil : ∀ F : Fo, F.app .nil = F
 | .nil => rfl
 | .cons x k r => by rw [Fo.app, app_nil r]
theorem size_app : ∀ A B : Fo, (A.app B).size = A.size + B.size
 | .nil, B => by simp [Fo.app, Fo.size]
 | .cons x k r, B => by rw [Fo.app, Fo.size, Fo.size, size_app r]; omega
theorem height_app : ∀ A B : Fo, (A.app B).height = max A.height B.height
 | .nil, B => by simp [Fo.app, Fo.height]
 | .cons x k r, B => by rw [Fo.app, Fo.height, Fo.height, height_app r]; omega
def Fo.All (P : Rw → Prop) : Fo → Prop
 | .nil => True
 | .cons x k r => P x ∧ k.All P ∧ r.All P
theorem all_app {P : Rw → Prop} : ∀ {A B : Fo}, A.All P → B.All P → (A.app B).All P
 | .nil, B, _, h => h
 | .cons x k r, B, h, h2 => ⟨h.1, h.2.1, all_app h.2.2 h2⟩
theorem all_imp {P Q : Rw → Prop} (h : ∀ x, P x → Q x) : ∀ {A : Fo}, A.All P → A.All Q
 | .nil, _ => trivial
 | .cons x k r, g => ⟨h x g.1, all_imp h g.2.1, all_imp h g.2.2⟩
def Fo.Leaf : Fo → Prop
 | .nil => True
 | .cons x k r => (x.f1 ≠ 0 → k = .nil) ∧ k.Leaf ∧ r.Leaf
theorem leaf_app : ∀ {A B : Fo}, A.Leaf → B.Leaf → (A.app B).Leaf
 | .nil, B, _, h => h
 | .cons x k r, B, h, h2 => ⟨h.1, h.2.1, leaf_app h.2.2 h2⟩

def flat : Int → Fo → List Rw
 | _, .nil => []
 | d, .cons x k r => { x with f0 := d } :: (flat (d + 1) k ++ flat d r)
theorem flat_len : ∀ (F : Fo) (d : Int), (flat d F).length = F.size
 | .nil, d => rfl
 | .cons x k r, d => by rw [flat, List.length_cons, List.length_append, flat_len k, flat_len r, Fo.size]; omega
theorem flat_app : ∀ (A B : Fo) (d : Int), flat d (A.app B) = flat d A ++ flat d B
 | .nil, B, d => rfl
 | .cons x k r, B, d => by rw [Fo.app, flat, flat, flat_app r]; simp
theorem flat_ge : ∀ (F : Fo) (d : Int), ∀ x ∈ flat d F, d ≤ x.f0
 | .nil, d, x, h => by cases h
 | .cons y k r, d, x, h => by
  rw [flat, List.mem_cons, List.mem_append] at h
  rcases h with rfl | h | h
  ·exact Int.le_refl _
  ·have := flat_ge k (d + 1) x h; omega
  ·exact flat_ge r d x h
theorem flat_lt : ∀ (F : Fo) (d : Int), ∀ x ∈ flat d F, x.f0 < d + F.height
 | .nil, d, x, h => by cases h
 | .cons y k r, d, x, h => by
  rw [flat, List.mem_cons, List.mem_append] at h
  rw [Fo.height]
  rcases h with rfl | h | h
  ·show d < _; omega
  ·have := flat_lt k (d + 1) x h; omega
  ·have := flat_lt r d x h; omega
theorem height_of : ∀ (F : Fo) (d : Int) (m : Nat), (∀ x ∈ flat d F, x.f0 < d + m) → F.height ≤ m
 | .nil, d, m, h => Nat.zero_le _
 | .cons y k r, d, m, h => by
  rw [flat] at h
  have h0 : d < d + (m : Int) := h { y with f0 := d } (List.mem_cons_self ..)
  have hk := height_of k (d + 1) (m - 1) (fun x hx => by have := h x (List.mem_cons_of_mem _ (List.mem_append_left _ hx)); omega)
  have hr := height_of r d m (fun x hx => h x (List.mem_cons_of_mem _ (List.mem_append_right _ hx)))
  rw [Fo.height]; omega
theorem flat_all {P : Rw → Prop} (hP : ∀ x d, P x → P { x with f0 := d }) : ∀ (F : Fo) (d : Int), F.All P → ∀ x ∈ flat d F, P x
 | .nil, d, _, x, h => by cases h
 | .cons y k r, d, hA, x, h => by
  rw [flat, List.mem_cons, List.mem_append] at h
  rcases h with rfl | h | h
  ·exact hP y d hA.1
  ·exact flat_all hP k (d + 1) hA.2.1 x h
  ·exact flat_all hP r d hA.2.2 x h
theorem all_flat {P : Rw → Prop} (hP : ∀ x d, P { x with f0 := d } → P x) : ∀ (F : Fo) (d : Int), (∀ x ∈ flat d F, P x) → F.All P
 | .nil, d, _ => trivial
 | .cons y k r, d, h => by
  rw [flat] at h
  exact ⟨hP y d (h _ (List.mem_cons_self ..)), all_flat hP k (d + 1) (fun x hx => h x (List.mem_cons_of_mem _ (List.mem_append_left _ hx))), all_flat hP r d (fun x hx => h x (List.mem_cons_of_mem _ (List.mem_append_right _ hx)))⟩

def RightL (ok : Rw → Prop) : Int → List Rw → Prop
 | _, [] => True
 | m, x :: t => 0 ≤ x.f0 ∧ x.f0 ≤ m ∧ ok x ∧ RightL ok (if x.f1 = 0 then x.f0 + 1 else x.f0) t
theorem RightL.head {ok : Rw → Prop} {m m' : Int} : ∀ {l : List Rw}, RightL ok m l → (∀ x, l.head? = some x → x.f0 ≤ m') → RightL ok m' l
 | [], _, _ => trivial
 | x :: t, h, h2 => ⟨h.1, h2 x rfl, h.2.2⟩
theorem parse_at (ok : Rw → Prop) : ∀ (n : Nat) (l : List Rw) (d : Int), l.length ≤ n → RightL ok d l → 0 ≤ d →
  ∃ F rest, l = flat d F ++ rest ∧ F.Leaf ∧ F.All (fun x => ok x ∧ 0 ≤ x.f0) ∧ (∀ x, rest.head? = some x → x.f0 < d) ∧ RightL ok (d - 1) rest := by
 intro n
 induction n with
 | zero =>
  intro l d hl hR hd
  have : l = [] := List.length_eq_zero_iff.1 (by omega)
  subst this
  exact ⟨.nil, [], rfl, trivial, trivial, (fun x h => by cases h), trivial⟩
 | succ n ih =>
  intro l d hl hR hd
  cases l with
  | nil => exact ⟨.nil, [], rfl, trivial, trivial, (fun x h => by cases h), trivial⟩
  | cons x t =>
   obtain ⟨h0, h1, hok, hT⟩ := hR
   by_cases hx : x.f0 = d
   ·have hxd : ({ x with f0 := d } : Rw) = x := by rw [← hx]
    by_cases hk : x.f1 = 0
    ·rw [if_pos hk, hx] at hT
     obtain ⟨K, r1, e1, l1, a1, b1, c1⟩ := ih t (d + 1) (by simpa using hl) hT (by omega)
     have hlen : r1.length ≤ n := by
      have := congrArg List.length e1
      rw [List.length_append] at this
      have : t.length ≤ n := by simpa using hl
      omega
     rw [show d + 1 - 1 = d by omega] at c1
     obtain ⟨R, r2, e2, l2, a2, b2, c2⟩ := ih r1 d hlen c1 hd
     refine ⟨.cons x K R, r2, ?_, ⟨fun h => absurd hk h, l1, l2⟩, ⟨⟨hok, h0⟩, a1, a2⟩, b2, c2⟩
     rw [flat, hxd, List.cons_append, List.append_assoc, ← e2, ← e1]
    ·rw [if_neg hk, hx] at hT
     obtain ⟨R, r2, e2, l2, a2, b2, c2⟩ := ih t d (by simpa using hl) hT hd
     refine ⟨.cons x .nil R, r2, ?_, ⟨fun h => rfl, trivial, l2⟩, ⟨⟨hok, h0⟩, trivial, a2⟩, b2, c2⟩
     rw [flat, hxd, flat, List.nil_append, List.cons_append, ← e2]
   ·exact ⟨.nil, x :: t, rfl, trivial, trivial, (fun y h => by cases h; omega), ⟨h0, by omega, hok, hT⟩⟩
theorem parse {ok : Rw → Prop} {l : List Rw} (h : RightL ok 0 l) : ∃ F, l = flat 0 F ∧ F.Leaf ∧ F.All ok := by
 obtain ⟨F, rest, e, hl, ha, hb, hc⟩ := parse_at ok l.length l 0 (Nat.le_refl _) h (Int.le_refl _)
 cases rest with
 | nil => exact ⟨F, by simpa using e, hl, all_imp (fun x h => h.1) ha⟩
 | cons x t =>
  have h1 := hc.1
  have h2 := hc.2.1
  omega
theorem right_append {ok : Rw → Prop} : ∀ {a b : List Rw} {m d : Int}, RightL ok m a → (∀ x ∈ a, d ≤ x.f0) → RightL ok d b → d ≤ m → RightL ok m (a ++ b)
 | [], b, m, d, _, _, hb, hm => hb.head (fun x hx => by
   cases b with
   | nil => cases hx
   | cons y t => cases hx; have := hb.2.1; omega)
 | x :: t, b, m, d, ha, hd, hb, hm => by
  refine ⟨ha.1, ha.2.1, ha.2.2.1, ?_⟩
  have hx := hd x (List.mem_cons_self ..)
  exact right_append (d := d) ha.2.2.2 (fun y hy => hd y (List.mem_cons_of_mem _ hy)) hb (by split <;> omega)
theorem right_flat {ok : Rw → Prop} (hP : ∀ x d, ok x → ok { x with f0 := d }) : ∀ (F : Fo) (d : Int), 0 ≤ d → F.Leaf → F.All ok → RightL ok d (flat d F)
 | .nil, d, _, _, _ => trivial
 | .cons x k r, d, hd, hl, ha => by
  rw [flat]
  refine ⟨hd, Int.le_refl _, hP x d ha.1, ?_⟩
  have hr := right_flat hP r d hd hl.2.2 ha.2.2
  by_cases hk : x.f1 = 0
  ·rw [if_pos (show ({ x with f0 := d } : Rw).f1 = 0 from hk)]
   refine right_append (d := d) (right_flat hP k (d + 1) (by omega) hl.2.1 ha.2.1) (fun y hy => ?_) hr (by show d ≤ d + 1; omega)
   have := flat_ge k (d + 1) y hy
   omega
  ·rw [if_neg (show ¬ ({ x with f0 := d } : Rw).f1 = 0 from hk), hl.1 hk]
   exact hr

def keepF (what : Rw → Int) (upd : Rw → Rw) : Fo → Fo
 | .nil => .nil
 | .cons x k r => if what x = 1 then keepF what upd r else if what x = 2 then (keepF what upd k).app (keepF what upd r) else .cons (upd x) (keepF what upd k) (keepF what upd r)
theorem keep_size (what : Rw → Int) (upd : Rw → Rw) : ∀ F : Fo, (keepF what upd F).size ≤ F.size
 | .nil => Nat.le_refl _
 | .cons x k r => by
  have h1 := keep_size what upd k
  have h2 := keep_size what upd r
  rw [keepF, Fo.size]
  split
  ·omega
  ·split
   ·rw [size_app]; omega
   ·rw [Fo.size]; omega
theorem keep_height (what : Rw → Int) (upd : Rw → Rw) : ∀ F : Fo, (keepF what upd F).height ≤ F.height
 | .nil => Nat.le_refl _
 | .cons x k r => by
  have h1 := keep_height what upd k
  have h2 := keep_height what upd r
  rw [keepF, Fo.height]
  split
  ·omega
  ·split
   ·rw [height_app]; omega
   ·rw [Fo.height]; omega
theorem keep_all {what : Rw → Int} {upd : Rw → Rw} {P Q : Rw → Prop} (h : ∀ x, P x → what x ≠ 1 → what x ≠ 2 → Q (upd x)) : ∀ {F : Fo}, F.All P → (keepF what upd F).All Q
 | .nil, _ => trivial
 | .cons x k r, hA => by
  rw [keepF]
  split
  ·exact keep_all h hA.2.2
  ·split
   ·exact all_app (keep_all h hA.2.1) (keep_all h hA.2.2)
   ·exact ⟨h x hA.1 (by assumption) (by assumption), keep_all h hA.2.1, keep_all h hA.2.2⟩
theorem keep_leaf {what : Rw → Int} {upd : Rw → Rw} (h : ∀ x, (upd x).f1 = x.f1) : ∀ {F : Fo}, F.Leaf → (keepF what upd F).Leaf
 | .nil, _ => trivial
 | .cons x k r, hL => by
  rw [keepF]
  split
  ·exact keep_leaf h hL.2.2
  ·split
   ·exact leaf_app (keep_leaf h hL.2.1) (keep_leaf h hL.2.2)
   ·exact ⟨fun g => by rw [hL.1 (by rw [← h x]; exact g)]; rfl, keep_leaf h hL.2.1, keep_leaf h hL.2.2⟩
theorem keep_id {what : Rw → Int} {upd : Rw → Rw} : ∀ {F : Fo}, F.All (fun x => what x ≠ 1 ∧ what x ≠ 2 ∧ upd x = x) → keepF what upd F = F
 | .nil, _ => rfl
 | .cons x k r, hA => by
  rw [keepF, if_neg hA.1.1, if_neg hA.1.2.1, hA.1.2.2, keep_id hA.2.1, keep_id hA.2.2]
def pre (x : Rw) (k F : Fo) : Fo :=
 if x.f1 = 1 then
  if x.f3.size = 0 then F else
  match F with
  | .nil => .cons x k .nil
  | .cons y ky r => if y.f1 = 1 then .cons { x with f3 := x.f3 ++ y.f3 } k r else .cons x k F
 else .cons x k F
def normF : Fo → Fo
 | .nil => .nil
 | .cons x k r => pre x (normF k) (normF r)
def preL (x : Rw) (l : List Rw) : List Rw :=
 if x.f1 = 1 then
  if x.f3.size = 0 then l else
  match l with
  | [] => [x]
  | y :: t => if y.f1 = 1 ∧ y.f0 = x.f0 then { x with f3 := x.f3 ++ y.f3 } :: t else x :: l
 else x :: l
def normL : List Rw → List Rw
 | [] => []
 | x :: t => preL x (normL t)
theorem preL_ne {x : Rw} {l : List Rw} (h : ∀ y, l.head? = some y → y.f0 ≠ x.f0) : preL x l = if x.f1 = 1 ∧ x.f3.size = 0 then l else x :: l := by
 unfold preL
 by_cases h1 : x.f1 = 1
 ·rw [if_pos h1]
  by_cases h2 : x.f3.size = 0
  ·rw [if_pos h2, if_pos ⟨h1, h2⟩]
  ·rw [if_neg h2, if_neg (fun g => h2 g.2)]
   cases l with
   | nil => rfl
   | cons y t => simp only []; rw [if_neg (fun g => h y rfl g.2)]
 ·rw [if_neg h1, if_neg (fun g => h1 g.1)]
theorem normL_head : ∀ {l : List Rw} {y : Rw}, (normL l).head? = some y → ∃ x ∈ l, x.f0 = y.f0
 | [], y, h => by cases h
 | x :: t, y, h => by
  have tail_ : (normL t).head? = some y → ∃ z ∈ x :: t, z.f0 = y.f0 := fun g => by
   obtain ⟨z, hz, e⟩ := normL_head g
   exact ⟨z, List.mem_cons_of_mem _ hz, e⟩
  rw [normL] at h
  unfold preL at h
  split at h
  ·split at h
   ·exact tail_ h
   ·split at h
    ·cases h; exact ⟨x, List.mem_cons_self .., rfl⟩
    ·split at h
     ·cases h; exact ⟨x, List.mem_cons_self .., rfl⟩
     ·cases h; exact ⟨x, List.mem_cons_self .., rfl⟩
  ·cases h; exact ⟨x, List.mem_cons_self .., rfl⟩
theorem normL_app {d : Int} : ∀ {a b : List Rw}, (∀ x ∈ a, d < x.f0) → (∀ y ∈ b, y.f0 ≤ d) ∨ (∀ y, (normL b).head? = some y → y.f0 ≤ d) → normL (a ++ b) = normL a ++ normL b
 | [], b, _, _ => rfl
 | x :: t, b, h, hb => by
  have hb2 : ∀ y, (normL b).head? = some y → y.f0 ≤ d := by
   rcases hb with g | g
   ·intro y hy
    obtain ⟨z, hz, e⟩ := normL_head hy
    have := g z hz; omega
   ·exact g
  have ih := normL_app (fun z hz => h z (List.mem_cons_of_mem _ hz)) (.inr hb2)
  have hx := h x (List.mem_cons_self ..)
  rw [List.cons_append, normL, normL, ih]
  cases ht : normL t with
  | nil =>
   rw [List.nil_append, preL_ne (fun y hy => by have := hb2 y hy; omega), preL_ne (fun y hy => by cases hy)]
   split <;> rfl
  | cons z u =>
   unfold preL
   split
   ·split
    ·rfl
    ·simp only [List.cons_append]
     split
     ·rfl
     ·rfl
   ·rfl
theorem flat_head_norm {F : Fo} {d : Int} : ∀ y, (flat d F).head? = some y → y.f0 = d := by
 intro y h
 cases F with
 | nil => cases h
 | cons x k r => rw [flat] at h; cases h; rfl
theorem normL_flat : ∀ (F : Fo) (d : Int), F.Leaf → normL (flat d F) = flat d (normF F)
 | .nil, d, _ => rfl
 | .cons x k r, d, h => by
  have hk := normL_flat k (d + 1) h.2.1
  have hr := normL_flat r d h.2.2
  have hap : normL (flat (d + 1) k ++ flat d r) = flat (d + 1) (normF k) ++ flat d (normF r) := by
   rw [normL_app (d := d) (fun y hy => by have := flat_ge k (d + 1) y hy; omega) (.inr (fun y hy => by rw [hr] at hy; rw [flat_head_norm y hy]; exact Int.le_refl _)), hk, hr]
  rw [flat, normL, hap, normF]
  by_cases hx : x.f1 = 1
  ·have hkn : k = .nil := h.1 (by rw [hx]; decide)
   subst hkn
   simp only [normF, flat, List.nil_append]
   unfold preL pre
   rw [if_pos (show ({ x with f0 := d } : Rw).f1 = 1 from hx), if_pos hx]
   by_cases h3 : x.f3.size = 0
   ·rw [if_pos h3, if_pos (show ({ x with f0 := d } : Rw).f3.size = 0 from h3)]
   ·rw [if_neg h3, if_neg (show ¬ ({ x with f0 := d } : Rw).f3.size = 0 from h3)]
    cases hn : normF r with
    | nil => rfl
    | cons y ky s =>
     simp only [flat]
     by_cases hy : y.f1 = 1
     ·rw [if_pos ⟨hy, trivial⟩, if_pos hy]
      have hky : ky = .nil := by
       have := leaf_norm r h.2.2
       rw [hn] at this
       exact this.1 (by rw [hy]; decide)
      subst hky
      rfl
     ·rw [if_neg (fun g => hy g.1), if_neg hy]
      rfl
  ·unfold preL pre
   rw [if_neg (show ¬ ({ x with f0 := d } : Rw).f1 = 1 from hx), if_neg hx]
   rfl
where leaf_norm : ∀ F : Fo, F.Leaf → (normF F).Leaf
 | .nil, _ => trivial
 | .cons x k r, h => by
  have hk := leaf_norm k h.2.1
  have hr := leaf_norm r h.2.2
  have h0 : x.f1 ≠ 0 → normF k = .nil := fun g => by rw [h.1 g]; rfl
  rw [normF]
  unfold pre
  split
  ·split
   ·exact hr
   ·split
    ·exact ⟨h0, hk, trivial⟩
    ·rename_i hn
     rw [hn] at hr
     split
     ·exact ⟨h0, hk, hr.2.2⟩
     ·exact ⟨h0, hk, by rw [hn]; exact hr⟩
  ·exact ⟨h0, hk, hr⟩

theorem bytes_app_empty (a b : ByteArray) (h : b.size = 0) : a ++ b = a := by
 have : b = ByteArray.empty := by
  have e : b.data = #[] := Array.size_eq_zero_iff.1 h
  cases b; simp at e; subst e; rfl
 rw [this, ByteArray.append_empty]
theorem bytes_size_app (a b : ByteArray) : (a ++ b).size = a.size + b.size := ByteArray.size_append
theorem pre_empty {x : Rw} {k F : Fo} (h : x.f1 = 1) (h0 : x.f3.size = 0) : pre x k F = F := by unfold pre; rw [if_pos h, if_pos h0]
theorem pre_not {x : Rw} {k F : Fo} (h : ¬ x.f1 = 1) : pre x k F = .cons x k F := by unfold pre; rw [if_neg h]
theorem pre_pre {x y : Rw} {k ky Z : Fo} (hx : x.f1 = 1) (h0 : ¬ x.f3.size = 0) (hy : y.f1 = 1) : pre x k (pre y ky Z) = pre { x with f3 := x.f3 ++ y.f3 } k Z := by
 by_cases h1 : y.f3.size = 0
 ·rw [pre_empty hy h1, bytes_app_empty _ _ h1]
 ·have h2 : ¬ ({ x with f3 := x.f3 ++ y.f3 } : Rw).f3.size = 0 := by
   show ¬ (x.f3 ++ y.f3).size = 0
   rw [bytes_size_app]; omega
  have hx2 : ({ x with f3 := x.f3 ++ y.f3 } : Rw).f1 = 1 := hx
  cases Z with
  | nil => unfold pre; simp only [if_pos hx, if_neg h0, if_pos hy, if_neg h1, if_pos hx2, if_neg h2]
  | cons z kz s =>
   by_cases hz : z.f1 = 1
   ·unfold pre; simp only [if_pos hx, if_neg h0, if_pos hy, if_neg h1, if_pos hx2, if_neg h2, if_pos hz, ByteArray.append_assoc]
   ·unfold pre; simp only [if_pos hx, if_neg h0, if_pos hy, if_neg h1, if_pos hx2, if_neg h2, if_neg hz]
def foldpre : Fo → Fo → Fo
 | .nil, G => G
 | .cons x k r, G => pre x (normF k) (foldpre r G)
theorem norm_app : ∀ A B : Fo, normF (A.app B) = foldpre A (normF B)
 | .nil, B => rfl
 | .cons x k r, B => by rw [Fo.app, normF, foldpre, norm_app r]
theorem norm_fold (A : Fo) : normF A = foldpre A .nil := by
 have := norm_app A .nil
 rw [app_nil] at this
 exact this
theorem fold_pre (x : Rw) (k F G : Fo) : foldpre (pre x k F) G = pre x (normF k) (foldpre F G) := by
 by_cases hx : x.f1 = 1
 ·by_cases h0 : x.f3.size = 0
  ·rw [pre_empty hx h0, pre_empty hx h0]
  ·cases F with
   | nil => unfold pre; rw [if_pos hx, if_neg h0]; simp only [foldpre]; unfold pre; rw [if_pos hx, if_neg h0]
   | cons y ky r =>
    by_cases hy : y.f1 = 1
    ·have e : pre x k (.cons y ky r) = .cons { x with f3 := x.f3 ++ y.f3 } k r := by unfold pre; rw [if_pos hx, if_neg h0]; simp only []; rw [if_pos hy]
     rw [e, foldpre, foldpre, pre_pre hx h0 hy]
    ·have e : pre x k (.cons y ky r) = .cons x k (.cons y ky r) := by unfold pre; rw [if_pos hx, if_neg h0]; simp only []; rw [if_neg hy]
     rw [e, foldpre]
 ·rw [pre_not hx, foldpre]
theorem norm_norm : ∀ F : Fo, normF (normF F) = normF F
 | .nil => rfl
 | .cons x k r => by
  have hk := norm_norm k
  have hr := norm_norm r
  rw [normF, norm_fold, fold_pre, hk, ← norm_fold, hr]
def TextStays (what : Rw → Int) (upd : Rw → Rw) : Prop := ∀ x : Rw, x.f1 = 1 → what x ≠ 1 ∧ what x ≠ 2 ∧ upd x = x
theorem norm_leaf (F : Fo) (h : F.Leaf) : (normF F).Leaf := normL_flat.leaf_norm F h
theorem pre_size (x : Rw) (k F : Fo) : (pre x k F).size ≤ 1 + k.size + F.size := by
 unfold pre
 split
 ·split
  ·omega
  ·split
   ·simp only [Fo.size]; omega
   ·split <;> simp only [Fo.size] <;> omega
 ·simp only [Fo.size]; omega
theorem norm_size : ∀ F : Fo, (normF F).size ≤ F.size
 | .nil => Nat.le_refl _
 | .cons x k r => by
  have h1 := norm_size k
  have h2 := norm_size r
  have h3 := pre_size x (normF k) (normF r)
  rw [normF, Fo.size]; omega
theorem pre_height (x : Rw) (k F : Fo) : (pre x k F).height ≤ max (1 + k.height) F.height := by
 unfold pre
 split
 ·split
  ·omega
  ·split
   ·simp only [Fo.height]; omega
   ·split <;> simp only [Fo.height] <;> omega
 ·simp only [Fo.height]; omega
theorem norm_height : ∀ F : Fo, (normF F).height ≤ F.height
 | .nil => Nat.le_refl _
 | .cons x k r => by
  have h1 := norm_height k
  have h2 := norm_height r
  have h3 := pre_height x (normF k) (normF r)
  rw [normF, Fo.height]; omega
theorem pre_all {P : Rw → Prop} (hP : ∀ x b, P x → x.f1 = 1 → P { x with f3 := b }) {x : Rw} {k F : Fo} (hx : P x) (hk : k.All P) (hF : F.All P) : (pre x k F).All P := by
 unfold pre
 split
 ·split
  ·exact hF
  ·split
   ·exact ⟨hx, hk, trivial⟩
   ·split
    ·exact ⟨hP _ _ hx (by assumption), hk, hF.2.2⟩
    ·exact ⟨hx, hk, hF⟩
 ·exact ⟨hx, hk, hF⟩
theorem norm_all {P : Rw → Prop} (hP : ∀ x b, P x → x.f1 = 1 → P { x with f3 := b }) : ∀ {F : Fo}, F.All P → (normF F).All P
 | .nil, _ => trivial
 | .cons x k r, h => pre_all hP h.1 (norm_all hP h.2.1) (norm_all hP h.2.2)

def tx (x : Rw) : List UInt8 := if x.f1 = 1 then x.f3.data.toList else []
def textF : Fo → List UInt8
 | .nil => []
 | .cons x k r => tx x ++ (textF k ++ textF r)
def textL : List Rw → List UInt8
 | [] => []
 | x :: t => tx x ++ textL t
theorem textL_app : ∀ a b : List Rw, textL (a ++ b) = textL a ++ textL b
 | [], b => rfl
 | x :: t, b => by rw [List.cons_append, textL, textL, textL_app t, List.append_assoc]
theorem text_flat : ∀ (F : Fo) (d : Int), textL (flat d F) = textF F
 | .nil, d => rfl
 | .cons x k r, d => by rw [flat, textL, textL_app, text_flat k, text_flat r, textF]; rfl
theorem text_app : ∀ A B : Fo, textF (A.app B) = textF A ++ textF B
 | .nil, B => rfl
 | .cons x k r, B => by rw [Fo.app, textF, textF, text_app r]; simp
theorem text_keep {what : Rw → Int} {upd : Rw → Rw} (h : ∀ x, tx (upd x) = tx x) : ∀ {F : Fo}, F.Leaf → F.All (fun x => (what x = 1 → x.f1 ≠ 0 ∧ x.f1 ≠ 1) ∧ (what x = 2 → x.f1 ≠ 1)) → textF (keepF what upd F) = textF F
 | .nil, _, _ => rfl
 | .cons x k r, hl, ha => by
  have h1 := text_keep h hl.2.1 ha.2.1
  have h2 := text_keep h hl.2.2 ha.2.2
  rw [keepF, textF]
  split
  ·rename_i g
   obtain ⟨g0, g1⟩ := ha.1.1 g
   rw [h2, hl.1 g0, tx, if_neg g1]; rfl
  ·split
   ·rename_i g
    rw [text_app, h1, h2, tx, if_neg (ha.1.2 g)]; rfl
   ·rw [textF, h, h1, h2]
theorem norm_texts : ∀ {A : Fo}, A.Leaf → A.All (fun x => x.f1 = 1 ∧ x.f2.size = 0 ∧ x.f4 = []) → (textF A = [] ∧ normF A = .nil) ∨ (textF A ≠ [] ∧ ∃ x, normF A = .cons x .nil .nil ∧ x.f1 = 1 ∧ x.f2.size = 0 ∧ x.f4 = [] ∧ x.f3.data.toList = textF A)
 | .nil, _, _ => .inl ⟨rfl, rfl⟩
 | .cons x k r, hl, ha => by
  obtain ⟨⟨h1, h2, h4⟩, _, har⟩ := ha
  have hk := hl.1 (by rw [h1]; decide)
  subst hk
  have ih := norm_texts hl.2.2 har
  have et : textF (.cons x .nil r) = x.f3.data.toList ++ textF r := by rw [textF, tx, if_pos h1]; rfl
  rw [et, normF]
  by_cases h0 : x.f3.size = 0
  ·have e0 : x.f3.data.toList = [] := by
    have e : x.f3.data = #[] := Array.size_eq_zero_iff.1 h0
    rw [e]
   rw [pre_empty h1 h0, e0, List.nil_append]
   exact ih
  ·have e0 : x.f3.data.toList ++ textF r ≠ [] := by
    intro e
    have := congrArg List.length e
    rw [List.length_append] at this
    have h5 : x.f3.data.toList.length = x.f3.size := by simp
    have h6 : x.f3.data.toList.length + (textF r).length = 0 := this
    omega
   refine .inr ⟨e0, ?_⟩
   rcases ih with ⟨a, b⟩ | ⟨a, y, b, c1, c2, c4, c3⟩
   ·rw [b, a]
    exact ⟨x, by unfold pre; rw [if_pos h1, if_neg h0]; rfl, h1, h2, h4, by simp⟩
   ·rw [b]
    exact ⟨{ x with f3 := x.f3 ++ y.f3 }, by unfold pre; rw [if_pos h1, if_neg h0]; simp only []; rw [if_pos c1]; rfl, h1, h2, h4, by show (x.f3 ++ y.f3).data.toList = _; rw [← c3]; simp⟩

def wt (x : Rw) : Nat := if x.f1 = 1 then 0 else 1 + x.f4.length
def wF : Fo → Nat
 | .nil => 0
 | .cons x k r => wt x + wF k + wF r
def wL : List Rw → Nat
 | [] => 0
 | x :: t => wt x + wL t
end Go.Proofs.YticacakoefojbaaGreat.Fo
namespace Go.Proofs.YticacakoefojbaaGreat.Pure
open Go.RowKit Go.Proofs.YticacakoefojbaaGreat.Pr Go.Proofs.YticacakoefojbaaGreat.Fo Go.Proofs.YticacakoefojbaaGreatW.PrintWords Go.Proofs.YticacakoefojbaaGreatW.PrintLast Go.Proofs.YticacakoefojbaaGreatW.PrintMore

theorem rdR_at {l : List Rw} {i : Nat} {x : Rw} (h : l[i]? = some x) : rd_T38 l (i : Int) = x := by
 unfold rd_T38
 rw [Int.toNat_natCast, List.getD_eq_getElem?_getD, h]
 rfl
theorem rdA_at {l : List Atr} {i : Nat} {x : Atr} (h : l[i]? = some x) : rd_T45 l (i : Int) = x := by
 unfold rd_T45
 rw [Int.toNat_natCast, List.getD_eq_getElem?_getD, h]
 rfl
def Okx (x : Rw) : Prop := wrap64 x.f0 = x.f0 ∧ x.f4.length ≤ 50
theorem attr_f (l : List Atr) (h : l.length ≤ 50) : api_Attr.f l = some l := if_pos (by omega)
theorem moved_l0 (l : List Rw) (hl : l.length ≤ 200) (hx : ∀ x ∈ l, Okx x) : ∀ (d i : Nat) (acc : List Rw), i + d = l.length → acc.length ≤ i → ∀ k, d < k →
  rows_moved.l0 k 0 acc l (l.length : Int) (i : Int) = some (acc ++ l.drop i)
 | 0, i, acc, h, ha, k, hk => by
  obtain ⟨k, rfl⟩ : ∃ m, k = m + 1 := ⟨k - 1, by omega⟩
  simp only [rows_moved.l0]
  rw [if_neg (by omega), List.drop_of_length_le (by omega), List.append_nil]
 | d + 1, i, acc, h, ha, k, hk => by
  obtain ⟨k, rfl⟩ : ∃ m, k = m + 1 := ⟨k - 1, by omega⟩
  obtain ⟨x, h0⟩ := get_some (show i < l.length by omega)
  obtain ⟨h1, h2⟩ := hx x (List.mem_of_getElem? h0)
  simp only [rows_moved.l0]
  rw [if_pos (by omega), if_pos (by omega), if_pos (by omega), rdR_at h0, attr_f _ h2, Option.bind_some, if_pos (by omega), wrap_succ (by omega) (by omega), drop_at h0, Int.add_zero, h1]
  have := moved_l0 l hl hx d (i + 1) (acc ++ [x]) (by omega) (by simp; omega) k (by omega)
  rw [List.append_assoc] at this
  exact this
theorem moved_f (l : List Rw) (hl : l.length ≤ 200) (hx : ∀ x ∈ l, Okx x) {k : Nat} (hk : 300 < k) : rows_moved.f k l 0 = some l :=
 moved_l0 l hl hx l.length 0 [] (by omega) (by simp) k (by omega)
theorem rmoved_l0 (l : List Rw) (by_ : Int) (hl : l.length ≤ 200) (hx : ∀ x ∈ l, x.f4.length ≤ 50) : ∀ (d i : Nat) (acc : List Rw), i + d = l.length → acc.length ≤ i → ∀ k, d < k →
  boltingref04_Moved.l0 k l by_ acc (i : Int) = some (acc ++ (l.drop i).map fun x => { x with f0 := wrap64 (x.f0 + by_) })
 | 0, i, acc, h, ha, k, hk => by
  obtain ⟨k, rfl⟩ : ∃ m, k = m + 1 := ⟨k - 1, by omega⟩
  simp only [boltingref04_Moved.l0]
  rw [if_neg (by omega), List.drop_of_length_le (by omega), List.map_nil, List.append_nil]
 | d + 1, i, acc, h, ha, k, hk => by
  obtain ⟨k, rfl⟩ : ∃ m, k = m + 1 := ⟨k - 1, by omega⟩
  obtain ⟨x, h0⟩ := get_some (show i < l.length by omega)
  have h2 := hx x (List.mem_of_getElem? h0)
  simp only [boltingref04_Moved.l0]
  rw [if_pos (by omega), if_pos (by omega), rdR_at h0]
  simp only [Option.bind_some, List.length_nil, List.nil_append]
  rw [if_pos (by omega), if_pos (by omega), wrap_succ (by omega) (by omega), drop_at h0, List.map_cons]
  have := rmoved_l0 l by_ hl hx d (i + 1) (acc ++ [{ x with f0 := wrap64 (x.f0 + by_) }]) (by omega) (by simp; omega) k (by omega)
  rw [List.append_assoc] at this
  exact this
theorem rmoved_f (l : List Rw) (by_ : Int) (hl : l.length ≤ 200) (hx : ∀ x ∈ l, x.f4.length ≤ 50) {k : Nat} (hk : 300 < k) : boltingref04_Moved.f k l by_ = some (l.map fun x => { x with f0 := wrap64 (x.f0 + by_) }) :=
 rmoved_l0 l by_ hl hx l.length 0 [] (by omega) (by simp) k (by omega)
theorem rmoved_zero (l : List Rw) (hl : l.length ≤ 200) (hx : ∀ x ∈ l, Okx x) {k : Nat} (hk : 300 < k) : boltingref04_Moved.f k l 0 = some l := by
 rw [rmoved_f l 0 hl (fun x h => (hx x h).2) hk]
 have e : (l.map fun x => ({ x with f0 := wrap64 (x.f0 + 0) } : Rw)) = l := by
  conv => rhs; rw [← List.map_id l]
  refine List.map_congr_left (fun x h => ?_)
  rw [Int.add_zero, (hx x h).1]; rfl
 rw [e]

def tsz : List Rw → Nat
 | [] => 0
 | x :: t => x.f3.size + tsz t
theorem tsz_app : ∀ a b : List Rw, tsz (a ++ b) = tsz a + tsz b
 | [], b => by simp [tsz]
 | x :: t, b => by rw [List.cons_append, tsz, tsz, tsz_app t]; omega
def jz (z : Rw) : List Rw → List Rw
 | [] => [z]
 | y :: t => if z.f1 = 1 ∧ y.f1 = 1 ∧ z.f0 = y.f0 then { z with f3 := z.f3 ++ y.f3 } :: t else z :: y :: t
theorem jz_cons (z y : Rw) (t : List Rw) : jz z (y :: t) = if z.f1 = 1 ∧ y.f1 = 1 ∧ z.f0 = y.f0 then { z with f3 := z.f3 ++ y.f3 } :: t else z :: y :: t := rfl
def joinL (out L : List Rw) : List Rw := match out.getLast? with
 | none => L
 | some z => out.dropLast ++ jz z L
theorem joinL_snoc (o : List Rw) (z : Rw) (L : List Rw) : joinL (o ++ [z]) L = o ++ jz z L := by unfold joinL; rw [List.getLast?_concat, List.dropLast_concat]
theorem joinL_end (out : List Rw) : joinL out [] = out := by
 rcases List.eq_nil_or_concat out with rfl | ⟨o, z, rfl⟩
 ·rfl
 ·rw [List.concat_eq_append, joinL_snoc]; rfl
def nstep (out : List Rw) (x : Rw) : List Rw :=
 if x.f1 = 1 ∧ x.f3.size = 0 then out else match out.getLast? with
  | none => [x]
  | some z => if z.f1 = 1 ∧ x.f1 = 1 ∧ z.f0 = x.f0 then out.dropLast ++ [{ z with f3 := z.f3 ++ x.f3 }] else out ++ [x]
theorem preL_jz (x : Rw) (L : List Rw) : preL x L = if x.f1 = 1 ∧ x.f3.size = 0 then L else jz x L := by
 unfold preL jz
 by_cases h1 : x.f1 = 1
 ·rw [if_pos h1]
  by_cases h2 : x.f3.size = 0
  ·rw [if_pos h2, if_pos ⟨h1, h2⟩]
  ·rw [if_neg h2, if_neg (fun g => h2 g.2)]
   cases L with
   | nil => rfl
   | cons y t =>
    simp only []
    by_cases c : y.f1 = 1 ∧ y.f0 = x.f0
    ·rw [if_pos c, if_pos ⟨h1, c.1, c.2.symm⟩]
    ·rw [if_neg c, if_neg (fun g => c ⟨g.2.1, g.2.2.symm⟩)]
 ·rw [if_neg h1, if_neg (fun g => h1 g.1)]
  cases L with
  | nil => rfl
  | cons y t => simp only []; rw [if_neg (fun g => h1 g.1)]
theorem jz_not {z x : Rw} (h : ¬ (z.f1 = 1 ∧ x.f1 = 1 ∧ z.f0 = x.f0)) (L : List Rw) : jz z (jz x L) = z :: jz x L := by
 cases L with
 | nil => show jz z [x] = _; rw [jz_cons, if_neg h]; rfl
 | cons y t =>
  rw [jz_cons x]
  by_cases c : x.f1 = 1 ∧ y.f1 = 1 ∧ x.f0 = y.f0
  ·rw [if_pos c, jz_cons, if_neg h]
  ·rw [if_neg c, jz_cons, if_neg h]
theorem jz_yes {z x : Rw} (h : z.f1 = 1 ∧ x.f1 = 1 ∧ z.f0 = x.f0) (L : List Rw) : jz z (jz x L) = jz { z with f3 := z.f3 ++ x.f3 } L := by
 cases L with
 | nil => show jz z [x] = [_]; rw [jz_cons, if_pos h]
 | cons y t =>
  rw [jz_cons x, jz_cons { z with f3 := z.f3 ++ x.f3 }]
  by_cases c : x.f1 = 1 ∧ y.f1 = 1 ∧ x.f0 = y.f0
  ·rw [if_pos c, jz_cons, if_pos h, if_pos (show z.f1 = 1 ∧ y.f1 = 1 ∧ z.f0 = y.f0 from ⟨h.1, c.2.1, h.2.2.trans c.2.2⟩)]
   simp only [ByteArray.append_assoc]
  ·rw [if_neg c, jz_cons, if_pos h, if_neg (show ¬ (z.f1 = 1 ∧ y.f1 = 1 ∧ z.f0 = y.f0) from fun g => c ⟨h.2.1, g.2.1, h.2.2.symm.trans g.2.2⟩)]
theorem nstep_join (out : List Rw) (x : Rw) (L : List Rw) : joinL (nstep out x) L = joinL out (preL x L) := by
 rw [preL_jz]
 unfold nstep
 by_cases h : x.f1 = 1 ∧ x.f3.size = 0
 ·rw [if_pos h, if_pos h]
 ·rw [if_neg h, if_neg h]
  rcases List.eq_nil_or_concat out with rfl | ⟨o, z, rfl⟩
  ·show joinL ([] ++ [x]) L = jz x L
   rw [joinL_snoc]; rfl
  ·rw [List.concat_eq_append, List.getLast?_concat, List.dropLast_concat, joinL_snoc]
   simp only []
   by_cases c : z.f1 = 1 ∧ x.f1 = 1 ∧ z.f0 = x.f0
   ·rw [if_pos c, joinL_snoc, jz_yes c]
   ·rw [if_neg c, joinL_snoc, jz_not c, List.append_assoc]; rfl
theorem fold_join : ∀ (l out : List Rw), l.foldl nstep out = joinL out (normL l)
 | [], out => (joinL_end out).symm
 | x :: t, out => by rw [List.foldl_cons, fold_join t, nstep_join, normL]
theorem fold_norm' (l : List Rw) : l.foldl nstep [] = normL l := fold_join l []
theorem nstep_tsz (out : List Rw) (x : Rw) : tsz (nstep out x) ≤ tsz out + x.f3.size := by
 unfold nstep
 split
 ·omega
 ·rcases List.eq_nil_or_concat out with rfl | ⟨o, z, rfl⟩
  ·show tsz [x] ≤ _; simp [tsz]
  ·rw [List.concat_eq_append, List.getLast?_concat, List.dropLast_concat]
   simp only []
   split
   ·rw [tsz_app, tsz_app]
    show tsz o + ((z.f3 ++ x.f3).size + 0) ≤ tsz o + (z.f3.size + 0) + _
    rw [ByteArray.size_append]; omega
   ·rw [tsz_app, tsz_app]
    show tsz o + (z.f3.size + 0) + (x.f3.size + 0) ≤ _
    simp [tsz]
theorem nstep_len (out : List Rw) (x : Rw) : (nstep out x).length ≤ out.length + 1 := by
 unfold nstep
 split
 ·omega
 ·rcases List.eq_nil_or_concat out with rfl | ⟨o, z, rfl⟩
  ·simp
  ·rw [List.concat_eq_append, List.getLast?_concat, List.dropLast_concat]
   simp only []
   split <;> simp
theorem nstep_empty {out : List Rw} {x : Rw} (h : x.f1 = 1 ∧ x.f3.size = 0) : nstep out x = out := by unfold nstep; rw [if_pos h]
theorem nstep_nil {x : Rw} (h : ¬ (x.f1 = 1 ∧ x.f3.size = 0)) : nstep [] x = [x] := by unfold nstep; rw [if_neg h]; rfl
theorem nstep_snoc {o : List Rw} {z x : Rw} (h : ¬ (x.f1 = 1 ∧ x.f3.size = 0)) : nstep (o ++ [z]) x = if z.f1 = 1 ∧ x.f1 = 1 ∧ z.f0 = x.f0 then o ++ [{ z with f3 := z.f3 ++ x.f3 }] else o ++ [z] ++ [x] := by
 unfold nstep
 rw [if_neg h, List.getLast?_concat, List.dropLast_concat]
theorem nstep_code {α : Type} (out : List Rw) (x : Rw) (L : List Rw → Option α) (hs : tsz out + x.f3.size ≤ 9223372036854775807) (hl : out.length < 1954687338268) (A : List Rw → Option α) (hA : A (out ++ [x]) = L (out ++ [x])) :
  (if x.f1 = 1 then (if x.f3.toList = ([] : List UInt8) then L out else (if (out.length : Int) > 0 then (if 0 ≤ (wrap64 ((out.length : Int) - 1)) then (if (wrap64 ((out.length : Int) - 1)) < (out.length : Int) then (if ((rd_T38 out (wrap64 ((out.length : Int) - 1))).f1) = 1 then (if ((rd_T38 out (wrap64 ((out.length : Int) - 1))).f0) = x.f0 then (if ((rd_T38 out (wrap64 ((out.length : Int) - 1))).f3).size + x.f3.size ≤ 9223372036854775807 then (L (out.set ((wrap64 ((out.length : Int) - 1)) : Int).toNat (⟨(rd_T38 out (wrap64 ((out.length : Int) - 1))).f0, (rd_T38 out (wrap64 ((out.length : Int) - 1))).f1, (rd_T38 out (wrap64 ((out.length : Int) - 1))).f2, ((rd_T38 out (wrap64 ((out.length : Int) - 1))).f3) ++ x.f3, (rd_T38 out (wrap64 ((out.length : Int) - 1))).f4⟩ : Rw))) else (none)) else A (out ++ [x])) else A (out ++ [x])) else (none)) else (none)) else A (out ++ [x]))) else A (out ++ [x])) = L (nstep out x) := by
 by_cases h1 : x.f1 = 1
 ·rw [if_pos h1]
  by_cases h2 : x.f3.size = 0
  ·have e : x.f3.toList = [] := by
    rw [Lib.toList_data]
    have e : x.f3.data = #[] := Array.size_eq_zero_iff.1 h2
    rw [e]
   rw [if_pos e, nstep_empty ⟨h1, h2⟩]
  ·have e : ¬ x.f3.toList = [] := fun e => h2 (by
    rw [Lib.toList_data] at e
    have := congrArg List.length e
    simpa using this)
   have hn : ¬ (x.f1 = 1 ∧ x.f3.size = 0) := fun g => h2 g.2
   rw [if_neg e]
   rcases List.eq_nil_or_concat out with rfl | ⟨o, z, rfl⟩
   ·rw [if_neg (by simp), hA, nstep_nil hn]; rfl
   ·rw [List.concat_eq_append] at *
    have hlen : ((o ++ [z]).length : Int) = (o.length : Int) + 1 := by simp
    have hol : o.length < 1954687338268 := by simp at hl; omega
    have hw : wrap64 (((o ++ [z]).length : Int) - 1) = (o.length : Int) := by
     rw [hlen, show (o.length : Int) + 1 - 1 = o.length by omega, wrap_id (by omega) (by omega)]
    have hz : (o ++ [z])[o.length]? = some z := by simp
    have ht : z.f3.size ≤ tsz (o ++ [z]) := by rw [tsz_app]; show _ ≤ tsz o + (z.f3.size + 0); omega
    rw [if_pos (by omega), hw, rdR_at hz, if_pos (by omega), if_pos (by omega), nstep_snoc hn]
    by_cases h3 : z.f1 = 1
    ·rw [if_pos h3]
     by_cases h4 : z.f0 = x.f0
     ·rw [if_pos h4, if_pos (by omega), if_pos ⟨h3, h1, h4⟩, Int.toNat_natCast, List.set_append_right _ _ (Nat.le_refl _)]
      simp
     ·rw [if_neg h4, if_neg (fun g => h4 g.2.2), hA]
    ·rw [if_neg h3, if_neg (fun g => h3 g.1), hA]
 ·have hn : ¬ (x.f1 = 1 ∧ x.f3.size = 0) := fun g => h1 g.1
  rw [if_neg h1, hA]
  rcases List.eq_nil_or_concat out with rfl | ⟨o, z, rfl⟩
  ·rw [nstep_nil hn]; rfl
  ·rw [List.concat_eq_append, nstep_snoc hn, if_neg (fun g => h1 g.2.1)]
theorem normal_l0 (l : List Rw) (hl : l.length ≤ 200) : ∀ (d i : Nat) (out : List Rw), i + d = l.length → out.length ≤ i → tsz out + tsz (l.drop i) ≤ 4000000000000000000 → ∀ k, d < k →
  rows_Normal.l0 k out l (l.length : Int) (i : Int) = some ((l.drop i).foldl nstep out)
 | 0, i, out, h, ho, ht, k, hk => by
  obtain ⟨k, rfl⟩ : ∃ m, k = m + 1 := ⟨k - 1, by omega⟩
  simp only [rows_Normal.l0]
  rw [if_neg (by omega), List.drop_of_length_le (by omega)]; rfl
 | d + 1, i, out, h, ho, ht, k, hk => by
  obtain ⟨k, rfl⟩ : ∃ m, k = m + 1 := ⟨k - 1, by omega⟩
  obtain ⟨x, h0⟩ := get_some (show i < l.length by omega)
  rw [drop_at h0, tsz] at ht
  have h1 := nstep_tsz out x
  have h2 := nstep_len out x
  have ih := normal_l0 l hl d (i + 1) (nstep out x) (by omega) (by omega) (by omega) k (by omega)
  simp only [rows_Normal.l0]
  rw [if_pos (by omega), if_pos (by omega), if_pos (by omega), rdR_at h0, wrap_succ (by omega) (by omega), drop_at h0, List.foldl_cons]
  rw [← ih]
  exact nstep_code out x (fun o => rows_Normal.l0 k o l (l.length : Int) ((i : Int) + 1)) (by omega) (by omega) (fun o => if out.length < 1954687338268 then rows_Normal.l0 k o l (l.length : Int) ((i : Int) + 1) else none) (if_pos (by omega))
theorem normal_f (l : List Rw) (hl : l.length ≤ 200) (hx : ∀ x ∈ l, Okx x) (ht : tsz l ≤ 4000000000000000000) {k : Nat} (hk : 300 < k) : rows_Normal.f k l = some (normL l) := by
 unfold rows_Normal.f
 rw [moved_f l hl hx hk, Option.bind_some]
 have := normal_l0 l hl l.length 0 [] (by omega) (by simp) (by simpa [tsz] using ht) k (by omega)
 rw [List.drop_zero, fold_norm'] at this
 exact this
theorem rnormal_l0 (l : List Rw) (hl : l.length ≤ 200) (hx : ∀ x ∈ l, Okx x) : ∀ (d i : Nat) (out : List Rw), i + d = l.length → out.length ≤ i → tsz out + tsz (l.drop i) ≤ 4000000000000000000 → ∀ k, d + 400 < k →
  boltingref04_Normal.l0 k l out (i : Int) = some ((l.drop i).foldl nstep out)
 | 0, i, out, h, ho, ht, k, hk => by
  obtain ⟨k, rfl⟩ : ∃ m, k = m + 1 := ⟨k - 1, by omega⟩
  simp only [boltingref04_Normal.l0]
  rw [if_neg (by omega), List.drop_of_length_le (by omega)]; rfl
 | d + 1, i, out, h, ho, ht, k, hk => by
  obtain ⟨k, rfl⟩ : ∃ m, k = m + 1 := ⟨k - 1, by omega⟩
  obtain ⟨x, h0⟩ := get_some (show i < l.length by omega)
  rw [drop_at h0, tsz] at ht
  have h1 := nstep_tsz out x
  have h2 := nstep_len out x
  have ih := rnormal_l0 l hl hx d (i + 1) (nstep out x) (by omega) (by omega) (by omega) k (by omega)
  have hone : (l.take (i + 1)).drop i = [x] := by
   rw [take_at h0, List.drop_append_of_le_length (by rw [List.length_take]; omega), List.drop_of_length_le (by rw [List.length_take]; omega)]; rfl
  have hm : boltingref04_Moved.f k ((l.take (i + 1)).drop i) 0 = some [x] := by
   rw [hone]
   exact rmoved_zero [x] (by simp) (fun y hy => by rw [List.mem_singleton] at hy; subst hy; exact hx y (List.mem_of_getElem? h0)) (by omega)
  simp only [boltingref04_Normal.l0]
  rw [if_pos (by omega), if_pos (by omega), wrap_succ (by omega) (by omega), if_pos (by omega), if_pos (by omega), rdR_at h0, show ((i : Int) + 1).toNat = i + 1 by omega, Int.toNat_natCast, hm, Option.bind_some, drop_at h0, List.foldl_cons]
  rw [← ih]
  exact nstep_code out x (fun o => boltingref04_Normal.l0 k l o ((i : Int) + 1)) (by omega) (by omega) (fun o => if out.length + [x].length < 1954687338268 then boltingref04_Normal.l0 k l o ((i : Int) + 1) else none) (if_pos (by simp; omega))
theorem rnormal_f (l : List Rw) (hl : l.length ≤ 200) (hx : ∀ x ∈ l, Okx x) (ht : tsz l ≤ 4000000000000000000) {k : Nat} (hk : 1000 < k) : boltingref04_Normal.f k l = some (normL l) := by
 have := rnormal_l0 l hl hx l.length 0 [] (by omega) (by simp) (by simpa [tsz] using ht) k (by omega)
 rw [List.drop_zero, fold_norm'] at this
 exact this
end Go.Proofs.YticacakoefojbaaGreat.Pure
