/- Texts under the row of HeaderParses (part 4).. -/
import Derived.Test.YthblohknnlkidaaDoorJHeaderParses1
import Derived.Test.YthblohknnlkidaaDoorJHeaderParses3
import Derived.Test.YthblohknnlkidaaDoorJHeaderParses0
import Derived.Test.YthblohknnlkidaaDoorJHeaderParses2
import Derived.Deep.QuietTactic
import Derived.BigQuiet
namespace Go.Proofs.YthblohknnlkidaaDoor.Pr
open Go.RowKit Go.Proofs.YthblohknnlkidaaDoorW.PrintWords Go.Proofs.YthblohknnlkidaaDoorW.PrintLast Go.Proofs.YthblohknnlkidaaDoorW.PrintMore
attribute [local go_sem] max2_int min2_int max_two min_two max_three min_three max_four min_four   -- for this text's walks alone
set_option linter.unusedVariables false
set_option linter.unusedSimpArgs false

/-! ### boltingref15_May: function 23 -/
def boltingref15_May.l0 : Nat → ByteArray → Int → Option (Bool)
  | 0, _, _ => none
  | k + 1, x0, x3 => if x3 < (x0.size : Int) then (if 0 ≤ x3 then (if (bt x0 x3) = 45 then ((boltingref02_Letter.f (bt x0 x3)).bind fun t140 => (if t140 = true then (boltingref15_May.l0 k x0 (wrap64 (x3 + 1))) else (if (bt x0 x3) < 48 then (boltingref15_May.l0 k x0 (wrap64 (x3 + 1))) else (if (bt x0 x3) > 57 then (boltingref15_May.l0 k x0 (wrap64 (x3 + 1))) else (boltingref15_May.l0 k x0 (wrap64 (x3 + 1))))))) else (if (bt x0 x3) = 35 then ((boltingref02_Letter.f (bt x0 x3)).bind fun t141 => (if t141 = true then (boltingref15_May.l0 k x0 (wrap64 (x3 + 1))) else (if (bt x0 x3) < 48 then (boltingref15_May.l0 k x0 (wrap64 (x3 + 1))) else (if (bt x0 x3) > 57 then (boltingref15_May.l0 k x0 (wrap64 (x3 + 1))) else (boltingref15_May.l0 k x0 (wrap64 (x3 + 1))))))) else (if (bt x0 x3) = 61 then ((boltingref02_Letter.f (bt x0 x3)).bind fun t142 => (if t142 = true then (boltingref15_May.l0 k x0 (wrap64 (x3 + 1))) else (if (bt x0 x3) < 48 then (boltingref15_May.l0 k x0 (wrap64 (x3 + 1))) else (if (bt x0 x3) > 57 then (boltingref15_May.l0 k x0 (wrap64 (x3 + 1))) else (boltingref15_May.l0 k x0 (wrap64 (x3 + 1))))))) else (if (bt x0 x3) = 95 then ((boltingref02_Letter.f (bt x0 x3)).bind fun t143 => (if t143 = true then (boltingref15_May.l0 k x0 (wrap64 (x3 + 1))) else (if (bt x0 x3) < 48 then (boltingref15_May.l0 k x0 (wrap64 (x3 + 1))) else (if (bt x0 x3) > 57 then (boltingref15_May.l0 k x0 (wrap64 (x3 + 1))) else (boltingref15_May.l0 k x0 (wrap64 (x3 + 1))))))) else (if (bt x0 x3) = 47 then ((boltingref02_Letter.f (bt x0 x3)).bind fun t144 => (if t144 = true then (boltingref15_May.l0 k x0 (wrap64 (x3 + 1))) else (if (bt x0 x3) < 48 then (boltingref15_May.l0 k x0 (wrap64 (x3 + 1))) else (if (bt x0 x3) > 57 then (boltingref15_May.l0 k x0 (wrap64 (x3 + 1))) else (boltingref15_May.l0 k x0 (wrap64 (x3 + 1))))))) else (if (bt x0 x3) = 64 then ((boltingref02_Letter.f (bt x0 x3)).bind fun t145 => (if t145 = true then (boltingref15_May.l0 k x0 (wrap64 (x3 + 1))) else (if (bt x0 x3) < 48 then (boltingref15_May.l0 k x0 (wrap64 (x3 + 1))) else (if (bt x0 x3) > 57 then (boltingref15_May.l0 k x0 (wrap64 (x3 + 1))) else (boltingref15_May.l0 k x0 (wrap64 (x3 + 1))))))) else (if (bt x0 x3) = 46 then ((boltingref02_Letter.f (bt x0 x3)).bind fun t146 => (if t146 = true then (boltingref15_May.l0 k x0 (wrap64 (x3 + 1))) else (if (bt x0 x3) < 48 then (boltingref15_May.l0 k x0 (wrap64 (x3 + 1))) else (if (bt x0 x3) > 57 then (boltingref15_May.l0 k x0 (wrap64 (x3 + 1))) else (boltingref15_May.l0 k x0 (wrap64 (x3 + 1))))))) else ((boltingref02_Letter.f (bt x0 x3)).bind fun t147 => (if t147 = true then (boltingref15_May.l0 k x0 (wrap64 (x3 + 1))) else (if (bt x0 x3) < 48 then (if ((bt x0 x3) = 37) then (boltingref15_May.l0 k x0 (wrap64 (x3 + 1))) else (some false)) else (if (bt x0 x3) > 57 then (if ((bt x0 x3) = 37) then (boltingref15_May.l0 k x0 (wrap64 (x3 + 1))) else (some false)) else (boltingref15_May.l0 k x0 (wrap64 (x3 + 1)))))))))))))) else (none)) else (some (decide ((x0.size : Int) > 0)))
def boltingref15_May.f (k : Nat) (a0 : ByteArray) : Option (Bool) := boltingref15_May.l0 k a0 0
set_option maxHeartbeats 8000000 in
set_option maxRecDepth 100000 in
theorem boltingref15_May.calls (k : Nat) (a0 : ByteArray) (r : Bool) (w : World) (h : boltingref15_May.f k a0 = some r) :
    Calls Tryd.prog 23 #[.string a0] w fun e w' => e = .returned (.bool r) ∧ Drawn0 w w' := by
  have H : (boltingref15_May.l0 k a0 0) = some r := h
  clear h
  have H' := Aside0.mk H
  clear H
  go_enter Tryd.func23, Tryd.ntmps23
  go_wp2
  go_loopg [3] k (fun kq v3 w' => ∃ (x3_1 : Int), v3 = .int .i64 x3_1 ∧ Aside0 (boltingref15_May.l0 kq a0 x3_1 = some r) ∧ Aside0 (kq ≤ k) ∧ Drawn0 w w')
  case atStart => exact ⟨(0), (by first | rfl | (simp; done) | (simp [*]; done)), H', ⟨Nat.le_refl _⟩, by repeat (first | exact Drawn0.refl _ | apply Drawn0.step)⟩
  case round =>
    clear H'
    obtain ⟨x3_1, rfl, HA, HK1, ⟨m1, rfl⟩⟩ := hrel
    cases gk with
    | zero => exact absurd HA.out (by simp [boltingref15_May.l0])
    | succ k1 =>
      have H := HA.out
      clear HA
      simp only [boltingref15_May.l0] at H
      by_cases c2 : x3_1 < (a0.size : Int)
      · rw [if_pos c2] at H
        have c2b0 : decide (x3_1 < (a0.size : Int)) = true := decide_eq_true c2
        clear c2
        by_cases c3 : 0 ≤ x3_1
        · rw [if_pos c3] at H
          have c3b0 : decide (0 ≤ x3_1) = true := decide_eq_true c3
          clear c3
          by_cases c5 : (bt a0 x3_1) = 45
          · rw [if_pos c5] at H
            have c5b0 : ((bt a0 x3_1) == 45) = true := beq_iff_eq.mpr c5
            have c5b1 : ((bt a0 x3_1) != 45) = false := bne_eq_false_iff_eq.mpr c5
            clear c5
            replace H := Option.bind_eq_some_iff.mp H
            obtain ⟨t140, A60, H⟩ := H
            replace H : (if t140 = true then (boltingref15_May.l0 k1 a0 (wrap64 (x3_1 + 1))) else (if (bt a0 x3_1) < 48 then (boltingref15_May.l0 k1 a0 (wrap64 (x3_1 + 1))) else (if (bt a0 x3_1) > 57 then (boltingref15_May.l0 k1 a0 (wrap64 (x3_1 + 1))) else (boltingref15_May.l0 k1 a0 (wrap64 (x3_1 + 1)))))) = some r := H
            have A6 := Aside0.mk A60
            clear A60
            by_cases c7 : t140 = true
            · subst c7
              have H1 : (boltingref15_May.l0 k1 a0 (wrap64 (x3_1 + 1))) = some r := by rw [if_pos rfl] at H; exact H
              clear H
              have H := H1
              clear H1
              have H' := Aside0.mk H
              clear H
              have p4 : 0 ≤ (x3_1 : Int) := of_decide_eq_true (by first | (with_reducible assumption) | assumption)
              have q4 : x3_1 < (a0.size : Int) := of_decide_eq_true (by first | (with_reducible assumption) | assumption)
              have hx4 := bt_at a0 x3_1
              replace p4 := eq_true p4
              replace q4 := eq_true q4
              go_wp2_with (first | ((with_reducible refine gate_callee (f := 31) rfl ?_); refine goesL_ (some 46) rfl rfl Tryd.func31 (by kernel_rfl) rfl #[.int .u8 (bt a0 x3_1)] rfl (by (try simp only [List.map_toArray, List.map_cons, List.map_nil]); first | done | rfl | (simp only [List.length_drop, List.length_take]; rfl)) ?_; (with_reducible refine (boltingref02_Letter.calls (bt a0 x3_1) true _ A6.out).mono ?_); rintro e w' ⟨rfl, ⟨nd, rfl⟩⟩; refine ⟨_, rfl, ?_⟩))
              go_roundg k1
              case measure => have := HK1.out; omega
              case rel => exact ⟨(wrap64 (x3_1 + 1)), (by first | rfl | (simp; done) | (simp [*]; done)), H', ⟨by have := HK1.out; omega⟩, by repeat (first | exact Drawn0.refl _ | apply Drawn0.step)⟩
            · replace c7 := Bool.eq_false_iff.mpr c7
              subst c7
              have H1 : (if (bt a0 x3_1) < 48 then (boltingref15_May.l0 k1 a0 (wrap64 (x3_1 + 1))) else (if (bt a0 x3_1) > 57 then (boltingref15_May.l0 k1 a0 (wrap64 (x3_1 + 1))) else (boltingref15_May.l0 k1 a0 (wrap64 (x3_1 + 1))))) = some r := by rw [if_neg (show ¬ (false = true) by decide)] at H; exact H
              clear H
              have H := H1
              clear H1
              by_cases c8 : (bt a0 x3_1) < 48
              · rw [if_pos c8] at H
                have c8b0 : decide ((bt a0 x3_1) < 48) = true := decide_eq_true c8
                clear c8
                have H' := Aside0.mk H
                clear H
                have p4 : 0 ≤ (x3_1 : Int) := of_decide_eq_true (by first | (with_reducible assumption) | assumption)
                have q4 : x3_1 < (a0.size : Int) := of_decide_eq_true (by first | (with_reducible assumption) | assumption)
                have hx4 := bt_at a0 x3_1
                replace p4 := eq_true p4
                replace q4 := eq_true q4
                go_wp2_with (first | ((with_reducible refine gate_callee (f := 31) rfl ?_); refine goesL_ (some 46) rfl rfl Tryd.func31 (by kernel_rfl) rfl #[.int .u8 (bt a0 x3_1)] rfl (by (try simp only [List.map_toArray, List.map_cons, List.map_nil]); first | done | rfl | (simp only [List.length_drop, List.length_take]; rfl)) ?_; (with_reducible refine (boltingref02_Letter.calls (bt a0 x3_1) false _ A6.out).mono ?_); rintro e w' ⟨rfl, ⟨nd, rfl⟩⟩; refine ⟨_, rfl, ?_⟩))
                go_roundg k1
                case measure => have := HK1.out; omega
                case rel => exact ⟨(wrap64 (x3_1 + 1)), (by first | rfl | (simp; done) | (simp [*]; done)), H', ⟨by have := HK1.out; omega⟩, by repeat (first | exact Drawn0.refl _ | apply Drawn0.step)⟩
              · rw [if_neg c8] at H
                have c8b0 : decide ((bt a0 x3_1) < 48) = false := decide_eq_false c8
                clear c8
                by_cases c9 : (bt a0 x3_1) > 57
                · rw [if_pos c9] at H
                  have c9b0 : decide (57 < (bt a0 x3_1)) = true := decide_eq_true c9
                  clear c9
                  have H' := Aside0.mk H
                  clear H
                  have p4 : 0 ≤ (x3_1 : Int) := of_decide_eq_true (by first | (with_reducible assumption) | assumption)
                  have q4 : x3_1 < (a0.size : Int) := of_decide_eq_true (by first | (with_reducible assumption) | assumption)
                  have hx4 := bt_at a0 x3_1
                  replace p4 := eq_true p4
                  replace q4 := eq_true q4
                  go_wp2_with (first | ((with_reducible refine gate_callee (f := 31) rfl ?_); refine goesL_ (some 46) rfl rfl Tryd.func31 (by kernel_rfl) rfl #[.int .u8 (bt a0 x3_1)] rfl (by (try simp only [List.map_toArray, List.map_cons, List.map_nil]); first | done | rfl | (simp only [List.length_drop, List.length_take]; rfl)) ?_; (with_reducible refine (boltingref02_Letter.calls (bt a0 x3_1) false _ A6.out).mono ?_); rintro e w' ⟨rfl, ⟨nd, rfl⟩⟩; refine ⟨_, rfl, ?_⟩))
                  go_roundg k1
                  case measure => have := HK1.out; omega
                  case rel => exact ⟨(wrap64 (x3_1 + 1)), (by first | rfl | (simp; done) | (simp [*]; done)), H', ⟨by have := HK1.out; omega⟩, by repeat (first | exact Drawn0.refl _ | apply Drawn0.step)⟩
                · rw [if_neg c9] at H
                  have c9b0 : decide (57 < (bt a0 x3_1)) = false := decide_eq_false c9
                  clear c9
                  have H' := Aside0.mk H
                  clear H
                  have p4 : 0 ≤ (x3_1 : Int) := of_decide_eq_true (by first | (with_reducible assumption) | assumption)
                  have q4 : x3_1 < (a0.size : Int) := of_decide_eq_true (by first | (with_reducible assumption) | assumption)
                  have hx4 := bt_at a0 x3_1
                  replace p4 := eq_true p4
                  replace q4 := eq_true q4
                  go_wp2_with (first | ((with_reducible refine gate_callee (f := 31) rfl ?_); refine goesL_ (some 46) rfl rfl Tryd.func31 (by kernel_rfl) rfl #[.int .u8 (bt a0 x3_1)] rfl (by (try simp only [List.map_toArray, List.map_cons, List.map_nil]); first | done | rfl | (simp only [List.length_drop, List.length_take]; rfl)) ?_; (with_reducible refine (boltingref02_Letter.calls (bt a0 x3_1) false _ A6.out).mono ?_); rintro e w' ⟨rfl, ⟨nd, rfl⟩⟩; refine ⟨_, rfl, ?_⟩))
                  go_roundg k1
                  case measure => have := HK1.out; omega
                  case rel => exact ⟨(wrap64 (x3_1 + 1)), (by first | rfl | (simp; done) | (simp [*]; done)), H', ⟨by have := HK1.out; omega⟩, by repeat (first | exact Drawn0.refl _ | apply Drawn0.step)⟩
          · rw [if_neg c5] at H
            have c5b0 : ((bt a0 x3_1) == 45) = false := beq_eq_false_iff_ne.mpr c5
            have c5b1 : ((bt a0 x3_1) != 45) = true := bne_iff_ne.mpr c5
            by_cases c10 : (bt a0 x3_1) = 35
            · rw [if_pos c10] at H
              have c10b0 : ((bt a0 x3_1) == 35) = true := beq_iff_eq.mpr c10
              have c10b1 : ((bt a0 x3_1) != 35) = false := bne_eq_false_iff_eq.mpr c10
              clear c10
              replace H := Option.bind_eq_some_iff.mp H
              obtain ⟨t141, A110, H⟩ := H
              replace H : (if t141 = true then (boltingref15_May.l0 k1 a0 (wrap64 (x3_1 + 1))) else (if (bt a0 x3_1) < 48 then (boltingref15_May.l0 k1 a0 (wrap64 (x3_1 + 1))) else (if (bt a0 x3_1) > 57 then (boltingref15_May.l0 k1 a0 (wrap64 (x3_1 + 1))) else (boltingref15_May.l0 k1 a0 (wrap64 (x3_1 + 1)))))) = some r := H
              have A11 := Aside0.mk A110
              clear A110
              by_cases c12 : t141 = true
              · subst c12
                have H1 : (boltingref15_May.l0 k1 a0 (wrap64 (x3_1 + 1))) = some r := by rw [if_pos rfl] at H; exact H
                clear H
                have H := H1
                clear H1
                have H' := Aside0.mk H
                clear H
                have p4 : 0 ≤ (x3_1 : Int) := of_decide_eq_true (by first | (with_reducible assumption) | assumption)
                have q4 : x3_1 < (a0.size : Int) := of_decide_eq_true (by first | (with_reducible assumption) | assumption)
                have hx4 := bt_at a0 x3_1
                replace p4 := eq_true p4
                replace q4 := eq_true q4
                go_wp2_with (first | ((with_reducible refine gate_callee (f := 31) rfl ?_); refine goesL_ (some 46) rfl rfl Tryd.func31 (by kernel_rfl) rfl #[.int .u8 (bt a0 x3_1)] rfl (by (try simp only [List.map_toArray, List.map_cons, List.map_nil]); first | done | rfl | (simp only [List.length_drop, List.length_take]; rfl)) ?_; (with_reducible refine (boltingref02_Letter.calls (bt a0 x3_1) true _ A11.out).mono ?_); rintro e w' ⟨rfl, ⟨nd, rfl⟩⟩; refine ⟨_, rfl, ?_⟩))
                go_roundg k1
                case measure => have := HK1.out; omega
                case rel => exact ⟨(wrap64 (x3_1 + 1)), (by first | rfl | (simp; done) | (simp [*]; done)), H', ⟨by have := HK1.out; omega⟩, by repeat (first | exact Drawn0.refl _ | apply Drawn0.step)⟩
              · replace c12 := Bool.eq_false_iff.mpr c12
                subst c12
                have H1 : (if (bt a0 x3_1) < 48 then (boltingref15_May.l0 k1 a0 (wrap64 (x3_1 + 1))) else (if (bt a0 x3_1) > 57 then (boltingref15_May.l0 k1 a0 (wrap64 (x3_1 + 1))) else (boltingref15_May.l0 k1 a0 (wrap64 (x3_1 + 1))))) = some r := by rw [if_neg (show ¬ (false = true) by decide)] at H; exact H
                clear H
                have H := H1
                clear H1
                by_cases c13 : (bt a0 x3_1) < 48
                · rw [if_pos c13] at H
                  have c13b0 : decide ((bt a0 x3_1) < 48) = true := decide_eq_true c13
                  clear c13
                  have H' := Aside0.mk H
                  clear H
                  have p4 : 0 ≤ (x3_1 : Int) := of_decide_eq_true (by first | (with_reducible assumption) | assumption)
                  have q4 : x3_1 < (a0.size : Int) := of_decide_eq_true (by first | (with_reducible assumption) | assumption)
                  have hx4 := bt_at a0 x3_1
                  replace p4 := eq_true p4
                  replace q4 := eq_true q4
                  go_wp2_with (first | ((with_reducible refine gate_callee (f := 31) rfl ?_); refine goesL_ (some 46) rfl rfl Tryd.func31 (by kernel_rfl) rfl #[.int .u8 (bt a0 x3_1)] rfl (by (try simp only [List.map_toArray, List.map_cons, List.map_nil]); first | done | rfl | (simp only [List.length_drop, List.length_take]; rfl)) ?_; (with_reducible refine (boltingref02_Letter.calls (bt a0 x3_1) false _ A11.out).mono ?_); rintro e w' ⟨rfl, ⟨nd, rfl⟩⟩; refine ⟨_, rfl, ?_⟩))
                  go_roundg k1
                  case measure => have := HK1.out; omega
                  case rel => exact ⟨(wrap64 (x3_1 + 1)), (by first | rfl | (simp; done) | (simp [*]; done)), H', ⟨by have := HK1.out; omega⟩, by repeat (first | exact Drawn0.refl _ | apply Drawn0.step)⟩
                · rw [if_neg c13] at H
                  have c13b0 : decide ((bt a0 x3_1) < 48) = false := decide_eq_false c13
                  clear c13
                  by_cases c14 : (bt a0 x3_1) > 57
                  · rw [if_pos c14] at H
                    have c14b0 : decide (57 < (bt a0 x3_1)) = true := decide_eq_true c14
                    clear c14
                    have H' := Aside0.mk H
                    clear H
                    have p4 : 0 ≤ (x3_1 : Int) := of_decide_eq_true (by first | (with_reducible assumption) | assumption)
                    have q4 : x3_1 < (a0.size : Int) := of_decide_eq_true (by first | (with_reducible assumption) | assumption)
                    have hx4 := bt_at a0 x3_1
                    replace p4 := eq_true p4
                    replace q4 := eq_true q4
                    go_wp2_with (first | ((with_reducible refine gate_callee (f := 31) rfl ?_); refine goesL_ (some 46) rfl rfl Tryd.func31 (by kernel_rfl) rfl #[.int .u8 (bt a0 x3_1)] rfl (by (try simp only [List.map_toArray, List.map_cons, List.map_nil]); first | done | rfl | (simp only [List.length_drop, List.length_take]; rfl)) ?_; (with_reducible refine (boltingref02_Letter.calls (bt a0 x3_1) false _ A11.out).mono ?_); rintro e w' ⟨rfl, ⟨nd, rfl⟩⟩; refine ⟨_, rfl, ?_⟩))
                    go_roundg k1
                    case measure => have := HK1.out; omega
                    case rel => exact ⟨(wrap64 (x3_1 + 1)), (by first | rfl | (simp; done) | (simp [*]; done)), H', ⟨by have := HK1.out; omega⟩, by repeat (first | exact Drawn0.refl _ | apply Drawn0.step)⟩
                  · rw [if_neg c14] at H
                    have c14b0 : decide (57 < (bt a0 x3_1)) = false := decide_eq_false c14
                    clear c14
                    have H' := Aside0.mk H
                    clear H
                    have p4 : 0 ≤ (x3_1 : Int) := of_decide_eq_true (by first | (with_reducible assumption) | assumption)
                    have q4 : x3_1 < (a0.size : Int) := of_decide_eq_true (by first | (with_reducible assumption) | assumption)
                    have hx4 := bt_at a0 x3_1
                    replace p4 := eq_true p4
                    replace q4 := eq_true q4
                    go_wp2_with (first | ((with_reducible refine gate_callee (f := 31) rfl ?_); refine goesL_ (some 46) rfl rfl Tryd.func31 (by kernel_rfl) rfl #[.int .u8 (bt a0 x3_1)] rfl (by (try simp only [List.map_toArray, List.map_cons, List.map_nil]); first | done | rfl | (simp only [List.length_drop, List.length_take]; rfl)) ?_; (with_reducible refine (boltingref02_Letter.calls (bt a0 x3_1) false _ A11.out).mono ?_); rintro e w' ⟨rfl, ⟨nd, rfl⟩⟩; refine ⟨_, rfl, ?_⟩))
                    go_roundg k1
                    case measure => have := HK1.out; omega
                    case rel => exact ⟨(wrap64 (x3_1 + 1)), (by first | rfl | (simp; done) | (simp [*]; done)), H', ⟨by have := HK1.out; omega⟩, by repeat (first | exact Drawn0.refl _ | apply Drawn0.step)⟩
            · rw [if_neg c10] at H
              have c10b0 : ((bt a0 x3_1) == 35) = false := beq_eq_false_iff_ne.mpr c10
              have c10b1 : ((bt a0 x3_1) != 35) = true := bne_iff_ne.mpr c10
              by_cases c15 : (bt a0 x3_1) = 61
              · rw [if_pos c15] at H
                have c15b0 : ((bt a0 x3_1) == 61) = true := beq_iff_eq.mpr c15
                have c15b1 : ((bt a0 x3_1) != 61) = false := bne_eq_false_iff_eq.mpr c15
                clear c15
                replace H := Option.bind_eq_some_iff.mp H
                obtain ⟨t142, A160, H⟩ := H
                replace H : (if t142 = true then (boltingref15_May.l0 k1 a0 (wrap64 (x3_1 + 1))) else (if (bt a0 x3_1) < 48 then (boltingref15_May.l0 k1 a0 (wrap64 (x3_1 + 1))) else (if (bt a0 x3_1) > 57 then (boltingref15_May.l0 k1 a0 (wrap64 (x3_1 + 1))) else (boltingref15_May.l0 k1 a0 (wrap64 (x3_1 + 1)))))) = some r := H
                have A16 := Aside0.mk A160
                clear A160
                by_cases c17 : t142 = true
                · subst c17
                  have H1 : (boltingref15_May.l0 k1 a0 (wrap64 (x3_1 + 1))) = some r := by rw [if_pos rfl] at H; exact H
                  clear H
                  have H := H1
                  clear H1
                  have H' := Aside0.mk H
                  clear H
                  have p4 : 0 ≤ (x3_1 : Int) := of_decide_eq_true (by first | (with_reducible assumption) | assumption)
                  have q4 : x3_1 < (a0.size : Int) := of_decide_eq_true (by first | (with_reducible assumption) | assumption)
                  have hx4 := bt_at a0 x3_1
                  replace p4 := eq_true p4
                  replace q4 := eq_true q4
                  go_wp2_with (first | ((with_reducible refine gate_callee (f := 31) rfl ?_); refine goesL_ (some 46) rfl rfl Tryd.func31 (by kernel_rfl) rfl #[.int .u8 (bt a0 x3_1)] rfl (by (try simp only [List.map_toArray, List.map_cons, List.map_nil]); first | done | rfl | (simp only [List.length_drop, List.length_take]; rfl)) ?_; (with_reducible refine (boltingref02_Letter.calls (bt a0 x3_1) true _ A16.out).mono ?_); rintro e w' ⟨rfl, ⟨nd, rfl⟩⟩; refine ⟨_, rfl, ?_⟩))
                  go_roundg k1
                  case measure => have := HK1.out; omega
                  case rel => exact ⟨(wrap64 (x3_1 + 1)), (by first | rfl | (simp; done) | (simp [*]; done)), H', ⟨by have := HK1.out; omega⟩, by repeat (first | exact Drawn0.refl _ | apply Drawn0.step)⟩
                · replace c17 := Bool.eq_false_iff.mpr c17
                  subst c17
                  have H1 : (if (bt a0 x3_1) < 48 then (boltingref15_May.l0 k1 a0 (wrap64 (x3_1 + 1))) else (if (bt a0 x3_1) > 57 then (boltingref15_May.l0 k1 a0 (wrap64 (x3_1 + 1))) else (boltingref15_May.l0 k1 a0 (wrap64 (x3_1 + 1))))) = some r := by rw [if_neg (show ¬ (false = true) by decide)] at H; exact H
                  clear H
                  have H := H1
                  clear H1
                  by_cases c18 : (bt a0 x3_1) < 48
                  · rw [if_pos c18] at H
                    have c18b0 : decide ((bt a0 x3_1) < 48) = true := decide_eq_true c18
                    clear c18
                    have H' := Aside0.mk H
                    clear H
                    have p4 : 0 ≤ (x3_1 : Int) := of_decide_eq_true (by first | (with_reducible assumption) | assumption)
                    have q4 : x3_1 < (a0.size : Int) := of_decide_eq_true (by first | (with_reducible assumption) | assumption)
                    have hx4 := bt_at a0 x3_1
                    replace p4 := eq_true p4
                    replace q4 := eq_true q4
                    go_wp2_with (first | ((with_reducible refine gate_callee (f := 31) rfl ?_); refine goesL_ (some 46) rfl rfl Tryd.func31 (by kernel_rfl) rfl #[.int .u8 (bt a0 x3_1)] rfl (by (try simp only [List.map_toArray, List.map_cons, List.map_nil]); first | done | rfl | (simp only [List.length_drop, List.length_take]; rfl)) ?_; (with_reducible refine (boltingref02_Letter.calls (bt a0 x3_1) false _ A16.out).mono ?_); rintro e w' ⟨rfl, ⟨nd, rfl⟩⟩; refine ⟨_, rfl, ?_⟩))
                    go_roundg k1
                    case measure => have := HK1.out; omega
                    case rel => exact ⟨(wrap64 (x3_1 + 1)), (by first | rfl | (simp; done) | (simp [*]; done)), H', ⟨by have := HK1.out; omega⟩, by repeat (first | exact Drawn0.refl _ | apply Drawn0.step)⟩
                  · rw [if_neg c18] at H
                    have c18b0 : decide ((bt a0 x3_1) < 48) = false := decide_eq_false c18
                    clear c18
                    by_cases c19 : (bt a0 x3_1) > 57
                    · rw [if_pos c19] at H
                      have c19b0 : decide (57 < (bt a0 x3_1)) = true := decide_eq_true c19
                      clear c19
                      have H' := Aside0.mk H
                      clear H
                      have p4 : 0 ≤ (x3_1 : Int) := of_decide_eq_true (by first | (with_reducible assumption) | assumption)
                      have q4 : x3_1 < (a0.size : Int) := of_decide_eq_true (by first | (with_reducible assumption) | assumption)
                      have hx4 := bt_at a0 x3_1
                      replace p4 := eq_true p4
                      replace q4 := eq_true q4
                      go_wp2_with (first | ((with_reducible refine gate_callee (f := 31) rfl ?_); refine goesL_ (some 46) rfl rfl Tryd.func31 (by kernel_rfl) rfl #[.int .u8 (bt a0 x3_1)] rfl (by (try simp only [List.map_toArray, List.map_cons, List.map_nil]); first | done | rfl | (simp only [List.length_drop, List.length_take]; rfl)) ?_; (with_reducible refine (boltingref02_Letter.calls (bt a0 x3_1) false _ A16.out).mono ?_); rintro e w' ⟨rfl, ⟨nd, rfl⟩⟩; refine ⟨_, rfl, ?_⟩))
                      go_roundg k1
                      case measure => have := HK1.out; omega
                      case rel => exact ⟨(wrap64 (x3_1 + 1)), (by first | rfl | (simp; done) | (simp [*]; done)), H', ⟨by have := HK1.out; omega⟩, by repeat (first | exact Drawn0.refl _ | apply Drawn0.step)⟩
                    · rw [if_neg c19] at H
                      have c19b0 : decide (57 < (bt a0 x3_1)) = false := decide_eq_false c19
                      clear c19
                      have H' := Aside0.mk H
                      clear H
                      have p4 : 0 ≤ (x3_1 : Int) := of_decide_eq_true (by first | (with_reducible assumption) | assumption)
                      have q4 : x3_1 < (a0.size : Int) := of_decide_eq_true (by first | (with_reducible assumption) | assumption)
                      have hx4 := bt_at a0 x3_1
                      replace p4 := eq_true p4
                      replace q4 := eq_true q4
                      go_wp2_with (first | ((with_reducible refine gate_callee (f := 31) rfl ?_); refine goesL_ (some 46) rfl rfl Tryd.func31 (by kernel_rfl) rfl #[.int .u8 (bt a0 x3_1)] rfl (by (try simp only [List.map_toArray, List.map_cons, List.map_nil]); first | done | rfl | (simp only [List.length_drop, List.length_take]; rfl)) ?_; (with_reducible refine (boltingref02_Letter.calls (bt a0 x3_1) false _ A16.out).mono ?_); rintro e w' ⟨rfl, ⟨nd, rfl⟩⟩; refine ⟨_, rfl, ?_⟩))
                      go_roundg k1
                      case measure => have := HK1.out; omega
                      case rel => exact ⟨(wrap64 (x3_1 + 1)), (by first | rfl | (simp; done) | (simp [*]; done)), H', ⟨by have := HK1.out; omega⟩, by repeat (first | exact Drawn0.refl _ | apply Drawn0.step)⟩
              · rw [if_neg c15] at H
                have c15b0 : ((bt a0 x3_1) == 61) = false := beq_eq_false_iff_ne.mpr c15
                have c15b1 : ((bt a0 x3_1) != 61) = true := bne_iff_ne.mpr c15
                by_cases c20 : (bt a0 x3_1) = 95
                · rw [if_pos c20] at H
                  have c20b0 : ((bt a0 x3_1) == 95) = true := beq_iff_eq.mpr c20
                  have c20b1 : ((bt a0 x3_1) != 95) = false := bne_eq_false_iff_eq.mpr c20
                  clear c20
                  replace H := Option.bind_eq_some_iff.mp H
                  obtain ⟨t143, A210, H⟩ := H
                  replace H : (if t143 = true then (boltingref15_May.l0 k1 a0 (wrap64 (x3_1 + 1))) else (if (bt a0 x3_1) < 48 then (boltingref15_May.l0 k1 a0 (wrap64 (x3_1 + 1))) else (if (bt a0 x3_1) > 57 then (boltingref15_May.l0 k1 a0 (wrap64 (x3_1 + 1))) else (boltingref15_May.l0 k1 a0 (wrap64 (x3_1 + 1)))))) = some r := H
                  have A21 := Aside0.mk A210
                  clear A210
                  by_cases c22 : t143 = true
                  · subst c22
                    have H1 : (boltingref15_May.l0 k1 a0 (wrap64 (x3_1 + 1))) = some r := by rw [if_pos rfl] at H; exact H
                    clear H
                    have H := H1
                    clear H1
                    have H' := Aside0.mk H
                    clear H
                    have p4 : 0 ≤ (x3_1 : Int) := of_decide_eq_true (by first | (with_reducible assumption) | assumption)
                    have q4 : x3_1 < (a0.size : Int) := of_decide_eq_true (by first | (with_reducible assumption) | assumption)
                    have hx4 := bt_at a0 x3_1
                    replace p4 := eq_true p4
                    replace q4 := eq_true q4
                    go_wp2_with (first | ((with_reducible refine gate_callee (f := 31) rfl ?_); refine goesL_ (some 46) rfl rfl Tryd.func31 (by kernel_rfl) rfl #[.int .u8 (bt a0 x3_1)] rfl (by (try simp only [List.map_toArray, List.map_cons, List.map_nil]); first | done | rfl | (simp only [List.length_drop, List.length_take]; rfl)) ?_; (with_reducible refine (boltingref02_Letter.calls (bt a0 x3_1) true _ A21.out).mono ?_); rintro e w' ⟨rfl, ⟨nd, rfl⟩⟩; refine ⟨_, rfl, ?_⟩))
                    go_roundg k1
                    case measure => have := HK1.out; omega
                    case rel => exact ⟨(wrap64 (x3_1 + 1)), (by first | rfl | (simp; done) | (simp [*]; done)), H', ⟨by have := HK1.out; omega⟩, by repeat (first | exact Drawn0.refl _ | apply Drawn0.step)⟩
                  · replace c22 := Bool.eq_false_iff.mpr c22
                    subst c22
                    have H1 : (if (bt a0 x3_1) < 48 then (boltingref15_May.l0 k1 a0 (wrap64 (x3_1 + 1))) else (if (bt a0 x3_1) > 57 then (boltingref15_May.l0 k1 a0 (wrap64 (x3_1 + 1))) else (boltingref15_May.l0 k1 a0 (wrap64 (x3_1 + 1))))) = some r := by rw [if_neg (show ¬ (false = true) by decide)] at H; exact H
                    clear H
                    have H := H1
                    clear H1
                    by_cases c23 : (bt a0 x3_1) < 48
                    · rw [if_pos c23] at H
                      have c23b0 : decide ((bt a0 x3_1) < 48) = true := decide_eq_true c23
                      clear c23
                      have H' := Aside0.mk H
                      clear H
                      have p4 : 0 ≤ (x3_1 : Int) := of_decide_eq_true (by first | (with_reducible assumption) | assumption)
                      have q4 : x3_1 < (a0.size : Int) := of_decide_eq_true (by first | (with_reducible assumption) | assumption)
                      have hx4 := bt_at a0 x3_1
                      replace p4 := eq_true p4
                      replace q4 := eq_true q4
                      go_wp2_with (first | ((with_reducible refine gate_callee (f := 31) rfl ?_); refine goesL_ (some 46) rfl rfl Tryd.func31 (by kernel_rfl) rfl #[.int .u8 (bt a0 x3_1)] rfl (by (try simp only [List.map_toArray, List.map_cons, List.map_nil]); first | done | rfl | (simp only [List.length_drop, List.length_take]; rfl)) ?_; (with_reducible refine (boltingref02_Letter.calls (bt a0 x3_1) false _ A21.out).mono ?_); rintro e w' ⟨rfl, ⟨nd, rfl⟩⟩; refine ⟨_, rfl, ?_⟩))
                      go_roundg k1
                      case measure => have := HK1.out; omega
                      case rel => exact ⟨(wrap64 (x3_1 + 1)), (by first | rfl | (simp; done) | (simp [*]; done)), H', ⟨by have := HK1.out; omega⟩, by repeat (first | exact Drawn0.refl _ | apply Drawn0.step)⟩
                    · rw [if_neg c23] at H
                      have c23b0 : decide ((bt a0 x3_1) < 48) = false := decide_eq_false c23
                      clear c23
                      by_cases c24 : (bt a0 x3_1) > 57
                      · rw [if_pos c24] at H
                        have c24b0 : decide (57 < (bt a0 x3_1)) = true := decide_eq_true c24
                        clear c24
                        have H' := Aside0.mk H
                        clear H
                        have p4 : 0 ≤ (x3_1 : Int) := of_decide_eq_true (by first | (with_reducible assumption) | assumption)
                        have q4 : x3_1 < (a0.size : Int) := of_decide_eq_true (by first | (with_reducible assumption) | assumption)
                        have hx4 := bt_at a0 x3_1
                        replace p4 := eq_true p4
                        replace q4 := eq_true q4
                        go_wp2_with (first | ((with_reducible refine gate_callee (f := 31) rfl ?_); refine goesL_ (some 46) rfl rfl Tryd.func31 (by kernel_rfl) rfl #[.int .u8 (bt a0 x3_1)] rfl (by (try simp only [List.map_toArray, List.map_cons, List.map_nil]); first | done | rfl | (simp only [List.length_drop, List.length_take]; rfl)) ?_; (with_reducible refine (boltingref02_Letter.calls (bt a0 x3_1) false _ A21.out).mono ?_); rintro e w' ⟨rfl, ⟨nd, rfl⟩⟩; refine ⟨_, rfl, ?_⟩))
                        go_roundg k1
                        case measure => have := HK1.out; omega
                        case rel => exact ⟨(wrap64 (x3_1 + 1)), (by first | rfl | (simp; done) | (simp [*]; done)), H', ⟨by have := HK1.out; omega⟩, by repeat (first | exact Drawn0.refl _ | apply Drawn0.step)⟩
                      · rw [if_neg c24] at H
                        have c24b0 : decide (57 < (bt a0 x3_1)) = false := decide_eq_false c24
                        clear c24
                        have H' := Aside0.mk H
                        clear H
                        have p4 : 0 ≤ (x3_1 : Int) := of_decide_eq_true (by first | (with_reducible assumption) | assumption)
                        have q4 : x3_1 < (a0.size : Int) := of_decide_eq_true (by first | (with_reducible assumption) | assumption)
                        have hx4 := bt_at a0 x3_1
                        replace p4 := eq_true p4
                        replace q4 := eq_true q4
                        go_wp2_with (first | ((with_reducible refine gate_callee (f := 31) rfl ?_); refine goesL_ (some 46) rfl rfl Tryd.func31 (by kernel_rfl) rfl #[.int .u8 (bt a0 x3_1)] rfl (by (try simp only [List.map_toArray, List.map_cons, List.map_nil]); first | done | rfl | (simp only [List.length_drop, List.length_take]; rfl)) ?_; (with_reducible refine (boltingref02_Letter.calls (bt a0 x3_1) false _ A21.out).mono ?_); rintro e w' ⟨rfl, ⟨nd, rfl⟩⟩; refine ⟨_, rfl, ?_⟩))
                        go_roundg k1
                        case measure => have := HK1.out; omega
                        case rel => exact ⟨(wrap64 (x3_1 + 1)), (by first | rfl | (simp; done) | (simp [*]; done)), H', ⟨by have := HK1.out; omega⟩, by repeat (first | exact Drawn0.refl _ | apply Drawn0.step)⟩
                · rw [if_neg c20] at H
                  have c20b0 : ((bt a0 x3_1) == 95) = false := beq_eq_false_iff_ne.mpr c20
                  have c20b1 : ((bt a0 x3_1) != 95) = true := bne_iff_ne.mpr c20
                  by_cases c25 : (bt a0 x3_1) = 47
                  · rw [if_pos c25] at H
                    have c25b0 : ((bt a0 x3_1) == 47) = true := beq_iff_eq.mpr c25
                    have c25b1 : ((bt a0 x3_1) != 47) = false := bne_eq_false_iff_eq.mpr c25
                    clear c25
                    replace H := Option.bind_eq_some_iff.mp H
                    obtain ⟨t144, A260, H⟩ := H
                    replace H : (if t144 = true then (boltingref15_May.l0 k1 a0 (wrap64 (x3_1 + 1))) else (if (bt a0 x3_1) < 48 then (boltingref15_May.l0 k1 a0 (wrap64 (x3_1 + 1))) else (if (bt a0 x3_1) > 57 then (boltingref15_May.l0 k1 a0 (wrap64 (x3_1 + 1))) else (boltingref15_May.l0 k1 a0 (wrap64 (x3_1 + 1)))))) = some r := H
                    have A26 := Aside0.mk A260
                    clear A260
                    by_cases c27 : t144 = true
                    · subst c27
                      have H1 : (boltingref15_May.l0 k1 a0 (wrap64 (x3_1 + 1))) = some r := by rw [if_pos rfl] at H; exact H
                      clear H
                      have H := H1
                      clear H1
                      have H' := Aside0.mk H
                      clear H
                      have p4 : 0 ≤ (x3_1 : Int) := of_decide_eq_true (by first | (with_reducible assumption) | assumption)
                      have q4 : x3_1 < (a0.size : Int) := of_decide_eq_true (by first | (with_reducible assumption) | assumption)
                      have hx4 := bt_at a0 x3_1
                      replace p4 := eq_true p4
                      replace q4 := eq_true q4
                      go_wp2_with (first | ((with_reducible refine gate_callee (f := 31) rfl ?_); refine goesL_ (some 46) rfl rfl Tryd.func31 (by kernel_rfl) rfl #[.int .u8 (bt a0 x3_1)] rfl (by (try simp only [List.map_toArray, List.map_cons, List.map_nil]); first | done | rfl | (simp only [List.length_drop, List.length_take]; rfl)) ?_; (with_reducible refine (boltingref02_Letter.calls (bt a0 x3_1) true _ A26.out).mono ?_); rintro e w' ⟨rfl, ⟨nd, rfl⟩⟩; refine ⟨_, rfl, ?_⟩))
                      go_roundg k1
                      case measure => have := HK1.out; omega
                      case rel => exact ⟨(wrap64 (x3_1 + 1)), (by first | rfl | (simp; done) | (simp [*]; done)), H', ⟨by have := HK1.out; omega⟩, by repeat (first | exact Drawn0.refl _ | apply Drawn0.step)⟩
                    · replace c27 := Bool.eq_false_iff.mpr c27
                      subst c27
                      have H1 : (if (bt a0 x3_1) < 48 then (boltingref15_May.l0 k1 a0 (wrap64 (x3_1 + 1))) else (if (bt a0 x3_1) > 57 then (boltingref15_May.l0 k1 a0 (wrap64 (x3_1 + 1))) else (boltingref15_May.l0 k1 a0 (wrap64 (x3_1 + 1))))) = some r := by rw [if_neg (show ¬ (false = true) by decide)] at H; exact H
                      clear H
                      have H := H1
                      clear H1
                      by_cases c28 : (bt a0 x3_1) < 48
                      · rw [if_pos c28] at H
                        have c28b0 : decide ((bt a0 x3_1) < 48) = true := decide_eq_true c28
                        clear c28
                        have H' := Aside0.mk H
                        clear H
                        have p4 : 0 ≤ (x3_1 : Int) := of_decide_eq_true (by first | (with_reducible assumption) | assumption)
                        have q4 : x3_1 < (a0.size : Int) := of_decide_eq_true (by first | (with_reducible assumption) | assumption)
                        have hx4 := bt_at a0 x3_1
                        replace p4 := eq_true p4
                        replace q4 := eq_true q4
                        go_wp2_with (first | ((with_reducible refine gate_callee (f := 31) rfl ?_); refine goesL_ (some 46) rfl rfl Tryd.func31 (by kernel_rfl) rfl #[.int .u8 (bt a0 x3_1)] rfl (by (try simp only [List.map_toArray, List.map_cons, List.map_nil]); first | done | rfl | (simp only [List.length_drop, List.length_take]; rfl)) ?_; (with_reducible refine (boltingref02_Letter.calls (bt a0 x3_1) false _ A26.out).mono ?_); rintro e w' ⟨rfl, ⟨nd, rfl⟩⟩; refine ⟨_, rfl, ?_⟩))
                        go_roundg k1
                        case measure => have := HK1.out; omega
                        case rel => exact ⟨(wrap64 (x3_1 + 1)), (by first | rfl | (simp; done) | (simp [*]; done)), H', ⟨by have := HK1.out; omega⟩, by repeat (first | exact Drawn0.refl _ | apply Drawn0.step)⟩
                      · rw [if_neg c28] at H
                        have c28b0 : decide ((bt a0 x3_1) < 48) = false := decide_eq_false c28
                        clear c28
                        by_cases c29 : (bt a0 x3_1) > 57
                        · rw [if_pos c29] at H
                          have c29b0 : decide (57 < (bt a0 x3_1)) = true := decide_eq_true c29
                          clear c29
                          have H' := Aside0.mk H
                          clear H
                          have p4 : 0 ≤ (x3_1 : Int) := of_decide_eq_true (by first | (with_reducible assumption) | assumption)
                          have q4 : x3_1 < (a0.size : Int) := of_decide_eq_true (by first | (with_reducible assumption) | assumption)
                          have hx4 := bt_at a0 x3_1
                          replace p4 := eq_true p4
                          replace q4 := eq_true q4
                          go_wp2_with (first | ((with_reducible refine gate_callee (f := 31) rfl ?_); refine goesL_ (some 46) rfl rfl Tryd.func31 (by kernel_rfl) rfl #[.int .u8 (bt a0 x3_1)] rfl (by (try simp only [List.map_toArray, List.map_cons, List.map_nil]); first | done | rfl | (simp only [List.length_drop, List.length_take]; rfl)) ?_; (with_reducible refine (boltingref02_Letter.calls (bt a0 x3_1) false _ A26.out).mono ?_); rintro e w' ⟨rfl, ⟨nd, rfl⟩⟩; refine ⟨_, rfl, ?_⟩))
                          go_roundg k1
                          case measure => have := HK1.out; omega
                          case rel => exact ⟨(wrap64 (x3_1 + 1)), (by first | rfl | (simp; done) | (simp [*]; done)), H', ⟨by have := HK1.out; omega⟩, by repeat (first | exact Drawn0.refl _ | apply Drawn0.step)⟩
                        · rw [if_neg c29] at H
                          have c29b0 : decide (57 < (bt a0 x3_1)) = false := decide_eq_false c29
                          clear c29
                          have H' := Aside0.mk H
                          clear H
                          have p4 : 0 ≤ (x3_1 : Int) := of_decide_eq_true (by first | (with_reducible assumption) | assumption)
                          have q4 : x3_1 < (a0.size : Int) := of_decide_eq_true (by first | (with_reducible assumption) | assumption)
                          have hx4 := bt_at a0 x3_1
                          replace p4 := eq_true p4
                          replace q4 := eq_true q4
                          go_wp2_with (first | ((with_reducible refine gate_callee (f := 31) rfl ?_); refine goesL_ (some 46) rfl rfl Tryd.func31 (by kernel_rfl) rfl #[.int .u8 (bt a0 x3_1)] rfl (by (try simp only [List.map_toArray, List.map_cons, List.map_nil]); first | done | rfl | (simp only [List.length_drop, List.length_take]; rfl)) ?_; (with_reducible refine (boltingref02_Letter.calls (bt a0 x3_1) false _ A26.out).mono ?_); rintro e w' ⟨rfl, ⟨nd, rfl⟩⟩; refine ⟨_, rfl, ?_⟩))
                          go_roundg k1
                          case measure => have := HK1.out; omega
                          case rel => exact ⟨(wrap64 (x3_1 + 1)), (by first | rfl | (simp; done) | (simp [*]; done)), H', ⟨by have := HK1.out; omega⟩, by repeat (first | exact Drawn0.refl _ | apply Drawn0.step)⟩
                  · rw [if_neg c25] at H
                    have c25b0 : ((bt a0 x3_1) == 47) = false := beq_eq_false_iff_ne.mpr c25
                    have c25b1 : ((bt a0 x3_1) != 47) = true := bne_iff_ne.mpr c25
                    by_cases c30 : (bt a0 x3_1) = 64
                    · rw [if_pos c30] at H
                      have c30b0 : ((bt a0 x3_1) == 64) = true := beq_iff_eq.mpr c30
                      have c30b1 : ((bt a0 x3_1) != 64) = false := bne_eq_false_iff_eq.mpr c30
                      clear c30
                      replace H := Option.bind_eq_some_iff.mp H
                      obtain ⟨t145, A310, H⟩ := H
                      replace H : (if t145 = true then (boltingref15_May.l0 k1 a0 (wrap64 (x3_1 + 1))) else (if (bt a0 x3_1) < 48 then (boltingref15_May.l0 k1 a0 (wrap64 (x3_1 + 1))) else (if (bt a0 x3_1) > 57 then (boltingref15_May.l0 k1 a0 (wrap64 (x3_1 + 1))) else (boltingref15_May.l0 k1 a0 (wrap64 (x3_1 + 1)))))) = some r := H
                      have A31 := Aside0.mk A310
                      clear A310
                      by_cases c32 : t145 = true
                      · subst c32
                        have H1 : (boltingref15_May.l0 k1 a0 (wrap64 (x3_1 + 1))) = some r := by rw [if_pos rfl] at H; exact H
                        clear H
                        have H := H1
                        clear H1
                        have H' := Aside0.mk H
                        clear H
                        have p4 : 0 ≤ (x3_1 : Int) := of_decide_eq_true (by first | (with_reducible assumption) | assumption)
                        have q4 : x3_1 < (a0.size : Int) := of_decide_eq_true (by first | (with_reducible assumption) | assumption)
                        have hx4 := bt_at a0 x3_1
                        replace p4 := eq_true p4
                        replace q4 := eq_true q4
                        go_wp2_with (first | ((with_reducible refine gate_callee (f := 31) rfl ?_); refine goesL_ (some 46) rfl rfl Tryd.func31 (by kernel_rfl) rfl #[.int .u8 (bt a0 x3_1)] rfl (by (try simp only [List.map_toArray, List.map_cons, List.map_nil]); first | done | rfl | (simp only [List.length_drop, List.length_take]; rfl)) ?_; (with_reducible refine (boltingref02_Letter.calls (bt a0 x3_1) true _ A31.out).mono ?_); rintro e w' ⟨rfl, ⟨nd, rfl⟩⟩; refine ⟨_, rfl, ?_⟩))
                        go_roundg k1
                        case measure => have := HK1.out; omega
                        case rel => exact ⟨(wrap64 (x3_1 + 1)), (by first | rfl | (simp; done) | (simp [*]; done)), H', ⟨by have := HK1.out; omega⟩, by repeat (first | exact Drawn0.refl _ | apply Drawn0.step)⟩
                      · replace c32 := Bool.eq_false_iff.mpr c32
                        subst c32
                        have H1 : (if (bt a0 x3_1) < 48 then (boltingref15_May.l0 k1 a0 (wrap64 (x3_1 + 1))) else (if (bt a0 x3_1) > 57 then (boltingref15_May.l0 k1 a0 (wrap64 (x3_1 + 1))) else (boltingref15_May.l0 k1 a0 (wrap64 (x3_1 + 1))))) = some r := by rw [if_neg (show ¬ (false = true) by decide)] at H; exact H
                        clear H
                        have H := H1
                        clear H1
                        by_cases c33 : (bt a0 x3_1) < 48
                        · rw [if_pos c33] at H
                          have c33b0 : decide ((bt a0 x3_1) < 48) = true := decide_eq_true c33
                          clear c33
                          have H' := Aside0.mk H
                          clear H
                          have p4 : 0 ≤ (x3_1 : Int) := of_decide_eq_true (by first | (with_reducible assumption) | assumption)
                          have q4 : x3_1 < (a0.size : Int) := of_decide_eq_true (by first | (with_reducible assumption) | assumption)
                          have hx4 := bt_at a0 x3_1
                          replace p4 := eq_true p4
                          replace q4 := eq_true q4
                          go_wp2_with (first | ((with_reducible refine gate_callee (f := 31) rfl ?_); refine goesL_ (some 46) rfl rfl Tryd.func31 (by kernel_rfl) rfl #[.int .u8 (bt a0 x3_1)] rfl (by (try simp only [List.map_toArray, List.map_cons, List.map_nil]); first | done | rfl | (simp only [List.length_drop, List.length_take]; rfl)) ?_; (with_reducible refine (boltingref02_Letter.calls (bt a0 x3_1) false _ A31.out).mono ?_); rintro e w' ⟨rfl, ⟨nd, rfl⟩⟩; refine ⟨_, rfl, ?_⟩))
                          go_roundg k1
                          case measure => have := HK1.out; omega
                          case rel => exact ⟨(wrap64 (x3_1 + 1)), (by first | rfl | (simp; done) | (simp [*]; done)), H', ⟨by have := HK1.out; omega⟩, by repeat (first | exact Drawn0.refl _ | apply Drawn0.step)⟩
                        · rw [if_neg c33] at H
                          have c33b0 : decide ((bt a0 x3_1) < 48) = false := decide_eq_false c33
                          clear c33
                          by_cases c34 : (bt a0 x3_1) > 57
                          · rw [if_pos c34] at H
                            have c34b0 : decide (57 < (bt a0 x3_1)) = true := decide_eq_true c34
                            clear c34
                            have H' := Aside0.mk H
                            clear H
                            have p4 : 0 ≤ (x3_1 : Int) := of_decide_eq_true (by first | (with_reducible assumption) | assumption)
                            have q4 : x3_1 < (a0.size : Int) := of_decide_eq_true (by first | (with_reducible assumption) | assumption)
                            have hx4 := bt_at a0 x3_1
                            replace p4 := eq_true p4
                            replace q4 := eq_true q4
                            go_wp2_with (first | ((with_reducible refine gate_callee (f := 31) rfl ?_); refine goesL_ (some 46) rfl rfl Tryd.func31 (by kernel_rfl) rfl #[.int .u8 (bt a0 x3_1)] rfl (by (try simp only [List.map_toArray, List.map_cons, List.map_nil]); first | done | rfl | (simp only [List.length_drop, List.length_take]; rfl)) ?_; (with_reducible refine (boltingref02_Letter.calls (bt a0 x3_1) false _ A31.out).mono ?_); rintro e w' ⟨rfl, ⟨nd, rfl⟩⟩; refine ⟨_, rfl, ?_⟩))
                            go_roundg k1
                            case measure => have := HK1.out; omega
                            case rel => exact ⟨(wrap64 (x3_1 + 1)), (by first | rfl | (simp; done) | (simp [*]; done)), H', ⟨by have := HK1.out; omega⟩, by repeat (first | exact Drawn0.refl _ | apply Drawn0.step)⟩
                          · rw [if_neg c34] at H
                            have c34b0 : decide (57 < (bt a0 x3_1)) = false := decide_eq_false c34
                            clear c34
                            have H' := Aside0.mk H
                            clear H
                            have p4 : 0 ≤ (x3_1 : Int) := of_decide_eq_true (by first | (with_reducible assumption) | assumption)
                            have q4 : x3_1 < (a0.size : Int) := of_decide_eq_true (by first | (with_reducible assumption) | assumption)
                            have hx4 := bt_at a0 x3_1
                            replace p4 := eq_true p4
                            replace q4 := eq_true q4
                            go_wp2_with (first | ((with_reducible refine gate_callee (f := 31) rfl ?_); refine goesL_ (some 46) rfl rfl Tryd.func31 (by kernel_rfl) rfl #[.int .u8 (bt a0 x3_1)] rfl (by (try simp only [List.map_toArray, List.map_cons, List.map_nil]); first | done | rfl | (simp only [List.length_drop, List.length_take]; rfl)) ?_; (with_reducible refine (boltingref02_Letter.calls (bt a0 x3_1) false _ A31.out).mono ?_); rintro e w' ⟨rfl, ⟨nd, rfl⟩⟩; refine ⟨_, rfl, ?_⟩))
                            go_roundg k1
                            case measure => have := HK1.out; omega
                            case rel => exact ⟨(wrap64 (x3_1 + 1)), (by first | rfl | (simp; done) | (simp [*]; done)), H', ⟨by have := HK1.out; omega⟩, by repeat (first | exact Drawn0.refl _ | apply Drawn0.step)⟩
                    · rw [if_neg c30] at H
                      have c30b0 : ((bt a0 x3_1) == 64) = false := beq_eq_false_iff_ne.mpr c30
                      have c30b1 : ((bt a0 x3_1) != 64) = true := bne_iff_ne.mpr c30
                      by_cases c35 : (bt a0 x3_1) = 46
                      · rw [if_pos c35] at H
                        have c35b0 : ((bt a0 x3_1) == 46) = true := beq_iff_eq.mpr c35
                        have c35b1 : ((bt a0 x3_1) != 46) = false := bne_eq_false_iff_eq.mpr c35
                        clear c35
                        replace H := Option.bind_eq_some_iff.mp H
                        obtain ⟨t146, A360, H⟩ := H
                        replace H : (if t146 = true then (boltingref15_May.l0 k1 a0 (wrap64 (x3_1 + 1))) else (if (bt a0 x3_1) < 48 then (boltingref15_May.l0 k1 a0 (wrap64 (x3_1 + 1))) else (if (bt a0 x3_1) > 57 then (boltingref15_May.l0 k1 a0 (wrap64 (x3_1 + 1))) else (boltingref15_May.l0 k1 a0 (wrap64 (x3_1 + 1)))))) = some r := H
                        have A36 := Aside0.mk A360
                        clear A360
                        by_cases c37 : t146 = true
                        · subst c37
                          have H1 : (boltingref15_May.l0 k1 a0 (wrap64 (x3_1 + 1))) = some r := by rw [if_pos rfl] at H; exact H
                          clear H
                          have H := H1
                          clear H1
                          have H' := Aside0.mk H
                          clear H
                          have p4 : 0 ≤ (x3_1 : Int) := of_decide_eq_true (by first | (with_reducible assumption) | assumption)
                          have q4 : x3_1 < (a0.size : Int) := of_decide_eq_true (by first | (with_reducible assumption) | assumption)
                          have hx4 := bt_at a0 x3_1
                          replace p4 := eq_true p4
                          replace q4 := eq_true q4
                          go_wp2_with (first | ((with_reducible refine gate_callee (f := 31) rfl ?_); refine goesL_ (some 46) rfl rfl Tryd.func31 (by kernel_rfl) rfl #[.int .u8 (bt a0 x3_1)] rfl (by (try simp only [List.map_toArray, List.map_cons, List.map_nil]); first | done | rfl | (simp only [List.length_drop, List.length_take]; rfl)) ?_; (with_reducible refine (boltingref02_Letter.calls (bt a0 x3_1) true _ A36.out).mono ?_); rintro e w' ⟨rfl, ⟨nd, rfl⟩⟩; refine ⟨_, rfl, ?_⟩))
                          go_roundg k1
                          case measure => have := HK1.out; omega
                          case rel => exact ⟨(wrap64 (x3_1 + 1)), (by first | rfl | (simp; done) | (simp [*]; done)), H', ⟨by have := HK1.out; omega⟩, by repeat (first | exact Drawn0.refl _ | apply Drawn0.step)⟩
                        · replace c37 := Bool.eq_false_iff.mpr c37
                          subst c37
                          have H1 : (if (bt a0 x3_1) < 48 then (boltingref15_May.l0 k1 a0 (wrap64 (x3_1 + 1))) else (if (bt a0 x3_1) > 57 then (boltingref15_May.l0 k1 a0 (wrap64 (x3_1 + 1))) else (boltingref15_May.l0 k1 a0 (wrap64 (x3_1 + 1))))) = some r := by rw [if_neg (show ¬ (false = true) by decide)] at H; exact H
                          clear H
                          have H := H1
                          clear H1
                          by_cases c38 : (bt a0 x3_1) < 48
                          · rw [if_pos c38] at H
                            have c38b0 : decide ((bt a0 x3_1) < 48) = true := decide_eq_true c38
                            clear c38
                            have H' := Aside0.mk H
                            clear H
                            have p4 : 0 ≤ (x3_1 : Int) := of_decide_eq_true (by first | (with_reducible assumption) | assumption)
                            have q4 : x3_1 < (a0.size : Int) := of_decide_eq_true (by first | (with_reducible assumption) | assumption)
                            have hx4 := bt_at a0 x3_1
                            replace p4 := eq_true p4
                            replace q4 := eq_true q4
                            go_wp2_with (first | ((with_reducible refine gate_callee (f := 31) rfl ?_); refine goesL_ (some 46) rfl rfl Tryd.func31 (by kernel_rfl) rfl #[.int .u8 (bt a0 x3_1)] rfl (by (try simp only [List.map_toArray, List.map_cons, List.map_nil]); first | done | rfl | (simp only [List.length_drop, List.length_take]; rfl)) ?_; (with_reducible refine (boltingref02_Letter.calls (bt a0 x3_1) false _ A36.out).mono ?_); rintro e w' ⟨rfl, ⟨nd, rfl⟩⟩; refine ⟨_, rfl, ?_⟩))
                            go_roundg k1
                            case measure => have := HK1.out; omega
                            case rel => exact ⟨(wrap64 (x3_1 + 1)), (by first | rfl | (simp; done) | (simp [*]; done)), H', ⟨by have := HK1.out; omega⟩, by repeat (first | exact Drawn0.refl _ | apply Drawn0.step)⟩
                          · rw [if_neg c38] at H
                            have c38b0 : decide ((bt a0 x3_1) < 48) = false := decide_eq_false c38
                            clear c38
                            by_cases c39 : (bt a0 x3_1) > 57
                            · rw [if_pos c39] at H
                              have c39b0 : decide (57 < (bt a0 x3_1)) = true := decide_eq_true c39
                              clear c39
                              have H' := Aside0.mk H
                              clear H
                              have p4 : 0 ≤ (x3_1 : Int) := of_decide_eq_true (by first | (with_reducible assumption) | assumption)
                              have q4 : x3_1 < (a0.size : Int) := of_decide_eq_true (by first | (with_reducible assumption) | assumption)
                              have hx4 := bt_at a0 x3_1
                              replace p4 := eq_true p4
                              replace q4 := eq_true q4
                              go_wp2_with (first | ((with_reducible refine gate_callee (f := 31) rfl ?_); refine goesL_ (some 46) rfl rfl Tryd.func31 (by kernel_rfl) rfl #[.int .u8 (bt a0 x3_1)] rfl (by (try simp only [List.map_toArray, List.map_cons, List.map_nil]); first | done | rfl | (simp only [List.length_drop, List.length_take]; rfl)) ?_; (with_reducible refine (boltingref02_Letter.calls (bt a0 x3_1) false _ A36.out).mono ?_); rintro e w' ⟨rfl, ⟨nd, rfl⟩⟩; refine ⟨_, rfl, ?_⟩))
                              go_roundg k1
                              case measure => have := HK1.out; omega
                              case rel => exact ⟨(wrap64 (x3_1 + 1)), (by first | rfl | (simp; done) | (simp [*]; done)), H', ⟨by have := HK1.out; omega⟩, by repeat (first | exact Drawn0.refl _ | apply Drawn0.step)⟩
                            · rw [if_neg c39] at H
                              have c39b0 : decide (57 < (bt a0 x3_1)) = false := decide_eq_false c39
                              clear c39
                              have H' := Aside0.mk H
                              clear H
                              have p4 : 0 ≤ (x3_1 : Int) := of_decide_eq_true (by first | (with_reducible assumption) | assumption)
                              have q4 : x3_1 < (a0.size : Int) := of_decide_eq_true (by first | (with_reducible assumption) | assumption)
                              have hx4 := bt_at a0 x3_1
                              replace p4 := eq_true p4
                              replace q4 := eq_true q4
                              go_wp2_with (first | ((with_reducible refine gate_callee (f := 31) rfl ?_); refine goesL_ (some 46) rfl rfl Tryd.func31 (by kernel_rfl) rfl #[.int .u8 (bt a0 x3_1)] rfl (by (try simp only [List.map_toArray, List.map_cons, List.map_nil]); first | done | rfl | (simp only [List.length_drop, List.length_take]; rfl)) ?_; (with_reducible refine (boltingref02_Letter.calls (bt a0 x3_1) false _ A36.out).mono ?_); rintro e w' ⟨rfl, ⟨nd, rfl⟩⟩; refine ⟨_, rfl, ?_⟩))
                              go_roundg k1
                              case measure => have := HK1.out; omega
                              case rel => exact ⟨(wrap64 (x3_1 + 1)), (by first | rfl | (simp; done) | (simp [*]; done)), H', ⟨by have := HK1.out; omega⟩, by repeat (first | exact Drawn0.refl _ | apply Drawn0.step)⟩
                      · rw [if_neg c35] at H
                        have c35b0 : ((bt a0 x3_1) == 46) = false := beq_eq_false_iff_ne.mpr c35
                        have c35b1 : ((bt a0 x3_1) != 46) = true := bne_iff_ne.mpr c35
                        replace H := Option.bind_eq_some_iff.mp H
                        obtain ⟨t147, A400, H⟩ := H
                        replace H : (if t147 = true then (boltingref15_May.l0 k1 a0 (wrap64 (x3_1 + 1))) else (if (bt a0 x3_1) < 48 then (if ((bt a0 x3_1) = 37) then (boltingref15_May.l0 k1 a0 (wrap64 (x3_1 + 1))) else (some false)) else (if (bt a0 x3_1) > 57 then (if ((bt a0 x3_1) = 37) then (boltingref15_May.l0 k1 a0 (wrap64 (x3_1 + 1))) else (some false)) else (boltingref15_May.l0 k1 a0 (wrap64 (x3_1 + 1)))))) = some r := H
                        have A40 := Aside0.mk A400
                        clear A400
                        by_cases c41 : t147 = true
                        · subst c41
                          have H1 : (boltingref15_May.l0 k1 a0 (wrap64 (x3_1 + 1))) = some r := by rw [if_pos rfl] at H; exact H
                          clear H
                          have H := H1
                          clear H1
                          have H' := Aside0.mk H
                          clear H
                          have p4 : 0 ≤ (x3_1 : Int) := of_decide_eq_true (by first | (with_reducible assumption) | assumption)
                          have q4 : x3_1 < (a0.size : Int) := of_decide_eq_true (by first | (with_reducible assumption) | assumption)
                          have hx4 := bt_at a0 x3_1
                          replace p4 := eq_true p4
                          replace q4 := eq_true q4
                          go_wp2_with (first | ((with_reducible refine gate_callee (f := 31) rfl ?_); refine goesL_ (some 46) rfl rfl Tryd.func31 (by kernel_rfl) rfl #[.int .u8 (bt a0 x3_1)] rfl (by (try simp only [List.map_toArray, List.map_cons, List.map_nil]); first | done | rfl | (simp only [List.length_drop, List.length_take]; rfl)) ?_; (with_reducible refine (boltingref02_Letter.calls (bt a0 x3_1) true _ A40.out).mono ?_); rintro e w' ⟨rfl, ⟨nd, rfl⟩⟩; refine ⟨_, rfl, ?_⟩))
                          go_roundg k1
                          case measure => have := HK1.out; omega
                          case rel => exact ⟨(wrap64 (x3_1 + 1)), (by first | rfl | (simp; done) | (simp [*]; done)), H', ⟨by have := HK1.out; omega⟩, by repeat (first | exact Drawn0.refl _ | apply Drawn0.step)⟩
                        · replace c41 := Bool.eq_false_iff.mpr c41
                          subst c41
                          have H1 : (if (bt a0 x3_1) < 48 then (if ((bt a0 x3_1) = 37) then (boltingref15_May.l0 k1 a0 (wrap64 (x3_1 + 1))) else (some false)) else (if (bt a0 x3_1) > 57 then (if ((bt a0 x3_1) = 37) then (boltingref15_May.l0 k1 a0 (wrap64 (x3_1 + 1))) else (some false)) else (boltingref15_May.l0 k1 a0 (wrap64 (x3_1 + 1))))) = some r := by rw [if_neg (show ¬ (false = true) by decide)] at H; exact H
                          clear H
                          have H := H1
                          clear H1
                          by_cases c42 : (bt a0 x3_1) < 48
                          · rw [if_pos c42] at H
                            have c42b0 : decide ((bt a0 x3_1) < 48) = true := decide_eq_true c42
                            clear c42
                            by_cases c43 : ((bt a0 x3_1) = 37)
                            · rw [if_pos c43] at H
                              have c43b0 : ((bt a0 x3_1) == 37) = true := beq_iff_eq.mpr c43
                              have c43b1 : ((bt a0 x3_1) != 37) = false := bne_eq_false_iff_eq.mpr c43
                              clear c43
                              have H' := Aside0.mk H
                              clear H
                              have p4 : 0 ≤ (x3_1 : Int) := of_decide_eq_true (by first | (with_reducible assumption) | assumption)
                              have q4 : x3_1 < (a0.size : Int) := of_decide_eq_true (by first | (with_reducible assumption) | assumption)
                              have hx4 := bt_at a0 x3_1
                              replace p4 := eq_true p4
                              replace q4 := eq_true q4
                              go_wp2_with (first | ((with_reducible refine gate_callee (f := 31) rfl ?_); refine goesL_ (some 46) rfl rfl Tryd.func31 (by kernel_rfl) rfl #[.int .u8 (bt a0 x3_1)] rfl (by (try simp only [List.map_toArray, List.map_cons, List.map_nil]); first | done | rfl | (simp only [List.length_drop, List.length_take]; rfl)) ?_; (with_reducible refine (boltingref02_Letter.calls (bt a0 x3_1) false _ A40.out).mono ?_); rintro e w' ⟨rfl, ⟨nd, rfl⟩⟩; refine ⟨_, rfl, ?_⟩))
                              go_roundg k1
                              case measure => have := HK1.out; omega
                              case rel => exact ⟨(wrap64 (x3_1 + 1)), (by first | rfl | (simp; done) | (simp [*]; done)), H', ⟨by have := HK1.out; omega⟩, by repeat (first | exact Drawn0.refl _ | apply Drawn0.step)⟩
                            · rw [if_neg c43] at H
                              have c43b0 : ((bt a0 x3_1) == 37) = false := beq_eq_false_iff_ne.mpr c43
                              have c43b1 : ((bt a0 x3_1) != 37) = true := bne_iff_ne.mpr c43
                              obtain rfl := Option.some.inj H
                              have p4 : 0 ≤ (x3_1 : Int) := of_decide_eq_true (by first | (with_reducible assumption) | assumption)
                              have q4 : x3_1 < (a0.size : Int) := of_decide_eq_true (by first | (with_reducible assumption) | assumption)
                              have hx4 := bt_at a0 x3_1
                              replace p4 := eq_true p4
                              replace q4 := eq_true q4
                              go_wp2_with (first | ((with_reducible refine gate_callee (f := 31) rfl ?_); refine goesL_ (some 46) rfl rfl Tryd.func31 (by kernel_rfl) rfl #[.int .u8 (bt a0 x3_1)] rfl (by (try simp only [List.map_toArray, List.map_cons, List.map_nil]); first | done | rfl | (simp only [List.length_drop, List.length_take]; rfl)) ?_; (with_reducible refine (boltingref02_Letter.calls (bt a0 x3_1) false _ A40.out).mono ?_); rintro e w' ⟨rfl, ⟨nd, rfl⟩⟩; refine ⟨_, rfl, ?_⟩))
                              go_ret
                              exact ⟨by first | rfl | (simp; done) | (simp [*]; done) | (simp; generalize ByteArray.toList _ = l_; cases l_ <;> rfl), by repeat (first | exact Drawn0.refl _ | apply Drawn0.step)⟩
                          · rw [if_neg c42] at H
                            have c42b0 : decide ((bt a0 x3_1) < 48) = false := decide_eq_false c42
                            clear c42
                            by_cases c44 : (bt a0 x3_1) > 57
                            · rw [if_pos c44] at H
                              have c44b0 : decide (57 < (bt a0 x3_1)) = true := decide_eq_true c44
                              clear c44
                              by_cases c45 : ((bt a0 x3_1) = 37)
                              · rw [if_pos c45] at H
                                have c45b0 : ((bt a0 x3_1) == 37) = true := beq_iff_eq.mpr c45
                                have c45b1 : ((bt a0 x3_1) != 37) = false := bne_eq_false_iff_eq.mpr c45
                                clear c45
                                have H' := Aside0.mk H
                                clear H
                                have p4 : 0 ≤ (x3_1 : Int) := of_decide_eq_true (by first | (with_reducible assumption) | assumption)
                                have q4 : x3_1 < (a0.size : Int) := of_decide_eq_true (by first | (with_reducible assumption) | assumption)
                                have hx4 := bt_at a0 x3_1
                                replace p4 := eq_true p4
                                replace q4 := eq_true q4
                                go_wp2_with (first | ((with_reducible refine gate_callee (f := 31) rfl ?_); refine goesL_ (some 46) rfl rfl Tryd.func31 (by kernel_rfl) rfl #[.int .u8 (bt a0 x3_1)] rfl (by (try simp only [List.map_toArray, List.map_cons, List.map_nil]); first | done | rfl | (simp only [List.length_drop, List.length_take]; rfl)) ?_; (with_reducible refine (boltingref02_Letter.calls (bt a0 x3_1) false _ A40.out).mono ?_); rintro e w' ⟨rfl, ⟨nd, rfl⟩⟩; refine ⟨_, rfl, ?_⟩))
                                go_roundg k1
                                case measure => have := HK1.out; omega
                                case rel => exact ⟨(wrap64 (x3_1 + 1)), (by first | rfl | (simp; done) | (simp [*]; done)), H', ⟨by have := HK1.out; omega⟩, by repeat (first | exact Drawn0.refl _ | apply Drawn0.step)⟩
                              · rw [if_neg c45] at H
                                have c45b0 : ((bt a0 x3_1) == 37) = false := beq_eq_false_iff_ne.mpr c45
                                have c45b1 : ((bt a0 x3_1) != 37) = true := bne_iff_ne.mpr c45
                                obtain rfl := Option.some.inj H
                                have p4 : 0 ≤ (x3_1 : Int) := of_decide_eq_true (by first | (with_reducible assumption) | assumption)
                                have q4 : x3_1 < (a0.size : Int) := of_decide_eq_true (by first | (with_reducible assumption) | assumption)
                                have hx4 := bt_at a0 x3_1
                                replace p4 := eq_true p4
                                replace q4 := eq_true q4
                                go_wp2_with (first | ((with_reducible refine gate_callee (f := 31) rfl ?_); refine goesL_ (some 46) rfl rfl Tryd.func31 (by kernel_rfl) rfl #[.int .u8 (bt a0 x3_1)] rfl (by (try simp only [List.map_toArray, List.map_cons, List.map_nil]); first | done | rfl | (simp only [List.length_drop, List.length_take]; rfl)) ?_; (with_reducible refine (boltingref02_Letter.calls (bt a0 x3_1) false _ A40.out).mono ?_); rintro e w' ⟨rfl, ⟨nd, rfl⟩⟩; refine ⟨_, rfl, ?_⟩))
                                go_ret
                                exact ⟨by first | rfl | (simp; done) | (simp [*]; done) | (simp; generalize ByteArray.toList _ = l_; cases l_ <;> rfl), by repeat (first | exact Drawn0.refl _ | apply Drawn0.step)⟩
                            · rw [if_neg c44] at H
                              have c44b0 : decide (57 < (bt a0 x3_1)) = false := decide_eq_false c44
                              clear c44
                              have H' := Aside0.mk H
                              clear H
                              have p4 : 0 ≤ (x3_1 : Int) := of_decide_eq_true (by first | (with_reducible assumption) | assumption)
                              have q4 : x3_1 < (a0.size : Int) := of_decide_eq_true (by first | (with_reducible assumption) | assumption)
                              have hx4 := bt_at a0 x3_1
                              replace p4 := eq_true p4
                              replace q4 := eq_true q4
                              go_wp2_with (first | ((with_reducible refine gate_callee (f := 31) rfl ?_); refine goesL_ (some 46) rfl rfl Tryd.func31 (by kernel_rfl) rfl #[.int .u8 (bt a0 x3_1)] rfl (by (try simp only [List.map_toArray, List.map_cons, List.map_nil]); first | done | rfl | (simp only [List.length_drop, List.length_take]; rfl)) ?_; (with_reducible refine (boltingref02_Letter.calls (bt a0 x3_1) false _ A40.out).mono ?_); rintro e w' ⟨rfl, ⟨nd, rfl⟩⟩; refine ⟨_, rfl, ?_⟩))
                              go_roundg k1
                              case measure => have := HK1.out; omega
                              case rel => exact ⟨(wrap64 (x3_1 + 1)), (by first | rfl | (simp; done) | (simp [*]; done)), H', ⟨by have := HK1.out; omega⟩, by repeat (first | exact Drawn0.refl _ | apply Drawn0.step)⟩
        · rw [if_neg c3] at H
          exact absurd H (by simp)
      · rw [if_neg c2] at H
        have c2b0 : decide (x3_1 < (a0.size : Int)) = false := decide_eq_false c2
        clear c2
        obtain rfl := Option.some.inj H
        go_wp2
        go_ret
        exact ⟨by first | rfl | (simp; done) | (simp [*]; done) | (simp; generalize ByteArray.toList _ = l_; cases l_ <;> rfl), by repeat (first | exact Drawn0.refl _ | apply Drawn0.step)⟩

end Go.Proofs.YthblohknnlkidaaDoor.Pr
namespace Go.Proofs.YthblohknnlkidaaDoor.Pr
open Go.RowKit Go.Proofs.YthblohknnlkidaaDoorW.PrintWords Go.Proofs.YthblohknnlkidaaDoorW.PrintLast Go.Proofs.YthblohknnlkidaaDoorW.PrintMore
attribute [local go_sem] max2_int min2_int max_two min_two max_three min_three max_four min_four   -- for this text's walks alone
set_option linter.unusedVariables false
set_option linter.unusedSimpArgs false

/-! ### boltingref15_Parse: function 11 -/
mutual
def boltingref15_Parse.l0 : Nat → List (List ByteArray) → Int → Bool → Bool → List ByteArray → Bool → Bool → Option (Bool × Bool × List ByteArray × Bool × Bool)
  | 0, _, _, _, _, _, _, _ => none
  | k + 1, x5, x7, x153000, x153001, x153002, x153003, x153004 => if x7 < (x5.length : Int) then (if 0 ≤ x7 then (if 1 ≤ ((rd_L1 x5 x7).length : Int) then ((some ((rd_L1 x5 x7).drop 1 : List ByteArray)).bind fun y154 => (if 0 < ((rd_L1 x5 x7).length : Int) then (if (rdOf ByteArray.empty (rd_L1 x5 x7) 0).toList = ([114, 101, 113, 117, 105, 114, 101, 45, 116, 114, 117, 115, 116, 101, 100, 45, 116, 121, 112, 101, 115, 45, 102, 111, 114] : List UInt8) then ((boltingref02_Has.f k y154 (⟨#[39, 115, 99, 114, 105, 112, 116, 39]⟩ : ByteArray)).bind fun t161 => (boltingref15_Parse.j1 k x5 x7 y154 t161 x153001 x153002 x153003 x153004)) else (boltingref15_Parse.j1 k x5 x7 y154 x153000 x153001 x153002 x153003 x153004)) else (none))) else (none)) else (none)) else (some (x153000, x153001, x153002, x153003, x153004))
def boltingref15_Parse.j1 : Nat → List (List ByteArray) → Int → List ByteArray → Bool → Bool → List ByteArray → Bool → Bool → Option (Bool × Bool × List ByteArray × Bool × Bool)
  | 0, _, _, _, _, _, _, _, _ => none
  | k + 1, x5, x7, x8, x153000, x153001, x153002, x153003, x153004 => if 0 ≤ x7 then (if x7 < (x5.length : Int) then (if 0 < ((rd_L1 x5 x7).length : Int) then (if (rdOf ByteArray.empty (rd_L1 x5 x7) 0).toList = ([116, 114, 117, 115, 116, 101, 100, 45, 116, 121, 112, 101, 115] : List UInt8) then ((boltingref02_Has.f k x8 (⟨#[42]⟩ : ByteArray)).bind fun t164 => ((boltingref02_Has.f k x8 (⟨#[39, 97, 108, 108, 111, 119, 45, 100, 117, 112, 108, 105, 99, 97, 116, 101, 115, 39]⟩ : ByteArray)).bind fun t165 => (boltingref15_Parse.l1 k x5 x7 x8 0 x153000 x153001 x153002 t164 t165))) else (boltingref15_Parse.l0 k x5 (wrap64 (x7 + 1)) x153000 x153001 x153002 x153003 x153004)) else (none)) else (none)) else (none)
def boltingref15_Parse.l1 : Nat → List (List ByteArray) → Int → List ByteArray → Int → Bool → Bool → List ByteArray → Bool → Bool → Option (Bool × Bool × List ByteArray × Bool × Bool)
  | 0, _, _, _, _, _, _, _, _, _ => none
  | k + 1, x5, x7, x8, x9, x153000, x153001, x153002, x153003, x153004 => if x9 < (x8.length : Int) then (if 0 ≤ x9 then ((boltingref15_May.f k (rdOf ByteArray.empty x8 x9)).bind fun t167 => (if t167 = true then ((boltingref02_Has.f k x153002 (rdOf ByteArray.empty x8 x9)).bind fun t169 => (if t169 = true then (boltingref15_Parse.l1 k x5 x7 x8 (wrap64 (x9 + 1)) x153000 x153001 x153002 x153003 x153004) else (if x153002.length < 8796093022208 then (boltingref15_Parse.l1 k x5 x7 x8 (wrap64 (x9 + 1)) x153000 x153001 (x153002 ++ [rdOf ByteArray.empty x8 x9]) x153003 x153004) else (none)))) else (boltingref15_Parse.l1 k x5 x7 x8 (wrap64 (x9 + 1)) x153000 x153001 x153002 x153003 x153004))) else (none)) else (boltingref15_Parse.l0 k x5 (wrap64 (x7 + 1)) x153000 x153001 x153002 x153003 x153004)
end
def boltingref15_Parse.f (k : Nat) (a0 : ByteArray) (a1 : Bool) : Option (Bool × Bool × List ByteArray × Bool × Bool) := (boltingref15_Parts.f k a0).bind fun t149 => (boltingref15_Parse.l0 k t149 0 false a1 ([] : List ByteArray) true true)
def boltingref15_Parse.T15 : Bool × List (List Nat × List Nat) := (true, [([], []), ([], []), ([0, 1], [0, 1]), ([2], [2]), ([3], [3]), ([4, 4], [4]), ([5], [5]), ([6, 5], [5, 6]), ([5], [5]), ([5], [5]), ([8, 9, 5], [5, 8, 9]), ([10, 5], [5, 10]), ([7, 11, 5, 5], [5, 7, 11]), ([12, 5], [5, 12]), ([5, 13], [5, 13])])
def boltingref15_Parse.B15 : List Nat := [0, 0, 3, 7, 15, 31, 63, 127, 63, 63, 831, 1855, 4095, 8191, 16383]
theorem boltingref15_Parse.tab15 : rtab .any (opsOf Tryd.f11 15) = boltingref15_Parse.T15 := by kernel_rfl
theorem boltingref15_Parse.bits15 : waitsOk boltingref15_Parse.T15.2 boltingref15_Parse.B15 = true := by kernel_rfl
def boltingref15_Parse.T16 : Bool × List (List Nat × List Nat) := (true, [([], []), ([0], [0]), ([], []), ([], []), ([2, 3], [2, 3]), ([4], [4]), ([5], [5]), ([1, 6], [1, 6]), ([0, 1, 2, 3, 4, 5, 6, 7], []), ([8, 7, 7, 0, 1, 2, 3, 4, 5, 6, 7], [7, 8])])
def boltingref15_Parse.B16 : List Nat := [0, 1, 0, 0, 12, 28, 60, 127, 255, 511]
theorem boltingref15_Parse.tab16 : rtab .any (opsOf Tryd.f11 16) = boltingref15_Parse.T16 := by kernel_rfl
theorem boltingref15_Parse.bits16 : waitsOk boltingref15_Parse.T16.2 boltingref15_Parse.B16 = true := by kernel_rfl
set_option maxHeartbeats 8000000 in
set_option maxRecDepth 100000 in
theorem boltingref15_Parse.calls (k : Nat) (a0 : ByteArray) (a1 : Bool) (r1 : Bool) (r2 : Bool) (r3 : List ByteArray) (r4 : Bool) (r5 : Bool) (w : World) (h : boltingref15_Parse.f k a0 a1 = some (r1, r2, r3, r4, r5)) :
    Calls Tryd.prog 11 #[.string a0, .bool a1] w fun e w' => ∃ v2_ : Value, e = .returned (.agg #[.bool r1, .bool r2, v2_, .bool r4, .bool r5]) ∧ Kd.R Kd.string 9 w' w.heap.size (fun _ => True) v2_ r3 ∧ Below w.heap.size w w' := by
  have hu26 := Tryd.underlying26
  have HB := Aside0.mk (Below.refl w.heap.size w)
  have H : ((boltingref15_Parts.f k a0).bind fun t149 => (boltingref15_Parse.l0 k t149 0 false a1 ([] : List ByteArray) true true)) = some (r1, r2, r3, r4, r5) := h
  clear h
  replace H := Option.bind_eq_some_iff.mp H
  obtain ⟨t149, A30, H⟩ := H
  replace H : (boltingref15_Parse.l0 k t149 0 false a1 ([] : List ByteArray) true true) = some (r1, r2, r3, r4, r5) := H
  have A3 := Aside0.mk A30
  clear A30
  have H' := Aside0.mk H
  clear H
  go_enter Tryd.func11, Tryd.ntmps11
  go_wp2_with (first | ((with_reducible refine gate_dst (N := 4) rfl ?_); refine box_event ?hg (N := 4) ?hd (cs := #[.bool false, .bool false, .slice none 0 0, .bool false, .bool false]) (t := 26) ?hr ?_; (case hd => rfl); (case hg => rfl); (case hr => first | (go_simp; done) | (go_simp; rfl)); intro gb148 hg w4 hbox hb; have n0_ := Aside0.mk (below_step (by repeat (first | (with_reducible first | exact HB.out | apply below_alloc | apply pw_below_drewN | apply below_drew1) | exact HB.out)) hb); have n1_ := Aside0.mk (hbox); have n2_ := Aside0.mk ((by rw [hg]; exact (below_size (by repeat (first | (with_reducible first | exact HB.out | apply below_alloc | apply pw_below_drewN | apply below_drew1) | exact HB.out))) : w.heap.size ≤ gb148)); have n3_ := Aside0.mk ((by rw [hg]; exact (below_size (by repeat (first | (with_reducible first | exact HB.out | apply below_alloc | apply pw_below_drewN | apply below_drew1) | exact HB.out))) : w.heap.size ≤ gb148)); clear HB; have HB := n0_; have BK148 := n1_; have GW148 := n2_; have GE148 := n3_; clear n0_ n1_ n2_ n3_; clear hb hbox hg) | ((with_reducible refine gate_callee (f := 10) rfl ?_); refine goesL_ (some 11) rfl rfl Tryd.func10 (by kernel_rfl) rfl #[.string a0] rfl (by (try simp only [List.map_toArray, List.map_cons, List.map_nil]); first | done | rfl | (simp only [List.length_drop, List.length_take]; rfl)) ?_; (with_reducible refine (boltingref15_Parts.calls k a0 t149 _ A3.out).mono ?_); rintro e w5 ⟨v150, rfl, ho0, hb⟩; refine ⟨_, rfl, ?_⟩; have n0_ := Aside0.mk (Kd.N_lower (Kd.N_mono (ok' := fun k_ => k_ ≠ gb148) (Kd.S_N (Kd.S_bound ho0)) (fun k_ hk_ => (Kd.freshB (g := gb148) (o := .cells #[.bool false, .bool false, .slice none 0 0, .bool false, .bool false] 26 (0, 0)) (by (with_reducible repeat (first | refine blk_drewN ?_ _ | refine blk_drew ?_ | refine blk_alloc ?_ _)); exact BK148.out) k_ hk_.2.1))) (below_size (by repeat (first | (with_reducible first | exact HB.out | apply below_alloc | apply pw_below_drewN | apply below_drew1 | refine below_set ?_ GE148.out) | exact HB.out)))); have n1_ := Aside0.mk (blk_below (g := gb148) (o := .cells #[.bool false, .bool false, .slice none 0 0, .bool false, .bool false] 26 (0, 0)) (by (with_reducible repeat (first | refine blk_drewN ?_ _ | refine blk_drew ?_ | refine blk_alloc ?_ _)); exact BK148.out) hb); have n2_ := Aside0.mk (below_step (by repeat (first | (with_reducible first | exact HB.out | apply below_alloc | apply pw_below_drewN | apply below_drew1 | refine below_set ?_ GE148.out) | exact HB.out)) hb); clear BK148; clear HB; have HO151 := n0_; have BK148 := n1_; have HB := n2_; clear n0_ n1_ n2_; (try clear hb); (try clear hb2); (try clear hk); (try clear hi); (try clear ho0)) | ((with_reducible refine gate_dst (N := 6) rfl ?_); refine box_event ?hg (N := 6) ?hd (cs := #[.bool false, .bool false, .slice none 0 0, .bool false, .bool false]) (t := 26) ?hr ?_; (case hd => rfl); (case hg => rfl); (case hr => first | (go_simp; done) | (go_simp; rfl)); intro gb152 hg w6 hbox hb; have n0_ := Aside0.mk (Kd.N_below (Kd.N_elderB (by (with_reducible repeat (first | apply Kd.N_alloc | apply Kd.N_drewN | apply Kd.N_drew)); exact HO151.out) gb152 (Nat.le_of_eq hg.symm)) hb); have n1_ := Aside0.mk (blk_below (g := gb148) (o := .cells #[.bool false, .bool false, .slice none 0 0, .bool false, .bool false] 26 (0, 0)) (by (with_reducible repeat (first | refine blk_drewN ?_ _ | refine blk_drew ?_ | refine blk_alloc ?_ _)); exact BK148.out) hb); have n2_ := Aside0.mk (below_step (by repeat (first | (with_reducible first | exact HB.out | apply below_alloc | apply pw_below_drewN | apply below_drew1 | refine below_set ?_ GE148.out) | exact HB.out)) hb); have n3_ := Aside0.mk (hbox); have n4_ := Aside0.mk ((by rw [hg]; exact (below_size (by repeat (first | (with_reducible first | exact HB.out | apply below_alloc | apply pw_below_drewN | apply below_drew1 | refine below_set ?_ GE148.out) | exact HB.out))) : w.heap.size ≤ gb152)); have n5_ := Aside0.mk ((by rw [hg]; exact (below_size (by repeat (first | (with_reducible first | exact HB.out | apply below_alloc | apply pw_below_drewN | apply below_drew1 | refine below_set ?_ GE148.out) | exact HB.out))) : w.heap.size ≤ gb152)); have n6_ := Aside0.mk ((by rw [hg]; exact Nat.ne_of_lt (blk_lt (g := gb148) (o := .cells #[.bool false, .bool false, .slice none 0 0, .bool false, .bool false] 26 (0, 0)) (by (with_reducible repeat (first | refine blk_drewN ?_ _ | refine blk_drew ?_ | refine blk_alloc ?_ _)); exact BK148.out)) : gb148 ≠ gb152)); have n7_ := Aside0.mk ((by rw [hg]; exact Nat.ne_of_gt (blk_lt (g := gb148) (o := .cells #[.bool false, .bool false, .slice none 0 0, .bool false, .bool false] 26 (0, 0)) (by (with_reducible repeat (first | refine blk_drewN ?_ _ | refine blk_drew ?_ | refine blk_alloc ?_ _)); exact BK148.out)) : gb152 ≠ gb148)); clear HO151; clear BK148; clear HB; have HO151 := n0_; have BK148 := n1_; have HB := n2_; have BK152 := n3_; have GW152 := n4_; have GE152 := n5_; have NB148_152 := n6_; have NB152_148 := n7_; clear n0_ n1_ n2_ n3_ n4_ n5_ n6_ n7_; clear hb hbox hg; have hnb7 := NB152_148.out; have hnc7 := NB148_152.out; have hcz8_0 : w6.cell? ⟨gb152, 0, none⟩ = some (.bool false) := (blk_cell BK152.out 0).trans rfl; have hcz8_1 : w6.cell? ⟨gb152, 1, none⟩ = some (.bool false) := (blk_cell BK152.out 1).trans rfl; have hcz8_2 : w6.cell? ⟨gb152, 2, none⟩ = some (.slice none 0 0) := (blk_cell BK152.out 2).trans rfl; have hcz8_3 : w6.cell? ⟨gb152, 3, none⟩ = some (.bool false) := (blk_cell BK152.out 3).trans rfl; have hcz8_4 : w6.cell? ⟨gb152, 4, none⟩ = some (.bool false) := (blk_cell BK152.out 4).trans rfl; have hfz8_0 := blk_frozen BK152.out 0; have hfz8_1 := blk_frozen BK152.out 1; have hfz8_2 := blk_frozen BK152.out 2; have hfz8_3 := blk_frozen BK152.out 3; have hfz8_4 := blk_frozen BK152.out 4))
  go_loopg [7] k (fun kq v7 w' => ∃ (x7_1 : Int) (x153000_1 : Bool) (x153002_1 : List ByteArray) (x153003_1 : Bool) (x153004_1 : Bool) (u153002 : Value), v7 = .int .i64 x7_1 ∧ Aside0 (boltingref15_Parse.l0 kq t149 x7_1 x153000_1 a1 x153002_1 x153003_1 x153004_1 = some (r1, r2, r3, r4, r5)) ∧ Aside0 (kq ≤ k) ∧ Aside0 (Kd.N (Kd.slice 9 Kd.string) 24 w' w.heap.size (fun k_ => some k_ ≠ (u153002 : Value).ownBlock ∧ k_ ≠ gb148 ∧ k_ ≠ gb152) v150 t149) ∧ Aside0 (Kd.R Kd.string 9 w' w.heap.size (fun _ => True) u153002 x153002_1) ∧ Aside0 (w'.heap[gb148]? = some (.cells #[.bool false, .bool false, (.slice none 0 0), .bool false, .bool false] 26 (0, 0))) ∧ Aside0 (w'.heap[gb152]? = some (.cells #[.bool x153000_1, .bool a1, u153002, .bool x153003_1, .bool x153004_1] 26 (0, 0))) ∧ Aside0 (Below w.heap.size w w'))
  case atStart => exact ⟨(0), (false), (([] : List ByteArray)), (true), (true), (.slice none 0 0), (by first | rfl | (simp; done) | (simp [*]; done)), H', ⟨Nat.le_refl _⟩, ⟨by (with_reducible repeat (first | apply Kd.N_alloc | apply Kd.N_drewN | apply Kd.N_drew)); exact Kd.N_mono (Kd.N_far (p := ⟨gb152, 4, none⟩) (Kd.N_far (p := ⟨gb152, 3, none⟩) (Kd.N_far (p := ⟨gb152, 2, none⟩) (Kd.N_far (p := ⟨gb152, 1, none⟩) (Kd.N_far (p := ⟨gb152, 0, none⟩) (Kd.N_mono HO151.out (fun k_ hk => (⟨hk, hk.2⟩ : _ ∧ k_ ≠ gb152))) (fun _ hk => hk.2) (.bool false)) (fun _ hk => hk.2) (.bool a1)) (fun _ hk => hk.2) (.slice none 0 0)) (fun _ hk => hk.2) (.bool true)) (fun _ hk => hk.2) (.bool true)) (fun _ hk => ⟨(by simp [Value.ownBlock]), ⟨hk.1.1, hk.1.2⟩⟩)⟩, ⟨by first | exact Kd.R_nil _ _ _ _ _ | exact Kd.N_nil _ _ _ _ _ | exact Kd.V_nil _ _ _ _ _ | exact Kd.Q_nil _ _ _ _ _ | exact Kd.S_nil _ _ _ _ _⟩, ⟨by (with_reducible repeat (first | refine blk_drewN ?_ _ | refine blk_drew ?_ | refine blk_alloc ?_ _)); refine blk_far ?_ NB148_152.out _; (with_reducible repeat (first | refine blk_drewN ?_ _ | refine blk_drew ?_ | refine blk_alloc ?_ _)); refine blk_far ?_ NB148_152.out _; (with_reducible repeat (first | refine blk_drewN ?_ _ | refine blk_drew ?_ | refine blk_alloc ?_ _)); refine blk_far ?_ NB148_152.out _; (with_reducible repeat (first | refine blk_drewN ?_ _ | refine blk_drew ?_ | refine blk_alloc ?_ _)); refine blk_far ?_ NB148_152.out _; (with_reducible repeat (first | refine blk_drewN ?_ _ | refine blk_drew ?_ | refine blk_alloc ?_ _)); refine blk_far ?_ NB148_152.out _; (with_reducible repeat (first | refine blk_drewN ?_ _ | refine blk_drew ?_ | refine blk_alloc ?_ _)); exact BK148.out⟩, ⟨by (with_reducible repeat (first | refine blk_drewN ?_ _ | refine blk_drew ?_ | refine blk_alloc ?_ _)); refine blk_put (cs := #[.bool false, .bool a1, .slice none 0 0, .bool true, .bool false]) ?_ 4 _ rfl; (with_reducible repeat (first | refine blk_drewN ?_ _ | refine blk_drew ?_ | refine blk_alloc ?_ _)); refine blk_put (cs := #[.bool false, .bool a1, .slice none 0 0, .bool false, .bool false]) ?_ 3 _ rfl; (with_reducible repeat (first | refine blk_drewN ?_ _ | refine blk_drew ?_ | refine blk_alloc ?_ _)); refine blk_put (cs := #[.bool false, .bool a1, .slice none 0 0, .bool false, .bool false]) ?_ 2 _ rfl; (with_reducible repeat (first | refine blk_drewN ?_ _ | refine blk_drew ?_ | refine blk_alloc ?_ _)); refine blk_put (cs := #[.bool false, .bool false, .slice none 0 0, .bool false, .bool false]) ?_ 1 _ rfl; (with_reducible repeat (first | refine blk_drewN ?_ _ | refine blk_drew ?_ | refine blk_alloc ?_ _)); refine blk_put (cs := #[.bool false, .bool false, .slice none 0 0, .bool false, .bool false]) ?_ 0 _ rfl; (with_reducible repeat (first | refine blk_drewN ?_ _ | refine blk_drew ?_ | refine blk_alloc ?_ _)); exact BK152.out⟩, ⟨by repeat (first | (with_reducible first | exact HB.out | apply below_alloc | apply pw_below_drewN | apply below_drew1 | refine below_set ?_ GE148.out | refine below_set ?_ GE152.out) | exact HB.out)⟩⟩
  case round =>
    clear H'
    try clear c1
    try clear p2
    try clear c7
    try clear hcz8_0
    try clear hcz8_1
    try clear hcz8_2
    try clear hcz8_3
    try clear hcz8_4
    try clear hfz8_0
    try clear hfz8_1
    try clear hfz8_2
    try clear hfz8_3
    try clear hfz8_4
    obtain ⟨x7_1, x153000_1, x153002_1, x153003_1, x153004_1, u153002, rfl, HA, HK1, HO_5, HO_153002, BK148, BK152, HB⟩ := hrel
    cases gk with
    | zero => exact absurd HA.out (by simp [boltingref15_Parse.l0])
    | succ k1 =>
      have H := HA.out
      clear HA
      simp only [boltingref15_Parse.l0] at H
      by_cases c9 : x7_1 < (t149.length : Int)
      · rw [if_pos c9] at H
        have c9b0 : decide (x7_1 < (t149.length : Int)) = true := decide_eq_true c9
        clear c9
        by_cases c10 : 0 ≤ x7_1
        · rw [if_pos c10] at H
          have c10b0 : decide (0 ≤ x7_1) = true := decide_eq_true c10
          clear c10
          by_cases c11 : 1 ≤ ((rd_L1 t149 x7_1).length : Int)
          · rw [if_pos c11] at H
            have c11b0 := eq_true c11
            have c11b1 : decide (1 ≤ ((rd_L1 t149 x7_1).length : Int)) = true := decide_eq_true c11
            clear c11
            obtain ⟨y154, hy154⟩ : ∃ y_ : List ByteArray, y_ = ((rd_L1 t149 x7_1).drop 1) := ⟨_, rfl⟩
            replace H : (if 0 < ((rd_L1 t149 x7_1).length : Int) then (if (rdOf ByteArray.empty (rd_L1 t149 x7_1) 0).toList = ([114, 101, 113, 117, 105, 114, 101, 45, 116, 114, 117, 115, 116, 101, 100, 45, 116, 121, 112, 101, 115, 45, 102, 111, 114] : List UInt8) then ((boltingref02_Has.f k1 y154 (⟨#[39, 115, 99, 114, 105, 112, 116, 39]⟩ : ByteArray)).bind fun t161 => (boltingref15_Parse.j1 k1 t149 x7_1 y154 t161 a1 x153002_1 x153003_1 x153004_1)) else (boltingref15_Parse.j1 k1 t149 x7_1 y154 x153000_1 a1 x153002_1 x153003_1 x153004_1)) else (none)) = some (r1, r2, r3, r4, r5) := by first | (rw [hy154]; with_reducible exact H) | (have H2_ := (Option.bind_some _ _).symm.trans H; rw [hy154]; with_reducible exact H2_) | (have H2_ := (Option.bind_some _ _).symm.trans H; with_reducible exact H2_) | with_reducible exact H | (rw [hy154]; exact H) | exact H
            have Ny154 := Aside0.mk hy154
            clear hy154
            by_cases c12 : 0 < ((rd_L1 t149 x7_1).length : Int)
            · rw [if_pos c12] at H
              have c12b0 : decide (0 < ((rd_L1 t149 x7_1).length : Int)) = true := decide_eq_true c12
              have c12b1 : decide (0 < (rd_L1 t149 x7_1).length) = true := decide_eq_true (by omega)
              clear c12
              have HC13 := Aside0.mk H
              clear H
              obtain ⟨Ao14, co14, eo14⟩ := Kd.N_slice HO_5.out
              subst eo14
              have p153 : 0 ≤ (x7_1 : Int) := of_decide_eq_true (by first | (with_reducible assumption) | assumption)
              have q153 : x7_1 < (t149.length : Int) := of_decide_eq_true (by first | (with_reducible assumption) | assumption)
              obtain ⟨ad153, A153_0, c153_0, e153, hx153_0, hl153_0, hi153_0⟩ := at_L1 (Kd.N_reads' HO_5.out).2.2 x7_1 p153 q153
              cases e153
              obtain ⟨ce153, hce153, hMe153, hcc153⟩ := Kd.N_get HO_5.out [] x7_1 p153 (by first | exact q153 | exact of_decide_eq_true (by first | (with_reducible assumption) | assumption) | (have e_ := (Kd.N_reads' HO_5.out).1; omega))
              obtain ⟨ua153_0, uc153_0, rfl, ul153_0, ge153_0⟩ := Kd.FK_slice_open hMe153
              have hv153_0 := hcc153 0 _ rfl
              rw [Nat.add_zero, show ((Kd.slice 9 Kd.string)).sz = 1 from rfl, Nat.mul_one] at hv153_0
              replace hv153_0 := Option.some.inj (hv153_0.symm.trans hx153_0)
              injection hv153_0 with hva_ hvn_ hvc_
              rw [hva_] at ge153_0
              rw [hvc_] at ul153_0
              have HL153_0 := Aside0.mk (show Kd.V Kd.string 9 _ w.heap.size _ _ (rd_L1 t149 x7_1) from Kd.V_mk ul153_0 ge153_0)
              clear hva_ hvn_ hvc_ ge153_0 ul153_0
              clear hcc153 hce153
              have HR153_0 := Aside0.mk hi153_0
              have HC153_0 := Aside0.mk hl153_0
              clear hi153_0 hl153_0
              replace p153 := eq_true p153
              replace q153 := eq_true q153
              have q15 : (1 : Int) ≤ (((rd_L1 t149 x7_1).length : Int) : Int) := of_decide_eq_true (by first | (with_reducible assumption) | assumption)
              obtain ⟨i015, hi015, _, hsz15, _⟩ := info_parts info9
              have hroom15 : (rd_L1 t149 x7_1).length ≤ c153_0 := HC153_0.out
              have hC15 : Kd.F Kd.string _ _ A153_0 (rd_L1 t149 x7_1).length (rd_L1 t149 x7_1) := (Kd.V_at (base := w.heap.size) HL153_0.out).2.2
              have hcut15 := cut_from (P := Tryd.prog) 24 9 .i64 Tryd.underlying24 hi015 1 hsz15 A153_0 (rd_L1 t149 x7_1).length c153_0 1 (by omega) q15
              have hr15 := Kd.F_cut (m := (1 : Int).toNat) (c := c153_0) hC15 (by omega) hroom15
              obtain ⟨A15, hA15⟩ : ∃ A1, A1 = (if c153_0 = (1 : Int).toNat then A153_0 else (A153_0 : Option Addr).map (·.add ((1 : Int).toNat * 1))) := ⟨_, rfl⟩
              obtain ⟨c15, hc15⟩ : ∃ c1, c1 = c153_0 - (1 : Int).toNat := ⟨_, rfl⟩
              have hy15 : y154.length = (rd_L1 t149 x7_1).length - (1 : Int).toNat := (by rw [Ny154.out, List.length_drop] <;> omega)
              rw [show (rd_L1 t149 x7_1).drop (1 : Int).toNat = y154 from Ny154.out.symm] at hr15
              replace hr15 : Kd.F Kd.string _ _ A15 y154.length y154 := (by rw [hA15]; exact hr15)
              rw [← hy15, ← hA15, ← hc15] at hcut15
              have HO158 := Aside0.mk (show Kd.V Kd.string 9 _ w.heap.size _ (.slice A15 y154.length c15) y154 from Kd.V_mk (by rw [hy15, hc15]; exact Nat.sub_le_sub_right hroom15 _) hr15)
              have HC158 := Aside0.mk (show y154.length ≤ c15 from by rw [hy15, hc15]; exact Nat.sub_le_sub_right hroom15 _)
              clear hr15 hC15 hroom15 hi015 hsz15 hc15
              have KY15 := Aside0.mk hy15
              have KA15 := Aside0.mk hA15
              clear hy15 hA15
              replace q15 := eq_true q15
              have p159 : 0 ≤ (x7_1 : Int) := of_decide_eq_true (by first | (with_reducible assumption) | assumption)
              have q159 : x7_1 < (t149.length : Int) := of_decide_eq_true (by first | (with_reducible assumption) | assumption)
              obtain ⟨ad159, A159_0, c159_0, e159, hx159_0, hl159_0, hi159_0⟩ := at_L1 (Kd.N_reads' HO_5.out).2.2 x7_1 p159 q159
              obtain rfl : ad153 = ad159 := (by injection e159)
              obtain ⟨ce159, hce159, hMe159, hcc159⟩ := Kd.N_get HO_5.out [] x7_1 p159 (by first | exact q159 | exact of_decide_eq_true (by first | (with_reducible assumption) | assumption) | (have e_ := (Kd.N_reads' HO_5.out).1; omega))
              obtain ⟨ua159_0, uc159_0, rfl, ul159_0, ge159_0⟩ := Kd.FK_slice_open hMe159
              have hv159_0 := hcc159 0 _ rfl
              rw [Nat.add_zero, show ((Kd.slice 9 Kd.string)).sz = 1 from rfl, Nat.mul_one] at hv159_0
              replace hv159_0 := Option.some.inj (hv159_0.symm.trans hx159_0)
              injection hv159_0 with hva_ hvn_ hvc_
              rw [hva_] at ge159_0
              rw [hvc_] at ul159_0
              have HL159_0 := Aside0.mk (show Kd.V Kd.string 9 _ w.heap.size _ _ (rd_L1 t149 x7_1) from Kd.V_mk ul159_0 ge159_0)
              clear hva_ hvn_ hvc_ ge159_0 ul159_0
              clear hcc159 hce159
              have HR159_0 := Aside0.mk hi159_0
              have HC159_0 := Aside0.mk hl159_0
              clear hi159_0 hl159_0
              replace p159 := eq_true p159
              replace q159 := eq_true q159
              have ea_ := Option.some.inj (hx153_0.symm.trans hx159_0)
              injection ea_ with ea_ en_ ec_
              subst ea_
              subst ec_
              clear en_
              have p160 : 0 ≤ (0 : Int) := (by omega)
              have q160 : 0 < ((rd_L1 t149 x7_1).length : Int) := of_decide_eq_true (by first | (with_reducible assumption) | assumption)
              obtain ⟨ad160, e160, hx160_0⟩ := Kd.at_string (by repeat (first | (with_reducible exact HR159_0.out) | (with_reducible refine Kd.C_alloc ?_ _) | (with_reducible refine Kd.C_drewN ?_ _) | (with_reducible refine Kd.C_drew ?_) | exact HR159_0.out)) 0 p160 q160
              cases e160
              have qi160 : (0 < (rd_L1 t149 x7_1).length) = True := eq_true (by omega)
              (try rw [show ((0 : Int)).toNat = 0 from rfl] at hx160_0)
              (try rw [Addr.add_zero'] at hx160_0)
              replace p160 := eq_true p160
              replace q160 := eq_true q160
              go_upto_if 31 with (fail)
              go_cut [] (fun wc => ∃ (kq : Nat) (x153000_12 : Bool), Aside0 (boltingref15_Parse.j1 kq t149 x7_1 y154 x153000_12 a1 x153002_1 x153003_1 x153004_1 = some (r1, r2, r3, r4, r5)) ∧ Aside0 (kq ≤ k1) ∧ Aside0 (Kd.N (Kd.slice 9 Kd.string) 24 wc w.heap.size (fun k_ => some k_ ≠ (u153002 : Value).ownBlock ∧ k_ ≠ gb148 ∧ k_ ≠ gb152) (.slice (some ad153) t149.length co14) t149) ∧ Aside0 (Kd.V Kd.string 9 wc w.heap.size (fun k_ => some k_ ≠ ((.slice (some ad153) t149.length co14) : Value).ownBlock ∧ some k_ ≠ (u153002 : Value).ownBlock ∧ k_ ≠ gb148 ∧ k_ ≠ gb152) (.slice A15 y154.length c15) y154) ∧ Aside0 (Kd.R Kd.string 9 wc w.heap.size (fun _ => True) u153002 x153002_1) ∧ Aside0 (wc.heap[gb148]? = some (.cells #[.bool false, .bool false, (.slice none 0 0), .bool false, .bool false] 26 (0, 0))) ∧ Aside0 (wc.heap[gb152]? = some (.cells #[.bool x153000_12, .bool a1, u153002, .bool x153003_1, .bool x153004_1] 26 (0, 0))) ∧ Aside0 (Kd.C Kd.string wc (some ad160) (rd_L1 t149 x7_1).length (rd_L1 t149 x7_1)) ∧ Aside0 (Kd.C Kd.string wc (some ad160) (rd_L1 t149 x7_1).length (rd_L1 t149 x7_1)) ∧ Aside0 (Below w.heap.size w wc))
              case first =>
                have H := HC13.out
                clear HC13
                by_cases c16 : (rdOf ByteArray.empty (rd_L1 t149 x7_1) 0).toList = ([114, 101, 113, 117, 105, 114, 101, 45, 116, 114, 117, 115, 116, 101, 100, 45, 116, 121, 112, 101, 115, 45, 102, 111, 114] : List UInt8)
                · rw [if_pos c16] at H
                  have c16b0 : ((rdOf ByteArray.empty (rd_L1 t149 x7_1) 0).toList == ([114, 101, 113, 117, 105, 114, 101, 45, 116, 114, 117, 115, 116, 101, 100, 45, 116, 121, 112, 101, 115, 45, 102, 111, 114] : List UInt8)) = true := beq_iff_eq.mpr c16
                  have c16b1 : ((rdOf ByteArray.empty (rd_L1 t149 x7_1) 0).toList != ([114, 101, 113, 117, 105, 114, 101, 45, 116, 114, 117, 115, 116, 101, 100, 45, 116, 121, 112, 101, 115, 45, 102, 111, 114] : List UInt8)) = false := bne_eq_false_iff_eq.mpr c16
                  clear c16
                  (first | rw [c16b0] | (simp only [i64_w, i32_w]; rw [c16b0]) | skip)
                  replace H := Option.bind_eq_some_iff.mp H
                  obtain ⟨t161, A170, H⟩ := H
                  replace H : (boltingref15_Parse.j1 k1 t149 x7_1 y154 t161 a1 x153002_1 x153003_1 x153004_1) = some (r1, r2, r3, r4, r5) := H
                  have A17 := Aside0.mk A170
                  clear A170
                  have H' := Aside0.mk H
                  clear H
                  go_wp2_with (first | ((with_reducible refine gate_callee (f := 22) rfl ?_); refine goesL_ (some 33) rfl rfl Tryd.func22 (by kernel_rfl) rfl #[.slice A15 y154.length c15, .string (⟨#[39, 115, 99, 114, 105, 112, 116, 39]⟩ : ByteArray)] rfl (by (try simp only [List.map_toArray, List.map_cons, List.map_nil]); first | done | rfl | (simp only [List.length_drop, List.length_take]; rfl)) ?_; (with_reducible refine (boltingref02_Has.calls k1 _ _ y154 (⟨#[39, 115, 99, 114, 105, 112, 116, 39]⟩ : ByteArray) t161 _ ?side1 ?side2 A17.out).mono ?_); (case side1 => repeat (first | exact (Kd.V_reads' HO158.out).2.2 | (with_reducible refine Kd.C_alloc ?_ _) | (with_reducible refine Kd.C_drewN ?_ _) | (with_reducible refine Kd.C_drew ?_))); (case side2 => exact (Kd.V_reads' HO158.out).2.1); rintro e w' ⟨rfl, ⟨nd, rfl⟩⟩; refine ⟨_, rfl, ?_⟩; (try (rw [drewN_self wr]; generalize hq_ : World.drewN wr _ = wr; have n0_ : Aside0 (Kd.V Kd.string 9 wr w.heap.size (fun k_ => some k_ ≠ (u153002 : Value).ownBlock ∧ some k_ ≠ (.slice (some ad153) t149.length co14 : Value).ownBlock ∧ k_ ≠ gb148 ∧ k_ ≠ gb152) (.slice (some ad160) (rd_L1 t149 x7_1).length c153_0) (rd_L1 t149 x7_1)) := ⟨by rw [← hq_]; exact (by (with_reducible repeat (first | apply Kd.V_alloc | apply Kd.V_drewN | apply Kd.V_drew)); exact Kd.V_mono HL153_0.out (fun _ hk => ⟨hk.1.1, ⟨hk.2, ⟨hk.1.2.1, hk.1.2.2⟩⟩⟩))⟩; have n1_ : Aside0 (Kd.V Kd.string 9 wr w.heap.size (fun k_ => some k_ ≠ (u153002 : Value).ownBlock ∧ some k_ ≠ (.slice (some ad153) t149.length co14 : Value).ownBlock ∧ k_ ≠ gb148 ∧ k_ ≠ gb152) (.slice A153_0 (rd_L1 t149 x7_1).length c153_0) (rd_L1 t149 x7_1)) := ⟨by rw [← hq_]; exact (by (with_reducible repeat (first | apply Kd.V_alloc | apply Kd.V_drewN | apply Kd.V_drew)); exact Kd.V_mono HL159_0.out (fun _ hk => ⟨hk.1.1, ⟨hk.2, ⟨hk.1.2.1, hk.1.2.2⟩⟩⟩))⟩; have n2_ : Aside0 (Kd.V Kd.string 9 wr w.heap.size (fun k_ => some k_ ≠ (u153002 : Value).ownBlock ∧ some k_ ≠ (.slice (some ad153) t149.length co14 : Value).ownBlock ∧ k_ ≠ gb148 ∧ k_ ≠ gb152) (.slice A15 y154.length c15) y154) := ⟨by rw [← hq_]; exact (by (with_reducible repeat (first | apply Kd.V_alloc | apply Kd.V_drewN | apply Kd.V_drew)); exact Kd.V_mono HO158.out (fun _ hk => ⟨hk.1.1, ⟨hk.2, ⟨hk.1.2.1, hk.1.2.2⟩⟩⟩))⟩; have n3_ : Aside0 (Kd.R Kd.string 9 wr w.heap.size (fun _ => True) u153002 x153002_1) := ⟨by rw [← hq_]; exact (by (with_reducible repeat (first | apply Kd.R_alloc | apply Kd.R_drewN | apply Kd.R_drew)); exact HO_153002.out)⟩; have n4_ : Aside0 (Kd.N (Kd.slice 9 Kd.string) 24 wr w.heap.size (fun k_ => some k_ ≠ (u153002 : Value).ownBlock ∧ k_ ≠ gb148 ∧ k_ ≠ gb152) (.slice (some ad153) t149.length co14) t149) := ⟨by rw [← hq_]; exact (by (with_reducible repeat (first | apply Kd.N_alloc | apply Kd.N_drewN | apply Kd.N_drew)); exact HO_5.out)⟩; have n5_ : Aside0 (wr.heap[gb148]? = some (.cells #[.bool false, .bool false, .slice none 0 0, .bool false, .bool false] 26 (0, 0))) := ⟨by rw [← hq_]; exact (by (with_reducible repeat (first | refine blk_drewN ?_ _ | refine blk_drew ?_ | refine blk_alloc ?_ _)); exact BK148.out)⟩; have n6_ : Aside0 (wr.heap[gb152]? = some (.cells #[.bool x153000_1, .bool a1, u153002, .bool x153003_1, .bool x153004_1] 26 (0, 0))) := ⟨by rw [← hq_]; exact (by (with_reducible repeat (first | refine blk_drewN ?_ _ | refine blk_drew ?_ | refine blk_alloc ?_ _)); exact BK152.out)⟩; have n7_ : Aside0 (Below w.heap.size w wr) := ⟨by rw [← hq_]; exact (by repeat (first | (with_reducible first | exact HB.out | apply below_alloc | apply pw_below_drewN | apply below_drew1 | refine below_set ?_ GE148.out | refine below_set ?_ GE152.out) | exact HB.out))⟩; have n8_ : Aside0 (Kd.C Kd.string wr (some ad160) (rd_L1 t149 x7_1).length (rd_L1 t149 x7_1)) := ⟨by rw [← hq_]; exact (by repeat (first | (with_reducible exact HR153_0.out) | (with_reducible refine Kd.C_alloc ?_ _) | (with_reducible refine Kd.C_drewN ?_ _) | (with_reducible refine Kd.C_drew ?_) | exact HR153_0.out))⟩; have n9_ : Aside0 (Kd.C Kd.string wr A153_0 (rd_L1 t149 x7_1).length (rd_L1 t149 x7_1)) := ⟨by rw [← hq_]; exact (by repeat (first | (with_reducible exact HR159_0.out) | (with_reducible refine Kd.C_alloc ?_ _) | (with_reducible refine Kd.C_drewN ?_ _) | (with_reducible refine Kd.C_drew ?_) | exact HR159_0.out))⟩; clear HL153_0 HL159_0 HO158 HO_153002 HO_5 BK148 BK152 HB HR153_0 HR159_0 hq_; have HL153_0 := n0_; have HL159_0 := n1_; have HO158 := n2_; have HO_153002 := n3_; have HO_5 := n4_; have BK148 := n5_; have BK152 := n6_; have HB := n7_; have HR153_0 := n8_; have HR159_0 := n9_; clear n0_ n1_ n2_ n3_ n4_ n5_ n6_ n7_ n8_ n9_)); have hnb18 := NB152_148.out; have hnc18 := NB148_152.out; have hcz19_0 : wr.cell? ⟨gb152, 0, none⟩ = some (.bool x153000_1) := (blk_cell BK152.out 0).trans rfl; have hcz19_1 : wr.cell? ⟨gb152, 1, none⟩ = some (.bool a1) := (blk_cell BK152.out 1).trans rfl; have hcz19_2 : wr.cell? ⟨gb152, 2, none⟩ = some (u153002) := (blk_cell BK152.out 2).trans rfl; have hcz19_3 : wr.cell? ⟨gb152, 3, none⟩ = some (.bool x153003_1) := (blk_cell BK152.out 3).trans rfl; have hcz19_4 : wr.cell? ⟨gb152, 4, none⟩ = some (.bool x153004_1) := (blk_cell BK152.out 4).trans rfl; have hfz19_0 := blk_frozen BK152.out 0; have hfz19_1 := blk_frozen BK152.out 1; have hfz19_2 := blk_frozen BK152.out 2; have hfz19_3 := blk_frozen BK152.out 3; have hfz19_4 := blk_frozen BK152.out 4))
                  go_meet
                  case rel => exact ⟨_, (t161), H', ⟨by have := HK1.out; first | omega | exact Nat.le_refl _⟩, ⟨by (with_reducible repeat (first | apply Kd.N_alloc | apply Kd.N_drewN | apply Kd.N_drew)); exact Kd.N_mono (Kd.N_far (p := ⟨gb152, 0, none⟩) (Kd.N_mono HO_5.out (fun k_ hk => (⟨hk, hk.2.2⟩ : _ ∧ k_ ≠ gb152))) (fun _ hk => hk.2) (.bool t161)) (fun _ hk => ⟨hk.1.1, ⟨hk.1.2.1, hk.1.2.2⟩⟩)⟩, ⟨by (with_reducible repeat (first | apply Kd.V_alloc | apply Kd.V_drewN | apply Kd.V_drew)); exact Kd.V_mono (e := 0) (base := 0) (Kd.V_far (p := ⟨gb152, 0, none⟩) (Kd.V_mono HO158.out (fun k_ hk => (⟨hk, hk.1.2.2⟩ : _ ∧ k_ ≠ gb152))) (fun _ hk => hk.2) (.bool t161)) (fun _ hk => ⟨hk.1.2, ⟨hk.1.1.1, ⟨hk.1.1.2.1, hk.1.1.2.2⟩⟩⟩)⟩, ⟨by (with_reducible repeat (first | apply Kd.R_alloc | apply Kd.R_drewN | apply Kd.R_drew)); exact Kd.R_mono (Kd.R_far (p := ⟨gb152, 0, none⟩) (Kd.R_types HO_153002.out BK152.out (by decide)) (fun _ hk => hk.2) (.bool t161)) (fun _ hk => trivial)⟩, ⟨by (with_reducible repeat (first | refine blk_drewN ?_ _ | refine blk_drew ?_ | refine blk_alloc ?_ _)); refine blk_far ?_ NB148_152.out _; (with_reducible repeat (first | refine blk_drewN ?_ _ | refine blk_drew ?_ | refine blk_alloc ?_ _)); exact BK148.out⟩, ⟨by (with_reducible repeat (first | refine blk_drewN ?_ _ | refine blk_drew ?_ | refine blk_alloc ?_ _)); refine blk_put (cs := #[.bool x153000_1, .bool a1, u153002, .bool x153003_1, .bool x153004_1]) ?_ 0 _ rfl; (with_reducible repeat (first | refine blk_drewN ?_ _ | refine blk_drew ?_ | refine blk_alloc ?_ _)); exact BK152.out⟩, ⟨(Kd.V_reads' (e := 0) (base := 0) (by (with_reducible repeat (first | apply Kd.V_alloc | apply Kd.V_drewN | apply Kd.V_drew)); exact (Kd.V_mono (e := 0) (base := 0) (Kd.V_far (p := ⟨gb152, 0, none⟩) (Kd.V_mono HL153_0.out (fun k_ hk => (⟨hk, hk.1.2.2⟩ : _ ∧ k_ ≠ gb152))) (fun _ hk => hk.2) (.bool t161)) (fun _ h_ => h_.1)))).2.2⟩, ⟨(Kd.V_reads' (e := 0) (base := 0) (by (with_reducible repeat (first | apply Kd.V_alloc | apply Kd.V_drewN | apply Kd.V_drew)); exact (Kd.V_mono (e := 0) (base := 0) (Kd.V_far (p := ⟨gb152, 0, none⟩) (Kd.V_mono HL159_0.out (fun k_ hk => (⟨hk, hk.1.2.2⟩ : _ ∧ k_ ≠ gb152))) (fun _ hk => hk.2) (.bool t161)) (fun _ h_ => h_.1)))).2.2⟩, ⟨by repeat (first | (with_reducible first | exact HB.out | apply below_alloc | apply pw_below_drewN | apply below_drew1 | refine below_set ?_ GE148.out | refine below_set ?_ GE152.out) | exact HB.out)⟩⟩
                · rw [if_neg c16] at H
                  have c16b0 : ((rdOf ByteArray.empty (rd_L1 t149 x7_1) 0).toList == ([114, 101, 113, 117, 105, 114, 101, 45, 116, 114, 117, 115, 116, 101, 100, 45, 116, 121, 112, 101, 115, 45, 102, 111, 114] : List UInt8)) = false := beq_eq_false_iff_ne.mpr c16
                  have c16b1 : ((rdOf ByteArray.empty (rd_L1 t149 x7_1) 0).toList != ([114, 101, 113, 117, 105, 114, 101, 45, 116, 114, 117, 115, 116, 101, 100, 45, 116, 121, 112, 101, 115, 45, 102, 111, 114] : List UInt8)) = true := bne_iff_ne.mpr c16
                  (first | rw [c16b0] | (simp only [i64_w, i32_w]; rw [c16b0]) | skip)
                  have H' := Aside0.mk H
                  clear H
                  go_wp2
                  go_meet
                  case rel => exact ⟨_, (x153000_1), H', ⟨by have := HK1.out; first | omega | exact Nat.le_refl _⟩, ⟨by (with_reducible repeat (first | apply Kd.N_alloc | apply Kd.N_drewN | apply Kd.N_drew)); exact HO_5.out⟩, ⟨by (with_reducible repeat (first | apply Kd.V_alloc | apply Kd.V_drewN | apply Kd.V_drew)); exact Kd.V_mono HO158.out (fun _ hk => ⟨hk.2, ⟨hk.1.1, ⟨hk.1.2.1, hk.1.2.2⟩⟩⟩)⟩, ⟨by (with_reducible repeat (first | apply Kd.R_alloc | apply Kd.R_drewN | apply Kd.R_drew)); exact HO_153002.out⟩, ⟨by (with_reducible repeat (first | refine blk_drewN ?_ _ | refine blk_drew ?_ | refine blk_alloc ?_ _)); exact BK148.out⟩, ⟨by (with_reducible repeat (first | refine blk_drewN ?_ _ | refine blk_drew ?_ | refine blk_alloc ?_ _)); exact BK152.out⟩, ⟨by repeat (first | (with_reducible exact HR153_0.out) | (with_reducible refine Kd.C_alloc ?_ _) | (with_reducible refine Kd.C_drewN ?_ _) | (with_reducible refine Kd.C_drew ?_) | exact HR153_0.out)⟩, ⟨by repeat (first | (with_reducible exact HR159_0.out) | (with_reducible refine Kd.C_alloc ?_ _) | (with_reducible refine Kd.C_drewN ?_ _) | (with_reducible refine Kd.C_drew ?_) | exact HR159_0.out)⟩, ⟨by repeat (first | (with_reducible first | exact HB.out | apply below_alloc | apply pw_below_drewN | apply below_drew1 | refine below_set ?_ GE148.out | refine below_set ?_ GE152.out) | exact HB.out)⟩⟩
              case rest =>
                clear HC13
                try clear c1
                try clear p1
                try clear q1
                try clear hx1
                try clear qi1
                try clear c2
                try clear p2
                try clear c7
                try clear c9
                try clear c9b0
                try clear c10
                try clear c10b0
                try clear c11
                try clear c11b0
                try clear c11b1
                try clear c12
                try clear c12b0
                try clear c12b1
                try clear c15
                try clear p15
                try clear q15
                try clear hx15
                try clear c16
                try clear c16b0
                try clear c16b1
                try clear p16
                try clear q16
                try clear hx16
                try clear qi16
                try clear c18
                try clear hcz19_0
                try clear hcz19_1
                try clear hcz19_2
                try clear hcz19_3
                try clear hcz19_4
                try clear hcz8_0
                try clear hcz8_1
                try clear hcz8_2
                try clear hcz8_3
                try clear hcz8_4
                try clear hfz19_0
                try clear hfz19_1
                try clear hfz19_2
                try clear hfz19_3
                try clear hfz19_4
                try clear hfz8_0
                try clear hfz8_1
                try clear hfz8_2
                try clear hfz8_3
                try clear hfz8_4
                try clear hx153_0
                try clear hx159_0
                try clear hx160_0
                try clear p153
                try clear p159
                try clear p160
                try clear p2
                try clear q15
                try clear q153
                try clear q159
                try clear q160
                obtain ⟨kq, x153000_12, HA, HJ12, HO_5, HO_8, HO_153002, BK148, BK152, HR153_0, HR159_0, HB⟩ := hcut
                cases kq with
                | zero => exact absurd HA.out (by simp [boltingref15_Parse.j1])
                | succ kj12 =>
                  have H := HA.out
                  clear HA
                  simp only [boltingref15_Parse.j1] at H
                  by_cases c20 : 0 ≤ x7_1
                  · rw [if_pos c20] at H
                    have c20b0 : decide (0 ≤ x7_1) = true := decide_eq_true c20
                    clear c20
                    by_cases c21 : x7_1 < (t149.length : Int)
                    · rw [if_pos c21] at H
                      have c21b0 : decide (x7_1 < (t149.length : Int)) = true := decide_eq_true c21
                      clear c21
                      by_cases c22 : 0 < ((rd_L1 t149 x7_1).length : Int)
                      · rw [if_pos c22] at H
                        have c22b0 : decide (0 < ((rd_L1 t149 x7_1).length : Int)) = true := decide_eq_true c22
                        have c22b1 : decide (0 < (rd_L1 t149 x7_1).length) = true := decide_eq_true (by omega)
                        clear c22
                        by_cases c23 : (rdOf ByteArray.empty (rd_L1 t149 x7_1) 0).toList = ([116, 114, 117, 115, 116, 101, 100, 45, 116, 121, 112, 101, 115] : List UInt8)
                        · rw [if_pos c23] at H
                          have c23b0 : ((rdOf ByteArray.empty (rd_L1 t149 x7_1) 0).toList == ([116, 114, 117, 115, 116, 101, 100, 45, 116, 121, 112, 101, 115] : List UInt8)) = true := beq_iff_eq.mpr c23
                          have c23b1 : ((rdOf ByteArray.empty (rd_L1 t149 x7_1) 0).toList != ([116, 114, 117, 115, 116, 101, 100, 45, 116, 121, 112, 101, 115] : List UInt8)) = false := bne_eq_false_iff_eq.mpr c23
                          clear c23
                          replace H := Option.bind_eq_some_iff.mp H
                          obtain ⟨t164, A240, H⟩ := H
                          replace H : ((boltingref02_Has.f kj12 y154 (⟨#[39, 97, 108, 108, 111, 119, 45, 100, 117, 112, 108, 105, 99, 97, 116, 101, 115, 39]⟩ : ByteArray)).bind fun t165 => (boltingref15_Parse.l1 kj12 t149 x7_1 y154 0 x153000_12 a1 x153002_1 t164 t165)) = some (r1, r2, r3, r4, r5) := H
                          have A24 := Aside0.mk A240
                          clear A240
                          replace H := Option.bind_eq_some_iff.mp H
                          obtain ⟨t165, A250, H⟩ := H
                          replace H : (boltingref15_Parse.l1 kj12 t149 x7_1 y154 0 x153000_12 a1 x153002_1 t164 t165) = some (r1, r2, r3, r4, r5) := H
                          have A25 := Aside0.mk A250
                          clear A250
                          have H' := Aside0.mk H
                          clear H
                          have p162 : 0 ≤ (x7_1 : Int) := of_decide_eq_true (by first | (with_reducible assumption) | assumption)
                          have q162 : x7_1 < (t149.length : Int) := of_decide_eq_true (by first | (with_reducible assumption) | assumption)
                          obtain ⟨ad162, A162_0, c162_0, e162, hx162_0, hl162_0, hi162_0⟩ := at_L1 (Kd.N_reads' HO_5.out).2.2 x7_1 p162 q162
                          obtain rfl : ad153 = ad162 := (by injection e162)
                          obtain ⟨ce162, hce162, hMe162, hcc162⟩ := Kd.N_get HO_5.out [] x7_1 p162 (by first | exact q162 | exact of_decide_eq_true (by first | (with_reducible assumption) | assumption) | (have e_ := (Kd.N_reads' HO_5.out).1; omega))
                          obtain ⟨ua162_0, uc162_0, rfl, ul162_0, ge162_0⟩ := Kd.FK_slice_open hMe162
                          have hv162_0 := hcc162 0 _ rfl
                          rw [Nat.add_zero, show ((Kd.slice 9 Kd.string)).sz = 1 from rfl, Nat.mul_one] at hv162_0
                          replace hv162_0 := Option.some.inj (hv162_0.symm.trans hx162_0)
                          injection hv162_0 with hva_ hvn_ hvc_
                          rw [hva_] at ge162_0
                          rw [hvc_] at ul162_0
                          have HL162_0 := Aside0.mk (show Kd.V Kd.string 9 _ w.heap.size _ _ (rd_L1 t149 x7_1) from Kd.V_mk ul162_0 ge162_0)
                          clear hva_ hvn_ hvc_ ge162_0 ul162_0
                          clear hcc162 hce162
                          have HR162_0 := Aside0.mk hi162_0
                          have HC162_0 := Aside0.mk hl162_0
                          clear hi162_0 hl162_0
                          replace p162 := eq_true p162
                          replace q162 := eq_true q162
                          have p163 : 0 ≤ (0 : Int) := (by omega)
                          have q163 : 0 < ((rd_L1 t149 x7_1).length : Int) := of_decide_eq_true (by first | (with_reducible assumption) | assumption)
                          obtain ⟨ad163, e163, hx163_0⟩ := Kd.at_string (by repeat (first | (with_reducible exact HR162_0.out) | (with_reducible refine Kd.C_alloc ?_ _) | (with_reducible refine Kd.C_drewN ?_ _) | (with_reducible refine Kd.C_drew ?_) | exact HR162_0.out)) 0 p163 q163
                          cases e163
                          have qi163 : (0 < (rd_L1 t149 x7_1).length) = True := eq_true (by omega)
                          (try rw [show ((0 : Int)).toNat = 0 from rfl] at hx163_0)
                          (try rw [Addr.add_zero'] at hx163_0)
                          replace p163 := eq_true p163
                          replace q163 := eq_true q163
                          go_wp2_with (first | ((with_reducible refine gate_callee (f := 22) rfl ?_); refine goesL_ (some 43) rfl rfl Tryd.func22 (by kernel_rfl) rfl #[.slice A15 y154.length c15, .string (⟨#[42]⟩ : ByteArray)] rfl (by (try simp only [List.map_toArray, List.map_cons, List.map_nil]); first | done | rfl | (simp only [List.length_drop, List.length_take]; rfl)) ?_; (with_reducible refine (boltingref02_Has.calls kj12 _ _ y154 (⟨#[42]⟩ : ByteArray) t164 _ ?side1 ?side2 A24.out).mono ?_); (case side1 => repeat (first | exact (Kd.V_reads' HO_8.out).2.2 | (with_reducible refine Kd.C_alloc ?_ _) | (with_reducible refine Kd.C_drewN ?_ _) | (with_reducible refine Kd.C_drew ?_))); (case side2 => exact (Kd.V_reads' HO_8.out).2.1); rintro e w' ⟨rfl, ⟨nd, rfl⟩⟩; refine ⟨_, rfl, ?_⟩; (try (rw [drewN_self wc]; generalize hq_ : World.drewN wc _ = wc; have n0_ : Aside0 (Kd.V Kd.string 9 wc w.heap.size (fun k_ => some k_ ≠ (u153002 : Value).ownBlock ∧ some k_ ≠ (.slice (some ad153) t149.length co14 : Value).ownBlock ∧ k_ ≠ gb148 ∧ k_ ≠ gb152) (.slice (some ad163) (rd_L1 t149 x7_1).length c162_0) (rd_L1 t149 x7_1)) := ⟨by rw [← hq_]; exact (by (with_reducible repeat (first | apply Kd.V_alloc | apply Kd.V_drewN | apply Kd.V_drew)); exact Kd.V_mono HL162_0.out (fun _ hk => ⟨hk.1.1, ⟨hk.2, ⟨hk.1.2.1, hk.1.2.2⟩⟩⟩))⟩; have n1_ : Aside0 (Kd.R Kd.string 9 wc w.heap.size (fun _ => True) u153002 x153002_1) := ⟨by rw [← hq_]; exact (by (with_reducible repeat (first | apply Kd.R_alloc | apply Kd.R_drewN | apply Kd.R_drew)); exact HO_153002.out)⟩; have n2_ : Aside0 (Kd.N (Kd.slice 9 Kd.string) 24 wc w.heap.size (fun k_ => some k_ ≠ (u153002 : Value).ownBlock ∧ k_ ≠ gb148 ∧ k_ ≠ gb152) (.slice (some ad153) t149.length co14) t149) := ⟨by rw [← hq_]; exact (by (with_reducible repeat (first | apply Kd.N_alloc | apply Kd.N_drewN | apply Kd.N_drew)); exact HO_5.out)⟩; have n3_ : Aside0 (Kd.V Kd.string 9 wc w.heap.size (fun k_ => some k_ ≠ (u153002 : Value).ownBlock ∧ some k_ ≠ (.slice (some ad153) t149.length co14 : Value).ownBlock ∧ k_ ≠ gb148 ∧ k_ ≠ gb152) (.slice A15 y154.length c15) y154) := ⟨by rw [← hq_]; exact (by (with_reducible repeat (first | apply Kd.V_alloc | apply Kd.V_drewN | apply Kd.V_drew)); exact Kd.V_mono HO_8.out (fun _ hk => ⟨hk.2.1, ⟨hk.1, ⟨hk.2.2.1, hk.2.2.2⟩⟩⟩))⟩; have n4_ : Aside0 (wc.heap[gb148]? = some (.cells #[.bool false, .bool false, .slice none 0 0, .bool false, .bool false] 26 (0, 0))) := ⟨by rw [← hq_]; exact (by (with_reducible repeat (first | refine blk_drewN ?_ _ | refine blk_drew ?_ | refine blk_alloc ?_ _)); exact BK148.out)⟩; have n5_ : Aside0 (wc.heap[gb152]? = some (.cells #[.bool x153000_12, .bool a1, u153002, .bool x153003_1, .bool x153004_1] 26 (0, 0))) := ⟨by rw [← hq_]; exact (by (with_reducible repeat (first | refine blk_drewN ?_ _ | refine blk_drew ?_ | refine blk_alloc ?_ _)); exact BK152.out)⟩; have n6_ : Aside0 (Below w.heap.size w wc) := ⟨by rw [← hq_]; exact (by repeat (first | (with_reducible first | exact HB.out | apply below_alloc | apply pw_below_drewN | apply below_drew1 | refine below_set ?_ GE148.out | refine below_set ?_ GE152.out) | exact HB.out))⟩; have n7_ : Aside0 (Kd.C Kd.string wc (some ad160) (rd_L1 t149 x7_1).length (rd_L1 t149 x7_1)) := ⟨by rw [← hq_]; exact (by repeat (first | (with_reducible exact HR153_0.out) | (with_reducible refine Kd.C_alloc ?_ _) | (with_reducible refine Kd.C_drewN ?_ _) | (with_reducible refine Kd.C_drew ?_) | exact HR153_0.out))⟩; have n8_ : Aside0 (Kd.C Kd.string wc A153_0 (rd_L1 t149 x7_1).length (rd_L1 t149 x7_1)) := ⟨by rw [← hq_]; exact (by repeat (first | (with_reducible exact HR159_0.out) | (with_reducible refine Kd.C_alloc ?_ _) | (with_reducible refine Kd.C_drewN ?_ _) | (with_reducible refine Kd.C_drew ?_) | exact HR159_0.out))⟩; have n9_ : Aside0 (Kd.C Kd.string wc (some ad163) (rd_L1 t149 x7_1).length (rd_L1 t149 x7_1)) := ⟨by rw [← hq_]; exact (by repeat (first | (with_reducible exact HR162_0.out) | (with_reducible refine Kd.C_alloc ?_ _) | (with_reducible refine Kd.C_drewN ?_ _) | (with_reducible refine Kd.C_drew ?_) | exact HR162_0.out))⟩; clear HL162_0 HO_153002 HO_5 HO_8 BK148 BK152 HB HR153_0 HR159_0 HR162_0 hq_; have HL162_0 := n0_; have HO_153002 := n1_; have HO_5 := n2_; have HO_8 := n3_; have BK148 := n4_; have BK152 := n5_; have HB := n6_; have HR153_0 := n7_; have HR159_0 := n8_; have HR162_0 := n9_; clear n0_ n1_ n2_ n3_ n4_ n5_ n6_ n7_ n8_ n9_)); have hnb26 := NB152_148.out; have hnc26 := NB148_152.out; have hcz27_0 : wc.cell? ⟨gb152, 0, none⟩ = some (.bool x153000_12) := (blk_cell BK152.out 0).trans rfl; have hcz27_1 : wc.cell? ⟨gb152, 1, none⟩ = some (.bool a1) := (blk_cell BK152.out 1).trans rfl; have hcz27_2 : wc.cell? ⟨gb152, 2, none⟩ = some (u153002) := (blk_cell BK152.out 2).trans rfl; have hcz27_3 : wc.cell? ⟨gb152, 3, none⟩ = some (.bool x153003_1) := (blk_cell BK152.out 3).trans rfl; have hcz27_4 : wc.cell? ⟨gb152, 4, none⟩ = some (.bool x153004_1) := (blk_cell BK152.out 4).trans rfl; have hfz27_0 := blk_frozen BK152.out 0; have hfz27_1 := blk_frozen BK152.out 1; have hfz27_2 := blk_frozen BK152.out 2; have hfz27_3 := blk_frozen BK152.out 3; have hfz27_4 := blk_frozen BK152.out 4) | ((with_reducible refine gate_callee (f := 22) rfl ?_); refine goesL_ (some 46) rfl rfl Tryd.func22 (by kernel_rfl) rfl #[.slice A15 y154.length c15, .string (⟨#[39, 97, 108, 108, 111, 119, 45, 100, 117, 112, 108, 105, 99, 97, 116, 101, 115, 39]⟩ : ByteArray)] rfl (by (try simp only [List.map_toArray, List.map_cons, List.map_nil]); first | done | rfl | (simp only [List.length_drop, List.length_take]; rfl)) ?_; (with_reducible refine (boltingref02_Has.calls kj12 _ _ y154 (⟨#[39, 97, 108, 108, 111, 119, 45, 100, 117, 112, 108, 105, 99, 97, 116, 101, 115, 39]⟩ : ByteArray) t165 _ ?side1 ?side2 A25.out).mono ?_); (case side1 => refine (Kd.V_reads' (e := 9) (base := w.heap.size) (ok := fun k_ => (some k_ ≠ (.slice (some ad153) t149.length co14 : Value).ownBlock ∧ (some k_ ≠ (u153002 : Value).ownBlock ∧ (k_ ≠ gb148 ∧ k_ ≠ gb152)))) (n := y154.length) (c := c15) ?_).2.2; exact (by (with_reducible repeat (first | apply Kd.V_alloc | apply Kd.V_drewN | apply Kd.V_drew)); exact (Kd.V_mono (Kd.V_far (p := ⟨gb152, 3, none⟩) (Kd.V_mono HO_8.out (fun k_ hk => (⟨hk, hk.2.2.2⟩ : _ ∧ k_ ≠ gb152))) (fun _ hk => hk.2) (.bool t164)) (fun _ h_ => h_.1)))); (case side2 => exact (Kd.V_reads' HO_8.out).2.1); rintro e w' ⟨rfl, ⟨nd, rfl⟩⟩; refine ⟨_, rfl, ?_⟩))
                          go_loopg [9] kj12 (fun kq v9 w' => ∃ (x9_3 : Int) (x153002_3 : List ByteArray) (u153002 : Value), v9 = .int .i64 x9_3 ∧ Aside0 (boltingref15_Parse.l1 kq t149 x7_1 y154 x9_3 x153000_12 a1 x153002_3 t164 t165 = some (r1, r2, r3, r4, r5)) ∧ Aside0 (kq ≤ kj12) ∧ Aside0 (Kd.N (Kd.slice 9 Kd.string) 24 w' w.heap.size (fun k_ => some k_ ≠ (u153002 : Value).ownBlock ∧ k_ ≠ gb148 ∧ k_ ≠ gb152) (.slice (some ad153) t149.length co14) t149) ∧ Aside0 (Kd.V Kd.string 9 w' w.heap.size (fun k_ => some k_ ≠ ((.slice (some ad153) t149.length co14) : Value).ownBlock ∧ some k_ ≠ (u153002 : Value).ownBlock ∧ k_ ≠ gb148 ∧ k_ ≠ gb152) (.slice A15 y154.length c15) y154) ∧ Aside0 (Kd.R Kd.string 9 w' w.heap.size (fun _ => True) u153002 x153002_3) ∧ Aside0 (w'.heap[gb148]? = some (.cells #[.bool false, .bool false, (.slice none 0 0), .bool false, .bool false] 26 (0, 0))) ∧ Aside0 (w'.heap[gb152]? = some (.cells #[.bool x153000_12, .bool a1, u153002, .bool t164, .bool t165] 26 (0, 0))) ∧ Aside0 (Below w.heap.size w w'))
                          case atStart => exact ⟨(0), (x153002_1), (u153002), (by first | rfl | (simp; done) | (simp [*]; done)), H', ⟨Nat.le_refl _⟩, ⟨by (with_reducible repeat (first | apply Kd.N_alloc | apply Kd.N_drewN | apply Kd.N_drew)); exact Kd.N_mono (Kd.N_far (p := ⟨gb152, 4, none⟩) (Kd.N_far (p := ⟨gb152, 3, none⟩) (Kd.N_mono HO_5.out (fun k_ hk => (⟨hk, hk.2.2⟩ : _ ∧ k_ ≠ gb152))) (fun _ hk => hk.2) (.bool t164)) (fun _ hk => hk.2) (.bool t165)) (fun _ hk => ⟨hk.1.1, ⟨hk.1.2.1, hk.1.2.2⟩⟩)⟩, ⟨by (with_reducible repeat (first | apply Kd.V_alloc | apply Kd.V_drewN | apply Kd.V_drew)); exact Kd.V_mono (Kd.V_far (p := ⟨gb152, 4, none⟩) (Kd.V_far (p := ⟨gb152, 3, none⟩) (Kd.V_mono HO_8.out (fun k_ hk => (⟨hk, hk.2.2.2⟩ : _ ∧ k_ ≠ gb152))) (fun _ hk => hk.2) (.bool t164)) (fun _ hk => hk.2) (.bool t165)) (fun _ hk => ⟨hk.1.1, ⟨hk.1.2.1, ⟨hk.1.2.2.1, hk.1.2.2.2⟩⟩⟩)⟩, ⟨by (with_reducible repeat (first | apply Kd.R_alloc | apply Kd.R_drewN | apply Kd.R_drew)); exact Kd.R_mono (Kd.R_far (p := ⟨gb152, 4, none⟩) (Kd.R_far (p := ⟨gb152, 3, none⟩) (Kd.R_types HO_153002.out BK152.out (by decide)) (fun _ hk => hk.2) (.bool t164)) (fun _ hk => hk.2) (.bool t165)) (fun _ hk => trivial)⟩, ⟨by (with_reducible repeat (first | refine blk_drewN ?_ _ | refine blk_drew ?_ | refine blk_alloc ?_ _)); refine blk_far ?_ NB148_152.out _; (with_reducible repeat (first | refine blk_drewN ?_ _ | refine blk_drew ?_ | refine blk_alloc ?_ _)); refine blk_far ?_ NB148_152.out _; (with_reducible repeat (first | refine blk_drewN ?_ _ | refine blk_drew ?_ | refine blk_alloc ?_ _)); exact BK148.out⟩, ⟨by (with_reducible repeat (first | refine blk_drewN ?_ _ | refine blk_drew ?_ | refine blk_alloc ?_ _)); refine blk_put (cs := #[.bool x153000_12, .bool a1, u153002, .bool t164, .bool x153004_1]) ?_ 4 _ rfl; (with_reducible repeat (first | refine blk_drewN ?_ _ | refine blk_drew ?_ | refine blk_alloc ?_ _)); refine blk_put (cs := #[.bool x153000_12, .bool a1, u153002, .bool x153003_1, .bool x153004_1]) ?_ 3 _ rfl; (with_reducible repeat (first | refine blk_drewN ?_ _ | refine blk_drew ?_ | refine blk_alloc ?_ _)); exact BK152.out⟩, ⟨by repeat (first | (with_reducible first | exact HB.out | apply below_alloc | apply pw_below_drewN | apply below_drew1 | refine below_set ?_ GE148.out | refine below_set ?_ GE152.out) | exact HB.out)⟩⟩
                          case round =>
                            clear H'
                            try clear c1
                            try clear p1
                            try clear q1
                            try clear hx1
                            try clear qi1
                            try clear c2
                            try clear p2
                            try clear c7
                            try clear c9
                            try clear c9b0
                            try clear c10
                            try clear c10b0
                            try clear c11
                            try clear c11b0
                            try clear c11b1
                            try clear c12
                            try clear c12b0
                            try clear c12b1
                            try clear c15
                            try clear p15
                            try clear q15
                            try clear hx15
                            try clear c16
                            try clear c16b0
                            try clear c16b1
                            try clear p16
                            try clear q16
                            try clear hx16
                            try clear qi16
                            try clear c18
                            try clear c20
                            try clear c20b0
                            try clear c21
                            try clear c21b0
                            try clear c22
                            try clear c22b0
                            try clear c22b1
                            try clear c23
                            try clear c23b0
                            try clear c23b1
                            try clear c26
                            try clear hcz19_0
                            try clear hcz19_1
                            try clear hcz19_2
                            try clear hcz19_3
                            try clear hcz19_4
                            try clear hcz27_0
                            try clear hcz27_1
                            try clear hcz27_2
                            try clear hcz27_3
                            try clear hcz27_4
                            try clear hcz8_0
                            try clear hcz8_1
                            try clear hcz8_2
                            try clear hcz8_3
                            try clear hcz8_4
                            try clear hfz19_0
                            try clear hfz19_1
                            try clear hfz19_2
                            try clear hfz19_3
                            try clear hfz19_4
                            try clear hfz27_0
                            try clear hfz27_1
                            try clear hfz27_2
                            try clear hfz27_3
                            try clear hfz27_4
                            try clear hfz8_0
                            try clear hfz8_1
                            try clear hfz8_2
                            try clear hfz8_3
                            try clear hfz8_4
                            try clear hx153_0
                            try clear hx159_0
                            try clear hx160_0
                            try clear hx162_0
                            try clear hx163_0
                            try clear p1
                            try clear p15
                            try clear p153
                            try clear p159
                            try clear p16
                            try clear p160
                            try clear p162
                            try clear p163
                            try clear p2
                            try clear q1
                            try clear q15
                            try clear q153
                            try clear q159
                            try clear q16
                            try clear q160
                            try clear q162
                            try clear q163
                            obtain ⟨x9_3, x153002_3, u153002, rfl, HA, HK3, HO_5, HO_8, HO_153002, BK148, BK152, HB⟩ := hrel
                            cases gk with
                            | zero => exact absurd HA.out (by simp [boltingref15_Parse.l1])
                            | succ k3 =>
                              have H := HA.out
                              clear HA
                              simp only [boltingref15_Parse.l1] at H
                              by_cases c28 : x9_3 < (y154.length : Int)
                              · rw [if_pos c28] at H
                                have c28b0 : decide (x9_3 < (y154.length : Int)) = true := decide_eq_true c28
                                clear c28
                                by_cases c29 : 0 ≤ x9_3
                                · rw [if_pos c29] at H
                                  have c29b0 : decide (0 ≤ x9_3) = true := decide_eq_true c29
                                  clear c29
                                  replace H := Option.bind_eq_some_iff.mp H
                                  obtain ⟨t167, A300, H⟩ := H
                                  replace H : (if t167 = true then ((boltingref02_Has.f k3 x153002_3 (rdOf ByteArray.empty y154 x9_3)).bind fun t169 => (if t169 = true then (boltingref15_Parse.l1 k3 t149 x7_1 y154 (wrap64 (x9_3 + 1)) x153000_12 a1 x153002_3 t164 t165) else (if x153002_3.length < 8796093022208 then (boltingref15_Parse.l1 k3 t149 x7_1 y154 (wrap64 (x9_3 + 1)) x153000_12 a1 (x153002_3 ++ [rdOf ByteArray.empty y154 x9_3]) t164 t165) else (none)))) else (boltingref15_Parse.l1 k3 t149 x7_1 y154 (wrap64 (x9_3 + 1)) x153000_12 a1 x153002_3 t164 t165)) = some (r1, r2, r3, r4, r5) := H
                                  have A30 := Aside0.mk A300
                                  clear A300
                                  by_cases c31 : t167 = true
                                  · subst c31
                                    have H1 : ((boltingref02_Has.f k3 x153002_3 (rdOf ByteArray.empty y154 x9_3)).bind fun t169 => (if t169 = true then (boltingref15_Parse.l1 k3 t149 x7_1 y154 (wrap64 (x9_3 + 1)) x153000_12 a1 x153002_3 t164 t165) else (if x153002_3.length < 8796093022208 then (boltingref15_Parse.l1 k3 t149 x7_1 y154 (wrap64 (x9_3 + 1)) x153000_12 a1 (x153002_3 ++ [rdOf ByteArray.empty y154 x9_3]) t164 t165) else (none)))) = some (r1, r2, r3, r4, r5) := by rw [if_pos rfl] at H; exact H
                                    clear H
                                    have H := H1
                                    clear H1
                                    replace H := Option.bind_eq_some_iff.mp H
                                    obtain ⟨t169, A320, H⟩ := H
                                    replace H : (if t169 = true then (boltingref15_Parse.l1 k3 t149 x7_1 y154 (wrap64 (x9_3 + 1)) x153000_12 a1 x153002_3 t164 t165) else (if x153002_3.length < 8796093022208 then (boltingref15_Parse.l1 k3 t149 x7_1 y154 (wrap64 (x9_3 + 1)) x153000_12 a1 (x153002_3 ++ [rdOf ByteArray.empty y154 x9_3]) t164 t165) else (none))) = some (r1, r2, r3, r4, r5) := H
                                    have A32 := Aside0.mk A320
                                    clear A320
                                    by_cases c33 : t169 = true
                                    · subst c33
                                      have H1 : (boltingref15_Parse.l1 k3 t149 x7_1 y154 (wrap64 (x9_3 + 1)) x153000_12 a1 x153002_3 t164 t165) = some (r1, r2, r3, r4, r5) := by rw [if_pos rfl] at H; exact H
                                      clear H
                                      have H := H1
                                      clear H1
                                      have H' := Aside0.mk H
                                      clear H
                                      try go_wp2
                                      have n0_ := Aside0.mk (Kd.N_drew HO_5.out)
                                      have n1_ := Aside0.mk (Kd.V_drew HO_8.out)
                                      have n2_ := Aside0.mk (Kd.R_drew HO_153002.out)
                                      have n3_ := Aside0.mk (blk_drew BK148.out)
                                      have n4_ := Aside0.mk (blk_drew BK152.out)
                                      have n5_ := Aside0.mk (below_drew1 HB.out)
                                      clear HO_5
                                      clear HO_8
                                      clear HO_153002
                                      clear BK148
                                      clear BK152
                                      clear HB
                                      have HO_5 := n0_
                                      have HO_8 := n1_
                                      have HO_153002 := n2_
                                      have BK148 := n3_
                                      have BK152 := n4_
                                      have HB := n5_
                                      clear n0_ n1_ n2_ n3_ n4_ n5_
                                      have p166 : 0 ≤ (x9_3 : Int) := of_decide_eq_true (by first | (with_reducible assumption) | assumption)
                                      have q166 : x9_3 < (y154.length : Int) := of_decide_eq_true (by first | (with_reducible assumption) | assumption)
                                      obtain ⟨ad166, e166, hx166_0⟩ := Kd.at_string (Kd.V_reads' HO_8.out).2.2 x9_3 p166 q166
                                      cases e166
                                      replace p166 := eq_true p166
                                      replace q166 := eq_true q166
                                      have p168 : 0 ≤ (x9_3 : Int) := of_decide_eq_true (by first | (with_reducible assumption) | assumption)
                                      have q168 : x9_3 < (y154.length : Int) := of_decide_eq_true (by first | (with_reducible assumption) | assumption)
                                      obtain ⟨ad168, e168, hx168_0⟩ := Kd.at_string (Kd.V_reads' HO_8.out).2.2 x9_3 p168 q168
                                      obtain rfl : ad166 = ad168 := (by injection e168)
                                      replace p168 := eq_true p168
                                      replace q168 := eq_true q168
                                      refine start_ (n := 15) (S := fun w' => w'.cell? ⟨gb152, 0, none⟩ = some (.bool x153000_12) ∧ w'.cell? ⟨gb152, 1, none⟩ = some (.bool a1) ∧ w'.cell? ⟨gb152, 2, none⟩ = some (u153002) ∧ w'.cell? ⟨gb152, 3, none⟩ = some (.bool t164) ∧ w'.cell? ⟨gb152, 4, none⟩ = some (.bool t165) ∧ w'.cell? (ad166.add (x9_3).toNat) = some (.string (rdOf ByteArray.empty y154 x9_3)) ∧ w'.cell? (ad166.add (x9_3).toNat) = some (.string (rdOf ByteArray.empty y154 x9_3))) (ds := []) #[false, false, false, false, false, false, false, false, false, false, false, false, false, false, false] (by kernel_rfl) rfl rfl ⟨(blk_cell BK152.out 0).trans rfl, (blk_cell BK152.out 1).trans rfl, (blk_cell BK152.out 2).trans rfl, (blk_cell BK152.out 3).trans rfl, (blk_cell BK152.out 4).trans rfl, hx166_0, hx168_0⟩ (fun hHeld => ?_); refine with_tabW boltingref15_Parse.tab15 boltingref15_Parse.bits15 (fun HT_ HW_ => ?_)
                                      generalize wr.drew = w34 at HO_5 HO_8 HO_153002 BK148 BK152 HB hx166_0 hx168_0 hHeld ⊢
                                      refine pure_ (i := 0) (N := some 54) (v := ?_) (a' := ?_) #[true, false, false, false, false, false, false, false, false, false, false, false, false, false, false] rfl rfl (any_of HT_.out (by kernel_rfl)) (fun _ _ _ h => h) (Or.inl ⟨by rfl, ?_⟩) ?_ ?_
                                      rotate_left
                                      · intro w'
                                        go_simp
                                        with_reducible rfl
                                      rotate_left
                                      · simp only [Act.put, List.setIfInBounds_toArray, List.set_cons_zero, List.set_cons_succ, i64_w, i32_w]
                                        rfl
                                      refine pure_ (i := 1) (N := some 55) (v := ?_) (a' := ?_) #[true, true, false, false, false, false, false, false, false, false, false, false, false, false, false] rfl rfl (any_of HT_.out (by kernel_rfl)) (fun _ _ _ h => h) (Or.inl ⟨by rfl, ?_⟩) ?_ ?_
                                      rotate_left
                                      · intro w'
                                        go_simp
                                        with_reducible rfl
                                      rotate_left
                                      · simp only [Act.put, List.setIfInBounds_toArray, List.set_cons_zero, List.set_cons_succ, i64_w, i32_w]
                                        rfl
                                      refine pure_ (i := 2) (N := some 56) (v := ?_) (a' := ?_) #[true, true, true, false, false, false, false, false, false, false, false, false, false, false, false] rfl rfl (any_of HT_.out (by kernel_rfl)) (fun _ _ _ h => h) (Or.inl ⟨by rfl, ?_⟩) ?_ ?_
                                      rotate_left
                                      · intro w'
                                        go_simp
                                        with_reducible rfl
                                      rotate_left
                                      · simp only [Act.put, List.setIfInBounds_toArray, List.set_cons_zero, List.set_cons_succ, i64_w, i32_w]
                                        rfl
                                      refine take_ (i := 3) (N := some 57) (v := ?_) (a' := ?_) #[true, true, true, true, false, false, false, false, false, false, false, false, false, false, false] rfl rfl (take_ofW HT_.out HW_.out (by kernel_rfl)) (fun _ _ _ h => h) (Or.inl ⟨by rfl, ?_⟩) hHeld ?_ ?_
                                      rotate_left
                                      · rintro w' ⟨s0, s1, s2, s3, s4, s5, s6⟩
                                        go_simp
                                        with_reducible rfl
                                      rotate_left
                                      · simp only [Act.put, List.setIfInBounds_toArray, List.set_cons_zero, List.set_cons_succ, i64_w, i32_w]
                                        rfl
                                      refine one_ (i := 4) (N := some 58) #[true, true, true, true, true, false, false, false, false, false, false, false, false, false, false] rfl rfl (one_of HT_.out (by kernel_rfl)) (by decide) (fun K hK => ?_)
                                      refine goes_ Tryd.func23 (by kernel_rfl) rfl #[.string (rdOf ByteArray.empty y154 x9_3)] (by rfl) rfl rfl (by (try simp only [List.map_toArray, List.map_cons, List.map_nil]); first | done | rfl | (simp only [List.length_drop, List.length_take]; rfl)) ?_
                                      with_reducible refine (boltingref15_May.calls k3 (rdOf ByteArray.empty y154 x9_3) true _ A30.out).mono ?_
                                      rintro e w' ⟨rfl, ⟨nd, rfl⟩⟩
                                      refine ⟨_, rfl, ?_⟩
                                      obtain ⟨Ao35, co35, eo35⟩ := Kd.R_slice HO_153002.out
                                      (first | subst eo35 | (injection eo35 with f1_ f2_ f3_; have f4_ := f1_.symm; have f5_ := f3_.symm; clear f1_ f2_ f3_; subst f4_; subst f5_))
                                      refine hK.out _ _ ⟨(blk_cell BK152.out 0).trans rfl, (blk_cell BK152.out 1).trans rfl, (blk_cell BK152.out 2).trans rfl, (blk_cell BK152.out 3).trans rfl, (blk_cell BK152.out 4).trans rfl, hHeld.2.2.2.2.2.1, hHeld.2.2.2.2.2.2⟩ (fun hHeld => ?_)
                                      clear hK K
                                      refine norm_ (a' := ?_) ?_ ?_
                                      rotate_left
                                      · show Act.put _ (some 58) _ = _
                                        simp only [Act.put, List.setIfInBounds_toArray, List.set_cons_zero, List.set_cons_succ, i64_w, i32_w]
                                        rfl
                                      refine pure_ (i := 5) (N := some 59) (v := ?_) (a' := ?_) #[true, true, true, true, true, true, false, false, false, false, false, false, false, false, false] rfl rfl (any_of HT_.out (by kernel_rfl)) (fun _ _ _ h => h) (Or.inl ⟨by rfl, ?_⟩) ?_ ?_
                                      rotate_left
                                      · intro w'
                                        go_simp
                                        with_reducible rfl
                                      rotate_left
                                      · simp only [Act.put, List.setIfInBounds_toArray, List.set_cons_zero, List.set_cons_succ, i64_w, i32_w]
                                        rfl
                                      refine pure_ (i := 6) (N := some 60) (v := ?_) (a' := ?_) #[true, true, true, true, true, true, true, false, false, false, false, false, false, false, false] rfl rfl (any_of HT_.out (by kernel_rfl)) (fun _ _ _ h => h) (Or.inl ⟨by rfl, ?_⟩) ?_ ?_
                                      rotate_left
                                      · intro w'
                                        go_simp
                                        with_reducible rfl
                                      rotate_left
                                      · simp only [Act.put, List.setIfInBounds_toArray, List.set_cons_zero, List.set_cons_succ, i64_w, i32_w]
                                        rfl
                                      refine pure_ (i := 8) (N := some 62) (v := ?_) (a' := ?_) #[true, true, true, true, true, true, true, false, true, false, false, false, false, false, false] rfl rfl (any_of HT_.out (by kernel_rfl)) (fun _ _ _ h => h) (Or.inl ⟨by rfl, ?_⟩) ?_ ?_
                                      rotate_left
                                      · intro w'
                                        go_simp
                                        with_reducible rfl
                                      rotate_left
                                      · simp only [Act.put, List.setIfInBounds_toArray, List.set_cons_zero, List.set_cons_succ, i64_w, i32_w]
                                        rfl
                                      refine pure_ (i := 9) (N := some 63) (v := ?_) (a' := ?_) #[true, true, true, true, true, true, true, false, true, true, false, false, false, false, false] rfl rfl (any_of HT_.out (by kernel_rfl)) (fun _ _ _ h => h) (Or.inl ⟨by rfl, ?_⟩) ?_ ?_
                                      rotate_left
                                      · intro w'
                                        go_simp
                                        with_reducible rfl
                                      rotate_left
                                      · simp only [Act.put, List.setIfInBounds_toArray, List.set_cons_zero, List.set_cons_succ, i64_w, i32_w]
                                        rfl
                                      refine pure_ (i := 10) (N := some 64) (v := ?_) (a' := ?_) #[true, true, true, true, true, true, true, false, true, true, true, false, false, false, false] rfl rfl (any_of HT_.out (by kernel_rfl)) (fun _ _ _ h => h) (Or.inl ⟨by rfl, ?_⟩) ?_ ?_
                                      rotate_left
                                      · intro w'
                                        go_simp
                                        with_reducible rfl
                                      rotate_left
                                      · simp only [Act.put, List.setIfInBounds_toArray, List.set_cons_zero, List.set_cons_succ, i64_w, i32_w]
                                        rfl
                                      refine take_ (i := 7) (N := some 61) (v := ?_) (a' := ?_) #[true, true, true, true, true, true, true, true, true, true, true, false, false, false, false] rfl rfl (take_ofW HT_.out HW_.out (by kernel_rfl)) (fun _ _ _ h => h) (Or.inl ⟨by rfl, ?_⟩) hHeld ?_ ?_
                                      rotate_left
                                      · rintro w' ⟨s0, s1, s2, s3, s4, s5, s6⟩
                                        go_simp
                                        with_reducible rfl
                                      rotate_left
                                      · simp only [Act.put, List.setIfInBounds_toArray, List.set_cons_zero, List.set_cons_succ, i64_w, i32_w]
                                        rfl
                                      refine take_ (i := 11) (N := some 65) (v := ?_) (a' := ?_) #[true, true, true, true, true, true, true, true, true, true, true, true, false, false, false] rfl rfl (take_ofW HT_.out HW_.out (by kernel_rfl)) (fun _ _ _ h => h) (Or.inl ⟨by rfl, ?_⟩) hHeld ?_ ?_
                                      rotate_left
                                      · rintro w' ⟨s0, s1, s2, s3, s4, s5, s6⟩
                                        go_simp
                                        with_reducible rfl
                                      rotate_left
                                      · simp only [Act.put, List.setIfInBounds_toArray, List.set_cons_zero, List.set_cons_succ, i64_w, i32_w]
                                        rfl
                                      refine one_ (i := 12) (N := some 66) #[true, true, true, true, true, true, true, true, true, true, true, true, true, false, false] rfl rfl (one_of HT_.out (by kernel_rfl)) (by decide) (fun K hK => ?_)
                                      refine goes_ Tryd.func22 (by kernel_rfl) rfl #[.slice Ao35 x153002_3.length co35, .string (rdOf ByteArray.empty y154 x9_3)] (by rfl) rfl rfl (by (try simp only [List.map_toArray, List.map_cons, List.map_nil]); first | done | rfl | (simp only [List.length_drop, List.length_take]; rfl)) ?_
                                      with_reducible refine (boltingref02_Has.calls k3 _ _ x153002_3 (rdOf ByteArray.empty y154 x9_3) true _ ?side1 ?side2 A32.out).mono ?_
                                      (case side1 => repeat (first | exact (Kd.R_reads' HO_153002.out).2.2 | (with_reducible refine Kd.C_alloc ?_ _) | (with_reducible refine Kd.C_drewN ?_ _) | (with_reducible refine Kd.C_drew ?_)))
                                      (case side2 => exact (Kd.R_reads' HO_153002.out).2.1)
                                      rintro e w' ⟨rfl, ⟨nd, rfl⟩⟩
                                      refine ⟨_, rfl, ?_⟩
                                      refine hK.out _ _ ⟨(blk_cell BK152.out 0).trans rfl, (blk_cell BK152.out 1).trans rfl, (blk_cell BK152.out 2).trans rfl, (blk_cell BK152.out 3).trans rfl, (blk_cell BK152.out 4).trans rfl, hHeld.2.2.2.2.2.1, hHeld.2.2.2.2.2.2⟩ (fun hHeld => ?_)
                                      clear hK K
                                      refine norm_ (a' := ?_) ?_ ?_
                                      rotate_left
                                      · show Act.put _ (some 66) _ = _
                                        simp only [Act.put, List.setIfInBounds_toArray, List.set_cons_zero, List.set_cons_succ, i64_w, i32_w]
                                        rfl
                                      refine pure_ (i := 13) (N := some 67) (v := ?_) (a' := ?_) #[true, true, true, true, true, true, true, true, true, true, true, true, true, true, false] rfl rfl (any_of HT_.out (by kernel_rfl)) (fun _ _ _ h => h) (Or.inl ⟨by rfl, ?_⟩) ?_ ?_
                                      rotate_left
                                      · intro w'
                                        go_simp
                                        with_reducible rfl
                                      rotate_left
                                      · simp only [Act.put, List.setIfInBounds_toArray, List.set_cons_zero, List.set_cons_succ, i64_w, i32_w]
                                        rfl
                                      refine pure_ (i := 14) (N := some 68) (v := ?_) (a' := ?_) #[true, true, true, true, true, true, true, true, true, true, true, true, true, true, true] rfl rfl (any_of HT_.out (by kernel_rfl)) (fun _ _ _ h => h) (Or.inl ⟨by rfl, ?_⟩) ?_ ?_
                                      rotate_left
                                      · intro w'
                                        go_simp
                                        with_reducible rfl
                                      rotate_left
                                      · simp only [Act.put, List.setIfInBounds_toArray, List.set_cons_zero, List.set_cons_succ, i64_w, i32_w]
                                        rfl
                                      refine done_ (done_of HT_.out (by kernel_rfl)) ?_
                                      try go_wp2
                                      go_roundg k3
                                      case measure => have := HK1.out; have := HJ12.out; have := HK3.out; omega
                                      case rel => exact ⟨(wrap64 (x9_3 + 1)), (x153002_3), (.slice Ao35 x153002_3.length co35), (by first | rfl | (simp; done) | (simp [*]; done)), H', ⟨by have := HK1.out; have := HJ12.out; have := HK3.out; omega⟩, ⟨by (with_reducible repeat (first | apply Kd.N_alloc | apply Kd.N_drewN | apply Kd.N_drew)); exact HO_5.out⟩, ⟨by (with_reducible repeat (first | apply Kd.V_alloc | apply Kd.V_drewN | apply Kd.V_drew)); exact HO_8.out⟩, ⟨by (with_reducible repeat (first | apply Kd.R_alloc | apply Kd.R_drewN | apply Kd.R_drew)); exact HO_153002.out⟩, ⟨by (with_reducible repeat (first | refine blk_drewN ?_ _ | refine blk_drew ?_ | refine blk_alloc ?_ _)); exact BK148.out⟩, ⟨by (with_reducible repeat (first | refine blk_drewN ?_ _ | refine blk_drew ?_ | refine blk_alloc ?_ _)); exact BK152.out⟩, ⟨by repeat (first | (with_reducible first | exact HB.out | apply below_alloc | apply pw_below_drewN | apply below_drew1 | refine below_set ?_ GE148.out | refine below_set ?_ GE152.out) | exact HB.out)⟩⟩
                                    · replace c33 := Bool.eq_false_iff.mpr c33
                                      subst c33
                                      have H1 : (if x153002_3.length < 8796093022208 then (boltingref15_Parse.l1 k3 t149 x7_1 y154 (wrap64 (x9_3 + 1)) x153000_12 a1 (x153002_3 ++ [rdOf ByteArray.empty y154 x9_3]) t164 t165) else (none)) = some (r1, r2, r3, r4, r5) := by rw [if_neg (show ¬ (false = true) by decide)] at H; exact H
                                      clear H
                                      have H := H1
                                      clear H1
                                      by_cases c36 : x153002_3.length < 8796093022208
                                      · rw [if_pos c36] at H
                                        have LMc36 := Aside0.mk c36
                                        clear c36
                                        obtain ⟨y171, hy171⟩ : ∃ y_ : List ByteArray, y_ = (x153002_3 ++ [rdOf ByteArray.empty y154 x9_3]) := ⟨_, rfl⟩
                                        replace H : (boltingref15_Parse.l1 k3 t149 x7_1 y154 (wrap64 (x9_3 + 1)) x153000_12 a1 y171 t164 t165) = some (r1, r2, r3, r4, r5) := by first | (rw [hy171]; with_reducible exact H) | (have H2_ := (Option.bind_some _ _).symm.trans H; rw [hy171]; with_reducible exact H2_) | (have H2_ := (Option.bind_some _ _).symm.trans H; with_reducible exact H2_) | with_reducible exact H | (rw [hy171]; exact H) | exact H
                                        have Ny171 := Aside0.mk hy171
                                        clear hy171
                                        have H' := Aside0.mk H
                                        clear H
                                        try go_wp2
                                        have n0_ := Aside0.mk (Kd.N_drew HO_5.out)
                                        have n1_ := Aside0.mk (Kd.V_drew HO_8.out)
                                        have n2_ := Aside0.mk (Kd.R_drew HO_153002.out)
                                        have n3_ := Aside0.mk (blk_drew BK148.out)
                                        have n4_ := Aside0.mk (blk_drew BK152.out)
                                        have n5_ := Aside0.mk (below_drew1 HB.out)
                                        clear HO_5
                                        clear HO_8
                                        clear HO_153002
                                        clear BK148
                                        clear BK152
                                        clear HB
                                        have HO_5 := n0_
                                        have HO_8 := n1_
                                        have HO_153002 := n2_
                                        have BK148 := n3_
                                        have BK152 := n4_
                                        have HB := n5_
                                        clear n0_ n1_ n2_ n3_ n4_ n5_
                                        have p166 : 0 ≤ (x9_3 : Int) := of_decide_eq_true (by first | (with_reducible assumption) | assumption)
                                        have q166 : x9_3 < (y154.length : Int) := of_decide_eq_true (by first | (with_reducible assumption) | assumption)
                                        obtain ⟨ad166, e166, hx166_0⟩ := Kd.at_string (Kd.V_reads' HO_8.out).2.2 x9_3 p166 q166
                                        cases e166
                                        replace p166 := eq_true p166
                                        replace q166 := eq_true q166
                                        have p168 : 0 ≤ (x9_3 : Int) := of_decide_eq_true (by first | (with_reducible assumption) | assumption)
                                        have q168 : x9_3 < (y154.length : Int) := of_decide_eq_true (by first | (with_reducible assumption) | assumption)
                                        obtain ⟨ad168, e168, hx168_0⟩ := Kd.at_string (Kd.V_reads' HO_8.out).2.2 x9_3 p168 q168
                                        obtain rfl : ad166 = ad168 := (by injection e168)
                                        replace p168 := eq_true p168
                                        replace q168 := eq_true q168
                                        refine start_ (n := 15) (S := fun w' => w'.cell? ⟨gb152, 0, none⟩ = some (.bool x153000_12) ∧ w'.cell? ⟨gb152, 1, none⟩ = some (.bool a1) ∧ w'.cell? ⟨gb152, 2, none⟩ = some (u153002) ∧ w'.cell? ⟨gb152, 3, none⟩ = some (.bool t164) ∧ w'.cell? ⟨gb152, 4, none⟩ = some (.bool t165) ∧ w'.cell? (ad166.add (x9_3).toNat) = some (.string (rdOf ByteArray.empty y154 x9_3)) ∧ w'.cell? (ad166.add (x9_3).toNat) = some (.string (rdOf ByteArray.empty y154 x9_3))) (ds := []) #[false, false, false, false, false, false, false, false, false, false, false, false, false, false, false] (by kernel_rfl) rfl rfl ⟨(blk_cell BK152.out 0).trans rfl, (blk_cell BK152.out 1).trans rfl, (blk_cell BK152.out 2).trans rfl, (blk_cell BK152.out 3).trans rfl, (blk_cell BK152.out 4).trans rfl, hx166_0, hx168_0⟩ (fun hHeld => ?_); refine with_tabW boltingref15_Parse.tab15 boltingref15_Parse.bits15 (fun HT_ HW_ => ?_)
                                        generalize wr.drew = w37 at HO_5 HO_8 HO_153002 BK148 BK152 HB hx166_0 hx168_0 hHeld ⊢
                                        refine pure_ (i := 0) (N := some 54) (v := ?_) (a' := ?_) #[true, false, false, false, false, false, false, false, false, false, false, false, false, false, false] rfl rfl (any_of HT_.out (by kernel_rfl)) (fun _ _ _ h => h) (Or.inl ⟨by rfl, ?_⟩) ?_ ?_
                                        rotate_left
                                        · intro w'
                                          go_simp
                                          with_reducible rfl
                                        rotate_left
                                        · simp only [Act.put, List.setIfInBounds_toArray, List.set_cons_zero, List.set_cons_succ, i64_w, i32_w]
                                          rfl
                                        refine pure_ (i := 1) (N := some 55) (v := ?_) (a' := ?_) #[true, true, false, false, false, false, false, false, false, false, false, false, false, false, false] rfl rfl (any_of HT_.out (by kernel_rfl)) (fun _ _ _ h => h) (Or.inl ⟨by rfl, ?_⟩) ?_ ?_
                                        rotate_left
                                        · intro w'
                                          go_simp
                                          with_reducible rfl
                                        rotate_left
                                        · simp only [Act.put, List.setIfInBounds_toArray, List.set_cons_zero, List.set_cons_succ, i64_w, i32_w]
                                          rfl
                                        refine pure_ (i := 2) (N := some 56) (v := ?_) (a' := ?_) #[true, true, true, false, false, false, false, false, false, false, false, false, false, false, false] rfl rfl (any_of HT_.out (by kernel_rfl)) (fun _ _ _ h => h) (Or.inl ⟨by rfl, ?_⟩) ?_ ?_
                                        rotate_left
                                        · intro w'
                                          go_simp
                                          with_reducible rfl
                                        rotate_left
                                        · simp only [Act.put, List.setIfInBounds_toArray, List.set_cons_zero, List.set_cons_succ, i64_w, i32_w]
                                          rfl
                                        refine take_ (i := 3) (N := some 57) (v := ?_) (a' := ?_) #[true, true, true, true, false, false, false, false, false, false, false, false, false, false, false] rfl rfl (take_ofW HT_.out HW_.out (by kernel_rfl)) (fun _ _ _ h => h) (Or.inl ⟨by rfl, ?_⟩) hHeld ?_ ?_
                                        rotate_left
                                        · rintro w' ⟨s0, s1, s2, s3, s4, s5, s6⟩
                                          go_simp
                                          with_reducible rfl
                                        rotate_left
                                        · simp only [Act.put, List.setIfInBounds_toArray, List.set_cons_zero, List.set_cons_succ, i64_w, i32_w]
                                          rfl
                                        refine one_ (i := 4) (N := some 58) #[true, true, true, true, true, false, false, false, false, false, false, false, false, false, false] rfl rfl (one_of HT_.out (by kernel_rfl)) (by decide) (fun K hK => ?_)
                                        refine goes_ Tryd.func23 (by kernel_rfl) rfl #[.string (rdOf ByteArray.empty y154 x9_3)] (by rfl) rfl rfl (by (try simp only [List.map_toArray, List.map_cons, List.map_nil]); first | done | rfl | (simp only [List.length_drop, List.length_take]; rfl)) ?_
                                        with_reducible refine (boltingref15_May.calls k3 (rdOf ByteArray.empty y154 x9_3) true _ A30.out).mono ?_
                                        rintro e w' ⟨rfl, ⟨nd, rfl⟩⟩
                                        refine ⟨_, rfl, ?_⟩
                                        obtain ⟨Ao38, co38, eo38⟩ := Kd.R_slice HO_153002.out
                                        (first | subst eo38 | (injection eo38 with f1_ f2_ f3_; have f4_ := f1_.symm; have f5_ := f3_.symm; clear f1_ f2_ f3_; subst f4_; subst f5_))
                                        refine hK.out _ _ ⟨(blk_cell BK152.out 0).trans rfl, (blk_cell BK152.out 1).trans rfl, (blk_cell BK152.out 2).trans rfl, (blk_cell BK152.out 3).trans rfl, (blk_cell BK152.out 4).trans rfl, hHeld.2.2.2.2.2.1, hHeld.2.2.2.2.2.2⟩ (fun hHeld => ?_)
                                        clear hK K
                                        refine norm_ (a' := ?_) ?_ ?_
                                        rotate_left
                                        · show Act.put _ (some 58) _ = _
                                          simp only [Act.put, List.setIfInBounds_toArray, List.set_cons_zero, List.set_cons_succ, i64_w, i32_w]
                                          rfl
                                        refine pure_ (i := 5) (N := some 59) (v := ?_) (a' := ?_) #[true, true, true, true, true, true, false, false, false, false, false, false, false, false, false] rfl rfl (any_of HT_.out (by kernel_rfl)) (fun _ _ _ h => h) (Or.inl ⟨by rfl, ?_⟩) ?_ ?_
                                        rotate_left
                                        · intro w'
                                          go_simp
                                          with_reducible rfl
                                        rotate_left
                                        · simp only [Act.put, List.setIfInBounds_toArray, List.set_cons_zero, List.set_cons_succ, i64_w, i32_w]
                                          rfl
                                        refine pure_ (i := 6) (N := some 60) (v := ?_) (a' := ?_) #[true, true, true, true, true, true, true, false, false, false, false, false, false, false, false] rfl rfl (any_of HT_.out (by kernel_rfl)) (fun _ _ _ h => h) (Or.inl ⟨by rfl, ?_⟩) ?_ ?_
                                        rotate_left
                                        · intro w'
                                          go_simp
                                          with_reducible rfl
                                        rotate_left
                                        · simp only [Act.put, List.setIfInBounds_toArray, List.set_cons_zero, List.set_cons_succ, i64_w, i32_w]
                                          rfl
                                        refine pure_ (i := 8) (N := some 62) (v := ?_) (a' := ?_) #[true, true, true, true, true, true, true, false, true, false, false, false, false, false, false] rfl rfl (any_of HT_.out (by kernel_rfl)) (fun _ _ _ h => h) (Or.inl ⟨by rfl, ?_⟩) ?_ ?_
                                        rotate_left
                                        · intro w'
                                          go_simp
                                          with_reducible rfl
                                        rotate_left
                                        · simp only [Act.put, List.setIfInBounds_toArray, List.set_cons_zero, List.set_cons_succ, i64_w, i32_w]
                                          rfl
                                        refine pure_ (i := 9) (N := some 63) (v := ?_) (a' := ?_) #[true, true, true, true, true, true, true, false, true, true, false, false, false, false, false] rfl rfl (any_of HT_.out (by kernel_rfl)) (fun _ _ _ h => h) (Or.inl ⟨by rfl, ?_⟩) ?_ ?_
                                        rotate_left
                                        · intro w'
                                          go_simp
                                          with_reducible rfl
                                        rotate_left
                                        · simp only [Act.put, List.setIfInBounds_toArray, List.set_cons_zero, List.set_cons_succ, i64_w, i32_w]
                                          rfl
                                        refine pure_ (i := 10) (N := some 64) (v := ?_) (a' := ?_) #[true, true, true, true, true, true, true, false, true, true, true, false, false, false, false] rfl rfl (any_of HT_.out (by kernel_rfl)) (fun _ _ _ h => h) (Or.inl ⟨by rfl, ?_⟩) ?_ ?_
                                        rotate_left
                                        · intro w'
                                          go_simp
                                          with_reducible rfl
                                        rotate_left
                                        · simp only [Act.put, List.setIfInBounds_toArray, List.set_cons_zero, List.set_cons_succ, i64_w, i32_w]
                                          rfl
                                        refine take_ (i := 7) (N := some 61) (v := ?_) (a' := ?_) #[true, true, true, true, true, true, true, true, true, true, true, false, false, false, false] rfl rfl (take_ofW HT_.out HW_.out (by kernel_rfl)) (fun _ _ _ h => h) (Or.inl ⟨by rfl, ?_⟩) hHeld ?_ ?_
                                        rotate_left
                                        · rintro w' ⟨s0, s1, s2, s3, s4, s5, s6⟩
                                          go_simp
                                          with_reducible rfl
                                        rotate_left
                                        · simp only [Act.put, List.setIfInBounds_toArray, List.set_cons_zero, List.set_cons_succ, i64_w, i32_w]
                                          rfl
                                        refine take_ (i := 11) (N := some 65) (v := ?_) (a' := ?_) #[true, true, true, true, true, true, true, true, true, true, true, true, false, false, false] rfl rfl (take_ofW HT_.out HW_.out (by kernel_rfl)) (fun _ _ _ h => h) (Or.inl ⟨by rfl, ?_⟩) hHeld ?_ ?_
                                        rotate_left
                                        · rintro w' ⟨s0, s1, s2, s3, s4, s5, s6⟩
                                          go_simp
                                          with_reducible rfl
                                        rotate_left
                                        · simp only [Act.put, List.setIfInBounds_toArray, List.set_cons_zero, List.set_cons_succ, i64_w, i32_w]
                                          rfl
                                        refine one_ (i := 12) (N := some 66) #[true, true, true, true, true, true, true, true, true, true, true, true, true, false, false] rfl rfl (one_of HT_.out (by kernel_rfl)) (by decide) (fun K hK => ?_)
                                        refine goes_ Tryd.func22 (by kernel_rfl) rfl #[.slice Ao38 x153002_3.length co38, .string (rdOf ByteArray.empty y154 x9_3)] (by rfl) rfl rfl (by (try simp only [List.map_toArray, List.map_cons, List.map_nil]); first | done | rfl | (simp only [List.length_drop, List.length_take]; rfl)) ?_
                                        with_reducible refine (boltingref02_Has.calls k3 _ _ x153002_3 (rdOf ByteArray.empty y154 x9_3) false _ ?side1 ?side2 A32.out).mono ?_
                                        (case side1 => repeat (first | exact (Kd.R_reads' HO_153002.out).2.2 | (with_reducible refine Kd.C_alloc ?_ _) | (with_reducible refine Kd.C_drewN ?_ _) | (with_reducible refine Kd.C_drew ?_)))
                                        (case side2 => exact (Kd.R_reads' HO_153002.out).2.1)
                                        rintro e w' ⟨rfl, ⟨nd, rfl⟩⟩
                                        refine ⟨_, rfl, ?_⟩
                                        refine hK.out _ _ ⟨(blk_cell BK152.out 0).trans rfl, (blk_cell BK152.out 1).trans rfl, (blk_cell BK152.out 2).trans rfl, (blk_cell BK152.out 3).trans rfl, (blk_cell BK152.out 4).trans rfl, hHeld.2.2.2.2.2.1, hHeld.2.2.2.2.2.2⟩ (fun hHeld => ?_)
                                        clear hK K
                                        refine norm_ (a' := ?_) ?_ ?_
                                        rotate_left
                                        · show Act.put _ (some 66) _ = _
                                          simp only [Act.put, List.setIfInBounds_toArray, List.set_cons_zero, List.set_cons_succ, i64_w, i32_w]
                                          rfl
                                        refine pure_ (i := 13) (N := some 67) (v := ?_) (a' := ?_) #[true, true, true, true, true, true, true, true, true, true, true, true, true, true, false] rfl rfl (any_of HT_.out (by kernel_rfl)) (fun _ _ _ h => h) (Or.inl ⟨by rfl, ?_⟩) ?_ ?_
                                        rotate_left
                                        · intro w'
                                          go_simp
                                          with_reducible rfl
                                        rotate_left
                                        · simp only [Act.put, List.setIfInBounds_toArray, List.set_cons_zero, List.set_cons_succ, i64_w, i32_w]
                                          rfl
                                        refine pure_ (i := 14) (N := some 68) (v := ?_) (a' := ?_) #[true, true, true, true, true, true, true, true, true, true, true, true, true, true, true] rfl rfl (any_of HT_.out (by kernel_rfl)) (fun _ _ _ h => h) (Or.inl ⟨by rfl, ?_⟩) ?_ ?_
                                        rotate_left
                                        · intro w'
                                          go_simp
                                          with_reducible rfl
                                        rotate_left
                                        · simp only [Act.put, List.setIfInBounds_toArray, List.set_cons_zero, List.set_cons_succ, i64_w, i32_w]
                                          rfl
                                        refine done_ (done_of HT_.out (by kernel_rfl)) ?_
                                        try go_wp2
                                        (try (rw [drewN_self w37]; generalize hq_ : World.drewN w37 _ = w37; have n0_ : Aside0 (Kd.R Kd.string 9 w37 w.heap.size (fun _ => True) (.slice Ao38 x153002_3.length co38) x153002_3) := ⟨by rw [← hq_]; exact (by (with_reducible repeat (first | apply Kd.R_alloc | apply Kd.R_drewN | apply Kd.R_drew)); exact HO_153002.out)⟩; have n1_ : Aside0 (Kd.N (Kd.slice 9 Kd.string) 24 w37 w.heap.size (fun k_ => some k_ ≠ (.slice Ao38 x153002_3.length co38 : Value).ownBlock ∧ k_ ≠ gb148 ∧ k_ ≠ gb152) (.slice (some ad153) t149.length co14) t149) := ⟨by rw [← hq_]; exact (by (with_reducible repeat (first | apply Kd.N_alloc | apply Kd.N_drewN | apply Kd.N_drew)); exact HO_5.out)⟩; have n2_ : Aside0 (Kd.V Kd.string 9 w37 w.heap.size (fun k_ => some k_ ≠ (.slice Ao38 x153002_3.length co38 : Value).ownBlock ∧ some k_ ≠ (.slice (some ad153) t149.length co14 : Value).ownBlock ∧ k_ ≠ gb148 ∧ k_ ≠ gb152) (.slice (some ad166) y154.length c15) y154) := ⟨by rw [← hq_]; exact (by (with_reducible repeat (first | apply Kd.V_alloc | apply Kd.V_drewN | apply Kd.V_drew)); exact Kd.V_mono HO_8.out (fun _ hk => ⟨hk.2.1, ⟨hk.1, ⟨hk.2.2.1, hk.2.2.2⟩⟩⟩))⟩; have n3_ : Aside0 (w37.heap[gb148]? = some (.cells #[.bool false, .bool false, .slice none 0 0, .bool false, .bool false] 26 (0, 0))) := ⟨by rw [← hq_]; exact (by (with_reducible repeat (first | refine blk_drewN ?_ _ | refine blk_drew ?_ | refine blk_alloc ?_ _)); exact BK148.out)⟩; have n4_ : Aside0 (w37.heap[gb152]? = some (.cells #[.bool x153000_12, .bool a1, .slice Ao38 x153002_3.length co38, .bool t164, .bool t165] 26 (0, 0))) := ⟨by rw [← hq_]; exact (by (with_reducible repeat (first | refine blk_drewN ?_ _ | refine blk_drew ?_ | refine blk_alloc ?_ _)); exact BK152.out)⟩; have n5_ : Aside0 (Below w.heap.size w w37) := ⟨by rw [← hq_]; exact (by repeat (first | (with_reducible first | exact HB.out | apply below_alloc | apply pw_below_drewN | apply below_drew1 | refine below_set ?_ GE148.out | refine below_set ?_ GE152.out) | exact HB.out))⟩; clear HO_153002 HO_5 HO_8 BK148 BK152 HB hq_; have HO_153002 := n0_; have HO_5 := n1_; have HO_8 := n2_; have BK148 := n3_; have BK152 := n4_; have HB := n5_; clear n0_ n1_ n2_ n3_ n4_ n5_))
                                        have n0_ := Aside0.mk (Kd.N_drew HO_5.out)
                                        have n1_ := Aside0.mk (Kd.V_drew HO_8.out)
                                        have n2_ := Aside0.mk (Kd.R_drew HO_153002.out)
                                        have n3_ := Aside0.mk (blk_drew BK148.out)
                                        have n4_ := Aside0.mk (blk_drew BK152.out)
                                        have n5_ := Aside0.mk (below_drew1 HB.out)
                                        clear HO_5
                                        clear HO_8
                                        clear HO_153002
                                        clear BK148
                                        clear BK152
                                        clear HB
                                        have HO_5 := n0_
                                        have HO_8 := n1_
                                        have HO_153002 := n2_
                                        have BK148 := n3_
                                        have BK152 := n4_
                                        have HB := n5_
                                        clear n0_ n1_ n2_ n3_ n4_ n5_
                                        have p170 : 0 ≤ (x9_3 : Int) := of_decide_eq_true (by first | (with_reducible assumption) | assumption)
                                        have q170 : x9_3 < (y154.length : Int) := of_decide_eq_true (by first | (with_reducible assumption) | assumption)
                                        obtain ⟨ad170, e170, hx170_0⟩ := Kd.at_string (Kd.V_reads' HO_8.out).2.2 x9_3 p170 q170
                                        obtain rfl : ad166 = ad170 := (by injection e170)
                                        replace p170 := eq_true p170
                                        replace q170 := eq_true q170
                                        refine start_ (n := 10) (S := fun w' => w'.cell? ⟨gb152, 0, none⟩ = some (.bool x153000_12) ∧ w'.cell? ⟨gb152, 1, none⟩ = some (.bool a1) ∧ w'.cell? ⟨gb152, 2, none⟩ = some (.slice Ao38 x153002_3.length co38) ∧ w'.cell? ⟨gb152, 3, none⟩ = some (.bool t164) ∧ w'.cell? ⟨gb152, 4, none⟩ = some (.bool t165) ∧ w'.cell? (ad166.add (x9_3).toNat) = some (.string (rdOf ByteArray.empty y154 x9_3))) (ds := [7, 9]) #[false, false, false, false, false, false, false, false, false, false] (by kernel_rfl) rfl rfl ⟨(blk_cell BK152.out 0).trans rfl, (blk_cell BK152.out 1).trans rfl, (blk_cell BK152.out 2).trans rfl, (blk_cell BK152.out 3).trans rfl, (blk_cell BK152.out 4).trans rfl, hx170_0⟩ (fun hHeld => ?_); refine with_tabW boltingref15_Parse.tab16 boltingref15_Parse.bits16 (fun HT_ HW_ => ?_)
                                        generalize w37.drew = w39 at HO_5 HO_8 HO_153002 BK148 BK152 HB hx170_0 hHeld ⊢
                                        refine pure_ (i := 0) (N := some 69) (v := ?_) (a' := ?_) #[true, false, false, false, false, false, false, false, false, false] rfl rfl (any_of HT_.out (by kernel_rfl)) (fun _ _ _ h => h) (Or.inl ⟨by rfl, ?_⟩) ?_ ?_
                                        rotate_left
                                        · intro w'
                                          go_simp
                                          with_reducible rfl
                                        rotate_left
                                        · simp only [Act.put, List.setIfInBounds_toArray, List.set_cons_zero, List.set_cons_succ, i64_w, i32_w]
                                          rfl
                                        refine pure_ (i := 2) (N := some 71) (v := ?_) (a' := ?_) #[true, false, true, false, false, false, false, false, false, false] rfl rfl (any_of HT_.out (by kernel_rfl)) (fun _ _ _ h => h) (Or.inl ⟨by rfl, ?_⟩) ?_ ?_
                                        rotate_left
                                        · intro w'
                                          go_simp
                                          with_reducible rfl
                                        rotate_left
                                        · simp only [Act.put, List.setIfInBounds_toArray, List.set_cons_zero, List.set_cons_succ, i64_w, i32_w]
                                          rfl
                                        refine pure_ (i := 3) (N := some 72) (v := ?_) (a' := ?_) #[true, false, true, true, false, false, false, false, false, false] rfl rfl (any_of HT_.out (by kernel_rfl)) (fun _ _ _ h => h) (Or.inl ⟨by rfl, ?_⟩) ?_ ?_
                                        rotate_left
                                        · intro w'
                                          go_simp
                                          with_reducible rfl
                                        rotate_left
                                        · simp only [Act.put, List.setIfInBounds_toArray, List.set_cons_zero, List.set_cons_succ, i64_w, i32_w]
                                          rfl
                                        refine pure_ (i := 4) (N := some 73) (v := ?_) (a' := ?_) #[true, false, true, true, true, false, false, false, false, false] rfl rfl (any_of HT_.out (by kernel_rfl)) (fun _ _ _ h => h) (Or.inl ⟨by rfl, ?_⟩) ?_ ?_
                                        rotate_left
                                        · intro w'
                                          go_simp
                                          with_reducible rfl
                                        rotate_left
                                        · simp only [Act.put, List.setIfInBounds_toArray, List.set_cons_zero, List.set_cons_succ, i64_w, i32_w]
                                          rfl
                                        refine take_ (i := 1) (N := some 70) (v := ?_) (a' := ?_) #[true, true, true, true, true, false, false, false, false, false] rfl rfl (take_ofW HT_.out HW_.out (by kernel_rfl)) (fun _ _ _ h => h) (Or.inl ⟨by rfl, ?_⟩) hHeld ?_ ?_
                                        rotate_left
                                        · rintro w' ⟨s0, s1, s2, s3, s4, s5⟩
                                          go_simp
                                          with_reducible rfl
                                        rotate_left
                                        · simp only [Act.put, List.setIfInBounds_toArray, List.set_cons_zero, List.set_cons_succ, i64_w, i32_w]
                                          rfl
                                        refine take_ (i := 5) (N := some 74) (v := ?_) (a' := ?_) #[true, true, true, true, true, true, false, false, false, false] rfl rfl (take_ofW HT_.out HW_.out (by kernel_rfl)) (fun _ _ _ h => h) (Or.inl ⟨by rfl, ?_⟩) hHeld ?_ ?_
                                        rotate_left
                                        · rintro w' ⟨s0, s1, s2, s3, s4, s5⟩
                                          go_simp
                                          with_reducible rfl
                                        rotate_left
                                        · simp only [Act.put, List.setIfInBounds_toArray, List.set_cons_zero, List.set_cons_succ, i64_w, i32_w]
                                          rfl
                                        refine one_ (i := 6) (N := some 75) #[true, true, true, true, true, true, true, false, false, false] rfl rfl (one_of HT_.out (by kernel_rfl)) (by decide) (fun K hK => ?_)
                                        refine value_ (w1 := ?_) (v := ?_) (by rfl) rfl ?_ ?_
                                        rotate_left 2
                                        · go_simp
                                          constructor
                                          · rfl
                                          · rfl
                                        refine hK.out _ _ ⟨(blk_cell (blk_alloc BK152.out _) 0).trans rfl, (blk_cell (blk_alloc BK152.out _) 1).trans rfl, (blk_cell (blk_alloc BK152.out _) 2).trans rfl, (blk_cell (blk_alloc BK152.out _) 3).trans rfl, (blk_cell (blk_alloc BK152.out _) 4).trans rfl, (World.cell?_alloc_lt _ _ _ (World.block_lt_of_cell? _ _ (hHeld.2.2.2.2.2))).trans (hHeld.2.2.2.2.2)⟩ (fun hHeld => ?_)
                                        clear hK K
                                        refine norm_ (a' := ?_) ?_ ?_
                                        rotate_left
                                        · show Act.put _ (some 75) _ = _
                                          simp only [Act.put, List.setIfInBounds_toArray, List.set_cons_zero, List.set_cons_succ, i64_w, i32_w]
                                          rfl
                                        refine last_ (i := 7) (N := some 76) #[true, true, true, true, true, true, true, true, false, false] rfl rfl (one_of HT_.out (by kernel_rfl)) (by decide) (fun K hK => ?_)
                                        refine Kd.R_append_step Kd.string (w0 := w) w.heap.size (by rfl) (.tmp 70) (.tmp 75) 24 9 (.string ⟨#[]⟩) 16 rfl Tryd.underlying24 info9 rfl (by decide) (by omega) (.slice Ao38 x153002_3.length co38) x153002_3 (rdOf ByteArray.empty y154 x9_3) [.string (rdOf ByteArray.empty y154 x9_3)] (fun _ => True) (fun _ => False) rfl rfl ?aP (fun _ hk => hk.elim) ?aF ?aO ?aB ?aS ?aL ?_
                                        (case aP => exact rfl)
                                        (case aB => exact (by repeat (first | (with_reducible first | exact HB.out | apply below_alloc | apply pw_below_drewN | apply below_drew1 | refine below_set ?_ GE148.out | refine below_set ?_ GE152.out) | exact HB.out)))
                                        (case aF => exact (fun _ _ => trivial))
                                        (case aO => exact (by (with_reducible repeat (first | apply Kd.R_alloc | apply Kd.R_drewN | apply Kd.R_drew)); exact HO_153002.out))
                                        (case aS => exact (below_size (by repeat (first | (with_reducible first | exact HB.out | apply below_alloc | apply pw_below_drewN | apply below_drew1 | refine below_set ?_ GE148.out | refine below_set ?_ GE152.out) | exact HB.out))))
                                        (case aL => have := LMc36.out; omega)
                                        intro v172 w40 ho hb hg hat
                                        rw [← Ny171.out] at ho
                                        have n0_ := Aside0.mk (Kd.N_afterv (ok := (fun k_ => k_ ≠ gb148 ∧ k_ ≠ gb152)) (by (with_reducible repeat (first | apply Kd.N_alloc | apply Kd.N_drewN | apply Kd.N_drew)); exact Kd.N_mono HO_5.out (fun _ hk => ⟨⟨hk.2.1, hk.2.2⟩, hk.1⟩)) hg hat)
                                        have n1_ := Aside0.mk (Kd.V_afterv (ok := (fun k_ => some k_ ≠ (.slice (some ad153) t149.length co14 : Value).ownBlock ∧ k_ ≠ gb148 ∧ k_ ≠ gb152)) (by (with_reducible repeat (first | apply Kd.V_alloc | apply Kd.V_drewN | apply Kd.V_drew)); exact Kd.V_mono HO_8.out (fun _ hk => by rcases hk with ⟨_, _, _, _⟩; (repeat' apply And.intro) <;> assumption)) hg hat)
                                        have n2_ := Aside0.mk (blk_grown (g := gb148) (o := .cells #[.bool false, .bool false, .slice none 0 0, .bool false, .bool false] 26 (0, 0)) (by (with_reducible repeat (first | refine blk_drewN ?_ _ | refine blk_drew ?_ | refine blk_alloc ?_ _)); exact BK148.out) hg (Kd.R_ne HO_153002.out BK148.out (by decide)))
                                        have n3_ := Aside0.mk (blk_grown (g := gb152) (o := .cells #[.bool x153000_12, .bool a1, .slice Ao38 x153002_3.length co38, .bool t164, .bool t165] 26 (0, 0)) (by (with_reducible repeat (first | refine blk_drewN ?_ _ | refine blk_drew ?_ | refine blk_alloc ?_ _)); exact BK152.out) hg (Kd.R_ne HO_153002.out BK152.out (by decide)))
                                        have n4_ := Aside0.mk (hb)
                                        have n5_ := Aside0.mk (ho)
                                        clear HO_5
                                        clear HO_8
                                        clear BK148
                                        clear BK152
                                        clear HB
                                        clear HO_153002
                                        have HO_5 := n0_
                                        have HO_8 := n1_
                                        have BK148 := n2_
                                        have BK152 := n3_
                                        have HB := n4_
                                        have HO173 := n5_
                                        clear n0_ n1_ n2_ n3_ n4_ n5_
                                        clear ho hb hg hat
                                        obtain ⟨Ao41, co41, eo41⟩ := Kd.R_slice HO173.out
                                        (first | subst eo41 | (injection eo41 with f1_ f2_ f3_; have f4_ := f1_.symm; have f5_ := f3_.symm; clear f1_ f2_ f3_; subst f4_; subst f5_))
                                        refine hK.out _ _ ?_
                                        clear hK K
                                        refine norm_ (a' := ?_) ?_ ?_
                                        rotate_left
                                        · show Act.put _ (some 76) _ = _
                                          simp only [Act.put, List.setIfInBounds_toArray, List.set_cons_zero, List.set_cons_succ, i64_w, i32_w]
                                          rfl
                                        refine pure_ (i := 8) (N := some 77) (v := ?_) (a' := ?_) #[true, true, true, true, true, true, true, true, true, false] rfl rfl (any_of HT_.out (by kernel_rfl)) (fun _ _ _ h => h) (Or.inl ⟨by rfl, ?_⟩) ?_ ?_
                                        rotate_left
                                        · intro w'
                                          go_simp
                                          with_reducible rfl
                                        rotate_left
                                        · simp only [Act.put, List.setIfInBounds_toArray, List.set_cons_zero, List.set_cons_succ, i64_w, i32_w]
                                          rfl
                                        refine last_ (i := 9) (N := none) #[true, true, true, true, true, true, true, true, true, true] rfl rfl (one_of HT_.out (by kernel_rfl)) (by decide) (fun K hK => ?_)
                                        have hs42 : w40.cell? ⟨gb152, 2, none⟩ = some (.slice Ao38 x153002_3.length co38) := (blk_cell BK152.out 2).trans rfl
                                        have hfs42 := blk_frozen BK152.out 2
                                        have hns42_0 := NB148_152.out
                                        have hms42_0 := NB152_148.out
                                        refine skip_ (w1 := ?_) (by rfl) rfl ?_ ?_
                                        rotate_left
                                        · go_simp
                                          rfl
                                        refine hK.out _ _ ?_
                                        clear hK K
                                        refine done_ (done_of HT_.out (by kernel_rfl)) ?_
                                        try go_wp2
                                        go_roundg k3
                                        case measure => have := HK1.out; have := HJ12.out; have := HK3.out; omega
                                        case rel => exact ⟨(wrap64 (x9_3 + 1)), (y171), (.slice Ao41 y171.length co41), (by first | rfl | (simp; done) | (simp [*]; done)), H', ⟨by have := HK1.out; have := HJ12.out; have := HK3.out; omega⟩, ⟨by (with_reducible repeat (first | apply Kd.N_alloc | apply Kd.N_drewN | apply Kd.N_drew)); exact Kd.N_mono (Kd.N_far (p := ⟨gb152, 2, none⟩) (Kd.N_mono HO_5.out (fun k_ hk => (⟨hk, hk.1.2⟩ : _ ∧ k_ ≠ gb152))) (fun _ hk => hk.2) (.slice Ao41 y171.length co41)) (fun _ hk => ⟨hk.1.2, ⟨hk.1.1.1, hk.1.1.2⟩⟩)⟩, ⟨by (with_reducible repeat (first | apply Kd.V_alloc | apply Kd.V_drewN | apply Kd.V_drew)); exact Kd.V_mono (Kd.V_far (p := ⟨gb152, 2, none⟩) (Kd.V_mono HO_8.out (fun k_ hk => (⟨hk, hk.1.2.2⟩ : _ ∧ k_ ≠ gb152))) (fun _ hk => hk.2) (.slice Ao41 y171.length co41)) (fun _ hk => ⟨hk.1.1.1, ⟨hk.1.2, ⟨hk.1.1.2.1, hk.1.1.2.2⟩⟩⟩)⟩, ⟨by (with_reducible repeat (first | apply Kd.R_alloc | apply Kd.R_drewN | apply Kd.R_drew)); exact Kd.R_mono (Kd.R_far (p := ⟨gb152, 2, none⟩) (Kd.R_types HO173.out BK152.out (by decide)) (fun _ hk => hk.2) (.slice Ao41 y171.length co41)) (fun _ hk => trivial)⟩, ⟨by (with_reducible repeat (first | refine blk_drewN ?_ _ | refine blk_drew ?_ | refine blk_alloc ?_ _)); refine blk_far ?_ NB148_152.out _; (with_reducible repeat (first | refine blk_drewN ?_ _ | refine blk_drew ?_ | refine blk_alloc ?_ _)); exact BK148.out⟩, ⟨by (with_reducible repeat (first | refine blk_drewN ?_ _ | refine blk_drew ?_ | refine blk_alloc ?_ _)); refine blk_put (cs := #[.bool x153000_12, .bool a1, .slice Ao38 x153002_3.length co38, .bool t164, .bool t165]) ?_ 2 _ rfl; (with_reducible repeat (first | refine blk_drewN ?_ _ | refine blk_drew ?_ | refine blk_alloc ?_ _)); exact BK152.out⟩, ⟨by repeat (first | (with_reducible first | exact HB.out | apply below_alloc | apply pw_below_drewN | apply below_drew1 | refine below_set ?_ GE148.out | refine below_set ?_ GE152.out) | exact HB.out)⟩⟩
                                      · rw [if_neg c36] at H
                                        exact absurd H (by simp)
                                  · replace c31 := Bool.eq_false_iff.mpr c31
                                    subst c31
                                    have H1 : (boltingref15_Parse.l1 k3 t149 x7_1 y154 (wrap64 (x9_3 + 1)) x153000_12 a1 x153002_3 t164 t165) = some (r1, r2, r3, r4, r5) := by rw [if_neg (show ¬ (false = true) by decide)] at H; exact H
                                    clear H
                                    have H := H1
                                    clear H1
                                    have H' := Aside0.mk H
                                    clear H
                                    try go_wp2
                                    have n0_ := Aside0.mk (Kd.N_drew HO_5.out)
                                    have n1_ := Aside0.mk (Kd.V_drew HO_8.out)
                                    have n2_ := Aside0.mk (Kd.R_drew HO_153002.out)
                                    have n3_ := Aside0.mk (blk_drew BK148.out)
                                    have n4_ := Aside0.mk (blk_drew BK152.out)
                                    have n5_ := Aside0.mk (below_drew1 HB.out)
                                    clear HO_5
                                    clear HO_8
                                    clear HO_153002
                                    clear BK148
                                    clear BK152
                                    clear HB
                                    have HO_5 := n0_
                                    have HO_8 := n1_
                                    have HO_153002 := n2_
                                    have BK148 := n3_
                                    have BK152 := n4_
                                    have HB := n5_
                                    clear n0_ n1_ n2_ n3_ n4_ n5_
                                    have p166 : 0 ≤ (x9_3 : Int) := of_decide_eq_true (by first | (with_reducible assumption) | assumption)
                                    have q166 : x9_3 < (y154.length : Int) := of_decide_eq_true (by first | (with_reducible assumption) | assumption)
                                    obtain ⟨ad166, e166, hx166_0⟩ := Kd.at_string (Kd.V_reads' HO_8.out).2.2 x9_3 p166 q166
                                    cases e166
                                    replace p166 := eq_true p166
                                    replace q166 := eq_true q166
                                    refine start_ (n := 15) (S := fun w' => w'.cell? (ad166.add (x9_3).toNat) = some (.string (rdOf ByteArray.empty y154 x9_3))) (ds := []) #[false, false, false, false, false, false, false, false, false, false, false, false, false, false, false] (by kernel_rfl) rfl rfl (hx166_0) (fun hHeld => ?_); refine with_tabW boltingref15_Parse.tab15 boltingref15_Parse.bits15 (fun HT_ HW_ => ?_)
                                    generalize wr.drew = w43 at HO_5 HO_8 HO_153002 BK148 BK152 HB hx166_0 hHeld ⊢
                                    refine pure_ (i := 0) (N := some 54) (v := ?_) (a' := ?_) #[true, false, false, false, false, false, false, false, false, false, false, false, false, false, false] rfl rfl (any_of HT_.out (by kernel_rfl)) (fun _ _ _ h => h) (Or.inl ⟨by rfl, ?_⟩) ?_ ?_
                                    rotate_left
                                    · intro w'
                                      go_simp
                                      with_reducible rfl
                                    rotate_left
                                    · simp only [Act.put, List.setIfInBounds_toArray, List.set_cons_zero, List.set_cons_succ, i64_w, i32_w]
                                      rfl
                                    refine pure_ (i := 1) (N := some 55) (v := ?_) (a' := ?_) #[true, true, false, false, false, false, false, false, false, false, false, false, false, false, false] rfl rfl (any_of HT_.out (by kernel_rfl)) (fun _ _ _ h => h) (Or.inl ⟨by rfl, ?_⟩) ?_ ?_
                                    rotate_left
                                    · intro w'
                                      go_simp
                                      with_reducible rfl
                                    rotate_left
                                    · simp only [Act.put, List.setIfInBounds_toArray, List.set_cons_zero, List.set_cons_succ, i64_w, i32_w]
                                      rfl
                                    refine pure_ (i := 2) (N := some 56) (v := ?_) (a' := ?_) #[true, true, true, false, false, false, false, false, false, false, false, false, false, false, false] rfl rfl (any_of HT_.out (by kernel_rfl)) (fun _ _ _ h => h) (Or.inl ⟨by rfl, ?_⟩) ?_ ?_
                                    rotate_left
                                    · intro w'
                                      go_simp
                                      with_reducible rfl
                                    rotate_left
                                    · simp only [Act.put, List.setIfInBounds_toArray, List.set_cons_zero, List.set_cons_succ, i64_w, i32_w]
                                      rfl
                                    refine take_ (i := 3) (N := some 57) (v := ?_) (a' := ?_) #[true, true, true, true, false, false, false, false, false, false, false, false, false, false, false] rfl rfl (take_ofW HT_.out HW_.out (by kernel_rfl)) (fun _ _ _ h => h) (Or.inl ⟨by rfl, ?_⟩) hHeld ?_ ?_
                                    rotate_left
                                    · intro w' s0
                                      go_simp
                                      with_reducible rfl
                                    rotate_left
                                    · simp only [Act.put, List.setIfInBounds_toArray, List.set_cons_zero, List.set_cons_succ, i64_w, i32_w]
                                      rfl
                                    refine one_ (i := 4) (N := some 58) #[true, true, true, true, true, false, false, false, false, false, false, false, false, false, false] rfl rfl (one_of HT_.out (by kernel_rfl)) (by decide) (fun K hK => ?_)
                                    refine goes_ Tryd.func23 (by kernel_rfl) rfl #[.string (rdOf ByteArray.empty y154 x9_3)] (by rfl) rfl rfl (by (try simp only [List.map_toArray, List.map_cons, List.map_nil]); first | done | rfl | (simp only [List.length_drop, List.length_take]; rfl)) ?_
                                    with_reducible refine (boltingref15_May.calls k3 (rdOf ByteArray.empty y154 x9_3) false _ A30.out).mono ?_
                                    rintro e w' ⟨rfl, ⟨nd, rfl⟩⟩
                                    refine ⟨_, rfl, ?_⟩
                                    refine hK.out _ _ (hHeld) (fun hHeld => ?_)
                                    clear hK K
                                    refine norm_ (a' := ?_) ?_ ?_
                                    rotate_left
                                    · show Act.put _ (some 58) _ = _
                                      simp only [Act.put, List.setIfInBounds_toArray, List.set_cons_zero, List.set_cons_succ, i64_w, i32_w]
                                      rfl
                                    refine pure_ (i := 5) (N := some 59) (v := ?_) (a' := ?_) #[true, true, true, true, true, true, false, false, false, false, false, false, false, false, false] rfl rfl (any_of HT_.out (by kernel_rfl)) (fun _ _ _ h => h) (Or.inl ⟨by rfl, ?_⟩) ?_ ?_
                                    rotate_left
                                    · intro w'
                                      go_simp
                                      with_reducible rfl
                                    rotate_left
                                    · simp only [Act.put, List.setIfInBounds_toArray, List.set_cons_zero, List.set_cons_succ, i64_w, i32_w]
                                      rfl
                                    refine pure_ (i := 6) (N := some 60) (v := undef) (a' := ?_) #[true, true, true, true, true, true, true, false, false, false, false, false, false, false, false] rfl rfl (any_of HT_.out (by kernel_rfl)) (fun _ _ _ h => h) (Or.inr ⟨by rfl, rfl⟩) ?_ ?_
                                    rotate_left
                                    · simp only [Act.put, List.setIfInBounds_toArray, List.set_cons_zero, List.set_cons_succ, i64_w, i32_w]
                                      rfl
                                    refine pure_ (i := 7) (N := some 61) (v := undef) (a' := ?_) #[true, true, true, true, true, true, true, true, false, false, false, false, false, false, false] rfl rfl (any_of HT_.out (by kernel_rfl)) (fun _ _ _ h => h) (Or.inr ⟨by rfl, rfl⟩) ?_ ?_
                                    rotate_left
                                    · simp only [Act.put, List.setIfInBounds_toArray, List.set_cons_zero, List.set_cons_succ, i64_w, i32_w]
                                      rfl
                                    refine pure_ (i := 8) (N := some 62) (v := undef) (a' := ?_) #[true, true, true, true, true, true, true, true, true, false, false, false, false, false, false] rfl rfl (any_of HT_.out (by kernel_rfl)) (fun _ _ _ h => h) (Or.inr ⟨by rfl, rfl⟩) ?_ ?_
                                    rotate_left
                                    · simp only [Act.put, List.setIfInBounds_toArray, List.set_cons_zero, List.set_cons_succ, i64_w, i32_w]
                                      rfl
                                    refine pure_ (i := 9) (N := some 63) (v := undef) (a' := ?_) #[true, true, true, true, true, true, true, true, true, true, false, false, false, false, false] rfl rfl (any_of HT_.out (by kernel_rfl)) (fun _ _ _ h => h) (Or.inr ⟨by rfl, rfl⟩) ?_ ?_
                                    rotate_left
                                    · simp only [Act.put, List.setIfInBounds_toArray, List.set_cons_zero, List.set_cons_succ, i64_w, i32_w]
                                      rfl
                                    refine pure_ (i := 10) (N := some 64) (v := undef) (a' := ?_) #[true, true, true, true, true, true, true, true, true, true, true, false, false, false, false] rfl rfl (any_of HT_.out (by kernel_rfl)) (fun _ _ _ h => h) (Or.inr ⟨by rfl, rfl⟩) ?_ ?_
                                    rotate_left
                                    · simp only [Act.put, List.setIfInBounds_toArray, List.set_cons_zero, List.set_cons_succ, i64_w, i32_w]
                                      rfl
                                    refine pure_ (i := 11) (N := some 65) (v := undef) (a' := ?_) #[true, true, true, true, true, true, true, true, true, true, true, true, false, false, false] rfl rfl (any_of HT_.out (by kernel_rfl)) (fun _ _ _ h => h) (Or.inr ⟨by rfl, rfl⟩) ?_ ?_
                                    rotate_left
                                    · simp only [Act.put, List.setIfInBounds_toArray, List.set_cons_zero, List.set_cons_succ, i64_w, i32_w]
                                      rfl
                                    refine pure_ (i := 12) (N := some 66) (v := undef) (a' := ?_) #[true, true, true, true, true, true, true, true, true, true, true, true, true, false, false] rfl rfl (any_of HT_.out (by kernel_rfl)) (fun _ _ _ h => h) (Or.inr ⟨by rfl, rfl⟩) ?_ ?_
                                    rotate_left
                                    · simp only [Act.put, List.setIfInBounds_toArray, List.set_cons_zero, List.set_cons_succ, i64_w, i32_w]
                                      rfl
                                    refine pure_ (i := 13) (N := some 67) (v := undef) (a' := ?_) #[true, true, true, true, true, true, true, true, true, true, true, true, true, true, false] rfl rfl (any_of HT_.out (by kernel_rfl)) (fun _ _ _ h => h) (Or.inr ⟨by rfl, rfl⟩) ?_ ?_
                                    rotate_left
                                    · simp only [Act.put, List.setIfInBounds_toArray, List.set_cons_zero, List.set_cons_succ, i64_w, i32_w]
                                      rfl
                                    refine pure_ (i := 14) (N := some 68) (v := ?_) (a' := ?_) #[true, true, true, true, true, true, true, true, true, true, true, true, true, true, true] rfl rfl (any_of HT_.out (by kernel_rfl)) (fun _ _ _ h => h) (Or.inl ⟨by rfl, ?_⟩) ?_ ?_
                                    rotate_left
                                    · intro w'
                                      go_simp
                                      with_reducible rfl
                                    rotate_left
                                    · simp only [Act.put, List.setIfInBounds_toArray, List.set_cons_zero, List.set_cons_succ, i64_w, i32_w]
                                      rfl
                                    refine done_ (done_of HT_.out (by kernel_rfl)) ?_
                                    try go_wp2
                                    go_roundg k3
                                    case measure => have := HK1.out; have := HJ12.out; have := HK3.out; omega
                                    case rel => exact ⟨(wrap64 (x9_3 + 1)), (x153002_3), (u153002), (by first | rfl | (simp; done) | (simp [*]; done)), H', ⟨by have := HK1.out; have := HJ12.out; have := HK3.out; omega⟩, ⟨by (with_reducible repeat (first | apply Kd.N_alloc | apply Kd.N_drewN | apply Kd.N_drew)); exact HO_5.out⟩, ⟨by (with_reducible repeat (first | apply Kd.V_alloc | apply Kd.V_drewN | apply Kd.V_drew)); exact HO_8.out⟩, ⟨by (with_reducible repeat (first | apply Kd.R_alloc | apply Kd.R_drewN | apply Kd.R_drew)); exact HO_153002.out⟩, ⟨by (with_reducible repeat (first | refine blk_drewN ?_ _ | refine blk_drew ?_ | refine blk_alloc ?_ _)); exact BK148.out⟩, ⟨by (with_reducible repeat (first | refine blk_drewN ?_ _ | refine blk_drew ?_ | refine blk_alloc ?_ _)); exact BK152.out⟩, ⟨by repeat (first | (with_reducible first | exact HB.out | apply below_alloc | apply pw_below_drewN | apply below_drew1 | refine below_set ?_ GE148.out | refine below_set ?_ GE152.out) | exact HB.out)⟩⟩
                                · rw [if_neg c29] at H
                                  exact absurd H (by simp)
                              · rw [if_neg c28] at H
                                have c28b0 : decide (x9_3 < (y154.length : Int)) = false := decide_eq_false c28
                                clear c28
                                have H' := Aside0.mk H
                                clear H
                                go_wp2
                                go_roundg k3
                                case measure => have := HK1.out; have := HJ12.out; have := HK3.out; omega
                                case rel => exact ⟨(wrap64 (x7_1 + 1)), (x153000_12), (x153002_3), (t164), (t165), (u153002), (by first | rfl | (simp; done) | (simp [*]; done)), H', ⟨by have := HK1.out; have := HJ12.out; have := HK3.out; omega⟩, ⟨by (with_reducible repeat (first | apply Kd.N_alloc | apply Kd.N_drewN | apply Kd.N_drew)); exact HO_5.out⟩, ⟨by (with_reducible repeat (first | apply Kd.R_alloc | apply Kd.R_drewN | apply Kd.R_drew)); exact HO_153002.out⟩, ⟨by (with_reducible repeat (first | refine blk_drewN ?_ _ | refine blk_drew ?_ | refine blk_alloc ?_ _)); exact BK148.out⟩, ⟨by (with_reducible repeat (first | refine blk_drewN ?_ _ | refine blk_drew ?_ | refine blk_alloc ?_ _)); exact BK152.out⟩, ⟨by repeat (first | (with_reducible first | exact HB.out | apply below_alloc | apply pw_below_drewN | apply below_drew1 | refine below_set ?_ GE148.out | refine below_set ?_ GE152.out) | exact HB.out)⟩⟩
                        · rw [if_neg c23] at H
                          have c23b0 : ((rdOf ByteArray.empty (rd_L1 t149 x7_1) 0).toList == ([116, 114, 117, 115, 116, 101, 100, 45, 116, 121, 112, 101, 115] : List UInt8)) = false := beq_eq_false_iff_ne.mpr c23
                          have c23b1 : ((rdOf ByteArray.empty (rd_L1 t149 x7_1) 0).toList != ([116, 114, 117, 115, 116, 101, 100, 45, 116, 121, 112, 101, 115] : List UInt8)) = true := bne_iff_ne.mpr c23
                          have H' := Aside0.mk H
                          clear H
                          have p162 : 0 ≤ (x7_1 : Int) := of_decide_eq_true (by first | (with_reducible assumption) | assumption)
                          have q162 : x7_1 < (t149.length : Int) := of_decide_eq_true (by first | (with_reducible assumption) | assumption)
                          obtain ⟨ad162, A162_0, c162_0, e162, hx162_0, hl162_0, hi162_0⟩ := at_L1 (Kd.N_reads' HO_5.out).2.2 x7_1 p162 q162
                          obtain rfl : ad153 = ad162 := (by injection e162)
                          obtain ⟨ce162, hce162, hMe162, hcc162⟩ := Kd.N_get HO_5.out [] x7_1 p162 (by first | exact q162 | exact of_decide_eq_true (by first | (with_reducible assumption) | assumption) | (have e_ := (Kd.N_reads' HO_5.out).1; omega))
                          obtain ⟨ua162_0, uc162_0, rfl, ul162_0, ge162_0⟩ := Kd.FK_slice_open hMe162
                          have hv162_0 := hcc162 0 _ rfl
                          rw [Nat.add_zero, show ((Kd.slice 9 Kd.string)).sz = 1 from rfl, Nat.mul_one] at hv162_0
                          replace hv162_0 := Option.some.inj (hv162_0.symm.trans hx162_0)
                          injection hv162_0 with hva_ hvn_ hvc_
                          rw [hva_] at ge162_0
                          rw [hvc_] at ul162_0
                          have HL162_0 := Aside0.mk (show Kd.V Kd.string 9 _ w.heap.size _ _ (rd_L1 t149 x7_1) from Kd.V_mk ul162_0 ge162_0)
                          clear hva_ hvn_ hvc_ ge162_0 ul162_0
                          clear hcc162 hce162
                          have HR162_0 := Aside0.mk hi162_0
                          have HC162_0 := Aside0.mk hl162_0
                          clear hi162_0 hl162_0
                          replace p162 := eq_true p162
                          replace q162 := eq_true q162
                          have p163 : 0 ≤ (0 : Int) := (by omega)
                          have q163 : 0 < ((rd_L1 t149 x7_1).length : Int) := of_decide_eq_true (by first | (with_reducible assumption) | assumption)
                          obtain ⟨ad163, e163, hx163_0⟩ := Kd.at_string (by repeat (first | (with_reducible exact HR162_0.out) | (with_reducible refine Kd.C_alloc ?_ _) | (with_reducible refine Kd.C_drewN ?_ _) | (with_reducible refine Kd.C_drew ?_) | exact HR162_0.out)) 0 p163 q163
                          cases e163
                          have qi163 : (0 < (rd_L1 t149 x7_1).length) = True := eq_true (by omega)
                          (try rw [show ((0 : Int)).toNat = 0 from rfl] at hx163_0)
                          (try rw [Addr.add_zero'] at hx163_0)
                          replace p163 := eq_true p163
                          replace q163 := eq_true q163
                          go_wp2
                          go_roundg kj12
                          case measure => have := HK1.out; have := HJ12.out; omega
                          case rel => exact ⟨(wrap64 (x7_1 + 1)), (x153000_12), (x153002_1), (x153003_1), (x153004_1), (u153002), (by first | rfl | (simp; done) | (simp [*]; done)), H', ⟨by have := HK1.out; have := HJ12.out; omega⟩, ⟨by (with_reducible repeat (first | apply Kd.N_alloc | apply Kd.N_drewN | apply Kd.N_drew)); exact HO_5.out⟩, ⟨by (with_reducible repeat (first | apply Kd.R_alloc | apply Kd.R_drewN | apply Kd.R_drew)); exact HO_153002.out⟩, ⟨by (with_reducible repeat (first | refine blk_drewN ?_ _ | refine blk_drew ?_ | refine blk_alloc ?_ _)); exact BK148.out⟩, ⟨by (with_reducible repeat (first | refine blk_drewN ?_ _ | refine blk_drew ?_ | refine blk_alloc ?_ _)); exact BK152.out⟩, ⟨by repeat (first | (with_reducible first | exact HB.out | apply below_alloc | apply pw_below_drewN | apply below_drew1 | refine below_set ?_ GE148.out | refine below_set ?_ GE152.out) | exact HB.out)⟩⟩
                      · rw [if_neg c22] at H
                        exact absurd H (by simp)
                    · rw [if_neg c21] at H
                      exact absurd H (by simp)
                  · rw [if_neg c20] at H
                    exact absurd H (by simp)
            · rw [if_neg c12] at H
              exact absurd H (by simp)
          · rw [if_neg c11] at H
            exact absurd H (by simp)
        · rw [if_neg c10] at H
          exact absurd H (by simp)
      · rw [if_neg c9] at H
        have c9b0 : decide (x7_1 < (t149.length : Int)) = false := decide_eq_false c9
        clear c9
        simp only [Option.some.injEq, Prod.mk.injEq] at H
        obtain ⟨rfl, rfl, rfl, rfl, rfl⟩ := H
        obtain ⟨Ao44, co44, eo44⟩ := Kd.N_slice HO_5.out
        subst eo44
        have hnb45 := NB152_148.out
        have hnc45 := NB148_152.out
        have hcz46_0 : wr.cell? ⟨gb152, 0, none⟩ = some (.bool x153000_1) := (blk_cell BK152.out 0).trans rfl
        have hcz46_1 : wr.cell? ⟨gb152, 1, none⟩ = some (.bool a1) := (blk_cell BK152.out 1).trans rfl
        have hcz46_2 : wr.cell? ⟨gb152, 2, none⟩ = some (u153002) := (blk_cell BK152.out 2).trans rfl
        have hcz46_3 : wr.cell? ⟨gb152, 3, none⟩ = some (.bool x153003_1) := (blk_cell BK152.out 3).trans rfl
        have hcz46_4 : wr.cell? ⟨gb152, 4, none⟩ = some (.bool x153004_1) := (blk_cell BK152.out 4).trans rfl
        have hfz46_0 := blk_frozen BK152.out 0
        have hfz46_1 := blk_frozen BK152.out 1
        have hfz46_2 := blk_frozen BK152.out 2
        have hfz46_3 := blk_frozen BK152.out 3
        have hfz46_4 := blk_frozen BK152.out 4
        have hcz47_0 : wr.cell? ⟨gb148, 0, none⟩ = some (.bool false) := (blk_cell BK148.out 0).trans rfl
        have hcz47_1 : wr.cell? ⟨gb148, 1, none⟩ = some (.bool false) := (blk_cell BK148.out 1).trans rfl
        have hcz47_2 : wr.cell? ⟨gb148, 2, none⟩ = some (.slice none 0 0) := (blk_cell BK148.out 2).trans rfl
        have hcz47_3 : wr.cell? ⟨gb148, 3, none⟩ = some (.bool false) := (blk_cell BK148.out 3).trans rfl
        have hcz47_4 : wr.cell? ⟨gb148, 4, none⟩ = some (.bool false) := (blk_cell BK148.out 4).trans rfl
        have hfz47_0 := blk_frozen BK148.out 0
        have hfz47_1 := blk_frozen BK148.out 1
        have hfz47_2 := blk_frozen BK148.out 2
        have hfz47_3 := blk_frozen BK148.out 3
        have hfz47_4 := blk_frozen BK148.out 4
        obtain ⟨Ao48, co48, eo48⟩ := Kd.R_slice HO_153002.out
        subst eo48
        go_wp2
        refine bodyPost_ret (results_cell_row rfl _ _ gb148 26 #[.bool x153000_1, .bool a1, .slice Ao48 x153002_1.length co48, .bool x153003_1, .bool x153004_1] (0, 0) _ rfl (by (with_reducible repeat (first | refine blk_drewN ?_ _ | refine blk_drew ?_ | refine blk_alloc ?_ _)); refine blk_put (cs := #[.bool x153000_1, .bool a1, .slice Ao48 x153002_1.length co48, .bool x153003_1, .bool false]) ?_ 4 _ rfl; (with_reducible repeat (first | refine blk_drewN ?_ _ | refine blk_drew ?_ | refine blk_alloc ?_ _)); refine blk_put (cs := #[.bool x153000_1, .bool a1, .slice Ao48 x153002_1.length co48, .bool false, .bool false]) ?_ 3 _ rfl; (with_reducible repeat (first | refine blk_drewN ?_ _ | refine blk_drew ?_ | refine blk_alloc ?_ _)); refine blk_put (cs := #[.bool x153000_1, .bool a1, .slice none 0 0, .bool false, .bool false]) ?_ 2 _ rfl; (with_reducible repeat (first | refine blk_drewN ?_ _ | refine blk_drew ?_ | refine blk_alloc ?_ _)); refine blk_put (cs := #[.bool x153000_1, .bool false, .slice none 0 0, .bool false, .bool false]) ?_ 1 _ rfl; (with_reducible repeat (first | refine blk_drewN ?_ _ | refine blk_drew ?_ | refine blk_alloc ?_ _)); refine blk_put (cs := #[.bool false, .bool false, .slice none 0 0, .bool false, .bool false]) ?_ 0 _ rfl; (with_reducible repeat (first | refine blk_drewN ?_ _ | refine blk_drew ?_ | refine blk_alloc ?_ _)); exact BK148.out) Tryd.underlying26 rfl (by kernel_rfl)) rfl ?_
        exact ⟨_, by first | rfl | (simp [errW_none, errW_some] <;> rfl) | (simp [*, errW_none, errW_some] <;> rfl), by (with_reducible repeat (first | apply Kd.R_alloc | apply Kd.R_drewN | apply Kd.R_drew)); exact Kd.R_mono (Kd.R_far (p := ⟨gb148, 4, none⟩) (Kd.R_far (p := ⟨gb148, 3, none⟩) (Kd.R_far (p := ⟨gb148, 2, none⟩) (Kd.R_far (p := ⟨gb148, 1, none⟩) (Kd.R_far (p := ⟨gb148, 0, none⟩) (Kd.R_types HO_153002.out BK148.out (by decide)) (fun _ hk => hk.2) (.bool x153000_1)) (fun _ hk => hk.2) (.bool a1)) (fun _ hk => hk.2) (.slice Ao48 x153002_1.length co48)) (fun _ hk => hk.2) (.bool x153003_1)) (fun _ hk => hk.2) (.bool x153004_1)) (fun _ hk => trivial), by repeat (first | (with_reducible first | exact HB.out | apply below_alloc | apply pw_below_drewN | apply below_drew1 | refine below_set ?_ GE148.out | refine below_set ?_ GE152.out) | exact HB.out)⟩

end Go.Proofs.YthblohknnlkidaaDoor.Pr
/- Plain lemmas for the printed functions: numbers, bytes, lists of texts, rounds. -/
namespace Go.Proofs.YthblohknnlkidaaDoor
set_option linter.unusedVariables false
set_option linter.unusedSimpArgs false
open Go.RowKit Go.Proofs.YthblohknnlkidaaDoorW.PrintWords Go.Proofs.YthblohknnlkidaaDoorW.PrintMore

theorem wrap_succ {i : Int} (h0 : -1 ≤ i) (h : i < 9000000000000000000) : wrap64 (i + 1) = i + 1 := by unfold wrap64; omega
theorem bt_c {s : ByteArray} {k : Nat} {c : UInt8} (h : s.data.toList[k]? = some c) : bt s (k : Int) = (c.toNat : Int) := by
  have hl : k < s.data.toList.length := (List.getElem?_eq_some_iff.1 h).1
  have hl' : k < s.size := by simpa using hl
  have := byte_at s k hl'
  rw [h] at this
  unfold bt
  rw [dif_pos (by simpa using hl')]
  simp only [Int.toNat_natCast]
  rw [← Option.some.inj this]
theorem at_some (s : ByteArray) {k : Nat} (h : k < s.size) : ∃ c, s.data.toList[k]? = some c := ⟨_, byte_at s k h⟩
theorem mkS_data (s : ByteArray) : mkS s.data.toList = s := Lib.mk_data s
theorem mkS_list (l : List UInt8) : (mkS l).data.toList = l := rfl
theorem mkS_toList (l : List UInt8) : (mkS l).toList = l := by rw [Lib.toList_data]; rfl
theorem mkS_size (l : List UInt8) : (mkS l).size = l.length := by rw [Lib.size_eq]; rfl
theorem data_app (a b : ByteArray) : (a ++ b).data.toList = a.data.toList ++ b.data.toList := by simp
theorem mkS_app (a b : List UInt8) : mkS a ++ mkS b = mkS (a ++ b) := by
  rw [← mkS_data (mkS a ++ mkS b), data_app]; rfl
theorem extract_one {s : ByteArray} {i : Nat} {c : UInt8} (h : s.data.toList[i]? = some c) : s.extract i (i + 1) = mkS [c] := by
  rw [Lib.extract_eq]
  have : (s.data.toList.drop i).take (i + 1 - i) = [c] := by rw [drop_one h, show i + 1 - i = 1 by omega]; rfl
  rw [this]; rfl
theorem extract_mid (s : ByteArray) (a b : Nat) : s.extract a b = mkS ((s.data.toList.drop a).take (b - a)) := Lib.extract_eq s a b
theorem take_snoc {l : List UInt8} {i : Nat} {c : UInt8} (h : l[i]? = some c) : l.take (i + 1) = l.take i ++ [c] := by
  rw [List.take_add_one, h]; rfl
/-! ### lists of texts -/
/-- A list of texts, as the printed functions hold it. -/
def SS (l : List (List UInt8)) : List ByteArray := l.map mkS
theorem SS_len (l : List (List UInt8)) : (SS l).length = l.length := List.length_map _
theorem SS_at {l : List (List UInt8)} {i : Nat} {x : List UInt8} (h : l[i]? = some x) : rdOf ByteArray.empty (SS l) (i : Int) = mkS x := by
  unfold rdOf SS
  rw [Int.toNat_natCast, List.getD_eq_getElem?_getD, List.getElem?_map, h]
  rfl
theorem SS_zero (x : List UInt8) (t : List (List UInt8)) : rdOf ByteArray.empty (SS (x :: t)) 0 = mkS x := SS_at (i := 0) rfl
theorem SS_snoc (l : List (List UInt8)) (x : List UInt8) : SS l ++ [mkS x] = SS (l ++ [x]) := by simp [SS]
theorem SS_drop (l : List (List UInt8)) (n : Nat) : (SS l).drop n = SS (l.drop n) := by simp [SS, List.map_drop]
theorem drop_at {α : Type} {l : List α} {i : Nat} {x : α} (h : l[i]? = some x) : l.drop i = x :: l.drop (i + 1) := by
  rw [List.drop_eq_getElem?_toList_append, h]
  simp
theorem take_at {α : Type} {l : List α} {i : Nat} {x : α} (h : l[i]? = some x) : l.take (i + 1) = l.take i ++ [x] := by
  rw [List.take_add_one, h]; rfl
theorem get_some {α : Type} {l : List α} {i : Nat} (h : i < l.length) : ∃ x, l[i]? = some x := ⟨_, List.getElem?_eq_getElem h⟩
/-- More rounds tell the same. -/
theorem more {α : Type} {f : Nat → Option α} (hm : ∀ k, LeO (f k) (f (k + 1))) {m k : Nat} (hk : m ≤ k) {r : α} (h : f m = some r) : f k = some r := by
  induction hk with
  | refl => exact h
  | step _ ih => exact hm _ _ ih
end Go.Proofs.YthblohknnlkidaaDoor
/- boltinglaw15.HeaderParses answers true where both readers come to the same, walked by hand. -/
namespace Go.Proofs.YthblohknnlkidaaDoor.Pure
set_option linter.unusedVariables false
set_option linter.unusedSimpArgs false
open Go.RowKit Go.Lib Go.Proofs.YthblohknnlkidaaDoorW.PrintWords Go.Proofs.YthblohknnlkidaaDoorW.PrintLast Go.Proofs.YthblohknnlkidaaDoorW.PrintMore Go.Proofs.YthblohknnlkidaaDoor.Pr

/-- Rows of texts from block B on may have been written over; all else is as it was. -/
structure Spoilt (B : Nat) (w w' : World) : Prop where
  below : Below B w w'
  strs : ∀ (j : Nat) (cs : Array Value), w.heap[j]? = some (.cells cs 9 (0, 0)) → ∃ cs' : Array Value, w'.heap[j]? = some (.cells cs' 9 (0, 0)) ∧ cs'.size = cs.size
  others : ∀ (j : Nat) (cs : Array Value) (t : TypeId), t ≠ 9 → w.heap[j]? = some (.cells cs t (0, 0)) → w'.heap[j]? = some (.cells cs t (0, 0))
theorem blk_lt' {w : World} {j : Nat} {o : Obj} (h : w.heap[j]? = some o) : j < w.heap.size := (Array.getElem?_eq_some_iff.1 h).1
theorem Spoilt.refl (B : Nat) (w : World) : Spoilt B w w := ⟨Below.refl B w, fun j cs h => ⟨cs, h, rfl⟩, fun j cs t _ h => h⟩
theorem Spoilt.trans {B : Nat} {a b c : World} (h : Spoilt B a b) (k : Spoilt B b c) : Spoilt B a c := by
  refine ⟨h.below.trans k.below, fun j cs hj => ?_, fun j cs t ht hj => k.others j cs t ht (h.others j cs t ht hj)⟩
  obtain ⟨cs1, h1, e1⟩ := h.strs j cs hj
  obtain ⟨cs2, h2, e2⟩ := k.strs j cs1 h1
  exact ⟨cs2, h2, e2.trans e1⟩
theorem Spoilt.of_below {B : Nat} {w w' : World} (hB : B ≤ w.heap.size) (h : Below w.heap.size w w') : Spoilt B w w' :=
  ⟨h.mono hB, fun j cs hj => ⟨cs, (h.block j (blk_lt' hj)).trans hj, rfl⟩, fun j cs t _ hj => (h.block j (blk_lt' hj)).trans hj⟩
theorem Spoilt.set {B : Nat} {w : World} {g : Nat} {cs : Array Value} (hB : B ≤ g) (h : w.heap[g]? = some (.cells cs 9 (0, 0))) (i : Nat) (v : Value) : Spoilt B w (w.setCell ⟨g, i, none⟩ v) := by
  refine ⟨(Below.refl B w).setCell hB _, fun j ds hj => ?_, fun j ds t ht hj => ?_⟩
  · by_cases e : j = g
    · subst e
      rw [h] at hj
      cases hj
      exact ⟨_, blk_set h i v, by rw [Array.size_setIfInBounds]⟩
    · exact ⟨ds, (Below.heap_setCell w ⟨g, i, none⟩ v j e).trans hj, rfl⟩
  · have e : j ≠ g := fun e => by
      subst e
      rw [h] at hj
      cases hj
      exact ht rfl
    exact (Below.heap_setCell w ⟨g, i, none⟩ v j e).trans hj
/-- A row of rows of texts, told block by block; f: whose row a block is. -/
structure RowsW (B : Nat) (f : Nat → Nat) (w : World) (g : Nat) (cs : Array Value) (P : List (List ByteArray)) : Prop where
  blk : w.heap[g]? = some (.cells cs 24 (0, 0))
  row : ∀ j p, P[j]? = some p → ∃ A c, cs[j]? = some (.slice A p.length c) ∧ p.length ≤ c ∧ (∀ k, (Value.slice A p.length c).ownBlock = some k → f k = j) ∧ w.ownsRow B 9 1 (.slice A p.length c) p.length (encs Value.string p)
theorem RowsW.move {B : Nat} {f : Nat → Nat} {w w' : World} {g : Nat} {cs : Array Value} {P : List (List ByteArray)} (h : RowsW B f w g cs P) (hb : Below w.heap.size w w') : RowsW B f w' g cs P := by
  refine ⟨(hb.block g (blk_lt' h.blk)).trans h.blk, fun j p hp => ?_⟩
  obtain ⟨A, c, h1, h2, h3, h4⟩ := h.row j p hp
  exact ⟨A, c, h1, h2, h3, own_move h4 (fun k hk => hb.block k (own_lt h4 k hk))⟩
/-- What an own row of texts reads. -/
theorem own_C {B : Nat} {w : World} {A : Option Addr} {c : Nat} {p : List ByteArray} (h : w.ownsRow B 9 1 (.slice A p.length c) p.length (encs Value.string p)) : Kd.C Kd.string w A p.length p := by
  obtain ⟨A1, c1, hv, hl, hC⟩ := Kd.R_reads (Kd.R_of_own (enc := Value.string) (h1 := fun _ => rfl) (ok := fun _ => True) h (fun _ _ => trivial))
  injection hv with hA _ _
  rw [hA]
  exact hC
/-- .. and its block. -/
theorem own_blk {B : Nat} {w : World} {A : Option Addr} {c n : Nat} {xs : List Value} (h : w.ownsRow B 9 1 (.slice A n c) n xs) : 0 < n → ∃ g ds, A = some ⟨g, 0, none⟩ ∧ B ≤ g ∧ w.heap[g]? = some (.cells ds 9 (0, 0)) ∧ n ≤ ds.size := by
  intro hp
  rcases h.2 with ⟨e, _⟩ | ⟨g1, cap1, cur1, hv1, hb1, hblk1, k1, k2, k3, k4⟩
  · injection e with _ e _
    omega
  · cases hv1
    exact ⟨g1, cur1, rfl, hb1, hblk1, by omega⟩
theorem rows_of_S {B : Nat} {w : World} {v : Value} {P : List (List ByteArray)} (h : Kd.S (Kd.slice 9 Kd.string) 24 w B (fun _ => True) v P) :
    ∃ A c f, v = .slice A P.length c ∧ P.length ≤ c ∧ (0 < P.length → ∃ g cs, A = some ⟨g, 0, none⟩ ∧ B ≤ g ∧ RowsW B f w g cs P) := by
  obtain ⟨A, c, hv, hc, _⟩ := Kd.R_reads (Kd.S_R h)
  obtain ⟨f, h0, inner, ho, hr⟩ := h
  refine ⟨A, c, f, hv, hc, fun hp => ?_⟩
  rw [List.length_zipIdx] at ho
  rcases ho.2 with ⟨e, _⟩ | ⟨g, cap, cur, hv', hb, hblk, h1, h2, h3, h4⟩
  · rw [e] at hv
    injection hv with _ hv _
    omega
  · rw [hv'] at hv
    cases hv
    refine ⟨g, cur, rfl, hb, hblk, fun j p hj => ?_⟩
    have hM := hr.2 j (p, j) (Kd.zip_at hj)
    obtain ⟨v1, hc1, hR⟩ := hM
    have h5 : (List.take 1 (List.drop (j * 1) inner))[0]? = some v1 := by
      rw [show List.take 1 (List.drop (j * 1) inner) = [v1] from hc1]; rfl
    rw [List.getElem?_take, if_pos (by decide), List.getElem?_drop] at h5
    have h6 : cur.toList[j]? = some v1 := by
      rw [← h4, List.getElem?_take] at h5
      split at h5
      · rw [show j * 1 + 0 = j by omega] at h5; exact h5
      · cases h5
    rw [Array.getElem?_toList] at h6
    obtain ⟨A1, c1, hv1, hl1, hC1⟩ := Kd.R_reads hR
    subst hv1
    exact ⟨A1, c1, h6, hl1, fun k hk => (hR.1 k hk).2, Kd.own_of_R (enc := Value.string) hR⟩
theorem names_of_R {B : Nat} {w : World} {A : Option Addr} {c : Nat} {N : List ByteArray} (h : Kd.R Kd.string 9 w B (fun _ => True) (.slice A N.length c) N) :
    0 < N.length → ∃ h ds, A = some ⟨h, 0, none⟩ ∧ B ≤ h ∧ w.heap[h]? = some (.cells ds 9 (0, 0)) ∧ N.length ≤ ds.size := own_blk (Kd.own_of_R (enc := Value.string) h)
set_option maxHeartbeats 4000000 in
set_option maxRecDepth 100000 in
theorem parses_law {k : Nat} {s X : ByteArray} {rep b1 b2 b4 b5 : Bool} {P : List (List ByteArray)} {N : List ByteArray} (w : World) (hX : s.extract 0 (min s.size 500) = X)
    (h1 : header_Parts.f k X = some P) (h2 : boltingref15_Parts.f k X = some P) (h3 : header_Parse.f k X rep = some (b1, b2, N, b4, b5)) (h4 : boltingref15_Parse.f k X rep = some (b1, b2, N, b4, b5))
    (h5 : boltingref15_Same.f k b1 b2 N b4 b5 b1 b2 N b4 b5 = some true) (h6 : ∀ p ∈ P, boltingref02_Equal.f k p p = some true) (h7 : boltinglaw15_fixed.f k = some true)
    (hPl : P.length ≤ 10000) (hPz : ∀ p ∈ P, p.length ≤ 10000) (hNl : N.length ≤ 10000) (hs : s.size ≤ 140737488351232) :
    Calls Tryd.prog 3 #[.string s, .bool rep] w fun e w' => e = .returned (.bool true) ∧ Below w.heap.size w w' := by
  obtain ⟨n, hn⟩ : ∃ n, min s.size 500 = n := ⟨_, rfl⟩
  have hmin : min (s.size : Int) 500 = (n : Int) := by omega
  have hns : n ≤ s.size := by omega
  rw [hn] at hX
  clear hn
  have H6 := hid h6
  have HPZ := hid hPz
  clear h6 hPz
  have hu26 := Tryd.underlying26
  go_enter Tryd.func3, Tryd.ntmps3
  go_wp2_with fail
  refine (boltingref15_Parts.calls k X P _ h2).mono ?_
  rintro e wA ⟨vP, rfl, hoP, hbA⟩
  obtain ⟨AP, cP, fP, rfl, hcP, hrP⟩ := rows_of_S hoP
  have HRP := hid hrP
  have HBA := hid hbA
  clear hoP hrP hbA
  go_wp2_with fail
  refine (boltingref15_Parse.calls k X rep b1 b2 N b4 b5 _ h4).mono ?_
  rintro e wB ⟨vN, rfl, hoN, hbB⟩
  obtain ⟨AN, cN, rfl, hcN, hrN⟩ := Kd.R_reads hoN
  have HRN := hid hrN
  have HBB := hid hbB
  clear hoN hrN hbB
  have hbox := blk_new wB (.cells #[.bool b1, .bool b2, .slice AN N.length cN, .bool b4, .bool b5] 26)
  have hb0 : Below wB.heap.size wB (wB.alloc (.cells #[.bool b1, .bool b2, .slice AN N.length cN, .bool b4, .bool b5] 26)) := (Below.refl _ wB).alloc (Nat.le_refl _) _
  obtain ⟨g6, hg6⟩ : ∃ g, wB.heap.size = g := ⟨_, rfl⟩
  rw [hg6] at hbox
  go_wp2
  obtain ⟨W0, hW0⟩ : ∃ x : World, x = wB.alloc (.cells #[.bool b1, .bool b2, .slice AN N.length cN, .bool b4, .bool b5] 26) := ⟨_, rfl⟩
  rw [← hW0] at hbox hb0 ⊢
  clear hW0
  have BW : Hid (Below w.heap.size w W0) := hid (HBA.out.trans ((HBB.out.trans (hb0.mono HBB.out.size)).mono HBA.out.size))
  have RP : Hid (0 < P.length → ∃ g cs, AP = some ⟨g, 0, none⟩ ∧ w.heap.size ≤ g ∧ RowsW w.heap.size fP W0 g cs P) := hid (fun hp => by
    obtain ⟨g, cs, e, hg, hr⟩ := HRP.out hp
    exact ⟨g, cs, e, hg, hr.move (HBB.out.trans (hb0.mono HBB.out.size))⟩)
  have RN : Hid (Kd.C Kd.string W0 AN N.length N) := hid (Kd.C_below HRN.out hb0)
  have BOX := hid hbox
  clear hbox hb0 HBA HBB HRP HRN hg6
  go_loopw [7] (fun iv wr => ∃ j : Nat, iv = .int .i64 j ∧ j ≤ 2 ∧ Below W0.heap.size W0 wr) (fun iv _ => 2 - (intOf iv).toNat)
  case atStart => exact ⟨0, rfl, by omega, Below.refl _ _⟩
  case round =>
    obtain ⟨j, rfl, hj, hb⟩ := hrel
    have HB := hid hb
    clear hb
    obtain ⟨wo, rfl⟩ : ∃ x : World, x = wr := ⟨_, rfl⟩
    by_cases hjl : j < 2
    · have hjd : decide (j < 2) = true := decide_eq_true hjl
      go_wp2_with fail
      refine (header_Parts.calls k X P _ h1).mono ?_
      rintro e w1 ⟨vL, rfl, hoL, hb1⟩
      obtain ⟨AL, cL, f, rfl, hcL, hrL⟩ := rows_of_S hoL
      have HRL := hid hrL
      have HB1 := hid hb1
      clear hoL hrL hb1
      go_wp2_with fail
      refine (header_Parse.calls k X rep b1 b2 N b4 b5 _ h3).mono ?_
      rintro e w2 ⟨vG, rfl, hoG, hb2⟩
      obtain ⟨AG, cG, rfl, hcG, hrG⟩ := Kd.R_reads hoG
      have HRG := hid hrG
      have HOG := hid (names_of_R hoG)
      have HB2 := hid hb2
      clear hoG hrG hb2
      have hb3 : Below w2.heap.size w2 (w2.alloc (.cells #[.bool b1, .bool b2, .slice AG N.length cG, .bool b4, .bool b5] 26)) := (Below.refl _ w2).alloc (Nat.le_refl _) _
      have hbox9 := blk_new w2 (.cells #[.bool b1, .bool b2, .slice AG N.length cG, .bool b4, .bool b5] 26)
      obtain ⟨g9, hg9⟩ : ∃ g, w2.heap.size = g := ⟨_, rfl⟩
      rw [hg9] at hbox9
      have B23 : Below W0.heap.size W0 (w2.alloc (.cells #[.bool b1, .bool b2, .slice AG N.length cG, .bool b4, .bool b5] 26)) := HB.out.trans ((HB1.out.trans ((HB2.out.trans (hb3.mono HB2.out.size)).mono HB1.out.size)).mono HB.out.size)
      have c6 := blk_cell ((B23.block g6 (blk_lt' BOX.out)).trans BOX.out)
      have c60 : (w2.alloc (.cells #[.bool b1, .bool b2, .slice AG N.length cG, .bool b4, .bool b5] 26)).cell? ⟨g6, 0, none⟩ = some (.bool b1) := (c6 0).trans rfl
      have c61 : (w2.alloc (.cells #[.bool b1, .bool b2, .slice AG N.length cG, .bool b4, .bool b5] 26)).cell? ⟨g6, 1, none⟩ = some (.bool b2) := (c6 1).trans rfl
      have c62 : (w2.alloc (.cells #[.bool b1, .bool b2, .slice AG N.length cG, .bool b4, .bool b5] 26)).cell? ⟨g6, 2, none⟩ = some (.slice AN N.length cN) := (c6 2).trans rfl
      have c63 : (w2.alloc (.cells #[.bool b1, .bool b2, .slice AG N.length cG, .bool b4, .bool b5] 26)).cell? ⟨g6, 3, none⟩ = some (.bool b4) := (c6 3).trans rfl
      have c64 : (w2.alloc (.cells #[.bool b1, .bool b2, .slice AG N.length cG, .bool b4, .bool b5] 26)).cell? ⟨g6, 4, none⟩ = some (.bool b5) := (c6 4).trans rfl
      have hG3 := Kd.C_below HRG.out hb3
      have hN3 := Kd.C_below RN.out B23
      have HG3 := hid hG3
      have HN3 := hid hN3
      have B23 := hid B23
      have HB3 := hid hb3
      have HBX := hid hbox9
      clear c6 hG3 hN3 hb3 hbox9
      go_wp2_with fail
      clear c60 c61 c62 c63 c64
      refine (boltingref15_Same.calls k b1 b2 AG cG N b4 b5 b1 b2 AN cN N b4 b5 true _ HG3.out hcG HN3.out hcN h5).mono ?_
      rintro e w4 ⟨rfl, hb4⟩
      have R3 : Below w1.heap.size w1 w4 := HB2.out.trans ((HB3.out.trans (hb4.mono HB3.out.size)).mono HB2.out.size)
      have R2 : Below w2.heap.size w2 w4 := HB3.out.trans (hb4.mono HB3.out.size)
      have B4 : Hid (Below W0.heap.size W0 w4) := hid (B23.out.trans (hb4.mono B23.out.size))
      have BR : Hid (Below wo.heap.size wo w4) := hid (HB1.out.trans (R3.mono HB1.out.size))
      have RL : Hid (0 < P.length → ∃ g cs, AL = some ⟨g, 0, none⟩ ∧ wo.heap.size ≤ g ∧ RowsW wo.heap.size f w4 g cs P) := hid (fun hp => by
        obtain ⟨g, cs, e, hg, hr⟩ := HRL.out hp
        exact ⟨g, cs, e, hg, hr.move R3⟩)
      have NL : Hid (0 < N.length → ∃ h ds, AG = some ⟨h, 0, none⟩ ∧ wo.heap.size ≤ h ∧ w4.heap[h]? = some (.cells ds 9 (0, 0)) ∧ N.length ≤ ds.size) := hid (fun hp => by
        obtain ⟨h, ds, e, hB, hk, hs⟩ := HOG.out hp
        exact ⟨h, ds, e, Nat.le_trans HB1.out.size hB, (R2.block h (blk_lt' hk)).trans hk, hs⟩)
      have BOX9 : Hid (w4.heap[g9]? = some (.cells #[.bool b1, .bool b2, .slice AG N.length cG, .bool b4, .bool b5] 26 (0, 0))) := hid ((hb4.block g9 (blk_lt' HBX.out)).trans HBX.out)
      clear R3 R2 hb4 HRL HOG HBX HB3 B23 HG3 HN3 HRG HB1 HB2 hg9
      go_wp2
      go_loopw [10] (fun iv wx => ∃ i : Nat, iv = .int .i64 i ∧ i ≤ P.length ∧ Spoilt wo.heap.size w4 wx ∧ ∀ b, b < w4.heap.size → i ≤ f b → wx.heap[b]? = w4.heap[b]?) (fun iv _ => P.length - (intOf iv).toNat)
      case atStart => exact ⟨0, rfl, by omega, Spoilt.refl _ _, fun _ _ _ => rfl⟩
      case round =>
        obtain ⟨i, rfl, hi, hsp, hsame⟩ := hrel
        have HS := hid hsp
        have HE := hid hsame
        clear hsp hsame
        obtain ⟨wx, rfl⟩ : ∃ x : World, x = wr := ⟨_, rfl⟩
        by_cases hil : i < P.length
        · have hid1 : decide (i < P.length) = true := decide_eq_true hil
          obtain ⟨gL, csL, rfl, hgL, hRL⟩ := RL.out (by omega)
          obtain ⟨gP, csP, rfl, hgP, hRP⟩ := RP.out (by omega)
          obtain ⟨p, hp⟩ : ∃ p, P[i]? = some p := ⟨_, List.getElem?_eq_getElem hil⟩
          have hpm : p ∈ P := List.mem_iff_getElem?.2 ⟨i, hp⟩
          have hpl := HPZ.out p hpm
          have hq6 := hid (H6.out p hpm)
          obtain ⟨A1, c1, hcs1, hc1, hf1, hO1⟩ := hRL.row i p hp
          obtain ⟨A2, c2, hcs2, hc2, _, hO2⟩ := (hRP.move (B4.out.trans (HS.out.below.mono HB.out.size))).row i p hp
          have kP : wx.cell? ⟨gP, i, none⟩ = some (.slice A2 p.length c2) := (blk_cell (hRP.move (B4.out.trans (HS.out.below.mono HB.out.size))).blk i).trans hcs2
          have HBL := hid hRL.blk
          have HCS := hid hcs1
          have kL : wx.cell? ⟨gL, i, none⟩ = some (.slice A1 p.length c1) := (blk_cell (HS.out.others gL csL _ (by decide) hRL.blk) i).trans hcs1
          have C1 := hid (own_C (own_move hO1 (fun b hb => HE.out b (own_lt hO1 b hb) (by rw [hf1 b hb]; exact Nat.le_refl _))))
          have C2 := hid (own_C hO2)
          have HO1 : Hid (0 < p.length → ∃ h ds, A1 = some ⟨h, 0, none⟩ ∧ wo.heap.size ≤ h ∧ f h = i ∧ w4.heap[h]? = some (.cells ds 9 (0, 0)) ∧ p.length ≤ ds.size) := hid (fun hpp => by
            obtain ⟨h, ds, e, hB, hk, hs⟩ := own_blk hO1 hpp
            exact ⟨h, ds, e, hB, hf1 h (by rw [e]; rfl), hk, hs⟩)
          have i0 : (0 : Int) ≤ (i : Int) := by omega
          have i1 : (i : Int) < (P.length : Int) := by omega
          clear hRL hRP hO1 hO2 hf1 hcs1 hcs2 hpm hp
          go_wp2
          go_quiet ((go_at_call 15; (with_reducible refine (boltingref02_Equal.calls k A1 c1 p A2 c2 p true _ (Kd.C_below C1.out (pw_below_drewN (Below.refl _ _) _)) hc1 (Kd.C_below C2.out (pw_below_drewN (Below.refl _ _) _)) hc2 hq6.out).mono ?_); rintro e w' ⟨rfl, ⟨nd, rfl⟩⟩; (first | exact ⟨rfl, _, World.drewN_drewN _ _ _⟩ | exact ⟨rfl, _, Eq.trans (World.drewN_drewN _ _ _) (congrArg (World.drewN _) (Nat.add_assoc _ _ _))⟩)))
          go_wp2
          have hnq : Below wx.heap.size wx (wx.drewN nq) := pw_below_drewN (Below.refl _ _) _
          go_loopw [11] (fun iv wz => ∃ q : Nat, iv = .int .i64 q ∧ q ≤ p.length ∧ Spoilt wo.heap.size w4 wz ∧ ∀ b, b < w4.heap.size → i + 1 ≤ f b → wz.heap[b]? = w4.heap[b]?) (fun iv _ => p.length - (intOf iv).toNat)
          case atStart => exact ⟨0, rfl, by omega, HS.out.trans (Spoilt.of_below (Nat.le_trans BR.out.size HS.out.below.size) hnq), fun b hb hf => (hnq.block b (Nat.lt_of_lt_of_le hb HS.out.below.size)).trans (HE.out b hb (by omega))⟩
          case round =>
            clear kL kP
            obtain ⟨q, rfl, hq, hsp, hsame⟩ := hrel
            have HZ := hid hsp
            have HY := hid hsame
            have kL : wr.cell? ⟨gL, i, none⟩ = some (.slice A1 p.length c1) := (blk_cell (HZ.out.others gL csL _ (by decide) HBL.out) i).trans HCS.out
            clear hsp hsame
            by_cases hql : q < p.length
            · have hqd : decide (q < p.length) = true := decide_eq_true hql
              obtain ⟨h1x, ds, rfl, hB1, hf1, hk1, hs1⟩ := HO1.out (by omega)
              obtain ⟨ds', hk2, hs2⟩ := HZ.out.strs h1x ds hk1
              obtain ⟨u, hu⟩ : ∃ u, ds'[q]? = some u := ⟨ds'[q], Array.getElem?_eq_getElem (by omega)⟩
              have k0 : wr.cell? ⟨h1x, q, none⟩ = some u := (blk_cell hk2 q).trans hu
              have k1 : wr.frozen? ⟨h1x, q, none⟩ = false := blk_frozen hk2 q
              have S2 : Hid (Spoilt wo.heap.size w4 (wr.setCell ⟨h1x, q, none⟩ (.string ⟨#[120]⟩))) := hid (HZ.out.trans (Spoilt.set hB1 hk2 q _))
              have E2 : Hid (∀ b, b < w4.heap.size → i + 1 ≤ f b → (wr.setCell ⟨h1x, q, none⟩ (.string ⟨#[120]⟩)).heap[b]? = w4.heap[b]?) := hid (fun b hb hf => (Below.heap_setCell wr ⟨h1x, q, none⟩ _ b (fun e => by
                have e' : b = h1x := e
                rw [e', hf1] at hf
                omega)).trans (HY.out b hb hf))
              have j0 : (0 : Int) ≤ (q : Int) := by omega
              have j1 : (q : Int) < (p.length : Int) := by omega
              clear hk1 hk2 hu hs2
              go_wp2
              go_roundw
              case rel => exact ⟨q + 1, by go_num, by omega, S2.out, E2.out⟩
              case measure => simp [intOf]; omega
            · have hqd : decide (q < p.length) = false := decide_eq_false hql
              go_wp2
              go_roundw
              case rel => exact ⟨i + 1, by go_num, by omega, HZ.out, HY.out⟩
              case measure => simp [intOf]; omega
        · have hid1 : decide (i < P.length) = false := decide_eq_false hil
          go_wp2
          go_loopw [12] (fun iv wz => ∃ q : Nat, iv = .int .i64 q ∧ q ≤ N.length ∧ Spoilt wo.heap.size w4 wz) (fun iv _ => N.length - (intOf iv).toNat)
          case atStart => exact ⟨0, rfl, by omega, HS.out⟩
          case round =>
            obtain ⟨q, rfl, hq, hsz⟩ := hrel
            have HZ := hid hsz
            clear hsz
            have e9 : wr.cell? ⟨g9, 2, none⟩ = some (.slice AG N.length cG) := (blk_cell (HZ.out.others _ _ _ (by decide) BOX9.out) 2).trans rfl
            by_cases hql : q < N.length
            · have hqd : decide (q < N.length) = true := decide_eq_true hql
              obtain ⟨h, ds, rfl, hB1, hk1, hs1⟩ := NL.out (by omega)
              obtain ⟨ds', hk2, hs2⟩ := HZ.out.strs h ds hk1
              obtain ⟨u, hu⟩ : ∃ u, ds'[q]? = some u := ⟨ds'[q], Array.getElem?_eq_getElem (by omega)⟩
              have k0 : wr.cell? ⟨h, q, none⟩ = some u := (blk_cell hk2 q).trans hu
              have k1 : wr.frozen? ⟨h, q, none⟩ = false := blk_frozen hk2 q
              have S2 : Hid (Spoilt wo.heap.size w4 (wr.setCell ⟨h, q, none⟩ (.string ⟨#[120]⟩))) := hid (HZ.out.trans (Spoilt.set hB1 hk2 q _))
              have j0 : (0 : Int) ≤ (q : Int) := by omega
              have j1 : (q : Int) < (N.length : Int) := by omega
              clear hk1 hk2 hu hs2
              go_wp2
              go_roundw
              case rel => exact ⟨q + 1, by go_num, by omega, S2.out⟩
              case measure => simp [intOf]; omega
            · have hqd : decide (q < N.length) = false := decide_eq_false hql
              go_wp2
              go_roundw
              case rel => exact ⟨j + 1, by go_num, by omega, B4.out.trans (HZ.out.below.mono HB.out.size)⟩
              case measure => simp [intOf]; omega
    · have hjd : decide (j < 2) = false := decide_eq_false hjl
      go_wp2_with fail
      refine (boltinglaw15_fixed.calls k true _ h7).mono ?_
      rintro e wF ⟨rfl, hbF⟩
      have BF := hid hbF
      clear hbF
      go_wp2
      go_ret
      exact ⟨rfl, BW.out.trans ((HB.out.trans (BF.out.mono HB.out.size)).mono BW.out.size)⟩
end Go.Proofs.YthblohknnlkidaaDoor.Pure
/- Words between spaces and pieces between bytes: plain laws. -/
namespace Go.Proofs.YthblohknnlkidaaDoor
set_option linter.unusedVariables false
set_option linter.unusedSimpArgs false
open Go.RowKit Go.Proofs.YthblohknnlkidaaDoorW.PrintWords

/-! ### pieces -/
theorem cutAt_len (c : UInt8) : ∀ (l x : List UInt8), x ∈ cutAt c l → x.length ≤ l.length
  | [], x, h => by simp [cutAt] at h; subst h; simp
  | b :: t, x, h => by
    unfold cutAt at h
    split at h
    · rcases List.mem_cons.1 h with h | h
      · subst h; simp
      · have := cutAt_len c t x h; simp; omega
    · split at h
      · rw [List.mem_singleton] at h; subst h; simp
      · rename_i w r e
        have ih := fun y hy => cutAt_len c t y hy
        rw [e] at ih
        rcases List.mem_cons.1 h with h | h
        · subst h
          have := ih w (by simp)
          simp; omega
        · have := ih x (by simp [h]); simp; omega
theorem cutAt_count (c : UInt8) : ∀ (l : List UInt8), (cutAt c l).length ≤ l.length + 1
  | [] => by simp [cutAt]
  | b :: t => by
    have ih := cutAt_count c t
    unfold cutAt
    split
    · simp; omega
    · split
      · simp
      · rename_i w r e
        rw [e] at ih
        simp at ih ⊢; omega
/-! ### words -/
theorem fieldsAux_len {p : UInt8 → Bool} : ∀ (l w x : List UInt8), x ∈ fieldsAux p l w → x.length ≤ w.length + l.length
  | [], w, x, h => by
    unfold fieldsAux at h
    split at h
    · simp at h
    · rw [List.mem_singleton] at h; subst h; simp
  | c :: t, w, x, h => by
    unfold fieldsAux at h
    split at h
    · split at h
      · have := fieldsAux_len t [] x h; simp at this ⊢; omega
      · rcases List.mem_cons.1 h with h | h
        · subst h; simp
        · have := fieldsAux_len t [] x h; simp at this ⊢; omega
    · have := fieldsAux_len t (w ++ [c]) x h; simp at this ⊢; omega
theorem words_len {l x : List UInt8} (h : x ∈ words l) : x.length ≤ l.length := by
  have := fieldsAux_len l [] x h
  simpa using this
theorem fieldsAux_count {p : UInt8 → Bool} : ∀ (l w : List UInt8), (fieldsAux p l w).length ≤ l.length + 1
  | [], w => by unfold fieldsAux; split <;> simp
  | c :: t, w => by
    unfold fieldsAux
    split
    · split
      · have := fieldsAux_count (p := p) t []; simp; omega
      · have := fieldsAux_count (p := p) t []; simp; omega
    · have := fieldsAux_count (p := p) t (w ++ [c]); simp; omega
theorem words_count (l : List UInt8) : (words l).length ≤ l.length + 1 := fieldsAux_count l []
end Go.Proofs.YthblohknnlkidaaDoor
/- fold.Letter. -/
namespace Go.Proofs.YthblohknnlkidaaDoor
set_option linter.unusedVariables false
set_option linter.unusedSimpArgs false
open Go.RowKit

def letterI (c : Int) : Bool := decide (97 ≤ c ∧ c ≤ 122) || decide (65 ≤ c ∧ c ≤ 90)
def letter (c : UInt8) : Bool := letterI c.toNat
end Go.Proofs.YthblohknnlkidaaDoor
/- What header's printed functions come to: plain Lean. -/
namespace Go.Proofs.YthblohknnlkidaaDoor.Pure
set_option linter.unusedVariables false
set_option linter.unusedSimpArgs false
open Go.RowKit Go.Proofs.YthblohknnlkidaaDoor.Pr Go.Proofs.YthblohknnlkidaaDoorW.PrintWords Go.Proofs.YthblohknnlkidaaDoorW.PrintLast

/-! ### directives -/
def OO (l : List (List (List UInt8))) : List (List ByteArray) := l.map SS
theorem OO_len (l : List (List (List UInt8))) : (OO l).length = l.length := List.length_map _
theorem OO_at {l : List (List (List UInt8))} {i : Nat} {x : List (List UInt8)} (h : l[i]? = some x) : rd_L1 (OO l) (i : Int) = SS x := by
  unfold rd_L1 OO
  rw [Int.toNat_natCast, List.getD_eq_getElem?_getD, List.getElem?_map, h]
  rfl
theorem OO_snoc (l : List (List (List UInt8))) (x : List (List UInt8)) : OO l ++ [SS x] = OO (l ++ [x]) := by simp [OO]
/-- Has a directive of this name been told? -/
def hasName (out : List (List (List UInt8))) (n : List UInt8) : Bool := out.any fun h => h.headD [] == n
def stepP (out : List (List (List UInt8))) (piece : List UInt8) : List (List (List UInt8)) :=
  match words piece with
  | [] => out
  | w :: t => if hasName out (lower w) then out else out ++ [lower w :: t]
def partsL (s : List UInt8) : List (List (List UInt8)) := (cutAt 59 s).foldl stepP []
theorem stepP_count (out : List (List (List UInt8))) (p : List UInt8) : (stepP out p).length ≤ out.length + 1 := by
  unfold stepP
  split
  · omega
  · split <;> simp
theorem stepP_ne {out : List (List (List UInt8))} (h : ∀ x ∈ out, x ≠ []) (p : List UInt8) : ∀ x ∈ stepP out p, x ≠ [] := by
  unfold stepP
  split
  · exact h
  · split
    · exact h
    · intro x hx
      rcases List.mem_append.1 hx with hx | hx
      · exact h x hx
      · rw [List.mem_singleton] at hx; subst hx; simp
theorem hasName_snoc (out : List (List (List UInt8))) (x : List (List UInt8)) (n : List UInt8) : hasName (out ++ [x]) n = (hasName out n || (x.headD [] == n)) := by
  unfold hasName; simp
theorem parts_l1 (out : List (List (List UInt8))) (hne : ∀ h ∈ out, h ≠ []) (w : List UInt8) (t : List (List UInt8)) (x10 : List ByteArray) (x11 x12 : Int) (r : List (List ByteArray)) (m : Nat) (hs : out.length ≤ 100000)
    (hr : ∀ k, m < k → header_Parts.l0 k (OO (if hasName out w then out else out ++ [w :: t])) x10 x11 (wrap64 (x12 + 1)) = some r) :
    ∀ (d i : Nat), i + d = out.length → hasName (out.take i) w = false → ∀ k, m + d + 1 < k →
      header_Parts.l1 k (OO out) (SS (w :: t)) x10 x11 x12 (OO out) (out.length : Int) (i : Int) = some r
  | 0, i, h, hn, k, hk => by
    obtain ⟨k, rfl⟩ : ∃ m, k = m + 1 := ⟨k - 1, by omega⟩
    simp only [header_Parts.l1]
    rw [List.take_of_length_le (by omega)] at hn
    rw [hn] at hr
    rw [if_neg (by omega), OO_len, if_pos (by omega), OO_snoc]
    exact hr k (by omega)
  | d + 1, i, h, hn, k, hk => by
    obtain ⟨k, rfl⟩ : ∃ m, k = m + 1 := ⟨k - 1, by omega⟩
    obtain ⟨x, hx⟩ := get_some (show i < out.length by omega)
    have hxm : x ∈ out := List.mem_iff_getElem?.2 ⟨i, hx⟩
    obtain ⟨h0, ht, rfl⟩ : ∃ h0 ht, x = h0 :: ht := by
      cases x with
      | nil => exact absurd rfl (hne _ hxm)
      | cons a b => exact ⟨a, b, rfl⟩
    simp only [header_Parts.l1]
    rw [if_pos (by omega), if_pos (by omega), OO_len, if_pos (by omega), OO_at hx, SS_len, SS_len, if_pos (by simp), if_pos (by simp), SS_zero, SS_zero, mkS_toList, mkS_toList]
    by_cases e : h0 = w
    · rw [if_pos e]
      have : hasName out w = true := by
        unfold hasName
        rw [List.any_eq_true]
        exact ⟨_, hxm, by simp [e]⟩
      rw [this] at hr
      exact hr k (by omega)
    · rw [if_neg e, wrap_succ (by omega) (by omega)]
      refine parts_l1 out hne w t x10 x11 x12 r m hs hr d (i + 1) (by omega) ?_ k (by omega)
      rw [take_at hx, hasName_snoc, hn]
      simpa using e
theorem parts_l0 (pcs : List (List UInt8)) (hp : pcs.length ≤ 100000) (hz : ∀ p ∈ pcs, p.length ≤ 100000) : ∀ (d i : Nat) (out : List (List (List UInt8))), i + d = pcs.length → (∀ h ∈ out, h ≠ []) → out.length ≤ i → ∀ k, d * (pcs.length + 2) < k →
    header_Parts.l0 k (OO out) (SS pcs) (pcs.length : Int) (i : Int) = some (OO ((pcs.drop i).foldl stepP out))
  | 0, i, out, h, hne, hl, k, hk => by
    obtain ⟨k, rfl⟩ : ∃ m, k = m + 1 := ⟨k - 1, by omega⟩
    simp only [header_Parts.l0]
    rw [if_neg (by omega), List.drop_of_length_le (by omega)]
    rfl
  | d + 1, i, out, h, hne, hl, k, hk => by
    obtain ⟨k, rfl⟩ : ∃ m, k = m + 1 := ⟨k - 1, by omega⟩
    rw [Nat.succ_mul] at hk
    obtain ⟨x, hx⟩ := get_some (show i < pcs.length by omega)
    have hxm : x ∈ pcs := List.mem_iff_getElem?.2 ⟨i, hx⟩
    have hxl := hz x hxm
    simp only [header_Parts.l0]
    rw [if_pos (by omega), if_pos (by omega), SS_len, if_pos (by omega), SS_at hx]
    have hW : fold_Words.f (mkS x) = some (SS (words x)) := bnd32_of _ (by rw [mkS_size]; omega)
    rw [hW, drop_at hx]
    simp only [Option.bind_some, List.foldl_cons]
    cases hw : words x with
    | nil =>
      rw [if_pos (by rw [SS_len]; rfl), wrap_succ (by omega) (by omega)]
      have : stepP out x = out := by unfold stepP; rw [hw]
      rw [this]
      exact parts_l0 pcs hp hz d (i + 1) out (by omega) hne (by omega) k (by omega)
    | cons w t =>
      have hwl : w.length ≤ x.length := words_len (by rw [hw]; simp)
      rw [if_neg (by rw [SS_len]; simp; omega), if_pos (by rw [SS_len]; simp; try omega), SS_zero]
      have hL : fold_Lower.f (mkS w) = some (mkS (lower w)) := bnd_of _ (by rw [mkS_size]; omega)
      rw [hL]
      simp only [Option.bind_some]
      have hset : (SS (w :: t)).set (0 : Int).toNat (mkS (lower w)) = SS (lower w :: t) := rfl
      rw [hset, OO_len]
      have hst : stepP out x = if hasName out (lower w) then out else out ++ [lower w :: t] := by unfold stepP; rw [hw]
      refine parts_l1 out hne (lower w) t _ _ _ _ (d * (pcs.length + 2)) (by omega) ?_ out.length 0 (by omega) (by simp [hasName]) k (by omega)
      intro k hk
      rw [wrap_succ (by omega) (by omega), ← hst]
      exact parts_l0 pcs hp hz d (i + 1) (stepP out x) (by omega) (stepP_ne hne x) (by have := stepP_count out x; omega) k hk
theorem parts_f (s : ByteArray) (hs : s.size ≤ 1500) {k : Nat} (hk : 3000001 ≤ k) : header_Parts.f k s = some (OO (partsL s.data.toList)) := by
  have hS : strings_Split.f s ⟨#[59]⟩ = some (SS (cutAt 59 s.data.toList)) := bnd32_of _ (by omega)
  unfold header_Parts.f
  rw [hS]
  simp only [Option.bind_some]
  have hc := cutAt_count 59 s.data.toList
  rw [← Lib.size_eq] at hc
  rw [SS_len]
  refine parts_l0 (cutAt 59 s.data.toList) (by omega) (fun p hp => by
    have := cutAt_len 59 s.data.toList p hp
    rw [← Lib.size_eq] at this
    omega) _ 0 [] (Nat.zero_add _) (by simp) (by simp) k ?_
  have : (cutAt 59 s.data.toList).length * ((cutAt 59 s.data.toList).length + 2) ≤ 1501 * 1503 := Nat.mul_le_mul (by omega) (by omega)
  omega
theorem foldP_ne : ∀ (pcs : List (List UInt8)) (out : List (List (List UInt8))), (∀ x ∈ out, x ≠ []) → ∀ x ∈ pcs.foldl stepP out, x ≠ []
  | [], out, h => h
  | p :: pcs, out, h => foldP_ne pcs _ (stepP_ne h p)
theorem partsL_ne (s : List UInt8) : ∀ x ∈ partsL s, x ≠ [] := foldP_ne _ _ (by simp)
theorem foldP_count : ∀ (pcs : List (List UInt8)) (out : List (List (List UInt8))), (pcs.foldl stepP out).length ≤ out.length + pcs.length
  | [], out => Nat.le_refl _
  | p :: pcs, out => by
    have := foldP_count pcs (stepP out p)
    have := stepP_count out p
    simp only [List.foldl_cons, List.length_cons]
    omega
theorem partsL_count (s : List UInt8) : (partsL s).length ≤ s.length + 1 := by
  have h1 := foldP_count (cutAt 59 s) []
  have h2 := cutAt_count 59 s
  unfold partsL
  simp at h1
  omega

/-! ### a directive by its name -/
def namedL (l : List (List (List UInt8))) (n : List UInt8) : List (List UInt8) × Bool := match l.find? fun h => h.headD [] == n with
  | some h => (h.tail, true)
  | none => ([], false)
theorem named_l0 (l : List (List (List UInt8))) (hne : ∀ x ∈ l, x ≠ []) (n : List UInt8) (hl : l.length ≤ 100000) : ∀ (d i : Nat), i + d = l.length → (∀ x ∈ l.take i, (x.headD [] == n) = false) → ∀ k, d < k →
    header_named.l0 k (mkS n) (OO l) (l.length : Int) (i : Int) = some (SS (namedL l n).1, (namedL l n).2)
  | 0, i, h, hf, k, hk => by
    obtain ⟨k, rfl⟩ : ∃ m, k = m + 1 := ⟨k - 1, by omega⟩
    simp only [header_named.l0]
    rw [List.take_of_length_le (by omega)] at hf
    rw [if_neg (by omega)]
    unfold namedL
    rw [List.find?_eq_none.2 (fun x hx => by rw [hf x hx]; simp)]
    rfl
  | d + 1, i, h, hf, k, hk => by
    obtain ⟨k, rfl⟩ : ∃ m, k = m + 1 := ⟨k - 1, by omega⟩
    obtain ⟨x, hx⟩ := get_some (show i < l.length by omega)
    have hxm : x ∈ l := List.mem_iff_getElem?.2 ⟨i, hx⟩
    obtain ⟨h0, ht, rfl⟩ : ∃ h0 ht, x = h0 :: ht := by
      cases x with
      | nil => exact absurd rfl (hne _ hxm)
      | cons a b => exact ⟨a, b, rfl⟩
    simp only [header_named.l0]
    rw [if_pos (by omega), if_pos (by omega), OO_len, if_pos (by omega), OO_at hx, SS_len, if_pos (by simp), SS_zero, mkS_toList, mkS_toList]
    by_cases e : h0 = n
    · rw [if_pos e, if_pos (by simp; try omega), SS_drop]
      have : l.find? (fun h => h.headD [] == n) = some (h0 :: ht) := by
        conv => lhs; rw [← List.take_append_drop i l]
        rw [List.find?_append, List.find?_eq_none.2 (fun x hx => by rw [hf x hx]; simp), drop_at hx]
        simp [e]
      unfold namedL
      rw [this]
      rfl
    · rw [if_neg e, wrap_succ (by omega) (by omega)]
      refine named_l0 l hne n hl d (i + 1) (by omega) ?_ k (by omega)
      intro y hy
      rw [take_at hx] at hy
      rcases List.mem_append.1 hy with hy | hy
      · exact hf y hy
      · rw [List.mem_singleton] at hy; subst hy
        simpa using e
theorem named_f (l : List (List (List UInt8))) (hne : ∀ x ∈ l, x ≠ []) (n : List UInt8) (hl : l.length ≤ 100000) {k : Nat} (hk : 100001 ≤ k) : header_named.f k (OO l) (mkS n) = some (SS (namedL l n).1, (namedL l n).2) := by
  unfold header_named.f
  rw [OO_len]
  exact named_l0 l hne n hl l.length 0 (by omega) (by simp) k (by omega)

/-! ### does a name stand in a list? -/
theorem index_l0 (l : List (List UInt8)) (n : ByteArray) (hl : l.length ≤ 100000) : ∀ (d i : Nat), i + d = l.length → n.data.toList ∉ l.take i → ∀ k, d < k →
    ∃ r, slices_Index_string_string.l0 k (SS l) n (l.length : Int) (i : Int) = some r ∧ (decide (r ≥ 0) = l.contains n.data.toList)
  | 0, i, h, hf, k, hk => by
    obtain ⟨k, rfl⟩ : ∃ m, k = m + 1 := ⟨k - 1, by omega⟩
    simp only [slices_Index_string_string.l0]
    rw [List.take_of_length_le (by omega)] at hf
    rw [if_neg (by omega)]
    refine ⟨_, rfl, ?_⟩
    rw [List.contains_eq_mem, decide_eq_false hf]
    rfl
  | d + 1, i, h, hf, k, hk => by
    obtain ⟨k, rfl⟩ : ∃ m, k = m + 1 := ⟨k - 1, by omega⟩
    obtain ⟨x, hx⟩ := get_some (show i < l.length by omega)
    have hxm : x ∈ l := List.mem_iff_getElem?.2 ⟨i, hx⟩
    simp only [slices_Index_string_string.l0]
    rw [if_pos (by omega), if_pos (by omega), SS_len, if_pos (by omega), SS_at hx, mkS_toList, Lib.toList_data]
    by_cases e : n.data.toList = x
    · rw [if_pos e]
      refine ⟨_, rfl, ?_⟩
      rw [List.contains_eq_mem, decide_eq_true (show (i : Int) ≥ 0 by omega), decide_eq_true (show n.data.toList ∈ l by rw [e]; exact hxm)]
    · rw [if_neg e, wrap_succ (by omega) (by omega)]
      refine index_l0 l n hl d (i + 1) (by omega) ?_ k (by omega)
      rw [take_at hx, List.mem_append, List.mem_singleton]
      rintro (h | h)
      · exact hf h
      · exact e h
theorem contains_f (l : List (List UInt8)) (n : ByteArray) (hl : l.length ≤ 100000) {k : Nat} (hk : 100001 ≤ k) : slices_Contains_string_string.f k (SS l) n = some (l.contains n.data.toList) := by
  unfold slices_Contains_string_string.f slices_Index_string_string.f
  rw [SS_len]
  obtain ⟨r, h1, h2⟩ := index_l0 l n hl l.length 0 (by omega) (by simp) k (by omega)
  have h1' : slices_Index_string_string.l0 k (SS l) n (l.length : Int) 0 = some r := h1
  rw [h1']
  simp only [Option.bind_some]
  rw [h2]

/-! ### names -/
def mayC (c : UInt8) : Bool := letterI c.toNat || (decide (48 ≤ c.toNat) && decide (c.toNat ≤ 57)) || ([45, 35, 61, 95, 47, 64, 46, 37] : List UInt8).contains c
def mayL (l : List UInt8) : Bool := l.all mayC && !l.isEmpty
theorem letter_f (c : Int) : fold_Letter.f c = some (letterI c) := by
  unfold fold_Letter.f letterI
  repeat' split
  all_goals
    refine congrArg some ?_
    rw [Bool.eq_iff_iff]
    simp only [Bool.or_eq_true, decide_eq_true_eq, Bool.false_eq_true, eq_self, true_iff, false_iff]
    omega
theorem sign_f (c : UInt8) : strings_Contains.f ⟨#[45, 35, 61, 95, 47, 64, 46, 37]⟩ (mkS [c]) = some (([45, 35, 61, 95, 47, 64, 46, 37] : List UInt8).contains c) := by
  show some (decide (0 ≤ Lib.indexByte [45, 35, 61, 95, 47, 64, 46, 37] c)) = _
  congr 1
  by_cases h : c ∈ ([45, 35, 61, 95, 47, 64, 46, 37] : List UInt8)
  · rw [List.contains_eq_mem, decide_eq_true h]
    refine decide_eq_true ?_
    simp only [List.mem_cons, List.not_mem_nil, or_false] at h
    rcases h with rfl | rfl | rfl | rfl | rfl | rfl | rfl | rfl <;> decide
  · rw [List.contains_eq_mem, decide_eq_false h]
    refine decide_eq_false ?_
    intro h0
    have hge := Lib.indexByte_ge [45, 35, 61, 95, 47, 64, 46, 37] c
    obtain ⟨i, hi⟩ : ∃ i : Nat, Lib.indexByte [45, 35, 61, 95, 47, 64, 46, 37] c = i := ⟨_, (Int.toNat_of_nonneg h0).symm⟩
    have := (Lib.indexByte_some hi).1
    exact h (List.mem_iff_getElem?.2 ⟨i, this⟩)
theorem may_l0 (s : ByteArray) (hs : s.size ≤ 200000000000000) : ∀ (d i : Nat), i + d = s.size → (s.data.toList.take i).all mayC = true → ∀ k, d < k →
    header_may.l0 k s (s.size : Int) (i : Int) = some (mayL s.data.toList)
  | 0, i, h, hf, k, hk => by
    obtain ⟨k, rfl⟩ : ∃ m, k = m + 1 := ⟨k - 1, by omega⟩
    simp only [header_may.l0]
    rw [List.take_of_length_le (by rw [← Lib.size_eq]; omega)] at hf
    rw [if_neg (by omega), Lib.toList_data]
    unfold mayL
    rw [hf]
    cases s.data.toList <;> rfl
  | d + 1, i, h, hf, k, hk => by
    obtain ⟨k, rfl⟩ : ∃ m, k = m + 1 := ⟨k - 1, by omega⟩
    obtain ⟨c, hc⟩ := at_some s (show i < s.size by omega)
    have hno : mayC c = false → mayL s.data.toList = false := by
      intro hm
      unfold mayL
      rw [Bool.and_eq_false_iff]
      left
      rw [Bool.eq_false_iff]
      intro ha
      have := List.all_eq_true.1 ha c (List.mem_iff_getElem?.2 ⟨i, hc⟩)
      rw [hm] at this; cases this
    have hgo : mayC c = true → header_may.l0 k s (s.size : Int) ((i : Int) + 1) = some (mayL s.data.toList) := by
      intro hm
      refine may_l0 s hs d (i + 1) (by omega) ?_ k (by omega)
      rw [take_snoc hc, List.all_append, hf]
      simp [hm]
    simp only [header_may.l0]
    rw [if_pos (by omega), if_pos (by omega), if_pos (by omega), bt_c hc, letter_f, wrap_succ (by omega) (by omega)]
    simp only [Option.bind_some]
    have hext : s.extract (i : Int).toNat ((i : Int) + 1).toNat = mkS [c] := by
      rw [show (i : Int).toNat = i by omega, show ((i : Int) + 1).toNat = i + 1 by omega]
      exact extract_one hc
    rw [hext, sign_f]
    simp only [Option.bind_some]
    by_cases h1 : letterI c.toNat = true
    · rw [if_pos h1]
      exact hgo (by unfold mayC; rw [h1]; rfl)
    · rw [if_neg h1]
      have h1' : letterI c.toNat = false := by simpa using h1
      by_cases h2 : (c.toNat : Int) < 48
      · rw [if_pos h2, if_pos (by omega), if_pos (by omega)]
        have e : mayC c = ([45, 35, 61, 95, 47, 64, 46, 37] : List UInt8).contains c := by
          unfold mayC
          rw [h1', decide_eq_false (show ¬ 48 ≤ c.toNat by omega)]
          rfl
        rw [← e]
        cases hm : mayC c with
        | true => rw [if_pos rfl]; exact hgo hm
        | false => rw [if_neg (by decide), hno hm]
      · rw [if_neg h2]
        by_cases h3 : (c.toNat : Int) > 57
        · rw [if_pos h3, if_pos (by omega), if_pos (by omega)]
          have e : mayC c = ([45, 35, 61, 95, 47, 64, 46, 37] : List UInt8).contains c := by
            unfold mayC
            rw [h1', decide_eq_false (show ¬ c.toNat ≤ 57 by omega)]
            simp
          rw [← e]
          cases hm : mayC c with
          | true => rw [if_pos rfl]; exact hgo hm
          | false => rw [if_neg (by decide), hno hm]
        · rw [if_neg h3]
          exact hgo (by
            unfold mayC
            rw [decide_eq_true (show 48 ≤ c.toNat by omega), decide_eq_true (show c.toNat ≤ 57 by omega)]
            simp)
theorem may_f (s : ByteArray) (hs : s.size ≤ 200000000000000) {k : Nat} (hk : s.size < k) : header_may.f k s = some (mayL s.data.toList) :=
  may_l0 s hs s.size 0 (by omega) (by simp) k hk

/-! ### what a header asks -/
def star : List UInt8 := [42]
def dup : List UInt8 := [39, 97, 108, 108, 111, 119, 45, 100, 117, 112, 108, 105, 99, 97, 116, 101, 115, 39]
def scriptV : List UInt8 := [39, 115, 99, 114, 105, 112, 116, 39]
def requireN : List UInt8 := [114, 101, 113, 117, 105, 114, 101, 45, 116, 114, 117, 115, 116, 101, 100, 45, 116, 121, 112, 101, 115, 45, 102, 111, 114]
def typesN : List UInt8 := [116, 114, 117, 115, 116, 101, 100, 45, 116, 121, 112, 101, 115]
structure Asked where
  names : List (List UInt8)
  any : Bool
  twice : Bool
def stepV (g : Asked) (v : List UInt8) : Asked :=
  if v = star then { g with any := true } else if v = dup then { g with twice := true } else if mayL v && !g.names.contains v then { g with names := g.names ++ [v] } else g
structure Guard where
  on : Bool
  report : Bool
  names : List (List UInt8)
  any : Bool
  twice : Bool
def parseG (p : List (List (List UInt8))) (report : Bool) : Guard :=
  let on := (namedL p requireN).1.contains scriptV
  if (namedL p typesN).2 then
    let a := (namedL p typesN).1.foldl stepV ⟨[], false, false⟩
    ⟨on, report, a.names, a.any, a.twice⟩
  else ⟨on, report, [], true, true⟩
theorem parse_l0 (l : List (List UInt8)) (hl : l.length ≤ 50000) (hz : ∀ x ∈ l, x.length ≤ 100000) (on rep : Bool) : ∀ (d i : Nat) (g : Asked), i + d = l.length → g.names.length ≤ i → ∀ k, d + 100001 < k →
    header_Parse.l0 k (SS l) (l.length : Int) (i : Int) on rep (SS g.names) g.any g.twice = some (on, rep, SS ((l.drop i).foldl stepV g).names, ((l.drop i).foldl stepV g).any, ((l.drop i).foldl stepV g).twice)
  | 0, i, g, h, hg, k, hk => by
    obtain ⟨k, rfl⟩ : ∃ m, k = m + 1 := ⟨k - 1, by omega⟩
    simp only [header_Parse.l0]
    rw [if_neg (by omega), List.drop_of_length_le (by omega)]
    rfl
  | d + 1, i, g, h, hg, k, hk => by
    obtain ⟨k, rfl⟩ : ∃ m, k = m + 1 := ⟨k - 1, by omega⟩
    obtain ⟨x, hx⟩ := get_some (show i < l.length by omega)
    have hxm : x ∈ l := List.mem_iff_getElem?.2 ⟨i, hx⟩
    have hxl := hz x hxm
    have next := fun g' hg' => parse_l0 l hl hz on rep d (i + 1) g' (by omega) hg' k (by omega)
    simp only [header_Parse.l0]
    rw [if_pos (by omega), if_pos (by omega), SS_len, if_pos (by omega), SS_at hx, mkS_toList, wrap_succ (by omega) (by omega), drop_at hx, List.foldl_cons]
    by_cases h1 : x = star
    · have h1' : x = ([42] : List UInt8) := h1
      rw [if_pos h1']
      have e : stepV g x = { g with any := true } := by unfold stepV; rw [if_pos h1]
      rw [e]
      exact next { g with any := true } (by show g.names.length ≤ i + 1; omega)
    · have h1' : ¬ x = ([42] : List UInt8) := h1
      rw [if_neg h1']
      by_cases h2 : x = dup
      · have h2' : x = ([39, 97, 108, 108, 111, 119, 45, 100, 117, 112, 108, 105, 99, 97, 116, 101, 115, 39] : List UInt8) := h2
        rw [if_pos h2']
        have e : stepV g x = { g with twice := true } := by unfold stepV; rw [if_neg h1, if_pos h2]
        rw [e]
        exact next { g with twice := true } (by show g.names.length ≤ i + 1; omega)
      · have h2' : ¬ x = ([39, 97, 108, 108, 111, 119, 45, 100, 117, 112, 108, 105, 99, 97, 116, 101, 115, 39] : List UInt8) := h2
        rw [if_neg h2', may_f _ (by rw [mkS_size]; omega) (by rw [mkS_size]; omega), mkS_list]
        simp only [Option.bind_some]
        by_cases h3 : mayL x = true
        · rw [if_pos h3, contains_f g.names (mkS x) (by omega) (by omega), mkS_list]
          simp only [Option.bind_some]
          by_cases h4 : g.names.contains x = true
          · rw [if_pos h4]
            have e : stepV g x = g := by unfold stepV; rw [if_neg h1, if_neg h2, if_neg (by rw [h4]; simp)]
            rw [e]
            exact next g (by omega)
          · rw [if_neg h4, SS_len, if_pos (by omega), SS_snoc]
            have e : stepV g x = { g with names := g.names ++ [x] } := by unfold stepV; rw [if_neg h1, if_neg h2, if_pos (by rw [h3]; simpa using h4)]
            rw [e]
            exact next { g with names := g.names ++ [x] } (by show (g.names ++ [x]).length ≤ i + 1; simp; omega)
        · rw [if_neg h3]
          have e : stepV g x = g := by unfold stepV; rw [if_neg h1, if_neg h2, if_neg (by simp [h3])]
          rw [e]
          exact next g (by omega)
theorem namedL_mem {l : List (List (List UInt8))} {n x : List UInt8} (h : x ∈ (namedL l n).1) : ∃ d ∈ l, x ∈ d := by
  unfold namedL at h
  split at h
  · rename_i d e
    exact ⟨d, List.mem_of_find?_eq_some e, List.mem_of_mem_tail h⟩
  · simp at h
theorem stepP_words {out : List (List (List UInt8))} {n m : Nat} (h : ∀ d ∈ out, d.length ≤ n ∧ ∀ x ∈ d, x.length ≤ m) {p : List UInt8} (h1 : p.length < n) (h2 : p.length ≤ m) : ∀ d ∈ stepP out p, d.length ≤ n ∧ ∀ x ∈ d, x.length ≤ m := by
  unfold stepP
  cases hw : words p with
  | nil => exact h
  | cons w t =>
    have hc := words_count p
    have hl : ∀ x ∈ w :: t, x.length ≤ p.length := fun x hx => words_len (by rw [hw]; exact hx)
    rw [hw] at hc
    dsimp only
    split
    · exact h
    · intro d hd
      rcases List.mem_append.1 hd with hd | hd
      · exact h d hd
      · rw [List.mem_singleton] at hd; subst hd
        refine ⟨by simp at hc ⊢; omega, fun x hx => ?_⟩
        rcases List.mem_cons.1 hx with hx | hx
        · subst hx
          have := hl w (by simp)
          unfold lower
          rw [List.length_map]; omega
        · have := hl x (by simp [hx]); omega
theorem foldP_words {n m : Nat} : ∀ (pcs : List (List UInt8)) (out : List (List (List UInt8))), (∀ p ∈ pcs, p.length < n ∧ p.length ≤ m) → (∀ d ∈ out, d.length ≤ n ∧ ∀ x ∈ d, x.length ≤ m) → ∀ d ∈ pcs.foldl stepP out, d.length ≤ n ∧ ∀ x ∈ d, x.length ≤ m
  | [], out, _, h => h
  | p :: pcs, out, hp, h => foldP_words pcs _ (fun q hq => hp q (by simp [hq])) (stepP_words h (hp p (by simp)).1 (hp p (by simp)).2)
theorem partsL_words (s : List UInt8) : ∀ d ∈ partsL s, d.length ≤ s.length + 1 ∧ ∀ x ∈ d, x.length ≤ s.length :=
  foldP_words _ _ (fun p hp => by have := cutAt_len 59 s p hp; omega) (by simp)
theorem namedL_len {l : List (List (List UInt8))} {m : Nat} (n : List UInt8) (h : ∀ d ∈ l, d.length ≤ m) : (namedL l n).1.length ≤ m := by
  unfold namedL
  split
  · rename_i d e
    have := h d (List.mem_of_find?_eq_some e)
    simp; omega
  · simp
theorem parse_f (s : ByteArray) (hs : s.size ≤ 1500) (rep : Bool) {k : Nat} (hk : 3000001 ≤ k) :
    header_Parse.f k s rep = some ((parseG (partsL s.data.toList) rep).on, (parseG (partsL s.data.toList) rep).report, SS (parseG (partsL s.data.toList) rep).names, (parseG (partsL s.data.toList) rep).any, (parseG (partsL s.data.toList) rep).twice) := by
  have hne := partsL_ne s.data.toList
  have hcn := partsL_count s.data.toList
  have hwd := partsL_words s.data.toList
  rw [← Lib.size_eq] at hcn hwd
  unfold header_Parse.f
  rw [parts_f s hs hk]
  generalize partsL s.data.toList = P at hne hcn hwd ⊢
  simp only [Option.bind_some]
  have n1 := named_f P hne requireN (by omega) (show 100001 ≤ k by omega)
  have n2 := named_f P hne typesN (by omega) (show 100001 ≤ k by omega)
  have n1' : header_named.f k (OO P) ⟨#[114, 101, 113, 117, 105, 114, 101, 45, 116, 114, 117, 115, 116, 101, 100, 45, 116, 121, 112, 101, 115, 45, 102, 111, 114]⟩ = _ := n1
  have n2' : header_named.f k (OO P) ⟨#[116, 114, 117, 115, 116, 101, 100, 45, 116, 121, 112, 101, 115]⟩ = _ := n2
  have l1 := namedL_len (m := s.size + 1) requireN (fun d hd => (hwd d hd).1)
  have l2 := namedL_len (m := s.size + 1) typesN (fun d hd => (hwd d hd).1)
  have z2 : ∀ x ∈ (namedL P typesN).1, x.length ≤ 100000 := fun x hx => by
    obtain ⟨d, hd, hxd⟩ := namedL_mem hx
    have := (hwd d hd).2 x hxd
    omega
  rw [n1']
  simp only [Option.bind_some]
  rw [contains_f _ _ (by omega) (by omega), n2']
  simp only [Option.bind_some]
  unfold parseG
  by_cases h : (namedL P typesN).2 = true
  · rw [if_pos h, if_pos h, SS_len]
    have := parse_l0 (namedL P typesN).1 (by omega) z2 ((namedL P requireN).1.contains scriptV) rep _ 0 ⟨[], false, false⟩ (Nat.zero_add _) (Nat.le_refl _) k (by omega)
    rw [List.drop_zero] at this
    exact this
  · rw [if_neg h, if_neg h]
    rfl
end Go.Proofs.YthblohknnlkidaaDoor.Pure
/- header's plain laws. -/
namespace Go.Proofs.YthblohknnlkidaaDoor.Pure
set_option linter.unusedVariables false
set_option linter.unusedSimpArgs false
open Go.RowKit Go.Proofs.YthblohknnlkidaaDoor.Pr Go.Proofs.YthblohknnlkidaaDoorW.PrintWords Go.Proofs.YthblohknnlkidaaDoorW.PrintLast

theorem equal_l0 (L : List (List UInt8)) (hL : L.length ≤ 100000) : ∀ (d i : Nat), i + d = L.length → ∀ k, d < k → boltingref02_Equal.l0 k (SS L) (SS L) (i : Int) = some true
  | 0, i, h, k, hk => by
    obtain ⟨k, rfl⟩ : ∃ m, k = m + 1 := ⟨k - 1, by omega⟩
    simp only [boltingref02_Equal.l0]
    rw [if_neg (by rw [SS_len]; omega)]
  | d + 1, i, h, k, hk => by
    obtain ⟨k, rfl⟩ : ∃ m, k = m + 1 := ⟨k - 1, by omega⟩
    simp only [boltingref02_Equal.l0]
    rw [SS_len, if_pos (by omega), if_pos (by omega), if_pos (by omega), if_pos trivial, wrap_succ (by omega) (by omega)]
    exact equal_l0 L hL d (i + 1) (by omega) k (by omega)
theorem equal_f (L : List (List UInt8)) (hL : L.length ≤ 100000) {k : Nat} (hk : 100001 ≤ k) : boltingref02_Equal.f k (SS L) (SS L) = some true := by
  unfold boltingref02_Equal.f
  rw [if_pos rfl]
  exact equal_l0 L hL L.length 0 (by omega) k (by omega)
theorem same_f (o r : Bool) (L : List (List UInt8)) (any twice : Bool) (hL : L.length ≤ 100000) {k : Nat} (hk : 100001 ≤ k) : boltingref15_Same.f k o r (SS L) any twice o r (SS L) any twice = some true := by
  unfold boltingref15_Same.f
  rw [if_pos (by simp), if_pos (by simp), if_pos (by simp), if_pos (by simp), equal_f L hL hk]
  rfl
set_option maxRecDepth 100000 in
theorem fixed_200 : boltinglaw15_fixed.f 200 = some true := by decide +kernel
theorem fixed_true {k : Nat} (hk : 200 ≤ k) : boltinglaw15_fixed.f k = some true := more (f := fun k => boltinglaw15_fixed.f k) boltinglaw15_fixed.mono hk fixed_200

theorem stepV_count (g : Asked) (v : List UInt8) : (stepV g v).names.length ≤ g.names.length + 1 := by
  unfold stepV
  split
  · simp
  · split
    · simp
    · split <;> simp
theorem foldV_count : ∀ (l : List (List UInt8)) (g : Asked), (l.foldl stepV g).names.length ≤ g.names.length + l.length
  | [], g => Nat.le_refl _
  | v :: l, g => by
    have := foldV_count l (stepV g v)
    have := stepV_count g v
    simp only [List.foldl_cons, List.length_cons]; omega
theorem stepV_from {g : Asked} {p : List UInt8 → Prop} (h : ∀ v ∈ g.names, p v) {v : List UInt8} (hv : p v) : ∀ x ∈ (stepV g v).names, p x := by
  unfold stepV
  split
  · exact h
  · split
    · exact h
    · split
      · intro x hx
        rcases List.mem_append.1 hx with hx | hx
        · exact h x hx
        · rw [List.mem_singleton] at hx; subst hx; exact hv
      · exact h
theorem foldV_from {p : List UInt8 → Prop} : ∀ (l : List (List UInt8)) (g : Asked), (∀ v ∈ g.names, p v) → (∀ v ∈ l, p v) → ∀ x ∈ (l.foldl stepV g).names, p x
  | [], g, h, _ => h
  | v :: l, g, h, hl => foldV_from l _ (stepV_from h (hl v (by simp))) (fun x hx => hl x (by simp [hx]))
theorem parse_len (s : List UInt8) (rep : Bool) : (parseG (partsL s) rep).names.length ≤ s.length + 1 ∧ ∀ x ∈ (parseG (partsL s) rep).names, x.length ≤ s.length := by
  have hwd := partsL_words s
  have l2 := namedL_len (m := s.length + 1) typesN (fun d hd => (hwd d hd).1)
  have z2 : ∀ x ∈ (namedL (partsL s) typesN).1, x.length ≤ s.length := fun x hx => by
    obtain ⟨d, hd, hxd⟩ := namedL_mem hx
    exact (hwd d hd).2 x hxd
  unfold parseG
  split
  · refine ⟨?_, foldV_from _ _ (by simp) z2⟩
    have := foldV_count (namedL (partsL s) typesN).1 ⟨[], false, false⟩
    simp at this ⊢; omega
  · simp

/-! ### directives, of whatever words -/
def stepW (out : List (List (List UInt8))) : List (List UInt8) → List (List (List UInt8))
  | [] => out
  | w :: t => if hasName out (lower w) then out else out ++ [lower w :: t]
/-- What a header's parts are: a name in small letters, each once; words without spaces. -/
def okPart (d : List (List UInt8)) : Prop := (∃ w t, d = w :: t ∧ lower w = w) ∧ ∀ x ∈ d, x ≠ [] ∧ ∀ c ∈ x, space c = false
def heads (out : List (List (List UInt8))) : List (List UInt8) := out.map fun d => d.headD []
theorem hasName_mem {out : List (List (List UInt8))} {n : List UInt8} : hasName out n = true ↔ n ∈ heads out := by
  unfold hasName heads
  rw [List.any_eq_true, List.mem_map]
  constructor
  · rintro ⟨x, hx, h⟩; exact ⟨x, hx, by simpa using h⟩
  · rintro ⟨x, hx, h⟩; exact ⟨x, hx, by simpa using h⟩
theorem stepP_once {out : List (List (List UInt8))} (h : (heads out).Nodup) (p : List UInt8) : (heads (stepP out p)).Nodup := by
  unfold stepP
  cases hw : words p with
  | nil => exact h
  | cons w t =>
    dsimp only
    split
    · exact h
    · rename_i hn
      have e : heads (out ++ [lower w :: t]) = heads out ++ [lower w] := by simp [heads]
      rw [e, List.nodup_append]
      refine ⟨h, by simp, ?_⟩
      intro a ha b hb
      rw [List.mem_singleton] at hb; subst hb
      intro e; subst e
      exact hn (hasName_mem.2 ha)
theorem foldP_once : ∀ (l : List (List UInt8)) (out : List (List (List UInt8))), (heads out).Nodup → (heads (l.foldl stepP out)).Nodup
  | [], out, h => h
  | p :: l, out, h => foldP_once l _ (stepP_once h p)
theorem partsL_once (s : List UInt8) : (heads (partsL s)).Nodup := foldP_once _ _ (by simp [heads])
end Go.Proofs.YthblohknnlkidaaDoor.Pure
namespace Go.Proofs.YthblohknnlkidaaDoor.Pr
open Go.RowKit Go.Proofs.YthblohknnlkidaaDoorW.PrintWords Go.Proofs.YthblohknnlkidaaDoorW.PrintLast Go.Proofs.YthblohknnlkidaaDoorW.PrintMore
attribute [local go_sem] max2_int min2_int max_two min_two max_three min_three max_four min_four   -- for this text's walks alone
set_option linter.unusedVariables false
set_option linter.unusedSimpArgs false

-- NOT PRINTED: function 3 (boltinglaw15_HeaderParses)

/-! ### boltingref15_Allows: function 18 -/
def boltingref15_Allows.f (k : Nat) (a0_0 : Bool) (a0_1 : Bool) (l0_2 : List ByteArray) (a0_3 : Bool) (a0_4 : Bool) (a1 : ByteArray) (a2 : Int) : Option (Bool) := (boltingref15_May.f k a1).bind fun t289 => (if t289 = true then (if a0_3 = true then (if a0_4 = true then (some true) else (some (decide (a2 ≤ 0)))) else ((boltingref02_Has.f k l0_2 a1).bind fun t290 => (if t290 = true then (if a0_4 = true then (some true) else (some (decide (a2 ≤ 0)))) else (some false)))) else (some false))
end Go.Proofs.YthblohknnlkidaaDoor.Pr
/- What the reference's May, Has, Allows of layer 15 come to: plain Lean. -/
namespace Go.Proofs.YthblohknnlkidaaDoor.Pure
set_option linter.unusedVariables false
set_option linter.unusedSimpArgs false
open Go.RowKit Go.Proofs.YthblohknnlkidaaDoor.Pr Go.Proofs.YthblohknnlkidaaDoorW.PrintWords Go.Proofs.YthblohknnlkidaaDoorW.PrintLast

theorem ref_letter (c : Int) : boltingref02_Letter.f c = some (letterI c) := by
  unfold boltingref02_Letter.f letterI
  repeat' split
  all_goals
    refine congrArg some ?_
    rw [Bool.eq_iff_iff]
    simp only [Bool.or_eq_true, decide_eq_true_eq, Bool.false_eq_true, eq_self, true_iff, false_iff]
    omega
theorem u8_eq {a b : UInt8} : a = b ↔ (a.toNat : Int) = (b.toNat : Int) := by
  constructor
  · rintro rfl; rfl
  · intro h; exact UInt8.toNat_inj.1 (by omega)
theorem mayC_iff (c : UInt8) : mayC c = true ↔ (letterI c.toNat = true ∨ (48 ≤ (c.toNat : Int) ∧ (c.toNat : Int) ≤ 57) ∨ (c.toNat : Int) = 45 ∨ (c.toNat : Int) = 35 ∨ (c.toNat : Int) = 61 ∨ (c.toNat : Int) = 95 ∨ (c.toNat : Int) = 47 ∨ (c.toNat : Int) = 64 ∨ (c.toNat : Int) = 46 ∨ (c.toNat : Int) = 37) := by
  unfold mayC
  rw [Bool.or_eq_true, Bool.or_eq_true, Bool.and_eq_true, decide_eq_true_eq, decide_eq_true_eq, List.contains_eq_mem, decide_eq_true_eq]
  simp only [List.mem_cons, List.not_mem_nil, or_false, u8_eq]
  rw [or_assoc]
  refine or_congr Iff.rfl (or_congr (by omega) ?_)
  exact Iff.rfl
set_option maxHeartbeats 1000000 in
theorem ref_may_l0 (s : ByteArray) (hs : s.size ≤ 200000000000000) : ∀ (d i : Nat), i + d = s.size → (s.data.toList.take i).all mayC = true → ∀ k, d < k →
    boltingref15_May.l0 k s (i : Int) = some (mayL s.data.toList)
  | 0, i, h, hf, k, hk => by
    obtain ⟨k, rfl⟩ : ∃ m, k = m + 1 := ⟨k - 1, by omega⟩
    simp only [boltingref15_May.l0]
    rw [List.take_of_length_le (by rw [← Lib.size_eq]; omega)] at hf
    rw [if_neg (by omega)]
    unfold mayL
    rw [hf, Lib.size_eq]
    cases s.data.toList <;> simp
  | d + 1, i, h, hf, k, hk => by
    obtain ⟨k, rfl⟩ : ∃ m, k = m + 1 := ⟨k - 1, by omega⟩
    obtain ⟨c, hc⟩ := at_some s (show i < s.size by omega)
    have hno : ¬ mayC c = true → some false = some (mayL s.data.toList) := by
      intro hm
      refine congrArg some (Eq.symm ?_)
      unfold mayL
      rw [Bool.and_eq_false_iff]
      left
      rw [Bool.eq_false_iff]
      intro ha
      exact hm (List.all_eq_true.1 ha c (List.mem_iff_getElem?.2 ⟨i, hc⟩))
    have hgo : mayC c = true → boltingref15_May.l0 k s ((i : Int) + 1) = some (mayL s.data.toList) := by
      intro hm
      refine ref_may_l0 s hs d (i + 1) (by omega) ?_ k (by omega)
      rw [take_snoc hc, List.all_append, hf]
      simp [hm]
    simp only [boltingref15_May.l0]
    rw [if_pos (by omega), if_pos (by omega), bt_c hc, ref_letter, wrap_succ (by omega) (by omega)]
    simp only [Option.bind_some]
    rw [mayC_iff] at hno hgo
    generalize letterI (c.toNat : Int) = L at hno hgo ⊢
    generalize (c.toNat : Int) = z at hno hgo ⊢
    cases L
    · simp only [Bool.false_eq_true, if_false, false_or] at hno hgo ⊢
      repeat' split
      all_goals first
        | exact hgo (by omega)
        | exact hno (by omega)
    · simp only [if_true, true_or, forall_const] at hgo ⊢
      repeat' split
      all_goals exact hgo
theorem ref_may (s : ByteArray) (hs : s.size ≤ 200000000000000) {k : Nat} (hk : s.size < k) : boltingref15_May.f k s = some (mayL s.data.toList) :=
  ref_may_l0 s hs s.size 0 (by omega) (by simp) k hk
theorem ref_has_l0 (l : List (List UInt8)) (n : ByteArray) (hl : l.length ≤ 100000) : ∀ (d i : Nat), i + d = l.length → n.data.toList ∉ l.take i → ∀ k, d < k → boltingref02_Has.l0 k (SS l) n (i : Int) = some (l.contains n.data.toList)
  | 0, i, h, hf, k, hk => by
    obtain ⟨k, rfl⟩ : ∃ m, k = m + 1 := ⟨k - 1, by omega⟩
    simp only [boltingref02_Has.l0]
    rw [List.take_of_length_le (by omega)] at hf
    rw [if_neg (by rw [SS_len]; omega), List.contains_eq_mem, decide_eq_false hf]
  | d + 1, i, h, hf, k, hk => by
    obtain ⟨k, rfl⟩ : ∃ m, k = m + 1 := ⟨k - 1, by omega⟩
    obtain ⟨x, hx⟩ := get_some (show i < l.length by omega)
    have hxm : x ∈ l := List.mem_iff_getElem?.2 ⟨i, hx⟩
    simp only [boltingref02_Has.l0]
    rw [if_pos (by rw [SS_len]; omega), if_pos (by omega), SS_at hx, mkS_toList, Lib.toList_data, wrap_succ (by omega) (by omega)]
    by_cases e : x = n.data.toList
    · rw [if_pos e, List.contains_eq_mem, decide_eq_true (by rw [← e]; exact hxm)]
    · rw [if_neg e]
      refine ref_has_l0 l n hl d (i + 1) (by omega) ?_ k (by omega)
      rw [take_at hx, List.mem_append, List.mem_singleton]
      rintro (h | h)
      · exact hf h
      · exact e h.symm
theorem ref_has (l : List (List UInt8)) (n : ByteArray) (hl : l.length ≤ 100000) {k : Nat} (hk : 100001 ≤ k) : boltingref02_Has.f k (SS l) n = some (l.contains n.data.toList) :=
  ref_has_l0 l n hl l.length 0 (by omega) (by simp) k (by omega)
end Go.Proofs.YthblohknnlkidaaDoor.Pure
