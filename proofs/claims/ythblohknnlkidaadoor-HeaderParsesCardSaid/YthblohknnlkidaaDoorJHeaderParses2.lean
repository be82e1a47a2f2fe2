/- Texts under the row of HeaderParses (part 2).. -/
import Derived.Test.YthblohknnlkidaaDoorJHeaderParses1
namespace Go.Proofs.YthblohknnlkidaaDoor.Pr
open Go.RowKit Go.Proofs.YthblohknnlkidaaDoorW.PrintWords Go.Proofs.YthblohknnlkidaaDoorW.PrintLast Go.Proofs.YthblohknnlkidaaDoorW.PrintMore
attribute [local go_sem] max2_int min2_int max_two min_two max_three min_three max_four min_four   -- for this text's walks alone
set_option linter.unusedVariables false
set_option linter.unusedSimpArgs false

/-! ### header_may: function 29 -/
def header_may.l0 : Nat → ByteArray → Int → Int → Option (Bool)
  | 0, _, _, _ => none
  | k + 1, x0, x5, x6 => if x6 < x5 then (if 0 ≤ x6 then (if x6 < (x0.size : Int) then ((fold_Letter.f (bt x0 x6)).bind fun t199 => (if t199 = true then (header_may.l0 k x0 x5 (wrap64 (x6 + 1))) else (if (bt x0 x6) < 48 then (if x6 ≤ (wrap64 (x6 + 1)) then (if (wrap64 (x6 + 1)) ≤ (x0.size : Int) then ((strings_Contains.f (⟨#[45, 35, 61, 95, 47, 64, 46, 37]⟩ : ByteArray) (x0.extract (x6 : Int).toNat ((wrap64 (x6 + 1)) : Int).toNat)).bind fun t200 => (if t200 = true then (header_may.l0 k x0 x5 (wrap64 (x6 + 1))) else (some false))) else (none)) else (none)) else (if (bt x0 x6) > 57 then (if x6 ≤ (wrap64 (x6 + 1)) then (if (wrap64 (x6 + 1)) ≤ (x0.size : Int) then ((strings_Contains.f (⟨#[45, 35, 61, 95, 47, 64, 46, 37]⟩ : ByteArray) (x0.extract (x6 : Int).toNat ((wrap64 (x6 + 1)) : Int).toNat)).bind fun t201 => (if t201 = true then (header_may.l0 k x0 x5 (wrap64 (x6 + 1))) else (some false))) else (none)) else (none)) else (header_may.l0 k x0 x5 (wrap64 (x6 + 1))))))) else (none)) else (none)) else (some (x0.toList != ([] : List UInt8)))
def header_may.f (k : Nat) (a0 : ByteArray) : Option (Bool) := header_may.l0 k a0 (a0.size : Int) 0
theorem header_may.mono_l : ∀ k, (∀ y0 y1 y2, LeO (header_may.l0 k y0 y1 y2) (header_may.l0 (k + 1) y0 y1 y2))
  | 0 => fun _ _ _ r h => by simp [header_may.l0] at h
  | k + 1 => by
    have ih0 := header_may.mono_l k
    · intro y0 y1 y2
      unfold header_may.l0
      repeat' first
      | (with_reducible exact ih0 _ _ _)
      | (with_reducible exact LeO.refl _)
      | (with_reducible exact LeO.none _)
      | (with_reducible refine LeO.ite ?_ ?_)
      | (with_reducible refine LeO.bind ?_ (fun _ => ?_))
      | exact ih0 _ _ _
      | exact LeO.none _
      | refine LeO.ite ?_ ?_
      | refine LeO.bind ?_ (fun _ => ?_)
theorem header_may.mono : ∀ a0 k, LeO (header_may.f k a0) (header_may.f (k + 1) a0) := by
  intro a0 k
  have ih0 := header_may.mono_l k
  unfold header_may.f
  repeat' first
      | (with_reducible exact ih0 _ _ _)
      | (with_reducible exact LeO.refl _)
      | (with_reducible exact LeO.none _)
      | (with_reducible refine LeO.ite ?_ ?_)
      | (with_reducible refine LeO.bind ?_ (fun _ => ?_))
      | exact ih0 _ _ _
      | exact LeO.none _
      | refine LeO.ite ?_ ?_
      | refine LeO.bind ?_ (fun _ => ?_)
set_option maxHeartbeats 8000000 in
set_option maxRecDepth 100000 in
theorem header_may.calls (k : Nat) (a0 : ByteArray) (r : Bool) (w : World) (h : header_may.f k a0 = some r) :
    Calls Tryd.prog 29 #[.string a0] w fun e w' => e = .returned (.bool r) ∧ Drawn0 w w' := by
  have H : (header_may.l0 k a0 (a0.size : Int) 0) = some r := h
  clear h
  have H' := Aside0.mk H
  clear H
  go_enter Tryd.func29, Tryd.ntmps29
  go_wp2
  go_loopg [6] k (fun kq v6 w' => ∃ (x6_1 : Int), v6 = .int .i64 x6_1 ∧ Aside0 (header_may.l0 kq a0 (a0.size : Int) x6_1 = some r) ∧ Aside0 (kq ≤ k) ∧ Drawn0 w w')
  case atStart => exact ⟨(0), (by first | rfl | (simp; done) | (simp [*]; done)), H', ⟨Nat.le_refl _⟩, by repeat (first | exact Drawn0.refl _ | apply Drawn0.step)⟩
  case round =>
    clear H'
    obtain ⟨x6_1, rfl, HA, HK1, ⟨m1, rfl⟩⟩ := hrel
    cases gk with
    | zero => exact absurd HA.out (by simp [header_may.l0])
    | succ k1 =>
      have H := HA.out
      clear HA
      simp only [header_may.l0] at H
      by_cases c2 : x6_1 < (a0.size : Int)
      · rw [if_pos c2] at H
        have c2b0 : decide (x6_1 < (a0.size : Int)) = true := decide_eq_true c2
        clear c2
        by_cases c3 : 0 ≤ x6_1
        · rw [if_pos c3] at H
          have c3b0 : decide (0 ≤ x6_1) = true := decide_eq_true c3
          clear c3
          by_cases c4 : x6_1 < (a0.size : Int)
          · rw [if_pos c4] at H
            have c4b0 : decide (x6_1 < (a0.size : Int)) = true := decide_eq_true c4
            clear c4
            replace H := Option.bind_eq_some_iff.mp H
            obtain ⟨t199, A60, H⟩ := H
            replace H : (if t199 = true then (header_may.l0 k1 a0 (a0.size : Int) (wrap64 (x6_1 + 1))) else (if (bt a0 x6_1) < 48 then (if x6_1 ≤ (wrap64 (x6_1 + 1)) then (if (wrap64 (x6_1 + 1)) ≤ (a0.size : Int) then ((strings_Contains.f (⟨#[45, 35, 61, 95, 47, 64, 46, 37]⟩ : ByteArray) (a0.extract (x6_1 : Int).toNat ((wrap64 (x6_1 + 1)) : Int).toNat)).bind fun t200 => (if t200 = true then (header_may.l0 k1 a0 (a0.size : Int) (wrap64 (x6_1 + 1))) else (some false))) else (none)) else (none)) else (if (bt a0 x6_1) > 57 then (if x6_1 ≤ (wrap64 (x6_1 + 1)) then (if (wrap64 (x6_1 + 1)) ≤ (a0.size : Int) then ((strings_Contains.f (⟨#[45, 35, 61, 95, 47, 64, 46, 37]⟩ : ByteArray) (a0.extract (x6_1 : Int).toNat ((wrap64 (x6_1 + 1)) : Int).toNat)).bind fun t201 => (if t201 = true then (header_may.l0 k1 a0 (a0.size : Int) (wrap64 (x6_1 + 1))) else (some false))) else (none)) else (none)) else (header_may.l0 k1 a0 (a0.size : Int) (wrap64 (x6_1 + 1)))))) = some r := H
            have A6 := Aside0.mk A60
            clear A60
            by_cases c7 : t199 = true
            · subst c7
              have H1 : (header_may.l0 k1 a0 (a0.size : Int) (wrap64 (x6_1 + 1))) = some r := by rw [if_pos rfl] at H; exact H
              clear H
              have H := H1
              clear H1
              have H' := Aside0.mk H
              clear H
              have p5 : 0 ≤ (x6_1 : Int) := of_decide_eq_true (by first | (with_reducible assumption) | assumption)
              have q5 : x6_1 < (a0.size : Int) := of_decide_eq_true (by first | (with_reducible assumption) | assumption)
              have hx5 := bt_at a0 x6_1
              replace p5 := eq_true p5
              replace q5 := eq_true q5
              go_wp2_with (first | ((with_reducible refine gate_callee (f := 37) rfl ?_); refine goesL_ (some 12) rfl rfl Tryd.func37 (by kernel_rfl) rfl #[.int .u8 (bt a0 x6_1)] rfl (by (try simp only [List.map_toArray, List.map_cons, List.map_nil]); first | done | rfl | (simp only [List.length_drop, List.length_take]; rfl)) ?_; (with_reducible refine (fold_Letter.calls (bt a0 x6_1) true _ A6.out).mono ?_); rintro e w' ⟨rfl, ⟨nd, rfl⟩⟩; refine ⟨_, rfl, ?_⟩))
              go_roundg k1
              case measure => have := HK1.out; omega
              case rel => exact ⟨(wrap64 (x6_1 + 1)), (by first | rfl | (simp; done) | (simp [*]; done)), H', ⟨by have := HK1.out; omega⟩, by repeat (first | exact Drawn0.refl _ | apply Drawn0.step)⟩
            · replace c7 := Bool.eq_false_iff.mpr c7
              subst c7
              have H1 : (if (bt a0 x6_1) < 48 then (if x6_1 ≤ (wrap64 (x6_1 + 1)) then (if (wrap64 (x6_1 + 1)) ≤ (a0.size : Int) then ((strings_Contains.f (⟨#[45, 35, 61, 95, 47, 64, 46, 37]⟩ : ByteArray) (a0.extract (x6_1 : Int).toNat ((wrap64 (x6_1 + 1)) : Int).toNat)).bind fun t200 => (if t200 = true then (header_may.l0 k1 a0 (a0.size : Int) (wrap64 (x6_1 + 1))) else (some false))) else (none)) else (none)) else (if (bt a0 x6_1) > 57 then (if x6_1 ≤ (wrap64 (x6_1 + 1)) then (if (wrap64 (x6_1 + 1)) ≤ (a0.size : Int) then ((strings_Contains.f (⟨#[45, 35, 61, 95, 47, 64, 46, 37]⟩ : ByteArray) (a0.extract (x6_1 : Int).toNat ((wrap64 (x6_1 + 1)) : Int).toNat)).bind fun t201 => (if t201 = true then (header_may.l0 k1 a0 (a0.size : Int) (wrap64 (x6_1 + 1))) else (some false))) else (none)) else (none)) else (header_may.l0 k1 a0 (a0.size : Int) (wrap64 (x6_1 + 1))))) = some r := by rw [if_neg (show ¬ (false = true) by decide)] at H; exact H
              clear H
              have H := H1
              clear H1
              by_cases c9 : (bt a0 x6_1) < 48
              · rw [if_pos c9] at H
                have c9b0 : decide ((bt a0 x6_1) < 48) = true := decide_eq_true c9
                clear c9
                have c10b0 := eq_true (of_decide_eq_true (by first | (with_reducible assumption) | assumption) : 0 ≤ x6_1)
                by_cases c11 : x6_1 ≤ (wrap64 (x6_1 + 1))
                · rw [if_pos c11] at H
                  have c11b0 := eq_true c11
                  have c11b1 : decide (x6_1 ≤ (wrap64 (x6_1 + 1))) = true := decide_eq_true c11
                  by_cases c12 : (wrap64 (x6_1 + 1)) ≤ (a0.size : Int)
                  · rw [if_pos c12] at H
                    have c12b0 := eq_true c12
                    have c12b1 : decide ((wrap64 (x6_1 + 1)) ≤ (a0.size : Int)) = true := decide_eq_true c12
                    replace H := Option.bind_eq_some_iff.mp H
                    obtain ⟨t200, A130, H⟩ := H
                    replace H : (if t200 = true then (header_may.l0 k1 a0 (a0.size : Int) (wrap64 (x6_1 + 1))) else (some false)) = some r := H
                    have A13 := Aside0.mk A130
                    clear A130
                    by_cases c14 : t200 = true
                    · subst c14
                      have H1 : (header_may.l0 k1 a0 (a0.size : Int) (wrap64 (x6_1 + 1))) = some r := by rw [if_pos rfl] at H; exact H
                      clear H
                      have H := H1
                      clear H1
                      have H' := Aside0.mk H
                      clear H
                      have p5 : 0 ≤ (x6_1 : Int) := of_decide_eq_true (by first | (with_reducible assumption) | assumption)
                      have q5 : x6_1 < (a0.size : Int) := of_decide_eq_true (by first | (with_reducible assumption) | assumption)
                      have hx5 := bt_at a0 x6_1
                      replace p5 := eq_true p5
                      replace q5 := eq_true q5
                      go_wp2_with (first | ((with_reducible refine gate_callee (f := 37) rfl ?_); refine goesL_ (some 12) rfl rfl Tryd.func37 (by kernel_rfl) rfl #[.int .u8 (bt a0 x6_1)] rfl (by (try simp only [List.map_toArray, List.map_cons, List.map_nil]); first | done | rfl | (simp only [List.length_drop, List.length_take]; rfl)) ?_; (with_reducible refine (fold_Letter.calls (bt a0 x6_1) false _ A6.out).mono ?_); rintro e w' ⟨rfl, ⟨nd, rfl⟩⟩; refine ⟨_, rfl, ?_⟩; have p8 : 0 ≤ (x6_1 : Int) := of_decide_eq_true (by first | (with_reducible assumption) | assumption); have q8 : x6_1 < (a0.size : Int) := of_decide_eq_true (by first | (with_reducible assumption) | assumption); have hx8 := bt_at a0 x6_1; replace p8 := eq_true p8; replace q8 := eq_true q8) | (go_at_call 38; (with_reducible refine (strings_Contains.calls (⟨#[45, 35, 61, 95, 47, 64, 46, 37]⟩ : ByteArray) (a0.extract (x6_1 : Int).toNat ((wrap64 (x6_1 + 1)) : Int).toNat) true _ A13.out).mono ?_); rintro e w' ⟨rfl, ⟨nd, rfl⟩⟩))
                      go_roundg k1
                      case measure => have := HK1.out; omega
                      case rel => exact ⟨(wrap64 (x6_1 + 1)), (by first | rfl | (simp; done) | (simp [*]; done)), H', ⟨by have := HK1.out; omega⟩, by repeat (first | exact Drawn0.refl _ | apply Drawn0.step)⟩
                    · replace c14 := Bool.eq_false_iff.mpr c14
                      subst c14
                      have H1 : (some false) = some r := by rw [if_neg (show ¬ (false = true) by decide)] at H; exact H
                      clear H
                      have H := H1
                      clear H1
                      obtain rfl := Option.some.inj H
                      have p5 : 0 ≤ (x6_1 : Int) := of_decide_eq_true (by first | (with_reducible assumption) | assumption)
                      have q5 : x6_1 < (a0.size : Int) := of_decide_eq_true (by first | (with_reducible assumption) | assumption)
                      have hx5 := bt_at a0 x6_1
                      replace p5 := eq_true p5
                      replace q5 := eq_true q5
                      go_wp2_with (first | ((with_reducible refine gate_callee (f := 37) rfl ?_); refine goesL_ (some 12) rfl rfl Tryd.func37 (by kernel_rfl) rfl #[.int .u8 (bt a0 x6_1)] rfl (by (try simp only [List.map_toArray, List.map_cons, List.map_nil]); first | done | rfl | (simp only [List.length_drop, List.length_take]; rfl)) ?_; (with_reducible refine (fold_Letter.calls (bt a0 x6_1) false _ A6.out).mono ?_); rintro e w' ⟨rfl, ⟨nd, rfl⟩⟩; refine ⟨_, rfl, ?_⟩; have p8 : 0 ≤ (x6_1 : Int) := of_decide_eq_true (by first | (with_reducible assumption) | assumption); have q8 : x6_1 < (a0.size : Int) := of_decide_eq_true (by first | (with_reducible assumption) | assumption); have hx8 := bt_at a0 x6_1; replace p8 := eq_true p8; replace q8 := eq_true q8) | (go_at_call 38; (with_reducible refine (strings_Contains.calls (⟨#[45, 35, 61, 95, 47, 64, 46, 37]⟩ : ByteArray) (a0.extract (x6_1 : Int).toNat ((wrap64 (x6_1 + 1)) : Int).toNat) false _ A13.out).mono ?_); rintro e w' ⟨rfl, ⟨nd, rfl⟩⟩))
                      go_ret
                      exact ⟨by first | rfl | (simp; done) | (simp [*]; done) | (simp; generalize ByteArray.toList _ = l_; cases l_ <;> rfl), by repeat (first | exact Drawn0.refl _ | apply Drawn0.step)⟩
                  · rw [if_neg c12] at H
                    exact absurd H (by simp)
                · rw [if_neg c11] at H
                  exact absurd H (by simp)
              · rw [if_neg c9] at H
                have c9b0 : decide ((bt a0 x6_1) < 48) = false := decide_eq_false c9
                clear c9
                by_cases c16 : (bt a0 x6_1) > 57
                · rw [if_pos c16] at H
                  have c16b0 : decide (57 < (bt a0 x6_1)) = true := decide_eq_true c16
                  clear c16
                  have c17b0 := eq_true (of_decide_eq_true (by first | (with_reducible assumption) | assumption) : 0 ≤ x6_1)
                  by_cases c18 : x6_1 ≤ (wrap64 (x6_1 + 1))
                  · rw [if_pos c18] at H
                    have c18b0 := eq_true c18
                    have c18b1 : decide (x6_1 ≤ (wrap64 (x6_1 + 1))) = true := decide_eq_true c18
                    by_cases c19 : (wrap64 (x6_1 + 1)) ≤ (a0.size : Int)
                    · rw [if_pos c19] at H
                      have c19b0 := eq_true c19
                      have c19b1 : decide ((wrap64 (x6_1 + 1)) ≤ (a0.size : Int)) = true := decide_eq_true c19
                      replace H := Option.bind_eq_some_iff.mp H
                      obtain ⟨t201, A200, H⟩ := H
                      replace H : (if t201 = true then (header_may.l0 k1 a0 (a0.size : Int) (wrap64 (x6_1 + 1))) else (some false)) = some r := H
                      have A20 := Aside0.mk A200
                      clear A200
                      by_cases c21 : t201 = true
                      · subst c21
                        have H1 : (header_may.l0 k1 a0 (a0.size : Int) (wrap64 (x6_1 + 1))) = some r := by rw [if_pos rfl] at H; exact H
                        clear H
                        have H := H1
                        clear H1
                        have H' := Aside0.mk H
                        clear H
                        have p5 : 0 ≤ (x6_1 : Int) := of_decide_eq_true (by first | (with_reducible assumption) | assumption)
                        have q5 : x6_1 < (a0.size : Int) := of_decide_eq_true (by first | (with_reducible assumption) | assumption)
                        have hx5 := bt_at a0 x6_1
                        replace p5 := eq_true p5
                        replace q5 := eq_true q5
                        go_wp2_with (first | ((with_reducible refine gate_callee (f := 37) rfl ?_); refine goesL_ (some 12) rfl rfl Tryd.func37 (by kernel_rfl) rfl #[.int .u8 (bt a0 x6_1)] rfl (by (try simp only [List.map_toArray, List.map_cons, List.map_nil]); first | done | rfl | (simp only [List.length_drop, List.length_take]; rfl)) ?_; (with_reducible refine (fold_Letter.calls (bt a0 x6_1) false _ A6.out).mono ?_); rintro e w' ⟨rfl, ⟨nd, rfl⟩⟩; refine ⟨_, rfl, ?_⟩; have p8 : 0 ≤ (x6_1 : Int) := of_decide_eq_true (by first | (with_reducible assumption) | assumption); have q8 : x6_1 < (a0.size : Int) := of_decide_eq_true (by first | (with_reducible assumption) | assumption); have hx8 := bt_at a0 x6_1; replace p8 := eq_true p8; replace q8 := eq_true q8; have p15 : 0 ≤ (x6_1 : Int) := of_decide_eq_true (by first | (with_reducible assumption) | assumption); have q15 : x6_1 < (a0.size : Int) := of_decide_eq_true (by first | (with_reducible assumption) | assumption); have hx15 := bt_at a0 x6_1; replace p15 := eq_true p15; replace q15 := eq_true q15) | (go_at_call 38; (with_reducible refine (strings_Contains.calls (⟨#[45, 35, 61, 95, 47, 64, 46, 37]⟩ : ByteArray) (a0.extract (x6_1 : Int).toNat ((wrap64 (x6_1 + 1)) : Int).toNat) true _ A20.out).mono ?_); rintro e w' ⟨rfl, ⟨nd, rfl⟩⟩))
                        go_roundg k1
                        case measure => have := HK1.out; omega
                        case rel => exact ⟨(wrap64 (x6_1 + 1)), (by first | rfl | (simp; done) | (simp [*]; done)), H', ⟨by have := HK1.out; omega⟩, by repeat (first | exact Drawn0.refl _ | apply Drawn0.step)⟩
                      · replace c21 := Bool.eq_false_iff.mpr c21
                        subst c21
                        have H1 : (some false) = some r := by rw [if_neg (show ¬ (false = true) by decide)] at H; exact H
                        clear H
                        have H := H1
                        clear H1
                        obtain rfl := Option.some.inj H
                        have p5 : 0 ≤ (x6_1 : Int) := of_decide_eq_true (by first | (with_reducible assumption) | assumption)
                        have q5 : x6_1 < (a0.size : Int) := of_decide_eq_true (by first | (with_reducible assumption) | assumption)
                        have hx5 := bt_at a0 x6_1
                        replace p5 := eq_true p5
                        replace q5 := eq_true q5
                        go_wp2_with (first | ((with_reducible refine gate_callee (f := 37) rfl ?_); refine goesL_ (some 12) rfl rfl Tryd.func37 (by kernel_rfl) rfl #[.int .u8 (bt a0 x6_1)] rfl (by (try simp only [List.map_toArray, List.map_cons, List.map_nil]); first | done | rfl | (simp only [List.length_drop, List.length_take]; rfl)) ?_; (with_reducible refine (fold_Letter.calls (bt a0 x6_1) false _ A6.out).mono ?_); rintro e w' ⟨rfl, ⟨nd, rfl⟩⟩; refine ⟨_, rfl, ?_⟩; have p8 : 0 ≤ (x6_1 : Int) := of_decide_eq_true (by first | (with_reducible assumption) | assumption); have q8 : x6_1 < (a0.size : Int) := of_decide_eq_true (by first | (with_reducible assumption) | assumption); have hx8 := bt_at a0 x6_1; replace p8 := eq_true p8; replace q8 := eq_true q8; have p15 : 0 ≤ (x6_1 : Int) := of_decide_eq_true (by first | (with_reducible assumption) | assumption); have q15 : x6_1 < (a0.size : Int) := of_decide_eq_true (by first | (with_reducible assumption) | assumption); have hx15 := bt_at a0 x6_1; replace p15 := eq_true p15; replace q15 := eq_true q15) | (go_at_call 38; (with_reducible refine (strings_Contains.calls (⟨#[45, 35, 61, 95, 47, 64, 46, 37]⟩ : ByteArray) (a0.extract (x6_1 : Int).toNat ((wrap64 (x6_1 + 1)) : Int).toNat) false _ A20.out).mono ?_); rintro e w' ⟨rfl, ⟨nd, rfl⟩⟩))
                        go_ret
                        exact ⟨by first | rfl | (simp; done) | (simp [*]; done) | (simp; generalize ByteArray.toList _ = l_; cases l_ <;> rfl), by repeat (first | exact Drawn0.refl _ | apply Drawn0.step)⟩
                    · rw [if_neg c19] at H
                      exact absurd H (by simp)
                  · rw [if_neg c18] at H
                    exact absurd H (by simp)
                · rw [if_neg c16] at H
                  have c16b0 : decide (57 < (bt a0 x6_1)) = false := decide_eq_false c16
                  clear c16
                  have H' := Aside0.mk H
                  clear H
                  have p5 : 0 ≤ (x6_1 : Int) := of_decide_eq_true (by first | (with_reducible assumption) | assumption)
                  have q5 : x6_1 < (a0.size : Int) := of_decide_eq_true (by first | (with_reducible assumption) | assumption)
                  have hx5 := bt_at a0 x6_1
                  replace p5 := eq_true p5
                  replace q5 := eq_true q5
                  go_wp2_with (first | ((with_reducible refine gate_callee (f := 37) rfl ?_); refine goesL_ (some 12) rfl rfl Tryd.func37 (by kernel_rfl) rfl #[.int .u8 (bt a0 x6_1)] rfl (by (try simp only [List.map_toArray, List.map_cons, List.map_nil]); first | done | rfl | (simp only [List.length_drop, List.length_take]; rfl)) ?_; (with_reducible refine (fold_Letter.calls (bt a0 x6_1) false _ A6.out).mono ?_); rintro e w' ⟨rfl, ⟨nd, rfl⟩⟩; refine ⟨_, rfl, ?_⟩; have p8 : 0 ≤ (x6_1 : Int) := of_decide_eq_true (by first | (with_reducible assumption) | assumption); have q8 : x6_1 < (a0.size : Int) := of_decide_eq_true (by first | (with_reducible assumption) | assumption); have hx8 := bt_at a0 x6_1; replace p8 := eq_true p8; replace q8 := eq_true q8; have p15 : 0 ≤ (x6_1 : Int) := of_decide_eq_true (by first | (with_reducible assumption) | assumption); have q15 : x6_1 < (a0.size : Int) := of_decide_eq_true (by first | (with_reducible assumption) | assumption); have hx15 := bt_at a0 x6_1; replace p15 := eq_true p15; replace q15 := eq_true q15))
                  go_roundg k1
                  case measure => have := HK1.out; omega
                  case rel => exact ⟨(wrap64 (x6_1 + 1)), (by first | rfl | (simp; done) | (simp [*]; done)), H', ⟨by have := HK1.out; omega⟩, by repeat (first | exact Drawn0.refl _ | apply Drawn0.step)⟩
          · rw [if_neg c4] at H
            exact absurd H (by simp)
        · rw [if_neg c3] at H
          exact absurd H (by simp)
      · rw [if_neg c2] at H
        have c2b0 : decide (x6_1 < (a0.size : Int)) = false := decide_eq_false c2
        clear c2
        obtain rfl := Option.some.inj H
        go_wp2
        go_ret
        exact ⟨by first | rfl | (simp; done) | (simp [*]; done) | (simp; generalize ByteArray.toList _ = l_; cases l_ <;> rfl), by repeat (first | exact Drawn0.refl _ | apply Drawn0.step)⟩

/-! ### header_Parse: function 13 -/
def header_Parse.l0 : Nat → List ByteArray → Int → Int → Bool → Bool → List ByteArray → Bool → Bool → Option (Bool × Bool × List ByteArray × Bool × Bool)
  | 0, _, _, _, _, _, _, _, _ => none
  | k + 1, x34, x35, x36, x212000, x212001, x212002, x212003, x212004 => if x36 < x35 then (if 0 ≤ x36 then (if x36 < (x34.length : Int) then (if (rdOf ByteArray.empty x34 x36).toList = ([42] : List UInt8) then (header_Parse.l0 k x34 x35 (wrap64 (x36 + 1)) x212000 x212001 x212002 true x212004) else (if (rdOf ByteArray.empty x34 x36).toList = ([39, 97, 108, 108, 111, 119, 45, 100, 117, 112, 108, 105, 99, 97, 116, 101, 115, 39] : List UInt8) then (header_Parse.l0 k x34 x35 (wrap64 (x36 + 1)) x212000 x212001 x212002 x212003 true) else ((header_may.f k (rdOf ByteArray.empty x34 x36)).bind fun t217 => (if t217 = true then ((slices_Contains_string_string.f k x212002 (rdOf ByteArray.empty x34 x36)).bind fun t218 => (if t218 = true then (header_Parse.l0 k x34 x35 (wrap64 (x36 + 1)) x212000 x212001 x212002 x212003 x212004) else (if x212002.length < 8796093022208 then (header_Parse.l0 k x34 x35 (wrap64 (x36 + 1)) x212000 x212001 (x212002 ++ [rdOf ByteArray.empty x34 x36]) x212003 x212004) else (none)))) else (header_Parse.l0 k x34 x35 (wrap64 (x36 + 1)) x212000 x212001 x212002 x212003 x212004))))) else (none)) else (none)) else (some (x212000, x212001, x212002, x212003, x212004))
def header_Parse.f (k : Nat) (a0 : ByteArray) (a1 : Bool) : Option (Bool × Bool × List ByteArray × Bool × Bool) := (header_Parts.f k a0).bind fun t203 => ((header_named.f k t203 (⟨#[114, 101, 113, 117, 105, 114, 101, 45, 116, 114, 117, 115, 116, 101, 100, 45, 116, 121, 112, 101, 115, 45, 102, 111, 114]⟩ : ByteArray)).bind fun bt206 => ((slices_Contains_string_string.f k bt206.1 (⟨#[39, 115, 99, 114, 105, 112, 116, 39]⟩ : ByteArray)).bind fun t210 => ((header_named.f k t203 (⟨#[116, 114, 117, 115, 116, 101, 100, 45, 116, 121, 112, 101, 115]⟩ : ByteArray)).bind fun bt212 => (if bt212.2 = true then (header_Parse.l0 k bt212.1 (bt212.1.length : Int) 0 t210 a1 ([] : List ByteArray) false false) else (some (t210, a1, ([] : List ByteArray), true, true))))))
theorem header_Parse.mono_l : ∀ k, (∀ y0 y1 y2 y3 y4 y5 y6 y7, LeO (header_Parse.l0 k y0 y1 y2 y3 y4 y5 y6 y7) (header_Parse.l0 (k + 1) y0 y1 y2 y3 y4 y5 y6 y7))
  | 0 => fun _ _ _ _ _ _ _ _ r h => by simp [header_Parse.l0] at h
  | k + 1 => by
    have ih0 := header_Parse.mono_l k
    · intro y0 y1 y2 y3 y4 y5 y6 y7
      unfold header_Parse.l0
      repeat' first
      | (with_reducible exact ih0 _ _ _ _ _ _ _ _)
      | (with_reducible exact header_Parts.mono _ _)
      | (with_reducible exact header_may.mono _ _)
      | (with_reducible exact header_named.mono _ _ _)
      | (with_reducible exact slices_Contains_string_string.mono _ _ _)
      | (with_reducible exact LeO.refl _)
      | (with_reducible exact LeO.none _)
      | (with_reducible refine LeO.ite ?_ ?_)
      | (with_reducible refine LeO.bind ?_ (fun _ => ?_))
      | exact ih0 _ _ _ _ _ _ _ _
      | exact header_Parts.mono _ _
      | exact header_may.mono _ _
      | exact header_named.mono _ _ _
      | exact slices_Contains_string_string.mono _ _ _
      | exact LeO.none _
      | refine LeO.ite ?_ ?_
      | refine LeO.bind ?_ (fun _ => ?_)
theorem header_Parse.mono : ∀ a0 a1 k, LeO (header_Parse.f k a0 a1) (header_Parse.f (k + 1) a0 a1) := by
  intro a0 a1 k
  have ih0 := header_Parse.mono_l k
  unfold header_Parse.f
  repeat' first
      | (with_reducible exact ih0 _ _ _ _ _ _ _ _)
      | (with_reducible exact header_Parts.mono _ _)
      | (with_reducible exact header_may.mono _ _)
      | (with_reducible exact header_named.mono _ _ _)
      | (with_reducible exact slices_Contains_string_string.mono _ _ _)
      | (with_reducible exact LeO.refl _)
      | (with_reducible exact LeO.none _)
      | (with_reducible refine LeO.ite ?_ ?_)
      | (with_reducible refine LeO.bind ?_ (fun _ => ?_))
      | exact ih0 _ _ _ _ _ _ _ _
      | exact header_Parts.mono _ _
      | exact header_may.mono _ _
      | exact header_named.mono _ _ _
      | exact slices_Contains_string_string.mono _ _ _
      | exact LeO.none _
      | refine LeO.ite ?_ ?_
      | refine LeO.bind ?_ (fun _ => ?_)
set_option maxHeartbeats 8000000 in
set_option maxRecDepth 100000 in
theorem header_Parse.calls (k : Nat) (a0 : ByteArray) (a1 : Bool) (r1 : Bool) (r2 : Bool) (r3 : List ByteArray) (r4 : Bool) (r5 : Bool) (w : World) (h : header_Parse.f k a0 a1 = some (r1, r2, r3, r4, r5)) :
    Calls Tryd.prog 13 #[.string a0, .bool a1] w fun e w' => ∃ v2_ : Value, e = .returned (.agg #[.bool r1, .bool r2, v2_, .bool r4, .bool r5]) ∧ Kd.R Kd.string 9 w' w.heap.size (fun _ => True) v2_ r3 ∧ Below w.heap.size w w' := by
  have hu26 := Tryd.underlying26
  have HB := Aside0.mk (Below.refl w.heap.size w)
  have H : ((header_Parts.f k a0).bind fun t203 => ((header_named.f k t203 (⟨#[114, 101, 113, 117, 105, 114, 101, 45, 116, 114, 117, 115, 116, 101, 100, 45, 116, 121, 112, 101, 115, 45, 102, 111, 114]⟩ : ByteArray)).bind fun bt206 => ((slices_Contains_string_string.f k bt206.1 (⟨#[39, 115, 99, 114, 105, 112, 116, 39]⟩ : ByteArray)).bind fun t210 => ((header_named.f k t203 (⟨#[116, 114, 117, 115, 116, 101, 100, 45, 116, 121, 112, 101, 115]⟩ : ByteArray)).bind fun bt212 => (if bt212.2 = true then (header_Parse.l0 k bt212.1 (bt212.1.length : Int) 0 t210 a1 ([] : List ByteArray) false false) else (some (t210, a1, ([] : List ByteArray), true, true))))))) = some (r1, r2, r3, r4, r5) := h
  clear h
  replace H := Option.bind_eq_some_iff.mp H
  obtain ⟨t203, A30, H⟩ := H
  replace H : ((header_named.f k t203 (⟨#[114, 101, 113, 117, 105, 114, 101, 45, 116, 114, 117, 115, 116, 101, 100, 45, 116, 121, 112, 101, 115, 45, 102, 111, 114]⟩ : ByteArray)).bind fun bt206 => ((slices_Contains_string_string.f k bt206.1 (⟨#[39, 115, 99, 114, 105, 112, 116, 39]⟩ : ByteArray)).bind fun t210 => ((header_named.f k t203 (⟨#[116, 114, 117, 115, 116, 101, 100, 45, 116, 121, 112, 101, 115]⟩ : ByteArray)).bind fun bt212 => (if bt212.2 = true then (header_Parse.l0 k bt212.1 (bt212.1.length : Int) 0 t210 a1 ([] : List ByteArray) false false) else (some (t210, a1, ([] : List ByteArray), true, true)))))) = some (r1, r2, r3, r4, r5) := H
  have A3 := Aside0.mk A30
  clear A30
  replace H := Option.bind_eq_some_iff.mp H
  obtain ⟨⟨t206, t209⟩, A40, H⟩ := H
  replace H : ((slices_Contains_string_string.f k t206 (⟨#[39, 115, 99, 114, 105, 112, 116, 39]⟩ : ByteArray)).bind fun t210 => ((header_named.f k t203 (⟨#[116, 114, 117, 115, 116, 101, 100, 45, 116, 121, 112, 101, 115]⟩ : ByteArray)).bind fun bt212 => (if bt212.2 = true then (header_Parse.l0 k bt212.1 (bt212.1.length : Int) 0 t210 a1 ([] : List ByteArray) false false) else (some (t210, a1, ([] : List ByteArray), true, true))))) = some (r1, r2, r3, r4, r5) := H
  have A4 := Aside0.mk A40
  clear A40
  replace H := Option.bind_eq_some_iff.mp H
  obtain ⟨t210, A50, H⟩ := H
  replace H : ((header_named.f k t203 (⟨#[116, 114, 117, 115, 116, 101, 100, 45, 116, 121, 112, 101, 115]⟩ : ByteArray)).bind fun bt212 => (if bt212.2 = true then (header_Parse.l0 k bt212.1 (bt212.1.length : Int) 0 t210 a1 ([] : List ByteArray) false false) else (some (t210, a1, ([] : List ByteArray), true, true)))) = some (r1, r2, r3, r4, r5) := H
  have A5 := Aside0.mk A50
  clear A50
  replace H := Option.bind_eq_some_iff.mp H
  obtain ⟨⟨t212, t215⟩, A60, H⟩ := H
  replace H : (if t215 = true then (header_Parse.l0 k t212 (t212.length : Int) 0 t210 a1 ([] : List ByteArray) false false) else (some (t210, a1, ([] : List ByteArray), true, true))) = some (r1, r2, r3, r4, r5) := H
  have A6 := Aside0.mk A60
  clear A60
  by_cases c7 : t215 = true
  · subst c7
    have H1 : (header_Parse.l0 k t212 (t212.length : Int) 0 t210 a1 ([] : List ByteArray) false false) = some (r1, r2, r3, r4, r5) := by rw [if_pos rfl] at H; exact H
    clear H
    have H := H1
    clear H1
    have H' := Aside0.mk H
    clear H
    go_enter Tryd.func13, Tryd.ntmps13
    go_wp2_with (first | ((with_reducible refine gate_dst (N := 4) rfl ?_); refine box_event ?hg (N := 4) ?hd (cs := #[.bool false, .bool false, .slice none 0 0, .bool false, .bool false]) (t := 26) ?hr ?_; (case hd => rfl); (case hg => rfl); (case hr => first | (go_simp; done) | (go_simp; rfl)); intro gb202 hg w8 hbox hb; have n0_ := Aside0.mk (below_step (by repeat (first | (with_reducible first | exact HB.out | apply below_alloc | apply pw_below_drewN | apply below_drew1) | exact HB.out)) hb); have n1_ := Aside0.mk (hbox); have n2_ := Aside0.mk ((by rw [hg]; exact (below_size (by repeat (first | (with_reducible first | exact HB.out | apply below_alloc | apply pw_below_drewN | apply below_drew1) | exact HB.out))) : w.heap.size ≤ gb202)); have n3_ := Aside0.mk ((by rw [hg]; exact (below_size (by repeat (first | (with_reducible first | exact HB.out | apply below_alloc | apply pw_below_drewN | apply below_drew1) | exact HB.out))) : w.heap.size ≤ gb202)); clear HB; have HB := n0_; have BK202 := n1_; have GW202 := n2_; have GE202 := n3_; clear n0_ n1_ n2_ n3_; clear hb hbox hg) | ((with_reducible refine gate_callee (f := 12) rfl ?_); refine goesL_ (some 14) rfl rfl Tryd.func12 (by kernel_rfl) rfl #[.string a0] rfl (by (try simp only [List.map_toArray, List.map_cons, List.map_nil]); first | done | rfl | (simp only [List.length_drop, List.length_take]; rfl)) ?_; (with_reducible refine (header_Parts.calls k a0 t203 _ A3.out).mono ?_); rintro e w9 ⟨v204, rfl, ho0, hb⟩; refine ⟨_, rfl, ?_⟩; have n0_ := Aside0.mk (Kd.S_lower ho0 (below_size (by repeat (first | (with_reducible first | exact HB.out | apply below_alloc | apply pw_below_drewN | apply below_drew1 | refine below_set ?_ GE202.out) | exact HB.out)))); have n1_ := Aside0.mk (blk_below (g := gb202) (o := .cells #[.bool false, .bool false, .slice none 0 0, .bool false, .bool false] 26 (0, 0)) (by (with_reducible repeat (first | refine blk_drewN ?_ _ | refine blk_drew ?_ | refine blk_alloc ?_ _)); exact BK202.out) hb); have n2_ := Aside0.mk (below_step (by repeat (first | (with_reducible first | exact HB.out | apply below_alloc | apply pw_below_drewN | apply below_drew1 | refine below_set ?_ GE202.out) | exact HB.out)) hb); clear BK202; clear HB; have HO205 := n0_; have BK202 := n1_; have HB := n2_; clear n0_ n1_ n2_; (try clear hb); (try clear hb2); (try clear hk); (try clear hi); (try clear ho0); obtain ⟨Ao10, co10, eo10⟩ := Kd.S_slice HO205.out; subst eo10) | ((with_reducible refine gate_callee (f := 27) rfl ?_); refine goesL_ (some 17) rfl rfl Tryd.func27 (by kernel_rfl) rfl #[.slice Ao10 t203.length co10, .string (⟨#[114, 101, 113, 117, 105, 114, 101, 45, 116, 114, 117, 115, 116, 101, 100, 45, 116, 121, 112, 101, 115, 45, 102, 111, 114]⟩ : ByteArray)] rfl (by (try simp only [List.map_toArray, List.map_cons, List.map_nil]); first | done | rfl | (simp only [List.length_drop, List.length_take]; rfl)) ?_; (with_reducible refine (header_named.calls k (fun k_ => (True ∧ k_ ≠ gb202)) _ _ t203 (⟨#[114, 101, 113, 117, 105, 114, 101, 45, 116, 114, 117, 115, 116, 101, 100, 45, 116, 121, 112, 101, 115, 45, 102, 111, 114]⟩ : ByteArray) t206 t209 _ ?side1 A4.out).mono ?_); (case side1 => exact Kd.S_V (Kd.S_types (HO205.out) BK202.out (by decide))); rintro e w11 ⟨v207, rfl, ho0, hb⟩; refine ⟨_, rfl, ?_⟩; have n0_ := Aside0.mk (Kd.S_below (by (with_reducible repeat (first | apply Kd.S_alloc | apply Kd.S_drewN | apply Kd.S_drew)); exact HO205.out) hb); have n1_ := Aside0.mk (Kd.V_lower (Kd.V_mono (ok' := fun k_ => k_ ≠ gb202) ho0 (fun k_ hk_ => Or.elim hk_ (fun hs_ => hs_.2) (fun hn_ => (Kd.freshB (g := gb202) (o := .cells #[.bool false, .bool false, .slice none 0 0, .bool false, .bool false] 26 (0, 0)) (by (with_reducible repeat (first | refine blk_drewN ?_ _ | refine blk_drew ?_ | refine blk_alloc ?_ _)); exact BK202.out) k_ hn_)))) (below_size (by repeat (first | (with_reducible first | exact HB.out | apply below_alloc | apply pw_below_drewN | apply below_drew1 | refine below_set ?_ GE202.out) | exact HB.out)))); have n2_ := Aside0.mk (blk_below (g := gb202) (o := .cells #[.bool false, .bool false, .slice none 0 0, .bool false, .bool false] 26 (0, 0)) (by (with_reducible repeat (first | refine blk_drewN ?_ _ | refine blk_drew ?_ | refine blk_alloc ?_ _)); exact BK202.out) hb); have n3_ := Aside0.mk (below_step (by repeat (first | (with_reducible first | exact HB.out | apply below_alloc | apply pw_below_drewN | apply below_drew1 | refine below_set ?_ GE202.out) | exact HB.out)) hb); clear HO205; clear BK202; clear HB; have HO205 := n0_; have HO208 := n1_; have BK202 := n2_; have HB := n3_; clear n0_ n1_ n2_ n3_; (try clear hb); (try clear hb2); (try clear hk); (try clear hi); (try clear ho0); obtain ⟨Ao12, co12, eo12⟩ := Kd.V_slice HO208.out; subst eo12) | ((with_reducible refine gate_callee (f := 28) rfl ?_); refine goesL_ (some 21) rfl rfl Tryd.func28 (by kernel_rfl) rfl #[.slice Ao12 t206.length co12, .string (⟨#[39, 115, 99, 114, 105, 112, 116, 39]⟩ : ByteArray)] rfl (by (try simp only [List.map_toArray, List.map_cons, List.map_nil]); first | done | rfl | (simp only [List.length_drop, List.length_take]; rfl)) ?_; (with_reducible refine (slices_Contains_string_string.calls k _ _ t206 (⟨#[39, 115, 99, 114, 105, 112, 116, 39]⟩ : ByteArray) t210 _ ?side1 ?side2 A5.out).mono ?_); (case side1 => repeat (first | exact (Kd.V_reads' HO208.out).2.2 | (with_reducible refine Kd.C_alloc ?_ _) | (with_reducible refine Kd.C_drewN ?_ _) | (with_reducible refine Kd.C_drew ?_))); (case side2 => exact (Kd.V_reads' HO208.out).2.1); rintro e w' ⟨rfl, ⟨nd, rfl⟩⟩; refine ⟨_, rfl, ?_⟩; (try (rw [drewN_self w11]; generalize hq_ : World.drewN w11 _ = w11; have n0_ : Aside0 (Kd.S (Kd.slice 9 Kd.string) 24 w11 w.heap.size (fun _ => True) (.slice Ao10 t203.length co10) t203) := ⟨by rw [← hq_]; exact (by (with_reducible repeat (first | apply Kd.S_alloc | apply Kd.S_drewN | apply Kd.S_drew)); exact HO205.out)⟩; have n1_ : Aside0 (Kd.V Kd.string 9 w11 w.heap.size (fun k_ => k_ ≠ gb202) (.slice Ao12 t206.length co12) t206) := ⟨by rw [← hq_]; exact (by (with_reducible repeat (first | apply Kd.V_alloc | apply Kd.V_drewN | apply Kd.V_drew)); exact HO208.out)⟩; have n2_ : Aside0 (w11.heap[gb202]? = some (.cells #[.bool false, .bool false, .slice none 0 0, .bool false, .bool false] 26 (0, 0))) := ⟨by rw [← hq_]; exact (by (with_reducible repeat (first | refine blk_drewN ?_ _ | refine blk_drew ?_ | refine blk_alloc ?_ _)); exact BK202.out)⟩; have n3_ : Aside0 (Below w.heap.size w w11) := ⟨by rw [← hq_]; exact (by repeat (first | (with_reducible first | exact HB.out | apply below_alloc | apply pw_below_drewN | apply below_drew1 | refine below_set ?_ GE202.out) | exact HB.out))⟩; clear HO205 HO208 BK202 HB hq_; have HO205 := n0_; have HO208 := n1_; have BK202 := n2_; have HB := n3_; clear n0_ n1_ n2_ n3_))) | ((with_reducible refine gate_dst (N := 8) rfl ?_); refine box_event ?hg (N := 8) ?hd (cs := #[.bool false, .bool false, .slice none 0 0, .bool false, .bool false]) (t := 26) ?hr ?_; (case hd => rfl); (case hg => rfl); (case hr => first | (go_simp; done) | (go_simp; rfl)); intro gb211 hg w13 hbox hb; have n0_ := Aside0.mk (Kd.S_below (by (with_reducible repeat (first | apply Kd.S_alloc | apply Kd.S_drewN | apply Kd.S_drew)); exact HO205.out) hb); have n1_ := Aside0.mk (Kd.V_below (Kd.V_elderB (by (with_reducible repeat (first | apply Kd.V_alloc | apply Kd.V_drewN | apply Kd.V_drew)); exact HO208.out) gb211 (Nat.le_of_eq hg.symm)) hb); have n2_ := Aside0.mk (blk_below (g := gb202) (o := .cells #[.bool false, .bool false, .slice none 0 0, .bool false, .bool false] 26 (0, 0)) (by (with_reducible repeat (first | refine blk_drewN ?_ _ | refine blk_drew ?_ | refine blk_alloc ?_ _)); exact BK202.out) hb); have n3_ := Aside0.mk (below_step (by repeat (first | (with_reducible first | exact HB.out | apply below_alloc | apply pw_below_drewN | apply below_drew1 | refine below_set ?_ GE202.out) | exact HB.out)) hb); have n4_ := Aside0.mk (hbox); have n5_ := Aside0.mk ((by rw [hg]; exact (below_size (by repeat (first | (with_reducible first | exact HB.out | apply below_alloc | apply pw_below_drewN | apply below_drew1 | refine below_set ?_ GE202.out) | exact HB.out))) : w.heap.size ≤ gb211)); have n6_ := Aside0.mk ((by rw [hg]; exact (below_size (by repeat (first | (with_reducible first | exact HB.out | apply below_alloc | apply pw_below_drewN | apply below_drew1 | refine below_set ?_ GE202.out) | exact HB.out))) : w.heap.size ≤ gb211)); have n7_ := Aside0.mk ((by rw [hg]; exact Nat.ne_of_lt (blk_lt (g := gb202) (o := .cells #[.bool false, .bool false, .slice none 0 0, .bool false, .bool false] 26 (0, 0)) (by (with_reducible repeat (first | refine blk_drewN ?_ _ | refine blk_drew ?_ | refine blk_alloc ?_ _)); exact BK202.out)) : gb202 ≠ gb211)); have n8_ := Aside0.mk ((by rw [hg]; exact Nat.ne_of_gt (blk_lt (g := gb202) (o := .cells #[.bool false, .bool false, .slice none 0 0, .bool false, .bool false] 26 (0, 0)) (by (with_reducible repeat (first | refine blk_drewN ?_ _ | refine blk_drew ?_ | refine blk_alloc ?_ _)); exact BK202.out)) : gb211 ≠ gb202)); clear HO205; clear HO208; clear BK202; clear HB; have HO205 := n0_; have HO208 := n1_; have BK202 := n2_; have HB := n3_; have BK211 := n4_; have GW211 := n5_; have GE211 := n6_; have NB202_211 := n7_; have NB211_202 := n8_; clear n0_ n1_ n2_ n3_ n4_ n5_ n6_ n7_ n8_; clear hb hbox hg; have hnb14 := NB211_202.out; have hnc14 := NB202_211.out; have hcz15_0 : w13.cell? ⟨gb211, 0, none⟩ = some (.bool false) := (blk_cell BK211.out 0).trans rfl; have hcz15_1 : w13.cell? ⟨gb211, 1, none⟩ = some (.bool false) := (blk_cell BK211.out 1).trans rfl; have hcz15_2 : w13.cell? ⟨gb211, 2, none⟩ = some (.slice none 0 0) := (blk_cell BK211.out 2).trans rfl; have hcz15_3 : w13.cell? ⟨gb211, 3, none⟩ = some (.bool false) := (blk_cell BK211.out 3).trans rfl; have hcz15_4 : w13.cell? ⟨gb211, 4, none⟩ = some (.bool false) := (blk_cell BK211.out 4).trans rfl; have hfz15_0 := blk_frozen BK211.out 0; have hfz15_1 := blk_frozen BK211.out 1; have hfz15_2 := blk_frozen BK211.out 2; have hfz15_3 := blk_frozen BK211.out 3; have hfz15_4 := blk_frozen BK211.out 4) | ((with_reducible refine gate_store (t := 26) (p := 8) rfl ?_); refine store_event (t := 26) (p := 8) (v := ?vo_w16) (w1 := (((((w13.setCell ⟨gb211, 0, none⟩ (.bool t210)).setCell ⟨gb211, 1, none⟩ (.bool a1)).setCell ⟨gb211, 2, none⟩ (.slice none 0 0)).setCell ⟨gb211, 3, none⟩ (.bool false)).setCell ⟨gb211, 4, none⟩ (.bool false))) ?hg ?ho ?hn ?hr ?_; (case ho => rfl); (case hg => rfl); (case hn => rfl); (case hr => first | (go_simp; done) | (go_simp; rfl)); intro w16 hw; have n0_ : Aside0 (Kd.S (Kd.slice 9 Kd.string) 24 w16 w.heap.size (fun _ => True) (.slice Ao10 t203.length co10) t203) := ⟨(by rw [hw]; exact (by (with_reducible repeat (first | apply Kd.S_alloc | apply Kd.S_drewN | apply Kd.S_drew)); exact Kd.S_mono (Kd.S_far (p := ⟨gb211, 4, none⟩) (Kd.S_far (p := ⟨gb211, 3, none⟩) (Kd.S_far (p := ⟨gb211, 2, none⟩) (Kd.S_far (p := ⟨gb211, 1, none⟩) (Kd.S_far (p := ⟨gb211, 0, none⟩) (Kd.S_types HO205.out BK211.out (by decide)) (fun _ hk => hk.2) (.bool t210)) (fun _ hk => hk.2) (.bool a1)) (fun _ hk => hk.2) (.slice none 0 0)) (fun _ hk => hk.2) (.bool false)) (fun _ hk => hk.2) (.bool false)) (fun _ hk => trivial)))⟩; have n1_ : Aside0 (Kd.V Kd.string 9 w16 w.heap.size (fun k_ => k_ ≠ gb202 ∧ k_ ≠ gb211) (.slice Ao12 t206.length co12) t206) := ⟨(by rw [hw]; exact (by (with_reducible repeat (first | apply Kd.V_alloc | apply Kd.V_drewN | apply Kd.V_drew)); exact Kd.V_mono (Kd.V_far (p := ⟨gb211, 4, none⟩) (Kd.V_far (p := ⟨gb211, 3, none⟩) (Kd.V_far (p := ⟨gb211, 2, none⟩) (Kd.V_far (p := ⟨gb211, 1, none⟩) (Kd.V_far (p := ⟨gb211, 0, none⟩) (Kd.V_mono HO208.out (fun k_ hk => (⟨hk, hk.2⟩ : _ ∧ k_ ≠ gb211))) (fun _ hk => hk.2) (.bool t210)) (fun _ hk => hk.2) (.bool a1)) (fun _ hk => hk.2) (.slice none 0 0)) (fun _ hk => hk.2) (.bool false)) (fun _ hk => hk.2) (.bool false)) (fun _ hk => ⟨hk.1.1, hk.1.2⟩)))⟩; have n2_ : Aside0 (w16.heap[gb202]? = some (.cells #[.bool false, .bool false, .slice none 0 0, .bool false, .bool false] 26 (0, 0))) := ⟨(by rw [hw]; exact (by (with_reducible repeat (first | refine blk_drewN ?_ _ | refine blk_drew ?_ | refine blk_alloc ?_ _)); refine blk_far ?_ NB202_211.out _; (with_reducible repeat (first | refine blk_drewN ?_ _ | refine blk_drew ?_ | refine blk_alloc ?_ _)); refine blk_far ?_ NB202_211.out _; (with_reducible repeat (first | refine blk_drewN ?_ _ | refine blk_drew ?_ | refine blk_alloc ?_ _)); refine blk_far ?_ NB202_211.out _; (with_reducible repeat (first | refine blk_drewN ?_ _ | refine blk_drew ?_ | refine blk_alloc ?_ _)); refine blk_far ?_ NB202_211.out _; (with_reducible repeat (first | refine blk_drewN ?_ _ | refine blk_drew ?_ | refine blk_alloc ?_ _)); refine blk_far ?_ NB202_211.out _; (with_reducible repeat (first | refine blk_drewN ?_ _ | refine blk_drew ?_ | refine blk_alloc ?_ _)); exact BK202.out))⟩; have n3_ : Aside0 (w16.heap[gb211]? = some (.cells #[.bool t210, .bool a1, .slice none 0 0, .bool false, .bool false] 26 (0, 0))) := ⟨(by rw [hw]; exact (by (with_reducible repeat (first | refine blk_drewN ?_ _ | refine blk_drew ?_ | refine blk_alloc ?_ _)); refine blk_put (cs := #[.bool t210, .bool a1, .slice none 0 0, .bool false, .bool false]) ?_ 4 _ rfl; (with_reducible repeat (first | refine blk_drewN ?_ _ | refine blk_drew ?_ | refine blk_alloc ?_ _)); refine blk_put (cs := #[.bool t210, .bool a1, .slice none 0 0, .bool false, .bool false]) ?_ 3 _ rfl; (with_reducible repeat (first | refine blk_drewN ?_ _ | refine blk_drew ?_ | refine blk_alloc ?_ _)); refine blk_put (cs := #[.bool t210, .bool a1, .slice none 0 0, .bool false, .bool false]) ?_ 2 _ rfl; (with_reducible repeat (first | refine blk_drewN ?_ _ | refine blk_drew ?_ | refine blk_alloc ?_ _)); refine blk_put (cs := #[.bool t210, .bool false, .slice none 0 0, .bool false, .bool false]) ?_ 1 _ rfl; (with_reducible repeat (first | refine blk_drewN ?_ _ | refine blk_drew ?_ | refine blk_alloc ?_ _)); refine blk_put (cs := #[.bool false, .bool false, .slice none 0 0, .bool false, .bool false]) ?_ 0 _ rfl; (with_reducible repeat (first | refine blk_drewN ?_ _ | refine blk_drew ?_ | refine blk_alloc ?_ _)); exact BK211.out))⟩; have n4_ : Aside0 (Below w.heap.size w w16) := ⟨(by rw [hw]; exact (by repeat (first | (with_reducible first | exact HB.out | apply below_alloc | apply pw_below_drewN | apply below_drew1 | refine below_set ?_ GE202.out | refine below_set ?_ GE211.out) | exact HB.out)))⟩; clear hw; clear HO205; clear HO208; clear BK202; clear BK211; clear HB; have HO205 := n0_; have HO208 := n1_; have BK202 := n2_; have BK211 := n3_; have HB := n4_; clear n0_ n1_ n2_ n3_ n4_) | ((with_reducible refine gate_callee (f := 27) rfl ?_); refine goesL_ (some 26) rfl rfl Tryd.func27 (by kernel_rfl) rfl #[.slice Ao10 t203.length co10, .string (⟨#[116, 114, 117, 115, 116, 101, 100, 45, 116, 121, 112, 101, 115]⟩ : ByteArray)] rfl (by (try simp only [List.map_toArray, List.map_cons, List.map_nil]); first | done | rfl | (simp only [List.length_drop, List.length_take]; rfl)) ?_; (with_reducible refine (header_named.calls k (fun k_ => ((True ∧ k_ ≠ gb202) ∧ k_ ≠ gb211)) _ _ t203 (⟨#[116, 114, 117, 115, 116, 101, 100, 45, 116, 121, 112, 101, 115]⟩ : ByteArray) t212 true _ ?side1 A6.out).mono ?_); (case side1 => exact Kd.S_V (Kd.S_types (Kd.S_types (HO205.out) BK202.out (by decide)) BK211.out (by decide))); rintro e w17 ⟨v213, rfl, ho0, hb⟩; refine ⟨_, rfl, ?_⟩; have n0_ := Aside0.mk (Kd.S_below (by (with_reducible repeat (first | apply Kd.S_alloc | apply Kd.S_drewN | apply Kd.S_drew)); exact HO205.out) hb); have n1_ := Aside0.mk (Kd.V_below (by (with_reducible repeat (first | apply Kd.V_alloc | apply Kd.V_drewN | apply Kd.V_drew)); exact HO208.out) hb); have n2_ := Aside0.mk (Kd.V_lower (Kd.V_mono (ok' := fun k_ => k_ ≠ gb202 ∧ k_ ≠ gb211) ho0 (fun k_ hk_ => ⟨Or.elim hk_ (fun hs_ => hs_.1.2) (fun hn_ => (Kd.freshB (g := gb202) (o := .cells #[.bool false, .bool false, .slice none 0 0, .bool false, .bool false] 26 (0, 0)) (by (with_reducible repeat (first | refine blk_drewN ?_ _ | refine blk_drew ?_ | refine blk_alloc ?_ _)); exact BK202.out) k_ hn_)), Or.elim hk_ (fun hs_ => hs_.2) (fun hn_ => (Kd.freshB (g := gb211) (o := .cells #[.bool t210, .bool a1, .slice none 0 0, .bool false, .bool false] 26 (0, 0)) (by (with_reducible repeat (first | refine blk_drewN ?_ _ | refine blk_drew ?_ | refine blk_alloc ?_ _)); exact BK211.out) k_ hn_))⟩)) (below_size (by repeat (first | (with_reducible first | exact HB.out | apply below_alloc | apply pw_below_drewN | apply below_drew1 | refine below_set ?_ GE202.out | refine below_set ?_ GE211.out) | exact HB.out)))); have n3_ := Aside0.mk (blk_below (g := gb202) (o := .cells #[.bool false, .bool false, .slice none 0 0, .bool false, .bool false] 26 (0, 0)) (by (with_reducible repeat (first | refine blk_drewN ?_ _ | refine blk_drew ?_ | refine blk_alloc ?_ _)); exact BK202.out) hb); have n4_ := Aside0.mk (blk_below (g := gb211) (o := .cells #[.bool t210, .bool a1, .slice none 0 0, .bool false, .bool false] 26 (0, 0)) (by (with_reducible repeat (first | refine blk_drewN ?_ _ | refine blk_drew ?_ | refine blk_alloc ?_ _)); exact BK211.out) hb); have n5_ := Aside0.mk (below_step (by repeat (first | (with_reducible first | exact HB.out | apply below_alloc | apply pw_below_drewN | apply below_drew1 | refine below_set ?_ GE202.out | refine below_set ?_ GE211.out) | exact HB.out)) hb); clear HO205; clear HO208; clear BK202; clear BK211; clear HB; have HO205 := n0_; have HO208 := n1_; have HO214 := n2_; have BK202 := n3_; have BK211 := n4_; have HB := n5_; clear n0_ n1_ n2_ n3_ n4_ n5_; (try clear hb); (try clear hb2); (try clear hk); (try clear hi); (try clear ho0); obtain ⟨Ao18, co18, eo18⟩ := Kd.V_slice HO214.out; subst eo18))
    go_loopg [36] k (fun kq v36 w' => ∃ (x36_1 : Int) (x212002_1 : List ByteArray) (x212003_1 : Bool) (x212004_1 : Bool) (u212002 : Value), v36 = .int .i64 x36_1 ∧ Aside0 (header_Parse.l0 kq t212 (t212.length : Int) x36_1 t210 a1 x212002_1 x212003_1 x212004_1 = some (r1, r2, r3, r4, r5)) ∧ Aside0 (kq ≤ k) ∧ Aside0 (Kd.V Kd.string 9 w' w.heap.size (fun k_ => some k_ ≠ (u212002 : Value).ownBlock ∧ k_ ≠ gb202 ∧ k_ ≠ gb211) (.slice Ao18 t212.length co18) t212) ∧ Aside0 (Kd.R Kd.string 9 w' w.heap.size (fun _ => True) u212002 x212002_1) ∧ Aside0 (w'.heap[gb202]? = some (.cells #[.bool false, .bool false, (.slice none 0 0), .bool false, .bool false] 26 (0, 0))) ∧ Aside0 (w'.heap[gb211]? = some (.cells #[.bool t210, .bool a1, u212002, .bool x212003_1, .bool x212004_1] 26 (0, 0))) ∧ Aside0 (Below w.heap.size w w'))
    case atStart => exact ⟨(0), (([] : List ByteArray)), (false), (false), (.slice none 0 0), (by first | rfl | (simp; done) | (simp [*]; done)), H', ⟨Nat.le_refl _⟩, ⟨by (with_reducible repeat (first | apply Kd.V_alloc | apply Kd.V_drewN | apply Kd.V_drew)); exact Kd.V_mono HO214.out (fun _ hk => ⟨(by simp [Value.ownBlock]), ⟨hk.1, hk.2⟩⟩)⟩, ⟨by first | exact Kd.R_nil _ _ _ _ _ | exact Kd.N_nil _ _ _ _ _ | exact Kd.V_nil _ _ _ _ _ | exact Kd.Q_nil _ _ _ _ _ | exact Kd.S_nil _ _ _ _ _⟩, ⟨by (with_reducible repeat (first | refine blk_drewN ?_ _ | refine blk_drew ?_ | refine blk_alloc ?_ _)); exact BK202.out⟩, ⟨by (with_reducible repeat (first | refine blk_drewN ?_ _ | refine blk_drew ?_ | refine blk_alloc ?_ _)); exact BK211.out⟩, ⟨by repeat (first | (with_reducible first | exact HB.out | apply below_alloc | apply pw_below_drewN | apply below_drew1 | refine below_set ?_ GE202.out | refine below_set ?_ GE211.out) | exact HB.out)⟩⟩
    case round =>
      clear H'
      try clear c1
      try clear c2
      try clear p2
      try clear c7
      try clear c12
      try clear c13
      try clear c14
      try clear hcz15_0
      try clear hcz15_1
      try clear hcz15_2
      try clear hcz15_3
      try clear hcz15_4
      try clear hfz15_0
      try clear hfz15_1
      try clear hfz15_2
      try clear hfz15_3
      try clear hfz15_4
      obtain ⟨x36_1, x212002_1, x212003_1, x212004_1, u212002, rfl, HA, HK1, HO_34, HO_212002, BK202, BK211, HB⟩ := hrel
      cases gk with
      | zero => exact absurd HA.out (by simp [header_Parse.l0])
      | succ k1 =>
        have H := HA.out
        clear HA
        simp only [header_Parse.l0] at H
        by_cases c19 : x36_1 < (t212.length : Int)
        · rw [if_pos c19] at H
          have c19b0 : decide (x36_1 < (t212.length : Int)) = true := decide_eq_true c19
          clear c19
          by_cases c20 : 0 ≤ x36_1
          · rw [if_pos c20] at H
            have c20b0 : decide (0 ≤ x36_1) = true := decide_eq_true c20
            clear c20
            by_cases c21 : x36_1 < (t212.length : Int)
            · rw [if_pos c21] at H
              have c21b0 : decide (x36_1 < (t212.length : Int)) = true := decide_eq_true c21
              clear c21
              by_cases c22 : (rdOf ByteArray.empty t212 x36_1).toList = ([42] : List UInt8)
              · rw [if_pos c22] at H
                have c22b0 : ((rdOf ByteArray.empty t212 x36_1).toList == ([42] : List UInt8)) = true := beq_iff_eq.mpr c22
                have c22b1 : ((rdOf ByteArray.empty t212 x36_1).toList != ([42] : List UInt8)) = false := bne_eq_false_iff_eq.mpr c22
                clear c22
                have H' := Aside0.mk H
                clear H
                have p216 : 0 ≤ (x36_1 : Int) := of_decide_eq_true (by first | (with_reducible assumption) | assumption)
                have q216 : x36_1 < (t212.length : Int) := of_decide_eq_true (by first | (with_reducible assumption) | assumption)
                obtain ⟨ad216, e216, hx216_0⟩ := Kd.at_string (Kd.V_reads' HO_34.out).2.2 x36_1 p216 q216
                cases e216
                replace p216 := eq_true p216
                replace q216 := eq_true q216
                have hnb23 := NB211_202.out
                have hnc23 := NB202_211.out
                have hcz24_0 : wr.cell? ⟨gb211, 0, none⟩ = some (.bool t210) := (blk_cell BK211.out 0).trans rfl
                have hcz24_1 : wr.cell? ⟨gb211, 1, none⟩ = some (.bool a1) := (blk_cell BK211.out 1).trans rfl
                have hcz24_2 : wr.cell? ⟨gb211, 2, none⟩ = some (u212002) := (blk_cell BK211.out 2).trans rfl
                have hcz24_3 : wr.cell? ⟨gb211, 3, none⟩ = some (.bool x212003_1) := (blk_cell BK211.out 3).trans rfl
                have hcz24_4 : wr.cell? ⟨gb211, 4, none⟩ = some (.bool x212004_1) := (blk_cell BK211.out 4).trans rfl
                have hfz24_0 := blk_frozen BK211.out 0
                have hfz24_1 := blk_frozen BK211.out 1
                have hfz24_2 := blk_frozen BK211.out 2
                have hfz24_3 := blk_frozen BK211.out 3
                have hfz24_4 := blk_frozen BK211.out 4
                go_wp2
                go_roundg k1
                case measure => have := HK1.out; omega
                case rel => exact ⟨(wrap64 (x36_1 + 1)), (x212002_1), (true), (x212004_1), (u212002), (by first | rfl | (simp; done) | (simp [*]; done)), H', ⟨by have := HK1.out; omega⟩, ⟨by (with_reducible repeat (first | apply Kd.V_alloc | apply Kd.V_drewN | apply Kd.V_drew)); exact Kd.V_mono (Kd.V_far (p := ⟨gb211, 3, none⟩) (Kd.V_mono HO_34.out (fun k_ hk => (⟨hk, hk.2.2⟩ : _ ∧ k_ ≠ gb211))) (fun _ hk => hk.2) (.bool true)) (fun _ hk => ⟨hk.1.1, ⟨hk.1.2.1, hk.1.2.2⟩⟩)⟩, ⟨by (with_reducible repeat (first | apply Kd.R_alloc | apply Kd.R_drewN | apply Kd.R_drew)); exact Kd.R_mono (Kd.R_far (p := ⟨gb211, 3, none⟩) (Kd.R_types HO_212002.out BK211.out (by decide)) (fun _ hk => hk.2) (.bool true)) (fun _ hk => trivial)⟩, ⟨by (with_reducible repeat (first | refine blk_drewN ?_ _ | refine blk_drew ?_ | refine blk_alloc ?_ _)); refine blk_far ?_ NB202_211.out _; (with_reducible repeat (first | refine blk_drewN ?_ _ | refine blk_drew ?_ | refine blk_alloc ?_ _)); exact BK202.out⟩, ⟨by (with_reducible repeat (first | refine blk_drewN ?_ _ | refine blk_drew ?_ | refine blk_alloc ?_ _)); refine blk_put (cs := #[.bool t210, .bool a1, u212002, .bool x212003_1, .bool x212004_1]) ?_ 3 _ rfl; (with_reducible repeat (first | refine blk_drewN ?_ _ | refine blk_drew ?_ | refine blk_alloc ?_ _)); exact BK211.out⟩, ⟨by repeat (first | (with_reducible first | exact HB.out | apply below_alloc | apply pw_below_drewN | apply below_drew1 | refine below_set ?_ GE202.out | refine below_set ?_ GE211.out) | exact HB.out)⟩⟩
              · rw [if_neg c22] at H
                have c22b0 : ((rdOf ByteArray.empty t212 x36_1).toList == ([42] : List UInt8)) = false := beq_eq_false_iff_ne.mpr c22
                have c22b1 : ((rdOf ByteArray.empty t212 x36_1).toList != ([42] : List UInt8)) = true := bne_iff_ne.mpr c22
                by_cases c25 : (rdOf ByteArray.empty t212 x36_1).toList = ([39, 97, 108, 108, 111, 119, 45, 100, 117, 112, 108, 105, 99, 97, 116, 101, 115, 39] : List UInt8)
                · rw [if_pos c25] at H
                  have c25b0 : ((rdOf ByteArray.empty t212 x36_1).toList == ([39, 97, 108, 108, 111, 119, 45, 100, 117, 112, 108, 105, 99, 97, 116, 101, 115, 39] : List UInt8)) = true := beq_iff_eq.mpr c25
                  have c25b1 : ((rdOf ByteArray.empty t212 x36_1).toList != ([39, 97, 108, 108, 111, 119, 45, 100, 117, 112, 108, 105, 99, 97, 116, 101, 115, 39] : List UInt8)) = false := bne_eq_false_iff_eq.mpr c25
                  clear c25
                  have H' := Aside0.mk H
                  clear H
                  have p216 : 0 ≤ (x36_1 : Int) := of_decide_eq_true (by first | (with_reducible assumption) | assumption)
                  have q216 : x36_1 < (t212.length : Int) := of_decide_eq_true (by first | (with_reducible assumption) | assumption)
                  obtain ⟨ad216, e216, hx216_0⟩ := Kd.at_string (Kd.V_reads' HO_34.out).2.2 x36_1 p216 q216
                  cases e216
                  replace p216 := eq_true p216
                  replace q216 := eq_true q216
                  have hnb26 := NB211_202.out
                  have hnc26 := NB202_211.out
                  have hcz27_0 : wr.cell? ⟨gb211, 0, none⟩ = some (.bool t210) := (blk_cell BK211.out 0).trans rfl
                  have hcz27_1 : wr.cell? ⟨gb211, 1, none⟩ = some (.bool a1) := (blk_cell BK211.out 1).trans rfl
                  have hcz27_2 : wr.cell? ⟨gb211, 2, none⟩ = some (u212002) := (blk_cell BK211.out 2).trans rfl
                  have hcz27_3 : wr.cell? ⟨gb211, 3, none⟩ = some (.bool x212003_1) := (blk_cell BK211.out 3).trans rfl
                  have hcz27_4 : wr.cell? ⟨gb211, 4, none⟩ = some (.bool x212004_1) := (blk_cell BK211.out 4).trans rfl
                  have hfz27_0 := blk_frozen BK211.out 0
                  have hfz27_1 := blk_frozen BK211.out 1
                  have hfz27_2 := blk_frozen BK211.out 2
                  have hfz27_3 := blk_frozen BK211.out 3
                  have hfz27_4 := blk_frozen BK211.out 4
                  go_wp2
                  go_roundg k1
                  case measure => have := HK1.out; omega
                  case rel => exact ⟨(wrap64 (x36_1 + 1)), (x212002_1), (x212003_1), (true), (u212002), (by first | rfl | (simp; done) | (simp [*]; done)), H', ⟨by have := HK1.out; omega⟩, ⟨by (with_reducible repeat (first | apply Kd.V_alloc | apply Kd.V_drewN | apply Kd.V_drew)); exact Kd.V_mono (Kd.V_far (p := ⟨gb211, 4, none⟩) (Kd.V_mono HO_34.out (fun k_ hk => (⟨hk, hk.2.2⟩ : _ ∧ k_ ≠ gb211))) (fun _ hk => hk.2) (.bool true)) (fun _ hk => ⟨hk.1.1, ⟨hk.1.2.1, hk.1.2.2⟩⟩)⟩, ⟨by (with_reducible repeat (first | apply Kd.R_alloc | apply Kd.R_drewN | apply Kd.R_drew)); exact Kd.R_mono (Kd.R_far (p := ⟨gb211, 4, none⟩) (Kd.R_types HO_212002.out BK211.out (by decide)) (fun _ hk => hk.2) (.bool true)) (fun _ hk => trivial)⟩, ⟨by (with_reducible repeat (first | refine blk_drewN ?_ _ | refine blk_drew ?_ | refine blk_alloc ?_ _)); refine blk_far ?_ NB202_211.out _; (with_reducible repeat (first | refine blk_drewN ?_ _ | refine blk_drew ?_ | refine blk_alloc ?_ _)); exact BK202.out⟩, ⟨by (with_reducible repeat (first | refine blk_drewN ?_ _ | refine blk_drew ?_ | refine blk_alloc ?_ _)); refine blk_put (cs := #[.bool t210, .bool a1, u212002, .bool x212003_1, .bool x212004_1]) ?_ 4 _ rfl; (with_reducible repeat (first | refine blk_drewN ?_ _ | refine blk_drew ?_ | refine blk_alloc ?_ _)); exact BK211.out⟩, ⟨by repeat (first | (with_reducible first | exact HB.out | apply below_alloc | apply pw_below_drewN | apply below_drew1 | refine below_set ?_ GE202.out | refine below_set ?_ GE211.out) | exact HB.out)⟩⟩
                · rw [if_neg c25] at H
                  have c25b0 : ((rdOf ByteArray.empty t212 x36_1).toList == ([39, 97, 108, 108, 111, 119, 45, 100, 117, 112, 108, 105, 99, 97, 116, 101, 115, 39] : List UInt8)) = false := beq_eq_false_iff_ne.mpr c25
                  have c25b1 : ((rdOf ByteArray.empty t212 x36_1).toList != ([39, 97, 108, 108, 111, 119, 45, 100, 117, 112, 108, 105, 99, 97, 116, 101, 115, 39] : List UInt8)) = true := bne_iff_ne.mpr c25
                  replace H := Option.bind_eq_some_iff.mp H
                  obtain ⟨t217, A280, H⟩ := H
                  replace H : (if t217 = true then ((slices_Contains_string_string.f k1 x212002_1 (rdOf ByteArray.empty t212 x36_1)).bind fun t218 => (if t218 = true then (header_Parse.l0 k1 t212 (t212.length : Int) (wrap64 (x36_1 + 1)) t210 a1 x212002_1 x212003_1 x212004_1) else (if x212002_1.length < 8796093022208 then (header_Parse.l0 k1 t212 (t212.length : Int) (wrap64 (x36_1 + 1)) t210 a1 (x212002_1 ++ [rdOf ByteArray.empty t212 x36_1]) x212003_1 x212004_1) else (none)))) else (header_Parse.l0 k1 t212 (t212.length : Int) (wrap64 (x36_1 + 1)) t210 a1 x212002_1 x212003_1 x212004_1)) = some (r1, r2, r3, r4, r5) := H
                  have A28 := Aside0.mk A280
                  clear A280
                  by_cases c29 : t217 = true
                  · subst c29
                    have H1 : ((slices_Contains_string_string.f k1 x212002_1 (rdOf ByteArray.empty t212 x36_1)).bind fun t218 => (if t218 = true then (header_Parse.l0 k1 t212 (t212.length : Int) (wrap64 (x36_1 + 1)) t210 a1 x212002_1 x212003_1 x212004_1) else (if x212002_1.length < 8796093022208 then (header_Parse.l0 k1 t212 (t212.length : Int) (wrap64 (x36_1 + 1)) t210 a1 (x212002_1 ++ [rdOf ByteArray.empty t212 x36_1]) x212003_1 x212004_1) else (none)))) = some (r1, r2, r3, r4, r5) := by rw [if_pos rfl] at H; exact H
                    clear H
                    have H := H1
                    clear H1
                    replace H := Option.bind_eq_some_iff.mp H
                    obtain ⟨t218, A300, H⟩ := H
                    replace H : (if t218 = true then (header_Parse.l0 k1 t212 (t212.length : Int) (wrap64 (x36_1 + 1)) t210 a1 x212002_1 x212003_1 x212004_1) else (if x212002_1.length < 8796093022208 then (header_Parse.l0 k1 t212 (t212.length : Int) (wrap64 (x36_1 + 1)) t210 a1 (x212002_1 ++ [rdOf ByteArray.empty t212 x36_1]) x212003_1 x212004_1) else (none))) = some (r1, r2, r3, r4, r5) := H
                    have A30 := Aside0.mk A300
                    clear A300
                    by_cases c31 : t218 = true
                    · subst c31
                      have H1 : (header_Parse.l0 k1 t212 (t212.length : Int) (wrap64 (x36_1 + 1)) t210 a1 x212002_1 x212003_1 x212004_1) = some (r1, r2, r3, r4, r5) := by rw [if_pos rfl] at H; exact H
                      clear H
                      have H := H1
                      clear H1
                      have H' := Aside0.mk H
                      clear H
                      have p216 : 0 ≤ (x36_1 : Int) := of_decide_eq_true (by first | (with_reducible assumption) | assumption)
                      have q216 : x36_1 < (t212.length : Int) := of_decide_eq_true (by first | (with_reducible assumption) | assumption)
                      obtain ⟨ad216, e216, hx216_0⟩ := Kd.at_string (Kd.V_reads' HO_34.out).2.2 x36_1 p216 q216
                      cases e216
                      replace p216 := eq_true p216
                      replace q216 := eq_true q216
                      go_wp2_with (first | ((with_reducible refine gate_callee (f := 29) rfl ?_); refine goesL_ (some 50) rfl rfl Tryd.func29 (by kernel_rfl) rfl #[.string (rdOf ByteArray.empty t212 x36_1)] rfl (by (try simp only [List.map_toArray, List.map_cons, List.map_nil]); first | done | rfl | (simp only [List.length_drop, List.length_take]; rfl)) ?_; (with_reducible refine (header_may.calls k1 (rdOf ByteArray.empty t212 x36_1) true _ A28.out).mono ?_); rintro e w' ⟨rfl, ⟨nd, rfl⟩⟩; refine ⟨_, rfl, ?_⟩; have hnb32 := NB211_202.out; have hnc32 := NB202_211.out; have hcz33_0 : wr.cell? ⟨gb211, 0, none⟩ = some (.bool t210) := (blk_cell BK211.out 0).trans rfl; have hcz33_1 : wr.cell? ⟨gb211, 1, none⟩ = some (.bool a1) := (blk_cell BK211.out 1).trans rfl; have hcz33_2 : wr.cell? ⟨gb211, 2, none⟩ = some (u212002) := (blk_cell BK211.out 2).trans rfl; have hcz33_3 : wr.cell? ⟨gb211, 3, none⟩ = some (.bool x212003_1) := (blk_cell BK211.out 3).trans rfl; have hcz33_4 : wr.cell? ⟨gb211, 4, none⟩ = some (.bool x212004_1) := (blk_cell BK211.out 4).trans rfl; have hfz33_0 := blk_frozen BK211.out 0; have hfz33_1 := blk_frozen BK211.out 1; have hfz33_2 := blk_frozen BK211.out 2; have hfz33_3 := blk_frozen BK211.out 3; have hfz33_4 := blk_frozen BK211.out 4; obtain ⟨Ao34, co34, eo34⟩ := Kd.R_slice HO_212002.out; subst eo34) | (go_at_call 28; (with_reducible refine (slices_Contains_string_string.calls k1 _ _ x212002_1 (rdOf ByteArray.empty t212 x36_1) true _ ?side1 ?side2 A30.out).mono ?_); (case side1 => repeat (first | exact (Kd.R_reads' HO_212002.out).2.2 | (with_reducible refine Kd.C_alloc ?_ _) | (with_reducible refine Kd.C_drewN ?_ _) | (with_reducible refine Kd.C_drew ?_))); (case side2 => exact (Kd.R_reads' HO_212002.out).2.1); rintro e w' ⟨rfl, ⟨nd, rfl⟩⟩))
                      go_roundg k1
                      case measure => have := HK1.out; omega
                      case rel => exact ⟨(wrap64 (x36_1 + 1)), (x212002_1), (x212003_1), (x212004_1), (.slice Ao34 x212002_1.length co34), (by first | rfl | (simp; done) | (simp [*]; done)), H', ⟨by have := HK1.out; omega⟩, ⟨by (with_reducible repeat (first | apply Kd.V_alloc | apply Kd.V_drewN | apply Kd.V_drew)); exact HO_34.out⟩, ⟨by (with_reducible repeat (first | apply Kd.R_alloc | apply Kd.R_drewN | apply Kd.R_drew)); exact HO_212002.out⟩, ⟨by (with_reducible repeat (first | refine blk_drewN ?_ _ | refine blk_drew ?_ | refine blk_alloc ?_ _)); exact BK202.out⟩, ⟨by (with_reducible repeat (first | refine blk_drewN ?_ _ | refine blk_drew ?_ | refine blk_alloc ?_ _)); exact BK211.out⟩, ⟨by repeat (first | (with_reducible first | exact HB.out | apply below_alloc | apply pw_below_drewN | apply below_drew1 | refine below_set ?_ GE202.out | refine below_set ?_ GE211.out) | exact HB.out)⟩⟩
                    · replace c31 := Bool.eq_false_iff.mpr c31
                      subst c31
                      have H1 : (if x212002_1.length < 8796093022208 then (header_Parse.l0 k1 t212 (t212.length : Int) (wrap64 (x36_1 + 1)) t210 a1 (x212002_1 ++ [rdOf ByteArray.empty t212 x36_1]) x212003_1 x212004_1) else (none)) = some (r1, r2, r3, r4, r5) := by rw [if_neg (show ¬ (false = true) by decide)] at H; exact H
                      clear H
                      have H := H1
                      clear H1
                      by_cases c35 : x212002_1.length < 8796093022208
                      · rw [if_pos c35] at H
                        have LMc35 := Aside0.mk c35
                        clear c35
                        obtain ⟨y219, hy219⟩ : ∃ y_ : List ByteArray, y_ = (x212002_1 ++ [rdOf ByteArray.empty t212 x36_1]) := ⟨_, rfl⟩
                        replace H : (header_Parse.l0 k1 t212 (t212.length : Int) (wrap64 (x36_1 + 1)) t210 a1 y219 x212003_1 x212004_1) = some (r1, r2, r3, r4, r5) := by first | (rw [hy219]; with_reducible exact H) | (have H2_ := (Option.bind_some _ _).symm.trans H; rw [hy219]; with_reducible exact H2_) | (have H2_ := (Option.bind_some _ _).symm.trans H; with_reducible exact H2_) | with_reducible exact H | (rw [hy219]; exact H) | exact H
                        have Ny219 := Aside0.mk hy219
                        clear hy219
                        have H' := Aside0.mk H
                        clear H
                        have p216 : 0 ≤ (x36_1 : Int) := of_decide_eq_true (by first | (with_reducible assumption) | assumption)
                        have q216 : x36_1 < (t212.length : Int) := of_decide_eq_true (by first | (with_reducible assumption) | assumption)
                        obtain ⟨ad216, e216, hx216_0⟩ := Kd.at_string (Kd.V_reads' HO_34.out).2.2 x36_1 p216 q216
                        cases e216
                        replace p216 := eq_true p216
                        replace q216 := eq_true q216
                        go_wp2_with (first | ((with_reducible refine gate_callee (f := 29) rfl ?_); refine goesL_ (some 50) rfl rfl Tryd.func29 (by kernel_rfl) rfl #[.string (rdOf ByteArray.empty t212 x36_1)] rfl (by (try simp only [List.map_toArray, List.map_cons, List.map_nil]); first | done | rfl | (simp only [List.length_drop, List.length_take]; rfl)) ?_; (with_reducible refine (header_may.calls k1 (rdOf ByteArray.empty t212 x36_1) true _ A28.out).mono ?_); rintro e w' ⟨rfl, ⟨nd, rfl⟩⟩; refine ⟨_, rfl, ?_⟩; (try (rw [drewN_self wr]; generalize hq_ : World.drewN wr _ = wr; have n0_ : Aside0 (Kd.R Kd.string 9 wr w.heap.size (fun _ => True) u212002 x212002_1) := ⟨by rw [← hq_]; exact (by (with_reducible repeat (first | apply Kd.R_alloc | apply Kd.R_drewN | apply Kd.R_drew)); exact HO_212002.out)⟩; have n1_ : Aside0 (Kd.V Kd.string 9 wr w.heap.size (fun k_ => some k_ ≠ (u212002 : Value).ownBlock ∧ k_ ≠ gb202 ∧ k_ ≠ gb211) (.slice (some ad216) t212.length co18) t212) := ⟨by rw [← hq_]; exact (by (with_reducible repeat (first | apply Kd.V_alloc | apply Kd.V_drewN | apply Kd.V_drew)); exact HO_34.out)⟩; have n2_ : Aside0 (wr.heap[gb202]? = some (.cells #[.bool false, .bool false, .slice none 0 0, .bool false, .bool false] 26 (0, 0))) := ⟨by rw [← hq_]; exact (by (with_reducible repeat (first | refine blk_drewN ?_ _ | refine blk_drew ?_ | refine blk_alloc ?_ _)); exact BK202.out)⟩; have n3_ : Aside0 (wr.heap[gb211]? = some (.cells #[.bool t210, .bool a1, u212002, .bool x212003_1, .bool x212004_1] 26 (0, 0))) := ⟨by rw [← hq_]; exact (by (with_reducible repeat (first | refine blk_drewN ?_ _ | refine blk_drew ?_ | refine blk_alloc ?_ _)); exact BK211.out)⟩; have n4_ : Aside0 (Below w.heap.size w wr) := ⟨by rw [← hq_]; exact (by repeat (first | (with_reducible first | exact HB.out | apply below_alloc | apply pw_below_drewN | apply below_drew1 | refine below_set ?_ GE202.out | refine below_set ?_ GE211.out) | exact HB.out))⟩; clear HO_212002 HO_34 BK202 BK211 HB hq_; have HO_212002 := n0_; have HO_34 := n1_; have BK202 := n2_; have BK211 := n3_; have HB := n4_; clear n0_ n1_ n2_ n3_ n4_)); have hnb36 := NB211_202.out; have hnc36 := NB202_211.out; have hcz37_0 : wr.cell? ⟨gb211, 0, none⟩ = some (.bool t210) := (blk_cell BK211.out 0).trans rfl; have hcz37_1 : wr.cell? ⟨gb211, 1, none⟩ = some (.bool a1) := (blk_cell BK211.out 1).trans rfl; have hcz37_2 : wr.cell? ⟨gb211, 2, none⟩ = some (u212002) := (blk_cell BK211.out 2).trans rfl; have hcz37_3 : wr.cell? ⟨gb211, 3, none⟩ = some (.bool x212003_1) := (blk_cell BK211.out 3).trans rfl; have hcz37_4 : wr.cell? ⟨gb211, 4, none⟩ = some (.bool x212004_1) := (blk_cell BK211.out 4).trans rfl; have hfz37_0 := blk_frozen BK211.out 0; have hfz37_1 := blk_frozen BK211.out 1; have hfz37_2 := blk_frozen BK211.out 2; have hfz37_3 := blk_frozen BK211.out 3; have hfz37_4 := blk_frozen BK211.out 4; obtain ⟨Ao38, co38, eo38⟩ := Kd.R_slice HO_212002.out; subst eo38) | (go_at_call 28; (with_reducible refine (slices_Contains_string_string.calls k1 _ _ x212002_1 (rdOf ByteArray.empty t212 x36_1) false _ ?side1 ?side2 A30.out).mono ?_); (case side1 => repeat (first | exact (Kd.R_reads' HO_212002.out).2.2 | (with_reducible refine Kd.C_alloc ?_ _) | (with_reducible refine Kd.C_drewN ?_ _) | (with_reducible refine Kd.C_drew ?_))); (case side2 => exact (Kd.R_reads' HO_212002.out).2.1); rintro e w' ⟨rfl, ⟨nd, rfl⟩⟩; (try (rw [drewN_self wr]; generalize hq_ : World.drewN wr _ = wr; have n0_ : Aside0 (Kd.R Kd.string 9 wr w.heap.size (fun _ => True) (.slice Ao38 x212002_1.length co38) x212002_1) := ⟨by rw [← hq_]; exact (by (with_reducible repeat (first | apply Kd.R_alloc | apply Kd.R_drewN | apply Kd.R_drew)); exact HO_212002.out)⟩; have n1_ : Aside0 (Kd.V Kd.string 9 wr w.heap.size (fun k_ => some k_ ≠ (.slice Ao38 x212002_1.length co38 : Value).ownBlock ∧ k_ ≠ gb202 ∧ k_ ≠ gb211) (.slice (some ad216) t212.length co18) t212) := ⟨by rw [← hq_]; exact (by (with_reducible repeat (first | apply Kd.V_alloc | apply Kd.V_drewN | apply Kd.V_drew)); exact HO_34.out)⟩; have n2_ : Aside0 (wr.heap[gb202]? = some (.cells #[.bool false, .bool false, .slice none 0 0, .bool false, .bool false] 26 (0, 0))) := ⟨by rw [← hq_]; exact (by (with_reducible repeat (first | refine blk_drewN ?_ _ | refine blk_drew ?_ | refine blk_alloc ?_ _)); exact BK202.out)⟩; have n3_ : Aside0 (wr.heap[gb211]? = some (.cells #[.bool t210, .bool a1, .slice Ao38 x212002_1.length co38, .bool x212003_1, .bool x212004_1] 26 (0, 0))) := ⟨by rw [← hq_]; exact (by (with_reducible repeat (first | refine blk_drewN ?_ _ | refine blk_drew ?_ | refine blk_alloc ?_ _)); exact BK211.out)⟩; have n4_ : Aside0 (Below w.heap.size w wr) := ⟨by rw [← hq_]; exact (by repeat (first | (with_reducible first | exact HB.out | apply below_alloc | apply pw_below_drewN | apply below_drew1 | refine below_set ?_ GE202.out | refine below_set ?_ GE211.out) | exact HB.out))⟩; clear HO_212002 HO_34 BK202 BK211 HB hq_; have HO_212002 := n0_; have HO_34 := n1_; have BK202 := n2_; have BK211 := n3_; have HB := n4_; clear n0_ n1_ n2_ n3_ n4_)); have hcz39_0 : wr.cell? ⟨gb211, 0, none⟩ = some (.bool t210) := (blk_cell BK211.out 0).trans rfl; have hcz39_1 : wr.cell? ⟨gb211, 1, none⟩ = some (.bool a1) := (blk_cell BK211.out 1).trans rfl; have hcz39_2 : wr.cell? ⟨gb211, 2, none⟩ = some (.slice Ao38 x212002_1.length co38) := (blk_cell BK211.out 2).trans rfl; have hcz39_3 : wr.cell? ⟨gb211, 3, none⟩ = some (.bool x212003_1) := (blk_cell BK211.out 3).trans rfl; have hcz39_4 : wr.cell? ⟨gb211, 4, none⟩ = some (.bool x212004_1) := (blk_cell BK211.out 4).trans rfl; have hfz39_0 := blk_frozen BK211.out 0; have hfz39_1 := blk_frozen BK211.out 1; have hfz39_2 := blk_frozen BK211.out 2; have hfz39_3 := blk_frozen BK211.out 3; have hfz39_4 := blk_frozen BK211.out 4) | ((with_reducible refine gate_builtin (b := .append) (xs := #[.tmp 59, .tmp 61]) rfl ?_); at_builtin; refine Kd.R_append Kd.string (w0 := w) w.heap.size rfl (.tmp 59) (.tmp 61) 24 9 (.string ⟨#[]⟩) 16 rfl Tryd.underlying24 info9 rfl (by decide) (by omega) (.slice Ao38 x212002_1.length co38) x212002_1 (rdOf ByteArray.empty t212 x36_1) [.string (rdOf ByteArray.empty t212 x36_1)] (fun _ => True) (fun _ => False) rfl rfl ?aP (fun _ hk => hk.elim) ?aF ?aO ?aB ?aS ?aL ?_; (case aP => exact rfl); (case aB => exact (by repeat (first | (with_reducible first | exact HB.out | apply below_alloc | apply pw_below_drewN | apply below_drew1 | refine below_set ?_ GE202.out | refine below_set ?_ GE211.out) | exact HB.out))); (case aF => exact (fun _ _ => trivial)); (case aO => exact (by (with_reducible repeat (first | apply Kd.R_alloc | apply Kd.R_drewN | apply Kd.R_drew)); exact HO_212002.out)); (case aS => exact (below_size (by repeat (first | (with_reducible first | exact HB.out | apply below_alloc | apply pw_below_drewN | apply below_drew1 | refine below_set ?_ GE202.out | refine below_set ?_ GE211.out) | exact HB.out)))); (case aL => have := LMc35.out; omega); intro v220 w40 ho hb hg hat; rw [← Ny219.out] at ho; have n0_ := Aside0.mk (Kd.V_afterv (ok := (fun k_ => k_ ≠ gb202 ∧ k_ ≠ gb211)) (by (with_reducible repeat (first | apply Kd.V_alloc | apply Kd.V_drewN | apply Kd.V_drew)); exact Kd.V_mono HO_34.out (fun _ hk => ⟨⟨hk.2.1, hk.2.2⟩, hk.1⟩)) hg hat); have n1_ := Aside0.mk (blk_grown (g := gb202) (o := .cells #[.bool false, .bool false, .slice none 0 0, .bool false, .bool false] 26 (0, 0)) (by (with_reducible repeat (first | refine blk_drewN ?_ _ | refine blk_drew ?_ | refine blk_alloc ?_ _)); exact BK202.out) hg (Kd.R_ne HO_212002.out BK202.out (by decide))); have n2_ := Aside0.mk (blk_grown (g := gb211) (o := .cells #[.bool t210, .bool a1, .slice Ao38 x212002_1.length co38, .bool x212003_1, .bool x212004_1] 26 (0, 0)) (by (with_reducible repeat (first | refine blk_drewN ?_ _ | refine blk_drew ?_ | refine blk_alloc ?_ _)); exact BK211.out) hg (Kd.R_ne HO_212002.out BK211.out (by decide))); have n3_ := Aside0.mk (hb); have n4_ := Aside0.mk (ho); clear HO_34; clear BK202; clear BK211; clear HB; clear HO_212002; have HO_34 := n0_; have BK202 := n1_; have BK211 := n2_; have HB := n3_; have HO221 := n4_; clear n0_ n1_ n2_ n3_ n4_; clear ho hb hg hat; obtain ⟨Ao41, co41, eo41⟩ := Kd.R_slice HO221.out; subst eo41; have hcz42_0 : w40.cell? ⟨gb211, 0, none⟩ = some (.bool t210) := (blk_cell BK211.out 0).trans rfl; have hcz42_1 : w40.cell? ⟨gb211, 1, none⟩ = some (.bool a1) := (blk_cell BK211.out 1).trans rfl; have hcz42_2 : w40.cell? ⟨gb211, 2, none⟩ = some (.slice Ao38 x212002_1.length co38) := (blk_cell BK211.out 2).trans rfl; have hcz42_3 : w40.cell? ⟨gb211, 3, none⟩ = some (.bool x212003_1) := (blk_cell BK211.out 3).trans rfl; have hcz42_4 : w40.cell? ⟨gb211, 4, none⟩ = some (.bool x212004_1) := (blk_cell BK211.out 4).trans rfl; have hfz42_0 := blk_frozen BK211.out 0; have hfz42_1 := blk_frozen BK211.out 1; have hfz42_2 := blk_frozen BK211.out 2; have hfz42_3 := blk_frozen BK211.out 3; have hfz42_4 := blk_frozen BK211.out 4))
                        go_roundg k1
                        case measure => have := HK1.out; omega
                        case rel => exact ⟨(wrap64 (x36_1 + 1)), (y219), (x212003_1), (x212004_1), (.slice Ao41 y219.length co41), (by first | rfl | (simp; done) | (simp [*]; done)), H', ⟨by have := HK1.out; omega⟩, ⟨by (with_reducible repeat (first | apply Kd.V_alloc | apply Kd.V_drewN | apply Kd.V_drew)); exact Kd.V_mono (Kd.V_far (p := ⟨gb211, 2, none⟩) (Kd.V_mono HO_34.out (fun k_ hk => (⟨hk, hk.1.2⟩ : _ ∧ k_ ≠ gb211))) (fun _ hk => hk.2) (.slice Ao41 y219.length co41)) (fun _ hk => ⟨hk.1.2, ⟨hk.1.1.1, hk.1.1.2⟩⟩)⟩, ⟨by (with_reducible repeat (first | apply Kd.R_alloc | apply Kd.R_drewN | apply Kd.R_drew)); exact Kd.R_mono (Kd.R_far (p := ⟨gb211, 2, none⟩) (Kd.R_types HO221.out BK211.out (by decide)) (fun _ hk => hk.2) (.slice Ao41 y219.length co41)) (fun _ hk => trivial)⟩, ⟨by (with_reducible repeat (first | refine blk_drewN ?_ _ | refine blk_drew ?_ | refine blk_alloc ?_ _)); refine blk_far ?_ NB202_211.out _; (with_reducible repeat (first | refine blk_drewN ?_ _ | refine blk_drew ?_ | refine blk_alloc ?_ _)); exact BK202.out⟩, ⟨by (with_reducible repeat (first | refine blk_drewN ?_ _ | refine blk_drew ?_ | refine blk_alloc ?_ _)); refine blk_put (cs := #[.bool t210, .bool a1, .slice Ao38 x212002_1.length co38, .bool x212003_1, .bool x212004_1]) ?_ 2 _ rfl; (with_reducible repeat (first | refine blk_drewN ?_ _ | refine blk_drew ?_ | refine blk_alloc ?_ _)); exact BK211.out⟩, ⟨by repeat (first | (with_reducible first | exact HB.out | apply below_alloc | apply pw_below_drewN | apply below_drew1 | refine below_set ?_ GE202.out | refine below_set ?_ GE211.out) | exact HB.out)⟩⟩
                      · rw [if_neg c35] at H
                        exact absurd H (by simp)
                  · replace c29 := Bool.eq_false_iff.mpr c29
                    subst c29
                    have H1 : (header_Parse.l0 k1 t212 (t212.length : Int) (wrap64 (x36_1 + 1)) t210 a1 x212002_1 x212003_1 x212004_1) = some (r1, r2, r3, r4, r5) := by rw [if_neg (show ¬ (false = true) by decide)] at H; exact H
                    clear H
                    have H := H1
                    clear H1
                    have H' := Aside0.mk H
                    clear H
                    have p216 : 0 ≤ (x36_1 : Int) := of_decide_eq_true (by first | (with_reducible assumption) | assumption)
                    have q216 : x36_1 < (t212.length : Int) := of_decide_eq_true (by first | (with_reducible assumption) | assumption)
                    obtain ⟨ad216, e216, hx216_0⟩ := Kd.at_string (Kd.V_reads' HO_34.out).2.2 x36_1 p216 q216
                    cases e216
                    replace p216 := eq_true p216
                    replace q216 := eq_true q216
                    go_wp2_with (first | ((with_reducible refine gate_callee (f := 29) rfl ?_); refine goesL_ (some 50) rfl rfl Tryd.func29 (by kernel_rfl) rfl #[.string (rdOf ByteArray.empty t212 x36_1)] rfl (by (try simp only [List.map_toArray, List.map_cons, List.map_nil]); first | done | rfl | (simp only [List.length_drop, List.length_take]; rfl)) ?_; (with_reducible refine (header_may.calls k1 (rdOf ByteArray.empty t212 x36_1) false _ A28.out).mono ?_); rintro e w' ⟨rfl, ⟨nd, rfl⟩⟩; refine ⟨_, rfl, ?_⟩))
                    go_roundg k1
                    case measure => have := HK1.out; omega
                    case rel => exact ⟨(wrap64 (x36_1 + 1)), (x212002_1), (x212003_1), (x212004_1), (u212002), (by first | rfl | (simp; done) | (simp [*]; done)), H', ⟨by have := HK1.out; omega⟩, ⟨by (with_reducible repeat (first | apply Kd.V_alloc | apply Kd.V_drewN | apply Kd.V_drew)); exact HO_34.out⟩, ⟨by (with_reducible repeat (first | apply Kd.R_alloc | apply Kd.R_drewN | apply Kd.R_drew)); exact HO_212002.out⟩, ⟨by (with_reducible repeat (first | refine blk_drewN ?_ _ | refine blk_drew ?_ | refine blk_alloc ?_ _)); exact BK202.out⟩, ⟨by (with_reducible repeat (first | refine blk_drewN ?_ _ | refine blk_drew ?_ | refine blk_alloc ?_ _)); exact BK211.out⟩, ⟨by repeat (first | (with_reducible first | exact HB.out | apply below_alloc | apply pw_below_drewN | apply below_drew1 | refine below_set ?_ GE202.out | refine below_set ?_ GE211.out) | exact HB.out)⟩⟩
            · rw [if_neg c21] at H
              exact absurd H (by simp)
          · rw [if_neg c20] at H
            exact absurd H (by simp)
        · rw [if_neg c19] at H
          have c19b0 : decide (x36_1 < (t212.length : Int)) = false := decide_eq_false c19
          clear c19
          simp only [Option.some.injEq, Prod.mk.injEq] at H
          obtain ⟨rfl, rfl, rfl, rfl, rfl⟩ := H
          have hnb43 := NB211_202.out
          have hnc43 := NB202_211.out
          have hcz44_0 : wr.cell? ⟨gb211, 0, none⟩ = some (.bool t210) := (blk_cell BK211.out 0).trans rfl
          have hcz44_1 : wr.cell? ⟨gb211, 1, none⟩ = some (.bool a1) := (blk_cell BK211.out 1).trans rfl
          have hcz44_2 : wr.cell? ⟨gb211, 2, none⟩ = some (u212002) := (blk_cell BK211.out 2).trans rfl
          have hcz44_3 : wr.cell? ⟨gb211, 3, none⟩ = some (.bool x212003_1) := (blk_cell BK211.out 3).trans rfl
          have hcz44_4 : wr.cell? ⟨gb211, 4, none⟩ = some (.bool x212004_1) := (blk_cell BK211.out 4).trans rfl
          have hfz44_0 := blk_frozen BK211.out 0
          have hfz44_1 := blk_frozen BK211.out 1
          have hfz44_2 := blk_frozen BK211.out 2
          have hfz44_3 := blk_frozen BK211.out 3
          have hfz44_4 := blk_frozen BK211.out 4
          have hcz45_0 : wr.cell? ⟨gb202, 0, none⟩ = some (.bool false) := (blk_cell BK202.out 0).trans rfl
          have hcz45_1 : wr.cell? ⟨gb202, 1, none⟩ = some (.bool false) := (blk_cell BK202.out 1).trans rfl
          have hcz45_2 : wr.cell? ⟨gb202, 2, none⟩ = some (.slice none 0 0) := (blk_cell BK202.out 2).trans rfl
          have hcz45_3 : wr.cell? ⟨gb202, 3, none⟩ = some (.bool false) := (blk_cell BK202.out 3).trans rfl
          have hcz45_4 : wr.cell? ⟨gb202, 4, none⟩ = some (.bool false) := (blk_cell BK202.out 4).trans rfl
          have hfz45_0 := blk_frozen BK202.out 0
          have hfz45_1 := blk_frozen BK202.out 1
          have hfz45_2 := blk_frozen BK202.out 2
          have hfz45_3 := blk_frozen BK202.out 3
          have hfz45_4 := blk_frozen BK202.out 4
          obtain ⟨Ao46, co46, eo46⟩ := Kd.R_slice HO_212002.out
          subst eo46
          go_wp2
          refine bodyPost_ret (results_cell_row rfl _ _ gb202 26 #[.bool t210, .bool a1, .slice Ao46 x212002_1.length co46, .bool x212003_1, .bool x212004_1] (0, 0) _ rfl (by (with_reducible repeat (first | refine blk_drewN ?_ _ | refine blk_drew ?_ | refine blk_alloc ?_ _)); refine blk_put (cs := #[.bool t210, .bool a1, .slice Ao46 x212002_1.length co46, .bool x212003_1, .bool false]) ?_ 4 _ rfl; (with_reducible repeat (first | refine blk_drewN ?_ _ | refine blk_drew ?_ | refine blk_alloc ?_ _)); refine blk_put (cs := #[.bool t210, .bool a1, .slice Ao46 x212002_1.length co46, .bool false, .bool false]) ?_ 3 _ rfl; (with_reducible repeat (first | refine blk_drewN ?_ _ | refine blk_drew ?_ | refine blk_alloc ?_ _)); refine blk_put (cs := #[.bool t210, .bool a1, .slice none 0 0, .bool false, .bool false]) ?_ 2 _ rfl; (with_reducible repeat (first | refine blk_drewN ?_ _ | refine blk_drew ?_ | refine blk_alloc ?_ _)); refine blk_put (cs := #[.bool t210, .bool false, .slice none 0 0, .bool false, .bool false]) ?_ 1 _ rfl; (with_reducible repeat (first | refine blk_drewN ?_ _ | refine blk_drew ?_ | refine blk_alloc ?_ _)); refine blk_put (cs := #[.bool false, .bool false, .slice none 0 0, .bool false, .bool false]) ?_ 0 _ rfl; (with_reducible repeat (first | refine blk_drewN ?_ _ | refine blk_drew ?_ | refine blk_alloc ?_ _)); exact BK202.out) Tryd.underlying26 rfl (by kernel_rfl)) rfl ?_
          exact ⟨_, by first | rfl | (simp [errW_none, errW_some] <;> rfl) | (simp [*, errW_none, errW_some] <;> rfl), by (with_reducible repeat (first | apply Kd.R_alloc | apply Kd.R_drewN | apply Kd.R_drew)); exact Kd.R_mono (Kd.R_far (p := ⟨gb202, 4, none⟩) (Kd.R_far (p := ⟨gb202, 3, none⟩) (Kd.R_far (p := ⟨gb202, 2, none⟩) (Kd.R_far (p := ⟨gb202, 1, none⟩) (Kd.R_far (p := ⟨gb202, 0, none⟩) (Kd.R_types HO_212002.out BK202.out (by decide)) (fun _ hk => hk.2) (.bool t210)) (fun _ hk => hk.2) (.bool a1)) (fun _ hk => hk.2) (.slice Ao46 x212002_1.length co46)) (fun _ hk => hk.2) (.bool x212003_1)) (fun _ hk => hk.2) (.bool x212004_1)) (fun _ hk => trivial), by repeat (first | (with_reducible first | exact HB.out | apply below_alloc | apply pw_below_drewN | apply below_drew1 | refine below_set ?_ GE202.out | refine below_set ?_ GE211.out) | exact HB.out)⟩
  · replace c7 := Bool.eq_false_iff.mpr c7
    subst c7
    have H1 : (some (t210, a1, ([] : List ByteArray), true, true)) = some (r1, r2, r3, r4, r5) := by rw [if_neg (show ¬ (false = true) by decide)] at H; exact H
    clear H
    have H := H1
    clear H1
    simp only [Option.some.injEq, Prod.mk.injEq] at H
    obtain ⟨rfl, rfl, rfl, rfl, rfl⟩ := H
    go_enter Tryd.func13, Tryd.ntmps13
    go_wp2_with (first | ((with_reducible refine gate_dst (N := 4) rfl ?_); refine box_event ?hg (N := 4) ?hd (cs := #[.bool false, .bool false, .slice none 0 0, .bool false, .bool false]) (t := 26) ?hr ?_; (case hd => rfl); (case hg => rfl); (case hr => first | (go_simp; done) | (go_simp; rfl)); intro gb202 hg w47 hbox hb; have n0_ := Aside0.mk (below_step (by repeat (first | (with_reducible first | exact HB.out | apply below_alloc | apply pw_below_drewN | apply below_drew1) | exact HB.out)) hb); have n1_ := Aside0.mk (hbox); have n2_ := Aside0.mk ((by rw [hg]; exact (below_size (by repeat (first | (with_reducible first | exact HB.out | apply below_alloc | apply pw_below_drewN | apply below_drew1) | exact HB.out))) : w.heap.size ≤ gb202)); have n3_ := Aside0.mk ((by rw [hg]; exact (below_size (by repeat (first | (with_reducible first | exact HB.out | apply below_alloc | apply pw_below_drewN | apply below_drew1) | exact HB.out))) : w.heap.size ≤ gb202)); clear HB; have HB := n0_; have BK202 := n1_; have GW202 := n2_; have GE202 := n3_; clear n0_ n1_ n2_ n3_; clear hb hbox hg) | ((with_reducible refine gate_callee (f := 12) rfl ?_); refine goesL_ (some 14) rfl rfl Tryd.func12 (by kernel_rfl) rfl #[.string a0] rfl (by (try simp only [List.map_toArray, List.map_cons, List.map_nil]); first | done | rfl | (simp only [List.length_drop, List.length_take]; rfl)) ?_; (with_reducible refine (header_Parts.calls k a0 t203 _ A3.out).mono ?_); rintro e w48 ⟨v204, rfl, ho0, hb⟩; refine ⟨_, rfl, ?_⟩; have n0_ := Aside0.mk (Kd.S_lower ho0 (below_size (by repeat (first | (with_reducible first | exact HB.out | apply below_alloc | apply pw_below_drewN | apply below_drew1 | refine below_set ?_ GE202.out) | exact HB.out)))); have n1_ := Aside0.mk (blk_below (g := gb202) (o := .cells #[.bool false, .bool false, .slice none 0 0, .bool false, .bool false] 26 (0, 0)) (by (with_reducible repeat (first | refine blk_drewN ?_ _ | refine blk_drew ?_ | refine blk_alloc ?_ _)); exact BK202.out) hb); have n2_ := Aside0.mk (below_step (by repeat (first | (with_reducible first | exact HB.out | apply below_alloc | apply pw_below_drewN | apply below_drew1 | refine below_set ?_ GE202.out) | exact HB.out)) hb); clear BK202; clear HB; have HO205 := n0_; have BK202 := n1_; have HB := n2_; clear n0_ n1_ n2_; (try clear hb); (try clear hb2); (try clear hk); (try clear hi); (try clear ho0); obtain ⟨Ao49, co49, eo49⟩ := Kd.S_slice HO205.out; subst eo49) | ((with_reducible refine gate_callee (f := 27) rfl ?_); refine goesL_ (some 17) rfl rfl Tryd.func27 (by kernel_rfl) rfl #[.slice Ao49 t203.length co49, .string (⟨#[114, 101, 113, 117, 105, 114, 101, 45, 116, 114, 117, 115, 116, 101, 100, 45, 116, 121, 112, 101, 115, 45, 102, 111, 114]⟩ : ByteArray)] rfl (by (try simp only [List.map_toArray, List.map_cons, List.map_nil]); first | done | rfl | (simp only [List.length_drop, List.length_take]; rfl)) ?_; (with_reducible refine (header_named.calls k (fun k_ => (True ∧ k_ ≠ gb202)) _ _ t203 (⟨#[114, 101, 113, 117, 105, 114, 101, 45, 116, 114, 117, 115, 116, 101, 100, 45, 116, 121, 112, 101, 115, 45, 102, 111, 114]⟩ : ByteArray) t206 t209 _ ?side1 A4.out).mono ?_); (case side1 => exact Kd.S_V (Kd.S_types (HO205.out) BK202.out (by decide))); rintro e w50 ⟨v207, rfl, ho0, hb⟩; refine ⟨_, rfl, ?_⟩; have n0_ := Aside0.mk (Kd.S_below (by (with_reducible repeat (first | apply Kd.S_alloc | apply Kd.S_drewN | apply Kd.S_drew)); exact HO205.out) hb); have n1_ := Aside0.mk (Kd.V_lower (Kd.V_mono (ok' := fun k_ => k_ ≠ gb202) ho0 (fun k_ hk_ => Or.elim hk_ (fun hs_ => hs_.2) (fun hn_ => (Kd.freshB (g := gb202) (o := .cells #[.bool false, .bool false, .slice none 0 0, .bool false, .bool false] 26 (0, 0)) (by (with_reducible repeat (first | refine blk_drewN ?_ _ | refine blk_drew ?_ | refine blk_alloc ?_ _)); exact BK202.out) k_ hn_)))) (below_size (by repeat (first | (with_reducible first | exact HB.out | apply below_alloc | apply pw_below_drewN | apply below_drew1 | refine below_set ?_ GE202.out) | exact HB.out)))); have n2_ := Aside0.mk (blk_below (g := gb202) (o := .cells #[.bool false, .bool false, .slice none 0 0, .bool false, .bool false] 26 (0, 0)) (by (with_reducible repeat (first | refine blk_drewN ?_ _ | refine blk_drew ?_ | refine blk_alloc ?_ _)); exact BK202.out) hb); have n3_ := Aside0.mk (below_step (by repeat (first | (with_reducible first | exact HB.out | apply below_alloc | apply pw_below_drewN | apply below_drew1 | refine below_set ?_ GE202.out) | exact HB.out)) hb); clear HO205; clear BK202; clear HB; have HO205 := n0_; have HO208 := n1_; have BK202 := n2_; have HB := n3_; clear n0_ n1_ n2_ n3_; (try clear hb); (try clear hb2); (try clear hk); (try clear hi); (try clear ho0); obtain ⟨Ao51, co51, eo51⟩ := Kd.V_slice HO208.out; subst eo51) | ((with_reducible refine gate_callee (f := 28) rfl ?_); refine goesL_ (some 21) rfl rfl Tryd.func28 (by kernel_rfl) rfl #[.slice Ao51 t206.length co51, .string (⟨#[39, 115, 99, 114, 105, 112, 116, 39]⟩ : ByteArray)] rfl (by (try simp only [List.map_toArray, List.map_cons, List.map_nil]); first | done | rfl | (simp only [List.length_drop, List.length_take]; rfl)) ?_; (with_reducible refine (slices_Contains_string_string.calls k _ _ t206 (⟨#[39, 115, 99, 114, 105, 112, 116, 39]⟩ : ByteArray) t210 _ ?side1 ?side2 A5.out).mono ?_); (case side1 => repeat (first | exact (Kd.V_reads' HO208.out).2.2 | (with_reducible refine Kd.C_alloc ?_ _) | (with_reducible refine Kd.C_drewN ?_ _) | (with_reducible refine Kd.C_drew ?_))); (case side2 => exact (Kd.V_reads' HO208.out).2.1); rintro e w' ⟨rfl, ⟨nd, rfl⟩⟩; refine ⟨_, rfl, ?_⟩; (try (rw [drewN_self w50]; generalize hq_ : World.drewN w50 _ = w50; have n0_ : Aside0 (Kd.S (Kd.slice 9 Kd.string) 24 w50 w.heap.size (fun _ => True) (.slice Ao49 t203.length co49) t203) := ⟨by rw [← hq_]; exact (by (with_reducible repeat (first | apply Kd.S_alloc | apply Kd.S_drewN | apply Kd.S_drew)); exact HO205.out)⟩; have n1_ : Aside0 (Kd.V Kd.string 9 w50 w.heap.size (fun k_ => k_ ≠ gb202) (.slice Ao51 t206.length co51) t206) := ⟨by rw [← hq_]; exact (by (with_reducible repeat (first | apply Kd.V_alloc | apply Kd.V_drewN | apply Kd.V_drew)); exact HO208.out)⟩; have n2_ : Aside0 (w50.heap[gb202]? = some (.cells #[.bool false, .bool false, .slice none 0 0, .bool false, .bool false] 26 (0, 0))) := ⟨by rw [← hq_]; exact (by (with_reducible repeat (first | refine blk_drewN ?_ _ | refine blk_drew ?_ | refine blk_alloc ?_ _)); exact BK202.out)⟩; have n3_ : Aside0 (Below w.heap.size w w50) := ⟨by rw [← hq_]; exact (by repeat (first | (with_reducible first | exact HB.out | apply below_alloc | apply pw_below_drewN | apply below_drew1 | refine below_set ?_ GE202.out) | exact HB.out))⟩; clear HO205 HO208 BK202 HB hq_; have HO205 := n0_; have HO208 := n1_; have BK202 := n2_; have HB := n3_; clear n0_ n1_ n2_ n3_))) | ((with_reducible refine gate_dst (N := 8) rfl ?_); refine box_event ?hg (N := 8) ?hd (cs := #[.bool false, .bool false, .slice none 0 0, .bool false, .bool false]) (t := 26) ?hr ?_; (case hd => rfl); (case hg => rfl); (case hr => first | (go_simp; done) | (go_simp; rfl)); intro gb211 hg w52 hbox hb; have n0_ := Aside0.mk (Kd.S_below (by (with_reducible repeat (first | apply Kd.S_alloc | apply Kd.S_drewN | apply Kd.S_drew)); exact HO205.out) hb); have n1_ := Aside0.mk (Kd.V_below (Kd.V_elderB (by (with_reducible repeat (first | apply Kd.V_alloc | apply Kd.V_drewN | apply Kd.V_drew)); exact HO208.out) gb211 (Nat.le_of_eq hg.symm)) hb); have n2_ := Aside0.mk (blk_below (g := gb202) (o := .cells #[.bool false, .bool false, .slice none 0 0, .bool false, .bool false] 26 (0, 0)) (by (with_reducible repeat (first | refine blk_drewN ?_ _ | refine blk_drew ?_ | refine blk_alloc ?_ _)); exact BK202.out) hb); have n3_ := Aside0.mk (below_step (by repeat (first | (with_reducible first | exact HB.out | apply below_alloc | apply pw_below_drewN | apply below_drew1 | refine below_set ?_ GE202.out) | exact HB.out)) hb); have n4_ := Aside0.mk (hbox); have n5_ := Aside0.mk ((by rw [hg]; exact (below_size (by repeat (first | (with_reducible first | exact HB.out | apply below_alloc | apply pw_below_drewN | apply below_drew1 | refine below_set ?_ GE202.out) | exact HB.out))) : w.heap.size ≤ gb211)); have n6_ := Aside0.mk ((by rw [hg]; exact (below_size (by repeat (first | (with_reducible first | exact HB.out | apply below_alloc | apply pw_below_drewN | apply below_drew1 | refine below_set ?_ GE202.out) | exact HB.out))) : w.heap.size ≤ gb211)); have n7_ := Aside0.mk ((by rw [hg]; exact Nat.ne_of_lt (blk_lt (g := gb202) (o := .cells #[.bool false, .bool false, .slice none 0 0, .bool false, .bool false] 26 (0, 0)) (by (with_reducible repeat (first | refine blk_drewN ?_ _ | refine blk_drew ?_ | refine blk_alloc ?_ _)); exact BK202.out)) : gb202 ≠ gb211)); have n8_ := Aside0.mk ((by rw [hg]; exact Nat.ne_of_gt (blk_lt (g := gb202) (o := .cells #[.bool false, .bool false, .slice none 0 0, .bool false, .bool false] 26 (0, 0)) (by (with_reducible repeat (first | refine blk_drewN ?_ _ | refine blk_drew ?_ | refine blk_alloc ?_ _)); exact BK202.out)) : gb211 ≠ gb202)); clear HO205; clear HO208; clear BK202; clear HB; have HO205 := n0_; have HO208 := n1_; have BK202 := n2_; have HB := n3_; have BK211 := n4_; have GW211 := n5_; have GE211 := n6_; have NB202_211 := n7_; have NB211_202 := n8_; clear n0_ n1_ n2_ n3_ n4_ n5_ n6_ n7_ n8_; clear hb hbox hg; have hnb53 := NB211_202.out; have hnc53 := NB202_211.out; have hcz54_0 : w52.cell? ⟨gb211, 0, none⟩ = some (.bool false) := (blk_cell BK211.out 0).trans rfl; have hcz54_1 : w52.cell? ⟨gb211, 1, none⟩ = some (.bool false) := (blk_cell BK211.out 1).trans rfl; have hcz54_2 : w52.cell? ⟨gb211, 2, none⟩ = some (.slice none 0 0) := (blk_cell BK211.out 2).trans rfl; have hcz54_3 : w52.cell? ⟨gb211, 3, none⟩ = some (.bool false) := (blk_cell BK211.out 3).trans rfl; have hcz54_4 : w52.cell? ⟨gb211, 4, none⟩ = some (.bool false) := (blk_cell BK211.out 4).trans rfl; have hfz54_0 := blk_frozen BK211.out 0; have hfz54_1 := blk_frozen BK211.out 1; have hfz54_2 := blk_frozen BK211.out 2; have hfz54_3 := blk_frozen BK211.out 3; have hfz54_4 := blk_frozen BK211.out 4) | ((with_reducible refine gate_store (t := 26) (p := 8) rfl ?_); refine store_event (t := 26) (p := 8) (v := ?vo_w55) (w1 := (((((w52.setCell ⟨gb211, 0, none⟩ (.bool t210)).setCell ⟨gb211, 1, none⟩ (.bool a1)).setCell ⟨gb211, 2, none⟩ (.slice none 0 0)).setCell ⟨gb211, 3, none⟩ (.bool false)).setCell ⟨gb211, 4, none⟩ (.bool false))) ?hg ?ho ?hn ?hr ?_; (case ho => rfl); (case hg => rfl); (case hn => rfl); (case hr => first | (go_simp; done) | (go_simp; rfl)); intro w55 hw; have n0_ : Aside0 (Kd.S (Kd.slice 9 Kd.string) 24 w55 w.heap.size (fun _ => True) (.slice Ao49 t203.length co49) t203) := ⟨(by rw [hw]; exact (by (with_reducible repeat (first | apply Kd.S_alloc | apply Kd.S_drewN | apply Kd.S_drew)); exact Kd.S_mono (Kd.S_far (p := ⟨gb211, 4, none⟩) (Kd.S_far (p := ⟨gb211, 3, none⟩) (Kd.S_far (p := ⟨gb211, 2, none⟩) (Kd.S_far (p := ⟨gb211, 1, none⟩) (Kd.S_far (p := ⟨gb211, 0, none⟩) (Kd.S_types HO205.out BK211.out (by decide)) (fun _ hk => hk.2) (.bool t210)) (fun _ hk => hk.2) (.bool a1)) (fun _ hk => hk.2) (.slice none 0 0)) (fun _ hk => hk.2) (.bool false)) (fun _ hk => hk.2) (.bool false)) (fun _ hk => trivial)))⟩; have n1_ : Aside0 (Kd.V Kd.string 9 w55 w.heap.size (fun k_ => k_ ≠ gb202 ∧ k_ ≠ gb211) (.slice Ao51 t206.length co51) t206) := ⟨(by rw [hw]; exact (by (with_reducible repeat (first | apply Kd.V_alloc | apply Kd.V_drewN | apply Kd.V_drew)); exact Kd.V_mono (Kd.V_far (p := ⟨gb211, 4, none⟩) (Kd.V_far (p := ⟨gb211, 3, none⟩) (Kd.V_far (p := ⟨gb211, 2, none⟩) (Kd.V_far (p := ⟨gb211, 1, none⟩) (Kd.V_far (p := ⟨gb211, 0, none⟩) (Kd.V_mono HO208.out (fun k_ hk => (⟨hk, hk.2⟩ : _ ∧ k_ ≠ gb211))) (fun _ hk => hk.2) (.bool t210)) (fun _ hk => hk.2) (.bool a1)) (fun _ hk => hk.2) (.slice none 0 0)) (fun _ hk => hk.2) (.bool false)) (fun _ hk => hk.2) (.bool false)) (fun _ hk => ⟨hk.1.1, hk.1.2⟩)))⟩; have n2_ : Aside0 (w55.heap[gb202]? = some (.cells #[.bool false, .bool false, .slice none 0 0, .bool false, .bool false] 26 (0, 0))) := ⟨(by rw [hw]; exact (by (with_reducible repeat (first | refine blk_drewN ?_ _ | refine blk_drew ?_ | refine blk_alloc ?_ _)); refine blk_far ?_ NB202_211.out _; (with_reducible repeat (first | refine blk_drewN ?_ _ | refine blk_drew ?_ | refine blk_alloc ?_ _)); refine blk_far ?_ NB202_211.out _; (with_reducible repeat (first | refine blk_drewN ?_ _ | refine blk_drew ?_ | refine blk_alloc ?_ _)); refine blk_far ?_ NB202_211.out _; (with_reducible repeat (first | refine blk_drewN ?_ _ | refine blk_drew ?_ | refine blk_alloc ?_ _)); refine blk_far ?_ NB202_211.out _; (with_reducible repeat (first | refine blk_drewN ?_ _ | refine blk_drew ?_ | refine blk_alloc ?_ _)); refine blk_far ?_ NB202_211.out _; (with_reducible repeat (first | refine blk_drewN ?_ _ | refine blk_drew ?_ | refine blk_alloc ?_ _)); exact BK202.out))⟩; have n3_ : Aside0 (w55.heap[gb211]? = some (.cells #[.bool t210, .bool a1, .slice none 0 0, .bool false, .bool false] 26 (0, 0))) := ⟨(by rw [hw]; exact (by (with_reducible repeat (first | refine blk_drewN ?_ _ | refine blk_drew ?_ | refine blk_alloc ?_ _)); refine blk_put (cs := #[.bool t210, .bool a1, .slice none 0 0, .bool false, .bool false]) ?_ 4 _ rfl; (with_reducible repeat (first | refine blk_drewN ?_ _ | refine blk_drew ?_ | refine blk_alloc ?_ _)); refine blk_put (cs := #[.bool t210, .bool a1, .slice none 0 0, .bool false, .bool false]) ?_ 3 _ rfl; (with_reducible repeat (first | refine blk_drewN ?_ _ | refine blk_drew ?_ | refine blk_alloc ?_ _)); refine blk_put (cs := #[.bool t210, .bool a1, .slice none 0 0, .bool false, .bool false]) ?_ 2 _ rfl; (with_reducible repeat (first | refine blk_drewN ?_ _ | refine blk_drew ?_ | refine blk_alloc ?_ _)); refine blk_put (cs := #[.bool t210, .bool false, .slice none 0 0, .bool false, .bool false]) ?_ 1 _ rfl; (with_reducible repeat (first | refine blk_drewN ?_ _ | refine blk_drew ?_ | refine blk_alloc ?_ _)); refine blk_put (cs := #[.bool false, .bool false, .slice none 0 0, .bool false, .bool false]) ?_ 0 _ rfl; (with_reducible repeat (first | refine blk_drewN ?_ _ | refine blk_drew ?_ | refine blk_alloc ?_ _)); exact BK211.out))⟩; have n4_ : Aside0 (Below w.heap.size w w55) := ⟨(by rw [hw]; exact (by repeat (first | (with_reducible first | exact HB.out | apply below_alloc | apply pw_below_drewN | apply below_drew1 | refine below_set ?_ GE202.out | refine below_set ?_ GE211.out) | exact HB.out)))⟩; clear hw; clear HO205; clear HO208; clear BK202; clear BK211; clear HB; have HO205 := n0_; have HO208 := n1_; have BK202 := n2_; have BK211 := n3_; have HB := n4_; clear n0_ n1_ n2_ n3_ n4_) | ((with_reducible refine gate_callee (f := 27) rfl ?_); refine goesL_ (some 26) rfl rfl Tryd.func27 (by kernel_rfl) rfl #[.slice Ao49 t203.length co49, .string (⟨#[116, 114, 117, 115, 116, 101, 100, 45, 116, 121, 112, 101, 115]⟩ : ByteArray)] rfl (by (try simp only [List.map_toArray, List.map_cons, List.map_nil]); first | done | rfl | (simp only [List.length_drop, List.length_take]; rfl)) ?_; (with_reducible refine (header_named.calls k (fun k_ => ((True ∧ k_ ≠ gb202) ∧ k_ ≠ gb211)) _ _ t203 (⟨#[116, 114, 117, 115, 116, 101, 100, 45, 116, 121, 112, 101, 115]⟩ : ByteArray) t212 false _ ?side1 A6.out).mono ?_); (case side1 => exact Kd.S_V (Kd.S_types (Kd.S_types (HO205.out) BK202.out (by decide)) BK211.out (by decide))); rintro e w56 ⟨v213, rfl, ho0, hb⟩; refine ⟨_, rfl, ?_⟩; have n0_ := Aside0.mk (Kd.S_below (by (with_reducible repeat (first | apply Kd.S_alloc | apply Kd.S_drewN | apply Kd.S_drew)); exact HO205.out) hb); have n1_ := Aside0.mk (Kd.V_below (by (with_reducible repeat (first | apply Kd.V_alloc | apply Kd.V_drewN | apply Kd.V_drew)); exact HO208.out) hb); have n2_ := Aside0.mk (Kd.V_lower (Kd.V_mono (ok' := fun k_ => k_ ≠ gb202 ∧ k_ ≠ gb211) ho0 (fun k_ hk_ => ⟨Or.elim hk_ (fun hs_ => hs_.1.2) (fun hn_ => (Kd.freshB (g := gb202) (o := .cells #[.bool false, .bool false, .slice none 0 0, .bool false, .bool false] 26 (0, 0)) (by (with_reducible repeat (first | refine blk_drewN ?_ _ | refine blk_drew ?_ | refine blk_alloc ?_ _)); exact BK202.out) k_ hn_)), Or.elim hk_ (fun hs_ => hs_.2) (fun hn_ => (Kd.freshB (g := gb211) (o := .cells #[.bool t210, .bool a1, .slice none 0 0, .bool false, .bool false] 26 (0, 0)) (by (with_reducible repeat (first | refine blk_drewN ?_ _ | refine blk_drew ?_ | refine blk_alloc ?_ _)); exact BK211.out) k_ hn_))⟩)) (below_size (by repeat (first | (with_reducible first | exact HB.out | apply below_alloc | apply pw_below_drewN | apply below_drew1 | refine below_set ?_ GE202.out | refine below_set ?_ GE211.out) | exact HB.out)))); have n3_ := Aside0.mk (blk_below (g := gb202) (o := .cells #[.bool false, .bool false, .slice none 0 0, .bool false, .bool false] 26 (0, 0)) (by (with_reducible repeat (first | refine blk_drewN ?_ _ | refine blk_drew ?_ | refine blk_alloc ?_ _)); exact BK202.out) hb); have n4_ := Aside0.mk (blk_below (g := gb211) (o := .cells #[.bool t210, .bool a1, .slice none 0 0, .bool false, .bool false] 26 (0, 0)) (by (with_reducible repeat (first | refine blk_drewN ?_ _ | refine blk_drew ?_ | refine blk_alloc ?_ _)); exact BK211.out) hb); have n5_ := Aside0.mk (below_step (by repeat (first | (with_reducible first | exact HB.out | apply below_alloc | apply pw_below_drewN | apply below_drew1 | refine below_set ?_ GE202.out | refine below_set ?_ GE211.out) | exact HB.out)) hb); clear HO205; clear HO208; clear BK202; clear BK211; clear HB; have HO205 := n0_; have HO208 := n1_; have HO214 := n2_; have BK202 := n3_; have BK211 := n4_; have HB := n5_; clear n0_ n1_ n2_ n3_ n4_ n5_; (try clear hb); (try clear hb2); (try clear hk); (try clear hi); (try clear ho0); have hcz57_0 : w56.cell? ⟨gb211, 0, none⟩ = some (.bool t210) := (blk_cell BK211.out 0).trans rfl; have hcz57_1 : w56.cell? ⟨gb211, 1, none⟩ = some (.bool a1) := (blk_cell BK211.out 1).trans rfl; have hcz57_2 : w56.cell? ⟨gb211, 2, none⟩ = some (.slice none 0 0) := (blk_cell BK211.out 2).trans rfl; have hcz57_3 : w56.cell? ⟨gb211, 3, none⟩ = some (.bool false) := (blk_cell BK211.out 3).trans rfl; have hcz57_4 : w56.cell? ⟨gb211, 4, none⟩ = some (.bool false) := (blk_cell BK211.out 4).trans rfl; have hfz57_0 := blk_frozen BK211.out 0; have hfz57_1 := blk_frozen BK211.out 1; have hfz57_2 := blk_frozen BK211.out 2; have hfz57_3 := blk_frozen BK211.out 3; have hfz57_4 := blk_frozen BK211.out 4; have hcz58_0 : w56.cell? ⟨gb202, 0, none⟩ = some (.bool false) := (blk_cell BK202.out 0).trans rfl; have hcz58_1 : w56.cell? ⟨gb202, 1, none⟩ = some (.bool false) := (blk_cell BK202.out 1).trans rfl; have hcz58_2 : w56.cell? ⟨gb202, 2, none⟩ = some (.slice none 0 0) := (blk_cell BK202.out 2).trans rfl; have hcz58_3 : w56.cell? ⟨gb202, 3, none⟩ = some (.bool false) := (blk_cell BK202.out 3).trans rfl; have hcz58_4 : w56.cell? ⟨gb202, 4, none⟩ = some (.bool false) := (blk_cell BK202.out 4).trans rfl; have hfz58_0 := blk_frozen BK202.out 0; have hfz58_1 := blk_frozen BK202.out 1; have hfz58_2 := blk_frozen BK202.out 2; have hfz58_3 := blk_frozen BK202.out 3; have hfz58_4 := blk_frozen BK202.out 4))
    refine bodyPost_ret (results_cell_row rfl _ _ gb202 26 #[.bool t210, .bool a1, .slice none 0 0, .bool true, .bool true] (0, 0) _ rfl (by (with_reducible repeat (first | refine blk_drewN ?_ _ | refine blk_drew ?_ | refine blk_alloc ?_ _)); refine blk_put (cs := #[.bool t210, .bool a1, .slice none 0 0, .bool true, .bool false]) ?_ 4 _ rfl; (with_reducible repeat (first | refine blk_drewN ?_ _ | refine blk_drew ?_ | refine blk_alloc ?_ _)); refine blk_put (cs := #[.bool t210, .bool a1, .slice none 0 0, .bool false, .bool false]) ?_ 3 _ rfl; (with_reducible repeat (first | refine blk_drewN ?_ _ | refine blk_drew ?_ | refine blk_alloc ?_ _)); refine blk_put (cs := #[.bool t210, .bool a1, .slice none 0 0, .bool false, .bool false]) ?_ 2 _ rfl; (with_reducible repeat (first | refine blk_drewN ?_ _ | refine blk_drew ?_ | refine blk_alloc ?_ _)); refine blk_put (cs := #[.bool t210, .bool false, .slice none 0 0, .bool false, .bool false]) ?_ 1 _ rfl; (with_reducible repeat (first | refine blk_drewN ?_ _ | refine blk_drew ?_ | refine blk_alloc ?_ _)); refine blk_put (cs := #[.bool false, .bool false, .slice none 0 0, .bool false, .bool false]) ?_ 0 _ rfl; (with_reducible repeat (first | refine blk_drewN ?_ _ | refine blk_drew ?_ | refine blk_alloc ?_ _)); refine blk_far ?_ NB202_211.out _; (with_reducible repeat (first | refine blk_drewN ?_ _ | refine blk_drew ?_ | refine blk_alloc ?_ _)); refine blk_far ?_ NB202_211.out _; (with_reducible repeat (first | refine blk_drewN ?_ _ | refine blk_drew ?_ | refine blk_alloc ?_ _)); exact BK202.out) Tryd.underlying26 rfl (by kernel_rfl)) rfl ?_
    exact ⟨.slice none 0 0, by first | rfl | (simp [errW_none, errW_some] <;> rfl) | (simp [*, errW_none, errW_some] <;> rfl), by first | exact Kd.R_nil _ _ _ _ _ | exact Kd.N_nil _ _ _ _ _ | exact Kd.V_nil _ _ _ _ _ | exact Kd.Q_nil _ _ _ _ _ | exact Kd.S_nil _ _ _ _ _, by repeat (first | (with_reducible first | exact HB.out | apply below_alloc | apply pw_below_drewN | apply below_drew1 | refine below_set ?_ GE202.out | refine below_set ?_ GE211.out) | exact HB.out)⟩

/-! ### boltingref02_Equal: function 15 -/
def boltingref02_Equal.l0 : Nat → List ByteArray → List ByteArray → Int → Option (Bool)
  | 0, _, _, _ => none
  | k + 1, x0, x1, x5 => if x5 < (x0.length : Int) then (if 0 ≤ x5 then (if x5 < (x1.length : Int) then (if (rdOf ByteArray.empty x0 x5).toList = (rdOf ByteArray.empty x1 x5).toList then (boltingref02_Equal.l0 k x0 x1 (wrap64 (x5 + 1))) else (some false)) else (none)) else (none)) else (some true)
def boltingref02_Equal.f (k : Nat) (l0 : List ByteArray) (l1 : List ByteArray) : Option (Bool) := if (l0.length : Int) = (l1.length : Int) then (boltingref02_Equal.l0 k l0 l1 0) else (some false)
theorem boltingref02_Equal.mono_l : ∀ k, (∀ y0 y1 y2, LeO (boltingref02_Equal.l0 k y0 y1 y2) (boltingref02_Equal.l0 (k + 1) y0 y1 y2))
  | 0 => fun _ _ _ r h => by simp [boltingref02_Equal.l0] at h
  | k + 1 => by
    have ih0 := boltingref02_Equal.mono_l k
    · intro y0 y1 y2
      unfold boltingref02_Equal.l0
      repeat' first
      | (with_reducible exact ih0 _ _ _)
      | (with_reducible exact LeO.refl _)
      | (with_reducible exact LeO.none _)
      | (with_reducible refine LeO.ite ?_ ?_)
      | (with_reducible refine LeO.bind ?_ (fun _ => ?_))
      | exact ih0 _ _ _
      | exact LeO.none _
      | refine LeO.ite ?_ ?_
      | refine LeO.bind ?_ (fun _ => ?_)
theorem boltingref02_Equal.mono : ∀ a0 a1 k, LeO (boltingref02_Equal.f k a0 a1) (boltingref02_Equal.f (k + 1) a0 a1) := by
  intro a0 a1 k
  have ih0 := boltingref02_Equal.mono_l k
  unfold boltingref02_Equal.f
  repeat' first
      | (with_reducible exact ih0 _ _ _)
      | (with_reducible exact LeO.refl _)
      | (with_reducible exact LeO.none _)
      | (with_reducible refine LeO.ite ?_ ?_)
      | (with_reducible refine LeO.bind ?_ (fun _ => ?_))
      | exact ih0 _ _ _
      | exact LeO.none _
      | refine LeO.ite ?_ ?_
      | refine LeO.bind ?_ (fun _ => ?_)
set_option maxHeartbeats 8000000 in
set_option maxRecDepth 100000 in
theorem boltingref02_Equal.calls (k : Nat) (A0 : Option Addr) (c0 : Nat) (l0 : List ByteArray) (A1 : Option Addr) (c1 : Nat) (l1 : List ByteArray) (r : Bool) (w : World) (hr0 : Kd.C Kd.string w A0 l0.length l0) (hc0 : l0.length ≤ c0) (hr1 : Kd.C Kd.string w A1 l1.length l1) (hc1 : l1.length ≤ c1) (h : boltingref02_Equal.f k l0 l1 = some r) :
    Calls Tryd.prog 15 #[.slice A0 l0.length c0, .slice A1 l1.length c1] w fun e w' => e = .returned (.bool r) ∧ Drawn0 w w' := by
  have HR0 := Aside0.mk hr0
  have HC0 := Aside0.mk hc0
  clear hr0 hc0
  have HR1 := Aside0.mk hr1
  have HC1 := Aside0.mk hc1
  clear hr1 hc1
  have H : (if (l0.length : Int) = (l1.length : Int) then (boltingref02_Equal.l0 k l0 l1 0) else (some false)) = some r := h
  clear h
  by_cases c3 : (l0.length : Int) = (l1.length : Int)
  · rw [if_pos c3] at H
    have c3b0 : ((l0.length : Int) == (l1.length : Int)) = true := beq_iff_eq.mpr c3
    have c3b1 : ((l0.length : Int) != (l1.length : Int)) = false := bne_eq_false_iff_eq.mpr c3
    have c3b2 : (l0.length == l1.length) = true := by first | simpa using c3 | (simp at c3 ⊢; omega)
    clear c3
    have H' := Aside0.mk H
    clear H
    go_enter Tryd.func15, Tryd.ntmps15
    go_wp2
    repeat (go_quiet (fail); try go_wp2)
    go_loopg [5] k (fun kq v5 w' => ∃ (x5_1 : Int), v5 = .int .i64 x5_1 ∧ Aside0 (boltingref02_Equal.l0 kq l0 l1 x5_1 = some r) ∧ Aside0 (kq ≤ k) ∧ Drawn0 w w')
    case atStart => exact ⟨(0), (by first | rfl | (simp; done) | (simp [*]; done)), H', ⟨Nat.le_refl _⟩, by repeat (first | exact Drawn0.refl _ | apply Drawn0.step)⟩
    case round =>
      clear H'
      try clear c1
      try clear p2
      try clear c3
      try clear c3b0
      try clear c3b1
      try clear c3b2
      obtain ⟨x5_1, rfl, HA, HK1, ⟨m1, rfl⟩⟩ := hrel
      cases gk with
      | zero => exact absurd HA.out (by simp [boltingref02_Equal.l0])
      | succ k1 =>
        have H := HA.out
        clear HA
        simp only [boltingref02_Equal.l0] at H
        by_cases c4 : x5_1 < (l0.length : Int)
        · rw [if_pos c4] at H
          have c4b0 : decide (x5_1 < (l0.length : Int)) = true := decide_eq_true c4
          clear c4
          by_cases c5 : 0 ≤ x5_1
          · rw [if_pos c5] at H
            have c5b0 : decide (0 ≤ x5_1) = true := decide_eq_true c5
            clear c5
            by_cases c6 : x5_1 < (l1.length : Int)
            · rw [if_pos c6] at H
              have c6b0 : decide (x5_1 < (l1.length : Int)) = true := decide_eq_true c6
              clear c6
              by_cases c7 : (rdOf ByteArray.empty l0 x5_1).toList = (rdOf ByteArray.empty l1 x5_1).toList
              · rw [if_pos c7] at H
                have c7b0 : ((rdOf ByteArray.empty l0 x5_1).toList == (rdOf ByteArray.empty l1 x5_1).toList) = true := beq_iff_eq.mpr c7
                have c7b1 : ((rdOf ByteArray.empty l0 x5_1).toList != (rdOf ByteArray.empty l1 x5_1).toList) = false := bne_eq_false_iff_eq.mpr c7
                clear c7
                have H' := Aside0.mk H
                clear H
                have p222 : 0 ≤ (x5_1 : Int) := of_decide_eq_true (by first | (with_reducible assumption) | assumption)
                have q222 : x5_1 < (l0.length : Int) := of_decide_eq_true (by first | (with_reducible assumption) | assumption)
                obtain ⟨ad222, e222, hx222_0⟩ := Kd.at_string HR0.out x5_1 p222 q222
                cases e222
                replace p222 := eq_true p222
                replace q222 := eq_true q222
                have p223 : 0 ≤ (x5_1 : Int) := of_decide_eq_true (by first | (with_reducible assumption) | assumption)
                have q223 : x5_1 < (l1.length : Int) := of_decide_eq_true (by first | (with_reducible assumption) | assumption)
                obtain ⟨ad223, e223, hx223_0⟩ := Kd.at_string HR1.out x5_1 p223 q223
                cases e223
                replace p223 := eq_true p223
                replace q223 := eq_true q223
                go_wp2
                repeat (go_quiet (fail); try go_wp2)
                go_roundg k1
                case measure => have := HK1.out; omega
                case rel => exact ⟨(wrap64 (x5_1 + 1)), (by first | rfl | (simp; done) | (simp [*]; done)), H', ⟨by have := HK1.out; omega⟩, by repeat (first | exact Drawn0.refl _ | apply Drawn0.step)⟩
              · rw [if_neg c7] at H
                have c7b0 : ((rdOf ByteArray.empty l0 x5_1).toList == (rdOf ByteArray.empty l1 x5_1).toList) = false := beq_eq_false_iff_ne.mpr c7
                have c7b1 : ((rdOf ByteArray.empty l0 x5_1).toList != (rdOf ByteArray.empty l1 x5_1).toList) = true := bne_iff_ne.mpr c7
                obtain rfl := Option.some.inj H
                have p222 : 0 ≤ (x5_1 : Int) := of_decide_eq_true (by first | (with_reducible assumption) | assumption)
                have q222 : x5_1 < (l0.length : Int) := of_decide_eq_true (by first | (with_reducible assumption) | assumption)
                obtain ⟨ad222, e222, hx222_0⟩ := Kd.at_string HR0.out x5_1 p222 q222
                cases e222
                replace p222 := eq_true p222
                replace q222 := eq_true q222
                have p223 : 0 ≤ (x5_1 : Int) := of_decide_eq_true (by first | (with_reducible assumption) | assumption)
                have q223 : x5_1 < (l1.length : Int) := of_decide_eq_true (by first | (with_reducible assumption) | assumption)
                obtain ⟨ad223, e223, hx223_0⟩ := Kd.at_string HR1.out x5_1 p223 q223
                cases e223
                replace p223 := eq_true p223
                replace q223 := eq_true q223
                go_wp2
                repeat (go_quiet (fail); try go_wp2)
                go_ret
                exact ⟨by first | rfl | (simp; done) | (simp [*]; done) | (simp; generalize ByteArray.toList _ = l_; cases l_ <;> rfl), by repeat (first | exact Drawn0.refl _ | apply Drawn0.step)⟩
            · rw [if_neg c6] at H
              exact absurd H (by simp)
          · rw [if_neg c5] at H
            exact absurd H (by simp)
        · rw [if_neg c4] at H
          have c4b0 : decide (x5_1 < (l0.length : Int)) = false := decide_eq_false c4
          clear c4
          obtain rfl := Option.some.inj H
          go_wp2
          repeat (go_quiet (fail); try go_wp2)
          go_ret
          exact ⟨by first | rfl | (simp; done) | (simp [*]; done) | (simp; generalize ByteArray.toList _ = l_; cases l_ <;> rfl), by repeat (first | exact Drawn0.refl _ | apply Drawn0.step)⟩
  · rw [if_neg c3] at H
    have c3b0 : ((l0.length : Int) == (l1.length : Int)) = false := beq_eq_false_iff_ne.mpr c3
    have c3b1 : ((l0.length : Int) != (l1.length : Int)) = true := bne_iff_ne.mpr c3
    have c3b2 : (l0.length == l1.length) = false := by first | simpa using c3 | (simp at c3 ⊢; omega)
    obtain rfl := Option.some.inj H
    go_enter Tryd.func15, Tryd.ntmps15
    go_wp2
    repeat (go_quiet (fail); try go_wp2)
    go_ret
    exact ⟨by first | rfl | (simp; done) | (simp [*]; done) | (simp; generalize ByteArray.toList _ = l_; cases l_ <;> rfl), by repeat (first | exact Drawn0.refl _ | apply Drawn0.step)⟩

/-! ### boltingref15_Same: function 14 -/
def boltingref15_Same.f (k : Nat) (a0_0 : Bool) (a0_1 : Bool) (l0_2 : List ByteArray) (a0_3 : Bool) (a0_4 : Bool) (a1_0 : Bool) (a1_1 : Bool) (l1_2 : List ByteArray) (a1_3 : Bool) (a1_4 : Bool) : Option (Bool) := if (a0_0 == a1_0) = true then (if (a0_1 == a1_1) = true then (if (a0_3 == a1_3) = true then (if (a0_4 == a1_4) = true then ((boltingref02_Equal.f k l0_2 l1_2).bind fun t226 => (some t226)) else (some false)) else (some false)) else (some false)) else (some false)
theorem boltingref15_Same.mono : ∀ a0 a1 a2 a3 a4 a5 a6 a7 a8 a9 k, LeO (boltingref15_Same.f k a0 a1 a2 a3 a4 a5 a6 a7 a8 a9) (boltingref15_Same.f (k + 1) a0 a1 a2 a3 a4 a5 a6 a7 a8 a9) := by
  intro a0 a1 a2 a3 a4 a5 a6 a7 a8 a9 k
  unfold boltingref15_Same.f
  repeat' first
      | (with_reducible exact boltingref02_Equal.mono _ _ _)
      | (with_reducible exact LeO.refl _)
      | (with_reducible exact LeO.none _)
      | (with_reducible refine LeO.ite ?_ ?_)
      | (with_reducible refine LeO.bind ?_ (fun _ => ?_))
      | exact boltingref02_Equal.mono _ _ _
      | exact LeO.none _
      | refine LeO.ite ?_ ?_
      | refine LeO.bind ?_ (fun _ => ?_)
set_option maxHeartbeats 8000000 in
set_option maxRecDepth 100000 in
theorem boltingref15_Same.calls (k : Nat) (a0_0 : Bool) (a0_1 : Bool) (A0_2 : Option Addr) (c0_2 : Nat) (l0_2 : List ByteArray) (a0_3 : Bool) (a0_4 : Bool) (a1_0 : Bool) (a1_1 : Bool) (A1_2 : Option Addr) (c1_2 : Nat) (l1_2 : List ByteArray) (a1_3 : Bool) (a1_4 : Bool) (r : Bool) (w : World) (hr0_2 : Kd.C Kd.string w A0_2 l0_2.length l0_2) (hc0_2 : l0_2.length ≤ c0_2) (hr1_2 : Kd.C Kd.string w A1_2 l1_2.length l1_2) (hc1_2 : l1_2.length ≤ c1_2) (h : boltingref15_Same.f k a0_0 a0_1 l0_2 a0_3 a0_4 a1_0 a1_1 l1_2 a1_3 a1_4 = some r) :
    Calls Tryd.prog 14 #[.agg #[.bool a0_0, .bool a0_1, .slice A0_2 l0_2.length c0_2, .bool a0_3, .bool a0_4], .agg #[.bool a1_0, .bool a1_1, .slice A1_2 l1_2.length c1_2, .bool a1_3, .bool a1_4]] w fun e w' => e = .returned (.bool r) ∧ Below w.heap.size w w' := by
  have hu26 := Tryd.underlying26
  have HR0_2 := Aside0.mk hr0_2
  have HC0_2 := Aside0.mk hc0_2
  clear hr0_2 hc0_2
  have HR1_2 := Aside0.mk hr1_2
  have HC1_2 := Aside0.mk hc1_2
  clear hr1_2 hc1_2
  have HB := Aside0.mk (Below.refl w.heap.size w)
  have H : (if (a0_0 == a1_0) = true then (if (a0_1 == a1_1) = true then (if (a0_3 == a1_3) = true then (if (a0_4 == a1_4) = true then ((boltingref02_Equal.f k l0_2 l1_2).bind fun t226 => (some t226)) else (some false)) else (some false)) else (some false)) else (some false)) = some r := h
  clear h
  by_cases c3 : (a0_0 == a1_0) = true
  · rw [if_pos c3] at H
    have c3b0 : (a0_0 == a1_0) = true := c3
    (try (have c3b1 : decide (a0_0 = a1_0) = true := by simpa using c3))
    (try (have c3b2 : (a0_0 == a1_0) = true := by simpa using c3))
    clear c3
    by_cases c4 : (a0_1 == a1_1) = true
    · rw [if_pos c4] at H
      have c4b0 : (a0_1 == a1_1) = true := c4
      (try (have c4b1 : decide (a0_1 = a1_1) = true := by simpa using c4))
      (try (have c4b2 : (a0_1 == a1_1) = true := by simpa using c4))
      clear c4
      by_cases c5 : (a0_3 == a1_3) = true
      · rw [if_pos c5] at H
        have c5b0 : (a0_3 == a1_3) = true := c5
        (try (have c5b1 : decide (a0_3 = a1_3) = true := by simpa using c5))
        (try (have c5b2 : (a0_3 == a1_3) = true := by simpa using c5))
        clear c5
        by_cases c6 : (a0_4 == a1_4) = true
        · rw [if_pos c6] at H
          have c6b0 : (a0_4 == a1_4) = true := c6
          (try (have c6b1 : decide (a0_4 = a1_4) = true := by simpa using c6))
          (try (have c6b2 : (a0_4 == a1_4) = true := by simpa using c6))
          clear c6
          replace H := Option.bind_eq_some_iff.mp H
          obtain ⟨t226, A70, H⟩ := H
          replace H : (some t226) = some r := H
          have A7 := Aside0.mk A70
          clear A70
          obtain rfl := Option.some.inj H
          go_enter Tryd.func14, Tryd.ntmps14
          go_wp2_with (first | ((with_reducible refine gate_dst (N := 2) rfl ?_); refine box_event ?hg (N := 2) ?hd (cs := #[.bool a0_0, .bool a0_1, .slice A0_2 l0_2.length c0_2, .bool a0_3, .bool a0_4]) (t := 26) ?hr ?_; (case hd => rfl); (case hg => rfl); (case hr => first | (go_simp; done) | (go_simp; rfl)); intro gb224 hg w8 hbox hb; have n0_ := Aside0.mk (below_step (by repeat (first | (with_reducible first | exact HB.out | apply below_alloc | apply pw_below_drewN | apply below_drew1) | exact HB.out)) hb); have n1_ := Aside0.mk (hbox); have n2_ := Aside0.mk ((by rw [hg]; exact (below_size (by repeat (first | (with_reducible first | exact HB.out | apply below_alloc | apply pw_below_drewN | apply below_drew1) | exact HB.out))) : w.heap.size ≤ gb224)); have n3_ := Aside0.mk ((by rw [hg]; exact (below_size (by repeat (first | (with_reducible first | exact HB.out | apply below_alloc | apply pw_below_drewN | apply below_drew1) | exact HB.out))) : w.heap.size ≤ gb224)); clear HB; have HB := n0_; have BK224 := n1_; have GW224 := n2_; have GE224 := n3_; clear n0_ n1_ n2_ n3_; clear hb hbox hg) | ((with_reducible refine gate_dst (N := 3) rfl ?_); refine box_event ?hg (N := 3) ?hd (cs := #[.bool a1_0, .bool a1_1, .slice A1_2 l1_2.length c1_2, .bool a1_3, .bool a1_4]) (t := 26) ?hr ?_; (case hd => rfl); (case hg => rfl); (case hr => first | (go_simp; done) | (go_simp; rfl)); intro gb225 hg w9 hbox hb; have n0_ := Aside0.mk (blk_below (g := gb224) (o := .cells #[.bool a0_0, .bool a0_1, .slice A0_2 l0_2.length c0_2, .bool a0_3, .bool a0_4] 26 (0, 0)) (by (with_reducible repeat (first | refine blk_drewN ?_ _ | refine blk_drew ?_ | refine blk_alloc ?_ _)); exact BK224.out) hb); have n1_ := Aside0.mk (below_step (by repeat (first | (with_reducible first | exact HB.out | apply below_alloc | apply pw_below_drewN | apply below_drew1 | refine below_set ?_ GE224.out) | exact HB.out)) hb); have n2_ := Aside0.mk (hbox); have n3_ := Aside0.mk ((by rw [hg]; exact (below_size (by repeat (first | (with_reducible first | exact HB.out | apply below_alloc | apply pw_below_drewN | apply below_drew1 | refine below_set ?_ GE224.out) | exact HB.out))) : w.heap.size ≤ gb225)); have n4_ := Aside0.mk ((by rw [hg]; exact (below_size (by repeat (first | (with_reducible first | exact HB.out | apply below_alloc | apply pw_below_drewN | apply below_drew1 | refine below_set ?_ GE224.out) | exact HB.out))) : w.heap.size ≤ gb225)); have n5_ := Aside0.mk ((by rw [hg]; exact Nat.ne_of_lt (blk_lt (g := gb224) (o := .cells #[.bool a0_0, .bool a0_1, .slice A0_2 l0_2.length c0_2, .bool a0_3, .bool a0_4] 26 (0, 0)) (by (with_reducible repeat (first | refine blk_drewN ?_ _ | refine blk_drew ?_ | refine blk_alloc ?_ _)); exact BK224.out)) : gb224 ≠ gb225)); have n6_ := Aside0.mk ((by rw [hg]; exact Nat.ne_of_gt (blk_lt (g := gb224) (o := .cells #[.bool a0_0, .bool a0_1, .slice A0_2 l0_2.length c0_2, .bool a0_3, .bool a0_4] 26 (0, 0)) (by (with_reducible repeat (first | refine blk_drewN ?_ _ | refine blk_drew ?_ | refine blk_alloc ?_ _)); exact BK224.out)) : gb225 ≠ gb224)); clear BK224; clear HB; have BK224 := n0_; have HB := n1_; have BK225 := n2_; have GW225 := n3_; have GE225 := n4_; have NB224_225 := n5_; have NB225_224 := n6_; clear n0_ n1_ n2_ n3_ n4_ n5_ n6_; clear hb hbox hg; have hnb10 := NB224_225.out; have hnc10 := NB225_224.out; have hcz11_0 : w9.cell? ⟨gb224, 0, none⟩ = some (.bool a0_0) := (blk_cell BK224.out 0).trans rfl; have hcz11_1 : w9.cell? ⟨gb224, 1, none⟩ = some (.bool a0_1) := (blk_cell BK224.out 1).trans rfl; have hcz11_2 : w9.cell? ⟨gb224, 2, none⟩ = some (.slice A0_2 l0_2.length c0_2) := (blk_cell BK224.out 2).trans rfl; have hcz11_3 : w9.cell? ⟨gb224, 3, none⟩ = some (.bool a0_3) := (blk_cell BK224.out 3).trans rfl; have hcz11_4 : w9.cell? ⟨gb224, 4, none⟩ = some (.bool a0_4) := (blk_cell BK224.out 4).trans rfl; have hfz11_0 := blk_frozen BK224.out 0; have hfz11_1 := blk_frozen BK224.out 1; have hfz11_2 := blk_frozen BK224.out 2; have hfz11_3 := blk_frozen BK224.out 3; have hfz11_4 := blk_frozen BK224.out 4; have hcz12_0 : w9.cell? ⟨gb225, 0, none⟩ = some (.bool a1_0) := (blk_cell BK225.out 0).trans rfl; have hcz12_1 : w9.cell? ⟨gb225, 1, none⟩ = some (.bool a1_1) := (blk_cell BK225.out 1).trans rfl; have hcz12_2 : w9.cell? ⟨gb225, 2, none⟩ = some (.slice A1_2 l1_2.length c1_2) := (blk_cell BK225.out 2).trans rfl; have hcz12_3 : w9.cell? ⟨gb225, 3, none⟩ = some (.bool a1_3) := (blk_cell BK225.out 3).trans rfl; have hcz12_4 : w9.cell? ⟨gb225, 4, none⟩ = some (.bool a1_4) := (blk_cell BK225.out 4).trans rfl; have hfz12_0 := blk_frozen BK225.out 0; have hfz12_1 := blk_frozen BK225.out 1; have hfz12_2 := blk_frozen BK225.out 2; have hfz12_3 := blk_frozen BK225.out 3; have hfz12_4 := blk_frozen BK225.out 4) | (go_at_call 15; (with_reducible refine (boltingref02_Equal.calls k _ _ l0_2 _ _ l1_2 t226 _ ?side1 ?side2 ?side3 ?side4 A7.out).mono ?_); (case side1 => repeat (first | exact (Kd.C_below HR0_2.out HB.out) | (with_reducible refine Kd.C_alloc ?_ _) | (with_reducible refine Kd.C_drewN ?_ _) | (with_reducible refine Kd.C_drew ?_))); (case side2 => exact HC0_2.out); (case side3 => repeat (first | exact (Kd.C_below HR1_2.out HB.out) | (with_reducible refine Kd.C_alloc ?_ _) | (with_reducible refine Kd.C_drewN ?_ _) | (with_reducible refine Kd.C_drew ?_))); (case side4 => exact HC1_2.out); rintro e w' ⟨rfl, ⟨nd, rfl⟩⟩))
          go_ret
          exact ⟨by first | rfl | (simp [errW_none, errW_some] <;> rfl) | (simp [*, errW_none, errW_some] <;> rfl), by repeat (first | (with_reducible first | exact HB.out | apply below_alloc | apply pw_below_drewN | apply below_drew1 | refine below_set ?_ GE224.out | refine below_set ?_ GE225.out) | exact HB.out)⟩
        · rw [if_neg c6] at H
          have c6b0 : (a0_4 == a1_4) = false := by simpa using c6
          (try (have c6b1 : decide (a0_4 = a1_4) = false := by simpa using c6))
          (try (have c6b2 : (a0_4 == a1_4) = false := by simpa using c6))
          (try (have c6b3 : ¬ (a0_4 = a1_4) := by simpa using c6))
          clear c6
          obtain rfl := Option.some.inj H
          go_enter Tryd.func14, Tryd.ntmps14
          go_wp2_with (first | ((with_reducible refine gate_dst (N := 2) rfl ?_); refine box_event ?hg (N := 2) ?hd (cs := #[.bool a0_0, .bool a0_1, .slice A0_2 l0_2.length c0_2, .bool a0_3, .bool a0_4]) (t := 26) ?hr ?_; (case hd => rfl); (case hg => rfl); (case hr => first | (go_simp; done) | (go_simp; rfl)); intro gb224 hg w13 hbox hb; have n0_ := Aside0.mk (below_step (by repeat (first | (with_reducible first | exact HB.out | apply below_alloc | apply pw_below_drewN | apply below_drew1) | exact HB.out)) hb); have n1_ := Aside0.mk (hbox); have n2_ := Aside0.mk ((by rw [hg]; exact (below_size (by repeat (first | (with_reducible first | exact HB.out | apply below_alloc | apply pw_below_drewN | apply below_drew1) | exact HB.out))) : w.heap.size ≤ gb224)); have n3_ := Aside0.mk ((by rw [hg]; exact (below_size (by repeat (first | (with_reducible first | exact HB.out | apply below_alloc | apply pw_below_drewN | apply below_drew1) | exact HB.out))) : w.heap.size ≤ gb224)); clear HB; have HB := n0_; have BK224 := n1_; have GW224 := n2_; have GE224 := n3_; clear n0_ n1_ n2_ n3_; clear hb hbox hg) | ((with_reducible refine gate_dst (N := 3) rfl ?_); refine box_event ?hg (N := 3) ?hd (cs := #[.bool a1_0, .bool a1_1, .slice A1_2 l1_2.length c1_2, .bool a1_3, .bool a1_4]) (t := 26) ?hr ?_; (case hd => rfl); (case hg => rfl); (case hr => first | (go_simp; done) | (go_simp; rfl)); intro gb225 hg w14 hbox hb; have n0_ := Aside0.mk (blk_below (g := gb224) (o := .cells #[.bool a0_0, .bool a0_1, .slice A0_2 l0_2.length c0_2, .bool a0_3, .bool a0_4] 26 (0, 0)) (by (with_reducible repeat (first | refine blk_drewN ?_ _ | refine blk_drew ?_ | refine blk_alloc ?_ _)); exact BK224.out) hb); have n1_ := Aside0.mk (below_step (by repeat (first | (with_reducible first | exact HB.out | apply below_alloc | apply pw_below_drewN | apply below_drew1 | refine below_set ?_ GE224.out) | exact HB.out)) hb); have n2_ := Aside0.mk (hbox); have n3_ := Aside0.mk ((by rw [hg]; exact (below_size (by repeat (first | (with_reducible first | exact HB.out | apply below_alloc | apply pw_below_drewN | apply below_drew1 | refine below_set ?_ GE224.out) | exact HB.out))) : w.heap.size ≤ gb225)); have n4_ := Aside0.mk ((by rw [hg]; exact (below_size (by repeat (first | (with_reducible first | exact HB.out | apply below_alloc | apply pw_below_drewN | apply below_drew1 | refine below_set ?_ GE224.out) | exact HB.out))) : w.heap.size ≤ gb225)); have n5_ := Aside0.mk ((by rw [hg]; exact Nat.ne_of_lt (blk_lt (g := gb224) (o := .cells #[.bool a0_0, .bool a0_1, .slice A0_2 l0_2.length c0_2, .bool a0_3, .bool a0_4] 26 (0, 0)) (by (with_reducible repeat (first | refine blk_drewN ?_ _ | refine blk_drew ?_ | refine blk_alloc ?_ _)); exact BK224.out)) : gb224 ≠ gb225)); have n6_ := Aside0.mk ((by rw [hg]; exact Nat.ne_of_gt (blk_lt (g := gb224) (o := .cells #[.bool a0_0, .bool a0_1, .slice A0_2 l0_2.length c0_2, .bool a0_3, .bool a0_4] 26 (0, 0)) (by (with_reducible repeat (first | refine blk_drewN ?_ _ | refine blk_drew ?_ | refine blk_alloc ?_ _)); exact BK224.out)) : gb225 ≠ gb224)); clear BK224; clear HB; have BK224 := n0_; have HB := n1_; have BK225 := n2_; have GW225 := n3_; have GE225 := n4_; have NB224_225 := n5_; have NB225_224 := n6_; clear n0_ n1_ n2_ n3_ n4_ n5_ n6_; clear hb hbox hg; have hnb15 := NB224_225.out; have hnc15 := NB225_224.out; have hcz16_0 : w14.cell? ⟨gb224, 0, none⟩ = some (.bool a0_0) := (blk_cell BK224.out 0).trans rfl; have hcz16_1 : w14.cell? ⟨gb224, 1, none⟩ = some (.bool a0_1) := (blk_cell BK224.out 1).trans rfl; have hcz16_2 : w14.cell? ⟨gb224, 2, none⟩ = some (.slice A0_2 l0_2.length c0_2) := (blk_cell BK224.out 2).trans rfl; have hcz16_3 : w14.cell? ⟨gb224, 3, none⟩ = some (.bool a0_3) := (blk_cell BK224.out 3).trans rfl; have hcz16_4 : w14.cell? ⟨gb224, 4, none⟩ = some (.bool a0_4) := (blk_cell BK224.out 4).trans rfl; have hfz16_0 := blk_frozen BK224.out 0; have hfz16_1 := blk_frozen BK224.out 1; have hfz16_2 := blk_frozen BK224.out 2; have hfz16_3 := blk_frozen BK224.out 3; have hfz16_4 := blk_frozen BK224.out 4; have hcz17_0 : w14.cell? ⟨gb225, 0, none⟩ = some (.bool a1_0) := (blk_cell BK225.out 0).trans rfl; have hcz17_1 : w14.cell? ⟨gb225, 1, none⟩ = some (.bool a1_1) := (blk_cell BK225.out 1).trans rfl; have hcz17_2 : w14.cell? ⟨gb225, 2, none⟩ = some (.slice A1_2 l1_2.length c1_2) := (blk_cell BK225.out 2).trans rfl; have hcz17_3 : w14.cell? ⟨gb225, 3, none⟩ = some (.bool a1_3) := (blk_cell BK225.out 3).trans rfl; have hcz17_4 : w14.cell? ⟨gb225, 4, none⟩ = some (.bool a1_4) := (blk_cell BK225.out 4).trans rfl; have hfz17_0 := blk_frozen BK225.out 0; have hfz17_1 := blk_frozen BK225.out 1; have hfz17_2 := blk_frozen BK225.out 2; have hfz17_3 := blk_frozen BK225.out 3; have hfz17_4 := blk_frozen BK225.out 4))
          go_ret
          exact ⟨by first | rfl | (simp [errW_none, errW_some] <;> rfl) | (simp [*, errW_none, errW_some] <;> rfl), by repeat (first | (with_reducible first | exact HB.out | apply below_alloc | apply pw_below_drewN | apply below_drew1 | refine below_set ?_ GE224.out | refine below_set ?_ GE225.out) | exact HB.out)⟩
      · rw [if_neg c5] at H
        have c5b0 : (a0_3 == a1_3) = false := by simpa using c5
        (try (have c5b1 : decide (a0_3 = a1_3) = false := by simpa using c5))
        (try (have c5b2 : (a0_3 == a1_3) = false := by simpa using c5))
        (try (have c5b3 : ¬ (a0_3 = a1_3) := by simpa using c5))
        clear c5
        obtain rfl := Option.some.inj H
        go_enter Tryd.func14, Tryd.ntmps14
        go_wp2_with (first | ((with_reducible refine gate_dst (N := 2) rfl ?_); refine box_event ?hg (N := 2) ?hd (cs := #[.bool a0_0, .bool a0_1, .slice A0_2 l0_2.length c0_2, .bool a0_3, .bool a0_4]) (t := 26) ?hr ?_; (case hd => rfl); (case hg => rfl); (case hr => first | (go_simp; done) | (go_simp; rfl)); intro gb224 hg w18 hbox hb; have n0_ := Aside0.mk (below_step (by repeat (first | (with_reducible first | exact HB.out | apply below_alloc | apply pw_below_drewN | apply below_drew1) | exact HB.out)) hb); have n1_ := Aside0.mk (hbox); have n2_ := Aside0.mk ((by rw [hg]; exact (below_size (by repeat (first | (with_reducible first | exact HB.out | apply below_alloc | apply pw_below_drewN | apply below_drew1) | exact HB.out))) : w.heap.size ≤ gb224)); have n3_ := Aside0.mk ((by rw [hg]; exact (below_size (by repeat (first | (with_reducible first | exact HB.out | apply below_alloc | apply pw_below_drewN | apply below_drew1) | exact HB.out))) : w.heap.size ≤ gb224)); clear HB; have HB := n0_; have BK224 := n1_; have GW224 := n2_; have GE224 := n3_; clear n0_ n1_ n2_ n3_; clear hb hbox hg) | ((with_reducible refine gate_dst (N := 3) rfl ?_); refine box_event ?hg (N := 3) ?hd (cs := #[.bool a1_0, .bool a1_1, .slice A1_2 l1_2.length c1_2, .bool a1_3, .bool a1_4]) (t := 26) ?hr ?_; (case hd => rfl); (case hg => rfl); (case hr => first | (go_simp; done) | (go_simp; rfl)); intro gb225 hg w19 hbox hb; have n0_ := Aside0.mk (blk_below (g := gb224) (o := .cells #[.bool a0_0, .bool a0_1, .slice A0_2 l0_2.length c0_2, .bool a0_3, .bool a0_4] 26 (0, 0)) (by (with_reducible repeat (first | refine blk_drewN ?_ _ | refine blk_drew ?_ | refine blk_alloc ?_ _)); exact BK224.out) hb); have n1_ := Aside0.mk (below_step (by repeat (first | (with_reducible first | exact HB.out | apply below_alloc | apply pw_below_drewN | apply below_drew1 | refine below_set ?_ GE224.out) | exact HB.out)) hb); have n2_ := Aside0.mk (hbox); have n3_ := Aside0.mk ((by rw [hg]; exact (below_size (by repeat (first | (with_reducible first | exact HB.out | apply below_alloc | apply pw_below_drewN | apply below_drew1 | refine below_set ?_ GE224.out) | exact HB.out))) : w.heap.size ≤ gb225)); have n4_ := Aside0.mk ((by rw [hg]; exact (below_size (by repeat (first | (with_reducible first | exact HB.out | apply below_alloc | apply pw_below_drewN | apply below_drew1 | refine below_set ?_ GE224.out) | exact HB.out))) : w.heap.size ≤ gb225)); have n5_ := Aside0.mk ((by rw [hg]; exact Nat.ne_of_lt (blk_lt (g := gb224) (o := .cells #[.bool a0_0, .bool a0_1, .slice A0_2 l0_2.length c0_2, .bool a0_3, .bool a0_4] 26 (0, 0)) (by (with_reducible repeat (first | refine blk_drewN ?_ _ | refine blk_drew ?_ | refine blk_alloc ?_ _)); exact BK224.out)) : gb224 ≠ gb225)); have n6_ := Aside0.mk ((by rw [hg]; exact Nat.ne_of_gt (blk_lt (g := gb224) (o := .cells #[.bool a0_0, .bool a0_1, .slice A0_2 l0_2.length c0_2, .bool a0_3, .bool a0_4] 26 (0, 0)) (by (with_reducible repeat (first | refine blk_drewN ?_ _ | refine blk_drew ?_ | refine blk_alloc ?_ _)); exact BK224.out)) : gb225 ≠ gb224)); clear BK224; clear HB; have BK224 := n0_; have HB := n1_; have BK225 := n2_; have GW225 := n3_; have GE225 := n4_; have NB224_225 := n5_; have NB225_224 := n6_; clear n0_ n1_ n2_ n3_ n4_ n5_ n6_; clear hb hbox hg; have hnb20 := NB224_225.out; have hnc20 := NB225_224.out; have hcz21_0 : w19.cell? ⟨gb224, 0, none⟩ = some (.bool a0_0) := (blk_cell BK224.out 0).trans rfl; have hcz21_1 : w19.cell? ⟨gb224, 1, none⟩ = some (.bool a0_1) := (blk_cell BK224.out 1).trans rfl; have hcz21_2 : w19.cell? ⟨gb224, 2, none⟩ = some (.slice A0_2 l0_2.length c0_2) := (blk_cell BK224.out 2).trans rfl; have hcz21_3 : w19.cell? ⟨gb224, 3, none⟩ = some (.bool a0_3) := (blk_cell BK224.out 3).trans rfl; have hcz21_4 : w19.cell? ⟨gb224, 4, none⟩ = some (.bool a0_4) := (blk_cell BK224.out 4).trans rfl; have hfz21_0 := blk_frozen BK224.out 0; have hfz21_1 := blk_frozen BK224.out 1; have hfz21_2 := blk_frozen BK224.out 2; have hfz21_3 := blk_frozen BK224.out 3; have hfz21_4 := blk_frozen BK224.out 4; have hcz22_0 : w19.cell? ⟨gb225, 0, none⟩ = some (.bool a1_0) := (blk_cell BK225.out 0).trans rfl; have hcz22_1 : w19.cell? ⟨gb225, 1, none⟩ = some (.bool a1_1) := (blk_cell BK225.out 1).trans rfl; have hcz22_2 : w19.cell? ⟨gb225, 2, none⟩ = some (.slice A1_2 l1_2.length c1_2) := (blk_cell BK225.out 2).trans rfl; have hcz22_3 : w19.cell? ⟨gb225, 3, none⟩ = some (.bool a1_3) := (blk_cell BK225.out 3).trans rfl; have hcz22_4 : w19.cell? ⟨gb225, 4, none⟩ = some (.bool a1_4) := (blk_cell BK225.out 4).trans rfl; have hfz22_0 := blk_frozen BK225.out 0; have hfz22_1 := blk_frozen BK225.out 1; have hfz22_2 := blk_frozen BK225.out 2; have hfz22_3 := blk_frozen BK225.out 3; have hfz22_4 := blk_frozen BK225.out 4))
        go_ret
        exact ⟨by first | rfl | (simp [errW_none, errW_some] <;> rfl) | (simp [*, errW_none, errW_some] <;> rfl), by repeat (first | (with_reducible first | exact HB.out | apply below_alloc | apply pw_below_drewN | apply below_drew1 | refine below_set ?_ GE224.out | refine below_set ?_ GE225.out) | exact HB.out)⟩
    · rw [if_neg c4] at H
      have c4b0 : (a0_1 == a1_1) = false := by simpa using c4
      (try (have c4b1 : decide (a0_1 = a1_1) = false := by simpa using c4))
      (try (have c4b2 : (a0_1 == a1_1) = false := by simpa using c4))
      (try (have c4b3 : ¬ (a0_1 = a1_1) := by simpa using c4))
      clear c4
      obtain rfl := Option.some.inj H
      go_enter Tryd.func14, Tryd.ntmps14
      go_wp2_with (first | ((with_reducible refine gate_dst (N := 2) rfl ?_); refine box_event ?hg (N := 2) ?hd (cs := #[.bool a0_0, .bool a0_1, .slice A0_2 l0_2.length c0_2, .bool a0_3, .bool a0_4]) (t := 26) ?hr ?_; (case hd => rfl); (case hg => rfl); (case hr => first | (go_simp; done) | (go_simp; rfl)); intro gb224 hg w23 hbox hb; have n0_ := Aside0.mk (below_step (by repeat (first | (with_reducible first | exact HB.out | apply below_alloc | apply pw_below_drewN | apply below_drew1) | exact HB.out)) hb); have n1_ := Aside0.mk (hbox); have n2_ := Aside0.mk ((by rw [hg]; exact (below_size (by repeat (first | (with_reducible first | exact HB.out | apply below_alloc | apply pw_below_drewN | apply below_drew1) | exact HB.out))) : w.heap.size ≤ gb224)); have n3_ := Aside0.mk ((by rw [hg]; exact (below_size (by repeat (first | (with_reducible first | exact HB.out | apply below_alloc | apply pw_below_drewN | apply below_drew1) | exact HB.out))) : w.heap.size ≤ gb224)); clear HB; have HB := n0_; have BK224 := n1_; have GW224 := n2_; have GE224 := n3_; clear n0_ n1_ n2_ n3_; clear hb hbox hg) | ((with_reducible refine gate_dst (N := 3) rfl ?_); refine box_event ?hg (N := 3) ?hd (cs := #[.bool a1_0, .bool a1_1, .slice A1_2 l1_2.length c1_2, .bool a1_3, .bool a1_4]) (t := 26) ?hr ?_; (case hd => rfl); (case hg => rfl); (case hr => first | (go_simp; done) | (go_simp; rfl)); intro gb225 hg w24 hbox hb; have n0_ := Aside0.mk (blk_below (g := gb224) (o := .cells #[.bool a0_0, .bool a0_1, .slice A0_2 l0_2.length c0_2, .bool a0_3, .bool a0_4] 26 (0, 0)) (by (with_reducible repeat (first | refine blk_drewN ?_ _ | refine blk_drew ?_ | refine blk_alloc ?_ _)); exact BK224.out) hb); have n1_ := Aside0.mk (below_step (by repeat (first | (with_reducible first | exact HB.out | apply below_alloc | apply pw_below_drewN | apply below_drew1 | refine below_set ?_ GE224.out) | exact HB.out)) hb); have n2_ := Aside0.mk (hbox); have n3_ := Aside0.mk ((by rw [hg]; exact (below_size (by repeat (first | (with_reducible first | exact HB.out | apply below_alloc | apply pw_below_drewN | apply below_drew1 | refine below_set ?_ GE224.out) | exact HB.out))) : w.heap.size ≤ gb225)); have n4_ := Aside0.mk ((by rw [hg]; exact (below_size (by repeat (first | (with_reducible first | exact HB.out | apply below_alloc | apply pw_below_drewN | apply below_drew1 | refine below_set ?_ GE224.out) | exact HB.out))) : w.heap.size ≤ gb225)); have n5_ := Aside0.mk ((by rw [hg]; exact Nat.ne_of_lt (blk_lt (g := gb224) (o := .cells #[.bool a0_0, .bool a0_1, .slice A0_2 l0_2.length c0_2, .bool a0_3, .bool a0_4] 26 (0, 0)) (by (with_reducible repeat (first | refine blk_drewN ?_ _ | refine blk_drew ?_ | refine blk_alloc ?_ _)); exact BK224.out)) : gb224 ≠ gb225)); have n6_ := Aside0.mk ((by rw [hg]; exact Nat.ne_of_gt (blk_lt (g := gb224) (o := .cells #[.bool a0_0, .bool a0_1, .slice A0_2 l0_2.length c0_2, .bool a0_3, .bool a0_4] 26 (0, 0)) (by (with_reducible repeat (first | refine blk_drewN ?_ _ | refine blk_drew ?_ | refine blk_alloc ?_ _)); exact BK224.out)) : gb225 ≠ gb224)); clear BK224; clear HB; have BK224 := n0_; have HB := n1_; have BK225 := n2_; have GW225 := n3_; have GE225 := n4_; have NB224_225 := n5_; have NB225_224 := n6_; clear n0_ n1_ n2_ n3_ n4_ n5_ n6_; clear hb hbox hg; have hnb25 := NB224_225.out; have hnc25 := NB225_224.out; have hcz26_0 : w24.cell? ⟨gb224, 0, none⟩ = some (.bool a0_0) := (blk_cell BK224.out 0).trans rfl; have hcz26_1 : w24.cell? ⟨gb224, 1, none⟩ = some (.bool a0_1) := (blk_cell BK224.out 1).trans rfl; have hcz26_2 : w24.cell? ⟨gb224, 2, none⟩ = some (.slice A0_2 l0_2.length c0_2) := (blk_cell BK224.out 2).trans rfl; have hcz26_3 : w24.cell? ⟨gb224, 3, none⟩ = some (.bool a0_3) := (blk_cell BK224.out 3).trans rfl; have hcz26_4 : w24.cell? ⟨gb224, 4, none⟩ = some (.bool a0_4) := (blk_cell BK224.out 4).trans rfl; have hfz26_0 := blk_frozen BK224.out 0; have hfz26_1 := blk_frozen BK224.out 1; have hfz26_2 := blk_frozen BK224.out 2; have hfz26_3 := blk_frozen BK224.out 3; have hfz26_4 := blk_frozen BK224.out 4; have hcz27_0 : w24.cell? ⟨gb225, 0, none⟩ = some (.bool a1_0) := (blk_cell BK225.out 0).trans rfl; have hcz27_1 : w24.cell? ⟨gb225, 1, none⟩ = some (.bool a1_1) := (blk_cell BK225.out 1).trans rfl; have hcz27_2 : w24.cell? ⟨gb225, 2, none⟩ = some (.slice A1_2 l1_2.length c1_2) := (blk_cell BK225.out 2).trans rfl; have hcz27_3 : w24.cell? ⟨gb225, 3, none⟩ = some (.bool a1_3) := (blk_cell BK225.out 3).trans rfl; have hcz27_4 : w24.cell? ⟨gb225, 4, none⟩ = some (.bool a1_4) := (blk_cell BK225.out 4).trans rfl; have hfz27_0 := blk_frozen BK225.out 0; have hfz27_1 := blk_frozen BK225.out 1; have hfz27_2 := blk_frozen BK225.out 2; have hfz27_3 := blk_frozen BK225.out 3; have hfz27_4 := blk_frozen BK225.out 4))
      go_ret
      exact ⟨by first | rfl | (simp [errW_none, errW_some] <;> rfl) | (simp [*, errW_none, errW_some] <;> rfl), by repeat (first | (with_reducible first | exact HB.out | apply below_alloc | apply pw_below_drewN | apply below_drew1 | refine below_set ?_ GE224.out | refine below_set ?_ GE225.out) | exact HB.out)⟩
  · rw [if_neg c3] at H
    have c3b0 : (a0_0 == a1_0) = false := by simpa using c3
    (try (have c3b1 : decide (a0_0 = a1_0) = false := by simpa using c3))
    (try (have c3b2 : (a0_0 == a1_0) = false := by simpa using c3))
    (try (have c3b3 : ¬ (a0_0 = a1_0) := by simpa using c3))
    clear c3
    obtain rfl := Option.some.inj H
    go_enter Tryd.func14, Tryd.ntmps14
    go_wp2_with (first | ((with_reducible refine gate_dst (N := 2) rfl ?_); refine box_event ?hg (N := 2) ?hd (cs := #[.bool a0_0, .bool a0_1, .slice A0_2 l0_2.length c0_2, .bool a0_3, .bool a0_4]) (t := 26) ?hr ?_; (case hd => rfl); (case hg => rfl); (case hr => first | (go_simp; done) | (go_simp; rfl)); intro gb224 hg w28 hbox hb; have n0_ := Aside0.mk (below_step (by repeat (first | (with_reducible first | exact HB.out | apply below_alloc | apply pw_below_drewN | apply below_drew1) | exact HB.out)) hb); have n1_ := Aside0.mk (hbox); have n2_ := Aside0.mk ((by rw [hg]; exact (below_size (by repeat (first | (with_reducible first | exact HB.out | apply below_alloc | apply pw_below_drewN | apply below_drew1) | exact HB.out))) : w.heap.size ≤ gb224)); have n3_ := Aside0.mk ((by rw [hg]; exact (below_size (by repeat (first | (with_reducible first | exact HB.out | apply below_alloc | apply pw_below_drewN | apply below_drew1) | exact HB.out))) : w.heap.size ≤ gb224)); clear HB; have HB := n0_; have BK224 := n1_; have GW224 := n2_; have GE224 := n3_; clear n0_ n1_ n2_ n3_; clear hb hbox hg) | ((with_reducible refine gate_dst (N := 3) rfl ?_); refine box_event ?hg (N := 3) ?hd (cs := #[.bool a1_0, .bool a1_1, .slice A1_2 l1_2.length c1_2, .bool a1_3, .bool a1_4]) (t := 26) ?hr ?_; (case hd => rfl); (case hg => rfl); (case hr => first | (go_simp; done) | (go_simp; rfl)); intro gb225 hg w29 hbox hb; have n0_ := Aside0.mk (blk_below (g := gb224) (o := .cells #[.bool a0_0, .bool a0_1, .slice A0_2 l0_2.length c0_2, .bool a0_3, .bool a0_4] 26 (0, 0)) (by (with_reducible repeat (first | refine blk_drewN ?_ _ | refine blk_drew ?_ | refine blk_alloc ?_ _)); exact BK224.out) hb); have n1_ := Aside0.mk (below_step (by repeat (first | (with_reducible first | exact HB.out | apply below_alloc | apply pw_below_drewN | apply below_drew1 | refine below_set ?_ GE224.out) | exact HB.out)) hb); have n2_ := Aside0.mk (hbox); have n3_ := Aside0.mk ((by rw [hg]; exact (below_size (by repeat (first | (with_reducible first | exact HB.out | apply below_alloc | apply pw_below_drewN | apply below_drew1 | refine below_set ?_ GE224.out) | exact HB.out))) : w.heap.size ≤ gb225)); have n4_ := Aside0.mk ((by rw [hg]; exact (below_size (by repeat (first | (with_reducible first | exact HB.out | apply below_alloc | apply pw_below_drewN | apply below_drew1 | refine below_set ?_ GE224.out) | exact HB.out))) : w.heap.size ≤ gb225)); have n5_ := Aside0.mk ((by rw [hg]; exact Nat.ne_of_lt (blk_lt (g := gb224) (o := .cells #[.bool a0_0, .bool a0_1, .slice A0_2 l0_2.length c0_2, .bool a0_3, .bool a0_4] 26 (0, 0)) (by (with_reducible repeat (first | refine blk_drewN ?_ _ | refine blk_drew ?_ | refine blk_alloc ?_ _)); exact BK224.out)) : gb224 ≠ gb225)); have n6_ := Aside0.mk ((by rw [hg]; exact Nat.ne_of_gt (blk_lt (g := gb224) (o := .cells #[.bool a0_0, .bool a0_1, .slice A0_2 l0_2.length c0_2, .bool a0_3, .bool a0_4] 26 (0, 0)) (by (with_reducible repeat (first | refine blk_drewN ?_ _ | refine blk_drew ?_ | refine blk_alloc ?_ _)); exact BK224.out)) : gb225 ≠ gb224)); clear BK224; clear HB; have BK224 := n0_; have HB := n1_; have BK225 := n2_; have GW225 := n3_; have GE225 := n4_; have NB224_225 := n5_; have NB225_224 := n6_; clear n0_ n1_ n2_ n3_ n4_ n5_ n6_; clear hb hbox hg; have hnb30 := NB224_225.out; have hnc30 := NB225_224.out; have hcz31_0 : w29.cell? ⟨gb224, 0, none⟩ = some (.bool a0_0) := (blk_cell BK224.out 0).trans rfl; have hcz31_1 : w29.cell? ⟨gb224, 1, none⟩ = some (.bool a0_1) := (blk_cell BK224.out 1).trans rfl; have hcz31_2 : w29.cell? ⟨gb224, 2, none⟩ = some (.slice A0_2 l0_2.length c0_2) := (blk_cell BK224.out 2).trans rfl; have hcz31_3 : w29.cell? ⟨gb224, 3, none⟩ = some (.bool a0_3) := (blk_cell BK224.out 3).trans rfl; have hcz31_4 : w29.cell? ⟨gb224, 4, none⟩ = some (.bool a0_4) := (blk_cell BK224.out 4).trans rfl; have hfz31_0 := blk_frozen BK224.out 0; have hfz31_1 := blk_frozen BK224.out 1; have hfz31_2 := blk_frozen BK224.out 2; have hfz31_3 := blk_frozen BK224.out 3; have hfz31_4 := blk_frozen BK224.out 4; have hcz32_0 : w29.cell? ⟨gb225, 0, none⟩ = some (.bool a1_0) := (blk_cell BK225.out 0).trans rfl; have hcz32_1 : w29.cell? ⟨gb225, 1, none⟩ = some (.bool a1_1) := (blk_cell BK225.out 1).trans rfl; have hcz32_2 : w29.cell? ⟨gb225, 2, none⟩ = some (.slice A1_2 l1_2.length c1_2) := (blk_cell BK225.out 2).trans rfl; have hcz32_3 : w29.cell? ⟨gb225, 3, none⟩ = some (.bool a1_3) := (blk_cell BK225.out 3).trans rfl; have hcz32_4 : w29.cell? ⟨gb225, 4, none⟩ = some (.bool a1_4) := (blk_cell BK225.out 4).trans rfl; have hfz32_0 := blk_frozen BK225.out 0; have hfz32_1 := blk_frozen BK225.out 1; have hfz32_2 := blk_frozen BK225.out 2; have hfz32_3 := blk_frozen BK225.out 3; have hfz32_4 := blk_frozen BK225.out 4))
    go_ret
    exact ⟨by first | rfl | (simp [errW_none, errW_some] <;> rfl) | (simp [*, errW_none, errW_some] <;> rfl), by repeat (first | (with_reducible first | exact HB.out | apply below_alloc | apply pw_below_drewN | apply below_drew1 | refine below_set ?_ GE224.out | refine below_set ?_ GE225.out) | exact HB.out)⟩

end Go.Proofs.YthblohknnlkidaaDoor.Pr
namespace Go.Proofs.YthblohknnlkidaaDoor.Pr
open Go.RowKit Go.Proofs.YthblohknnlkidaaDoorW.PrintWords Go.Proofs.YthblohknnlkidaaDoorW.PrintLast Go.Proofs.YthblohknnlkidaaDoorW.PrintMore
attribute [local go_sem] max2_int min2_int max_two min_two max_three min_three max_four min_four   -- for this text's walks alone
set_option linter.unusedVariables false
set_option linter.unusedSimpArgs false

/-! ### header_Allows: function 17 -/
def header_Allows.f (k : Nat) (a0_0 : Bool) (a0_1 : Bool) (l0_2 : List ByteArray) (a0_3 : Bool) (a0_4 : Bool) (a1 : ByteArray) (a2 : Int) : Option (Bool) := (header_may.f k a1).bind fun t228 => (if t228 = true then (if a0_3 = true then (if a2 ≤ 0 then (some true) else (some a0_4)) else ((slices_Contains_string_string.f k l0_2 a1).bind fun t229 => (if t229 = true then (if a2 ≤ 0 then (some true) else (some a0_4)) else (some false)))) else (some false))
theorem header_Allows.mono : ∀ a0 a1 a2 a3 a4 a5 a6 k, LeO (header_Allows.f k a0 a1 a2 a3 a4 a5 a6) (header_Allows.f (k + 1) a0 a1 a2 a3 a4 a5 a6) := by
  intro a0 a1 a2 a3 a4 a5 a6 k
  unfold header_Allows.f
  repeat' first
      | (with_reducible exact header_may.mono _ _)
      | (with_reducible exact slices_Contains_string_string.mono _ _ _)
      | (with_reducible exact LeO.refl _)
      | (with_reducible exact LeO.none _)
      | (with_reducible refine LeO.ite ?_ ?_)
      | (with_reducible refine LeO.bind ?_ (fun _ => ?_))
      | exact header_may.mono _ _
      | exact slices_Contains_string_string.mono _ _ _
      | exact LeO.none _
      | refine LeO.ite ?_ ?_
      | refine LeO.bind ?_ (fun _ => ?_)
set_option maxHeartbeats 8000000 in
set_option maxRecDepth 100000 in
theorem header_Allows.calls (k : Nat) (a0_0 : Bool) (a0_1 : Bool) (A0_2 : Option Addr) (c0_2 : Nat) (l0_2 : List ByteArray) (a0_3 : Bool) (a0_4 : Bool) (a1 : ByteArray) (a2 : Int) (r : Bool) (w : World) (hr0_2 : Kd.C Kd.string w A0_2 l0_2.length l0_2) (hc0_2 : l0_2.length ≤ c0_2) (h : header_Allows.f k a0_0 a0_1 l0_2 a0_3 a0_4 a1 a2 = some r) :
    Calls Tryd.prog 17 #[.agg #[.bool a0_0, .bool a0_1, .slice A0_2 l0_2.length c0_2, .bool a0_3, .bool a0_4], .string a1, .int .i64 a2] w fun e w' => e = .returned (.bool r) ∧ Below w.heap.size w w' := by
  have hu26 := Tryd.underlying26
  have HR0_2 := Aside0.mk hr0_2
  have HC0_2 := Aside0.mk hc0_2
  clear hr0_2 hc0_2
  have HB := Aside0.mk (Below.refl w.heap.size w)
  have H : ((header_may.f k a1).bind fun t228 => (if t228 = true then (if a0_3 = true then (if a2 ≤ 0 then (some true) else (some a0_4)) else ((slices_Contains_string_string.f k l0_2 a1).bind fun t229 => (if t229 = true then (if a2 ≤ 0 then (some true) else (some a0_4)) else (some false)))) else (some false))) = some r := h
  clear h
  replace H := Option.bind_eq_some_iff.mp H
  obtain ⟨t228, A40, H⟩ := H
  replace H : (if t228 = true then (if a0_3 = true then (if a2 ≤ 0 then (some true) else (some a0_4)) else ((slices_Contains_string_string.f k l0_2 a1).bind fun t229 => (if t229 = true then (if a2 ≤ 0 then (some true) else (some a0_4)) else (some false)))) else (some false)) = some r := H
  have A4 := Aside0.mk A40
  clear A40
  by_cases c5 : t228 = true
  · subst c5
    have H1 : (if a0_3 = true then (if a2 ≤ 0 then (some true) else (some a0_4)) else ((slices_Contains_string_string.f k l0_2 a1).bind fun t229 => (if t229 = true then (if a2 ≤ 0 then (some true) else (some a0_4)) else (some false)))) = some r := by rw [if_pos rfl] at H; exact H
    clear H
    have H := H1
    clear H1
    by_cases c6 : a0_3 = true
    · subst c6
      have H1 : (if a2 ≤ 0 then (some true) else (some a0_4)) = some r := by rw [if_pos rfl] at H; exact H
      clear H
      have H := H1
      clear H1
      by_cases c7 : a2 ≤ 0
      · rw [if_pos c7] at H
        have c7b0 : decide (a2 ≤ 0) = true := decide_eq_true c7
        clear c7
        obtain rfl := Option.some.inj H
        go_enter Tryd.func17, Tryd.ntmps17
        go_wp2_with (first | ((with_reducible refine gate_dst (N := 3) rfl ?_); refine box_event ?hg (N := 3) ?hd (cs := #[.bool a0_0, .bool a0_1, .slice A0_2 l0_2.length c0_2, .bool true, .bool a0_4]) (t := 26) ?hr ?_; (case hd => rfl); (case hg => rfl); (case hr => first | (go_simp; done) | (go_simp; rfl)); intro gb227 hg w8 hbox hb; have n0_ := Aside0.mk (below_step (by repeat (first | (with_reducible first | exact HB.out | apply below_alloc | apply pw_below_drewN | apply below_drew1) | exact HB.out)) hb); have n1_ := Aside0.mk (hbox); have n2_ := Aside0.mk ((by rw [hg]; exact (below_size (by repeat (first | (with_reducible first | exact HB.out | apply below_alloc | apply pw_below_drewN | apply below_drew1) | exact HB.out))) : w.heap.size ≤ gb227)); have n3_ := Aside0.mk ((by rw [hg]; exact (below_size (by repeat (first | (with_reducible first | exact HB.out | apply below_alloc | apply pw_below_drewN | apply below_drew1) | exact HB.out))) : w.heap.size ≤ gb227)); clear HB; have HB := n0_; have BK227 := n1_; have GW227 := n2_; have GE227 := n3_; clear n0_ n1_ n2_ n3_; clear hb hbox hg) | ((with_reducible refine gate_callee (f := 29) rfl ?_); refine goesL_ (some 8) rfl rfl Tryd.func29 (by kernel_rfl) rfl #[.string a1] rfl (by (try simp only [List.map_toArray, List.map_cons, List.map_nil]); first | done | rfl | (simp only [List.length_drop, List.length_take]; rfl)) ?_; (with_reducible refine (header_may.calls k a1 true _ A4.out).mono ?_); rintro e w' ⟨rfl, ⟨nd, rfl⟩⟩; refine ⟨_, rfl, ?_⟩; have hcz9_0 : w8.cell? ⟨gb227, 0, none⟩ = some (.bool a0_0) := (blk_cell BK227.out 0).trans rfl; have hcz9_1 : w8.cell? ⟨gb227, 1, none⟩ = some (.bool a0_1) := (blk_cell BK227.out 1).trans rfl; have hcz9_2 : w8.cell? ⟨gb227, 2, none⟩ = some (.slice A0_2 l0_2.length c0_2) := (blk_cell BK227.out 2).trans rfl; have hcz9_3 : w8.cell? ⟨gb227, 3, none⟩ = some (.bool true) := (blk_cell BK227.out 3).trans rfl; have hcz9_4 : w8.cell? ⟨gb227, 4, none⟩ = some (.bool a0_4) := (blk_cell BK227.out 4).trans rfl; have hfz9_0 := blk_frozen BK227.out 0; have hfz9_1 := blk_frozen BK227.out 1; have hfz9_2 := blk_frozen BK227.out 2; have hfz9_3 := blk_frozen BK227.out 3; have hfz9_4 := blk_frozen BK227.out 4))
        go_ret
        exact ⟨by first | rfl | (simp [errW_none, errW_some] <;> rfl) | (simp [*, errW_none, errW_some] <;> rfl), by repeat (first | (with_reducible first | exact HB.out | apply below_alloc | apply pw_below_drewN | apply below_drew1 | refine below_set ?_ GE227.out) | exact HB.out)⟩
      · rw [if_neg c7] at H
        have c7b0 : decide (a2 ≤ 0) = false := decide_eq_false c7
        clear c7
        obtain rfl := Option.some.inj H
        go_enter Tryd.func17, Tryd.ntmps17
        go_wp2_with (first | ((with_reducible refine gate_dst (N := 3) rfl ?_); refine box_event ?hg (N := 3) ?hd (cs := #[.bool a0_0, .bool a0_1, .slice A0_2 l0_2.length c0_2, .bool true, .bool a0_4]) (t := 26) ?hr ?_; (case hd => rfl); (case hg => rfl); (case hr => first | (go_simp; done) | (go_simp; rfl)); intro gb227 hg w10 hbox hb; have n0_ := Aside0.mk (below_step (by repeat (first | (with_reducible first | exact HB.out | apply below_alloc | apply pw_below_drewN | apply below_drew1) | exact HB.out)) hb); have n1_ := Aside0.mk (hbox); have n2_ := Aside0.mk ((by rw [hg]; exact (below_size (by repeat (first | (with_reducible first | exact HB.out | apply below_alloc | apply pw_below_drewN | apply below_drew1) | exact HB.out))) : w.heap.size ≤ gb227)); have n3_ := Aside0.mk ((by rw [hg]; exact (below_size (by repeat (first | (with_reducible first | exact HB.out | apply below_alloc | apply pw_below_drewN | apply below_drew1) | exact HB.out))) : w.heap.size ≤ gb227)); clear HB; have HB := n0_; have BK227 := n1_; have GW227 := n2_; have GE227 := n3_; clear n0_ n1_ n2_ n3_; clear hb hbox hg) | ((with_reducible refine gate_callee (f := 29) rfl ?_); refine goesL_ (some 8) rfl rfl Tryd.func29 (by kernel_rfl) rfl #[.string a1] rfl (by (try simp only [List.map_toArray, List.map_cons, List.map_nil]); first | done | rfl | (simp only [List.length_drop, List.length_take]; rfl)) ?_; (with_reducible refine (header_may.calls k a1 true _ A4.out).mono ?_); rintro e w' ⟨rfl, ⟨nd, rfl⟩⟩; refine ⟨_, rfl, ?_⟩; have hcz11_0 : w10.cell? ⟨gb227, 0, none⟩ = some (.bool a0_0) := (blk_cell BK227.out 0).trans rfl; have hcz11_1 : w10.cell? ⟨gb227, 1, none⟩ = some (.bool a0_1) := (blk_cell BK227.out 1).trans rfl; have hcz11_2 : w10.cell? ⟨gb227, 2, none⟩ = some (.slice A0_2 l0_2.length c0_2) := (blk_cell BK227.out 2).trans rfl; have hcz11_3 : w10.cell? ⟨gb227, 3, none⟩ = some (.bool true) := (blk_cell BK227.out 3).trans rfl; have hcz11_4 : w10.cell? ⟨gb227, 4, none⟩ = some (.bool a0_4) := (blk_cell BK227.out 4).trans rfl; have hfz11_0 := blk_frozen BK227.out 0; have hfz11_1 := blk_frozen BK227.out 1; have hfz11_2 := blk_frozen BK227.out 2; have hfz11_3 := blk_frozen BK227.out 3; have hfz11_4 := blk_frozen BK227.out 4))
        go_ret
        exact ⟨by first | rfl | (simp [errW_none, errW_some] <;> rfl) | (simp [*, errW_none, errW_some] <;> rfl), by repeat (first | (with_reducible first | exact HB.out | apply below_alloc | apply pw_below_drewN | apply below_drew1 | refine below_set ?_ GE227.out) | exact HB.out)⟩
    · replace c6 := Bool.eq_false_iff.mpr c6
      subst c6
      have H1 : ((slices_Contains_string_string.f k l0_2 a1).bind fun t229 => (if t229 = true then (if a2 ≤ 0 then (some true) else (some a0_4)) else (some false))) = some r := by rw [if_neg (show ¬ (false = true) by decide)] at H; exact H
      clear H
      have H := H1
      clear H1
      replace H := Option.bind_eq_some_iff.mp H
      obtain ⟨t229, A120, H⟩ := H
      replace H : (if t229 = true then (if a2 ≤ 0 then (some true) else (some a0_4)) else (some false)) = some r := H
      have A12 := Aside0.mk A120
      clear A120
      by_cases c13 : t229 = true
      · subst c13
        have H1 : (if a2 ≤ 0 then (some true) else (some a0_4)) = some r := by rw [if_pos rfl] at H; exact H
        clear H
        have H := H1
        clear H1
        by_cases c14 : a2 ≤ 0
        · rw [if_pos c14] at H
          have c14b0 : decide (a2 ≤ 0) = true := decide_eq_true c14
          clear c14
          obtain rfl := Option.some.inj H
          go_enter Tryd.func17, Tryd.ntmps17
          go_wp2_with (first | ((with_reducible refine gate_dst (N := 3) rfl ?_); refine box_event ?hg (N := 3) ?hd (cs := #[.bool a0_0, .bool a0_1, .slice A0_2 l0_2.length c0_2, .bool false, .bool a0_4]) (t := 26) ?hr ?_; (case hd => rfl); (case hg => rfl); (case hr => first | (go_simp; done) | (go_simp; rfl)); intro gb227 hg w15 hbox hb; have n0_ := Aside0.mk (below_step (by repeat (first | (with_reducible first | exact HB.out | apply below_alloc | apply pw_below_drewN | apply below_drew1) | exact HB.out)) hb); have n1_ := Aside0.mk (hbox); have n2_ := Aside0.mk ((by rw [hg]; exact (below_size (by repeat (first | (with_reducible first | exact HB.out | apply below_alloc | apply pw_below_drewN | apply below_drew1) | exact HB.out))) : w.heap.size ≤ gb227)); have n3_ := Aside0.mk ((by rw [hg]; exact (below_size (by repeat (first | (with_reducible first | exact HB.out | apply below_alloc | apply pw_below_drewN | apply below_drew1) | exact HB.out))) : w.heap.size ≤ gb227)); clear HB; have HB := n0_; have BK227 := n1_; have GW227 := n2_; have GE227 := n3_; clear n0_ n1_ n2_ n3_; clear hb hbox hg) | ((with_reducible refine gate_callee (f := 29) rfl ?_); refine goesL_ (some 8) rfl rfl Tryd.func29 (by kernel_rfl) rfl #[.string a1] rfl (by (try simp only [List.map_toArray, List.map_cons, List.map_nil]); first | done | rfl | (simp only [List.length_drop, List.length_take]; rfl)) ?_; (with_reducible refine (header_may.calls k a1 true _ A4.out).mono ?_); rintro e w' ⟨rfl, ⟨nd, rfl⟩⟩; refine ⟨_, rfl, ?_⟩; have hcz16_0 : w15.cell? ⟨gb227, 0, none⟩ = some (.bool a0_0) := (blk_cell BK227.out 0).trans rfl; have hcz16_1 : w15.cell? ⟨gb227, 1, none⟩ = some (.bool a0_1) := (blk_cell BK227.out 1).trans rfl; have hcz16_2 : w15.cell? ⟨gb227, 2, none⟩ = some (.slice A0_2 l0_2.length c0_2) := (blk_cell BK227.out 2).trans rfl; have hcz16_3 : w15.cell? ⟨gb227, 3, none⟩ = some (.bool false) := (blk_cell BK227.out 3).trans rfl; have hcz16_4 : w15.cell? ⟨gb227, 4, none⟩ = some (.bool a0_4) := (blk_cell BK227.out 4).trans rfl; have hfz16_0 := blk_frozen BK227.out 0; have hfz16_1 := blk_frozen BK227.out 1; have hfz16_2 := blk_frozen BK227.out 2; have hfz16_3 := blk_frozen BK227.out 3; have hfz16_4 := blk_frozen BK227.out 4) | (go_at_call 28; (with_reducible refine (slices_Contains_string_string.calls k _ _ l0_2 a1 true _ ?side1 ?side2 A12.out).mono ?_); (case side1 => repeat (first | exact (Kd.C_below HR0_2.out (by repeat (first | (with_reducible first | exact HB.out | apply below_alloc | apply pw_below_drewN | apply below_drew1 | refine below_set ?_ GE227.out) | exact HB.out))) | (with_reducible refine Kd.C_alloc ?_ _) | (with_reducible refine Kd.C_drewN ?_ _) | (with_reducible refine Kd.C_drew ?_))); (case side2 => exact HC0_2.out); rintro e w' ⟨rfl, ⟨nd, rfl⟩⟩))
          go_ret
          exact ⟨by first | rfl | (simp [errW_none, errW_some] <;> rfl) | (simp [*, errW_none, errW_some] <;> rfl), by repeat (first | (with_reducible first | exact HB.out | apply below_alloc | apply pw_below_drewN | apply below_drew1 | refine below_set ?_ GE227.out) | exact HB.out)⟩
        · rw [if_neg c14] at H
          have c14b0 : decide (a2 ≤ 0) = false := decide_eq_false c14
          clear c14
          obtain rfl := Option.some.inj H
          go_enter Tryd.func17, Tryd.ntmps17
          go_wp2_with (first | ((with_reducible refine gate_dst (N := 3) rfl ?_); refine box_event ?hg (N := 3) ?hd (cs := #[.bool a0_0, .bool a0_1, .slice A0_2 l0_2.length c0_2, .bool false, .bool a0_4]) (t := 26) ?hr ?_; (case hd => rfl); (case hg => rfl); (case hr => first | (go_simp; done) | (go_simp; rfl)); intro gb227 hg w17 hbox hb; have n0_ := Aside0.mk (below_step (by repeat (first | (with_reducible first | exact HB.out | apply below_alloc | apply pw_below_drewN | apply below_drew1) | exact HB.out)) hb); have n1_ := Aside0.mk (hbox); have n2_ := Aside0.mk ((by rw [hg]; exact (below_size (by repeat (first | (with_reducible first | exact HB.out | apply below_alloc | apply pw_below_drewN | apply below_drew1) | exact HB.out))) : w.heap.size ≤ gb227)); have n3_ := Aside0.mk ((by rw [hg]; exact (below_size (by repeat (first | (with_reducible first | exact HB.out | apply below_alloc | apply pw_below_drewN | apply below_drew1) | exact HB.out))) : w.heap.size ≤ gb227)); clear HB; have HB := n0_; have BK227 := n1_; have GW227 := n2_; have GE227 := n3_; clear n0_ n1_ n2_ n3_; clear hb hbox hg) | ((with_reducible refine gate_callee (f := 29) rfl ?_); refine goesL_ (some 8) rfl rfl Tryd.func29 (by kernel_rfl) rfl #[.string a1] rfl (by (try simp only [List.map_toArray, List.map_cons, List.map_nil]); first | done | rfl | (simp only [List.length_drop, List.length_take]; rfl)) ?_; (with_reducible refine (header_may.calls k a1 true _ A4.out).mono ?_); rintro e w' ⟨rfl, ⟨nd, rfl⟩⟩; refine ⟨_, rfl, ?_⟩; have hcz18_0 : w17.cell? ⟨gb227, 0, none⟩ = some (.bool a0_0) := (blk_cell BK227.out 0).trans rfl; have hcz18_1 : w17.cell? ⟨gb227, 1, none⟩ = some (.bool a0_1) := (blk_cell BK227.out 1).trans rfl; have hcz18_2 : w17.cell? ⟨gb227, 2, none⟩ = some (.slice A0_2 l0_2.length c0_2) := (blk_cell BK227.out 2).trans rfl; have hcz18_3 : w17.cell? ⟨gb227, 3, none⟩ = some (.bool false) := (blk_cell BK227.out 3).trans rfl; have hcz18_4 : w17.cell? ⟨gb227, 4, none⟩ = some (.bool a0_4) := (blk_cell BK227.out 4).trans rfl; have hfz18_0 := blk_frozen BK227.out 0; have hfz18_1 := blk_frozen BK227.out 1; have hfz18_2 := blk_frozen BK227.out 2; have hfz18_3 := blk_frozen BK227.out 3; have hfz18_4 := blk_frozen BK227.out 4) | (go_at_call 28; (with_reducible refine (slices_Contains_string_string.calls k _ _ l0_2 a1 true _ ?side1 ?side2 A12.out).mono ?_); (case side1 => repeat (first | exact (Kd.C_below HR0_2.out (by repeat (first | (with_reducible first | exact HB.out | apply below_alloc | apply pw_below_drewN | apply below_drew1 | refine below_set ?_ GE227.out) | exact HB.out))) | (with_reducible refine Kd.C_alloc ?_ _) | (with_reducible refine Kd.C_drewN ?_ _) | (with_reducible refine Kd.C_drew ?_))); (case side2 => exact HC0_2.out); rintro e w' ⟨rfl, ⟨nd, rfl⟩⟩))
          go_ret
          exact ⟨by first | rfl | (simp [errW_none, errW_some] <;> rfl) | (simp [*, errW_none, errW_some] <;> rfl), by repeat (first | (with_reducible first | exact HB.out | apply below_alloc | apply pw_below_drewN | apply below_drew1 | refine below_set ?_ GE227.out) | exact HB.out)⟩
      · replace c13 := Bool.eq_false_iff.mpr c13
        subst c13
        have H1 : (some false) = some r := by rw [if_neg (show ¬ (false = true) by decide)] at H; exact H
        clear H
        have H := H1
        clear H1
        obtain rfl := Option.some.inj H
        go_enter Tryd.func17, Tryd.ntmps17
        go_wp2_with (first | ((with_reducible refine gate_dst (N := 3) rfl ?_); refine box_event ?hg (N := 3) ?hd (cs := #[.bool a0_0, .bool a0_1, .slice A0_2 l0_2.length c0_2, .bool false, .bool a0_4]) (t := 26) ?hr ?_; (case hd => rfl); (case hg => rfl); (case hr => first | (go_simp; done) | (go_simp; rfl)); intro gb227 hg w19 hbox hb; have n0_ := Aside0.mk (below_step (by repeat (first | (with_reducible first | exact HB.out | apply below_alloc | apply pw_below_drewN | apply below_drew1) | exact HB.out)) hb); have n1_ := Aside0.mk (hbox); have n2_ := Aside0.mk ((by rw [hg]; exact (below_size (by repeat (first | (with_reducible first | exact HB.out | apply below_alloc | apply pw_below_drewN | apply below_drew1) | exact HB.out))) : w.heap.size ≤ gb227)); have n3_ := Aside0.mk ((by rw [hg]; exact (below_size (by repeat (first | (with_reducible first | exact HB.out | apply below_alloc | apply pw_below_drewN | apply below_drew1) | exact HB.out))) : w.heap.size ≤ gb227)); clear HB; have HB := n0_; have BK227 := n1_; have GW227 := n2_; have GE227 := n3_; clear n0_ n1_ n2_ n3_; clear hb hbox hg) | ((with_reducible refine gate_callee (f := 29) rfl ?_); refine goesL_ (some 8) rfl rfl Tryd.func29 (by kernel_rfl) rfl #[.string a1] rfl (by (try simp only [List.map_toArray, List.map_cons, List.map_nil]); first | done | rfl | (simp only [List.length_drop, List.length_take]; rfl)) ?_; (with_reducible refine (header_may.calls k a1 true _ A4.out).mono ?_); rintro e w' ⟨rfl, ⟨nd, rfl⟩⟩; refine ⟨_, rfl, ?_⟩; have hcz20_0 : w19.cell? ⟨gb227, 0, none⟩ = some (.bool a0_0) := (blk_cell BK227.out 0).trans rfl; have hcz20_1 : w19.cell? ⟨gb227, 1, none⟩ = some (.bool a0_1) := (blk_cell BK227.out 1).trans rfl; have hcz20_2 : w19.cell? ⟨gb227, 2, none⟩ = some (.slice A0_2 l0_2.length c0_2) := (blk_cell BK227.out 2).trans rfl; have hcz20_3 : w19.cell? ⟨gb227, 3, none⟩ = some (.bool false) := (blk_cell BK227.out 3).trans rfl; have hcz20_4 : w19.cell? ⟨gb227, 4, none⟩ = some (.bool a0_4) := (blk_cell BK227.out 4).trans rfl; have hfz20_0 := blk_frozen BK227.out 0; have hfz20_1 := blk_frozen BK227.out 1; have hfz20_2 := blk_frozen BK227.out 2; have hfz20_3 := blk_frozen BK227.out 3; have hfz20_4 := blk_frozen BK227.out 4) | (go_at_call 28; (with_reducible refine (slices_Contains_string_string.calls k _ _ l0_2 a1 false _ ?side1 ?side2 A12.out).mono ?_); (case side1 => repeat (first | exact (Kd.C_below HR0_2.out (by repeat (first | (with_reducible first | exact HB.out | apply below_alloc | apply pw_below_drewN | apply below_drew1 | refine below_set ?_ GE227.out) | exact HB.out))) | (with_reducible refine Kd.C_alloc ?_ _) | (with_reducible refine Kd.C_drewN ?_ _) | (with_reducible refine Kd.C_drew ?_))); (case side2 => exact HC0_2.out); rintro e w' ⟨rfl, ⟨nd, rfl⟩⟩))
        go_ret
        exact ⟨by first | rfl | (simp [errW_none, errW_some] <;> rfl) | (simp [*, errW_none, errW_some] <;> rfl), by repeat (first | (with_reducible first | exact HB.out | apply below_alloc | apply pw_below_drewN | apply below_drew1 | refine below_set ?_ GE227.out) | exact HB.out)⟩
  · replace c5 := Bool.eq_false_iff.mpr c5
    subst c5
    have H1 : (some false) = some r := by rw [if_neg (show ¬ (false = true) by decide)] at H; exact H
    clear H
    have H := H1
    clear H1
    obtain rfl := Option.some.inj H
    go_enter Tryd.func17, Tryd.ntmps17
    go_wp2_with (first | ((with_reducible refine gate_dst (N := 3) rfl ?_); refine box_event ?hg (N := 3) ?hd (cs := #[.bool a0_0, .bool a0_1, .slice A0_2 l0_2.length c0_2, .bool a0_3, .bool a0_4]) (t := 26) ?hr ?_; (case hd => rfl); (case hg => rfl); (case hr => first | (go_simp; done) | (go_simp; rfl)); intro gb227 hg w21 hbox hb; have n0_ := Aside0.mk (below_step (by repeat (first | (with_reducible first | exact HB.out | apply below_alloc | apply pw_below_drewN | apply below_drew1) | exact HB.out)) hb); have n1_ := Aside0.mk (hbox); have n2_ := Aside0.mk ((by rw [hg]; exact (below_size (by repeat (first | (with_reducible first | exact HB.out | apply below_alloc | apply pw_below_drewN | apply below_drew1) | exact HB.out))) : w.heap.size ≤ gb227)); have n3_ := Aside0.mk ((by rw [hg]; exact (below_size (by repeat (first | (with_reducible first | exact HB.out | apply below_alloc | apply pw_below_drewN | apply below_drew1) | exact HB.out))) : w.heap.size ≤ gb227)); clear HB; have HB := n0_; have BK227 := n1_; have GW227 := n2_; have GE227 := n3_; clear n0_ n1_ n2_ n3_; clear hb hbox hg) | ((with_reducible refine gate_callee (f := 29) rfl ?_); refine goesL_ (some 8) rfl rfl Tryd.func29 (by kernel_rfl) rfl #[.string a1] rfl (by (try simp only [List.map_toArray, List.map_cons, List.map_nil]); first | done | rfl | (simp only [List.length_drop, List.length_take]; rfl)) ?_; (with_reducible refine (header_may.calls k a1 false _ A4.out).mono ?_); rintro e w' ⟨rfl, ⟨nd, rfl⟩⟩; refine ⟨_, rfl, ?_⟩))
    go_ret
    exact ⟨by first | rfl | (simp [errW_none, errW_some] <;> rfl) | (simp [*, errW_none, errW_some] <;> rfl), by repeat (first | (with_reducible first | exact HB.out | apply below_alloc | apply pw_below_drewN | apply below_drew1 | refine below_set ?_ GE227.out) | exact HB.out)⟩

end Go.Proofs.YthblohknnlkidaaDoor.Pr
