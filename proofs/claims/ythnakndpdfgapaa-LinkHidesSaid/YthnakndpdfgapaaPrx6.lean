-- Written by wip/tools/pr.sh out of Lean's own print of the translation. Not trusted: Lean checks it.
import Derived.Test.YthnakndpdfgapaaPrx0
import Derived.Test.YthnakndpdfgapaaPrx2
namespace Go.Proofs.Ythnakndpdfgapaa.Pr
open Go.RowKit Go.Proofs.YthnakndpdfgapaaW.PrintWords Go.Proofs.YthnakndpdfgapaaW.PrintLast Go.Proofs.YthnakndpdfgapaaW.PrintMore
attribute [local go_sem] max2_int min2_int max_two min_two max_three min_three max_four min_four   -- for this text's walks alone
set_option linter.unusedVariables false
set_option linter.unusedSimpArgs false

/-! ### boltinglaw09_LinkAgain: function 6 -/
mutual
def boltinglaw09_LinkAgain.l0 : Nat → ByteArray → ByteArray → Bool → Int → Option (Bool)
  | 0, _, _, _, _ => none
  | k + 1, x0, x3, x4, x5 => if x5 < (x0.size : Int) then (if x4 = true then (if 0 ≤ x5 then (boltinglaw09_LinkAgain.l0 k x0 x3 ((bt x0 x5) != 37) (wrap64 (x5 + 1))) else (none)) else (boltinglaw09_LinkAgain.l0 k x0 x3 false (wrap64 (x5 + 1)))) else (boltinglaw09_LinkAgain.l1 k x0 x3 x4 0)
def boltinglaw09_LinkAgain.l1 : Nat → ByteArray → ByteArray → Bool → Int → Option (Bool)
  | 0, _, _, _, _ => none
  | k + 1, x0, x3, x4, x6 => if x6 < (x3.size : Int) then (if 0 ≤ x6 then (if (bt x3 x6) = 9 then (some false) else (if (bt x3 x6) = 10 then (some false) else (if (bt x3 x6) = 13 then (some false) else (boltinglaw09_LinkAgain.l1 k x0 x3 x4 (wrap64 (x6 + 1)))))) else (none)) else ((link_Strip.f x3).bind fun t157 => (if t157.toList = x3.toList then (if x3.toList = ([] : List UInt8) then (if x4 = true then ((link_Percent.f x0).bind fun t158 => (if t158.toList = x0.toList then ((link_Percent.f x0).bind fun t159 => (if (t159.size : Int) ≤ (x0.size : Int) then ((boltinglaw09_fixed.f).bind fun t160 => (some t160)) else (some false))) else (some false))) else ((link_Percent.f x0).bind fun t161 => (if (t161.size : Int) ≤ (x0.size : Int) then ((boltinglaw09_fixed.f).bind fun t162 => (some t162)) else (some false)))) else (if 0 < (x3.size : Int) then (if (bt x3 0) > 32 then (if 0 ≤ (wrap64 ((x3.size : Int) - 1)) then (if (wrap64 ((x3.size : Int) - 1)) < (x3.size : Int) then (if (bt x3 (wrap64 ((x3.size : Int) - 1))) > 32 then (if x4 = true then ((link_Percent.f x0).bind fun t163 => (if t163.toList = x0.toList then ((link_Percent.f x0).bind fun t164 => (if (t164.size : Int) ≤ (x0.size : Int) then ((boltinglaw09_fixed.f).bind fun t165 => (some t165)) else (some false))) else (some false))) else ((link_Percent.f x0).bind fun t166 => (if (t166.size : Int) ≤ (x0.size : Int) then ((boltinglaw09_fixed.f).bind fun t167 => (some t167)) else (some false)))) else (some false)) else (none)) else (none)) else (some false)) else (none))) else (some false)))
end
def boltinglaw09_LinkAgain.f (k : Nat) (a0 : ByteArray) : Option (Bool) := if 0 ≤ (mn (a0.size : Int) 1000) then (if (mn (a0.size : Int) 1000) ≤ (a0.size : Int) then ((link_Strip.f (a0.extract 0 ((mn (a0.size : Int) 1000) : Int).toNat)).bind fun t156 => (boltinglaw09_LinkAgain.l0 k (a0.extract 0 ((mn (a0.size : Int) 1000) : Int).toNat) t156 true 0)) else (none)) else (none)
theorem boltinglaw09_LinkAgain.mono_l : ∀ k, (∀ y0 y1 y2 y3, LeO (boltinglaw09_LinkAgain.l0 k y0 y1 y2 y3) (boltinglaw09_LinkAgain.l0 (k + 1) y0 y1 y2 y3)) ∧ (∀ y0 y1 y2 y3, LeO (boltinglaw09_LinkAgain.l1 k y0 y1 y2 y3) (boltinglaw09_LinkAgain.l1 (k + 1) y0 y1 y2 y3))
  | 0 => ⟨fun _ _ _ _ r h => by simp [boltinglaw09_LinkAgain.l0] at h, fun _ _ _ _ r h => by simp [boltinglaw09_LinkAgain.l1] at h⟩
  | k + 1 => by
    obtain ⟨ih0, ih1⟩ := boltinglaw09_LinkAgain.mono_l k
    refine ⟨?_, ?_⟩
    · intro y0 y1 y2 y3
      unfold boltinglaw09_LinkAgain.l0
      repeat' first
      | (with_reducible exact ih0 _ _ _ _)
      | (with_reducible exact ih1 _ _ _ _)
      | (with_reducible exact LeO.refl _)
      | (with_reducible exact LeO.none _)
      | (with_reducible refine LeO.ite ?_ ?_)
      | (with_reducible refine LeO.bind ?_ (fun _ => ?_))
      | exact ih0 _ _ _ _
      | exact ih1 _ _ _ _
      | exact LeO.none _
      | refine LeO.ite ?_ ?_
      | refine LeO.bind ?_ (fun _ => ?_)
    · intro y0 y1 y2 y3
      unfold boltinglaw09_LinkAgain.l1
      repeat' first
      | (with_reducible exact ih0 _ _ _ _)
      | (with_reducible exact ih1 _ _ _ _)
      | (with_reducible exact LeO.refl _)
      | (with_reducible exact LeO.none _)
      | (with_reducible refine LeO.ite ?_ ?_)
      | (with_reducible refine LeO.bind ?_ (fun _ => ?_))
      | exact ih0 _ _ _ _
      | exact ih1 _ _ _ _
      | exact LeO.none _
      | refine LeO.ite ?_ ?_
      | refine LeO.bind ?_ (fun _ => ?_)
theorem boltinglaw09_LinkAgain.mono : ∀ a0 k, LeO (boltinglaw09_LinkAgain.f k a0) (boltinglaw09_LinkAgain.f (k + 1) a0) := by
  intro a0 k
  obtain ⟨ih0, ih1⟩ := boltinglaw09_LinkAgain.mono_l k
  unfold boltinglaw09_LinkAgain.f
  repeat' first
      | (with_reducible exact ih0 _ _ _ _)
      | (with_reducible exact ih1 _ _ _ _)
      | (with_reducible exact LeO.refl _)
      | (with_reducible exact LeO.none _)
      | (with_reducible refine LeO.ite ?_ ?_)
      | (with_reducible refine LeO.bind ?_ (fun _ => ?_))
      | exact ih0 _ _ _ _
      | exact ih1 _ _ _ _
      | exact LeO.none _
      | refine LeO.ite ?_ ?_
      | refine LeO.bind ?_ (fun _ => ?_)
set_option maxHeartbeats 8000000 in
set_option maxRecDepth 100000 in
theorem boltinglaw09_LinkAgain.calls (k : Nat) (a0 : ByteArray) (r : Bool) (w : World) (h : boltinglaw09_LinkAgain.f k a0 = some r) :
    Calls Try.prog 6 #[.string a0] w fun e w' => e = .returned (.bool r) ∧ Below w.heap.size w w' := by
  have HB := Aside0.mk (Below.refl w.heap.size w)
  have H : (if 0 ≤ (mn (a0.size : Int) 1000) then (if (mn (a0.size : Int) 1000) ≤ (a0.size : Int) then ((link_Strip.f (a0.extract 0 ((mn (a0.size : Int) 1000) : Int).toNat)).bind fun t156 => (boltinglaw09_LinkAgain.l0 k (a0.extract 0 ((mn (a0.size : Int) 1000) : Int).toNat) t156 true 0)) else (none)) else (none)) = some r := h
  clear h
  obtain ⟨ji2, hji2⟩ : ∃ j_ : Int, (mn (a0.size : Int) 1000) = j_ := ⟨_, rfl⟩
  replace H : (if 0 ≤ (ji2) then (if (ji2) ≤ (a0.size : Int) then ((link_Strip.f (a0.extract 0 ((ji2) : Int).toNat)).bind fun t156 => (boltinglaw09_LinkAgain.l0 k (a0.extract 0 ((ji2) : Int).toNat) t156 true 0)) else (none)) else (none)) = some r := by first | (rw [hji2] at H; exact H) | (simp only [hji2] at H ⊢; exact H)
  (try (have hji2h : ji2 ≤ 1000 := by (rw [← hji2]; unfold mn; (repeat' split) <;> omega)))
  (try (have hji2g : ji2 ≤ 64 := by omega))
  (try (have hji2l : 0 ≤ ji2 := by (rw [← hji2]; unfold mn; (repeat' split) <;> omega)))
  (try (have hji2m : 0 ≤ ji2 := by omega))
  have hji2_ : (if 1000 < (a0.size : Int) then 1000 else (a0.size : Int)) = ji2 := hji2
  by_cases c3 : 0 ≤ (ji2)
  · rw [if_pos c3] at H
    have c3b0 := eq_true c3
    have c3b1 : decide (0 ≤ (ji2)) = true := decide_eq_true c3
    clear c3
    by_cases c4 : (ji2) ≤ (a0.size : Int)
    · rw [if_pos c4] at H
      have c4b0 := eq_true c4
      have c4b1 : decide ((ji2) ≤ (a0.size : Int)) = true := decide_eq_true c4
      clear c4
      obtain ⟨sx5, hsx5⟩ : ∃ s_ : ByteArray, (a0.extract 0 ((ji2) : Int).toNat) = s_ := ⟨_, rfl⟩
      replace H : ((link_Strip.f sx5).bind fun t156 => (boltinglaw09_LinkAgain.l0 k sx5 t156 true 0)) = some r := by first | (rw [hsx5] at H; exact H) | (simp only [hsx5] at H ⊢; exact H) | exact H
      replace H := Option.bind_eq_some_iff.mp H
      obtain ⟨t156, A60, H⟩ := H
      replace H : (boltinglaw09_LinkAgain.l0 k sx5 t156 true 0) = some r := H
      have A6 := Aside0.mk A60
      clear A60
      have H' := Aside0.mk H
      clear H
      go_enter Try.func6, Try.ntmps6
      go_wp2_with (first | ((with_reducible refine gate_callee (f := 14) rfl ?_); refine goesL_ (some 13) rfl rfl Try.func14 (by kernel_rfl) rfl #[.string sx5] rfl (by (try simp only [List.map_toArray, List.map_cons, List.map_nil]); first | done | rfl | (simp only [List.length_drop, List.length_take]; rfl)) ?_; (with_reducible refine (link_Strip.calls sx5 t156 _ A6.out).mono ?_); rintro e w7 ⟨rfl, hb⟩; refine ⟨_, rfl, ?_⟩; have n0_ := Aside0.mk (below_step (by repeat (first | (with_reducible first | exact HB.out | apply below_alloc | apply pw_below_drewN | apply below_drew1) | exact HB.out)) hb); clear HB; have HB := n0_; clear n0_; (try clear hb); (try clear hb2); (try clear hk); (try clear hi)))
      go_loopg [4, 5] k (fun kq v4 v5 w' => ∃ (x4_1 : Bool) (x5_1 : Int), v4 = .bool x4_1 ∧ v5 = .int .i64 x5_1 ∧ Aside0 (boltinglaw09_LinkAgain.l0 kq sx5 t156 x4_1 x5_1 = some r) ∧ Aside0 (kq ≤ k) ∧ Aside0 (Below w.heap.size w w'))
      case atStart => exact ⟨(true), (0), (by first | rfl | (simp; done) | (simp [*]; done)), (by first | rfl | (simp; done) | (simp [*]; done)), H', ⟨Nat.le_refl _⟩, ⟨by repeat (first | (with_reducible first | exact HB.out | apply below_alloc | apply pw_below_drewN | apply below_drew1) | exact HB.out)⟩⟩
      case round =>
        clear H'
        try clear c1
        try clear p2
        try clear c3
        try clear c3b0
        try clear c3b1
        try clear c4
        try clear c4b0
        try clear c4b1
        try clear c6
        obtain ⟨x4_1, x5_1, rfl, rfl, HA, HK1, HB⟩ := hrel
        cases gk with
        | zero => exact absurd HA.out (by simp [boltinglaw09_LinkAgain.l0])
        | succ k1 =>
          have H := HA.out
          clear HA
          simp only [boltinglaw09_LinkAgain.l0] at H
          by_cases c8 : x5_1 < (sx5.size : Int)
          · rw [if_pos c8] at H
            have c8b0 : decide (x5_1 < (sx5.size : Int)) = true := decide_eq_true c8
            clear c8
            by_cases c9 : x4_1 = true
            · subst c9
              have H1 : (if 0 ≤ x5_1 then (boltinglaw09_LinkAgain.l0 k1 sx5 t156 ((bt sx5 x5_1) != 37) (wrap64 (x5_1 + 1))) else (none)) = some r := by rw [if_pos rfl] at H; exact H
              clear H
              have H := H1
              clear H1
              by_cases c10 : 0 ≤ x5_1
              · rw [if_pos c10] at H
                have c10b0 : decide (0 ≤ x5_1) = true := decide_eq_true c10
                clear c10
                have H' := Aside0.mk H
                clear H
                have p11 : 0 ≤ (x5_1 : Int) := of_decide_eq_true (by first | (with_reducible assumption) | assumption)
                have q11 : x5_1 < (sx5.size : Int) := of_decide_eq_true (by first | (with_reducible assumption) | assumption)
                have hx11 := bt_at sx5 x5_1
                replace p11 := eq_true p11
                replace q11 := eq_true q11
                go_wp2
                go_roundg k1
                case measure => have := HK1.out; omega
                case rel => exact ⟨(((bt sx5 x5_1) != 37)), (wrap64 (x5_1 + 1)), (by first | rfl | (simp; done) | (simp [*]; done)), (by first | rfl | (simp; done) | (simp [*]; done)), H', ⟨by have := HK1.out; omega⟩, ⟨by repeat (first | (with_reducible first | exact HB.out | apply below_alloc | apply pw_below_drewN | apply below_drew1) | exact HB.out)⟩⟩
              · rw [if_neg c10] at H
                exact absurd H (by simp)
            · replace c9 := Bool.eq_false_iff.mpr c9
              subst c9
              have H1 : (boltinglaw09_LinkAgain.l0 k1 sx5 t156 false (wrap64 (x5_1 + 1))) = some r := by rw [if_neg (show ¬ (false = true) by decide)] at H; exact H
              clear H
              have H := H1
              clear H1
              have H' := Aside0.mk H
              clear H
              go_wp2
              go_roundg k1
              case measure => have := HK1.out; omega
              case rel => exact ⟨(false), (wrap64 (x5_1 + 1)), (by first | rfl | (simp; done) | (simp [*]; done)), (by first | rfl | (simp; done) | (simp [*]; done)), H', ⟨by have := HK1.out; omega⟩, ⟨by repeat (first | (with_reducible first | exact HB.out | apply below_alloc | apply pw_below_drewN | apply below_drew1) | exact HB.out)⟩⟩
          · rw [if_neg c8] at H
            have c8b0 : decide (x5_1 < (sx5.size : Int)) = false := decide_eq_false c8
            clear c8
            have H' := Aside0.mk H
            clear H
            go_wp2
            go_loopg [6] k1 (fun kq v6 w' => ∃ (x6_2 : Int), v6 = .int .i64 x6_2 ∧ Aside0 (boltinglaw09_LinkAgain.l1 kq sx5 t156 x4_1 x6_2 = some r) ∧ Aside0 (kq ≤ k1) ∧ Aside0 (Below w.heap.size w w'))
            case atStart => exact ⟨(0), (by first | rfl | (simp; done) | (simp [*]; done)), H', ⟨Nat.le_refl _⟩, ⟨by repeat (first | (with_reducible first | exact HB.out | apply below_alloc | apply pw_below_drewN | apply below_drew1) | exact HB.out)⟩⟩
            case round =>
              clear H'
              try clear c1
              try clear p1
              try clear q1
              try clear hx1
              try clear p2
              try clear c3
              try clear c3b0
              try clear c3b1
              try clear c4
              try clear c4b0
              try clear c4b1
              try clear c6
              try clear p6
              try clear c8
              try clear c8b0
              try clear c9
              try clear c10
              try clear c10b0
              try clear p11
              try clear q11
              try clear hx11
              try clear p11
              try clear p2
              try clear q11
              obtain ⟨x6_2, rfl, HA, HK2, HB⟩ := hrel
              cases gk with
              | zero => exact absurd HA.out (by simp [boltinglaw09_LinkAgain.l1])
              | succ k2 =>
                have H := HA.out
                clear HA
                simp only [boltinglaw09_LinkAgain.l1] at H
                by_cases c12 : x6_2 < (t156.size : Int)
                · rw [if_pos c12] at H
                  have c12b0 : decide (x6_2 < (t156.size : Int)) = true := decide_eq_true c12
                  clear c12
                  by_cases c13 : 0 ≤ x6_2
                  · rw [if_pos c13] at H
                    have c13b0 : decide (0 ≤ x6_2) = true := decide_eq_true c13
                    clear c13
                    by_cases c15 : (bt t156 x6_2) = 9
                    · rw [if_pos c15] at H
                      have c15b0 : ((bt t156 x6_2) == 9) = true := beq_iff_eq.mpr c15
                      have c15b1 : ((bt t156 x6_2) != 9) = false := bne_eq_false_iff_eq.mpr c15
                      clear c15
                      obtain rfl := Option.some.inj H
                      have p14 : 0 ≤ (x6_2 : Int) := of_decide_eq_true (by first | (with_reducible assumption) | assumption)
                      have q14 : x6_2 < (t156.size : Int) := of_decide_eq_true (by first | (with_reducible assumption) | assumption)
                      have hx14 := bt_at t156 x6_2
                      replace p14 := eq_true p14
                      replace q14 := eq_true q14
                      go_wp2
                      go_ret
                      exact ⟨by first | rfl | (simp [errW_none, errW_some] <;> rfl) | (simp only [← hji2]; first | rfl | (simp [errW_none, errW_some] <;> rfl)) | (simp [*, errW_none, errW_some] <;> rfl), by repeat (first | (with_reducible first | exact HB.out | apply below_alloc | apply pw_below_drewN | apply below_drew1) | exact HB.out)⟩
                    · rw [if_neg c15] at H
                      have c15b0 : ((bt t156 x6_2) == 9) = false := beq_eq_false_iff_ne.mpr c15
                      have c15b1 : ((bt t156 x6_2) != 9) = true := bne_iff_ne.mpr c15
                      by_cases c17 : (bt t156 x6_2) = 10
                      · rw [if_pos c17] at H
                        have c17b0 : ((bt t156 x6_2) == 10) = true := beq_iff_eq.mpr c17
                        have c17b1 : ((bt t156 x6_2) != 10) = false := bne_eq_false_iff_eq.mpr c17
                        clear c17
                        obtain rfl := Option.some.inj H
                        have p14 : 0 ≤ (x6_2 : Int) := of_decide_eq_true (by first | (with_reducible assumption) | assumption)
                        have q14 : x6_2 < (t156.size : Int) := of_decide_eq_true (by first | (with_reducible assumption) | assumption)
                        have hx14 := bt_at t156 x6_2
                        replace p14 := eq_true p14
                        replace q14 := eq_true q14
                        have p16 : 0 ≤ (x6_2 : Int) := of_decide_eq_true (by first | (with_reducible assumption) | assumption)
                        have q16 : x6_2 < (t156.size : Int) := of_decide_eq_true (by first | (with_reducible assumption) | assumption)
                        have hx16 := bt_at t156 x6_2
                        replace p16 := eq_true p16
                        replace q16 := eq_true q16
                        go_wp2
                        go_ret
                        exact ⟨by first | rfl | (simp [errW_none, errW_some] <;> rfl) | (simp only [← hji2]; first | rfl | (simp [errW_none, errW_some] <;> rfl)) | (simp [*, errW_none, errW_some] <;> rfl), by repeat (first | (with_reducible first | exact HB.out | apply below_alloc | apply pw_below_drewN | apply below_drew1) | exact HB.out)⟩
                      · rw [if_neg c17] at H
                        have c17b0 : ((bt t156 x6_2) == 10) = false := beq_eq_false_iff_ne.mpr c17
                        have c17b1 : ((bt t156 x6_2) != 10) = true := bne_iff_ne.mpr c17
                        by_cases c19 : (bt t156 x6_2) = 13
                        · rw [if_pos c19] at H
                          have c19b0 : ((bt t156 x6_2) == 13) = true := beq_iff_eq.mpr c19
                          have c19b1 : ((bt t156 x6_2) != 13) = false := bne_eq_false_iff_eq.mpr c19
                          clear c19
                          obtain rfl := Option.some.inj H
                          have p14 : 0 ≤ (x6_2 : Int) := of_decide_eq_true (by first | (with_reducible assumption) | assumption)
                          have q14 : x6_2 < (t156.size : Int) := of_decide_eq_true (by first | (with_reducible assumption) | assumption)
                          have hx14 := bt_at t156 x6_2
                          replace p14 := eq_true p14
                          replace q14 := eq_true q14
                          have p16 : 0 ≤ (x6_2 : Int) := of_decide_eq_true (by first | (with_reducible assumption) | assumption)
                          have q16 : x6_2 < (t156.size : Int) := of_decide_eq_true (by first | (with_reducible assumption) | assumption)
                          have hx16 := bt_at t156 x6_2
                          replace p16 := eq_true p16
                          replace q16 := eq_true q16
                          have p18 : 0 ≤ (x6_2 : Int) := of_decide_eq_true (by first | (with_reducible assumption) | assumption)
                          have q18 : x6_2 < (t156.size : Int) := of_decide_eq_true (by first | (with_reducible assumption) | assumption)
                          have hx18 := bt_at t156 x6_2
                          replace p18 := eq_true p18
                          replace q18 := eq_true q18
                          go_wp2
                          go_ret
                          exact ⟨by first | rfl | (simp [errW_none, errW_some] <;> rfl) | (simp only [← hji2]; first | rfl | (simp [errW_none, errW_some] <;> rfl)) | (simp [*, errW_none, errW_some] <;> rfl), by repeat (first | (with_reducible first | exact HB.out | apply below_alloc | apply pw_below_drewN | apply below_drew1) | exact HB.out)⟩
                        · rw [if_neg c19] at H
                          have c19b0 : ((bt t156 x6_2) == 13) = false := beq_eq_false_iff_ne.mpr c19
                          have c19b1 : ((bt t156 x6_2) != 13) = true := bne_iff_ne.mpr c19
                          have H' := Aside0.mk H
                          clear H
                          have p14 : 0 ≤ (x6_2 : Int) := of_decide_eq_true (by first | (with_reducible assumption) | assumption)
                          have q14 : x6_2 < (t156.size : Int) := of_decide_eq_true (by first | (with_reducible assumption) | assumption)
                          have hx14 := bt_at t156 x6_2
                          replace p14 := eq_true p14
                          replace q14 := eq_true q14
                          have p16 : 0 ≤ (x6_2 : Int) := of_decide_eq_true (by first | (with_reducible assumption) | assumption)
                          have q16 : x6_2 < (t156.size : Int) := of_decide_eq_true (by first | (with_reducible assumption) | assumption)
                          have hx16 := bt_at t156 x6_2
                          replace p16 := eq_true p16
                          replace q16 := eq_true q16
                          have p18 : 0 ≤ (x6_2 : Int) := of_decide_eq_true (by first | (with_reducible assumption) | assumption)
                          have q18 : x6_2 < (t156.size : Int) := of_decide_eq_true (by first | (with_reducible assumption) | assumption)
                          have hx18 := bt_at t156 x6_2
                          replace p18 := eq_true p18
                          replace q18 := eq_true q18
                          go_wp2
                          go_roundg k2
                          case measure => have := HK1.out; have := HK2.out; omega
                          case rel => exact ⟨(wrap64 (x6_2 + 1)), (by first | rfl | (simp; done) | (simp [*]; done)), H', ⟨by have := HK1.out; have := HK2.out; omega⟩, ⟨by repeat (first | (with_reducible first | exact HB.out | apply below_alloc | apply pw_below_drewN | apply below_drew1) | exact HB.out)⟩⟩
                  · rw [if_neg c13] at H
                    exact absurd H (by simp)
                · rw [if_neg c12] at H
                  have c12b0 : decide (x6_2 < (t156.size : Int)) = false := decide_eq_false c12
                  clear c12
                  replace H := Option.bind_eq_some_iff.mp H
                  obtain ⟨t157, A200, H⟩ := H
                  replace H : (if t157.toList = t156.toList then (if t156.toList = ([] : List UInt8) then (if x4_1 = true then ((link_Percent.f sx5).bind fun t158 => (if t158.toList = sx5.toList then ((link_Percent.f sx5).bind fun t159 => (if (t159.size : Int) ≤ (sx5.size : Int) then ((boltinglaw09_fixed.f).bind fun t160 => (some t160)) else (some false))) else (some false))) else ((link_Percent.f sx5).bind fun t161 => (if (t161.size : Int) ≤ (sx5.size : Int) then ((boltinglaw09_fixed.f).bind fun t162 => (some t162)) else (some false)))) else (if 0 < (t156.size : Int) then (if (bt t156 0) > 32 then (if 0 ≤ (wrap64 ((t156.size : Int) - 1)) then (if (wrap64 ((t156.size : Int) - 1)) < (t156.size : Int) then (if (bt t156 (wrap64 ((t156.size : Int) - 1))) > 32 then (if x4_1 = true then ((link_Percent.f sx5).bind fun t163 => (if t163.toList = sx5.toList then ((link_Percent.f sx5).bind fun t164 => (if (t164.size : Int) ≤ (sx5.size : Int) then ((boltinglaw09_fixed.f).bind fun t165 => (some t165)) else (some false))) else (some false))) else ((link_Percent.f sx5).bind fun t166 => (if (t166.size : Int) ≤ (sx5.size : Int) then ((boltinglaw09_fixed.f).bind fun t167 => (some t167)) else (some false)))) else (some false)) else (none)) else (none)) else (some false)) else (none))) else (some false)) = some r := H
                  have A20 := Aside0.mk A200
                  clear A200
                  by_cases c21 : t157.toList = t156.toList
                  · rw [if_pos c21] at H
                    have c21b0 : (t157.toList == t156.toList) = true := beq_iff_eq.mpr c21
                    have c21b1 : (t157.toList != t156.toList) = false := bne_eq_false_iff_eq.mpr c21
                    clear c21
                    by_cases c22 : t156.toList = ([] : List UInt8)
                    · rw [if_pos c22] at H
                      have c22b0 : (t156.toList == ([] : List UInt8)) = true := beq_iff_eq.mpr c22
                      have c22b1 : (t156.toList != ([] : List UInt8)) = false := bne_eq_false_iff_eq.mpr c22
                      clear c22
                      by_cases c23 : x4_1 = true
                      · subst c23
                        have H1 : ((link_Percent.f sx5).bind fun t158 => (if t158.toList = sx5.toList then ((link_Percent.f sx5).bind fun t159 => (if (t159.size : Int) ≤ (sx5.size : Int) then ((boltinglaw09_fixed.f).bind fun t160 => (some t160)) else (some false))) else (some false))) = some r := by rw [if_pos rfl] at H; exact H
                        clear H
                        have H := H1
                        clear H1
                        replace H := Option.bind_eq_some_iff.mp H
                        obtain ⟨t158, A240, H⟩ := H
                        replace H : (if t158.toList = sx5.toList then ((link_Percent.f sx5).bind fun t159 => (if (t159.size : Int) ≤ (sx5.size : Int) then ((boltinglaw09_fixed.f).bind fun t160 => (some t160)) else (some false))) else (some false)) = some r := H
                        have A24 := Aside0.mk A240
                        clear A240
                        by_cases c25 : t158.toList = sx5.toList
                        · rw [if_pos c25] at H
                          have c25b0 : (t158.toList == sx5.toList) = true := beq_iff_eq.mpr c25
                          have c25b1 : (t158.toList != sx5.toList) = false := bne_eq_false_iff_eq.mpr c25
                          clear c25
                          replace H := Option.bind_eq_some_iff.mp H
                          obtain ⟨t159, A260, H⟩ := H
                          replace H : (if (t159.size : Int) ≤ (sx5.size : Int) then ((boltinglaw09_fixed.f).bind fun t160 => (some t160)) else (some false)) = some r := H
                          have A26 := Aside0.mk A260
                          clear A260
                          by_cases c27 : (t159.size : Int) ≤ (sx5.size : Int)
                          · rw [if_pos c27] at H
                            have c27b0 : decide ((t159.size : Int) ≤ (sx5.size : Int)) = true := decide_eq_true c27
                            have c27b0z : decide ((t158.size : Int) ≤ (sx5.size : Int)) = true := by rw [show t158 = t159 from Option.some.inj (A24.out.symm.trans A26.out)]; exact c27b0
                            have c27b1 : decide (t159.size ≤ sx5.size) = true := decide_eq_true (Int.ofNat_le.mp c27)
                            have c27b1z : decide (t158.size ≤ sx5.size) = true := by rw [show t158 = t159 from Option.some.inj (A24.out.symm.trans A26.out)]; exact c27b1
                            clear c27
                            replace H := Option.bind_eq_some_iff.mp H
                            obtain ⟨t160, A280, H⟩ := H
                            replace H : (some t160) = some r := H
                            have A28 := Aside0.mk A280
                            clear A280
                            obtain rfl := Option.some.inj H
                            go_wp2_with (first | ((with_reducible refine gate_callee (f := 14) rfl ?_); refine goesL_ (some 50) rfl rfl Try.func14 (by kernel_rfl) rfl #[.string t156] rfl (by (try simp only [List.map_toArray, List.map_cons, List.map_nil]); first | done | rfl | (simp only [List.length_drop, List.length_take]; rfl)) ?_; (with_reducible refine (link_Strip.calls t156 t157 _ A20.out).mono ?_); rintro e w29 ⟨rfl, hb⟩; refine ⟨_, rfl, ?_⟩; have n0_ := Aside0.mk (below_step (by repeat (first | (with_reducible first | exact HB.out | apply below_alloc | apply pw_below_drewN | apply below_drew1) | exact HB.out)) hb); clear HB; have HB := n0_; clear n0_; (try clear hb); (try clear hb2); (try clear hk); (try clear hi)) | (go_at_call 19; (with_reducible refine (link_Percent.calls sx5 t158 _ A24.out).mono ?_); rintro e w30 ⟨rfl, hb⟩; have n0_ := Aside0.mk (below_step (by repeat (first | (with_reducible first | exact HB.out | apply below_alloc | apply pw_below_drewN | apply below_drew1) | exact HB.out)) hb); clear HB; have HB := n0_; clear n0_; (try clear hb); (try clear hb2); (try clear hk); (try clear hi)) | (go_at_call 19; (with_reducible refine (link_Percent.calls sx5 t159 _ A26.out).mono ?_); rintro e w31 ⟨rfl, hb⟩; have n0_ := Aside0.mk (below_step (by repeat (first | (with_reducible first | exact HB.out | apply below_alloc | apply pw_below_drewN | apply below_drew1) | exact HB.out)) hb); clear HB; have HB := n0_; clear n0_; (try clear hb); (try clear hb2); (try clear hk); (try clear hi)) | (go_at_call 13; (with_reducible refine (boltinglaw09_fixed.calls  t160 _ A28.out).mono ?_); rintro e w32 ⟨rfl, hb⟩; have n0_ := Aside0.mk (below_step (by repeat (first | (with_reducible first | exact HB.out | apply below_alloc | apply pw_below_drewN | apply below_drew1) | exact HB.out)) hb); clear HB; have HB := n0_; clear n0_; (try clear hb); (try clear hb2); (try clear hk); (try clear hi)))
                            go_ret
                            exact ⟨by first | rfl | (simp [errW_none, errW_some] <;> rfl) | (simp only [← hji2]; first | rfl | (simp [errW_none, errW_some] <;> rfl)) | (simp [*, errW_none, errW_some] <;> rfl), by repeat (first | (with_reducible first | exact HB.out | apply below_alloc | apply pw_below_drewN | apply below_drew1) | exact HB.out)⟩
                          · rw [if_neg c27] at H
                            have c27b0 : decide ((t159.size : Int) ≤ (sx5.size : Int)) = false := decide_eq_false c27
                            have c27b0z : decide ((t158.size : Int) ≤ (sx5.size : Int)) = false := by rw [show t158 = t159 from Option.some.inj (A24.out.symm.trans A26.out)]; exact c27b0
                            have c27b1 : decide (t159.size ≤ sx5.size) = false := decide_eq_false (fun h => c27 (Int.ofNat_le.mpr h))
                            have c27b1z : decide (t158.size ≤ sx5.size) = false := by rw [show t158 = t159 from Option.some.inj (A24.out.symm.trans A26.out)]; exact c27b1
                            clear c27
                            obtain rfl := Option.some.inj H
                            go_wp2_with (first | ((with_reducible refine gate_callee (f := 14) rfl ?_); refine goesL_ (some 50) rfl rfl Try.func14 (by kernel_rfl) rfl #[.string t156] rfl (by (try simp only [List.map_toArray, List.map_cons, List.map_nil]); first | done | rfl | (simp only [List.length_drop, List.length_take]; rfl)) ?_; (with_reducible refine (link_Strip.calls t156 t157 _ A20.out).mono ?_); rintro e w33 ⟨rfl, hb⟩; refine ⟨_, rfl, ?_⟩; have n0_ := Aside0.mk (below_step (by repeat (first | (with_reducible first | exact HB.out | apply below_alloc | apply pw_below_drewN | apply below_drew1) | exact HB.out)) hb); clear HB; have HB := n0_; clear n0_; (try clear hb); (try clear hb2); (try clear hk); (try clear hi)) | (go_at_call 19; (with_reducible refine (link_Percent.calls sx5 t158 _ A24.out).mono ?_); rintro e w34 ⟨rfl, hb⟩; have n0_ := Aside0.mk (below_step (by repeat (first | (with_reducible first | exact HB.out | apply below_alloc | apply pw_below_drewN | apply below_drew1) | exact HB.out)) hb); clear HB; have HB := n0_; clear n0_; (try clear hb); (try clear hb2); (try clear hk); (try clear hi)) | (go_at_call 19; (with_reducible refine (link_Percent.calls sx5 t159 _ A26.out).mono ?_); rintro e w35 ⟨rfl, hb⟩; have n0_ := Aside0.mk (below_step (by repeat (first | (with_reducible first | exact HB.out | apply below_alloc | apply pw_below_drewN | apply below_drew1) | exact HB.out)) hb); clear HB; have HB := n0_; clear n0_; (try clear hb); (try clear hb2); (try clear hk); (try clear hi)))
                            go_ret
                            exact ⟨by first | rfl | (simp [errW_none, errW_some] <;> rfl) | (simp only [← hji2]; first | rfl | (simp [errW_none, errW_some] <;> rfl)) | (simp [*, errW_none, errW_some] <;> rfl), by repeat (first | (with_reducible first | exact HB.out | apply below_alloc | apply pw_below_drewN | apply below_drew1) | exact HB.out)⟩
                        · rw [if_neg c25] at H
                          have c25b0 : (t158.toList == sx5.toList) = false := beq_eq_false_iff_ne.mpr c25
                          have c25b1 : (t158.toList != sx5.toList) = true := bne_iff_ne.mpr c25
                          obtain rfl := Option.some.inj H
                          go_wp2_with (first | ((with_reducible refine gate_callee (f := 14) rfl ?_); refine goesL_ (some 50) rfl rfl Try.func14 (by kernel_rfl) rfl #[.string t156] rfl (by (try simp only [List.map_toArray, List.map_cons, List.map_nil]); first | done | rfl | (simp only [List.length_drop, List.length_take]; rfl)) ?_; (with_reducible refine (link_Strip.calls t156 t157 _ A20.out).mono ?_); rintro e w36 ⟨rfl, hb⟩; refine ⟨_, rfl, ?_⟩; have n0_ := Aside0.mk (below_step (by repeat (first | (with_reducible first | exact HB.out | apply below_alloc | apply pw_below_drewN | apply below_drew1) | exact HB.out)) hb); clear HB; have HB := n0_; clear n0_; (try clear hb); (try clear hb2); (try clear hk); (try clear hi)) | (go_at_call 19; (with_reducible refine (link_Percent.calls sx5 t158 _ A24.out).mono ?_); rintro e w37 ⟨rfl, hb⟩; have n0_ := Aside0.mk (below_step (by repeat (first | (with_reducible first | exact HB.out | apply below_alloc | apply pw_below_drewN | apply below_drew1) | exact HB.out)) hb); clear HB; have HB := n0_; clear n0_; (try clear hb); (try clear hb2); (try clear hk); (try clear hi)))
                          go_ret
                          exact ⟨by first | rfl | (simp [errW_none, errW_some] <;> rfl) | (simp only [← hji2]; first | rfl | (simp [errW_none, errW_some] <;> rfl)) | (simp [*, errW_none, errW_some] <;> rfl), by repeat (first | (with_reducible first | exact HB.out | apply below_alloc | apply pw_below_drewN | apply below_drew1) | exact HB.out)⟩
                      · replace c23 := Bool.eq_false_iff.mpr c23
                        subst c23
                        have H1 : ((link_Percent.f sx5).bind fun t161 => (if (t161.size : Int) ≤ (sx5.size : Int) then ((boltinglaw09_fixed.f).bind fun t162 => (some t162)) else (some false))) = some r := by rw [if_neg (show ¬ (false = true) by decide)] at H; exact H
                        clear H
                        have H := H1
                        clear H1
                        replace H := Option.bind_eq_some_iff.mp H
                        obtain ⟨t161, A380, H⟩ := H
                        replace H : (if (t161.size : Int) ≤ (sx5.size : Int) then ((boltinglaw09_fixed.f).bind fun t162 => (some t162)) else (some false)) = some r := H
                        have A38 := Aside0.mk A380
                        clear A380
                        by_cases c39 : (t161.size : Int) ≤ (sx5.size : Int)
                        · rw [if_pos c39] at H
                          have c39b0 : decide ((t161.size : Int) ≤ (sx5.size : Int)) = true := decide_eq_true c39
                          have c39b1 : decide (t161.size ≤ sx5.size) = true := decide_eq_true (Int.ofNat_le.mp c39)
                          clear c39
                          replace H := Option.bind_eq_some_iff.mp H
                          obtain ⟨t162, A400, H⟩ := H
                          replace H : (some t162) = some r := H
                          have A40 := Aside0.mk A400
                          clear A400
                          obtain rfl := Option.some.inj H
                          go_wp2_with (first | ((with_reducible refine gate_callee (f := 14) rfl ?_); refine goesL_ (some 50) rfl rfl Try.func14 (by kernel_rfl) rfl #[.string t156] rfl (by (try simp only [List.map_toArray, List.map_cons, List.map_nil]); first | done | rfl | (simp only [List.length_drop, List.length_take]; rfl)) ?_; (with_reducible refine (link_Strip.calls t156 t157 _ A20.out).mono ?_); rintro e w41 ⟨rfl, hb⟩; refine ⟨_, rfl, ?_⟩; have n0_ := Aside0.mk (below_step (by repeat (first | (with_reducible first | exact HB.out | apply below_alloc | apply pw_below_drewN | apply below_drew1) | exact HB.out)) hb); clear HB; have HB := n0_; clear n0_; (try clear hb); (try clear hb2); (try clear hk); (try clear hi)) | (go_at_call 19; (with_reducible refine (link_Percent.calls sx5 t161 _ A38.out).mono ?_); rintro e w42 ⟨rfl, hb⟩; have n0_ := Aside0.mk (below_step (by repeat (first | (with_reducible first | exact HB.out | apply below_alloc | apply pw_below_drewN | apply below_drew1) | exact HB.out)) hb); clear HB; have HB := n0_; clear n0_; (try clear hb); (try clear hb2); (try clear hk); (try clear hi)) | (go_at_call 13; (with_reducible refine (boltinglaw09_fixed.calls  t162 _ A40.out).mono ?_); rintro e w43 ⟨rfl, hb⟩; have n0_ := Aside0.mk (below_step (by repeat (first | (with_reducible first | exact HB.out | apply below_alloc | apply pw_below_drewN | apply below_drew1) | exact HB.out)) hb); clear HB; have HB := n0_; clear n0_; (try clear hb); (try clear hb2); (try clear hk); (try clear hi)))
                          go_ret
                          exact ⟨by first | rfl | (simp [errW_none, errW_some] <;> rfl) | (simp only [← hji2]; first | rfl | (simp [errW_none, errW_some] <;> rfl)) | (simp [*, errW_none, errW_some] <;> rfl), by repeat (first | (with_reducible first | exact HB.out | apply below_alloc | apply pw_below_drewN | apply below_drew1) | exact HB.out)⟩
                        · rw [if_neg c39] at H
                          have c39b0 : decide ((t161.size : Int) ≤ (sx5.size : Int)) = false := decide_eq_false c39
                          have c39b1 : decide (t161.size ≤ sx5.size) = false := decide_eq_false (fun h => c39 (Int.ofNat_le.mpr h))
                          clear c39
                          obtain rfl := Option.some.inj H
                          go_wp2_with (first | ((with_reducible refine gate_callee (f := 14) rfl ?_); refine goesL_ (some 50) rfl rfl Try.func14 (by kernel_rfl) rfl #[.string t156] rfl (by (try simp only [List.map_toArray, List.map_cons, List.map_nil]); first | done | rfl | (simp only [List.length_drop, List.length_take]; rfl)) ?_; (with_reducible refine (link_Strip.calls t156 t157 _ A20.out).mono ?_); rintro e w44 ⟨rfl, hb⟩; refine ⟨_, rfl, ?_⟩; have n0_ := Aside0.mk (below_step (by repeat (first | (with_reducible first | exact HB.out | apply below_alloc | apply pw_below_drewN | apply below_drew1) | exact HB.out)) hb); clear HB; have HB := n0_; clear n0_; (try clear hb); (try clear hb2); (try clear hk); (try clear hi)) | (go_at_call 19; (with_reducible refine (link_Percent.calls sx5 t161 _ A38.out).mono ?_); rintro e w45 ⟨rfl, hb⟩; have n0_ := Aside0.mk (below_step (by repeat (first | (with_reducible first | exact HB.out | apply below_alloc | apply pw_below_drewN | apply below_drew1) | exact HB.out)) hb); clear HB; have HB := n0_; clear n0_; (try clear hb); (try clear hb2); (try clear hk); (try clear hi)))
                          go_ret
                          exact ⟨by first | rfl | (simp [errW_none, errW_some] <;> rfl) | (simp only [← hji2]; first | rfl | (simp [errW_none, errW_some] <;> rfl)) | (simp [*, errW_none, errW_some] <;> rfl), by repeat (first | (with_reducible first | exact HB.out | apply below_alloc | apply pw_below_drewN | apply below_drew1) | exact HB.out)⟩
                    · rw [if_neg c22] at H
                      have c22b0 : (t156.toList == ([] : List UInt8)) = false := beq_eq_false_iff_ne.mpr c22
                      have c22b1 : (t156.toList != ([] : List UInt8)) = true := bne_iff_ne.mpr c22
                      by_cases c46 : 0 < (t156.size : Int)
                      · rw [if_pos c46] at H
                        have c46b0 : decide (0 < (t156.size : Int)) = true := decide_eq_true c46
                        have c46b1 : decide (0 < t156.size) = true := decide_eq_true (by omega)
                        clear c46
                        by_cases c48 : (bt t156 0) > 32
                        · rw [if_pos c48] at H
                          have c48b0 : decide (32 < (bt t156 0)) = true := decide_eq_true c48
                          clear c48
                          obtain ⟨ji49, hji49⟩ : ∃ j_ : Int, (wrap64 ((t156.size : Int) - 1)) = j_ := ⟨_, rfl⟩
                          replace H : (if 0 ≤ (ji49) then (if (ji49) < (t156.size : Int) then (if (bt t156 (ji49)) > 32 then (if x4_1 = true then ((link_Percent.f sx5).bind fun t163 => (if t163.toList = sx5.toList then ((link_Percent.f sx5).bind fun t164 => (if (t164.size : Int) ≤ (sx5.size : Int) then ((boltinglaw09_fixed.f).bind fun t165 => (some t165)) else (some false))) else (some false))) else ((link_Percent.f sx5).bind fun t166 => (if (t166.size : Int) ≤ (sx5.size : Int) then ((boltinglaw09_fixed.f).bind fun t167 => (some t167)) else (some false)))) else (some false)) else (none)) else (none)) = some r := by first | (rw [hji49] at H; exact H) | (simp only [hji49] at H ⊢; exact H)
                          (try rw [hji49] at A20)
                          have hji49w : (IntKind.i64.wrap ((t156.size : Int) - 1)) = ji49 := (i64_w _).trans hji49
                          by_cases c50 : 0 ≤ (ji49)
                          · rw [if_pos c50] at H
                            have c50b0 : decide (0 ≤ (ji49)) = true := decide_eq_true c50
                            clear c50
                            by_cases c51 : (ji49) < (t156.size : Int)
                            · rw [if_pos c51] at H
                              have c51b0 : decide ((ji49) < (t156.size : Int)) = true := decide_eq_true c51
                              clear c51
                              by_cases c53 : (bt t156 (ji49)) > 32
                              · rw [if_pos c53] at H
                                have c53b0 : decide (32 < (bt t156 (ji49))) = true := decide_eq_true c53
                                clear c53
                                by_cases c54 : x4_1 = true
                                · subst c54
                                  have H1 : ((link_Percent.f sx5).bind fun t163 => (if t163.toList = sx5.toList then ((link_Percent.f sx5).bind fun t164 => (if (t164.size : Int) ≤ (sx5.size : Int) then ((boltinglaw09_fixed.f).bind fun t165 => (some t165)) else (some false))) else (some false))) = some r := by rw [if_pos rfl] at H; exact H
                                  clear H
                                  have H := H1
                                  clear H1
                                  replace H := Option.bind_eq_some_iff.mp H
                                  obtain ⟨t163, A550, H⟩ := H
                                  replace H : (if t163.toList = sx5.toList then ((link_Percent.f sx5).bind fun t164 => (if (t164.size : Int) ≤ (sx5.size : Int) then ((boltinglaw09_fixed.f).bind fun t165 => (some t165)) else (some false))) else (some false)) = some r := H
                                  have A55 := Aside0.mk A550
                                  clear A550
                                  by_cases c56 : t163.toList = sx5.toList
                                  · rw [if_pos c56] at H
                                    have c56b0 : (t163.toList == sx5.toList) = true := beq_iff_eq.mpr c56
                                    have c56b1 : (t163.toList != sx5.toList) = false := bne_eq_false_iff_eq.mpr c56
                                    clear c56
                                    replace H := Option.bind_eq_some_iff.mp H
                                    obtain ⟨t164, A570, H⟩ := H
                                    replace H : (if (t164.size : Int) ≤ (sx5.size : Int) then ((boltinglaw09_fixed.f).bind fun t165 => (some t165)) else (some false)) = some r := H
                                    have A57 := Aside0.mk A570
                                    clear A570
                                    by_cases c58 : (t164.size : Int) ≤ (sx5.size : Int)
                                    · rw [if_pos c58] at H
                                      have c58b0 : decide ((t164.size : Int) ≤ (sx5.size : Int)) = true := decide_eq_true c58
                                      have c58b0z : decide ((t163.size : Int) ≤ (sx5.size : Int)) = true := by rw [show t163 = t164 from Option.some.inj (A55.out.symm.trans A57.out)]; exact c58b0
                                      have c58b1 : decide (t164.size ≤ sx5.size) = true := decide_eq_true (Int.ofNat_le.mp c58)
                                      have c58b1z : decide (t163.size ≤ sx5.size) = true := by rw [show t163 = t164 from Option.some.inj (A55.out.symm.trans A57.out)]; exact c58b1
                                      clear c58
                                      replace H := Option.bind_eq_some_iff.mp H
                                      obtain ⟨t165, A590, H⟩ := H
                                      replace H : (some t165) = some r := H
                                      have A59 := Aside0.mk A590
                                      clear A590
                                      obtain rfl := Option.some.inj H
                                      go_wp2_with (first | ((with_reducible refine gate_callee (f := 14) rfl ?_); refine goesL_ (some 50) rfl rfl Try.func14 (by kernel_rfl) rfl #[.string t156] rfl (by (try simp only [List.map_toArray, List.map_cons, List.map_nil]); first | done | rfl | (simp only [List.length_drop, List.length_take]; rfl)) ?_; (with_reducible refine (link_Strip.calls t156 t157 _ A20.out).mono ?_); rintro e w60 ⟨rfl, hb⟩; refine ⟨_, rfl, ?_⟩; have n0_ := Aside0.mk (below_step (by repeat (first | (with_reducible first | exact HB.out | apply below_alloc | apply pw_below_drewN | apply below_drew1) | exact HB.out)) hb); clear HB; have HB := n0_; clear n0_; (try clear hb); (try clear hb2); (try clear hk); (try clear hi); have p47 : 0 ≤ (0 : Int) := (by omega); have q47 : 0 < t156.size := (by have : (0 : Int) < (t156.size : Int) := of_decide_eq_true (by first | (with_reducible assumption) | assumption); omega); have hx47 : ∀ h : 0 < t156.size, ((t156[0]'h).toNat : Int) = bt t156 0 := bt_at t156 0; clear p47; have qi47 : (0 < (t156.size : Int)) = True := eq_true (of_decide_eq_true (by first | (with_reducible assumption) | assumption)); replace q47 := eq_true q47; have p52 : 0 ≤ ((ji49) : Int) := of_decide_eq_true (by first | (with_reducible assumption) | assumption); have q52 : (ji49) < (t156.size : Int) := of_decide_eq_true (by first | (with_reducible assumption) | assumption); have hx52 := bt_at t156 (ji49); replace p52 := eq_true p52; replace q52 := eq_true q52) | (go_at_call 19; (with_reducible refine (link_Percent.calls sx5 t163 _ A55.out).mono ?_); rintro e w61 ⟨rfl, hb⟩; have n0_ := Aside0.mk (below_step (by repeat (first | (with_reducible first | exact HB.out | apply below_alloc | apply pw_below_drewN | apply below_drew1) | exact HB.out)) hb); clear HB; have HB := n0_; clear n0_; (try clear hb); (try clear hb2); (try clear hk); (try clear hi)) | (go_at_call 19; (with_reducible refine (link_Percent.calls sx5 t164 _ A57.out).mono ?_); rintro e w62 ⟨rfl, hb⟩; have n0_ := Aside0.mk (below_step (by repeat (first | (with_reducible first | exact HB.out | apply below_alloc | apply pw_below_drewN | apply below_drew1) | exact HB.out)) hb); clear HB; have HB := n0_; clear n0_; (try clear hb); (try clear hb2); (try clear hk); (try clear hi)) | (go_at_call 13; (with_reducible refine (boltinglaw09_fixed.calls  t165 _ A59.out).mono ?_); rintro e w63 ⟨rfl, hb⟩; have n0_ := Aside0.mk (below_step (by repeat (first | (with_reducible first | exact HB.out | apply below_alloc | apply pw_below_drewN | apply below_drew1) | exact HB.out)) hb); clear HB; have HB := n0_; clear n0_; (try clear hb); (try clear hb2); (try clear hk); (try clear hi)))
                                      go_ret
                                      exact ⟨by first | rfl | (simp [errW_none, errW_some] <;> rfl) | (simp only [← hji2, ← hji49]; first | rfl | (simp [errW_none, errW_some] <;> rfl)) | (simp [*, errW_none, errW_some] <;> rfl), by repeat (first | (with_reducible first | exact HB.out | apply below_alloc | apply pw_below_drewN | apply below_drew1) | exact HB.out)⟩
                                    · rw [if_neg c58] at H
                                      have c58b0 : decide ((t164.size : Int) ≤ (sx5.size : Int)) = false := decide_eq_false c58
                                      have c58b0z : decide ((t163.size : Int) ≤ (sx5.size : Int)) = false := by rw [show t163 = t164 from Option.some.inj (A55.out.symm.trans A57.out)]; exact c58b0
                                      have c58b1 : decide (t164.size ≤ sx5.size) = false := decide_eq_false (fun h => c58 (Int.ofNat_le.mpr h))
                                      have c58b1z : decide (t163.size ≤ sx5.size) = false := by rw [show t163 = t164 from Option.some.inj (A55.out.symm.trans A57.out)]; exact c58b1
                                      clear c58
                                      obtain rfl := Option.some.inj H
                                      go_wp2_with (first | ((with_reducible refine gate_callee (f := 14) rfl ?_); refine goesL_ (some 50) rfl rfl Try.func14 (by kernel_rfl) rfl #[.string t156] rfl (by (try simp only [List.map_toArray, List.map_cons, List.map_nil]); first | done | rfl | (simp only [List.length_drop, List.length_take]; rfl)) ?_; (with_reducible refine (link_Strip.calls t156 t157 _ A20.out).mono ?_); rintro e w64 ⟨rfl, hb⟩; refine ⟨_, rfl, ?_⟩; have n0_ := Aside0.mk (below_step (by repeat (first | (with_reducible first | exact HB.out | apply below_alloc | apply pw_below_drewN | apply below_drew1) | exact HB.out)) hb); clear HB; have HB := n0_; clear n0_; (try clear hb); (try clear hb2); (try clear hk); (try clear hi); have p47 : 0 ≤ (0 : Int) := (by omega); have q47 : 0 < t156.size := (by have : (0 : Int) < (t156.size : Int) := of_decide_eq_true (by first | (with_reducible assumption) | assumption); omega); have hx47 : ∀ h : 0 < t156.size, ((t156[0]'h).toNat : Int) = bt t156 0 := bt_at t156 0; clear p47; have qi47 : (0 < (t156.size : Int)) = True := eq_true (of_decide_eq_true (by first | (with_reducible assumption) | assumption)); replace q47 := eq_true q47; have p52 : 0 ≤ ((ji49) : Int) := of_decide_eq_true (by first | (with_reducible assumption) | assumption); have q52 : (ji49) < (t156.size : Int) := of_decide_eq_true (by first | (with_reducible assumption) | assumption); have hx52 := bt_at t156 (ji49); replace p52 := eq_true p52; replace q52 := eq_true q52) | (go_at_call 19; (with_reducible refine (link_Percent.calls sx5 t163 _ A55.out).mono ?_); rintro e w65 ⟨rfl, hb⟩; have n0_ := Aside0.mk (below_step (by repeat (first | (with_reducible first | exact HB.out | apply below_alloc | apply pw_below_drewN | apply below_drew1) | exact HB.out)) hb); clear HB; have HB := n0_; clear n0_; (try clear hb); (try clear hb2); (try clear hk); (try clear hi)) | (go_at_call 19; (with_reducible refine (link_Percent.calls sx5 t164 _ A57.out).mono ?_); rintro e w66 ⟨rfl, hb⟩; have n0_ := Aside0.mk (below_step (by repeat (first | (with_reducible first | exact HB.out | apply below_alloc | apply pw_below_drewN | apply below_drew1) | exact HB.out)) hb); clear HB; have HB := n0_; clear n0_; (try clear hb); (try clear hb2); (try clear hk); (try clear hi)))
                                      go_ret
                                      exact ⟨by first | rfl | (simp [errW_none, errW_some] <;> rfl) | (simp only [← hji2, ← hji49]; first | rfl | (simp [errW_none, errW_some] <;> rfl)) | (simp [*, errW_none, errW_some] <;> rfl), by repeat (first | (with_reducible first | exact HB.out | apply below_alloc | apply pw_below_drewN | apply below_drew1) | exact HB.out)⟩
                                  · rw [if_neg c56] at H
                                    have c56b0 : (t163.toList == sx5.toList) = false := beq_eq_false_iff_ne.mpr c56
                                    have c56b1 : (t163.toList != sx5.toList) = true := bne_iff_ne.mpr c56
                                    obtain rfl := Option.some.inj H
                                    go_wp2_with (first | ((with_reducible refine gate_callee (f := 14) rfl ?_); refine goesL_ (some 50) rfl rfl Try.func14 (by kernel_rfl) rfl #[.string t156] rfl (by (try simp only [List.map_toArray, List.map_cons, List.map_nil]); first | done | rfl | (simp only [List.length_drop, List.length_take]; rfl)) ?_; (with_reducible refine (link_Strip.calls t156 t157 _ A20.out).mono ?_); rintro e w67 ⟨rfl, hb⟩; refine ⟨_, rfl, ?_⟩; have n0_ := Aside0.mk (below_step (by repeat (first | (with_reducible first | exact HB.out | apply below_alloc | apply pw_below_drewN | apply below_drew1) | exact HB.out)) hb); clear HB; have HB := n0_; clear n0_; (try clear hb); (try clear hb2); (try clear hk); (try clear hi); have p47 : 0 ≤ (0 : Int) := (by omega); have q47 : 0 < t156.size := (by have : (0 : Int) < (t156.size : Int) := of_decide_eq_true (by first | (with_reducible assumption) | assumption); omega); have hx47 : ∀ h : 0 < t156.size, ((t156[0]'h).toNat : Int) = bt t156 0 := bt_at t156 0; clear p47; have qi47 : (0 < (t156.size : Int)) = True := eq_true (of_decide_eq_true (by first | (with_reducible assumption) | assumption)); replace q47 := eq_true q47; have p52 : 0 ≤ ((ji49) : Int) := of_decide_eq_true (by first | (with_reducible assumption) | assumption); have q52 : (ji49) < (t156.size : Int) := of_decide_eq_true (by first | (with_reducible assumption) | assumption); have hx52 := bt_at t156 (ji49); replace p52 := eq_true p52; replace q52 := eq_true q52) | (go_at_call 19; (with_reducible refine (link_Percent.calls sx5 t163 _ A55.out).mono ?_); rintro e w68 ⟨rfl, hb⟩; have n0_ := Aside0.mk (below_step (by repeat (first | (with_reducible first | exact HB.out | apply below_alloc | apply pw_below_drewN | apply below_drew1) | exact HB.out)) hb); clear HB; have HB := n0_; clear n0_; (try clear hb); (try clear hb2); (try clear hk); (try clear hi)))
                                    go_ret
                                    exact ⟨by first | rfl | (simp [errW_none, errW_some] <;> rfl) | (simp only [← hji2, ← hji49]; first | rfl | (simp [errW_none, errW_some] <;> rfl)) | (simp [*, errW_none, errW_some] <;> rfl), by repeat (first | (with_reducible first | exact HB.out | apply below_alloc | apply pw_below_drewN | apply below_drew1) | exact HB.out)⟩
                                · replace c54 := Bool.eq_false_iff.mpr c54
                                  subst c54
                                  have H1 : ((link_Percent.f sx5).bind fun t166 => (if (t166.size : Int) ≤ (sx5.size : Int) then ((boltinglaw09_fixed.f).bind fun t167 => (some t167)) else (some false))) = some r := by rw [if_neg (show ¬ (false = true) by decide)] at H; exact H
                                  clear H
                                  have H := H1
                                  clear H1
                                  replace H := Option.bind_eq_some_iff.mp H
                                  obtain ⟨t166, A690, H⟩ := H
                                  replace H : (if (t166.size : Int) ≤ (sx5.size : Int) then ((boltinglaw09_fixed.f).bind fun t167 => (some t167)) else (some false)) = some r := H
                                  have A69 := Aside0.mk A690
                                  clear A690
                                  by_cases c70 : (t166.size : Int) ≤ (sx5.size : Int)
                                  · rw [if_pos c70] at H
                                    have c70b0 : decide ((t166.size : Int) ≤ (sx5.size : Int)) = true := decide_eq_true c70
                                    have c70b1 : decide (t166.size ≤ sx5.size) = true := decide_eq_true (Int.ofNat_le.mp c70)
                                    clear c70
                                    replace H := Option.bind_eq_some_iff.mp H
                                    obtain ⟨t167, A710, H⟩ := H
                                    replace H : (some t167) = some r := H
                                    have A71 := Aside0.mk A710
                                    clear A710
                                    obtain rfl := Option.some.inj H
                                    go_wp2_with (first | ((with_reducible refine gate_callee (f := 14) rfl ?_); refine goesL_ (some 50) rfl rfl Try.func14 (by kernel_rfl) rfl #[.string t156] rfl (by (try simp only [List.map_toArray, List.map_cons, List.map_nil]); first | done | rfl | (simp only [List.length_drop, List.length_take]; rfl)) ?_; (with_reducible refine (link_Strip.calls t156 t157 _ A20.out).mono ?_); rintro e w72 ⟨rfl, hb⟩; refine ⟨_, rfl, ?_⟩; have n0_ := Aside0.mk (below_step (by repeat (first | (with_reducible first | exact HB.out | apply below_alloc | apply pw_below_drewN | apply below_drew1) | exact HB.out)) hb); clear HB; have HB := n0_; clear n0_; (try clear hb); (try clear hb2); (try clear hk); (try clear hi); have p47 : 0 ≤ (0 : Int) := (by omega); have q47 : 0 < t156.size := (by have : (0 : Int) < (t156.size : Int) := of_decide_eq_true (by first | (with_reducible assumption) | assumption); omega); have hx47 : ∀ h : 0 < t156.size, ((t156[0]'h).toNat : Int) = bt t156 0 := bt_at t156 0; clear p47; have qi47 : (0 < (t156.size : Int)) = True := eq_true (of_decide_eq_true (by first | (with_reducible assumption) | assumption)); replace q47 := eq_true q47; have p52 : 0 ≤ ((ji49) : Int) := of_decide_eq_true (by first | (with_reducible assumption) | assumption); have q52 : (ji49) < (t156.size : Int) := of_decide_eq_true (by first | (with_reducible assumption) | assumption); have hx52 := bt_at t156 (ji49); replace p52 := eq_true p52; replace q52 := eq_true q52) | (go_at_call 19; (with_reducible refine (link_Percent.calls sx5 t166 _ A69.out).mono ?_); rintro e w73 ⟨rfl, hb⟩; have n0_ := Aside0.mk (below_step (by repeat (first | (with_reducible first | exact HB.out | apply below_alloc | apply pw_below_drewN | apply below_drew1) | exact HB.out)) hb); clear HB; have HB := n0_; clear n0_; (try clear hb); (try clear hb2); (try clear hk); (try clear hi)) | (go_at_call 13; (with_reducible refine (boltinglaw09_fixed.calls  t167 _ A71.out).mono ?_); rintro e w74 ⟨rfl, hb⟩; have n0_ := Aside0.mk (below_step (by repeat (first | (with_reducible first | exact HB.out | apply below_alloc | apply pw_below_drewN | apply below_drew1) | exact HB.out)) hb); clear HB; have HB := n0_; clear n0_; (try clear hb); (try clear hb2); (try clear hk); (try clear hi)))
                                    go_ret
                                    exact ⟨by first | rfl | (simp [errW_none, errW_some] <;> rfl) | (simp only [← hji2, ← hji49]; first | rfl | (simp [errW_none, errW_some] <;> rfl)) | (simp [*, errW_none, errW_some] <;> rfl), by repeat (first | (with_reducible first | exact HB.out | apply below_alloc | apply pw_below_drewN | apply below_drew1) | exact HB.out)⟩
                                  · rw [if_neg c70] at H
                                    have c70b0 : decide ((t166.size : Int) ≤ (sx5.size : Int)) = false := decide_eq_false c70
                                    have c70b1 : decide (t166.size ≤ sx5.size) = false := decide_eq_false (fun h => c70 (Int.ofNat_le.mpr h))
                                    clear c70
                                    obtain rfl := Option.some.inj H
                                    go_wp2_with (first | ((with_reducible refine gate_callee (f := 14) rfl ?_); refine goesL_ (some 50) rfl rfl Try.func14 (by kernel_rfl) rfl #[.string t156] rfl (by (try simp only [List.map_toArray, List.map_cons, List.map_nil]); first | done | rfl | (simp only [List.length_drop, List.length_take]; rfl)) ?_; (with_reducible refine (link_Strip.calls t156 t157 _ A20.out).mono ?_); rintro e w75 ⟨rfl, hb⟩; refine ⟨_, rfl, ?_⟩; have n0_ := Aside0.mk (below_step (by repeat (first | (with_reducible first | exact HB.out | apply below_alloc | apply pw_below_drewN | apply below_drew1) | exact HB.out)) hb); clear HB; have HB := n0_; clear n0_; (try clear hb); (try clear hb2); (try clear hk); (try clear hi); have p47 : 0 ≤ (0 : Int) := (by omega); have q47 : 0 < t156.size := (by have : (0 : Int) < (t156.size : Int) := of_decide_eq_true (by first | (with_reducible assumption) | assumption); omega); have hx47 : ∀ h : 0 < t156.size, ((t156[0]'h).toNat : Int) = bt t156 0 := bt_at t156 0; clear p47; have qi47 : (0 < (t156.size : Int)) = True := eq_true (of_decide_eq_true (by first | (with_reducible assumption) | assumption)); replace q47 := eq_true q47; have p52 : 0 ≤ ((ji49) : Int) := of_decide_eq_true (by first | (with_reducible assumption) | assumption); have q52 : (ji49) < (t156.size : Int) := of_decide_eq_true (by first | (with_reducible assumption) | assumption); have hx52 := bt_at t156 (ji49); replace p52 := eq_true p52; replace q52 := eq_true q52) | (go_at_call 19; (with_reducible refine (link_Percent.calls sx5 t166 _ A69.out).mono ?_); rintro e w76 ⟨rfl, hb⟩; have n0_ := Aside0.mk (below_step (by repeat (first | (with_reducible first | exact HB.out | apply below_alloc | apply pw_below_drewN | apply below_drew1) | exact HB.out)) hb); clear HB; have HB := n0_; clear n0_; (try clear hb); (try clear hb2); (try clear hk); (try clear hi)))
                                    go_ret
                                    exact ⟨by first | rfl | (simp [errW_none, errW_some] <;> rfl) | (simp only [← hji2, ← hji49]; first | rfl | (simp [errW_none, errW_some] <;> rfl)) | (simp [*, errW_none, errW_some] <;> rfl), by repeat (first | (with_reducible first | exact HB.out | apply below_alloc | apply pw_below_drewN | apply below_drew1) | exact HB.out)⟩
                              · rw [if_neg c53] at H
                                have c53b0 : decide (32 < (bt t156 (ji49))) = false := decide_eq_false c53
                                clear c53
                                obtain rfl := Option.some.inj H
                                go_wp2_with (first | ((with_reducible refine gate_callee (f := 14) rfl ?_); refine goesL_ (some 50) rfl rfl Try.func14 (by kernel_rfl) rfl #[.string t156] rfl (by (try simp only [List.map_toArray, List.map_cons, List.map_nil]); first | done | rfl | (simp only [List.length_drop, List.length_take]; rfl)) ?_; (with_reducible refine (link_Strip.calls t156 t157 _ A20.out).mono ?_); rintro e w77 ⟨rfl, hb⟩; refine ⟨_, rfl, ?_⟩; have n0_ := Aside0.mk (below_step (by repeat (first | (with_reducible first | exact HB.out | apply below_alloc | apply pw_below_drewN | apply below_drew1) | exact HB.out)) hb); clear HB; have HB := n0_; clear n0_; (try clear hb); (try clear hb2); (try clear hk); (try clear hi); have p47 : 0 ≤ (0 : Int) := (by omega); have q47 : 0 < t156.size := (by have : (0 : Int) < (t156.size : Int) := of_decide_eq_true (by first | (with_reducible assumption) | assumption); omega); have hx47 : ∀ h : 0 < t156.size, ((t156[0]'h).toNat : Int) = bt t156 0 := bt_at t156 0; clear p47; have qi47 : (0 < (t156.size : Int)) = True := eq_true (of_decide_eq_true (by first | (with_reducible assumption) | assumption)); replace q47 := eq_true q47; have p52 : 0 ≤ ((ji49) : Int) := of_decide_eq_true (by first | (with_reducible assumption) | assumption); have q52 : (ji49) < (t156.size : Int) := of_decide_eq_true (by first | (with_reducible assumption) | assumption); have hx52 := bt_at t156 (ji49); replace p52 := eq_true p52; replace q52 := eq_true q52))
                                go_ret
                                exact ⟨by first | rfl | (simp [errW_none, errW_some] <;> rfl) | (simp only [← hji2, ← hji49]; first | rfl | (simp [errW_none, errW_some] <;> rfl)) | (simp [*, errW_none, errW_some] <;> rfl), by repeat (first | (with_reducible first | exact HB.out | apply below_alloc | apply pw_below_drewN | apply below_drew1) | exact HB.out)⟩
                            · rw [if_neg c51] at H
                              exact absurd H (by simp)
                          · rw [if_neg c50] at H
                            exact absurd H (by simp)
                        · rw [if_neg c48] at H
                          have c48b0 : decide (32 < (bt t156 0)) = false := decide_eq_false c48
                          clear c48
                          obtain rfl := Option.some.inj H
                          go_wp2_with (first | ((with_reducible refine gate_callee (f := 14) rfl ?_); refine goesL_ (some 50) rfl rfl Try.func14 (by kernel_rfl) rfl #[.string t156] rfl (by (try simp only [List.map_toArray, List.map_cons, List.map_nil]); first | done | rfl | (simp only [List.length_drop, List.length_take]; rfl)) ?_; (with_reducible refine (link_Strip.calls t156 t157 _ A20.out).mono ?_); rintro e w78 ⟨rfl, hb⟩; refine ⟨_, rfl, ?_⟩; have n0_ := Aside0.mk (below_step (by repeat (first | (with_reducible first | exact HB.out | apply below_alloc | apply pw_below_drewN | apply below_drew1) | exact HB.out)) hb); clear HB; have HB := n0_; clear n0_; (try clear hb); (try clear hb2); (try clear hk); (try clear hi); have p47 : 0 ≤ (0 : Int) := (by omega); have q47 : 0 < t156.size := (by have : (0 : Int) < (t156.size : Int) := of_decide_eq_true (by first | (with_reducible assumption) | assumption); omega); have hx47 : ∀ h : 0 < t156.size, ((t156[0]'h).toNat : Int) = bt t156 0 := bt_at t156 0; clear p47; have qi47 : (0 < (t156.size : Int)) = True := eq_true (of_decide_eq_true (by first | (with_reducible assumption) | assumption)); replace q47 := eq_true q47))
                          go_ret
                          exact ⟨by first | rfl | (simp [errW_none, errW_some] <;> rfl) | (simp only [← hji2]; first | rfl | (simp [errW_none, errW_some] <;> rfl)) | (simp [*, errW_none, errW_some] <;> rfl), by repeat (first | (with_reducible first | exact HB.out | apply below_alloc | apply pw_below_drewN | apply below_drew1) | exact HB.out)⟩
                      · rw [if_neg c46] at H
                        exact absurd H (by simp)
                  · rw [if_neg c21] at H
                    have c21b0 : (t157.toList == t156.toList) = false := beq_eq_false_iff_ne.mpr c21
                    have c21b1 : (t157.toList != t156.toList) = true := bne_iff_ne.mpr c21
                    obtain rfl := Option.some.inj H
                    go_wp2_with (first | ((with_reducible refine gate_callee (f := 14) rfl ?_); refine goesL_ (some 50) rfl rfl Try.func14 (by kernel_rfl) rfl #[.string t156] rfl (by (try simp only [List.map_toArray, List.map_cons, List.map_nil]); first | done | rfl | (simp only [List.length_drop, List.length_take]; rfl)) ?_; (with_reducible refine (link_Strip.calls t156 t157 _ A20.out).mono ?_); rintro e w79 ⟨rfl, hb⟩; refine ⟨_, rfl, ?_⟩; have n0_ := Aside0.mk (below_step (by repeat (first | (with_reducible first | exact HB.out | apply below_alloc | apply pw_below_drewN | apply below_drew1) | exact HB.out)) hb); clear HB; have HB := n0_; clear n0_; (try clear hb); (try clear hb2); (try clear hk); (try clear hi)))
                    go_ret
                    exact ⟨by first | rfl | (simp [errW_none, errW_some] <;> rfl) | (simp only [← hji2]; first | rfl | (simp [errW_none, errW_some] <;> rfl)) | (simp [*, errW_none, errW_some] <;> rfl), by repeat (first | (with_reducible first | exact HB.out | apply below_alloc | apply pw_below_drewN | apply below_drew1) | exact HB.out)⟩
    · rw [if_neg c4] at H
      exact absurd H (by simp)
  · rw [if_neg c3] at H
    exact absurd H (by simp)

/-- THE ONE PURE STATEMENT of boltinglaw09_LinkAgain: yours. -/
def boltinglaw09_LinkAgain.Pure : Prop := ∀ (a0 : ByteArray), a0.size ≤ 140737488351232 → ∃ k, boltinglaw09_LinkAgain.f k a0 = some true
theorem boltinglaw09_LinkAgain.walk (P : boltinglaw09_LinkAgain.Pure) (a0 : ByteArray) (w : World) (w0 : a0.size ≤ 140737488351232) :
    Calls Try.prog 6 #[.string a0] w fun e w' => e = .returned (.bool true) ∧ Below w.heap.size w w' := by
  obtain ⟨k, h⟩ := P a0 w0
  refine (boltinglaw09_LinkAgain.calls k a0 true w h).mono ?_
  rintro e w' ⟨rfl, hd⟩
  exact ⟨rfl, hd⟩

end Go.Proofs.Ythnakndpdfgapaa.Pr
