-- Written by wip/tools/pr.sh out of Lean's own print of the translation. Not trusted: Lean checks it.
import Derived.Test.YtejdfmghcgkojaaPrx0
import Derived.Test.YtejdfmghcgkojaaPrx1
import Derived.Test.YtejdfmghcgkojaaPrx2
import Derived.Test.YtejdfmghcgkojaaPrx3
namespace Go.Proofs.Ytejdfmghcgkojaa.Pr
open Go.RowKit Go.Proofs.YtejdfmghcgkojaaW.PrintWords Go.Proofs.YtejdfmghcgkojaaW.PrintLast Go.Proofs.YtejdfmghcgkojaaW.PrintMore
attribute [local go_sem] max2_int min2_int max_two min_two max_three min_three max_four min_four   -- for this text's walks alone
set_option linter.unusedVariables false
set_option linter.unusedSimpArgs false

/-! ### boltinglaw10_RiskNames: function 3 -/
def boltinglaw10_RiskNames.f (k : Nat) (a0 : ByteArray) (a1 : ByteArray) : Option (Bool) := (boltinglaw10_fixed.f k).bind fun t156 => (if t156 = true then ((risk_Handler.f a1).bind fun t157 => ((boltingref10_Handler.f a1).bind fun t158 => (if (t157 == t158) = true then ((risk_Nav.f a0 a1).bind fun t159 => ((boltingref10_Nav.f k a0 a1).bind fun t160 => (if (t159 == t160) = true then ((risk_Sink.f a0 a1).bind fun t161 => ((boltingref10_Sink.f k a0 a1).bind fun t162 => (if t161 = t162 then ((risk_Element.f a0).bind fun t163 => ((boltingref10_Unsafe.f).bind fun t164 => ((boltingref02_Has.f k t164 a0).bind fun t167 => (some (t163 == t167))))) else (some false)))) else (some false)))) else (some false)))) else (some false))
theorem boltinglaw10_RiskNames.mono : ∀ a0 a1 k, LeO (boltinglaw10_RiskNames.f k a0 a1) (boltinglaw10_RiskNames.f (k + 1) a0 a1) := by
  intro a0 a1 k
  unfold boltinglaw10_RiskNames.f
  repeat' first
      | (with_reducible exact boltinglaw10_fixed.mono _)
      | (with_reducible exact boltingref02_Has.mono _ _ _)
      | (with_reducible exact boltingref10_Nav.mono _ _ _)
      | (with_reducible exact boltingref10_Sink.mono _ _ _)
      | (with_reducible exact LeO.refl _)
      | (with_reducible exact LeO.none _)
      | (with_reducible refine LeO.ite ?_ ?_)
      | (with_reducible refine LeO.bind ?_ (fun _ => ?_))
      | exact boltinglaw10_fixed.mono _
      | exact boltingref02_Has.mono _ _ _
      | exact boltingref10_Nav.mono _ _ _
      | exact boltingref10_Sink.mono _ _ _
      | exact LeO.none _
      | refine LeO.ite ?_ ?_
      | refine LeO.bind ?_ (fun _ => ?_)
set_option maxHeartbeats 8000000 in
set_option maxRecDepth 100000 in
theorem boltinglaw10_RiskNames.calls (k : Nat) (a0 : ByteArray) (a1 : ByteArray) (r : Bool) (w : World) (h : boltinglaw10_RiskNames.f k a0 a1 = some r) :
    Calls Try.prog 3 #[.string a0, .string a1] w fun e w' => e = .returned (.bool r) ∧ Below w.heap.size w w' := by
  have HB := Aside0.mk (Below.refl w.heap.size w)
  have H : ((boltinglaw10_fixed.f k).bind fun t156 => (if t156 = true then ((risk_Handler.f a1).bind fun t157 => ((boltingref10_Handler.f a1).bind fun t158 => (if (t157 == t158) = true then ((risk_Nav.f a0 a1).bind fun t159 => ((boltingref10_Nav.f k a0 a1).bind fun t160 => (if (t159 == t160) = true then ((risk_Sink.f a0 a1).bind fun t161 => ((boltingref10_Sink.f k a0 a1).bind fun t162 => (if t161 = t162 then ((risk_Element.f a0).bind fun t163 => ((boltingref10_Unsafe.f).bind fun t164 => ((boltingref02_Has.f k t164 a0).bind fun t167 => (some (t163 == t167))))) else (some false)))) else (some false)))) else (some false)))) else (some false))) = some r := h
  clear h
  replace H := Option.bind_eq_some_iff.mp H
  obtain ⟨t156, A30, H⟩ := H
  replace H : (if t156 = true then ((risk_Handler.f a1).bind fun t157 => ((boltingref10_Handler.f a1).bind fun t158 => (if (t157 == t158) = true then ((risk_Nav.f a0 a1).bind fun t159 => ((boltingref10_Nav.f k a0 a1).bind fun t160 => (if (t159 == t160) = true then ((risk_Sink.f a0 a1).bind fun t161 => ((boltingref10_Sink.f k a0 a1).bind fun t162 => (if t161 = t162 then ((risk_Element.f a0).bind fun t163 => ((boltingref10_Unsafe.f).bind fun t164 => ((boltingref02_Has.f k t164 a0).bind fun t167 => (some (t163 == t167))))) else (some false)))) else (some false)))) else (some false)))) else (some false)) = some r := H
  have A3 := Aside0.mk A30
  clear A30
  by_cases c4 : t156 = true
  · subst c4
    have H1 : ((risk_Handler.f a1).bind fun t157 => ((boltingref10_Handler.f a1).bind fun t158 => (if (t157 == t158) = true then ((risk_Nav.f a0 a1).bind fun t159 => ((boltingref10_Nav.f k a0 a1).bind fun t160 => (if (t159 == t160) = true then ((risk_Sink.f a0 a1).bind fun t161 => ((boltingref10_Sink.f k a0 a1).bind fun t162 => (if t161 = t162 then ((risk_Element.f a0).bind fun t163 => ((boltingref10_Unsafe.f).bind fun t164 => ((boltingref02_Has.f k t164 a0).bind fun t167 => (some (t163 == t167))))) else (some false)))) else (some false)))) else (some false)))) = some r := by rw [if_pos rfl] at H; exact H
    clear H
    have H := H1
    clear H1
    replace H := Option.bind_eq_some_iff.mp H
    obtain ⟨t157, A50, H⟩ := H
    replace H : ((boltingref10_Handler.f a1).bind fun t158 => (if (t157 == t158) = true then ((risk_Nav.f a0 a1).bind fun t159 => ((boltingref10_Nav.f k a0 a1).bind fun t160 => (if (t159 == t160) = true then ((risk_Sink.f a0 a1).bind fun t161 => ((boltingref10_Sink.f k a0 a1).bind fun t162 => (if t161 = t162 then ((risk_Element.f a0).bind fun t163 => ((boltingref10_Unsafe.f).bind fun t164 => ((boltingref02_Has.f k t164 a0).bind fun t167 => (some (t163 == t167))))) else (some false)))) else (some false)))) else (some false))) = some r := H
    have A5 := Aside0.mk A50
    clear A50
    replace H := Option.bind_eq_some_iff.mp H
    obtain ⟨t158, A60, H⟩ := H
    replace H : (if (t157 == t158) = true then ((risk_Nav.f a0 a1).bind fun t159 => ((boltingref10_Nav.f k a0 a1).bind fun t160 => (if (t159 == t160) = true then ((risk_Sink.f a0 a1).bind fun t161 => ((boltingref10_Sink.f k a0 a1).bind fun t162 => (if t161 = t162 then ((risk_Element.f a0).bind fun t163 => ((boltingref10_Unsafe.f).bind fun t164 => ((boltingref02_Has.f k t164 a0).bind fun t167 => (some (t163 == t167))))) else (some false)))) else (some false)))) else (some false)) = some r := H
    have A6 := Aside0.mk A60
    clear A60
    by_cases c7 : (t157 == t158) = true
    · rw [if_pos c7] at H
      have c7b0 : (t157 == t158) = true := c7
      (try (have c7b1 : decide (t157 = t158) = true := by simpa using c7))
      (try (have c7b2 : (t157 == t158) = true := by simpa using c7))
      clear c7
      replace H := Option.bind_eq_some_iff.mp H
      obtain ⟨t159, A80, H⟩ := H
      replace H : ((boltingref10_Nav.f k a0 a1).bind fun t160 => (if (t159 == t160) = true then ((risk_Sink.f a0 a1).bind fun t161 => ((boltingref10_Sink.f k a0 a1).bind fun t162 => (if t161 = t162 then ((risk_Element.f a0).bind fun t163 => ((boltingref10_Unsafe.f).bind fun t164 => ((boltingref02_Has.f k t164 a0).bind fun t167 => (some (t163 == t167))))) else (some false)))) else (some false))) = some r := H
      have A8 := Aside0.mk A80
      clear A80
      replace H := Option.bind_eq_some_iff.mp H
      obtain ⟨t160, A90, H⟩ := H
      replace H : (if (t159 == t160) = true then ((risk_Sink.f a0 a1).bind fun t161 => ((boltingref10_Sink.f k a0 a1).bind fun t162 => (if t161 = t162 then ((risk_Element.f a0).bind fun t163 => ((boltingref10_Unsafe.f).bind fun t164 => ((boltingref02_Has.f k t164 a0).bind fun t167 => (some (t163 == t167))))) else (some false)))) else (some false)) = some r := H
      have A9 := Aside0.mk A90
      clear A90
      by_cases c10 : (t159 == t160) = true
      · rw [if_pos c10] at H
        have c10b0 : (t159 == t160) = true := c10
        (try (have c10b1 : decide (t159 = t160) = true := by simpa using c10))
        (try (have c10b2 : (t159 == t160) = true := by simpa using c10))
        clear c10
        replace H := Option.bind_eq_some_iff.mp H
        obtain ⟨t161, A110, H⟩ := H
        replace H : ((boltingref10_Sink.f k a0 a1).bind fun t162 => (if t161 = t162 then ((risk_Element.f a0).bind fun t163 => ((boltingref10_Unsafe.f).bind fun t164 => ((boltingref02_Has.f k t164 a0).bind fun t167 => (some (t163 == t167))))) else (some false))) = some r := H
        have A11 := Aside0.mk A110
        clear A110
        replace H := Option.bind_eq_some_iff.mp H
        obtain ⟨t162, A120, H⟩ := H
        replace H : (if t161 = t162 then ((risk_Element.f a0).bind fun t163 => ((boltingref10_Unsafe.f).bind fun t164 => ((boltingref02_Has.f k t164 a0).bind fun t167 => (some (t163 == t167))))) else (some false)) = some r := H
        have A12 := Aside0.mk A120
        clear A120
        by_cases c13 : t161 = t162
        · rw [if_pos c13] at H
          have c13b0 : (t161 == t162) = true := beq_iff_eq.mpr c13
          have c13b1 : (t161 != t162) = false := bne_eq_false_iff_eq.mpr c13
          clear c13
          replace H := Option.bind_eq_some_iff.mp H
          obtain ⟨t163, A140, H⟩ := H
          replace H : ((boltingref10_Unsafe.f).bind fun t164 => ((boltingref02_Has.f k t164 a0).bind fun t167 => (some (t163 == t167)))) = some r := H
          have A14 := Aside0.mk A140
          clear A140
          replace H := Option.bind_eq_some_iff.mp H
          obtain ⟨t164, A150, H⟩ := H
          replace H : ((boltingref02_Has.f k t164 a0).bind fun t167 => (some (t163 == t167))) = some r := H
          have A15 := Aside0.mk A150
          clear A150
          replace H := Option.bind_eq_some_iff.mp H
          obtain ⟨t167, A160, H⟩ := H
          replace H : (some (t163 == t167)) = some r := H
          have A16 := Aside0.mk A160
          clear A160
          obtain rfl := Option.some.inj H
          go_enter Try.func3, Try.ntmps3
          go_wp2_with (first | ((with_reducible refine gate_callee (f := 9) rfl ?_); refine goesL_ (some 5) rfl rfl Try.func9 (by kernel_rfl) rfl #[] rfl (by (try simp only [List.map_toArray, List.map_cons, List.map_nil]); first | done | rfl | (simp only [List.length_drop, List.length_take]; rfl)) ?_; (with_reducible refine (boltinglaw10_fixed.calls k  true _ A3.out).mono ?_); rintro e w17 ⟨rfl, hb⟩; refine ⟨_, rfl, ?_⟩; have n0_ := Aside0.mk (below_step (by repeat (first | (with_reducible first | exact HB.out | apply below_alloc | apply pw_below_drewN | apply below_drew1) | exact HB.out)) hb); clear HB; have HB := n0_; clear n0_; (try clear hb); (try clear hb2); (try clear hk); (try clear hi)) | (go_at_call 10; (with_reducible refine (risk_Handler.calls a1 t157 _ A5.out).mono ?_); rintro e w' ⟨rfl, ⟨nd, rfl⟩⟩) | (go_at_call 11; (with_reducible refine (boltingref10_Handler.calls a1 t158 _ A6.out).mono ?_); rintro e w' ⟨rfl, ⟨nd, rfl⟩⟩) | (go_at_call 12; (with_reducible refine (risk_Nav.calls a0 a1 t159 _ A8.out).mono ?_); rintro e w18 ⟨rfl, hb⟩; have n0_ := Aside0.mk (below_step (by repeat (first | (with_reducible first | exact HB.out | apply below_alloc | apply pw_below_drewN | apply below_drew1) | exact HB.out)) hb); clear HB; have HB := n0_; clear n0_; (try clear hb); (try clear hb2); (try clear hk); (try clear hi)) | (go_at_call 13; (with_reducible refine (boltingref10_Nav.calls k a0 a1 t160 _ A9.out).mono ?_); rintro e w19 ⟨rfl, hb⟩; have n0_ := Aside0.mk (below_step (by repeat (first | (with_reducible first | exact HB.out | apply below_alloc | apply pw_below_drewN | apply below_drew1) | exact HB.out)) hb); clear HB; have HB := n0_; clear n0_; (try clear hb); (try clear hb2); (try clear hk); (try clear hi)) | (go_at_call 14; (with_reducible refine (risk_Sink.calls a0 a1 t161 _ A11.out).mono ?_); rintro e w20 ⟨rfl, hb⟩; have n0_ := Aside0.mk (below_step (by repeat (first | (with_reducible first | exact HB.out | apply below_alloc | apply pw_below_drewN | apply below_drew1) | exact HB.out)) hb); clear HB; have HB := n0_; clear n0_; (try clear hb); (try clear hb2); (try clear hk); (try clear hi)) | (go_at_call 15; (with_reducible refine (boltingref10_Sink.calls k a0 a1 t162 _ A12.out).mono ?_); rintro e w21 ⟨rfl, hb⟩; have n0_ := Aside0.mk (below_step (by repeat (first | (with_reducible first | exact HB.out | apply below_alloc | apply pw_below_drewN | apply below_drew1) | exact HB.out)) hb); clear HB; have HB := n0_; clear n0_; (try clear hb); (try clear hb2); (try clear hk); (try clear hi)) | (go_at_call 16; (with_reducible refine (risk_Element.calls a0 t163 _ A14.out).mono ?_); rintro e w' ⟨rfl, ⟨nd, rfl⟩⟩) | (go_at_call 18; (with_reducible refine (boltingref10_Unsafe.calls  t164 _ A15.out).mono ?_); rintro e w22 ⟨v165, rfl, ho0, hb⟩; have n0_ := Aside0.mk (Kd.R_lower ho0 (below_size (by repeat (first | (with_reducible first | exact HB.out | apply below_alloc | apply pw_below_drewN | apply below_drew1) | exact HB.out)))); have n1_ := Aside0.mk (below_step (by repeat (first | (with_reducible first | exact HB.out | apply below_alloc | apply pw_below_drewN | apply below_drew1) | exact HB.out)) hb); clear HB; have HO166 := n0_; have HB := n1_; clear n0_ n1_; (try clear hb); (try clear hb2); (try clear hk); (try clear hi); (try clear ho0); obtain ⟨Ao23, co23, eo23⟩ := Kd.R_slice HO166.out; subst eo23) | (go_at_call 17; (with_reducible refine (boltingref02_Has.calls k _ _ t164 a0 t167 _ ?side1 ?side2 A16.out).mono ?_); (case side1 => repeat (first | exact (Kd.R_reads' HO166.out).2.2 | (with_reducible refine Kd.C_alloc ?_ _) | (with_reducible refine Kd.C_drewN ?_ _) | (with_reducible refine Kd.C_drew ?_))); (case side2 => exact (Kd.R_reads' HO166.out).2.1); rintro e w' ⟨rfl, ⟨nd, rfl⟩⟩))
          go_ret
          exact ⟨by first | rfl | (simp [errW_none, errW_some] <;> rfl) | (simp [*, errW_none, errW_some] <;> rfl), by repeat (first | (with_reducible first | exact HB.out | apply below_alloc | apply pw_below_drewN | apply below_drew1) | exact HB.out)⟩
        · rw [if_neg c13] at H
          have c13b0 : (t161 == t162) = false := beq_eq_false_iff_ne.mpr c13
          have c13b1 : (t161 != t162) = true := bne_iff_ne.mpr c13
          obtain rfl := Option.some.inj H
          go_enter Try.func3, Try.ntmps3
          go_wp2_with (first | ((with_reducible refine gate_callee (f := 9) rfl ?_); refine goesL_ (some 5) rfl rfl Try.func9 (by kernel_rfl) rfl #[] rfl (by (try simp only [List.map_toArray, List.map_cons, List.map_nil]); first | done | rfl | (simp only [List.length_drop, List.length_take]; rfl)) ?_; (with_reducible refine (boltinglaw10_fixed.calls k  true _ A3.out).mono ?_); rintro e w24 ⟨rfl, hb⟩; refine ⟨_, rfl, ?_⟩; have n0_ := Aside0.mk (below_step (by repeat (first | (with_reducible first | exact HB.out | apply below_alloc | apply pw_below_drewN | apply below_drew1) | exact HB.out)) hb); clear HB; have HB := n0_; clear n0_; (try clear hb); (try clear hb2); (try clear hk); (try clear hi)) | (go_at_call 10; (with_reducible refine (risk_Handler.calls a1 t157 _ A5.out).mono ?_); rintro e w' ⟨rfl, ⟨nd, rfl⟩⟩) | (go_at_call 11; (with_reducible refine (boltingref10_Handler.calls a1 t158 _ A6.out).mono ?_); rintro e w' ⟨rfl, ⟨nd, rfl⟩⟩) | (go_at_call 12; (with_reducible refine (risk_Nav.calls a0 a1 t159 _ A8.out).mono ?_); rintro e w25 ⟨rfl, hb⟩; have n0_ := Aside0.mk (below_step (by repeat (first | (with_reducible first | exact HB.out | apply below_alloc | apply pw_below_drewN | apply below_drew1) | exact HB.out)) hb); clear HB; have HB := n0_; clear n0_; (try clear hb); (try clear hb2); (try clear hk); (try clear hi)) | (go_at_call 13; (with_reducible refine (boltingref10_Nav.calls k a0 a1 t160 _ A9.out).mono ?_); rintro e w26 ⟨rfl, hb⟩; have n0_ := Aside0.mk (below_step (by repeat (first | (with_reducible first | exact HB.out | apply below_alloc | apply pw_below_drewN | apply below_drew1) | exact HB.out)) hb); clear HB; have HB := n0_; clear n0_; (try clear hb); (try clear hb2); (try clear hk); (try clear hi)) | (go_at_call 14; (with_reducible refine (risk_Sink.calls a0 a1 t161 _ A11.out).mono ?_); rintro e w27 ⟨rfl, hb⟩; have n0_ := Aside0.mk (below_step (by repeat (first | (with_reducible first | exact HB.out | apply below_alloc | apply pw_below_drewN | apply below_drew1) | exact HB.out)) hb); clear HB; have HB := n0_; clear n0_; (try clear hb); (try clear hb2); (try clear hk); (try clear hi)) | (go_at_call 15; (with_reducible refine (boltingref10_Sink.calls k a0 a1 t162 _ A12.out).mono ?_); rintro e w28 ⟨rfl, hb⟩; have n0_ := Aside0.mk (below_step (by repeat (first | (with_reducible first | exact HB.out | apply below_alloc | apply pw_below_drewN | apply below_drew1) | exact HB.out)) hb); clear HB; have HB := n0_; clear n0_; (try clear hb); (try clear hb2); (try clear hk); (try clear hi)))
          go_ret
          exact ⟨by first | rfl | (simp [errW_none, errW_some] <;> rfl) | (simp [*, errW_none, errW_some] <;> rfl), by repeat (first | (with_reducible first | exact HB.out | apply below_alloc | apply pw_below_drewN | apply below_drew1) | exact HB.out)⟩
      · rw [if_neg c10] at H
        have c10b0 : (t159 == t160) = false := by simpa using c10
        (try (have c10b1 : decide (t159 = t160) = false := by simpa using c10))
        (try (have c10b2 : (t159 == t160) = false := by simpa using c10))
        (try (have c10b3 : ¬ (t159 = t160) := by simpa using c10))
        clear c10
        obtain rfl := Option.some.inj H
        go_enter Try.func3, Try.ntmps3
        go_wp2_with (first | ((with_reducible refine gate_callee (f := 9) rfl ?_); refine goesL_ (some 5) rfl rfl Try.func9 (by kernel_rfl) rfl #[] rfl (by (try simp only [List.map_toArray, List.map_cons, List.map_nil]); first | done | rfl | (simp only [List.length_drop, List.length_take]; rfl)) ?_; (with_reducible refine (boltinglaw10_fixed.calls k  true _ A3.out).mono ?_); rintro e w29 ⟨rfl, hb⟩; refine ⟨_, rfl, ?_⟩; have n0_ := Aside0.mk (below_step (by repeat (first | (with_reducible first | exact HB.out | apply below_alloc | apply pw_below_drewN | apply below_drew1) | exact HB.out)) hb); clear HB; have HB := n0_; clear n0_; (try clear hb); (try clear hb2); (try clear hk); (try clear hi)) | (go_at_call 10; (with_reducible refine (risk_Handler.calls a1 t157 _ A5.out).mono ?_); rintro e w' ⟨rfl, ⟨nd, rfl⟩⟩) | (go_at_call 11; (with_reducible refine (boltingref10_Handler.calls a1 t158 _ A6.out).mono ?_); rintro e w' ⟨rfl, ⟨nd, rfl⟩⟩) | (go_at_call 12; (with_reducible refine (risk_Nav.calls a0 a1 t159 _ A8.out).mono ?_); rintro e w30 ⟨rfl, hb⟩; have n0_ := Aside0.mk (below_step (by repeat (first | (with_reducible first | exact HB.out | apply below_alloc | apply pw_below_drewN | apply below_drew1) | exact HB.out)) hb); clear HB; have HB := n0_; clear n0_; (try clear hb); (try clear hb2); (try clear hk); (try clear hi)) | (go_at_call 13; (with_reducible refine (boltingref10_Nav.calls k a0 a1 t160 _ A9.out).mono ?_); rintro e w31 ⟨rfl, hb⟩; have n0_ := Aside0.mk (below_step (by repeat (first | (with_reducible first | exact HB.out | apply below_alloc | apply pw_below_drewN | apply below_drew1) | exact HB.out)) hb); clear HB; have HB := n0_; clear n0_; (try clear hb); (try clear hb2); (try clear hk); (try clear hi)))
        go_ret
        exact ⟨by first | rfl | (simp [errW_none, errW_some] <;> rfl) | (simp [*, errW_none, errW_some] <;> rfl), by repeat (first | (with_reducible first | exact HB.out | apply below_alloc | apply pw_below_drewN | apply below_drew1) | exact HB.out)⟩
    · rw [if_neg c7] at H
      have c7b0 : (t157 == t158) = false := by simpa using c7
      (try (have c7b1 : decide (t157 = t158) = false := by simpa using c7))
      (try (have c7b2 : (t157 == t158) = false := by simpa using c7))
      (try (have c7b3 : ¬ (t157 = t158) := by simpa using c7))
      clear c7
      obtain rfl := Option.some.inj H
      go_enter Try.func3, Try.ntmps3
      go_wp2_with (first | ((with_reducible refine gate_callee (f := 9) rfl ?_); refine goesL_ (some 5) rfl rfl Try.func9 (by kernel_rfl) rfl #[] rfl (by (try simp only [List.map_toArray, List.map_cons, List.map_nil]); first | done | rfl | (simp only [List.length_drop, List.length_take]; rfl)) ?_; (with_reducible refine (boltinglaw10_fixed.calls k  true _ A3.out).mono ?_); rintro e w32 ⟨rfl, hb⟩; refine ⟨_, rfl, ?_⟩; have n0_ := Aside0.mk (below_step (by repeat (first | (with_reducible first | exact HB.out | apply below_alloc | apply pw_below_drewN | apply below_drew1) | exact HB.out)) hb); clear HB; have HB := n0_; clear n0_; (try clear hb); (try clear hb2); (try clear hk); (try clear hi)) | (go_at_call 10; (with_reducible refine (risk_Handler.calls a1 t157 _ A5.out).mono ?_); rintro e w' ⟨rfl, ⟨nd, rfl⟩⟩) | (go_at_call 11; (with_reducible refine (boltingref10_Handler.calls a1 t158 _ A6.out).mono ?_); rintro e w' ⟨rfl, ⟨nd, rfl⟩⟩))
      go_ret
      exact ⟨by first | rfl | (simp [errW_none, errW_some] <;> rfl) | (simp [*, errW_none, errW_some] <;> rfl), by repeat (first | (with_reducible first | exact HB.out | apply below_alloc | apply pw_below_drewN | apply below_drew1) | exact HB.out)⟩
  · replace c4 := Bool.eq_false_iff.mpr c4
    subst c4
    have H1 : (some false) = some r := by rw [if_neg (show ¬ (false = true) by decide)] at H; exact H
    clear H
    have H := H1
    clear H1
    obtain rfl := Option.some.inj H
    go_enter Try.func3, Try.ntmps3
    go_wp2_with (first | ((with_reducible refine gate_callee (f := 9) rfl ?_); refine goesL_ (some 5) rfl rfl Try.func9 (by kernel_rfl) rfl #[] rfl (by (try simp only [List.map_toArray, List.map_cons, List.map_nil]); first | done | rfl | (simp only [List.length_drop, List.length_take]; rfl)) ?_; (with_reducible refine (boltinglaw10_fixed.calls k  false _ A3.out).mono ?_); rintro e w33 ⟨rfl, hb⟩; refine ⟨_, rfl, ?_⟩; have n0_ := Aside0.mk (below_step (by repeat (first | (with_reducible first | exact HB.out | apply below_alloc | apply pw_below_drewN | apply below_drew1) | exact HB.out)) hb); clear HB; have HB := n0_; clear n0_; (try clear hb); (try clear hb2); (try clear hk); (try clear hi)))
    go_ret
    exact ⟨by first | rfl | (simp [errW_none, errW_some] <;> rfl) | (simp [*, errW_none, errW_some] <;> rfl), by repeat (first | (with_reducible first | exact HB.out | apply below_alloc | apply pw_below_drewN | apply below_drew1) | exact HB.out)⟩

/-- THE ONE PURE STATEMENT of boltinglaw10_RiskNames: yours. -/
def boltinglaw10_RiskNames.Pure : Prop := ∀ (a0 : ByteArray) (a1 : ByteArray), a0.size ≤ 140737488351232 → a1.size ≤ 140737488351232 → ∃ k, boltinglaw10_RiskNames.f k a0 a1 = some true
theorem boltinglaw10_RiskNames.walk (P : boltinglaw10_RiskNames.Pure) (a0 : ByteArray) (a1 : ByteArray) (w : World) (w0 : a0.size ≤ 140737488351232) (w1 : a1.size ≤ 140737488351232) :
    Calls Try.prog 3 #[.string a0, .string a1] w fun e w' => e = .returned (.bool true) ∧ Below w.heap.size w w' := by
  obtain ⟨k, h⟩ := P a0 a1 w0 w1
  refine (boltinglaw10_RiskNames.calls k a0 a1 true w h).mono ?_
  rintro e w' ⟨rfl, hd⟩
  exact ⟨rfl, hd⟩

end Go.Proofs.Ytejdfmghcgkojaa.Pr
