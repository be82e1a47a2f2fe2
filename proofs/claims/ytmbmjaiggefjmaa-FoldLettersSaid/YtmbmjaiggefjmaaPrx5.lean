-- Written by wip/tools/pr.sh out of Lean's own print of the translation. Not trusted: Lean checks it.
import Derived.Test.YtmbmjaiggefjmaaPrx0
import Derived.Test.YtmbmjaiggefjmaaPrx1
import Derived.Test.YtmbmjaiggefjmaaPrx3
import Derived.Test.YtmbmjaiggefjmaaPrx4
namespace Go.Proofs.Ytmbmjaiggefjmaa.Pr
open Go.RowKit Go.Proofs.YtmbmjaiggefjmaaW.PrintWords Go.Proofs.YtmbmjaiggefjmaaW.PrintLast Go.Proofs.YtmbmjaiggefjmaaW.PrintMore
attribute [local go_sem] max2_int min2_int max_two min_two max_three min_three max_four min_four   -- for this text's walks alone
set_option linter.unusedVariables false
set_option linter.unusedSimpArgs false

/-! ### boltinglaw02_FoldLetters: function 3 -/
def boltinglaw02_FoldLetters.f (k : Nat) (a0 : ByteArray) (a1 : ByteArray) (a2 : Int) : Option (Bool) := (boltinglaw02_fixed.f k).bind fun t162 => (if t162 = true then ((fold_Lower.f a0).bind fun t163 => ((boltingref02_Lower.f a0).bind fun t164 => (if t163.toList = t164.toList then ((fold_Same.f a0 a1).bind fun t165 => ((boltingref02_Lower.f a0).bind fun t166 => ((boltingref02_Lower.f a1).bind fun t167 => (if (t165 == (t166.toList == t167.toList)) = true then ((fold_Space.f a2).bind fun t168 => ((boltingref02_Space.f a2).bind fun t169 => (if (t168 == t169) = true then ((fold_Letter.f a2).bind fun t170 => ((boltingref02_Letter.f a2).bind fun t171 => (some (t170 == t171)))) else (some false)))) else (some false))))) else (some false)))) else (some false))
theorem boltinglaw02_FoldLetters.mono : ∀ a0 a1 a2 k, LeO (boltinglaw02_FoldLetters.f k a0 a1 a2) (boltinglaw02_FoldLetters.f (k + 1) a0 a1 a2) := by
  intro a0 a1 a2 k
  unfold boltinglaw02_FoldLetters.f
  repeat' first
      | (with_reducible exact boltinglaw02_fixed.mono _)
      | (with_reducible exact LeO.refl _)
      | (with_reducible exact LeO.none _)
      | (with_reducible refine LeO.ite ?_ ?_)
      | (with_reducible refine LeO.bind ?_ (fun _ => ?_))
      | exact boltinglaw02_fixed.mono _
      | exact LeO.none _
      | refine LeO.ite ?_ ?_
      | refine LeO.bind ?_ (fun _ => ?_)
set_option maxHeartbeats 8000000 in
set_option maxRecDepth 100000 in
theorem boltinglaw02_FoldLetters.calls (k : Nat) (a0 : ByteArray) (a1 : ByteArray) (a2 : Int) (r : Bool) (w : World) (h : boltinglaw02_FoldLetters.f k a0 a1 a2 = some r) :
    Calls Try.prog 3 #[.string a0, .string a1, .int .u8 a2] w fun e w' => e = .returned (.bool r) ∧ Below w.heap.size w w' := by
  have HB := Aside0.mk (Below.refl w.heap.size w)
  have H : ((boltinglaw02_fixed.f k).bind fun t162 => (if t162 = true then ((fold_Lower.f a0).bind fun t163 => ((boltingref02_Lower.f a0).bind fun t164 => (if t163.toList = t164.toList then ((fold_Same.f a0 a1).bind fun t165 => ((boltingref02_Lower.f a0).bind fun t166 => ((boltingref02_Lower.f a1).bind fun t167 => (if (t165 == (t166.toList == t167.toList)) = true then ((fold_Space.f a2).bind fun t168 => ((boltingref02_Space.f a2).bind fun t169 => (if (t168 == t169) = true then ((fold_Letter.f a2).bind fun t170 => ((boltingref02_Letter.f a2).bind fun t171 => (some (t170 == t171)))) else (some false)))) else (some false))))) else (some false)))) else (some false))) = some r := h
  clear h
  replace H := Option.bind_eq_some_iff.mp H
  obtain ⟨t162, A40, H⟩ := H
  replace H : (if t162 = true then ((fold_Lower.f a0).bind fun t163 => ((boltingref02_Lower.f a0).bind fun t164 => (if t163.toList = t164.toList then ((fold_Same.f a0 a1).bind fun t165 => ((boltingref02_Lower.f a0).bind fun t166 => ((boltingref02_Lower.f a1).bind fun t167 => (if (t165 == (t166.toList == t167.toList)) = true then ((fold_Space.f a2).bind fun t168 => ((boltingref02_Space.f a2).bind fun t169 => (if (t168 == t169) = true then ((fold_Letter.f a2).bind fun t170 => ((boltingref02_Letter.f a2).bind fun t171 => (some (t170 == t171)))) else (some false)))) else (some false))))) else (some false)))) else (some false)) = some r := H
  have A4 := Aside0.mk A40
  clear A40
  by_cases c5 : t162 = true
  · subst c5
    have H1 : ((fold_Lower.f a0).bind fun t163 => ((boltingref02_Lower.f a0).bind fun t164 => (if t163.toList = t164.toList then ((fold_Same.f a0 a1).bind fun t165 => ((boltingref02_Lower.f a0).bind fun t166 => ((boltingref02_Lower.f a1).bind fun t167 => (if (t165 == (t166.toList == t167.toList)) = true then ((fold_Space.f a2).bind fun t168 => ((boltingref02_Space.f a2).bind fun t169 => (if (t168 == t169) = true then ((fold_Letter.f a2).bind fun t170 => ((boltingref02_Letter.f a2).bind fun t171 => (some (t170 == t171)))) else (some false)))) else (some false))))) else (some false)))) = some r := by rw [if_pos rfl] at H; exact H
    clear H
    have H := H1
    clear H1
    replace H := Option.bind_eq_some_iff.mp H
    obtain ⟨t163, A60, H⟩ := H
    replace H : ((boltingref02_Lower.f a0).bind fun t164 => (if t163.toList = t164.toList then ((fold_Same.f a0 a1).bind fun t165 => ((boltingref02_Lower.f a0).bind fun t166 => ((boltingref02_Lower.f a1).bind fun t167 => (if (t165 == (t166.toList == t167.toList)) = true then ((fold_Space.f a2).bind fun t168 => ((boltingref02_Space.f a2).bind fun t169 => (if (t168 == t169) = true then ((fold_Letter.f a2).bind fun t170 => ((boltingref02_Letter.f a2).bind fun t171 => (some (t170 == t171)))) else (some false)))) else (some false))))) else (some false))) = some r := H
    have A6 := Aside0.mk A60
    clear A60
    replace H := Option.bind_eq_some_iff.mp H
    obtain ⟨t164, A70, H⟩ := H
    replace H : (if t163.toList = t164.toList then ((fold_Same.f a0 a1).bind fun t165 => ((boltingref02_Lower.f a0).bind fun t166 => ((boltingref02_Lower.f a1).bind fun t167 => (if (t165 == (t166.toList == t167.toList)) = true then ((fold_Space.f a2).bind fun t168 => ((boltingref02_Space.f a2).bind fun t169 => (if (t168 == t169) = true then ((fold_Letter.f a2).bind fun t170 => ((boltingref02_Letter.f a2).bind fun t171 => (some (t170 == t171)))) else (some false)))) else (some false))))) else (some false)) = some r := H
    have A7 := Aside0.mk A70
    clear A70
    by_cases c8 : t163.toList = t164.toList
    · rw [if_pos c8] at H
      have c8b0 : (t163.toList == t164.toList) = true := beq_iff_eq.mpr c8
      have c8b1 : (t163.toList != t164.toList) = false := bne_eq_false_iff_eq.mpr c8
      clear c8
      replace H := Option.bind_eq_some_iff.mp H
      obtain ⟨t165, A90, H⟩ := H
      replace H : ((boltingref02_Lower.f a0).bind fun t166 => ((boltingref02_Lower.f a1).bind fun t167 => (if (t165 == (t166.toList == t167.toList)) = true then ((fold_Space.f a2).bind fun t168 => ((boltingref02_Space.f a2).bind fun t169 => (if (t168 == t169) = true then ((fold_Letter.f a2).bind fun t170 => ((boltingref02_Letter.f a2).bind fun t171 => (some (t170 == t171)))) else (some false)))) else (some false)))) = some r := H
      have A9 := Aside0.mk A90
      clear A90
      replace H := Option.bind_eq_some_iff.mp H
      obtain ⟨t166, A100, H⟩ := H
      replace H : ((boltingref02_Lower.f a1).bind fun t167 => (if (t165 == (t166.toList == t167.toList)) = true then ((fold_Space.f a2).bind fun t168 => ((boltingref02_Space.f a2).bind fun t169 => (if (t168 == t169) = true then ((fold_Letter.f a2).bind fun t170 => ((boltingref02_Letter.f a2).bind fun t171 => (some (t170 == t171)))) else (some false)))) else (some false))) = some r := H
      have A10 := Aside0.mk A100
      clear A100
      obtain rfl : t164 = t166 := Option.some.inj (A7.out.symm.trans A10.out)
      replace H := Option.bind_eq_some_iff.mp H
      obtain ⟨t167, A110, H⟩ := H
      replace H : (if (t165 == (t164.toList == t167.toList)) = true then ((fold_Space.f a2).bind fun t168 => ((boltingref02_Space.f a2).bind fun t169 => (if (t168 == t169) = true then ((fold_Letter.f a2).bind fun t170 => ((boltingref02_Letter.f a2).bind fun t171 => (some (t170 == t171)))) else (some false)))) else (some false)) = some r := H
      have A11 := Aside0.mk A110
      clear A110
      by_cases c12 : (t165 == (t164.toList == t167.toList)) = true
      · rw [if_pos c12] at H
        have c12b0 : (t165 == (t164.toList == t167.toList)) = true := c12
        (try (have c12b1 : decide (t165 = (t164.toList == t167.toList)) = true := by simpa using c12))
        (try (have c12b2 : (t165 == (t164.toList == t167.toList)) = true := by simpa using c12))
        clear c12
        replace H := Option.bind_eq_some_iff.mp H
        obtain ⟨t168, A130, H⟩ := H
        replace H : ((boltingref02_Space.f a2).bind fun t169 => (if (t168 == t169) = true then ((fold_Letter.f a2).bind fun t170 => ((boltingref02_Letter.f a2).bind fun t171 => (some (t170 == t171)))) else (some false))) = some r := H
        have A13 := Aside0.mk A130
        clear A130
        replace H := Option.bind_eq_some_iff.mp H
        obtain ⟨t169, A140, H⟩ := H
        replace H : (if (t168 == t169) = true then ((fold_Letter.f a2).bind fun t170 => ((boltingref02_Letter.f a2).bind fun t171 => (some (t170 == t171)))) else (some false)) = some r := H
        have A14 := Aside0.mk A140
        clear A140
        by_cases c15 : (t168 == t169) = true
        · rw [if_pos c15] at H
          have c15b0 : (t168 == t169) = true := c15
          (try (have c15b1 : decide (t168 = t169) = true := by simpa using c15))
          (try (have c15b2 : (t168 == t169) = true := by simpa using c15))
          clear c15
          replace H := Option.bind_eq_some_iff.mp H
          obtain ⟨t170, A160, H⟩ := H
          replace H : ((boltingref02_Letter.f a2).bind fun t171 => (some (t170 == t171))) = some r := H
          have A16 := Aside0.mk A160
          clear A160
          replace H := Option.bind_eq_some_iff.mp H
          obtain ⟨t171, A170, H⟩ := H
          replace H : (some (t170 == t171)) = some r := H
          have A17 := Aside0.mk A170
          clear A170
          obtain rfl := Option.some.inj H
          go_enter Try.func3, Try.ntmps3
          go_wp2_with (first | ((with_reducible refine gate_callee (f := 10) rfl ?_); refine goesL_ (some 7) rfl rfl Try.func10 (by kernel_rfl) rfl #[] rfl (by (try simp only [List.map_toArray, List.map_cons, List.map_nil]); first | done | rfl | (simp only [List.length_drop, List.length_take]; rfl)) ?_; (with_reducible refine (boltinglaw02_fixed.calls k  true _ A4.out).mono ?_); rintro e w18 ⟨rfl, hb⟩; refine ⟨_, rfl, ?_⟩; have n0_ := Aside0.mk (below_step (by repeat (first | (with_reducible first | exact HB.out | apply below_alloc | apply pw_below_drewN | apply below_drew1) | exact HB.out)) hb); clear HB; have HB := n0_; clear n0_; (try clear hb); (try clear hb2); (try clear hk); (try clear hi)) | (go_at_call 11; (with_reducible refine (fold_Lower.calls a0 t163 _ A6.out).mono ?_); rintro e w19 ⟨rfl, hb⟩; have n0_ := Aside0.mk (below_step (by repeat (first | (with_reducible first | exact HB.out | apply below_alloc | apply pw_below_drewN | apply below_drew1) | exact HB.out)) hb); clear HB; have HB := n0_; clear n0_; (try clear hb); (try clear hb2); (try clear hk); (try clear hi)) | (go_at_call 12; (with_reducible refine (boltingref02_Lower.calls a0 t164 _ A7.out).mono ?_); rintro e w20 ⟨rfl, hb⟩; have n0_ := Aside0.mk (below_step (by repeat (first | (with_reducible first | exact HB.out | apply below_alloc | apply pw_below_drewN | apply below_drew1) | exact HB.out)) hb); clear HB; have HB := n0_; clear n0_; (try clear hb); (try clear hb2); (try clear hk); (try clear hi)) | (go_at_call 13; (with_reducible refine (fold_Same.calls a0 a1 t165 _ A9.out).mono ?_); rintro e w21 ⟨rfl, hb⟩; have n0_ := Aside0.mk (below_step (by repeat (first | (with_reducible first | exact HB.out | apply below_alloc | apply pw_below_drewN | apply below_drew1) | exact HB.out)) hb); clear HB; have HB := n0_; clear n0_; (try clear hb); (try clear hb2); (try clear hk); (try clear hi)) | (go_at_call 12; (with_reducible refine (boltingref02_Lower.calls a0 t164 _ A10.out).mono ?_); rintro e w22 ⟨rfl, hb⟩; have n0_ := Aside0.mk (below_step (by repeat (first | (with_reducible first | exact HB.out | apply below_alloc | apply pw_below_drewN | apply below_drew1) | exact HB.out)) hb); clear HB; have HB := n0_; clear n0_; (try clear hb); (try clear hb2); (try clear hk); (try clear hi)) | (go_at_call 12; (with_reducible refine (boltingref02_Lower.calls a1 t167 _ A11.out).mono ?_); rintro e w23 ⟨rfl, hb⟩; have n0_ := Aside0.mk (below_step (by repeat (first | (with_reducible first | exact HB.out | apply below_alloc | apply pw_below_drewN | apply below_drew1) | exact HB.out)) hb); clear HB; have HB := n0_; clear n0_; (try clear hb); (try clear hb2); (try clear hk); (try clear hi)) | (go_at_call 14; (with_reducible refine (fold_Space.calls a2 t168 _ A13.out).mono ?_); rintro e w' ⟨rfl, ⟨nd, rfl⟩⟩) | (go_at_call 15; (with_reducible refine (boltingref02_Space.calls a2 t169 _ A14.out).mono ?_); rintro e w' ⟨rfl, ⟨nd, rfl⟩⟩) | (go_at_call 16; (with_reducible refine (fold_Letter.calls a2 t170 _ A16.out).mono ?_); rintro e w' ⟨rfl, ⟨nd, rfl⟩⟩) | (go_at_call 17; (with_reducible refine (boltingref02_Letter.calls a2 t171 _ A17.out).mono ?_); rintro e w' ⟨rfl, ⟨nd, rfl⟩⟩))
          go_ret
          exact ⟨by first | rfl | (simp [errW_none, errW_some] <;> rfl) | (simp [*, errW_none, errW_some] <;> rfl), by repeat (first | (with_reducible first | exact HB.out | apply below_alloc | apply pw_below_drewN | apply below_drew1) | exact HB.out)⟩
        · rw [if_neg c15] at H
          have c15b0 : (t168 == t169) = false := by simpa using c15
          (try (have c15b1 : decide (t168 = t169) = false := by simpa using c15))
          (try (have c15b2 : (t168 == t169) = false := by simpa using c15))
          (try (have c15b3 : ¬ (t168 = t169) := by simpa using c15))
          clear c15
          obtain rfl := Option.some.inj H
          go_enter Try.func3, Try.ntmps3
          go_wp2_with (first | ((with_reducible refine gate_callee (f := 10) rfl ?_); refine goesL_ (some 7) rfl rfl Try.func10 (by kernel_rfl) rfl #[] rfl (by (try simp only [List.map_toArray, List.map_cons, List.map_nil]); first | done | rfl | (simp only [List.length_drop, List.length_take]; rfl)) ?_; (with_reducible refine (boltinglaw02_fixed.calls k  true _ A4.out).mono ?_); rintro e w24 ⟨rfl, hb⟩; refine ⟨_, rfl, ?_⟩; have n0_ := Aside0.mk (below_step (by repeat (first | (with_reducible first | exact HB.out | apply below_alloc | apply pw_below_drewN | apply below_drew1) | exact HB.out)) hb); clear HB; have HB := n0_; clear n0_; (try clear hb); (try clear hb2); (try clear hk); (try clear hi)) | (go_at_call 11; (with_reducible refine (fold_Lower.calls a0 t163 _ A6.out).mono ?_); rintro e w25 ⟨rfl, hb⟩; have n0_ := Aside0.mk (below_step (by repeat (first | (with_reducible first | exact HB.out | apply below_alloc | apply pw_below_drewN | apply below_drew1) | exact HB.out)) hb); clear HB; have HB := n0_; clear n0_; (try clear hb); (try clear hb2); (try clear hk); (try clear hi)) | (go_at_call 12; (with_reducible refine (boltingref02_Lower.calls a0 t164 _ A7.out).mono ?_); rintro e w26 ⟨rfl, hb⟩; have n0_ := Aside0.mk (below_step (by repeat (first | (with_reducible first | exact HB.out | apply below_alloc | apply pw_below_drewN | apply below_drew1) | exact HB.out)) hb); clear HB; have HB := n0_; clear n0_; (try clear hb); (try clear hb2); (try clear hk); (try clear hi)) | (go_at_call 13; (with_reducible refine (fold_Same.calls a0 a1 t165 _ A9.out).mono ?_); rintro e w27 ⟨rfl, hb⟩; have n0_ := Aside0.mk (below_step (by repeat (first | (with_reducible first | exact HB.out | apply below_alloc | apply pw_below_drewN | apply below_drew1) | exact HB.out)) hb); clear HB; have HB := n0_; clear n0_; (try clear hb); (try clear hb2); (try clear hk); (try clear hi)) | (go_at_call 12; (with_reducible refine (boltingref02_Lower.calls a0 t164 _ A10.out).mono ?_); rintro e w28 ⟨rfl, hb⟩; have n0_ := Aside0.mk (below_step (by repeat (first | (with_reducible first | exact HB.out | apply below_alloc | apply pw_below_drewN | apply below_drew1) | exact HB.out)) hb); clear HB; have HB := n0_; clear n0_; (try clear hb); (try clear hb2); (try clear hk); (try clear hi)) | (go_at_call 12; (with_reducible refine (boltingref02_Lower.calls a1 t167 _ A11.out).mono ?_); rintro e w29 ⟨rfl, hb⟩; have n0_ := Aside0.mk (below_step (by repeat (first | (with_reducible first | exact HB.out | apply below_alloc | apply pw_below_drewN | apply below_drew1) | exact HB.out)) hb); clear HB; have HB := n0_; clear n0_; (try clear hb); (try clear hb2); (try clear hk); (try clear hi)) | (go_at_call 14; (with_reducible refine (fold_Space.calls a2 t168 _ A13.out).mono ?_); rintro e w' ⟨rfl, ⟨nd, rfl⟩⟩) | (go_at_call 15; (with_reducible refine (boltingref02_Space.calls a2 t169 _ A14.out).mono ?_); rintro e w' ⟨rfl, ⟨nd, rfl⟩⟩))
          go_ret
          exact ⟨by first | rfl | (simp [errW_none, errW_some] <;> rfl) | (simp [*, errW_none, errW_some] <;> rfl), by repeat (first | (with_reducible first | exact HB.out | apply below_alloc | apply pw_below_drewN | apply below_drew1) | exact HB.out)⟩
      · rw [if_neg c12] at H
        have c12b0 : (t165 == (t164.toList == t167.toList)) = false := by simpa using c12
        (try (have c12b1 : decide (t165 = (t164.toList == t167.toList)) = false := by simpa using c12))
        (try (have c12b2 : (t165 == (t164.toList == t167.toList)) = false := by simpa using c12))
        (try (have c12b3 : ¬ (t165 = (t164.toList == t167.toList)) := by simpa using c12))
        clear c12
        obtain rfl := Option.some.inj H
        go_enter Try.func3, Try.ntmps3
        go_wp2_with (first | ((with_reducible refine gate_callee (f := 10) rfl ?_); refine goesL_ (some 7) rfl rfl Try.func10 (by kernel_rfl) rfl #[] rfl (by (try simp only [List.map_toArray, List.map_cons, List.map_nil]); first | done | rfl | (simp only [List.length_drop, List.length_take]; rfl)) ?_; (with_reducible refine (boltinglaw02_fixed.calls k  true _ A4.out).mono ?_); rintro e w30 ⟨rfl, hb⟩; refine ⟨_, rfl, ?_⟩; have n0_ := Aside0.mk (below_step (by repeat (first | (with_reducible first | exact HB.out | apply below_alloc | apply pw_below_drewN | apply below_drew1) | exact HB.out)) hb); clear HB; have HB := n0_; clear n0_; (try clear hb); (try clear hb2); (try clear hk); (try clear hi)) | (go_at_call 11; (with_reducible refine (fold_Lower.calls a0 t163 _ A6.out).mono ?_); rintro e w31 ⟨rfl, hb⟩; have n0_ := Aside0.mk (below_step (by repeat (first | (with_reducible first | exact HB.out | apply below_alloc | apply pw_below_drewN | apply below_drew1) | exact HB.out)) hb); clear HB; have HB := n0_; clear n0_; (try clear hb); (try clear hb2); (try clear hk); (try clear hi)) | (go_at_call 12; (with_reducible refine (boltingref02_Lower.calls a0 t164 _ A7.out).mono ?_); rintro e w32 ⟨rfl, hb⟩; have n0_ := Aside0.mk (below_step (by repeat (first | (with_reducible first | exact HB.out | apply below_alloc | apply pw_below_drewN | apply below_drew1) | exact HB.out)) hb); clear HB; have HB := n0_; clear n0_; (try clear hb); (try clear hb2); (try clear hk); (try clear hi)) | (go_at_call 13; (with_reducible refine (fold_Same.calls a0 a1 t165 _ A9.out).mono ?_); rintro e w33 ⟨rfl, hb⟩; have n0_ := Aside0.mk (below_step (by repeat (first | (with_reducible first | exact HB.out | apply below_alloc | apply pw_below_drewN | apply below_drew1) | exact HB.out)) hb); clear HB; have HB := n0_; clear n0_; (try clear hb); (try clear hb2); (try clear hk); (try clear hi)) | (go_at_call 12; (with_reducible refine (boltingref02_Lower.calls a0 t164 _ A10.out).mono ?_); rintro e w34 ⟨rfl, hb⟩; have n0_ := Aside0.mk (below_step (by repeat (first | (with_reducible first | exact HB.out | apply below_alloc | apply pw_below_drewN | apply below_drew1) | exact HB.out)) hb); clear HB; have HB := n0_; clear n0_; (try clear hb); (try clear hb2); (try clear hk); (try clear hi)) | (go_at_call 12; (with_reducible refine (boltingref02_Lower.calls a1 t167 _ A11.out).mono ?_); rintro e w35 ⟨rfl, hb⟩; have n0_ := Aside0.mk (below_step (by repeat (first | (with_reducible first | exact HB.out | apply below_alloc | apply pw_below_drewN | apply below_drew1) | exact HB.out)) hb); clear HB; have HB := n0_; clear n0_; (try clear hb); (try clear hb2); (try clear hk); (try clear hi)))
        go_ret
        exact ⟨by first | rfl | (simp [errW_none, errW_some] <;> rfl) | (simp [*, errW_none, errW_some] <;> rfl), by repeat (first | (with_reducible first | exact HB.out | apply below_alloc | apply pw_below_drewN | apply below_drew1) | exact HB.out)⟩
    · rw [if_neg c8] at H
      have c8b0 : (t163.toList == t164.toList) = false := beq_eq_false_iff_ne.mpr c8
      have c8b1 : (t163.toList != t164.toList) = true := bne_iff_ne.mpr c8
      obtain rfl := Option.some.inj H
      go_enter Try.func3, Try.ntmps3
      go_wp2_with (first | ((with_reducible refine gate_callee (f := 10) rfl ?_); refine goesL_ (some 7) rfl rfl Try.func10 (by kernel_rfl) rfl #[] rfl (by (try simp only [List.map_toArray, List.map_cons, List.map_nil]); first | done | rfl | (simp only [List.length_drop, List.length_take]; rfl)) ?_; (with_reducible refine (boltinglaw02_fixed.calls k  true _ A4.out).mono ?_); rintro e w36 ⟨rfl, hb⟩; refine ⟨_, rfl, ?_⟩; have n0_ := Aside0.mk (below_step (by repeat (first | (with_reducible first | exact HB.out | apply below_alloc | apply pw_below_drewN | apply below_drew1) | exact HB.out)) hb); clear HB; have HB := n0_; clear n0_; (try clear hb); (try clear hb2); (try clear hk); (try clear hi)) | (go_at_call 11; (with_reducible refine (fold_Lower.calls a0 t163 _ A6.out).mono ?_); rintro e w37 ⟨rfl, hb⟩; have n0_ := Aside0.mk (below_step (by repeat (first | (with_reducible first | exact HB.out | apply below_alloc | apply pw_below_drewN | apply below_drew1) | exact HB.out)) hb); clear HB; have HB := n0_; clear n0_; (try clear hb); (try clear hb2); (try clear hk); (try clear hi)) | (go_at_call 12; (with_reducible refine (boltingref02_Lower.calls a0 t164 _ A7.out).mono ?_); rintro e w38 ⟨rfl, hb⟩; have n0_ := Aside0.mk (below_step (by repeat (first | (with_reducible first | exact HB.out | apply below_alloc | apply pw_below_drewN | apply below_drew1) | exact HB.out)) hb); clear HB; have HB := n0_; clear n0_; (try clear hb); (try clear hb2); (try clear hk); (try clear hi)))
      go_ret
      exact ⟨by first | rfl | (simp [errW_none, errW_some] <;> rfl) | (simp [*, errW_none, errW_some] <;> rfl), by repeat (first | (with_reducible first | exact HB.out | apply below_alloc | apply pw_below_drewN | apply below_drew1) | exact HB.out)⟩
  · replace c5 := Bool.eq_false_iff.mpr c5
    subst c5
    have H1 : (some false) = some r := by rw [if_neg (show ¬ (false = true) by decide)] at H; exact H
    clear H
    have H := H1
    clear H1
    obtain rfl := Option.some.inj H
    go_enter Try.func3, Try.ntmps3
    go_wp2_with (first | ((with_reducible refine gate_callee (f := 10) rfl ?_); refine goesL_ (some 7) rfl rfl Try.func10 (by kernel_rfl) rfl #[] rfl (by (try simp only [List.map_toArray, List.map_cons, List.map_nil]); first | done | rfl | (simp only [List.length_drop, List.length_take]; rfl)) ?_; (with_reducible refine (boltinglaw02_fixed.calls k  false _ A4.out).mono ?_); rintro e w39 ⟨rfl, hb⟩; refine ⟨_, rfl, ?_⟩; have n0_ := Aside0.mk (below_step (by repeat (first | (with_reducible first | exact HB.out | apply below_alloc | apply pw_below_drewN | apply below_drew1) | exact HB.out)) hb); clear HB; have HB := n0_; clear n0_; (try clear hb); (try clear hb2); (try clear hk); (try clear hi)))
    go_ret
    exact ⟨by first | rfl | (simp [errW_none, errW_some] <;> rfl) | (simp [*, errW_none, errW_some] <;> rfl), by repeat (first | (with_reducible first | exact HB.out | apply below_alloc | apply pw_below_drewN | apply below_drew1) | exact HB.out)⟩

/-- THE ONE PURE STATEMENT of boltinglaw02_FoldLetters: yours. -/
def boltinglaw02_FoldLetters.Pure : Prop := ∀ (a0 : ByteArray) (a1 : ByteArray) (a2 : Int), a0.size ≤ 140737488351232 → a1.size ≤ 140737488351232 → (Lit.int .u8 a2).wf = true → ∃ k, boltinglaw02_FoldLetters.f k a0 a1 a2 = some true
theorem boltinglaw02_FoldLetters.walk (P : boltinglaw02_FoldLetters.Pure) (a0 : ByteArray) (a1 : ByteArray) (a2 : Int) (w : World) (w0 : a0.size ≤ 140737488351232) (w1 : a1.size ≤ 140737488351232) (w2 : (Lit.int .u8 a2).wf = true) :
    Calls Try.prog 3 #[.string a0, .string a1, .int .u8 a2] w fun e w' => e = .returned (.bool true) ∧ Below w.heap.size w w' := by
  obtain ⟨k, h⟩ := P a0 a1 a2 w0 w1 w2
  refine (boltinglaw02_FoldLetters.calls k a0 a1 a2 true w h).mono ?_
  rintro e w' ⟨rfl, hd⟩
  exact ⟨rfl, hd⟩

end Go.Proofs.Ytmbmjaiggefjmaa.Pr
