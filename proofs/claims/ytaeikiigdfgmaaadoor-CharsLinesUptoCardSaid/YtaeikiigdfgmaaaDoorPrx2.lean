-- Written by wip/tools/pr.sh out of Lean's own print of the translation. Not trusted: Lean checks it.
import Derived.Test.YtaeikiigdfgmaaaDoorPrx0
import Derived.Test.YtaeikiigdfgmaaaDoorPrx1
namespace Go.Proofs.YtaeikiigdfgmaaaDoor.Pr
open Go.RowKit Go.Proofs.YtaeikiigdfgmaaaDoorW.PrintWords Go.Proofs.YtaeikiigdfgmaaaDoorW.PrintLast Go.Proofs.YtaeikiigdfgmaaaDoorW.PrintMore
attribute [local go_sem] max2_int min2_int max_two min_two max_three min_three max_four min_four   -- for this text's walks alone
set_option linter.unusedVariables false
set_option linter.unusedSimpArgs false

/-! ### boltinglaw01_fixed: function 12 -/
def boltinglaw01_fixed.f  : Option (Bool) := (chars_Decode.f (⟨#[97, 255, 98, 0]⟩ : ByteArray)).bind fun t110 => (if t110.toList = ([97, 239, 191, 189, 98, 239, 191, 189] : List UInt8) then ((chars_Lines.f (⟨#[13, 10, 13]⟩ : ByteArray)).bind fun t111 => (if t111.toList = ([10, 10] : List UInt8) then ((chars_Sample.f (⟨#[104, 195, 164, 195, 159]⟩ : ByteArray) 2).bind fun t112 => (if t112.toList = ([104, 195, 164] : List UInt8) then ((chars_Right.f (⟨#[104, 195, 164]⟩ : ByteArray)).bind fun t113 => (if t113 = true then ((chars_Right.f (⟨#[195]⟩ : ByteArray)).bind fun t114 => (if t114 = true then (some false) else ((chars_Count.f (⟨#[104, 195, 164, 255]⟩ : ByteArray)).bind fun t115 => (if t115 = 3 then ((chars_Ready.f (⟨#[255, 13]⟩ : ByteArray)).bind fun t116 => (some (t116.toList == ([239, 191, 189, 10] : List UInt8)))) else (some false))))) else (some false))) else (some false))) else (some false))) else (some false))
set_option maxHeartbeats 8000000 in
set_option maxRecDepth 100000 in
theorem boltinglaw01_fixed.calls_true  (r : Bool) (w : World) (hG0 : G w) (h : boltinglaw01_fixed.f  = some r) (hT : Aside0 (r = true)) :
    Calls Tryd.prog 12 #[] w fun e w' => e = .returned (.bool r) ∧ Below w.heap.size w w' := by
  have hG := Aside0.mk hG0
  clear hG0
  have HB := Aside0.mk (Below.refl w.heap.size w)
  have H : ((chars_Decode.f (⟨#[97, 255, 98, 0]⟩ : ByteArray)).bind fun t110 => (if t110.toList = ([97, 239, 191, 189, 98, 239, 191, 189] : List UInt8) then ((chars_Lines.f (⟨#[13, 10, 13]⟩ : ByteArray)).bind fun t111 => (if t111.toList = ([10, 10] : List UInt8) then ((chars_Sample.f (⟨#[104, 195, 164, 195, 159]⟩ : ByteArray) 2).bind fun t112 => (if t112.toList = ([104, 195, 164] : List UInt8) then ((chars_Right.f (⟨#[104, 195, 164]⟩ : ByteArray)).bind fun t113 => (if t113 = true then ((chars_Right.f (⟨#[195]⟩ : ByteArray)).bind fun t114 => (if t114 = true then (some false) else ((chars_Count.f (⟨#[104, 195, 164, 255]⟩ : ByteArray)).bind fun t115 => (if t115 = 3 then ((chars_Ready.f (⟨#[255, 13]⟩ : ByteArray)).bind fun t116 => (some (t116.toList == ([239, 191, 189, 10] : List UInt8)))) else (some false))))) else (some false))) else (some false))) else (some false))) else (some false))) = some r := h
  clear h
  replace H := Option.bind_eq_some_iff.mp H
  obtain ⟨t110, A10, H⟩ := H
  replace H : (if t110.toList = ([97, 239, 191, 189, 98, 239, 191, 189] : List UInt8) then ((chars_Lines.f (⟨#[13, 10, 13]⟩ : ByteArray)).bind fun t111 => (if t111.toList = ([10, 10] : List UInt8) then ((chars_Sample.f (⟨#[104, 195, 164, 195, 159]⟩ : ByteArray) 2).bind fun t112 => (if t112.toList = ([104, 195, 164] : List UInt8) then ((chars_Right.f (⟨#[104, 195, 164]⟩ : ByteArray)).bind fun t113 => (if t113 = true then ((chars_Right.f (⟨#[195]⟩ : ByteArray)).bind fun t114 => (if t114 = true then (some false) else ((chars_Count.f (⟨#[104, 195, 164, 255]⟩ : ByteArray)).bind fun t115 => (if t115 = 3 then ((chars_Ready.f (⟨#[255, 13]⟩ : ByteArray)).bind fun t116 => (some (t116.toList == ([239, 191, 189, 10] : List UInt8)))) else (some false))))) else (some false))) else (some false))) else (some false))) else (some false)) = some r := H
  have A1 := Aside0.mk A10
  clear A10
  by_cases c2 : t110.toList = ([97, 239, 191, 189, 98, 239, 191, 189] : List UInt8)
  · rw [if_pos c2] at H
    have c2b0 : (t110.toList == ([97, 239, 191, 189, 98, 239, 191, 189] : List UInt8)) = true := beq_iff_eq.mpr c2
    have c2b1 : (t110.toList != ([97, 239, 191, 189, 98, 239, 191, 189] : List UInt8)) = false := bne_eq_false_iff_eq.mpr c2
    clear c2
    replace H := Option.bind_eq_some_iff.mp H
    obtain ⟨t111, A30, H⟩ := H
    replace H : (if t111.toList = ([10, 10] : List UInt8) then ((chars_Sample.f (⟨#[104, 195, 164, 195, 159]⟩ : ByteArray) 2).bind fun t112 => (if t112.toList = ([104, 195, 164] : List UInt8) then ((chars_Right.f (⟨#[104, 195, 164]⟩ : ByteArray)).bind fun t113 => (if t113 = true then ((chars_Right.f (⟨#[195]⟩ : ByteArray)).bind fun t114 => (if t114 = true then (some false) else ((chars_Count.f (⟨#[104, 195, 164, 255]⟩ : ByteArray)).bind fun t115 => (if t115 = 3 then ((chars_Ready.f (⟨#[255, 13]⟩ : ByteArray)).bind fun t116 => (some (t116.toList == ([239, 191, 189, 10] : List UInt8)))) else (some false))))) else (some false))) else (some false))) else (some false)) = some r := H
    have A3 := Aside0.mk A30
    clear A30
    by_cases c4 : t111.toList = ([10, 10] : List UInt8)
    · rw [if_pos c4] at H
      have c4b0 : (t111.toList == ([10, 10] : List UInt8)) = true := beq_iff_eq.mpr c4
      have c4b1 : (t111.toList != ([10, 10] : List UInt8)) = false := bne_eq_false_iff_eq.mpr c4
      clear c4
      replace H := Option.bind_eq_some_iff.mp H
      obtain ⟨t112, A50, H⟩ := H
      replace H : (if t112.toList = ([104, 195, 164] : List UInt8) then ((chars_Right.f (⟨#[104, 195, 164]⟩ : ByteArray)).bind fun t113 => (if t113 = true then ((chars_Right.f (⟨#[195]⟩ : ByteArray)).bind fun t114 => (if t114 = true then (some false) else ((chars_Count.f (⟨#[104, 195, 164, 255]⟩ : ByteArray)).bind fun t115 => (if t115 = 3 then ((chars_Ready.f (⟨#[255, 13]⟩ : ByteArray)).bind fun t116 => (some (t116.toList == ([239, 191, 189, 10] : List UInt8)))) else (some false))))) else (some false))) else (some false)) = some r := H
      have A5 := Aside0.mk A50
      clear A50
      by_cases c6 : t112.toList = ([104, 195, 164] : List UInt8)
      · rw [if_pos c6] at H
        have c6b0 : (t112.toList == ([104, 195, 164] : List UInt8)) = true := beq_iff_eq.mpr c6
        have c6b1 : (t112.toList != ([104, 195, 164] : List UInt8)) = false := bne_eq_false_iff_eq.mpr c6
        clear c6
        replace H := Option.bind_eq_some_iff.mp H
        obtain ⟨t113, A70, H⟩ := H
        replace H : (if t113 = true then ((chars_Right.f (⟨#[195]⟩ : ByteArray)).bind fun t114 => (if t114 = true then (some false) else ((chars_Count.f (⟨#[104, 195, 164, 255]⟩ : ByteArray)).bind fun t115 => (if t115 = 3 then ((chars_Ready.f (⟨#[255, 13]⟩ : ByteArray)).bind fun t116 => (some (t116.toList == ([239, 191, 189, 10] : List UInt8)))) else (some false))))) else (some false)) = some r := H
        have A7 := Aside0.mk A70
        clear A70
        by_cases c8 : t113 = true
        · subst c8
          have H1 : ((chars_Right.f (⟨#[195]⟩ : ByteArray)).bind fun t114 => (if t114 = true then (some false) else ((chars_Count.f (⟨#[104, 195, 164, 255]⟩ : ByteArray)).bind fun t115 => (if t115 = 3 then ((chars_Ready.f (⟨#[255, 13]⟩ : ByteArray)).bind fun t116 => (some (t116.toList == ([239, 191, 189, 10] : List UInt8)))) else (some false))))) = some r := by rw [if_pos rfl] at H; exact H
          clear H
          have H := H1
          clear H1
          replace H := Option.bind_eq_some_iff.mp H
          obtain ⟨t114, A90, H⟩ := H
          replace H : (if t114 = true then (some false) else ((chars_Count.f (⟨#[104, 195, 164, 255]⟩ : ByteArray)).bind fun t115 => (if t115 = 3 then ((chars_Ready.f (⟨#[255, 13]⟩ : ByteArray)).bind fun t116 => (some (t116.toList == ([239, 191, 189, 10] : List UInt8)))) else (some false)))) = some r := H
          have A9 := Aside0.mk A90
          clear A90
          by_cases c10 : t114 = true
          · subst c10
            have H1 : (some false) = some r := by rw [if_pos rfl] at H; exact H
            clear H
            have H := H1
            clear H1
            exact absurd (Option.some.inj H) (by rw [hT.out]; decide)
          · replace c10 := Bool.eq_false_iff.mpr c10
            subst c10
            have H1 : ((chars_Count.f (⟨#[104, 195, 164, 255]⟩ : ByteArray)).bind fun t115 => (if t115 = 3 then ((chars_Ready.f (⟨#[255, 13]⟩ : ByteArray)).bind fun t116 => (some (t116.toList == ([239, 191, 189, 10] : List UInt8)))) else (some false))) = some r := by rw [if_neg (show ¬ (false = true) by decide)] at H; exact H
            clear H
            have H := H1
            clear H1
            replace H := Option.bind_eq_some_iff.mp H
            obtain ⟨t115, A160, H⟩ := H
            replace H : (if t115 = 3 then ((chars_Ready.f (⟨#[255, 13]⟩ : ByteArray)).bind fun t116 => (some (t116.toList == ([239, 191, 189, 10] : List UInt8)))) else (some false)) = some r := H
            have A16 := Aside0.mk A160
            clear A160
            by_cases c17 : t115 = 3
            · rw [if_pos c17] at H
              have c17b0 : (t115 == 3) = true := beq_iff_eq.mpr c17
              have c17b1 : (t115 != 3) = false := bne_eq_false_iff_eq.mpr c17
              clear c17
              replace H := Option.bind_eq_some_iff.mp H
              obtain ⟨t116, A180, H⟩ := H
              replace H : (some (t116.toList == ([239, 191, 189, 10] : List UInt8))) = some r := H
              have A18 := Aside0.mk A180
              clear A180
              obtain rfl := Option.some.inj H
              go_enter Tryd.func12, Tryd.ntmps12
              go_wp2_with (first | ((with_reducible refine gate_callee (f := 13) rfl ?_); refine goesL_ (some 1) rfl rfl Tryd.func13 (by kernel_rfl) rfl #[.string (⟨#[97, 255, 98, 0]⟩ : ByteArray)] rfl (by (try simp only [List.map_toArray, List.map_cons, List.map_nil]); first | done | rfl | (simp only [List.length_drop, List.length_take]; rfl)) ?_; (with_reducible refine (chars_Decode.calls (⟨#[97, 255, 98, 0]⟩ : ByteArray) t110 _ A1.out).mono ?_); rintro e w19 ⟨rfl, hb⟩; refine ⟨_, rfl, ?_⟩; have n0_ := Aside0.mk (below_step (by repeat (first | (with_reducible first | exact HB.out | apply below_alloc | apply pw_below_drewN | apply below_drew1) | exact HB.out)) hb); clear HB; have HB := n0_; clear n0_; (try clear hb); (try clear hb2); (try clear hk); (try clear hi)) | (go_at_call 18; (with_reducible refine (chars_Lines.calls (⟨#[13, 10, 13]⟩ : ByteArray) t111 _ (hG.out.go (by repeat (first | (with_reducible first | exact HB.out | apply below_alloc | apply pw_below_drewN | apply below_drew1) | exact HB.out))) A3.out).mono ?_); rintro e w20 ⟨rfl, hb⟩; have n0_ := Aside0.mk (below_step (by repeat (first | (with_reducible first | exact HB.out | apply below_alloc | apply pw_below_drewN | apply below_drew1) | exact HB.out)) hb); clear HB; have HB := n0_; clear n0_; (try clear hb); (try clear hb2); (try clear hk); (try clear hi)) | (go_at_call 22; (with_reducible refine (chars_Sample.calls (⟨#[104, 195, 164, 195, 159]⟩ : ByteArray) 2 t112 _ A5.out).mono ?_); rintro e w21 ⟨rfl, hb⟩; have n0_ := Aside0.mk (below_step (by repeat (first | (with_reducible first | exact HB.out | apply below_alloc | apply pw_below_drewN | apply below_drew1) | exact HB.out)) hb); clear HB; have HB := n0_; clear n0_; (try clear hb); (try clear hb2); (try clear hk); (try clear hi)) | (go_at_call 15; (with_reducible refine (chars_Right.calls (⟨#[104, 195, 164]⟩ : ByteArray) true _ (hG.out.go (by repeat (first | (with_reducible first | exact HB.out | apply below_alloc | apply pw_below_drewN | apply below_drew1) | exact HB.out))) A7.out).mono ?_); rintro e w22 ⟨rfl, hb⟩; have n0_ := Aside0.mk (below_step (by repeat (first | (with_reducible first | exact HB.out | apply below_alloc | apply pw_below_drewN | apply below_drew1) | exact HB.out)) hb); clear HB; have HB := n0_; clear n0_; (try clear hb); (try clear hb2); (try clear hk); (try clear hi)) | (go_at_call 15; (with_reducible refine (chars_Right.calls (⟨#[195]⟩ : ByteArray) false _ (hG.out.go (by repeat (first | (with_reducible first | exact HB.out | apply below_alloc | apply pw_below_drewN | apply below_drew1) | exact HB.out))) A9.out).mono ?_); rintro e w23 ⟨rfl, hb⟩; have n0_ := Aside0.mk (below_step (by repeat (first | (with_reducible first | exact HB.out | apply below_alloc | apply pw_below_drewN | apply below_drew1) | exact HB.out)) hb); clear HB; have HB := n0_; clear n0_; (try clear hb); (try clear hb2); (try clear hk); (try clear hi)) | (go_at_call 17; (with_reducible refine (chars_Count.calls (⟨#[104, 195, 164, 255]⟩ : ByteArray) t115 _ A16.out).mono ?_); rintro e w24 ⟨rfl, hb⟩; have n0_ := Aside0.mk (below_step (by repeat (first | (with_reducible first | exact HB.out | apply below_alloc | apply pw_below_drewN | apply below_drew1) | exact HB.out)) hb); clear HB; have HB := n0_; clear n0_; (try clear hb); (try clear hb2); (try clear hk); (try clear hi)) | (go_at_call 20; (with_reducible refine (chars_Ready.calls (⟨#[255, 13]⟩ : ByteArray) t116 _ (hG.out.go (by repeat (first | (with_reducible first | exact HB.out | apply below_alloc | apply pw_below_drewN | apply below_drew1) | exact HB.out))) A18.out).mono ?_); rintro e w25 ⟨rfl, hb⟩; have n0_ := Aside0.mk (below_step (by repeat (first | (with_reducible first | exact HB.out | apply below_alloc | apply pw_below_drewN | apply below_drew1) | exact HB.out)) hb); clear HB; have HB := n0_; clear n0_; (try clear hb); (try clear hb2); (try clear hk); (try clear hi)))
              go_ret
              exact ⟨by first | rfl | (simp [errW_none, errW_some] <;> rfl) | (simp [*, errW_none, errW_some] <;> rfl), by repeat (first | (with_reducible first | exact HB.out | apply below_alloc | apply pw_below_drewN | apply below_drew1) | exact HB.out)⟩
            · rw [if_neg c17] at H
              have c17b0 : (t115 == 3) = false := beq_eq_false_iff_ne.mpr c17
              have c17b1 : (t115 != 3) = true := bne_iff_ne.mpr c17
              obtain rfl := Option.some.inj H
              go_enter Tryd.func12, Tryd.ntmps12
              go_wp2_with (first | ((with_reducible refine gate_callee (f := 13) rfl ?_); refine goesL_ (some 1) rfl rfl Tryd.func13 (by kernel_rfl) rfl #[.string (⟨#[97, 255, 98, 0]⟩ : ByteArray)] rfl (by (try simp only [List.map_toArray, List.map_cons, List.map_nil]); first | done | rfl | (simp only [List.length_drop, List.length_take]; rfl)) ?_; (with_reducible refine (chars_Decode.calls (⟨#[97, 255, 98, 0]⟩ : ByteArray) t110 _ A1.out).mono ?_); rintro e w26 ⟨rfl, hb⟩; refine ⟨_, rfl, ?_⟩; have n0_ := Aside0.mk (below_step (by repeat (first | (with_reducible first | exact HB.out | apply below_alloc | apply pw_below_drewN | apply below_drew1) | exact HB.out)) hb); clear HB; have HB := n0_; clear n0_; (try clear hb); (try clear hb2); (try clear hk); (try clear hi)) | (go_at_call 18; (with_reducible refine (chars_Lines.calls (⟨#[13, 10, 13]⟩ : ByteArray) t111 _ (hG.out.go (by repeat (first | (with_reducible first | exact HB.out | apply below_alloc | apply pw_below_drewN | apply below_drew1) | exact HB.out))) A3.out).mono ?_); rintro e w27 ⟨rfl, hb⟩; have n0_ := Aside0.mk (below_step (by repeat (first | (with_reducible first | exact HB.out | apply below_alloc | apply pw_below_drewN | apply below_drew1) | exact HB.out)) hb); clear HB; have HB := n0_; clear n0_; (try clear hb); (try clear hb2); (try clear hk); (try clear hi)) | (go_at_call 22; (with_reducible refine (chars_Sample.calls (⟨#[104, 195, 164, 195, 159]⟩ : ByteArray) 2 t112 _ A5.out).mono ?_); rintro e w28 ⟨rfl, hb⟩; have n0_ := Aside0.mk (below_step (by repeat (first | (with_reducible first | exact HB.out | apply below_alloc | apply pw_below_drewN | apply below_drew1) | exact HB.out)) hb); clear HB; have HB := n0_; clear n0_; (try clear hb); (try clear hb2); (try clear hk); (try clear hi)) | (go_at_call 15; (with_reducible refine (chars_Right.calls (⟨#[104, 195, 164]⟩ : ByteArray) true _ (hG.out.go (by repeat (first | (with_reducible first | exact HB.out | apply below_alloc | apply pw_below_drewN | apply below_drew1) | exact HB.out))) A7.out).mono ?_); rintro e w29 ⟨rfl, hb⟩; have n0_ := Aside0.mk (below_step (by repeat (first | (with_reducible first | exact HB.out | apply below_alloc | apply pw_below_drewN | apply below_drew1) | exact HB.out)) hb); clear HB; have HB := n0_; clear n0_; (try clear hb); (try clear hb2); (try clear hk); (try clear hi)) | (go_at_call 15; (with_reducible refine (chars_Right.calls (⟨#[195]⟩ : ByteArray) false _ (hG.out.go (by repeat (first | (with_reducible first | exact HB.out | apply below_alloc | apply pw_below_drewN | apply below_drew1) | exact HB.out))) A9.out).mono ?_); rintro e w30 ⟨rfl, hb⟩; have n0_ := Aside0.mk (below_step (by repeat (first | (with_reducible first | exact HB.out | apply below_alloc | apply pw_below_drewN | apply below_drew1) | exact HB.out)) hb); clear HB; have HB := n0_; clear n0_; (try clear hb); (try clear hb2); (try clear hk); (try clear hi)) | (go_at_call 17; (with_reducible refine (chars_Count.calls (⟨#[104, 195, 164, 255]⟩ : ByteArray) t115 _ A16.out).mono ?_); rintro e w31 ⟨rfl, hb⟩; have n0_ := Aside0.mk (below_step (by repeat (first | (with_reducible first | exact HB.out | apply below_alloc | apply pw_below_drewN | apply below_drew1) | exact HB.out)) hb); clear HB; have HB := n0_; clear n0_; (try clear hb); (try clear hb2); (try clear hk); (try clear hi)))
              go_ret
              exact ⟨by first | rfl | (simp [errW_none, errW_some] <;> rfl) | (simp [*, errW_none, errW_some] <;> rfl), by repeat (first | (with_reducible first | exact HB.out | apply below_alloc | apply pw_below_drewN | apply below_drew1) | exact HB.out)⟩
        · replace c8 := Bool.eq_false_iff.mpr c8
          subst c8
          have H1 : (some false) = some r := by rw [if_neg (show ¬ (false = true) by decide)] at H; exact H
          clear H
          have H := H1
          clear H1
          exact absurd (Option.some.inj H) (by rw [hT.out]; decide)
      · rw [if_neg c6] at H
        have c6b0 : (t112.toList == ([104, 195, 164] : List UInt8)) = false := beq_eq_false_iff_ne.mpr c6
        have c6b1 : (t112.toList != ([104, 195, 164] : List UInt8)) = true := bne_iff_ne.mpr c6
        exact absurd (Option.some.inj H) (by rw [hT.out]; decide)
    · rw [if_neg c4] at H
      have c4b0 : (t111.toList == ([10, 10] : List UInt8)) = false := beq_eq_false_iff_ne.mpr c4
      have c4b1 : (t111.toList != ([10, 10] : List UInt8)) = true := bne_iff_ne.mpr c4
      exact absurd (Option.some.inj H) (by rw [hT.out]; decide)
  · rw [if_neg c2] at H
    have c2b0 : (t110.toList == ([97, 239, 191, 189, 98, 239, 191, 189] : List UInt8)) = false := beq_eq_false_iff_ne.mpr c2
    have c2b1 : (t110.toList != ([97, 239, 191, 189, 98, 239, 191, 189] : List UInt8)) = true := bne_iff_ne.mpr c2
    exact absurd (Option.some.inj H) (by rw [hT.out]; decide)
set_option maxRecDepth 100000 in
theorem boltinglaw01_fixed.yes (r : Bool) (h : boltinglaw01_fixed.f = some r) : r = true := Option.some.inj (h.symm.trans (show boltinglaw01_fixed.f = some true by decide +kernel))
theorem boltinglaw01_fixed.calls  (r : Bool) (w : World) (hG0 : G w) (h : boltinglaw01_fixed.f  = some r) :
    Calls Tryd.prog 12 #[] w fun e w' => e = .returned (.bool r) ∧ Below w.heap.size w w' := by
  have hG := Aside0.mk hG0
  clear hG0
  exact boltinglaw01_fixed.calls_true r w hG.out h (Aside0.mk (boltinglaw01_fixed.yes r h))

end Go.Proofs.YtaeikiigdfgmaaaDoor.Pr
