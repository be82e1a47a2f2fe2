-- Written by wip/tools/pr.sh out of Lean's own print of the translation. Not trusted: Lean checks it.
import Derived.Test.YtaeikiigdfgmaaaDoorPrx0
import Derived.Test.YtaeikiigdfgmaaaDoorPrx1
import Derived.Test.YtaeikiigdfgmaaaDoorPrx2
namespace Go.Proofs.YtaeikiigdfgmaaaDoor.Pr
open Go.RowKit Go.Proofs.YtaeikiigdfgmaaaDoorW.PrintWords Go.Proofs.YtaeikiigdfgmaaaDoorW.PrintLast Go.Proofs.YtaeikiigdfgmaaaDoorW.PrintMore
attribute [local go_sem] max2_int min2_int max_two min_two max_three min_three max_four min_four   -- for this text's walks alone
set_option linter.unusedVariables false
set_option linter.unusedSimpArgs false

/-! ### boltinglaw01_CharsAgain: function 6 -/
mutual
def boltinglaw01_CharsAgain.j0 : Nat → ByteArray → Bool → Option (Bool)
  | 0, _, _ => none
  | k + 1, x4, x37 => if x37 = true then (some false) else (boltinglaw01_CharsAgain.l0 k x4 0)
def boltinglaw01_CharsAgain.l0 : Nat → ByteArray → Int → Option (Bool)
  | 0, _, _ => none
  | k + 1, x4, x5 => if x5 < (x4.size : Int) then (if 0 ≤ x5 then (if (bt x4 x5) = 0 then (some false) else (if (bt x4 x5) = 13 then (some false) else (boltinglaw01_CharsAgain.l0 k x4 (wrap64 (x5 + 1))))) else (none)) else ((boltinglaw01_fixed.f).bind fun t174 => (some t174))
end
def boltinglaw01_CharsAgain.f (k : Nat) (a0 : ByteArray) : Option (Bool) := (chars_Decode.f a0).bind fun t165 => ((chars_Ready.f a0).bind fun t166 => ((chars_Right.f t165).bind fun t167 => (if t167 = true then ((chars_Decode.f t165).bind fun t168 => (if t168.toList = t165.toList then ((chars_Right.f t166).bind fun t169 => (if t169 = true then ((chars_Ready.f t166).bind fun t170 => (if t170.toList = t166.toList then ((chars_Lines.f a0).bind fun t171 => ((chars_Lines.f t171).bind fun t172 => ((chars_Lines.f a0).bind fun t173 => (boltinglaw01_CharsAgain.j0 k t166 (t172.toList != t173.toList))))) else (boltinglaw01_CharsAgain.j0 k t166 true))) else (boltinglaw01_CharsAgain.j0 k t166 true))) else (boltinglaw01_CharsAgain.j0 k t166 true))) else (boltinglaw01_CharsAgain.j0 k t166 true))))
theorem boltinglaw01_CharsAgain.mono_l : ∀ k, (∀ y0 y1, LeO (boltinglaw01_CharsAgain.j0 k y0 y1) (boltinglaw01_CharsAgain.j0 (k + 1) y0 y1)) ∧ (∀ y0 y1, LeO (boltinglaw01_CharsAgain.l0 k y0 y1) (boltinglaw01_CharsAgain.l0 (k + 1) y0 y1))
  | 0 => ⟨fun _ _ r h => by simp [boltinglaw01_CharsAgain.j0] at h, fun _ _ r h => by simp [boltinglaw01_CharsAgain.l0] at h⟩
  | k + 1 => by
    obtain ⟨ih0, ih1⟩ := boltinglaw01_CharsAgain.mono_l k
    refine ⟨?_, ?_⟩
    · intro y0 y1
      unfold boltinglaw01_CharsAgain.j0
      repeat' first
      | (with_reducible exact ih0 _ _)
      | (with_reducible exact ih1 _ _)
      | (with_reducible exact LeO.refl _)
      | (with_reducible exact LeO.none _)
      | (with_reducible refine LeO.ite ?_ ?_)
      | (with_reducible refine LeO.bind ?_ (fun _ => ?_))
      | exact ih0 _ _
      | exact ih1 _ _
      | exact LeO.none _
      | refine LeO.ite ?_ ?_
      | refine LeO.bind ?_ (fun _ => ?_)
    · intro y0 y1
      unfold boltinglaw01_CharsAgain.l0
      repeat' first
      | (with_reducible exact ih0 _ _)
      | (with_reducible exact ih1 _ _)
      | (with_reducible exact LeO.refl _)
      | (with_reducible exact LeO.none _)
      | (with_reducible refine LeO.ite ?_ ?_)
      | (with_reducible refine LeO.bind ?_ (fun _ => ?_))
      | exact ih0 _ _
      | exact ih1 _ _
      | exact LeO.none _
      | refine LeO.ite ?_ ?_
      | refine LeO.bind ?_ (fun _ => ?_)
theorem boltinglaw01_CharsAgain.mono : ∀ a0 k, LeO (boltinglaw01_CharsAgain.f k a0) (boltinglaw01_CharsAgain.f (k + 1) a0) := by
  intro a0 k
  obtain ⟨ih0, ih1⟩ := boltinglaw01_CharsAgain.mono_l k
  unfold boltinglaw01_CharsAgain.f
  repeat' first
      | (with_reducible exact ih0 _ _)
      | (with_reducible exact ih1 _ _)
      | (with_reducible exact LeO.refl _)
      | (with_reducible exact LeO.none _)
      | (with_reducible refine LeO.ite ?_ ?_)
      | (with_reducible refine LeO.bind ?_ (fun _ => ?_))
      | exact ih0 _ _
      | exact ih1 _ _
      | exact LeO.none _
      | refine LeO.ite ?_ ?_
      | refine LeO.bind ?_ (fun _ => ?_)
set_option maxHeartbeats 8000000 in
set_option maxRecDepth 100000 in
theorem boltinglaw01_CharsAgain.calls (k : Nat) (a0 : ByteArray) (r : Bool) (w : World) (hG0 : G w) (h : boltinglaw01_CharsAgain.f k a0 = some r) :
    Calls Tryd.prog 6 #[.string a0] w fun e w' => e = .returned (.bool r) ∧ Below w.heap.size w w' := by
  have hG := Aside0.mk hG0
  clear hG0
  have HB := Aside0.mk (Below.refl w.heap.size w)
  have H : ((chars_Decode.f a0).bind fun t165 => ((chars_Ready.f a0).bind fun t166 => ((chars_Right.f t165).bind fun t167 => (if t167 = true then ((chars_Decode.f t165).bind fun t168 => (if t168.toList = t165.toList then ((chars_Right.f t166).bind fun t169 => (if t169 = true then ((chars_Ready.f t166).bind fun t170 => (if t170.toList = t166.toList then ((chars_Lines.f a0).bind fun t171 => ((chars_Lines.f t171).bind fun t172 => ((chars_Lines.f a0).bind fun t173 => (boltinglaw01_CharsAgain.j0 k t166 (t172.toList != t173.toList))))) else (boltinglaw01_CharsAgain.j0 k t166 true))) else (boltinglaw01_CharsAgain.j0 k t166 true))) else (boltinglaw01_CharsAgain.j0 k t166 true))) else (boltinglaw01_CharsAgain.j0 k t166 true))))) = some r := h
  clear h
  replace H := Option.bind_eq_some_iff.mp H
  obtain ⟨t165, A20, H⟩ := H
  replace H : ((chars_Ready.f a0).bind fun t166 => ((chars_Right.f t165).bind fun t167 => (if t167 = true then ((chars_Decode.f t165).bind fun t168 => (if t168.toList = t165.toList then ((chars_Right.f t166).bind fun t169 => (if t169 = true then ((chars_Ready.f t166).bind fun t170 => (if t170.toList = t166.toList then ((chars_Lines.f a0).bind fun t171 => ((chars_Lines.f t171).bind fun t172 => ((chars_Lines.f a0).bind fun t173 => (boltinglaw01_CharsAgain.j0 k t166 (t172.toList != t173.toList))))) else (boltinglaw01_CharsAgain.j0 k t166 true))) else (boltinglaw01_CharsAgain.j0 k t166 true))) else (boltinglaw01_CharsAgain.j0 k t166 true))) else (boltinglaw01_CharsAgain.j0 k t166 true)))) = some r := H
  have A2 := Aside0.mk A20
  clear A20
  replace H := Option.bind_eq_some_iff.mp H
  obtain ⟨t166, A30, H⟩ := H
  replace H : ((chars_Right.f t165).bind fun t167 => (if t167 = true then ((chars_Decode.f t165).bind fun t168 => (if t168.toList = t165.toList then ((chars_Right.f t166).bind fun t169 => (if t169 = true then ((chars_Ready.f t166).bind fun t170 => (if t170.toList = t166.toList then ((chars_Lines.f a0).bind fun t171 => ((chars_Lines.f t171).bind fun t172 => ((chars_Lines.f a0).bind fun t173 => (boltinglaw01_CharsAgain.j0 k t166 (t172.toList != t173.toList))))) else (boltinglaw01_CharsAgain.j0 k t166 true))) else (boltinglaw01_CharsAgain.j0 k t166 true))) else (boltinglaw01_CharsAgain.j0 k t166 true))) else (boltinglaw01_CharsAgain.j0 k t166 true))) = some r := H
  have A3 := Aside0.mk A30
  clear A30
  have HC4 := Aside0.mk H
  clear H
  go_enter Tryd.func6, Tryd.ntmps6
  go_upto_region 2 with (first | ((with_reducible refine gate_callee (f := 13) rfl ?_); refine goesL_ (some 7) rfl rfl Tryd.func13 (by kernel_rfl) rfl #[.string a0] rfl (by (try simp only [List.map_toArray, List.map_cons, List.map_nil]); first | done | rfl | (simp only [List.length_drop, List.length_take]; rfl)) ?_; (with_reducible refine (chars_Decode.calls a0 t165 _ A2.out).mono ?_); rintro e w5 ⟨rfl, hb⟩; refine ⟨_, rfl, ?_⟩; have n0_ := Aside0.mk (below_step (by repeat (first | (with_reducible first | exact HB.out | apply below_alloc | apply pw_below_drewN | apply below_drew1) | exact HB.out)) hb); clear HB; have HB := n0_; clear n0_; (try clear hb); (try clear hb2); (try clear hk); (try clear hi)) | ((with_reducible refine gate_callee (f := 20) rfl ?_); refine goesL_ (some 9) rfl rfl Tryd.func20 (by kernel_rfl) rfl #[.string a0] rfl (by (try simp only [List.map_toArray, List.map_cons, List.map_nil]); first | done | rfl | (simp only [List.length_drop, List.length_take]; rfl)) ?_; (with_reducible refine (chars_Ready.calls a0 t166 _ (hG.out.go (by repeat (first | (with_reducible first | exact HB.out | apply below_alloc | apply pw_below_drewN | apply below_drew1) | exact HB.out))) A3.out).mono ?_); rintro e w6 ⟨rfl, hb⟩; refine ⟨_, rfl, ?_⟩; have n0_ := Aside0.mk (below_step (by repeat (first | (with_reducible first | exact HB.out | apply below_alloc | apply pw_below_drewN | apply below_drew1) | exact HB.out)) hb); clear HB; have HB := n0_; clear n0_; (try clear hb); (try clear hb2); (try clear hk); (try clear hi)))
  (try simp only [Act.put, List.setIfInBounds_toArray, List.set_cons_zero, List.set_cons_succ])
  go_cut [37] (fun v37 wc => ∃ (kq : Nat) (x37_3 : Bool), v37 = .bool x37_3 ∧ Aside0 (boltinglaw01_CharsAgain.j0 kq t166 x37_3 = some r) ∧ Aside0 (kq ≤ k) ∧ Aside0 (Below w.heap.size w wc))
  case first =>
    have H := HC4.out
    clear HC4
    replace H := Option.bind_eq_some_iff.mp H
    obtain ⟨t167, A70, H⟩ := H
    replace H : (if t167 = true then ((chars_Decode.f t165).bind fun t168 => (if t168.toList = t165.toList then ((chars_Right.f t166).bind fun t169 => (if t169 = true then ((chars_Ready.f t166).bind fun t170 => (if t170.toList = t166.toList then ((chars_Lines.f a0).bind fun t171 => ((chars_Lines.f t171).bind fun t172 => ((chars_Lines.f a0).bind fun t173 => (boltinglaw01_CharsAgain.j0 k t166 (t172.toList != t173.toList))))) else (boltinglaw01_CharsAgain.j0 k t166 true))) else (boltinglaw01_CharsAgain.j0 k t166 true))) else (boltinglaw01_CharsAgain.j0 k t166 true))) else (boltinglaw01_CharsAgain.j0 k t166 true)) = some r := H
    have A7 := Aside0.mk A70
    clear A70
    by_cases c8 : t167 = true
    · subst c8
      have H1 : ((chars_Decode.f t165).bind fun t168 => (if t168.toList = t165.toList then ((chars_Right.f t166).bind fun t169 => (if t169 = true then ((chars_Ready.f t166).bind fun t170 => (if t170.toList = t166.toList then ((chars_Lines.f a0).bind fun t171 => ((chars_Lines.f t171).bind fun t172 => ((chars_Lines.f a0).bind fun t173 => (boltinglaw01_CharsAgain.j0 k t166 (t172.toList != t173.toList))))) else (boltinglaw01_CharsAgain.j0 k t166 true))) else (boltinglaw01_CharsAgain.j0 k t166 true))) else (boltinglaw01_CharsAgain.j0 k t166 true))) = some r := by rw [if_pos rfl] at H; exact H
      clear H
      have H := H1
      clear H1
      replace H := Option.bind_eq_some_iff.mp H
      obtain ⟨t168, A90, H⟩ := H
      replace H : (if t168.toList = t165.toList then ((chars_Right.f t166).bind fun t169 => (if t169 = true then ((chars_Ready.f t166).bind fun t170 => (if t170.toList = t166.toList then ((chars_Lines.f a0).bind fun t171 => ((chars_Lines.f t171).bind fun t172 => ((chars_Lines.f a0).bind fun t173 => (boltinglaw01_CharsAgain.j0 k t166 (t172.toList != t173.toList))))) else (boltinglaw01_CharsAgain.j0 k t166 true))) else (boltinglaw01_CharsAgain.j0 k t166 true))) else (boltinglaw01_CharsAgain.j0 k t166 true)) = some r := H
      have A9 := Aside0.mk A90
      clear A90
      by_cases c10 : t168.toList = t165.toList
      · rw [if_pos c10] at H
        have c10b0 : (t168.toList == t165.toList) = true := beq_iff_eq.mpr c10
        have c10b1 : (t168.toList != t165.toList) = false := bne_eq_false_iff_eq.mpr c10
        clear c10
        (first | rw [c10b0] | (simp only [i64_w, i32_w]; rw [c10b0]) | skip)
        replace H := Option.bind_eq_some_iff.mp H
        obtain ⟨t169, A110, H⟩ := H
        replace H : (if t169 = true then ((chars_Ready.f t166).bind fun t170 => (if t170.toList = t166.toList then ((chars_Lines.f a0).bind fun t171 => ((chars_Lines.f t171).bind fun t172 => ((chars_Lines.f a0).bind fun t173 => (boltinglaw01_CharsAgain.j0 k t166 (t172.toList != t173.toList))))) else (boltinglaw01_CharsAgain.j0 k t166 true))) else (boltinglaw01_CharsAgain.j0 k t166 true)) = some r := H
        have A11 := Aside0.mk A110
        clear A110
        by_cases c12 : t169 = true
        · subst c12
          have H1 : ((chars_Ready.f t166).bind fun t170 => (if t170.toList = t166.toList then ((chars_Lines.f a0).bind fun t171 => ((chars_Lines.f t171).bind fun t172 => ((chars_Lines.f a0).bind fun t173 => (boltinglaw01_CharsAgain.j0 k t166 (t172.toList != t173.toList))))) else (boltinglaw01_CharsAgain.j0 k t166 true))) = some r := by rw [if_pos rfl] at H; exact H
          clear H
          have H := H1
          clear H1
          replace H := Option.bind_eq_some_iff.mp H
          obtain ⟨t170, A130, H⟩ := H
          replace H : (if t170.toList = t166.toList then ((chars_Lines.f a0).bind fun t171 => ((chars_Lines.f t171).bind fun t172 => ((chars_Lines.f a0).bind fun t173 => (boltinglaw01_CharsAgain.j0 k t166 (t172.toList != t173.toList))))) else (boltinglaw01_CharsAgain.j0 k t166 true)) = some r := H
          have A13 := Aside0.mk A130
          clear A130
          by_cases c14 : t170.toList = t166.toList
          · rw [if_pos c14] at H
            have c14b0 : (t170.toList == t166.toList) = true := beq_iff_eq.mpr c14
            have c14b1 : (t170.toList != t166.toList) = false := bne_eq_false_iff_eq.mpr c14
            clear c14
            replace H := Option.bind_eq_some_iff.mp H
            obtain ⟨t171, A150, H⟩ := H
            replace H : ((chars_Lines.f t171).bind fun t172 => ((chars_Lines.f a0).bind fun t173 => (boltinglaw01_CharsAgain.j0 k t166 (t172.toList != t173.toList)))) = some r := H
            have A15 := Aside0.mk A150
            clear A150
            replace H := Option.bind_eq_some_iff.mp H
            obtain ⟨t172, A160, H⟩ := H
            replace H : ((chars_Lines.f a0).bind fun t173 => (boltinglaw01_CharsAgain.j0 k t166 (t172.toList != t173.toList))) = some r := H
            have A16 := Aside0.mk A160
            clear A160
            replace H := Option.bind_eq_some_iff.mp H
            obtain ⟨t173, A170, H⟩ := H
            replace H : (boltinglaw01_CharsAgain.j0 k t166 (t172.toList != t173.toList)) = some r := H
            have A17 := Aside0.mk A170
            clear A170
            obtain rfl : t171 = t173 := Option.some.inj (A15.out.symm.trans A17.out)
            have H' := Aside0.mk H
            clear H
            go_wp2_with (first | ((with_reducible refine gate_callee (f := 15) rfl ?_); refine goesL_ (some 11) rfl rfl Tryd.func15 (by kernel_rfl) rfl #[.string t165] rfl (by (try simp only [List.map_toArray, List.map_cons, List.map_nil]); first | done | rfl | (simp only [List.length_drop, List.length_take]; rfl)) ?_; (with_reducible refine (chars_Right.calls t165 true _ (hG.out.go (by repeat (first | (with_reducible first | exact HB.out | apply below_alloc | apply pw_below_drewN | apply below_drew1) | exact HB.out))) A7.out).mono ?_); rintro e w18 ⟨rfl, hb⟩; refine ⟨_, rfl, ?_⟩; have n0_ := Aside0.mk (below_step (by repeat (first | (with_reducible first | exact HB.out | apply below_alloc | apply pw_below_drewN | apply below_drew1) | exact HB.out)) hb); clear HB; have HB := n0_; clear n0_; (try clear hb); (try clear hb2); (try clear hk); (try clear hi)) | (go_at_call 13; (with_reducible refine (chars_Decode.calls t165 t168 _ A9.out).mono ?_); rintro e w19 ⟨rfl, hb⟩; have n0_ := Aside0.mk (below_step (by repeat (first | (with_reducible first | exact HB.out | apply below_alloc | apply pw_below_drewN | apply below_drew1) | exact HB.out)) hb); clear HB; have HB := n0_; clear n0_; (try clear hb); (try clear hb2); (try clear hk); (try clear hi)) | (go_at_call 15; (with_reducible refine (chars_Right.calls t166 true _ (hG.out.go (by repeat (first | (with_reducible first | exact HB.out | apply below_alloc | apply pw_below_drewN | apply below_drew1) | exact HB.out))) A11.out).mono ?_); rintro e w20 ⟨rfl, hb⟩; have n0_ := Aside0.mk (below_step (by repeat (first | (with_reducible first | exact HB.out | apply below_alloc | apply pw_below_drewN | apply below_drew1) | exact HB.out)) hb); clear HB; have HB := n0_; clear n0_; (try clear hb); (try clear hb2); (try clear hk); (try clear hi)) | (go_at_call 20; (with_reducible refine (chars_Ready.calls t166 t170 _ (hG.out.go (by repeat (first | (with_reducible first | exact HB.out | apply below_alloc | apply pw_below_drewN | apply below_drew1) | exact HB.out))) A13.out).mono ?_); rintro e w21 ⟨rfl, hb⟩; have n0_ := Aside0.mk (below_step (by repeat (first | (with_reducible first | exact HB.out | apply below_alloc | apply pw_below_drewN | apply below_drew1) | exact HB.out)) hb); clear HB; have HB := n0_; clear n0_; (try clear hb); (try clear hb2); (try clear hk); (try clear hi)) | (go_at_call 18; (with_reducible refine (chars_Lines.calls a0 t171 _ (hG.out.go (by repeat (first | (with_reducible first | exact HB.out | apply below_alloc | apply pw_below_drewN | apply below_drew1) | exact HB.out))) A15.out).mono ?_); rintro e w22 ⟨rfl, hb⟩; have n0_ := Aside0.mk (below_step (by repeat (first | (with_reducible first | exact HB.out | apply below_alloc | apply pw_below_drewN | apply below_drew1) | exact HB.out)) hb); clear HB; have HB := n0_; clear n0_; (try clear hb); (try clear hb2); (try clear hk); (try clear hi)) | (go_at_call 18; (with_reducible refine (chars_Lines.calls t171 t172 _ (hG.out.go (by repeat (first | (with_reducible first | exact HB.out | apply below_alloc | apply pw_below_drewN | apply below_drew1) | exact HB.out))) A16.out).mono ?_); rintro e w23 ⟨rfl, hb⟩; have n0_ := Aside0.mk (below_step (by repeat (first | (with_reducible first | exact HB.out | apply below_alloc | apply pw_below_drewN | apply below_drew1) | exact HB.out)) hb); clear HB; have HB := n0_; clear n0_; (try clear hb); (try clear hb2); (try clear hk); (try clear hi)) | (go_at_call 18; (with_reducible refine (chars_Lines.calls a0 t171 _ (hG.out.go (by repeat (first | (with_reducible first | exact HB.out | apply below_alloc | apply pw_below_drewN | apply below_drew1) | exact HB.out))) A17.out).mono ?_); rintro e w24 ⟨rfl, hb⟩; have n0_ := Aside0.mk (below_step (by repeat (first | (with_reducible first | exact HB.out | apply below_alloc | apply pw_below_drewN | apply below_drew1) | exact HB.out)) hb); clear HB; have HB := n0_; clear n0_; (try clear hb); (try clear hb2); (try clear hk); (try clear hi)))
            go_meet
            case rel => exact ⟨_, ((t172.toList != t171.toList)), (by first | rfl | (simp; done) | (simp [*]; done)), H', ⟨by first | omega | exact Nat.le_refl _⟩, ⟨by repeat (first | (with_reducible first | exact HB.out | apply below_alloc | apply pw_below_drewN | apply below_drew1) | exact HB.out)⟩⟩
          · rw [if_neg c14] at H
            have c14b0 : (t170.toList == t166.toList) = false := beq_eq_false_iff_ne.mpr c14
            have c14b1 : (t170.toList != t166.toList) = true := bne_iff_ne.mpr c14
            have H' := Aside0.mk H
            clear H
            go_wp2_with (first | ((with_reducible refine gate_callee (f := 15) rfl ?_); refine goesL_ (some 11) rfl rfl Tryd.func15 (by kernel_rfl) rfl #[.string t165] rfl (by (try simp only [List.map_toArray, List.map_cons, List.map_nil]); first | done | rfl | (simp only [List.length_drop, List.length_take]; rfl)) ?_; (with_reducible refine (chars_Right.calls t165 true _ (hG.out.go (by repeat (first | (with_reducible first | exact HB.out | apply below_alloc | apply pw_below_drewN | apply below_drew1) | exact HB.out))) A7.out).mono ?_); rintro e w25 ⟨rfl, hb⟩; refine ⟨_, rfl, ?_⟩; have n0_ := Aside0.mk (below_step (by repeat (first | (with_reducible first | exact HB.out | apply below_alloc | apply pw_below_drewN | apply below_drew1) | exact HB.out)) hb); clear HB; have HB := n0_; clear n0_; (try clear hb); (try clear hb2); (try clear hk); (try clear hi)) | (go_at_call 13; (with_reducible refine (chars_Decode.calls t165 t168 _ A9.out).mono ?_); rintro e w26 ⟨rfl, hb⟩; have n0_ := Aside0.mk (below_step (by repeat (first | (with_reducible first | exact HB.out | apply below_alloc | apply pw_below_drewN | apply below_drew1) | exact HB.out)) hb); clear HB; have HB := n0_; clear n0_; (try clear hb); (try clear hb2); (try clear hk); (try clear hi)) | (go_at_call 15; (with_reducible refine (chars_Right.calls t166 true _ (hG.out.go (by repeat (first | (with_reducible first | exact HB.out | apply below_alloc | apply pw_below_drewN | apply below_drew1) | exact HB.out))) A11.out).mono ?_); rintro e w27 ⟨rfl, hb⟩; have n0_ := Aside0.mk (below_step (by repeat (first | (with_reducible first | exact HB.out | apply below_alloc | apply pw_below_drewN | apply below_drew1) | exact HB.out)) hb); clear HB; have HB := n0_; clear n0_; (try clear hb); (try clear hb2); (try clear hk); (try clear hi)) | (go_at_call 20; (with_reducible refine (chars_Ready.calls t166 t170 _ (hG.out.go (by repeat (first | (with_reducible first | exact HB.out | apply below_alloc | apply pw_below_drewN | apply below_drew1) | exact HB.out))) A13.out).mono ?_); rintro e w28 ⟨rfl, hb⟩; have n0_ := Aside0.mk (below_step (by repeat (first | (with_reducible first | exact HB.out | apply below_alloc | apply pw_below_drewN | apply below_drew1) | exact HB.out)) hb); clear HB; have HB := n0_; clear n0_; (try clear hb); (try clear hb2); (try clear hk); (try clear hi)))
            go_meet
            case rel => exact ⟨_, (true), (by first | rfl | (simp; done) | (simp [*]; done)), H', ⟨by first | omega | exact Nat.le_refl _⟩, ⟨by repeat (first | (with_reducible first | exact HB.out | apply below_alloc | apply pw_below_drewN | apply below_drew1) | exact HB.out)⟩⟩
        · replace c12 := Bool.eq_false_iff.mpr c12
          subst c12
          have H1 : (boltinglaw01_CharsAgain.j0 k t166 true) = some r := by rw [if_neg (show ¬ (false = true) by decide)] at H; exact H
          clear H
          have H := H1
          clear H1
          have H' := Aside0.mk H
          clear H
          go_wp2_with (first | ((with_reducible refine gate_callee (f := 15) rfl ?_); refine goesL_ (some 11) rfl rfl Tryd.func15 (by kernel_rfl) rfl #[.string t165] rfl (by (try simp only [List.map_toArray, List.map_cons, List.map_nil]); first | done | rfl | (simp only [List.length_drop, List.length_take]; rfl)) ?_; (with_reducible refine (chars_Right.calls t165 true _ (hG.out.go (by repeat (first | (with_reducible first | exact HB.out | apply below_alloc | apply pw_below_drewN | apply below_drew1) | exact HB.out))) A7.out).mono ?_); rintro e w29 ⟨rfl, hb⟩; refine ⟨_, rfl, ?_⟩; have n0_ := Aside0.mk (below_step (by repeat (first | (with_reducible first | exact HB.out | apply below_alloc | apply pw_below_drewN | apply below_drew1) | exact HB.out)) hb); clear HB; have HB := n0_; clear n0_; (try clear hb); (try clear hb2); (try clear hk); (try clear hi)) | (go_at_call 13; (with_reducible refine (chars_Decode.calls t165 t168 _ A9.out).mono ?_); rintro e w30 ⟨rfl, hb⟩; have n0_ := Aside0.mk (below_step (by repeat (first | (with_reducible first | exact HB.out | apply below_alloc | apply pw_below_drewN | apply below_drew1) | exact HB.out)) hb); clear HB; have HB := n0_; clear n0_; (try clear hb); (try clear hb2); (try clear hk); (try clear hi)) | (go_at_call 15; (with_reducible refine (chars_Right.calls t166 false _ (hG.out.go (by repeat (first | (with_reducible first | exact HB.out | apply below_alloc | apply pw_below_drewN | apply below_drew1) | exact HB.out))) A11.out).mono ?_); rintro e w31 ⟨rfl, hb⟩; have n0_ := Aside0.mk (below_step (by repeat (first | (with_reducible first | exact HB.out | apply below_alloc | apply pw_below_drewN | apply below_drew1) | exact HB.out)) hb); clear HB; have HB := n0_; clear n0_; (try clear hb); (try clear hb2); (try clear hk); (try clear hi)))
          go_meet
          case rel => exact ⟨_, (true), (by first | rfl | (simp; done) | (simp [*]; done)), H', ⟨by first | omega | exact Nat.le_refl _⟩, ⟨by repeat (first | (with_reducible first | exact HB.out | apply below_alloc | apply pw_below_drewN | apply below_drew1) | exact HB.out)⟩⟩
      · rw [if_neg c10] at H
        have c10b0 : (t168.toList == t165.toList) = false := beq_eq_false_iff_ne.mpr c10
        have c10b1 : (t168.toList != t165.toList) = true := bne_iff_ne.mpr c10
        (first | rw [c10b0] | (simp only [i64_w, i32_w]; rw [c10b0]) | skip)
        have H' := Aside0.mk H
        clear H
        go_wp2_with (first | ((with_reducible refine gate_callee (f := 15) rfl ?_); refine goesL_ (some 11) rfl rfl Tryd.func15 (by kernel_rfl) rfl #[.string t165] rfl (by (try simp only [List.map_toArray, List.map_cons, List.map_nil]); first | done | rfl | (simp only [List.length_drop, List.length_take]; rfl)) ?_; (with_reducible refine (chars_Right.calls t165 true _ (hG.out.go (by repeat (first | (with_reducible first | exact HB.out | apply below_alloc | apply pw_below_drewN | apply below_drew1) | exact HB.out))) A7.out).mono ?_); rintro e w32 ⟨rfl, hb⟩; refine ⟨_, rfl, ?_⟩; have n0_ := Aside0.mk (below_step (by repeat (first | (with_reducible first | exact HB.out | apply below_alloc | apply pw_below_drewN | apply below_drew1) | exact HB.out)) hb); clear HB; have HB := n0_; clear n0_; (try clear hb); (try clear hb2); (try clear hk); (try clear hi)) | (go_at_call 13; (with_reducible refine (chars_Decode.calls t165 t168 _ A9.out).mono ?_); rintro e w33 ⟨rfl, hb⟩; have n0_ := Aside0.mk (below_step (by repeat (first | (with_reducible first | exact HB.out | apply below_alloc | apply pw_below_drewN | apply below_drew1) | exact HB.out)) hb); clear HB; have HB := n0_; clear n0_; (try clear hb); (try clear hb2); (try clear hk); (try clear hi)))
        go_meet
        case rel => exact ⟨_, (true), (by first | rfl | (simp; done) | (simp [*]; done)), H', ⟨by first | omega | exact Nat.le_refl _⟩, ⟨by repeat (first | (with_reducible first | exact HB.out | apply below_alloc | apply pw_below_drewN | apply below_drew1) | exact HB.out)⟩⟩
    · replace c8 := Bool.eq_false_iff.mpr c8
      subst c8
      have H1 : (boltinglaw01_CharsAgain.j0 k t166 true) = some r := by rw [if_neg (show ¬ (false = true) by decide)] at H; exact H
      clear H
      have H := H1
      clear H1
      have H' := Aside0.mk H
      clear H
      go_wp2_with (first | ((with_reducible refine gate_callee (f := 15) rfl ?_); refine goesL_ (some 11) rfl rfl Tryd.func15 (by kernel_rfl) rfl #[.string t165] rfl (by (try simp only [List.map_toArray, List.map_cons, List.map_nil]); first | done | rfl | (simp only [List.length_drop, List.length_take]; rfl)) ?_; (with_reducible refine (chars_Right.calls t165 false _ (hG.out.go (by repeat (first | (with_reducible first | exact HB.out | apply below_alloc | apply pw_below_drewN | apply below_drew1) | exact HB.out))) A7.out).mono ?_); rintro e w34 ⟨rfl, hb⟩; refine ⟨_, rfl, ?_⟩; have n0_ := Aside0.mk (below_step (by repeat (first | (with_reducible first | exact HB.out | apply below_alloc | apply pw_below_drewN | apply below_drew1) | exact HB.out)) hb); clear HB; have HB := n0_; clear n0_; (try clear hb); (try clear hb2); (try clear hk); (try clear hi)))
      go_meet
      case rel => exact ⟨_, (true), (by first | rfl | (simp; done) | (simp [*]; done)), H', ⟨by first | omega | exact Nat.le_refl _⟩, ⟨by repeat (first | (with_reducible first | exact HB.out | apply below_alloc | apply pw_below_drewN | apply below_drew1) | exact HB.out)⟩⟩
  case rest =>
    clear HC4
    try clear c1
    try clear c2
    try clear p2
    try clear c6
    try clear c8
    try clear c10
    try clear c10b0
    try clear c10b1
    try clear c12
    try clear c13
    try clear c14
    try clear c14b0
    try clear c14b1
    try clear c15
    try clear c20
    obtain ⟨kq, x37_3, rfl, HA, HJ3, HB⟩ := hcut
    cases kq with
    | zero => exact absurd HA.out (by simp [boltinglaw01_CharsAgain.j0])
    | succ kj3 =>
      have H := HA.out
      clear HA
      simp only [boltinglaw01_CharsAgain.j0] at H
      by_cases c35 : x37_3 = true
      · subst c35
        have H1 : (some false) = some r := by rw [if_pos rfl] at H; exact H
        clear H
        have H := H1
        clear H1
        obtain rfl := Option.some.inj H
        go_wp2
        go_ret
        exact ⟨by first | rfl | (simp [errW_none, errW_some] <;> rfl) | (simp [*, errW_none, errW_some] <;> rfl), by repeat (first | (with_reducible first | exact HB.out | apply below_alloc | apply pw_below_drewN | apply below_drew1) | exact HB.out)⟩
      · replace c35 := Bool.eq_false_iff.mpr c35
        subst c35
        have H1 : (boltinglaw01_CharsAgain.l0 kj3 t166 0) = some r := by rw [if_neg (show ¬ (false = true) by decide)] at H; exact H
        clear H
        have H := H1
        clear H1
        have H' := Aside0.mk H
        clear H
        go_wp2
        go_loopg [5] kj3 (fun kq v5 w' => ∃ (x5_2 : Int), v5 = .int .i64 x5_2 ∧ Aside0 (boltinglaw01_CharsAgain.l0 kq t166 x5_2 = some r) ∧ Aside0 (kq ≤ kj3) ∧ Aside0 (Below w.heap.size w w'))
        case atStart => exact ⟨(0), (by first | rfl | (simp; done) | (simp [*]; done)), H', ⟨Nat.le_refl _⟩, ⟨by repeat (first | (with_reducible first | exact HB.out | apply below_alloc | apply pw_below_drewN | apply below_drew1) | exact HB.out)⟩⟩
        case round =>
          clear H'
          try clear c1
          try clear c2
          try clear p2
          try clear c3
          try clear c6
          try clear c8
          try clear c10
          try clear c10b0
          try clear c10b1
          try clear c12
          try clear c13
          try clear c14
          try clear c14b0
          try clear c14b1
          try clear c15
          try clear c20
          try clear c35
          try clear p2
          obtain ⟨x5_2, rfl, HA, HK2, HB⟩ := hrel
          cases gk with
          | zero => exact absurd HA.out (by simp [boltinglaw01_CharsAgain.l0])
          | succ k2 =>
            have H := HA.out
            clear HA
            simp only [boltinglaw01_CharsAgain.l0] at H
            by_cases c36 : x5_2 < (t166.size : Int)
            · rw [if_pos c36] at H
              have c36b0 : decide (x5_2 < (t166.size : Int)) = true := decide_eq_true c36
              clear c36
              by_cases c37 : 0 ≤ x5_2
              · rw [if_pos c37] at H
                have c37b0 : decide (0 ≤ x5_2) = true := decide_eq_true c37
                clear c37
                by_cases c39 : (bt t166 x5_2) = 0
                · rw [if_pos c39] at H
                  have c39b0 : ((bt t166 x5_2) == 0) = true := beq_iff_eq.mpr c39
                  have c39b1 : ((bt t166 x5_2) != 0) = false := bne_eq_false_iff_eq.mpr c39
                  clear c39
                  obtain rfl := Option.some.inj H
                  have p38 : 0 ≤ (x5_2 : Int) := of_decide_eq_true (by first | (with_reducible assumption) | assumption)
                  have q38 : x5_2 < (t166.size : Int) := of_decide_eq_true (by first | (with_reducible assumption) | assumption)
                  have hx38 := bt_at t166 x5_2
                  replace p38 := eq_true p38
                  replace q38 := eq_true q38
                  go_wp2
                  go_ret
                  exact ⟨by first | rfl | (simp [errW_none, errW_some] <;> rfl) | (simp [*, errW_none, errW_some] <;> rfl), by repeat (first | (with_reducible first | exact HB.out | apply below_alloc | apply pw_below_drewN | apply below_drew1) | exact HB.out)⟩
                · rw [if_neg c39] at H
                  have c39b0 : ((bt t166 x5_2) == 0) = false := beq_eq_false_iff_ne.mpr c39
                  have c39b1 : ((bt t166 x5_2) != 0) = true := bne_iff_ne.mpr c39
                  by_cases c41 : (bt t166 x5_2) = 13
                  · rw [if_pos c41] at H
                    have c41b0 : ((bt t166 x5_2) == 13) = true := beq_iff_eq.mpr c41
                    have c41b1 : ((bt t166 x5_2) != 13) = false := bne_eq_false_iff_eq.mpr c41
                    clear c41
                    obtain rfl := Option.some.inj H
                    have p38 : 0 ≤ (x5_2 : Int) := of_decide_eq_true (by first | (with_reducible assumption) | assumption)
                    have q38 : x5_2 < (t166.size : Int) := of_decide_eq_true (by first | (with_reducible assumption) | assumption)
                    have hx38 := bt_at t166 x5_2
                    replace p38 := eq_true p38
                    replace q38 := eq_true q38
                    have p40 : 0 ≤ (x5_2 : Int) := of_decide_eq_true (by first | (with_reducible assumption) | assumption)
                    have q40 : x5_2 < (t166.size : Int) := of_decide_eq_true (by first | (with_reducible assumption) | assumption)
                    have hx40 := bt_at t166 x5_2
                    replace p40 := eq_true p40
                    replace q40 := eq_true q40
                    go_wp2
                    go_ret
                    exact ⟨by first | rfl | (simp [errW_none, errW_some] <;> rfl) | (simp [*, errW_none, errW_some] <;> rfl), by repeat (first | (with_reducible first | exact HB.out | apply below_alloc | apply pw_below_drewN | apply below_drew1) | exact HB.out)⟩
                  · rw [if_neg c41] at H
                    have c41b0 : ((bt t166 x5_2) == 13) = false := beq_eq_false_iff_ne.mpr c41
                    have c41b1 : ((bt t166 x5_2) != 13) = true := bne_iff_ne.mpr c41
                    have H' := Aside0.mk H
                    clear H
                    have p38 : 0 ≤ (x5_2 : Int) := of_decide_eq_true (by first | (with_reducible assumption) | assumption)
                    have q38 : x5_2 < (t166.size : Int) := of_decide_eq_true (by first | (with_reducible assumption) | assumption)
                    have hx38 := bt_at t166 x5_2
                    replace p38 := eq_true p38
                    replace q38 := eq_true q38
                    have p40 : 0 ≤ (x5_2 : Int) := of_decide_eq_true (by first | (with_reducible assumption) | assumption)
                    have q40 : x5_2 < (t166.size : Int) := of_decide_eq_true (by first | (with_reducible assumption) | assumption)
                    have hx40 := bt_at t166 x5_2
                    replace p40 := eq_true p40
                    replace q40 := eq_true q40
                    go_wp2
                    go_roundg k2
                    case measure => have := HJ3.out; have := HK2.out; omega
                    case rel => exact ⟨(wrap64 (x5_2 + 1)), (by first | rfl | (simp; done) | (simp [*]; done)), H', ⟨by have := HJ3.out; have := HK2.out; omega⟩, ⟨by repeat (first | (with_reducible first | exact HB.out | apply below_alloc | apply pw_below_drewN | apply below_drew1) | exact HB.out)⟩⟩
              · rw [if_neg c37] at H
                exact absurd H (by simp)
            · rw [if_neg c36] at H
              have c36b0 : decide (x5_2 < (t166.size : Int)) = false := decide_eq_false c36
              clear c36
              replace H := Option.bind_eq_some_iff.mp H
              obtain ⟨t174, A420, H⟩ := H
              replace H : (some t174) = some r := H
              have A42 := Aside0.mk A420
              clear A420
              obtain rfl := Option.some.inj H
              go_wp2_with (first | ((with_reducible refine gate_callee (f := 12) rfl ?_); refine goesL_ (some 54) rfl rfl Tryd.func12 (by kernel_rfl) rfl #[] rfl (by (try simp only [List.map_toArray, List.map_cons, List.map_nil]); first | done | rfl | (simp only [List.length_drop, List.length_take]; rfl)) ?_; (with_reducible refine (boltinglaw01_fixed.calls  t174 _ (hG.out.go (by repeat (first | (with_reducible first | exact HB.out | apply below_alloc | apply pw_below_drewN | apply below_drew1) | exact HB.out))) A42.out).mono ?_); rintro e w43 ⟨rfl, hb⟩; refine ⟨_, rfl, ?_⟩; have n0_ := Aside0.mk (below_step (by repeat (first | (with_reducible first | exact HB.out | apply below_alloc | apply pw_below_drewN | apply below_drew1) | exact HB.out)) hb); clear HB; have HB := n0_; clear n0_; (try clear hb); (try clear hb2); (try clear hk); (try clear hi)))
              go_ret
              exact ⟨by first | rfl | (simp [errW_none, errW_some] <;> rfl) | (simp [*, errW_none, errW_some] <;> rfl), by repeat (first | (with_reducible first | exact HB.out | apply below_alloc | apply pw_below_drewN | apply below_drew1) | exact HB.out)⟩

end Go.Proofs.YtaeikiigdfgmaaaDoor.Pr
