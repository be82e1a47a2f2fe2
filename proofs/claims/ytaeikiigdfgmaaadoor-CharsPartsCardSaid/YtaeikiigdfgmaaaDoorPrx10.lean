-- Written by wip/tools/pr.sh out of Lean's own print of the translation. Not trusted: Lean checks it.
import Derived.Test.YtaeikiigdfgmaaaDoorPrx0
import Derived.Test.YtaeikiigdfgmaaaDoorPrx2
namespace Go.Proofs.YtaeikiigdfgmaaaDoor.Pr
open Go.RowKit Go.Proofs.YtaeikiigdfgmaaaDoorW.PrintWords Go.Proofs.YtaeikiigdfgmaaaDoorW.PrintLast Go.Proofs.YtaeikiigdfgmaaaDoorW.PrintMore
attribute [local go_sem] max2_int min2_int max_two min_two max_three min_three max_four min_four   -- for this text's walks alone
set_option linter.unusedVariables false
set_option linter.unusedSimpArgs false

/-! ### boltinglaw01_CharsParts: function 8 -/
def boltinglaw01_CharsParts.j0 : Nat → ByteArray → Bool → Option (Bool)
  | 0, _, _ => none
  | k + 1, x0, x31 => if x31 = true then (some false) else ((chars_Count.f x0).bind fun t189 => ((chars_Sample.f x0 t189).bind fun t190 => (if t190.toList = x0.toList then ((boltinglaw01_fixed.f).bind fun t191 => (some t191)) else (some false))))
def boltinglaw01_CharsParts.f (k : Nat) (a0 : ByteArray) (a1 : Int) : Option (Bool) := (chars_Sample.f a0 a1).bind fun t186 => (if (t186.size : Int) > (a0.size : Int) then (boltinglaw01_CharsParts.j0 k a0 true) else (if 0 ≤ (t186.size : Int) then (if (t186.size : Int) ≤ (a0.size : Int) then (if (a0.extract 0 ((t186.size : Int) : Int).toNat).toList = t186.toList then ((chars_Count.f t186).bind fun t187 => ((chars_Count.f a0).bind fun t188 => (boltinglaw01_CharsParts.j0 k a0 (t187 != (mx 0 (mn a1 t188)))))) else (boltinglaw01_CharsParts.j0 k a0 true)) else (none)) else (none)))
theorem boltinglaw01_CharsParts.mono_l : ∀ k, (∀ y0 y1, LeO (boltinglaw01_CharsParts.j0 k y0 y1) (boltinglaw01_CharsParts.j0 (k + 1) y0 y1))
  | 0 => fun _ _ r h => by simp [boltinglaw01_CharsParts.j0] at h
  | k + 1 => by
    have ih0 := boltinglaw01_CharsParts.mono_l k
    · intro y0 y1
      unfold boltinglaw01_CharsParts.j0
      repeat' first
      | (with_reducible exact ih0 _ _)
      | (with_reducible exact LeO.refl _)
      | (with_reducible exact LeO.none _)
      | (with_reducible refine LeO.ite ?_ ?_)
      | (with_reducible refine LeO.bind ?_ (fun _ => ?_))
      | exact ih0 _ _
      | exact LeO.none _
      | refine LeO.ite ?_ ?_
      | refine LeO.bind ?_ (fun _ => ?_)
theorem boltinglaw01_CharsParts.mono : ∀ a0 a1 k, LeO (boltinglaw01_CharsParts.f k a0 a1) (boltinglaw01_CharsParts.f (k + 1) a0 a1) := by
  intro a0 a1 k
  have ih0 := boltinglaw01_CharsParts.mono_l k
  unfold boltinglaw01_CharsParts.f
  repeat' first
      | (with_reducible exact ih0 _ _)
      | (with_reducible exact LeO.refl _)
      | (with_reducible exact LeO.none _)
      | (with_reducible refine LeO.ite ?_ ?_)
      | (with_reducible refine LeO.bind ?_ (fun _ => ?_))
      | exact ih0 _ _
      | exact LeO.none _
      | refine LeO.ite ?_ ?_
      | refine LeO.bind ?_ (fun _ => ?_)
set_option maxHeartbeats 8000000 in
set_option maxRecDepth 100000 in
theorem boltinglaw01_CharsParts.calls (k : Nat) (a0 : ByteArray) (a1 : Int) (r : Bool) (w : World) (hG0 : G w) (h : boltinglaw01_CharsParts.f k a0 a1 = some r) :
    Calls Tryd.prog 8 #[.string a0, .int .i64 a1] w fun e w' => e = .returned (.bool r) ∧ Below w.heap.size w w' := by
  have hG := Aside0.mk hG0
  clear hG0
  have HB := Aside0.mk (Below.refl w.heap.size w)
  have H : ((chars_Sample.f a0 a1).bind fun t186 => (if (t186.size : Int) > (a0.size : Int) then (boltinglaw01_CharsParts.j0 k a0 true) else (if 0 ≤ (t186.size : Int) then (if (t186.size : Int) ≤ (a0.size : Int) then (if (a0.extract 0 ((t186.size : Int) : Int).toNat).toList = t186.toList then ((chars_Count.f t186).bind fun t187 => ((chars_Count.f a0).bind fun t188 => (boltinglaw01_CharsParts.j0 k a0 (t187 != (mx 0 (mn a1 t188)))))) else (boltinglaw01_CharsParts.j0 k a0 true)) else (none)) else (none)))) = some r := h
  clear h
  replace H := Option.bind_eq_some_iff.mp H
  obtain ⟨t186, A30, H⟩ := H
  replace H : (if (t186.size : Int) > (a0.size : Int) then (boltinglaw01_CharsParts.j0 k a0 true) else (if 0 ≤ (t186.size : Int) then (if (t186.size : Int) ≤ (a0.size : Int) then (if (a0.extract 0 ((t186.size : Int) : Int).toNat).toList = t186.toList then ((chars_Count.f t186).bind fun t187 => ((chars_Count.f a0).bind fun t188 => (boltinglaw01_CharsParts.j0 k a0 (t187 != (mx 0 (mn a1 t188)))))) else (boltinglaw01_CharsParts.j0 k a0 true)) else (none)) else (none))) = some r := H
  have A3 := Aside0.mk A30
  clear A30
  have HC4 := Aside0.mk H
  clear H
  go_enter Tryd.func8, Tryd.ntmps8
  go_upto_region 2 with (first | ((with_reducible refine gate_callee (f := 22) rfl ?_); refine goesL_ (some 8) rfl rfl Tryd.func22 (by kernel_rfl) rfl #[.string a0, .int .i64 a1] rfl (by (try simp only [List.map_toArray, List.map_cons, List.map_nil]); first | done | rfl | (simp only [List.length_drop, List.length_take]; rfl)) ?_; (with_reducible refine (chars_Sample.calls a0 a1 t186 _ A3.out).mono ?_); rintro e w5 ⟨rfl, hb⟩; refine ⟨_, rfl, ?_⟩; have n0_ := Aside0.mk (below_step (by repeat (first | (with_reducible first | exact HB.out | apply below_alloc | apply pw_below_drewN | apply below_drew1) | exact HB.out)) hb); clear HB; have HB := n0_; clear n0_; (try clear hb); (try clear hb2); (try clear hk); (try clear hi)))
  (try simp only [Act.put, List.setIfInBounds_toArray, List.set_cons_zero, List.set_cons_succ])
  go_cut [31] (fun v31 wc => ∃ (kq : Nat) (x31_3 : Bool), v31 = .bool x31_3 ∧ Aside0 (boltinglaw01_CharsParts.j0 kq a0 x31_3 = some r) ∧ Aside0 (kq ≤ k) ∧ Aside0 (Below w.heap.size w wc))
  case first =>
    have H := HC4.out
    clear HC4
    by_cases c6 : (t186.size : Int) > (a0.size : Int)
    · rw [if_pos c6] at H
      have c6b0 : decide ((a0.size : Int) < (t186.size : Int)) = true := decide_eq_true c6
      have c6b1 : decide (a0.size < t186.size) = true := decide_eq_true (Int.ofNat_lt.mp c6)
      clear c6
      (first | rw [c6b0] | (simp only [i64_w, i32_w]; rw [c6b0]) | skip)
      have H' := Aside0.mk H
      clear H
      go_wp2
      go_meet
      case rel => exact ⟨_, (true), (by first | rfl | (simp; done) | (simp [*]; done)), H', ⟨by first | omega | exact Nat.le_refl _⟩, ⟨by repeat (first | (with_reducible first | exact HB.out | apply below_alloc | apply pw_below_drewN | apply below_drew1) | exact HB.out)⟩⟩
    · rw [if_neg c6] at H
      have c6b0 : decide ((a0.size : Int) < (t186.size : Int)) = false := decide_eq_false c6
      have c6b1 : decide (a0.size < t186.size) = false := decide_eq_false (fun h => c6 (Int.ofNat_lt.mpr h))
      clear c6
      (first | rw [c6b0] | (simp only [i64_w, i32_w]; rw [c6b0]) | skip)
      by_cases c7 : 0 ≤ (t186.size : Int)
      · rw [if_pos c7] at H
        have c7b0 := eq_true c7
        have c7b1 : decide (0 ≤ (t186.size : Int)) = true := decide_eq_true c7
        clear c7
        by_cases c8 : (t186.size : Int) ≤ (a0.size : Int)
        · rw [if_pos c8] at H
          have c8b0 := eq_true c8
          have c8b1 : decide ((t186.size : Int) ≤ (a0.size : Int)) = true := decide_eq_true c8
          clear c8
          by_cases c9 : (a0.extract 0 ((t186.size : Int) : Int).toNat).toList = t186.toList
          · rw [if_pos c9] at H
            have c9b0 : ((a0.extract 0 ((t186.size : Int) : Int).toNat).toList == t186.toList) = true := beq_iff_eq.mpr c9
            (try (have c9b0x := c9b0; simp only [Int.toNat_natCast] at c9b0x))
            have c9b1 : ((a0.extract 0 ((t186.size : Int) : Int).toNat).toList != t186.toList) = false := bne_eq_false_iff_eq.mpr c9
            (try (have c9b1x := c9b1; simp only [Int.toNat_natCast] at c9b1x))
            clear c9
            replace H := Option.bind_eq_some_iff.mp H
            obtain ⟨t187, A100, H⟩ := H
            replace H : ((chars_Count.f a0).bind fun t188 => (boltinglaw01_CharsParts.j0 k a0 (t187 != (mx 0 (mn a1 t188))))) = some r := H
            have A10 := Aside0.mk A100
            clear A100
            replace H := Option.bind_eq_some_iff.mp H
            obtain ⟨t188, A110, H⟩ := H
            replace H : (boltinglaw01_CharsParts.j0 k a0 (t187 != (mx 0 (mn a1 t188)))) = some r := H
            have A11 := Aside0.mk A110
            clear A110
            obtain ⟨ji12, hji12⟩ : ∃ j_ : Int, (mn a1 t188) = j_ := ⟨_, rfl⟩
            replace H : (boltinglaw01_CharsParts.j0 k a0 (t187 != (mx 0 (ji12)))) = some r := by first | (rw [hji12] at H; exact H) | (simp only [hji12] at H ⊢; exact H)
            (try rw [hji12] at A10)
            (try rw [hji12] at A11)
            have hji12_ : (if t188 < a1 then t188 else a1) = ji12 := hji12
            obtain ⟨ji13, hji13⟩ : ∃ j_ : Int, (mx 0 (ji12)) = j_ := ⟨_, rfl⟩
            replace H : (boltinglaw01_CharsParts.j0 k a0 (t187 != (ji13))) = some r := by first | (rw [hji13] at H; exact H) | (simp only [hji13] at H ⊢; exact H)
            (try rw [hji13] at A10)
            (try rw [hji13] at A11)
            have hji13_ : (if 0 < (ji12) then (ji12) else 0) = ji13 := hji13
            have H' := Aside0.mk H
            clear H
            go_wp2_with (first | (go_at_call 17; (with_reducible refine (chars_Count.calls t186 t187 _ A10.out).mono ?_); rintro e w14 ⟨rfl, hb⟩; have n0_ := Aside0.mk (below_step (by repeat (first | (with_reducible first | exact HB.out | apply below_alloc | apply pw_below_drewN | apply below_drew1) | exact HB.out)) hb); clear HB; have HB := n0_; clear n0_; (try clear hb); (try clear hb2); (try clear hk); (try clear hi)) | (go_at_call 17; (with_reducible refine (chars_Count.calls a0 t188 _ A11.out).mono ?_); rintro e w15 ⟨rfl, hb⟩; have n0_ := Aside0.mk (below_step (by repeat (first | (with_reducible first | exact HB.out | apply below_alloc | apply pw_below_drewN | apply below_drew1) | exact HB.out)) hb); clear HB; have HB := n0_; clear n0_; (try clear hb); (try clear hb2); (try clear hk); (try clear hi)))
            go_meet
            case rel => exact ⟨_, ((t187 != (ji13))), (by first | rfl | (simp; done) | (simp only [← hji13] <;> (first | rfl | simp)) | (simp [*]; done)), H', ⟨by first | omega | exact Nat.le_refl _⟩, ⟨by repeat (first | (with_reducible first | exact HB.out | apply below_alloc | apply pw_below_drewN | apply below_drew1) | exact HB.out)⟩⟩
          · rw [if_neg c9] at H
            have c9b0 : ((a0.extract 0 ((t186.size : Int) : Int).toNat).toList == t186.toList) = false := beq_eq_false_iff_ne.mpr c9
            (try (have c9b0x := c9b0; simp only [Int.toNat_natCast] at c9b0x))
            have c9b1 : ((a0.extract 0 ((t186.size : Int) : Int).toNat).toList != t186.toList) = true := bne_iff_ne.mpr c9
            (try (have c9b1x := c9b1; simp only [Int.toNat_natCast] at c9b1x))
            have H' := Aside0.mk H
            clear H
            go_wp2
            go_meet
            case rel => exact ⟨_, (true), (by first | rfl | (simp; done) | (simp [*]; done)), H', ⟨by first | omega | exact Nat.le_refl _⟩, ⟨by repeat (first | (with_reducible first | exact HB.out | apply below_alloc | apply pw_below_drewN | apply below_drew1) | exact HB.out)⟩⟩
        · rw [if_neg c8] at H
          exact absurd H (by simp)
      · rw [if_neg c7] at H
        exact absurd H (by simp)
  case rest =>
    clear HC4
    try clear c2
    try clear p2
    try clear c6
    try clear c6b0
    try clear c6b1
    try clear c7
    try clear c7b0
    try clear c7b1
    try clear c8
    try clear c8b0
    try clear c8b1
    try clear c9
    try clear c9b0
    try clear c9b1
    obtain ⟨kq, x31_3, rfl, HA, HJ3, HB⟩ := hcut
    cases kq with
    | zero => exact absurd HA.out (by simp [boltinglaw01_CharsParts.j0])
    | succ kj3 =>
      have H := HA.out
      clear HA
      simp only [boltinglaw01_CharsParts.j0] at H
      by_cases c16 : x31_3 = true
      · subst c16
        have H1 : (some false) = some r := by rw [if_pos rfl] at H; exact H
        clear H
        have H := H1
        clear H1
        obtain rfl := Option.some.inj H
        go_wp2
        go_ret
        exact ⟨by first | rfl | (simp [errW_none, errW_some] <;> rfl) | (simp [*, errW_none, errW_some] <;> rfl), by repeat (first | (with_reducible first | exact HB.out | apply below_alloc | apply pw_below_drewN | apply below_drew1) | exact HB.out)⟩
      · replace c16 := Bool.eq_false_iff.mpr c16
        subst c16
        have H1 : ((chars_Count.f a0).bind fun t189 => ((chars_Sample.f a0 t189).bind fun t190 => (if t190.toList = a0.toList then ((boltinglaw01_fixed.f).bind fun t191 => (some t191)) else (some false)))) = some r := by rw [if_neg (show ¬ (false = true) by decide)] at H; exact H
        clear H
        have H := H1
        clear H1
        replace H := Option.bind_eq_some_iff.mp H
        obtain ⟨t189, A170, H⟩ := H
        replace H : ((chars_Sample.f a0 t189).bind fun t190 => (if t190.toList = a0.toList then ((boltinglaw01_fixed.f).bind fun t191 => (some t191)) else (some false))) = some r := H
        have A17 := Aside0.mk A170
        clear A170
        replace H := Option.bind_eq_some_iff.mp H
        obtain ⟨t190, A180, H⟩ := H
        replace H : (if t190.toList = a0.toList then ((boltinglaw01_fixed.f).bind fun t191 => (some t191)) else (some false)) = some r := H
        have A18 := Aside0.mk A180
        clear A180
        by_cases c19 : t190.toList = a0.toList
        · rw [if_pos c19] at H
          have c19b0 : (t190.toList == a0.toList) = true := beq_iff_eq.mpr c19
          have c19b1 : (t190.toList != a0.toList) = false := bne_eq_false_iff_eq.mpr c19
          clear c19
          replace H := Option.bind_eq_some_iff.mp H
          obtain ⟨t191, A200, H⟩ := H
          replace H : (some t191) = some r := H
          have A20 := Aside0.mk A200
          clear A200
          obtain rfl := Option.some.inj H
          go_wp2_with (first | ((with_reducible refine gate_callee (f := 17) rfl ?_); refine goesL_ (some 34) rfl rfl Tryd.func17 (by kernel_rfl) rfl #[.string a0] rfl (by (try simp only [List.map_toArray, List.map_cons, List.map_nil]); first | done | rfl | (simp only [List.length_drop, List.length_take]; rfl)) ?_; (with_reducible refine (chars_Count.calls a0 t189 _ A17.out).mono ?_); rintro e w21 ⟨rfl, hb⟩; refine ⟨_, rfl, ?_⟩; have n0_ := Aside0.mk (below_step (by repeat (first | (with_reducible first | exact HB.out | apply below_alloc | apply pw_below_drewN | apply below_drew1) | exact HB.out)) hb); clear HB; have HB := n0_; clear n0_; (try clear hb); (try clear hb2); (try clear hk); (try clear hi)) | ((with_reducible refine gate_callee (f := 22) rfl ?_); refine goesL_ (some 35) rfl rfl Tryd.func22 (by kernel_rfl) rfl #[.string a0, .int .i64 t189] rfl (by (try simp only [List.map_toArray, List.map_cons, List.map_nil]); first | done | rfl | (simp only [List.length_drop, List.length_take]; rfl)) ?_; (with_reducible refine (chars_Sample.calls a0 t189 t190 _ A18.out).mono ?_); rintro e w22 ⟨rfl, hb⟩; refine ⟨_, rfl, ?_⟩; have n0_ := Aside0.mk (below_step (by repeat (first | (with_reducible first | exact HB.out | apply below_alloc | apply pw_below_drewN | apply below_drew1) | exact HB.out)) hb); clear HB; have HB := n0_; clear n0_; (try clear hb); (try clear hb2); (try clear hk); (try clear hi)) | (go_at_call 12; (with_reducible refine (boltinglaw01_fixed.calls  t191 _ (hG.out.go (by repeat (first | (with_reducible first | exact HB.out | apply below_alloc | apply pw_below_drewN | apply below_drew1) | exact HB.out))) A20.out).mono ?_); rintro e w23 ⟨rfl, hb⟩; have n0_ := Aside0.mk (below_step (by repeat (first | (with_reducible first | exact HB.out | apply below_alloc | apply pw_below_drewN | apply below_drew1) | exact HB.out)) hb); clear HB; have HB := n0_; clear n0_; (try clear hb); (try clear hb2); (try clear hk); (try clear hi)))
          go_ret
          exact ⟨by first | rfl | (simp [errW_none, errW_some] <;> rfl) | (simp [*, errW_none, errW_some] <;> rfl), by repeat (first | (with_reducible first | exact HB.out | apply below_alloc | apply pw_below_drewN | apply below_drew1) | exact HB.out)⟩
        · rw [if_neg c19] at H
          have c19b0 : (t190.toList == a0.toList) = false := beq_eq_false_iff_ne.mpr c19
          have c19b1 : (t190.toList != a0.toList) = true := bne_iff_ne.mpr c19
          obtain rfl := Option.some.inj H
          go_wp2_with (first | ((with_reducible refine gate_callee (f := 17) rfl ?_); refine goesL_ (some 34) rfl rfl Tryd.func17 (by kernel_rfl) rfl #[.string a0] rfl (by (try simp only [List.map_toArray, List.map_cons, List.map_nil]); first | done | rfl | (simp only [List.length_drop, List.length_take]; rfl)) ?_; (with_reducible refine (chars_Count.calls a0 t189 _ A17.out).mono ?_); rintro e w24 ⟨rfl, hb⟩; refine ⟨_, rfl, ?_⟩; have n0_ := Aside0.mk (below_step (by repeat (first | (with_reducible first | exact HB.out | apply below_alloc | apply pw_below_drewN | apply below_drew1) | exact HB.out)) hb); clear HB; have HB := n0_; clear n0_; (try clear hb); (try clear hb2); (try clear hk); (try clear hi)) | ((with_reducible refine gate_callee (f := 22) rfl ?_); refine goesL_ (some 35) rfl rfl Tryd.func22 (by kernel_rfl) rfl #[.string a0, .int .i64 t189] rfl (by (try simp only [List.map_toArray, List.map_cons, List.map_nil]); first | done | rfl | (simp only [List.length_drop, List.length_take]; rfl)) ?_; (with_reducible refine (chars_Sample.calls a0 t189 t190 _ A18.out).mono ?_); rintro e w25 ⟨rfl, hb⟩; refine ⟨_, rfl, ?_⟩; have n0_ := Aside0.mk (below_step (by repeat (first | (with_reducible first | exact HB.out | apply below_alloc | apply pw_below_drewN | apply below_drew1) | exact HB.out)) hb); clear HB; have HB := n0_; clear n0_; (try clear hb); (try clear hb2); (try clear hk); (try clear hi)))
          go_ret
          exact ⟨by first | rfl | (simp [errW_none, errW_some] <;> rfl) | (simp [*, errW_none, errW_some] <;> rfl), by repeat (first | (with_reducible first | exact HB.out | apply below_alloc | apply pw_below_drewN | apply below_drew1) | exact HB.out)⟩

end Go.Proofs.YtaeikiigdfgmaaaDoor.Pr
