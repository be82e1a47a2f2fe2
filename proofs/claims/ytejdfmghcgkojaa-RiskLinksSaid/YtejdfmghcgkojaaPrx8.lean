-- Written by wip/tools/pr.sh out of Lean's own print of the translation. Not trusted: Lean checks it.
import Derived.Test.YtejdfmghcgkojaaPrx0
import Derived.Test.YtejdfmghcgkojaaPrx1
import Derived.Test.YtejdfmghcgkojaaPrx2
namespace Go.Proofs.Ytejdfmghcgkojaa.Pr
open Go.RowKit Go.Proofs.YtejdfmghcgkojaaW.PrintWords Go.Proofs.YtejdfmghcgkojaaW.PrintLast Go.Proofs.YtejdfmghcgkojaaW.PrintMore
attribute [local go_sem] max2_int min2_int max_two min_two max_three min_three max_four min_four   -- for this text's walks alone
set_option linter.unusedVariables false
set_option linter.unusedSimpArgs false

/-! ### boltinglaw10_RiskLinks: function 7 -/
def boltinglaw10_RiskLinks.f (k : Nat) (a0 : ByteArray) (a1 : ByteArray) (a2 : ByteArray) : Option (Bool) := if 0 ≤ (mn (a2.size : Int) 200) then (if (mn (a2.size : Int) 200) ≤ (a2.size : Int) then (if 11 + (a2.extract 0 ((mn (a2.size : Int) 200) : Int).toNat).size ≤ 9223372036854775807 then ((risk_Attr.f a0 a1 ((⟨#[106, 97, 118, 97, 115, 99, 114, 105, 112, 116, 58]⟩ : ByteArray) ++ (a2.extract 0 ((mn (a2.size : Int) 200) : Int).toNat))).bind fun t212 => (if 6 + (a2.extract 0 ((mn (a2.size : Int) 200) : Int).toNat).size ≤ 9223372036854775807 then ((risk_Attr.f a0 a1 ((⟨#[104, 116, 116, 112, 115, 58]⟩ : ByteArray) ++ (a2.extract 0 ((mn (a2.size : Int) 200) : Int).toNat))).bind fun t213 => ((risk_Sink.f a0 a1).bind fun t214 => (if t214 = 0 then ((risk_Nav.f a0 a1).bind fun t215 => (if (t212 == t215) = true then (if (t213 == (t214 != 0)) = true then ((boltinglaw10_fixed.f k).bind fun t216 => (some t216)) else (some false)) else (some false))) else (if (t212 == true) = true then (if (t213 == (t214 != 0)) = true then ((boltinglaw10_fixed.f k).bind fun t217 => (some t217)) else (some false)) else (some false))))) else (none))) else (none)) else (none)) else (none)
theorem boltinglaw10_RiskLinks.mono : ∀ a0 a1 a2 k, LeO (boltinglaw10_RiskLinks.f k a0 a1 a2) (boltinglaw10_RiskLinks.f (k + 1) a0 a1 a2) := by
  intro a0 a1 a2 k
  unfold boltinglaw10_RiskLinks.f
  repeat' first
      | (with_reducible exact boltinglaw10_fixed.mono _)
      | (with_reducible exact LeO.refl _)
      | (with_reducible exact LeO.none _)
      | (with_reducible refine LeO.ite ?_ ?_)
      | (with_reducible refine LeO.bind ?_ (fun _ => ?_))
      | exact boltinglaw10_fixed.mono _
      | exact LeO.none _
      | refine LeO.ite ?_ ?_
      | refine LeO.bind ?_ (fun _ => ?_)
set_option maxHeartbeats 8000000 in
set_option maxRecDepth 100000 in
theorem boltinglaw10_RiskLinks.calls (k : Nat) (a0 : ByteArray) (a1 : ByteArray) (a2 : ByteArray) (r : Bool) (w : World) (h : boltinglaw10_RiskLinks.f k a0 a1 a2 = some r) :
    Calls Try.prog 7 #[.string a0, .string a1, .string a2] w fun e w' => e = .returned (.bool r) ∧ Below w.heap.size w w' := by
  have hu30 := Try.underlying30
  have HB := Aside0.mk (Below.refl w.heap.size w)
  have H : (if 0 ≤ (mn (a2.size : Int) 200) then (if (mn (a2.size : Int) 200) ≤ (a2.size : Int) then (if 11 + (a2.extract 0 ((mn (a2.size : Int) 200) : Int).toNat).size ≤ 9223372036854775807 then ((risk_Attr.f a0 a1 ((⟨#[106, 97, 118, 97, 115, 99, 114, 105, 112, 116, 58]⟩ : ByteArray) ++ (a2.extract 0 ((mn (a2.size : Int) 200) : Int).toNat))).bind fun t212 => (if 6 + (a2.extract 0 ((mn (a2.size : Int) 200) : Int).toNat).size ≤ 9223372036854775807 then ((risk_Attr.f a0 a1 ((⟨#[104, 116, 116, 112, 115, 58]⟩ : ByteArray) ++ (a2.extract 0 ((mn (a2.size : Int) 200) : Int).toNat))).bind fun t213 => ((risk_Sink.f a0 a1).bind fun t214 => (if t214 = 0 then ((risk_Nav.f a0 a1).bind fun t215 => (if (t212 == t215) = true then (if (t213 == (t214 != 0)) = true then ((boltinglaw10_fixed.f k).bind fun t216 => (some t216)) else (some false)) else (some false))) else (if (t212 == true) = true then (if (t213 == (t214 != 0)) = true then ((boltinglaw10_fixed.f k).bind fun t217 => (some t217)) else (some false)) else (some false))))) else (none))) else (none)) else (none)) else (none)) = some r := h
  clear h
  obtain ⟨ji4, hji4⟩ : ∃ j_ : Int, (mn (a2.size : Int) 200) = j_ := ⟨_, rfl⟩
  replace H : (if 0 ≤ (ji4) then (if (ji4) ≤ (a2.size : Int) then (if 11 + (a2.extract 0 ((ji4) : Int).toNat).size ≤ 9223372036854775807 then ((risk_Attr.f a0 a1 ((⟨#[106, 97, 118, 97, 115, 99, 114, 105, 112, 116, 58]⟩ : ByteArray) ++ (a2.extract 0 ((ji4) : Int).toNat))).bind fun t212 => (if 6 + (a2.extract 0 ((ji4) : Int).toNat).size ≤ 9223372036854775807 then ((risk_Attr.f a0 a1 ((⟨#[104, 116, 116, 112, 115, 58]⟩ : ByteArray) ++ (a2.extract 0 ((ji4) : Int).toNat))).bind fun t213 => ((risk_Sink.f a0 a1).bind fun t214 => (if t214 = 0 then ((risk_Nav.f a0 a1).bind fun t215 => (if (t212 == t215) = true then (if (t213 == (t214 != 0)) = true then ((boltinglaw10_fixed.f k).bind fun t216 => (some t216)) else (some false)) else (some false))) else (if (t212 == true) = true then (if (t213 == (t214 != 0)) = true then ((boltinglaw10_fixed.f k).bind fun t217 => (some t217)) else (some false)) else (some false))))) else (none))) else (none)) else (none)) else (none)) = some r := by first | (rw [hji4] at H; exact H) | (simp only [hji4] at H ⊢; exact H)
  (try (have hji4h : ji4 ≤ 200 := by (rw [← hji4]; unfold mn; (repeat' split) <;> omega)))
  (try (have hji4g : ji4 ≤ 64 := by omega))
  (try (have hji4l : 0 ≤ ji4 := by (rw [← hji4]; unfold mn; (repeat' split) <;> omega)))
  (try (have hji4m : 0 ≤ ji4 := by omega))
  have hji4_ : (if 200 < (a2.size : Int) then 200 else (a2.size : Int)) = ji4 := hji4
  by_cases c5 : 0 ≤ (ji4)
  · rw [if_pos c5] at H
    have c5b0 := eq_true c5
    have c5b1 : decide (0 ≤ (ji4)) = true := decide_eq_true c5
    clear c5
    by_cases c6 : (ji4) ≤ (a2.size : Int)
    · rw [if_pos c6] at H
      have c6b0 := eq_true c6
      have c6b1 : decide ((ji4) ≤ (a2.size : Int)) = true := decide_eq_true c6
      clear c6
      obtain ⟨sx7, hsx7⟩ : ∃ s_ : ByteArray, (a2.extract 0 ((ji4) : Int).toNat) = s_ := ⟨_, rfl⟩
      replace H : (if 11 + sx7.size ≤ 9223372036854775807 then ((risk_Attr.f a0 a1 ((⟨#[106, 97, 118, 97, 115, 99, 114, 105, 112, 116, 58]⟩ : ByteArray) ++ sx7)).bind fun t212 => (if 6 + sx7.size ≤ 9223372036854775807 then ((risk_Attr.f a0 a1 ((⟨#[104, 116, 116, 112, 115, 58]⟩ : ByteArray) ++ sx7)).bind fun t213 => ((risk_Sink.f a0 a1).bind fun t214 => (if t214 = 0 then ((risk_Nav.f a0 a1).bind fun t215 => (if (t212 == t215) = true then (if (t213 == (t214 != 0)) = true then ((boltinglaw10_fixed.f k).bind fun t216 => (some t216)) else (some false)) else (some false))) else (if (t212 == true) = true then (if (t213 == (t214 != 0)) = true then ((boltinglaw10_fixed.f k).bind fun t217 => (some t217)) else (some false)) else (some false))))) else (none))) else (none)) = some r := by first | (rw [hsx7] at H; exact H) | (simp only [hsx7] at H ⊢; exact H) | exact H
      by_cases c8 : 11 + sx7.size ≤ 9223372036854775807
      · rw [if_pos c8] at H
        have c8b0 := eq_true c8
        have c8b1 : decide (11 + sx7.size ≤ 9223372036854775807) = true := decide_eq_true c8
        try have c8b2 : (9223372036854775807 < 11 + sx7.size) = False := eq_false (Nat.not_lt.2 c8)
        replace H := Option.bind_eq_some_iff.mp H
        obtain ⟨t212, A90, H⟩ := H
        replace H : (if 6 + sx7.size ≤ 9223372036854775807 then ((risk_Attr.f a0 a1 ((⟨#[104, 116, 116, 112, 115, 58]⟩ : ByteArray) ++ sx7)).bind fun t213 => ((risk_Sink.f a0 a1).bind fun t214 => (if t214 = 0 then ((risk_Nav.f a0 a1).bind fun t215 => (if (t212 == t215) = true then (if (t213 == (t214 != 0)) = true then ((boltinglaw10_fixed.f k).bind fun t216 => (some t216)) else (some false)) else (some false))) else (if (t212 == true) = true then (if (t213 == (t214 != 0)) = true then ((boltinglaw10_fixed.f k).bind fun t217 => (some t217)) else (some false)) else (some false))))) else (none)) = some r := H
        have A9 := Aside0.mk A90
        clear A90
        by_cases c10 : 6 + sx7.size ≤ 9223372036854775807
        · rw [if_pos c10] at H
          have c10b0 := eq_true c10
          have c10b1 : decide (6 + sx7.size ≤ 9223372036854775807) = true := decide_eq_true c10
          try have c10b2 : (9223372036854775807 < 6 + sx7.size) = False := eq_false (Nat.not_lt.2 c10)
          replace H := Option.bind_eq_some_iff.mp H
          obtain ⟨t213, A110, H⟩ := H
          replace H : ((risk_Sink.f a0 a1).bind fun t214 => (if t214 = 0 then ((risk_Nav.f a0 a1).bind fun t215 => (if (t212 == t215) = true then (if (t213 == (t214 != 0)) = true then ((boltinglaw10_fixed.f k).bind fun t216 => (some t216)) else (some false)) else (some false))) else (if (t212 == true) = true then (if (t213 == (t214 != 0)) = true then ((boltinglaw10_fixed.f k).bind fun t217 => (some t217)) else (some false)) else (some false)))) = some r := H
          have A11 := Aside0.mk A110
          clear A110
          replace H := Option.bind_eq_some_iff.mp H
          obtain ⟨t214, A120, H⟩ := H
          replace H : (if t214 = 0 then ((risk_Nav.f a0 a1).bind fun t215 => (if (t212 == t215) = true then (if (t213 == (t214 != 0)) = true then ((boltinglaw10_fixed.f k).bind fun t216 => (some t216)) else (some false)) else (some false))) else (if (t212 == true) = true then (if (t213 == (t214 != 0)) = true then ((boltinglaw10_fixed.f k).bind fun t217 => (some t217)) else (some false)) else (some false))) = some r := H
          have A12 := Aside0.mk A120
          clear A120
          by_cases c13 : t214 = 0
          · rw [if_pos c13] at H
            have c13b0 : (t214 == 0) = true := beq_iff_eq.mpr c13
            have c13b1 : (t214 != 0) = false := bne_eq_false_iff_eq.mpr c13
            clear c13
            replace H := Option.bind_eq_some_iff.mp H
            obtain ⟨t215, A140, H⟩ := H
            replace H : (if (t212 == t215) = true then (if (t213 == (t214 != 0)) = true then ((boltinglaw10_fixed.f k).bind fun t216 => (some t216)) else (some false)) else (some false)) = some r := H
            have A14 := Aside0.mk A140
            clear A140
            by_cases c15 : (t212 == t215) = true
            · rw [if_pos c15] at H
              have c15b0 : (t212 == t215) = true := c15
              (try (have c15b1 : decide (t212 = t215) = true := by simpa using c15))
              (try (have c15b2 : (t212 == t215) = true := by simpa using c15))
              clear c15
              by_cases c16 : (t213 == (t214 != 0)) = true
              · rw [if_pos c16] at H
                have c16b0 : (t213 == (t214 != 0)) = true := c16
                (try (have c16b1 : decide (t213 = (t214 != 0)) = true := by simpa using c16))
                (first | (have c16z : t213 = true := by simpa [*] using c16) | (have c16z : t213 = false := by simpa [*] using c16) | skip)
                (try (have c16b2 : (t213 == (t214 != 0)) = true := by simpa using c16))
                clear c16
                replace H := Option.bind_eq_some_iff.mp H
                obtain ⟨t216, A170, H⟩ := H
                replace H : (some t216) = some r := H
                have A17 := Aside0.mk A170
                clear A170
                obtain rfl := Option.some.inj H
                go_enter Try.func7, Try.ntmps7
                go_wp2_with (first | ((with_reducible refine gate_callee (f := 19) rfl ?_); refine goesL_ (some 20) rfl rfl Try.func19 (by kernel_rfl) rfl #[.string a0, .agg #[.string a1, .string ((⟨#[106, 97, 118, 97, 115, 99, 114, 105, 112, 116, 58]⟩ : ByteArray) ++ sx7)]] rfl (by (try simp only [List.map_toArray, List.map_cons, List.map_nil]); first | done | rfl | (simp only [List.length_drop, List.length_take]; rfl)) ?_; (with_reducible refine (risk_Attr.calls a0 a1 ((⟨#[106, 97, 118, 97, 115, 99, 114, 105, 112, 116, 58]⟩ : ByteArray) ++ sx7) t212 _ A9.out).mono ?_); rintro e w18 ⟨rfl, hb⟩; refine ⟨_, rfl, ?_⟩; have n0_ := Aside0.mk (below_step (by repeat (first | (with_reducible first | exact HB.out | apply below_alloc | apply pw_below_drewN | apply below_drew1) | exact HB.out)) hb); clear HB; have HB := n0_; clear n0_; (try clear hb); (try clear hb2); (try clear hk); (try clear hi)) | ((with_reducible refine gate_callee (f := 19) rfl ?_); refine goesL_ (some 26) rfl rfl Try.func19 (by kernel_rfl) rfl #[.string a0, .agg #[.string a1, .string ((⟨#[104, 116, 116, 112, 115, 58]⟩ : ByteArray) ++ sx7)]] rfl (by (try simp only [List.map_toArray, List.map_cons, List.map_nil]); first | done | rfl | (simp only [List.length_drop, List.length_take]; rfl)) ?_; (with_reducible refine (risk_Attr.calls a0 a1 ((⟨#[104, 116, 116, 112, 115, 58]⟩ : ByteArray) ++ sx7) t213 _ A11.out).mono ?_); rintro e w19 ⟨rfl, hb⟩; refine ⟨_, rfl, ?_⟩; have n0_ := Aside0.mk (below_step (by repeat (first | (with_reducible first | exact HB.out | apply below_alloc | apply pw_below_drewN | apply below_drew1) | exact HB.out)) hb); clear HB; have HB := n0_; clear n0_; (try clear hb); (try clear hb2); (try clear hk); (try clear hi)) | ((with_reducible refine gate_callee (f := 14) rfl ?_); refine goesL_ (some 29) rfl rfl Try.func14 (by kernel_rfl) rfl #[.string a0, .string a1] rfl (by (try simp only [List.map_toArray, List.map_cons, List.map_nil]); first | done | rfl | (simp only [List.length_drop, List.length_take]; rfl)) ?_; (with_reducible refine (risk_Sink.calls a0 a1 t214 _ A12.out).mono ?_); rintro e w20 ⟨rfl, hb⟩; refine ⟨_, rfl, ?_⟩; have n0_ := Aside0.mk (below_step (by repeat (first | (with_reducible first | exact HB.out | apply below_alloc | apply pw_below_drewN | apply below_drew1) | exact HB.out)) hb); clear HB; have HB := n0_; clear n0_; (try clear hb); (try clear hb2); (try clear hk); (try clear hi)) | (go_at_call 12; (with_reducible refine (risk_Nav.calls a0 a1 t215 _ A14.out).mono ?_); rintro e w21 ⟨rfl, hb⟩; have n0_ := Aside0.mk (below_step (by repeat (first | (with_reducible first | exact HB.out | apply below_alloc | apply pw_below_drewN | apply below_drew1) | exact HB.out)) hb); clear HB; have HB := n0_; clear n0_; (try clear hb); (try clear hb2); (try clear hk); (try clear hi)) | (go_at_call 9; (with_reducible refine (boltinglaw10_fixed.calls k  t216 _ A17.out).mono ?_); rintro e w22 ⟨rfl, hb⟩; have n0_ := Aside0.mk (below_step (by repeat (first | (with_reducible first | exact HB.out | apply below_alloc | apply pw_below_drewN | apply below_drew1) | exact HB.out)) hb); clear HB; have HB := n0_; clear n0_; (try clear hb); (try clear hb2); (try clear hk); (try clear hi)))
                go_ret
                exact ⟨by first | rfl | (simp [errW_none, errW_some] <;> rfl) | (simp only [← hji4]; first | rfl | (simp [errW_none, errW_some] <;> rfl)) | (simp [*, errW_none, errW_some] <;> rfl), by repeat (first | (with_reducible first | exact HB.out | apply below_alloc | apply pw_below_drewN | apply below_drew1) | exact HB.out)⟩
              · rw [if_neg c16] at H
                have c16b0 : (t213 == (t214 != 0)) = false := by simpa using c16
                (try (have c16b1 : decide (t213 = (t214 != 0)) = false := by simpa using c16))
                (first | (have c16z : t213 = true := by simpa [*] using c16) | (have c16z : t213 = false := by simpa [*] using c16) | skip)
                (try (have c16b2 : (t213 == (t214 != 0)) = false := by simpa using c16))
                (try (have c16b3 : ¬ (t213 = (t214 != 0)) := by simpa using c16))
                clear c16
                obtain rfl := Option.some.inj H
                go_enter Try.func7, Try.ntmps7
                go_wp2_with (first | ((with_reducible refine gate_callee (f := 19) rfl ?_); refine goesL_ (some 20) rfl rfl Try.func19 (by kernel_rfl) rfl #[.string a0, .agg #[.string a1, .string ((⟨#[106, 97, 118, 97, 115, 99, 114, 105, 112, 116, 58]⟩ : ByteArray) ++ sx7)]] rfl (by (try simp only [List.map_toArray, List.map_cons, List.map_nil]); first | done | rfl | (simp only [List.length_drop, List.length_take]; rfl)) ?_; (with_reducible refine (risk_Attr.calls a0 a1 ((⟨#[106, 97, 118, 97, 115, 99, 114, 105, 112, 116, 58]⟩ : ByteArray) ++ sx7) t212 _ A9.out).mono ?_); rintro e w23 ⟨rfl, hb⟩; refine ⟨_, rfl, ?_⟩; have n0_ := Aside0.mk (below_step (by repeat (first | (with_reducible first | exact HB.out | apply below_alloc | apply pw_below_drewN | apply below_drew1) | exact HB.out)) hb); clear HB; have HB := n0_; clear n0_; (try clear hb); (try clear hb2); (try clear hk); (try clear hi)) | ((with_reducible refine gate_callee (f := 19) rfl ?_); refine goesL_ (some 26) rfl rfl Try.func19 (by kernel_rfl) rfl #[.string a0, .agg #[.string a1, .string ((⟨#[104, 116, 116, 112, 115, 58]⟩ : ByteArray) ++ sx7)]] rfl (by (try simp only [List.map_toArray, List.map_cons, List.map_nil]); first | done | rfl | (simp only [List.length_drop, List.length_take]; rfl)) ?_; (with_reducible refine (risk_Attr.calls a0 a1 ((⟨#[104, 116, 116, 112, 115, 58]⟩ : ByteArray) ++ sx7) t213 _ A11.out).mono ?_); rintro e w24 ⟨rfl, hb⟩; refine ⟨_, rfl, ?_⟩; have n0_ := Aside0.mk (below_step (by repeat (first | (with_reducible first | exact HB.out | apply below_alloc | apply pw_below_drewN | apply below_drew1) | exact HB.out)) hb); clear HB; have HB := n0_; clear n0_; (try clear hb); (try clear hb2); (try clear hk); (try clear hi)) | ((with_reducible refine gate_callee (f := 14) rfl ?_); refine goesL_ (some 29) rfl rfl Try.func14 (by kernel_rfl) rfl #[.string a0, .string a1] rfl (by (try simp only [List.map_toArray, List.map_cons, List.map_nil]); first | done | rfl | (simp only [List.length_drop, List.length_take]; rfl)) ?_; (with_reducible refine (risk_Sink.calls a0 a1 t214 _ A12.out).mono ?_); rintro e w25 ⟨rfl, hb⟩; refine ⟨_, rfl, ?_⟩; have n0_ := Aside0.mk (below_step (by repeat (first | (with_reducible first | exact HB.out | apply below_alloc | apply pw_below_drewN | apply below_drew1) | exact HB.out)) hb); clear HB; have HB := n0_; clear n0_; (try clear hb); (try clear hb2); (try clear hk); (try clear hi)) | (go_at_call 12; (with_reducible refine (risk_Nav.calls a0 a1 t215 _ A14.out).mono ?_); rintro e w26 ⟨rfl, hb⟩; have n0_ := Aside0.mk (below_step (by repeat (first | (with_reducible first | exact HB.out | apply below_alloc | apply pw_below_drewN | apply below_drew1) | exact HB.out)) hb); clear HB; have HB := n0_; clear n0_; (try clear hb); (try clear hb2); (try clear hk); (try clear hi)))
                go_ret
                exact ⟨by first | rfl | (simp [errW_none, errW_some] <;> rfl) | (simp only [← hji4]; first | rfl | (simp [errW_none, errW_some] <;> rfl)) | (simp [*, errW_none, errW_some] <;> rfl), by repeat (first | (with_reducible first | exact HB.out | apply below_alloc | apply pw_below_drewN | apply below_drew1) | exact HB.out)⟩
            · rw [if_neg c15] at H
              have c15b0 : (t212 == t215) = false := by simpa using c15
              (try (have c15b1 : decide (t212 = t215) = false := by simpa using c15))
              (try (have c15b2 : (t212 == t215) = false := by simpa using c15))
              (try (have c15b3 : ¬ (t212 = t215) := by simpa using c15))
              clear c15
              obtain rfl := Option.some.inj H
              go_enter Try.func7, Try.ntmps7
              go_wp2_with (first | ((with_reducible refine gate_callee (f := 19) rfl ?_); refine goesL_ (some 20) rfl rfl Try.func19 (by kernel_rfl) rfl #[.string a0, .agg #[.string a1, .string ((⟨#[106, 97, 118, 97, 115, 99, 114, 105, 112, 116, 58]⟩ : ByteArray) ++ sx7)]] rfl (by (try simp only [List.map_toArray, List.map_cons, List.map_nil]); first | done | rfl | (simp only [List.length_drop, List.length_take]; rfl)) ?_; (with_reducible refine (risk_Attr.calls a0 a1 ((⟨#[106, 97, 118, 97, 115, 99, 114, 105, 112, 116, 58]⟩ : ByteArray) ++ sx7) t212 _ A9.out).mono ?_); rintro e w27 ⟨rfl, hb⟩; refine ⟨_, rfl, ?_⟩; have n0_ := Aside0.mk (below_step (by repeat (first | (with_reducible first | exact HB.out | apply below_alloc | apply pw_below_drewN | apply below_drew1) | exact HB.out)) hb); clear HB; have HB := n0_; clear n0_; (try clear hb); (try clear hb2); (try clear hk); (try clear hi)) | ((with_reducible refine gate_callee (f := 19) rfl ?_); refine goesL_ (some 26) rfl rfl Try.func19 (by kernel_rfl) rfl #[.string a0, .agg #[.string a1, .string ((⟨#[104, 116, 116, 112, 115, 58]⟩ : ByteArray) ++ sx7)]] rfl (by (try simp only [List.map_toArray, List.map_cons, List.map_nil]); first | done | rfl | (simp only [List.length_drop, List.length_take]; rfl)) ?_; (with_reducible refine (risk_Attr.calls a0 a1 ((⟨#[104, 116, 116, 112, 115, 58]⟩ : ByteArray) ++ sx7) t213 _ A11.out).mono ?_); rintro e w28 ⟨rfl, hb⟩; refine ⟨_, rfl, ?_⟩; have n0_ := Aside0.mk (below_step (by repeat (first | (with_reducible first | exact HB.out | apply below_alloc | apply pw_below_drewN | apply below_drew1) | exact HB.out)) hb); clear HB; have HB := n0_; clear n0_; (try clear hb); (try clear hb2); (try clear hk); (try clear hi)) | ((with_reducible refine gate_callee (f := 14) rfl ?_); refine goesL_ (some 29) rfl rfl Try.func14 (by kernel_rfl) rfl #[.string a0, .string a1] rfl (by (try simp only [List.map_toArray, List.map_cons, List.map_nil]); first | done | rfl | (simp only [List.length_drop, List.length_take]; rfl)) ?_; (with_reducible refine (risk_Sink.calls a0 a1 t214 _ A12.out).mono ?_); rintro e w29 ⟨rfl, hb⟩; refine ⟨_, rfl, ?_⟩; have n0_ := Aside0.mk (below_step (by repeat (first | (with_reducible first | exact HB.out | apply below_alloc | apply pw_below_drewN | apply below_drew1) | exact HB.out)) hb); clear HB; have HB := n0_; clear n0_; (try clear hb); (try clear hb2); (try clear hk); (try clear hi)) | (go_at_call 12; (with_reducible refine (risk_Nav.calls a0 a1 t215 _ A14.out).mono ?_); rintro e w30 ⟨rfl, hb⟩; have n0_ := Aside0.mk (below_step (by repeat (first | (with_reducible first | exact HB.out | apply below_alloc | apply pw_below_drewN | apply below_drew1) | exact HB.out)) hb); clear HB; have HB := n0_; clear n0_; (try clear hb); (try clear hb2); (try clear hk); (try clear hi)))
              go_ret
              exact ⟨by first | rfl | (simp [errW_none, errW_some] <;> rfl) | (simp only [← hji4]; first | rfl | (simp [errW_none, errW_some] <;> rfl)) | (simp [*, errW_none, errW_some] <;> rfl), by repeat (first | (with_reducible first | exact HB.out | apply below_alloc | apply pw_below_drewN | apply below_drew1) | exact HB.out)⟩
          · rw [if_neg c13] at H
            have c13b0 : (t214 == 0) = false := beq_eq_false_iff_ne.mpr c13
            have c13b1 : (t214 != 0) = true := bne_iff_ne.mpr c13
            by_cases c31 : (t212 == true) = true
            · rw [if_pos c31] at H
              have c31b0 : (t212 == true) = true := c31
              (try (have c31b1 : decide (t212 = true) = true := by simpa using c31))
              (try (have c31b2 : (t212 == true) = true := by simpa using c31))
              clear c31
              by_cases c32 : (t213 == (t214 != 0)) = true
              · rw [if_pos c32] at H
                have c32b0 : (t213 == (t214 != 0)) = true := c32
                (try (have c32b1 : decide (t213 = (t214 != 0)) = true := by simpa using c32))
                (first | (have c32z : t213 = true := by simpa [*] using c32) | (have c32z : t213 = false := by simpa [*] using c32) | skip)
                (try (have c32b2 : (t213 == (t214 != 0)) = true := by simpa using c32))
                clear c32
                replace H := Option.bind_eq_some_iff.mp H
                obtain ⟨t217, A330, H⟩ := H
                replace H : (some t217) = some r := H
                have A33 := Aside0.mk A330
                clear A330
                obtain rfl := Option.some.inj H
                go_enter Try.func7, Try.ntmps7
                go_wp2_with (first | ((with_reducible refine gate_callee (f := 19) rfl ?_); refine goesL_ (some 20) rfl rfl Try.func19 (by kernel_rfl) rfl #[.string a0, .agg #[.string a1, .string ((⟨#[106, 97, 118, 97, 115, 99, 114, 105, 112, 116, 58]⟩ : ByteArray) ++ sx7)]] rfl (by (try simp only [List.map_toArray, List.map_cons, List.map_nil]); first | done | rfl | (simp only [List.length_drop, List.length_take]; rfl)) ?_; (with_reducible refine (risk_Attr.calls a0 a1 ((⟨#[106, 97, 118, 97, 115, 99, 114, 105, 112, 116, 58]⟩ : ByteArray) ++ sx7) t212 _ A9.out).mono ?_); rintro e w34 ⟨rfl, hb⟩; refine ⟨_, rfl, ?_⟩; have n0_ := Aside0.mk (below_step (by repeat (first | (with_reducible first | exact HB.out | apply below_alloc | apply pw_below_drewN | apply below_drew1) | exact HB.out)) hb); clear HB; have HB := n0_; clear n0_; (try clear hb); (try clear hb2); (try clear hk); (try clear hi)) | ((with_reducible refine gate_callee (f := 19) rfl ?_); refine goesL_ (some 26) rfl rfl Try.func19 (by kernel_rfl) rfl #[.string a0, .agg #[.string a1, .string ((⟨#[104, 116, 116, 112, 115, 58]⟩ : ByteArray) ++ sx7)]] rfl (by (try simp only [List.map_toArray, List.map_cons, List.map_nil]); first | done | rfl | (simp only [List.length_drop, List.length_take]; rfl)) ?_; (with_reducible refine (risk_Attr.calls a0 a1 ((⟨#[104, 116, 116, 112, 115, 58]⟩ : ByteArray) ++ sx7) t213 _ A11.out).mono ?_); rintro e w35 ⟨rfl, hb⟩; refine ⟨_, rfl, ?_⟩; have n0_ := Aside0.mk (below_step (by repeat (first | (with_reducible first | exact HB.out | apply below_alloc | apply pw_below_drewN | apply below_drew1) | exact HB.out)) hb); clear HB; have HB := n0_; clear n0_; (try clear hb); (try clear hb2); (try clear hk); (try clear hi)) | ((with_reducible refine gate_callee (f := 14) rfl ?_); refine goesL_ (some 29) rfl rfl Try.func14 (by kernel_rfl) rfl #[.string a0, .string a1] rfl (by (try simp only [List.map_toArray, List.map_cons, List.map_nil]); first | done | rfl | (simp only [List.length_drop, List.length_take]; rfl)) ?_; (with_reducible refine (risk_Sink.calls a0 a1 t214 _ A12.out).mono ?_); rintro e w36 ⟨rfl, hb⟩; refine ⟨_, rfl, ?_⟩; have n0_ := Aside0.mk (below_step (by repeat (first | (with_reducible first | exact HB.out | apply below_alloc | apply pw_below_drewN | apply below_drew1) | exact HB.out)) hb); clear HB; have HB := n0_; clear n0_; (try clear hb); (try clear hb2); (try clear hk); (try clear hi)) | (go_at_call 9; (with_reducible refine (boltinglaw10_fixed.calls k  t217 _ A33.out).mono ?_); rintro e w37 ⟨rfl, hb⟩; have n0_ := Aside0.mk (below_step (by repeat (first | (with_reducible first | exact HB.out | apply below_alloc | apply pw_below_drewN | apply below_drew1) | exact HB.out)) hb); clear HB; have HB := n0_; clear n0_; (try clear hb); (try clear hb2); (try clear hk); (try clear hi)))
                go_ret
                exact ⟨by first | rfl | (simp [errW_none, errW_some] <;> rfl) | (simp only [← hji4]; first | rfl | (simp [errW_none, errW_some] <;> rfl)) | (simp [*, errW_none, errW_some] <;> rfl), by repeat (first | (with_reducible first | exact HB.out | apply below_alloc | apply pw_below_drewN | apply below_drew1) | exact HB.out)⟩
              · rw [if_neg c32] at H
                have c32b0 : (t213 == (t214 != 0)) = false := by simpa using c32
                (try (have c32b1 : decide (t213 = (t214 != 0)) = false := by simpa using c32))
                (first | (have c32z : t213 = true := by simpa [*] using c32) | (have c32z : t213 = false := by simpa [*] using c32) | skip)
                (try (have c32b2 : (t213 == (t214 != 0)) = false := by simpa using c32))
                (try (have c32b3 : ¬ (t213 = (t214 != 0)) := by simpa using c32))
                clear c32
                obtain rfl := Option.some.inj H
                go_enter Try.func7, Try.ntmps7
                go_wp2_with (first | ((with_reducible refine gate_callee (f := 19) rfl ?_); refine goesL_ (some 20) rfl rfl Try.func19 (by kernel_rfl) rfl #[.string a0, .agg #[.string a1, .string ((⟨#[106, 97, 118, 97, 115, 99, 114, 105, 112, 116, 58]⟩ : ByteArray) ++ sx7)]] rfl (by (try simp only [List.map_toArray, List.map_cons, List.map_nil]); first | done | rfl | (simp only [List.length_drop, List.length_take]; rfl)) ?_; (with_reducible refine (risk_Attr.calls a0 a1 ((⟨#[106, 97, 118, 97, 115, 99, 114, 105, 112, 116, 58]⟩ : ByteArray) ++ sx7) t212 _ A9.out).mono ?_); rintro e w38 ⟨rfl, hb⟩; refine ⟨_, rfl, ?_⟩; have n0_ := Aside0.mk (below_step (by repeat (first | (with_reducible first | exact HB.out | apply below_alloc | apply pw_below_drewN | apply below_drew1) | exact HB.out)) hb); clear HB; have HB := n0_; clear n0_; (try clear hb); (try clear hb2); (try clear hk); (try clear hi)) | ((with_reducible refine gate_callee (f := 19) rfl ?_); refine goesL_ (some 26) rfl rfl Try.func19 (by kernel_rfl) rfl #[.string a0, .agg #[.string a1, .string ((⟨#[104, 116, 116, 112, 115, 58]⟩ : ByteArray) ++ sx7)]] rfl (by (try simp only [List.map_toArray, List.map_cons, List.map_nil]); first | done | rfl | (simp only [List.length_drop, List.length_take]; rfl)) ?_; (with_reducible refine (risk_Attr.calls a0 a1 ((⟨#[104, 116, 116, 112, 115, 58]⟩ : ByteArray) ++ sx7) t213 _ A11.out).mono ?_); rintro e w39 ⟨rfl, hb⟩; refine ⟨_, rfl, ?_⟩; have n0_ := Aside0.mk (below_step (by repeat (first | (with_reducible first | exact HB.out | apply below_alloc | apply pw_below_drewN | apply below_drew1) | exact HB.out)) hb); clear HB; have HB := n0_; clear n0_; (try clear hb); (try clear hb2); (try clear hk); (try clear hi)) | ((with_reducible refine gate_callee (f := 14) rfl ?_); refine goesL_ (some 29) rfl rfl Try.func14 (by kernel_rfl) rfl #[.string a0, .string a1] rfl (by (try simp only [List.map_toArray, List.map_cons, List.map_nil]); first | done | rfl | (simp only [List.length_drop, List.length_take]; rfl)) ?_; (with_reducible refine (risk_Sink.calls a0 a1 t214 _ A12.out).mono ?_); rintro e w40 ⟨rfl, hb⟩; refine ⟨_, rfl, ?_⟩; have n0_ := Aside0.mk (below_step (by repeat (first | (with_reducible first | exact HB.out | apply below_alloc | apply pw_below_drewN | apply below_drew1) | exact HB.out)) hb); clear HB; have HB := n0_; clear n0_; (try clear hb); (try clear hb2); (try clear hk); (try clear hi)))
                go_ret
                exact ⟨by first | rfl | (simp [errW_none, errW_some] <;> rfl) | (simp only [← hji4]; first | rfl | (simp [errW_none, errW_some] <;> rfl)) | (simp [*, errW_none, errW_some] <;> rfl), by repeat (first | (with_reducible first | exact HB.out | apply below_alloc | apply pw_below_drewN | apply below_drew1) | exact HB.out)⟩
            · rw [if_neg c31] at H
              have c31b0 : (t212 == true) = false := by simpa using c31
              (try (have c31b1 : decide (t212 = true) = false := by simpa using c31))
              (try (have c31b2 : (t212 == true) = false := by simpa using c31))
              (try (have c31b3 : ¬ (t212 = true) := by simpa using c31))
              clear c31
              obtain rfl := Option.some.inj H
              go_enter Try.func7, Try.ntmps7
              go_wp2_with (first | ((with_reducible refine gate_callee (f := 19) rfl ?_); refine goesL_ (some 20) rfl rfl Try.func19 (by kernel_rfl) rfl #[.string a0, .agg #[.string a1, .string ((⟨#[106, 97, 118, 97, 115, 99, 114, 105, 112, 116, 58]⟩ : ByteArray) ++ sx7)]] rfl (by (try simp only [List.map_toArray, List.map_cons, List.map_nil]); first | done | rfl | (simp only [List.length_drop, List.length_take]; rfl)) ?_; (with_reducible refine (risk_Attr.calls a0 a1 ((⟨#[106, 97, 118, 97, 115, 99, 114, 105, 112, 116, 58]⟩ : ByteArray) ++ sx7) t212 _ A9.out).mono ?_); rintro e w41 ⟨rfl, hb⟩; refine ⟨_, rfl, ?_⟩; have n0_ := Aside0.mk (below_step (by repeat (first | (with_reducible first | exact HB.out | apply below_alloc | apply pw_below_drewN | apply below_drew1) | exact HB.out)) hb); clear HB; have HB := n0_; clear n0_; (try clear hb); (try clear hb2); (try clear hk); (try clear hi)) | ((with_reducible refine gate_callee (f := 19) rfl ?_); refine goesL_ (some 26) rfl rfl Try.func19 (by kernel_rfl) rfl #[.string a0, .agg #[.string a1, .string ((⟨#[104, 116, 116, 112, 115, 58]⟩ : ByteArray) ++ sx7)]] rfl (by (try simp only [List.map_toArray, List.map_cons, List.map_nil]); first | done | rfl | (simp only [List.length_drop, List.length_take]; rfl)) ?_; (with_reducible refine (risk_Attr.calls a0 a1 ((⟨#[104, 116, 116, 112, 115, 58]⟩ : ByteArray) ++ sx7) t213 _ A11.out).mono ?_); rintro e w42 ⟨rfl, hb⟩; refine ⟨_, rfl, ?_⟩; have n0_ := Aside0.mk (below_step (by repeat (first | (with_reducible first | exact HB.out | apply below_alloc | apply pw_below_drewN | apply below_drew1) | exact HB.out)) hb); clear HB; have HB := n0_; clear n0_; (try clear hb); (try clear hb2); (try clear hk); (try clear hi)) | ((with_reducible refine gate_callee (f := 14) rfl ?_); refine goesL_ (some 29) rfl rfl Try.func14 (by kernel_rfl) rfl #[.string a0, .string a1] rfl (by (try simp only [List.map_toArray, List.map_cons, List.map_nil]); first | done | rfl | (simp only [List.length_drop, List.length_take]; rfl)) ?_; (with_reducible refine (risk_Sink.calls a0 a1 t214 _ A12.out).mono ?_); rintro e w43 ⟨rfl, hb⟩; refine ⟨_, rfl, ?_⟩; have n0_ := Aside0.mk (below_step (by repeat (first | (with_reducible first | exact HB.out | apply below_alloc | apply pw_below_drewN | apply below_drew1) | exact HB.out)) hb); clear HB; have HB := n0_; clear n0_; (try clear hb); (try clear hb2); (try clear hk); (try clear hi)))
              go_ret
              exact ⟨by first | rfl | (simp [errW_none, errW_some] <;> rfl) | (simp only [← hji4]; first | rfl | (simp [errW_none, errW_some] <;> rfl)) | (simp [*, errW_none, errW_some] <;> rfl), by repeat (first | (with_reducible first | exact HB.out | apply below_alloc | apply pw_below_drewN | apply below_drew1) | exact HB.out)⟩
        · rw [if_neg c10] at H
          exact absurd H (by simp)
      · rw [if_neg c8] at H
        exact absurd H (by simp)
    · rw [if_neg c6] at H
      exact absurd H (by simp)
  · rw [if_neg c5] at H
    exact absurd H (by simp)

/-- THE ONE PURE STATEMENT of boltinglaw10_RiskLinks: yours. -/
def boltinglaw10_RiskLinks.Pure : Prop := ∀ (a0 : ByteArray) (a1 : ByteArray) (a2 : ByteArray), a0.size ≤ 140737488351232 → a1.size ≤ 140737488351232 → a2.size ≤ 140737488351232 → ∃ k, boltinglaw10_RiskLinks.f k a0 a1 a2 = some true
theorem boltinglaw10_RiskLinks.walk (P : boltinglaw10_RiskLinks.Pure) (a0 : ByteArray) (a1 : ByteArray) (a2 : ByteArray) (w : World) (w0 : a0.size ≤ 140737488351232) (w1 : a1.size ≤ 140737488351232) (w2 : a2.size ≤ 140737488351232) :
    Calls Try.prog 7 #[.string a0, .string a1, .string a2] w fun e w' => e = .returned (.bool true) ∧ Below w.heap.size w w' := by
  obtain ⟨k, h⟩ := P a0 a1 a2 w0 w1 w2
  refine (boltinglaw10_RiskLinks.calls k a0 a1 a2 true w h).mono ?_
  rintro e w' ⟨rfl, hd⟩
  exact ⟨rfl, hd⟩

end Go.Proofs.Ytejdfmghcgkojaa.Pr
