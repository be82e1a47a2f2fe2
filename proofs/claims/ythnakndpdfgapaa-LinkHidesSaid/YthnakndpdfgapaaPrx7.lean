-- Written by wip/tools/pr.sh out of Lean's own print of the translation. Not trusted: Lean checks it.
import Derived.Test.YthnakndpdfgapaaPrx0
import Derived.Test.YthnakndpdfgapaaPrx2
namespace Go.Proofs.Ythnakndpdfgapaa.Pr
open Go.RowKit Go.Proofs.YthnakndpdfgapaaW.PrintWords Go.Proofs.YthnakndpdfgapaaW.PrintLast Go.Proofs.YthnakndpdfgapaaW.PrintMore
attribute [local go_sem] max2_int min2_int max_two min_two max_three min_three max_four min_four   -- for this text's walks alone
set_option linter.unusedVariables false
set_option linter.unusedSimpArgs false

/-! ### boltinglaw09_LinkMade: function 7 -/
def boltinglaw09_LinkMade.l0 : Nat → ByteArray → Int → Option (Bool)
  | 0, _, _ => none
  | k + 1, x0, x3 => if x3 < (x0.size : Int) then (if 0 ≤ x3 then (if (bt x0 x3) ≤ 32 then ((boltinglaw09_fixed.f).bind fun t168 => (some t168)) else (if (bt x0 x3) = 37 then ((boltinglaw09_fixed.f).bind fun t169 => (some t169)) else (boltinglaw09_LinkMade.l0 k x0 (wrap64 (x3 + 1))))) else (none)) else (if 8 + x0.size ≤ 9223372036854775807 then ((link_Scheme.f ((⟨#[120, 43, 121, 45, 122, 46, 49, 58]⟩ : ByteArray) ++ x0)).bind fun bt170 => (if 11 + x0.size ≤ 9223372036854775807 then ((link_Source.f ((⟨#[74, 97, 118, 97, 83, 99, 114, 105, 112, 116, 58]⟩ : ByteArray) ++ x0)).bind fun bt172 => (if bt170.1.toList = ([120, 43, 121, 45, 122, 46, 49] : List UInt8) then (if bt170.2 = true then (if bt172.1.toList = x0.toList then (if bt172.2 = true then (if 1 + x0.size ≤ 9223372036854775807 then ((link_Script.f ((⟨#[120]⟩ : ByteArray) ++ x0)).bind fun t174 => ((link_Script.f ((⟨#[88]⟩ : ByteArray) ++ x0)).bind fun t175 => (if ((!t174) == (!t175)) = true then ((boltinglaw09_fixed.f).bind fun t176 => (some t176)) else (some false)))) else (none)) else (some false)) else (some false)) else (some false)) else (some false))) else (none))) else (none))
def boltinglaw09_LinkMade.f (k : Nat) (a0 : ByteArray) : Option (Bool) := if 0 ≤ (mn (a0.size : Int) 200) then (if (mn (a0.size : Int) 200) ≤ (a0.size : Int) then (boltinglaw09_LinkMade.l0 k (a0.extract 0 ((mn (a0.size : Int) 200) : Int).toNat) 0) else (none)) else (none)
theorem boltinglaw09_LinkMade.mono_l : ∀ k, (∀ y0 y1, LeO (boltinglaw09_LinkMade.l0 k y0 y1) (boltinglaw09_LinkMade.l0 (k + 1) y0 y1))
  | 0 => fun _ _ r h => by simp [boltinglaw09_LinkMade.l0] at h
  | k + 1 => by
    have ih0 := boltinglaw09_LinkMade.mono_l k
    · intro y0 y1
      unfold boltinglaw09_LinkMade.l0
      repeat' first
      | (with_reducible exact ih0 _ _)
      | (with_reducible exact LeO.refl _)
      | (with_reducible exact LeO.none _)
      | (with_reducible refine LeO.ite ?_ ?_)
      | (with_reducible refine LeO.bind ?_ (fun _ => ?_))
      | exact ih0 _ _
      | exact LeO.none _
      | refine LeO.ite ?_ ?_
      | refine LeO.bind ?_ (fun _ => ?_)
theorem boltinglaw09_LinkMade.mono : ∀ a0 k, LeO (boltinglaw09_LinkMade.f k a0) (boltinglaw09_LinkMade.f (k + 1) a0) := by
  intro a0 k
  have ih0 := boltinglaw09_LinkMade.mono_l k
  unfold boltinglaw09_LinkMade.f
  repeat' first
      | (with_reducible exact ih0 _ _)
      | (with_reducible exact LeO.refl _)
      | (with_reducible exact LeO.none _)
      | (with_reducible refine LeO.ite ?_ ?_)
      | (with_reducible refine LeO.bind ?_ (fun _ => ?_))
      | exact ih0 _ _
      | exact LeO.none _
      | refine LeO.ite ?_ ?_
      | refine LeO.bind ?_ (fun _ => ?_)
set_option maxHeartbeats 8000000 in
set_option maxRecDepth 100000 in
theorem boltinglaw09_LinkMade.calls (k : Nat) (a0 : ByteArray) (r : Bool) (w : World) (h : boltinglaw09_LinkMade.f k a0 = some r) :
    Calls Try.prog 7 #[.string a0] w fun e w' => e = .returned (.bool r) ∧ Below w.heap.size w w' := by
  have HB := Aside0.mk (Below.refl w.heap.size w)
  have H : (if 0 ≤ (mn (a0.size : Int) 200) then (if (mn (a0.size : Int) 200) ≤ (a0.size : Int) then (boltinglaw09_LinkMade.l0 k (a0.extract 0 ((mn (a0.size : Int) 200) : Int).toNat) 0) else (none)) else (none)) = some r := h
  clear h
  obtain ⟨ji2, hji2⟩ : ∃ j_ : Int, (mn (a0.size : Int) 200) = j_ := ⟨_, rfl⟩
  replace H : (if 0 ≤ (ji2) then (if (ji2) ≤ (a0.size : Int) then (boltinglaw09_LinkMade.l0 k (a0.extract 0 ((ji2) : Int).toNat) 0) else (none)) else (none)) = some r := by first | (rw [hji2] at H; exact H) | (simp only [hji2] at H ⊢; exact H)
  (try (have hji2h : ji2 ≤ 200 := by (rw [← hji2]; unfold mn; (repeat' split) <;> omega)))
  (try (have hji2g : ji2 ≤ 64 := by omega))
  (try (have hji2l : 0 ≤ ji2 := by (rw [← hji2]; unfold mn; (repeat' split) <;> omega)))
  (try (have hji2m : 0 ≤ ji2 := by omega))
  have hji2_ : (if 200 < (a0.size : Int) then 200 else (a0.size : Int)) = ji2 := hji2
  by_cases c3 : 0 ≤ (ji2)
  · rw [if_pos c3] at H
    have c3b0 := eq_true c3
    have c3b1 : decide (0 ≤ (ji2)) = true := decide_eq_true c3
    clear c3
    by_cases c4 : (ji2) ≤ (a0.size : Int)
    · rw [if_pos c4] at H
      have c4b0 := eq_true c4
      have c4b1 : decide ((ji2) ≤ (a0.size : Int)) = true := decide_eq_true c4
      clear c4
      obtain ⟨sx5, hsx5⟩ : ∃ s_ : ByteArray, (a0.extract 0 ((ji2) : Int).toNat) = s_ := ⟨_, rfl⟩
      replace H : (boltinglaw09_LinkMade.l0 k sx5 0) = some r := by first | (rw [hsx5] at H; exact H) | (simp only [hsx5] at H ⊢; exact H) | exact H
      have H' := Aside0.mk H
      clear H
      go_enter Try.func7, Try.ntmps7
      go_wp2
      go_loopg [3] k (fun kq v3 w' => ∃ (x3_1 : Int), v3 = .int .i64 x3_1 ∧ Aside0 (boltinglaw09_LinkMade.l0 kq sx5 x3_1 = some r) ∧ Aside0 (kq ≤ k) ∧ Aside0 (Below w.heap.size w w'))
      case atStart => exact ⟨(0), (by first | rfl | (simp; done) | (simp [*]; done)), H', ⟨Nat.le_refl _⟩, ⟨by repeat (first | (with_reducible first | exact HB.out | apply below_alloc | apply pw_below_drewN | apply below_drew1) | exact HB.out)⟩⟩
      case round =>
        clear H'
        try clear p2
        try clear c3
        try clear c3b0
        try clear c3b1
        try clear c4
        try clear c4b0
        try clear c4b1
        obtain ⟨x3_1, rfl, HA, HK1, HB⟩ := hrel
        cases gk with
        | zero => exact absurd HA.out (by simp [boltinglaw09_LinkMade.l0])
        | succ k1 =>
          have H := HA.out
          clear HA
          simp only [boltinglaw09_LinkMade.l0] at H
          by_cases c6 : x3_1 < (sx5.size : Int)
          · rw [if_pos c6] at H
            have c6b0 : decide (x3_1 < (sx5.size : Int)) = true := decide_eq_true c6
            clear c6
            by_cases c7 : 0 ≤ x3_1
            · rw [if_pos c7] at H
              have c7b0 : decide (0 ≤ x3_1) = true := decide_eq_true c7
              clear c7
              by_cases c9 : (bt sx5 x3_1) ≤ 32
              · rw [if_pos c9] at H
                have c9b0 : decide ((bt sx5 x3_1) ≤ 32) = true := decide_eq_true c9
                clear c9
                replace H := Option.bind_eq_some_iff.mp H
                obtain ⟨t168, A100, H⟩ := H
                replace H : (some t168) = some r := H
                have A10 := Aside0.mk A100
                clear A100
                obtain rfl := Option.some.inj H
                have p8 : 0 ≤ (x3_1 : Int) := of_decide_eq_true (by first | (with_reducible assumption) | assumption)
                have q8 : x3_1 < (sx5.size : Int) := of_decide_eq_true (by first | (with_reducible assumption) | assumption)
                have hx8 := bt_at sx5 x3_1
                replace p8 := eq_true p8
                replace q8 := eq_true q8
                go_wp2_with (first | ((with_reducible refine gate_callee (f := 13) rfl ?_); refine goesL_ (some 29) rfl rfl Try.func13 (by kernel_rfl) rfl #[] rfl (by (try simp only [List.map_toArray, List.map_cons, List.map_nil]); first | done | rfl | (simp only [List.length_drop, List.length_take]; rfl)) ?_; (with_reducible refine (boltinglaw09_fixed.calls  t168 _ A10.out).mono ?_); rintro e w11 ⟨rfl, hb⟩; refine ⟨_, rfl, ?_⟩; have n0_ := Aside0.mk (below_step (by repeat (first | (with_reducible first | exact HB.out | apply below_alloc | apply pw_below_drewN | apply below_drew1) | exact HB.out)) hb); clear HB; have HB := n0_; clear n0_; (try clear hb); (try clear hb2); (try clear hk); (try clear hi)))
                go_ret
                exact ⟨by first | rfl | (simp [errW_none, errW_some] <;> rfl) | (simp only [← hji2]; first | rfl | (simp [errW_none, errW_some] <;> rfl)) | (simp [*, errW_none, errW_some] <;> rfl), by repeat (first | (with_reducible first | exact HB.out | apply below_alloc | apply pw_below_drewN | apply below_drew1) | exact HB.out)⟩
              · rw [if_neg c9] at H
                have c9b0 : decide ((bt sx5 x3_1) ≤ 32) = false := decide_eq_false c9
                clear c9
                by_cases c13 : (bt sx5 x3_1) = 37
                · rw [if_pos c13] at H
                  have c13b0 : ((bt sx5 x3_1) == 37) = true := beq_iff_eq.mpr c13
                  have c13b1 : ((bt sx5 x3_1) != 37) = false := bne_eq_false_iff_eq.mpr c13
                  clear c13
                  replace H := Option.bind_eq_some_iff.mp H
                  obtain ⟨t169, A140, H⟩ := H
                  replace H : (some t169) = some r := H
                  have A14 := Aside0.mk A140
                  clear A140
                  obtain rfl := Option.some.inj H
                  have p8 : 0 ≤ (x3_1 : Int) := of_decide_eq_true (by first | (with_reducible assumption) | assumption)
                  have q8 : x3_1 < (sx5.size : Int) := of_decide_eq_true (by first | (with_reducible assumption) | assumption)
                  have hx8 := bt_at sx5 x3_1
                  replace p8 := eq_true p8
                  replace q8 := eq_true q8
                  have p12 : 0 ≤ (x3_1 : Int) := of_decide_eq_true (by first | (with_reducible assumption) | assumption)
                  have q12 : x3_1 < (sx5.size : Int) := of_decide_eq_true (by first | (with_reducible assumption) | assumption)
                  have hx12 := bt_at sx5 x3_1
                  replace p12 := eq_true p12
                  replace q12 := eq_true q12
                  go_wp2_with (first | ((with_reducible refine gate_callee (f := 13) rfl ?_); refine goesL_ (some 29) rfl rfl Try.func13 (by kernel_rfl) rfl #[] rfl (by (try simp only [List.map_toArray, List.map_cons, List.map_nil]); first | done | rfl | (simp only [List.length_drop, List.length_take]; rfl)) ?_; (with_reducible refine (boltinglaw09_fixed.calls  t169 _ A14.out).mono ?_); rintro e w15 ⟨rfl, hb⟩; refine ⟨_, rfl, ?_⟩; have n0_ := Aside0.mk (below_step (by repeat (first | (with_reducible first | exact HB.out | apply below_alloc | apply pw_below_drewN | apply below_drew1) | exact HB.out)) hb); clear HB; have HB := n0_; clear n0_; (try clear hb); (try clear hb2); (try clear hk); (try clear hi)))
                  go_ret
                  exact ⟨by first | rfl | (simp [errW_none, errW_some] <;> rfl) | (simp only [← hji2]; first | rfl | (simp [errW_none, errW_some] <;> rfl)) | (simp [*, errW_none, errW_some] <;> rfl), by repeat (first | (with_reducible first | exact HB.out | apply below_alloc | apply pw_below_drewN | apply below_drew1) | exact HB.out)⟩
                · rw [if_neg c13] at H
                  have c13b0 : ((bt sx5 x3_1) == 37) = false := beq_eq_false_iff_ne.mpr c13
                  have c13b1 : ((bt sx5 x3_1) != 37) = true := bne_iff_ne.mpr c13
                  have H' := Aside0.mk H
                  clear H
                  have p8 : 0 ≤ (x3_1 : Int) := of_decide_eq_true (by first | (with_reducible assumption) | assumption)
                  have q8 : x3_1 < (sx5.size : Int) := of_decide_eq_true (by first | (with_reducible assumption) | assumption)
                  have hx8 := bt_at sx5 x3_1
                  replace p8 := eq_true p8
                  replace q8 := eq_true q8
                  have p12 : 0 ≤ (x3_1 : Int) := of_decide_eq_true (by first | (with_reducible assumption) | assumption)
                  have q12 : x3_1 < (sx5.size : Int) := of_decide_eq_true (by first | (with_reducible assumption) | assumption)
                  have hx12 := bt_at sx5 x3_1
                  replace p12 := eq_true p12
                  replace q12 := eq_true q12
                  go_wp2
                  go_roundg k1
                  case measure => have := HK1.out; omega
                  case rel => exact ⟨(wrap64 (x3_1 + 1)), (by first | rfl | (simp; done) | (simp [*]; done)), H', ⟨by have := HK1.out; omega⟩, ⟨by repeat (first | (with_reducible first | exact HB.out | apply below_alloc | apply pw_below_drewN | apply below_drew1) | exact HB.out)⟩⟩
            · rw [if_neg c7] at H
              exact absurd H (by simp)
          · rw [if_neg c6] at H
            have c6b0 : decide (x3_1 < (sx5.size : Int)) = false := decide_eq_false c6
            clear c6
            by_cases c16 : 8 + sx5.size ≤ 9223372036854775807
            · rw [if_pos c16] at H
              have c16b0 := eq_true c16
              have c16b1 : decide (8 + sx5.size ≤ 9223372036854775807) = true := decide_eq_true c16
              try have c16b2 : (9223372036854775807 < 8 + sx5.size) = False := eq_false (Nat.not_lt.2 c16)
              replace H := Option.bind_eq_some_iff.mp H
              obtain ⟨⟨t170, t171⟩, A170, H⟩ := H
              replace H : (if 11 + sx5.size ≤ 9223372036854775807 then ((link_Source.f ((⟨#[74, 97, 118, 97, 83, 99, 114, 105, 112, 116, 58]⟩ : ByteArray) ++ sx5)).bind fun bt172 => (if t170.toList = ([120, 43, 121, 45, 122, 46, 49] : List UInt8) then (if t171 = true then (if bt172.1.toList = sx5.toList then (if bt172.2 = true then (if 1 + sx5.size ≤ 9223372036854775807 then ((link_Script.f ((⟨#[120]⟩ : ByteArray) ++ sx5)).bind fun t174 => ((link_Script.f ((⟨#[88]⟩ : ByteArray) ++ sx5)).bind fun t175 => (if ((!t174) == (!t175)) = true then ((boltinglaw09_fixed.f).bind fun t176 => (some t176)) else (some false)))) else (none)) else (some false)) else (some false)) else (some false)) else (some false))) else (none)) = some r := H
              have A17 := Aside0.mk A170
              clear A170
              by_cases c18 : 11 + sx5.size ≤ 9223372036854775807
              · rw [if_pos c18] at H
                have c18b0 := eq_true c18
                have c18b1 : decide (11 + sx5.size ≤ 9223372036854775807) = true := decide_eq_true c18
                try have c18b2 : (9223372036854775807 < 11 + sx5.size) = False := eq_false (Nat.not_lt.2 c18)
                replace H := Option.bind_eq_some_iff.mp H
                obtain ⟨⟨t172, t173⟩, A190, H⟩ := H
                replace H : (if t170.toList = ([120, 43, 121, 45, 122, 46, 49] : List UInt8) then (if t171 = true then (if t172.toList = sx5.toList then (if t173 = true then (if 1 + sx5.size ≤ 9223372036854775807 then ((link_Script.f ((⟨#[120]⟩ : ByteArray) ++ sx5)).bind fun t174 => ((link_Script.f ((⟨#[88]⟩ : ByteArray) ++ sx5)).bind fun t175 => (if ((!t174) == (!t175)) = true then ((boltinglaw09_fixed.f).bind fun t176 => (some t176)) else (some false)))) else (none)) else (some false)) else (some false)) else (some false)) else (some false)) = some r := H
                have A19 := Aside0.mk A190
                clear A190
                by_cases c20 : t170.toList = ([120, 43, 121, 45, 122, 46, 49] : List UInt8)
                · rw [if_pos c20] at H
                  have c20b0 : (t170.toList == ([120, 43, 121, 45, 122, 46, 49] : List UInt8)) = true := beq_iff_eq.mpr c20
                  have c20b1 : (t170.toList != ([120, 43, 121, 45, 122, 46, 49] : List UInt8)) = false := bne_eq_false_iff_eq.mpr c20
                  clear c20
                  by_cases c21 : t171 = true
                  · subst c21
                    have H1 : (if t172.toList = sx5.toList then (if t173 = true then (if 1 + sx5.size ≤ 9223372036854775807 then ((link_Script.f ((⟨#[120]⟩ : ByteArray) ++ sx5)).bind fun t174 => ((link_Script.f ((⟨#[88]⟩ : ByteArray) ++ sx5)).bind fun t175 => (if ((!t174) == (!t175)) = true then ((boltinglaw09_fixed.f).bind fun t176 => (some t176)) else (some false)))) else (none)) else (some false)) else (some false)) = some r := by rw [if_pos rfl] at H; exact H
                    clear H
                    have H := H1
                    clear H1
                    by_cases c22 : t172.toList = sx5.toList
                    · rw [if_pos c22] at H
                      have c22b0 : (t172.toList == sx5.toList) = true := beq_iff_eq.mpr c22
                      have c22b1 : (t172.toList != sx5.toList) = false := bne_eq_false_iff_eq.mpr c22
                      clear c22
                      by_cases c23 : t173 = true
                      · subst c23
                        have H1 : (if 1 + sx5.size ≤ 9223372036854775807 then ((link_Script.f ((⟨#[120]⟩ : ByteArray) ++ sx5)).bind fun t174 => ((link_Script.f ((⟨#[88]⟩ : ByteArray) ++ sx5)).bind fun t175 => (if ((!t174) == (!t175)) = true then ((boltinglaw09_fixed.f).bind fun t176 => (some t176)) else (some false)))) else (none)) = some r := by rw [if_pos rfl] at H; exact H
                        clear H
                        have H := H1
                        clear H1
                        by_cases c24 : 1 + sx5.size ≤ 9223372036854775807
                        · rw [if_pos c24] at H
                          have c24b0 := eq_true c24
                          have c24b1 : decide (1 + sx5.size ≤ 9223372036854775807) = true := decide_eq_true c24
                          try have c24b2 : (9223372036854775807 < 1 + sx5.size) = False := eq_false (Nat.not_lt.2 c24)
                          replace H := Option.bind_eq_some_iff.mp H
                          obtain ⟨t174, A250, H⟩ := H
                          replace H : ((link_Script.f ((⟨#[88]⟩ : ByteArray) ++ sx5)).bind fun t175 => (if ((!t174) == (!t175)) = true then ((boltinglaw09_fixed.f).bind fun t176 => (some t176)) else (some false))) = some r := H
                          have A25 := Aside0.mk A250
                          clear A250
                          replace H := Option.bind_eq_some_iff.mp H
                          obtain ⟨t175, A260, H⟩ := H
                          replace H : (if ((!t174) == (!t175)) = true then ((boltinglaw09_fixed.f).bind fun t176 => (some t176)) else (some false)) = some r := H
                          have A26 := Aside0.mk A260
                          clear A260
                          by_cases c27 : ((!t174) == (!t175)) = true
                          · rw [if_pos c27] at H
                            have c27b0 : ((!t174) == (!t175)) = true := c27
                            (try (have c27b1 : decide ((!t174) = (!t175)) = true := by simpa using c27))
                            (try (have c27b2 : ((!t174) == (!t175)) = true := by simpa using c27))
                            clear c27
                            replace H := Option.bind_eq_some_iff.mp H
                            obtain ⟨t176, A280, H⟩ := H
                            replace H : (some t176) = some r := H
                            have A28 := Aside0.mk A280
                            clear A280
                            obtain rfl := Option.some.inj H
                            go_wp2_with (first | ((with_reducible refine gate_callee (f := 11) rfl ?_); refine goesL_ (some 33) rfl rfl Try.func11 (by kernel_rfl) rfl #[.string ((⟨#[120, 43, 121, 45, 122, 46, 49, 58]⟩ : ByteArray) ++ sx5)] rfl (by (try simp only [List.map_toArray, List.map_cons, List.map_nil]); first | done | rfl | (simp only [List.length_drop, List.length_take]; rfl)) ?_; (with_reducible refine (link_Scheme.calls ((⟨#[120, 43, 121, 45, 122, 46, 49, 58]⟩ : ByteArray) ++ sx5) t170 true _ A17.out).mono ?_); rintro e w29 ⟨rfl, hb⟩; refine ⟨_, rfl, ?_⟩; have n0_ := Aside0.mk (below_step (by repeat (first | (with_reducible first | exact HB.out | apply below_alloc | apply pw_below_drewN | apply below_drew1) | exact HB.out)) hb); clear HB; have HB := n0_; clear n0_; (try clear hb); (try clear hb2); (try clear hk); (try clear hi)) | ((with_reducible refine gate_callee (f := 16) rfl ?_); refine goesL_ (some 39) rfl rfl Try.func16 (by kernel_rfl) rfl #[.string ((⟨#[74, 97, 118, 97, 83, 99, 114, 105, 112, 116, 58]⟩ : ByteArray) ++ sx5)] rfl (by (try simp only [List.map_toArray, List.map_cons, List.map_nil]); first | done | rfl | (simp only [List.length_drop, List.length_take]; rfl)) ?_; (with_reducible refine (link_Source.calls ((⟨#[74, 97, 118, 97, 83, 99, 114, 105, 112, 116, 58]⟩ : ByteArray) ++ sx5) t172 true _ A19.out).mono ?_); rintro e w30 ⟨rfl, hb⟩; refine ⟨_, rfl, ?_⟩; have n0_ := Aside0.mk (below_step (by repeat (first | (with_reducible first | exact HB.out | apply below_alloc | apply pw_below_drewN | apply below_drew1) | exact HB.out)) hb); clear HB; have HB := n0_; clear n0_; (try clear hb); (try clear hb2); (try clear hk); (try clear hi)) | (go_at_call 18; (with_reducible refine (link_Script.calls ((⟨#[120]⟩ : ByteArray) ++ sx5) t174 _ A25.out).mono ?_); rintro e w31 ⟨rfl, hb⟩; have n0_ := Aside0.mk (below_step (by repeat (first | (with_reducible first | exact HB.out | apply below_alloc | apply pw_below_drewN | apply below_drew1) | exact HB.out)) hb); clear HB; have HB := n0_; clear n0_; (try clear hb); (try clear hb2); (try clear hk); (try clear hi)) | (go_at_call 18; (with_reducible refine (link_Script.calls ((⟨#[88]⟩ : ByteArray) ++ sx5) t175 _ A26.out).mono ?_); rintro e w32 ⟨rfl, hb⟩; have n0_ := Aside0.mk (below_step (by repeat (first | (with_reducible first | exact HB.out | apply below_alloc | apply pw_below_drewN | apply below_drew1) | exact HB.out)) hb); clear HB; have HB := n0_; clear n0_; (try clear hb); (try clear hb2); (try clear hk); (try clear hi)) | (go_at_call 13; (with_reducible refine (boltinglaw09_fixed.calls  t176 _ A28.out).mono ?_); rintro e w33 ⟨rfl, hb⟩; have n0_ := Aside0.mk (below_step (by repeat (first | (with_reducible first | exact HB.out | apply below_alloc | apply pw_below_drewN | apply below_drew1) | exact HB.out)) hb); clear HB; have HB := n0_; clear n0_; (try clear hb); (try clear hb2); (try clear hk); (try clear hi)))
                            go_ret
                            exact ⟨by first | rfl | (simp [errW_none, errW_some] <;> rfl) | (simp only [← hji2]; first | rfl | (simp [errW_none, errW_some] <;> rfl)) | (simp [*, errW_none, errW_some] <;> rfl), by repeat (first | (with_reducible first | exact HB.out | apply below_alloc | apply pw_below_drewN | apply below_drew1) | exact HB.out)⟩
                          · rw [if_neg c27] at H
                            have c27b0 : ((!t174) == (!t175)) = false := by simpa using c27
                            (try (have c27b1 : decide ((!t174) = (!t175)) = false := by simpa using c27))
                            (try (have c27b2 : ((!t174) == (!t175)) = false := by simpa using c27))
                            (try (have c27b3 : ¬ ((!t174) = (!t175)) := by simpa using c27))
                            clear c27
                            obtain rfl := Option.some.inj H
                            go_wp2_with (first | ((with_reducible refine gate_callee (f := 11) rfl ?_); refine goesL_ (some 33) rfl rfl Try.func11 (by kernel_rfl) rfl #[.string ((⟨#[120, 43, 121, 45, 122, 46, 49, 58]⟩ : ByteArray) ++ sx5)] rfl (by (try simp only [List.map_toArray, List.map_cons, List.map_nil]); first | done | rfl | (simp only [List.length_drop, List.length_take]; rfl)) ?_; (with_reducible refine (link_Scheme.calls ((⟨#[120, 43, 121, 45, 122, 46, 49, 58]⟩ : ByteArray) ++ sx5) t170 true _ A17.out).mono ?_); rintro e w34 ⟨rfl, hb⟩; refine ⟨_, rfl, ?_⟩; have n0_ := Aside0.mk (below_step (by repeat (first | (with_reducible first | exact HB.out | apply below_alloc | apply pw_below_drewN | apply below_drew1) | exact HB.out)) hb); clear HB; have HB := n0_; clear n0_; (try clear hb); (try clear hb2); (try clear hk); (try clear hi)) | ((with_reducible refine gate_callee (f := 16) rfl ?_); refine goesL_ (some 39) rfl rfl Try.func16 (by kernel_rfl) rfl #[.string ((⟨#[74, 97, 118, 97, 83, 99, 114, 105, 112, 116, 58]⟩ : ByteArray) ++ sx5)] rfl (by (try simp only [List.map_toArray, List.map_cons, List.map_nil]); first | done | rfl | (simp only [List.length_drop, List.length_take]; rfl)) ?_; (with_reducible refine (link_Source.calls ((⟨#[74, 97, 118, 97, 83, 99, 114, 105, 112, 116, 58]⟩ : ByteArray) ++ sx5) t172 true _ A19.out).mono ?_); rintro e w35 ⟨rfl, hb⟩; refine ⟨_, rfl, ?_⟩; have n0_ := Aside0.mk (below_step (by repeat (first | (with_reducible first | exact HB.out | apply below_alloc | apply pw_below_drewN | apply below_drew1) | exact HB.out)) hb); clear HB; have HB := n0_; clear n0_; (try clear hb); (try clear hb2); (try clear hk); (try clear hi)) | (go_at_call 18; (with_reducible refine (link_Script.calls ((⟨#[120]⟩ : ByteArray) ++ sx5) t174 _ A25.out).mono ?_); rintro e w36 ⟨rfl, hb⟩; have n0_ := Aside0.mk (below_step (by repeat (first | (with_reducible first | exact HB.out | apply below_alloc | apply pw_below_drewN | apply below_drew1) | exact HB.out)) hb); clear HB; have HB := n0_; clear n0_; (try clear hb); (try clear hb2); (try clear hk); (try clear hi)) | (go_at_call 18; (with_reducible refine (link_Script.calls ((⟨#[88]⟩ : ByteArray) ++ sx5) t175 _ A26.out).mono ?_); rintro e w37 ⟨rfl, hb⟩; have n0_ := Aside0.mk (below_step (by repeat (first | (with_reducible first | exact HB.out | apply below_alloc | apply pw_below_drewN | apply below_drew1) | exact HB.out)) hb); clear HB; have HB := n0_; clear n0_; (try clear hb); (try clear hb2); (try clear hk); (try clear hi)))
                            go_ret
                            exact ⟨by first | rfl | (simp [errW_none, errW_some] <;> rfl) | (simp only [← hji2]; first | rfl | (simp [errW_none, errW_some] <;> rfl)) | (simp [*, errW_none, errW_some] <;> rfl), by repeat (first | (with_reducible first | exact HB.out | apply below_alloc | apply pw_below_drewN | apply below_drew1) | exact HB.out)⟩
                        · rw [if_neg c24] at H
                          exact absurd H (by simp)
                      · replace c23 := Bool.eq_false_iff.mpr c23
                        subst c23
                        have H1 : (some false) = some r := by rw [if_neg (show ¬ (false = true) by decide)] at H; exact H
                        clear H
                        have H := H1
                        clear H1
                        obtain rfl := Option.some.inj H
                        go_wp2_with (first | ((with_reducible refine gate_callee (f := 11) rfl ?_); refine goesL_ (some 33) rfl rfl Try.func11 (by kernel_rfl) rfl #[.string ((⟨#[120, 43, 121, 45, 122, 46, 49, 58]⟩ : ByteArray) ++ sx5)] rfl (by (try simp only [List.map_toArray, List.map_cons, List.map_nil]); first | done | rfl | (simp only [List.length_drop, List.length_take]; rfl)) ?_; (with_reducible refine (link_Scheme.calls ((⟨#[120, 43, 121, 45, 122, 46, 49, 58]⟩ : ByteArray) ++ sx5) t170 true _ A17.out).mono ?_); rintro e w38 ⟨rfl, hb⟩; refine ⟨_, rfl, ?_⟩; have n0_ := Aside0.mk (below_step (by repeat (first | (with_reducible first | exact HB.out | apply below_alloc | apply pw_below_drewN | apply below_drew1) | exact HB.out)) hb); clear HB; have HB := n0_; clear n0_; (try clear hb); (try clear hb2); (try clear hk); (try clear hi)) | ((with_reducible refine gate_callee (f := 16) rfl ?_); refine goesL_ (some 39) rfl rfl Try.func16 (by kernel_rfl) rfl #[.string ((⟨#[74, 97, 118, 97, 83, 99, 114, 105, 112, 116, 58]⟩ : ByteArray) ++ sx5)] rfl (by (try simp only [List.map_toArray, List.map_cons, List.map_nil]); first | done | rfl | (simp only [List.length_drop, List.length_take]; rfl)) ?_; (with_reducible refine (link_Source.calls ((⟨#[74, 97, 118, 97, 83, 99, 114, 105, 112, 116, 58]⟩ : ByteArray) ++ sx5) t172 false _ A19.out).mono ?_); rintro e w39 ⟨rfl, hb⟩; refine ⟨_, rfl, ?_⟩; have n0_ := Aside0.mk (below_step (by repeat (first | (with_reducible first | exact HB.out | apply below_alloc | apply pw_below_drewN | apply below_drew1) | exact HB.out)) hb); clear HB; have HB := n0_; clear n0_; (try clear hb); (try clear hb2); (try clear hk); (try clear hi)))
                        go_ret
                        exact ⟨by first | rfl | (simp [errW_none, errW_some] <;> rfl) | (simp only [← hji2]; first | rfl | (simp [errW_none, errW_some] <;> rfl)) | (simp [*, errW_none, errW_some] <;> rfl), by repeat (first | (with_reducible first | exact HB.out | apply below_alloc | apply pw_below_drewN | apply below_drew1) | exact HB.out)⟩
                    · rw [if_neg c22] at H
                      have c22b0 : (t172.toList == sx5.toList) = false := beq_eq_false_iff_ne.mpr c22
                      have c22b1 : (t172.toList != sx5.toList) = true := bne_iff_ne.mpr c22
                      obtain rfl := Option.some.inj H
                      go_wp2_with (first | ((with_reducible refine gate_callee (f := 11) rfl ?_); refine goesL_ (some 33) rfl rfl Try.func11 (by kernel_rfl) rfl #[.string ((⟨#[120, 43, 121, 45, 122, 46, 49, 58]⟩ : ByteArray) ++ sx5)] rfl (by (try simp only [List.map_toArray, List.map_cons, List.map_nil]); first | done | rfl | (simp only [List.length_drop, List.length_take]; rfl)) ?_; (with_reducible refine (link_Scheme.calls ((⟨#[120, 43, 121, 45, 122, 46, 49, 58]⟩ : ByteArray) ++ sx5) t170 true _ A17.out).mono ?_); rintro e w40 ⟨rfl, hb⟩; refine ⟨_, rfl, ?_⟩; have n0_ := Aside0.mk (below_step (by repeat (first | (with_reducible first | exact HB.out | apply below_alloc | apply pw_below_drewN | apply below_drew1) | exact HB.out)) hb); clear HB; have HB := n0_; clear n0_; (try clear hb); (try clear hb2); (try clear hk); (try clear hi)) | ((with_reducible refine gate_callee (f := 16) rfl ?_); refine goesL_ (some 39) rfl rfl Try.func16 (by kernel_rfl) rfl #[.string ((⟨#[74, 97, 118, 97, 83, 99, 114, 105, 112, 116, 58]⟩ : ByteArray) ++ sx5)] rfl (by (try simp only [List.map_toArray, List.map_cons, List.map_nil]); first | done | rfl | (simp only [List.length_drop, List.length_take]; rfl)) ?_; (with_reducible refine (link_Source.calls ((⟨#[74, 97, 118, 97, 83, 99, 114, 105, 112, 116, 58]⟩ : ByteArray) ++ sx5) t172 t173 _ A19.out).mono ?_); rintro e w41 ⟨rfl, hb⟩; refine ⟨_, rfl, ?_⟩; have n0_ := Aside0.mk (below_step (by repeat (first | (with_reducible first | exact HB.out | apply below_alloc | apply pw_below_drewN | apply below_drew1) | exact HB.out)) hb); clear HB; have HB := n0_; clear n0_; (try clear hb); (try clear hb2); (try clear hk); (try clear hi)))
                      go_ret
                      exact ⟨by first | rfl | (simp [errW_none, errW_some] <;> rfl) | (simp only [← hji2]; first | rfl | (simp [errW_none, errW_some] <;> rfl)) | (simp [*, errW_none, errW_some] <;> rfl), by repeat (first | (with_reducible first | exact HB.out | apply below_alloc | apply pw_below_drewN | apply below_drew1) | exact HB.out)⟩
                  · replace c21 := Bool.eq_false_iff.mpr c21
                    subst c21
                    have H1 : (some false) = some r := by rw [if_neg (show ¬ (false = true) by decide)] at H; exact H
                    clear H
                    have H := H1
                    clear H1
                    obtain rfl := Option.some.inj H
                    go_wp2_with (first | ((with_reducible refine gate_callee (f := 11) rfl ?_); refine goesL_ (some 33) rfl rfl Try.func11 (by kernel_rfl) rfl #[.string ((⟨#[120, 43, 121, 45, 122, 46, 49, 58]⟩ : ByteArray) ++ sx5)] rfl (by (try simp only [List.map_toArray, List.map_cons, List.map_nil]); first | done | rfl | (simp only [List.length_drop, List.length_take]; rfl)) ?_; (with_reducible refine (link_Scheme.calls ((⟨#[120, 43, 121, 45, 122, 46, 49, 58]⟩ : ByteArray) ++ sx5) t170 false _ A17.out).mono ?_); rintro e w42 ⟨rfl, hb⟩; refine ⟨_, rfl, ?_⟩; have n0_ := Aside0.mk (below_step (by repeat (first | (with_reducible first | exact HB.out | apply below_alloc | apply pw_below_drewN | apply below_drew1) | exact HB.out)) hb); clear HB; have HB := n0_; clear n0_; (try clear hb); (try clear hb2); (try clear hk); (try clear hi)) | ((with_reducible refine gate_callee (f := 16) rfl ?_); refine goesL_ (some 39) rfl rfl Try.func16 (by kernel_rfl) rfl #[.string ((⟨#[74, 97, 118, 97, 83, 99, 114, 105, 112, 116, 58]⟩ : ByteArray) ++ sx5)] rfl (by (try simp only [List.map_toArray, List.map_cons, List.map_nil]); first | done | rfl | (simp only [List.length_drop, List.length_take]; rfl)) ?_; (with_reducible refine (link_Source.calls ((⟨#[74, 97, 118, 97, 83, 99, 114, 105, 112, 116, 58]⟩ : ByteArray) ++ sx5) t172 t173 _ A19.out).mono ?_); rintro e w43 ⟨rfl, hb⟩; refine ⟨_, rfl, ?_⟩; have n0_ := Aside0.mk (below_step (by repeat (first | (with_reducible first | exact HB.out | apply below_alloc | apply pw_below_drewN | apply below_drew1) | exact HB.out)) hb); clear HB; have HB := n0_; clear n0_; (try clear hb); (try clear hb2); (try clear hk); (try clear hi)))
                    go_ret
                    exact ⟨by first | rfl | (simp [errW_none, errW_some] <;> rfl) | (simp only [← hji2]; first | rfl | (simp [errW_none, errW_some] <;> rfl)) | (simp [*, errW_none, errW_some] <;> rfl), by repeat (first | (with_reducible first | exact HB.out | apply below_alloc | apply pw_below_drewN | apply below_drew1) | exact HB.out)⟩
                · rw [if_neg c20] at H
                  have c20b0 : (t170.toList == ([120, 43, 121, 45, 122, 46, 49] : List UInt8)) = false := beq_eq_false_iff_ne.mpr c20
                  have c20b1 : (t170.toList != ([120, 43, 121, 45, 122, 46, 49] : List UInt8)) = true := bne_iff_ne.mpr c20
                  obtain rfl := Option.some.inj H
                  go_wp2_with (first | ((with_reducible refine gate_callee (f := 11) rfl ?_); refine goesL_ (some 33) rfl rfl Try.func11 (by kernel_rfl) rfl #[.string ((⟨#[120, 43, 121, 45, 122, 46, 49, 58]⟩ : ByteArray) ++ sx5)] rfl (by (try simp only [List.map_toArray, List.map_cons, List.map_nil]); first | done | rfl | (simp only [List.length_drop, List.length_take]; rfl)) ?_; (with_reducible refine (link_Scheme.calls ((⟨#[120, 43, 121, 45, 122, 46, 49, 58]⟩ : ByteArray) ++ sx5) t170 t171 _ A17.out).mono ?_); rintro e w44 ⟨rfl, hb⟩; refine ⟨_, rfl, ?_⟩; have n0_ := Aside0.mk (below_step (by repeat (first | (with_reducible first | exact HB.out | apply below_alloc | apply pw_below_drewN | apply below_drew1) | exact HB.out)) hb); clear HB; have HB := n0_; clear n0_; (try clear hb); (try clear hb2); (try clear hk); (try clear hi)) | ((with_reducible refine gate_callee (f := 16) rfl ?_); refine goesL_ (some 39) rfl rfl Try.func16 (by kernel_rfl) rfl #[.string ((⟨#[74, 97, 118, 97, 83, 99, 114, 105, 112, 116, 58]⟩ : ByteArray) ++ sx5)] rfl (by (try simp only [List.map_toArray, List.map_cons, List.map_nil]); first | done | rfl | (simp only [List.length_drop, List.length_take]; rfl)) ?_; (with_reducible refine (link_Source.calls ((⟨#[74, 97, 118, 97, 83, 99, 114, 105, 112, 116, 58]⟩ : ByteArray) ++ sx5) t172 t173 _ A19.out).mono ?_); rintro e w45 ⟨rfl, hb⟩; refine ⟨_, rfl, ?_⟩; have n0_ := Aside0.mk (below_step (by repeat (first | (with_reducible first | exact HB.out | apply below_alloc | apply pw_below_drewN | apply below_drew1) | exact HB.out)) hb); clear HB; have HB := n0_; clear n0_; (try clear hb); (try clear hb2); (try clear hk); (try clear hi)))
                  go_ret
                  exact ⟨by first | rfl | (simp [errW_none, errW_some] <;> rfl) | (simp only [← hji2]; first | rfl | (simp [errW_none, errW_some] <;> rfl)) | (simp [*, errW_none, errW_some] <;> rfl), by repeat (first | (with_reducible first | exact HB.out | apply below_alloc | apply pw_below_drewN | apply below_drew1) | exact HB.out)⟩
              · rw [if_neg c18] at H
                exact absurd H (by simp)
            · rw [if_neg c16] at H
              exact absurd H (by simp)
    · rw [if_neg c4] at H
      exact absurd H (by simp)
  · rw [if_neg c3] at H
    exact absurd H (by simp)

/-- THE ONE PURE STATEMENT of boltinglaw09_LinkMade: yours. -/
def boltinglaw09_LinkMade.Pure : Prop := ∀ (a0 : ByteArray), a0.size ≤ 140737488351232 → ∃ k, boltinglaw09_LinkMade.f k a0 = some true
theorem boltinglaw09_LinkMade.walk (P : boltinglaw09_LinkMade.Pure) (a0 : ByteArray) (w : World) (w0 : a0.size ≤ 140737488351232) :
    Calls Try.prog 7 #[.string a0] w fun e w' => e = .returned (.bool true) ∧ Below w.heap.size w w' := by
  obtain ⟨k, h⟩ := P a0 w0
  refine (boltinglaw09_LinkMade.calls k a0 true w h).mono ?_
  rintro e w' ⟨rfl, hd⟩
  exact ⟨rfl, hd⟩

end Go.Proofs.Ythnakndpdfgapaa.Pr
