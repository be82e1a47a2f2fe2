-- Written by wip/tools/pr.sh out of Lean's own print of the translation. Not trusted: Lean checks it.
import Derived.Test.YtaeikiigdfgmaaaDoorPrx0
import Derived.Test.YtaeikiigdfgmaaaDoorPrx2
namespace Go.Proofs.YtaeikiigdfgmaaaDoor.Pr
open Go.RowKit Go.Proofs.YtaeikiigdfgmaaaDoorW.PrintWords Go.Proofs.YtaeikiigdfgmaaaDoorW.PrintLast Go.Proofs.YtaeikiigdfgmaaaDoorW.PrintMore
attribute [local go_sem] max2_int min2_int max_two min_two max_three min_three max_four min_four   -- for this text's walks alone
set_option linter.unusedVariables false
set_option linter.unusedSimpArgs false

/-! ### boltinglaw01_CharsJoins: function 7 -/
def boltinglaw01_CharsJoins.j0 : Nat → ByteArray → ByteArray → Bool → Option (Bool)
  | 0, _, _, _ => none
  | k + 1, x0, x1, x12 => if x12 = true then ((boltinglaw01_fixed.f).bind fun t177 => (some t177)) else (if x0.size + x1.size ≤ 9223372036854775807 then ((chars_Right.f (x0 ++ x1)).bind fun t178 => (if t178 = true then ((chars_Decode.f (x0 ++ x1)).bind fun t179 => ((chars_Decode.f x0).bind fun t180 => ((chars_Decode.f x1).bind fun t181 => (if t180.size + t181.size ≤ 9223372036854775807 then (if t179.toList = (t180 ++ t181).toList then ((chars_Count.f (x0 ++ x1)).bind fun t182 => ((chars_Count.f x0).bind fun t183 => ((chars_Count.f x1).bind fun t184 => (if t182 = (wrap64 (t183 + t184)) then ((boltinglaw01_fixed.f).bind fun t185 => (some t185)) else (some false))))) else (some false)) else (none))))) else (some false))) else (none))
def boltinglaw01_CharsJoins.f (k : Nat) (a0 : ByteArray) (a1 : ByteArray) : Option (Bool) := (chars_Right.f a0).bind fun t175 => (if t175 = true then ((chars_Right.f a1).bind fun t176 => (boltinglaw01_CharsJoins.j0 k a0 a1 (!t176))) else (boltinglaw01_CharsJoins.j0 k a0 a1 true))
theorem boltinglaw01_CharsJoins.mono_l : ∀ k, (∀ y0 y1 y2, LeO (boltinglaw01_CharsJoins.j0 k y0 y1 y2) (boltinglaw01_CharsJoins.j0 (k + 1) y0 y1 y2))
  | 0 => fun _ _ _ r h => by simp [boltinglaw01_CharsJoins.j0] at h
  | k + 1 => by
    have ih0 := boltinglaw01_CharsJoins.mono_l k
    · intro y0 y1 y2
      unfold boltinglaw01_CharsJoins.j0
      repeat' first
      | (with_reducible exact ih0 _ _ _)
      | (with_reducible exact LeO.refl _)
      | (with_reducible exact LeO.none _)
      | (with_reducible refine LeO.ite ?_ ?_)
      | (with_reducible refine LeO.bind ?_ (fun _ => ?_))
      | exact ih0 _ _ _
      | exact LeO.none _
      | refine LeO.ite ?_ ?_
      | refine LeO.bind ?_ (fun _ => ?_)
theorem boltinglaw01_CharsJoins.mono : ∀ a0 a1 k, LeO (boltinglaw01_CharsJoins.f k a0 a1) (boltinglaw01_CharsJoins.f (k + 1) a0 a1) := by
  intro a0 a1 k
  have ih0 := boltinglaw01_CharsJoins.mono_l k
  unfold boltinglaw01_CharsJoins.f
  repeat' first
      | (with_reducible exact ih0 _ _ _)
      | (with_reducible exact LeO.refl _)
      | (with_reducible exact LeO.none _)
      | (with_reducible refine LeO.ite ?_ ?_)
      | (with_reducible refine LeO.bind ?_ (fun _ => ?_))
      | exact ih0 _ _ _
      | exact LeO.none _
      | refine LeO.ite ?_ ?_
      | refine LeO.bind ?_ (fun _ => ?_)
set_option maxHeartbeats 8000000 in
set_option maxRecDepth 100000 in
theorem boltinglaw01_CharsJoins.calls (k : Nat) (a0 : ByteArray) (a1 : ByteArray) (r : Bool) (w : World) (hG0 : G w) (h : boltinglaw01_CharsJoins.f k a0 a1 = some r) :
    Calls Tryd.prog 7 #[.string a0, .string a1] w fun e w' => e = .returned (.bool r) ∧ Below w.heap.size w w' := by
  have hG := Aside0.mk hG0
  clear hG0
  have HB := Aside0.mk (Below.refl w.heap.size w)
  have H : ((chars_Right.f a0).bind fun t175 => (if t175 = true then ((chars_Right.f a1).bind fun t176 => (boltinglaw01_CharsJoins.j0 k a0 a1 (!t176))) else (boltinglaw01_CharsJoins.j0 k a0 a1 true))) = some r := h
  clear h
  have HC3 := Aside0.mk H
  clear H
  go_enter Tryd.func7, Tryd.ntmps7
  go_upto_region 1 with (fail)
  go_cut [12] (fun v12 wc => ∃ (kq : Nat) (x12_2 : Bool), v12 = .bool x12_2 ∧ Aside0 (boltinglaw01_CharsJoins.j0 kq a0 a1 x12_2 = some r) ∧ Aside0 (kq ≤ k) ∧ Aside0 (Below w.heap.size w wc))
  case first =>
    have H := HC3.out
    clear HC3
    replace H := Option.bind_eq_some_iff.mp H
    obtain ⟨t175, A40, H⟩ := H
    replace H : (if t175 = true then ((chars_Right.f a1).bind fun t176 => (boltinglaw01_CharsJoins.j0 k a0 a1 (!t176))) else (boltinglaw01_CharsJoins.j0 k a0 a1 true)) = some r := H
    have A4 := Aside0.mk A40
    clear A40
    by_cases c5 : t175 = true
    · subst c5
      have H1 : ((chars_Right.f a1).bind fun t176 => (boltinglaw01_CharsJoins.j0 k a0 a1 (!t176))) = some r := by rw [if_pos rfl] at H; exact H
      clear H
      have H := H1
      clear H1
      replace H := Option.bind_eq_some_iff.mp H
      obtain ⟨t176, A60, H⟩ := H
      replace H : (boltinglaw01_CharsJoins.j0 k a0 a1 (!t176)) = some r := H
      have A6 := Aside0.mk A60
      clear A60
      have H' := Aside0.mk H
      clear H
      go_wp2_with (first | ((with_reducible refine gate_callee (f := 15) rfl ?_); refine goesL_ (some 6) rfl rfl Tryd.func15 (by kernel_rfl) rfl #[.string a0] rfl (by (try simp only [List.map_toArray, List.map_cons, List.map_nil]); first | done | rfl | (simp only [List.length_drop, List.length_take]; rfl)) ?_; (with_reducible refine (chars_Right.calls a0 true _ (hG.out.go (by repeat (first | (with_reducible first | exact HB.out | apply below_alloc | apply pw_below_drewN | apply below_drew1) | exact HB.out))) A4.out).mono ?_); rintro e w7 ⟨rfl, hb⟩; refine ⟨_, rfl, ?_⟩; have n0_ := Aside0.mk (below_step (by repeat (first | (with_reducible first | exact HB.out | apply below_alloc | apply pw_below_drewN | apply below_drew1) | exact HB.out)) hb); clear HB; have HB := n0_; clear n0_; (try clear hb); (try clear hb2); (try clear hk); (try clear hi)) | (go_at_call 15; (with_reducible refine (chars_Right.calls a1 t176 _ (hG.out.go (by repeat (first | (with_reducible first | exact HB.out | apply below_alloc | apply pw_below_drewN | apply below_drew1) | exact HB.out))) A6.out).mono ?_); rintro e w8 ⟨rfl, hb⟩; have n0_ := Aside0.mk (below_step (by repeat (first | (with_reducible first | exact HB.out | apply below_alloc | apply pw_below_drewN | apply below_drew1) | exact HB.out)) hb); clear HB; have HB := n0_; clear n0_; (try clear hb); (try clear hb2); (try clear hk); (try clear hi)))
      go_meet
      case rel => exact ⟨_, (!t176), (by first | rfl | (simp; done) | (simp [*]; done)), H', ⟨by first | omega | exact Nat.le_refl _⟩, ⟨by repeat (first | (with_reducible first | exact HB.out | apply below_alloc | apply pw_below_drewN | apply below_drew1) | exact HB.out)⟩⟩
    · replace c5 := Bool.eq_false_iff.mpr c5
      subst c5
      have H1 : (boltinglaw01_CharsJoins.j0 k a0 a1 true) = some r := by rw [if_neg (show ¬ (false = true) by decide)] at H; exact H
      clear H
      have H := H1
      clear H1
      have H' := Aside0.mk H
      clear H
      go_wp2_with (first | ((with_reducible refine gate_callee (f := 15) rfl ?_); refine goesL_ (some 6) rfl rfl Tryd.func15 (by kernel_rfl) rfl #[.string a0] rfl (by (try simp only [List.map_toArray, List.map_cons, List.map_nil]); first | done | rfl | (simp only [List.length_drop, List.length_take]; rfl)) ?_; (with_reducible refine (chars_Right.calls a0 false _ (hG.out.go (by repeat (first | (with_reducible first | exact HB.out | apply below_alloc | apply pw_below_drewN | apply below_drew1) | exact HB.out))) A4.out).mono ?_); rintro e w9 ⟨rfl, hb⟩; refine ⟨_, rfl, ?_⟩; have n0_ := Aside0.mk (below_step (by repeat (first | (with_reducible first | exact HB.out | apply below_alloc | apply pw_below_drewN | apply below_drew1) | exact HB.out)) hb); clear HB; have HB := n0_; clear n0_; (try clear hb); (try clear hb2); (try clear hk); (try clear hi)))
      go_meet
      case rel => exact ⟨_, (true), (by first | rfl | (simp; done) | (simp [*]; done)), H', ⟨by first | omega | exact Nat.le_refl _⟩, ⟨by repeat (first | (with_reducible first | exact HB.out | apply below_alloc | apply pw_below_drewN | apply below_drew1) | exact HB.out)⟩⟩
  case rest =>
    clear HC3
    try clear c1
    try clear p2
    try clear c5
    try clear c7
    obtain ⟨kq, x12_2, rfl, HA, HJ2, HB⟩ := hcut
    cases kq with
    | zero => exact absurd HA.out (by simp [boltinglaw01_CharsJoins.j0])
    | succ kj2 =>
      have H := HA.out
      clear HA
      simp only [boltinglaw01_CharsJoins.j0] at H
      by_cases c10 : x12_2 = true
      · subst c10
        have H1 : ((boltinglaw01_fixed.f).bind fun t177 => (some t177)) = some r := by rw [if_pos rfl] at H; exact H
        clear H
        have H := H1
        clear H1
        replace H := Option.bind_eq_some_iff.mp H
        obtain ⟨t177, A110, H⟩ := H
        replace H : (some t177) = some r := H
        have A11 := Aside0.mk A110
        clear A110
        obtain rfl := Option.some.inj H
        go_wp2_with (first | ((with_reducible refine gate_callee (f := 12) rfl ?_); refine goesL_ (some 13) rfl rfl Tryd.func12 (by kernel_rfl) rfl #[] rfl (by (try simp only [List.map_toArray, List.map_cons, List.map_nil]); first | done | rfl | (simp only [List.length_drop, List.length_take]; rfl)) ?_; (with_reducible refine (boltinglaw01_fixed.calls  t177 _ (hG.out.go (by repeat (first | (with_reducible first | exact HB.out | apply below_alloc | apply pw_below_drewN | apply below_drew1) | exact HB.out))) A11.out).mono ?_); rintro e w12 ⟨rfl, hb⟩; refine ⟨_, rfl, ?_⟩; have n0_ := Aside0.mk (below_step (by repeat (first | (with_reducible first | exact HB.out | apply below_alloc | apply pw_below_drewN | apply below_drew1) | exact HB.out)) hb); clear HB; have HB := n0_; clear n0_; (try clear hb); (try clear hb2); (try clear hk); (try clear hi)))
        go_ret
        exact ⟨by first | rfl | (simp [errW_none, errW_some] <;> rfl) | (simp [*, errW_none, errW_some] <;> rfl), by repeat (first | (with_reducible first | exact HB.out | apply below_alloc | apply pw_below_drewN | apply below_drew1) | exact HB.out)⟩
      · replace c10 := Bool.eq_false_iff.mpr c10
        subst c10
        have H1 : (if a0.size + a1.size ≤ 9223372036854775807 then ((chars_Right.f (a0 ++ a1)).bind fun t178 => (if t178 = true then ((chars_Decode.f (a0 ++ a1)).bind fun t179 => ((chars_Decode.f a0).bind fun t180 => ((chars_Decode.f a1).bind fun t181 => (if t180.size + t181.size ≤ 9223372036854775807 then (if t179.toList = (t180 ++ t181).toList then ((chars_Count.f (a0 ++ a1)).bind fun t182 => ((chars_Count.f a0).bind fun t183 => ((chars_Count.f a1).bind fun t184 => (if t182 = (wrap64 (t183 + t184)) then ((boltinglaw01_fixed.f).bind fun t185 => (some t185)) else (some false))))) else (some false)) else (none))))) else (some false))) else (none)) = some r := by rw [if_neg (show ¬ (false = true) by decide)] at H; exact H
        clear H
        have H := H1
        clear H1
        by_cases c13 : a0.size + a1.size ≤ 9223372036854775807
        · rw [if_pos c13] at H
          have c13b0 := eq_true c13
          have c13b1 : decide (a0.size + a1.size ≤ 9223372036854775807) = true := decide_eq_true c13
          try have c13b2 : (9223372036854775807 < a0.size + a1.size) = False := eq_false (Nat.not_lt.2 c13)
          replace H := Option.bind_eq_some_iff.mp H
          obtain ⟨t178, A140, H⟩ := H
          replace H : (if t178 = true then ((chars_Decode.f (a0 ++ a1)).bind fun t179 => ((chars_Decode.f a0).bind fun t180 => ((chars_Decode.f a1).bind fun t181 => (if t180.size + t181.size ≤ 9223372036854775807 then (if t179.toList = (t180 ++ t181).toList then ((chars_Count.f (a0 ++ a1)).bind fun t182 => ((chars_Count.f a0).bind fun t183 => ((chars_Count.f a1).bind fun t184 => (if t182 = (wrap64 (t183 + t184)) then ((boltinglaw01_fixed.f).bind fun t185 => (some t185)) else (some false))))) else (some false)) else (none))))) else (some false)) = some r := H
          have A14 := Aside0.mk A140
          clear A140
          by_cases c15 : t178 = true
          · subst c15
            have H1 : ((chars_Decode.f (a0 ++ a1)).bind fun t179 => ((chars_Decode.f a0).bind fun t180 => ((chars_Decode.f a1).bind fun t181 => (if t180.size + t181.size ≤ 9223372036854775807 then (if t179.toList = (t180 ++ t181).toList then ((chars_Count.f (a0 ++ a1)).bind fun t182 => ((chars_Count.f a0).bind fun t183 => ((chars_Count.f a1).bind fun t184 => (if t182 = (wrap64 (t183 + t184)) then ((boltinglaw01_fixed.f).bind fun t185 => (some t185)) else (some false))))) else (some false)) else (none))))) = some r := by rw [if_pos rfl] at H; exact H
            clear H
            have H := H1
            clear H1
            replace H := Option.bind_eq_some_iff.mp H
            obtain ⟨t179, A160, H⟩ := H
            replace H : ((chars_Decode.f a0).bind fun t180 => ((chars_Decode.f a1).bind fun t181 => (if t180.size + t181.size ≤ 9223372036854775807 then (if t179.toList = (t180 ++ t181).toList then ((chars_Count.f (a0 ++ a1)).bind fun t182 => ((chars_Count.f a0).bind fun t183 => ((chars_Count.f a1).bind fun t184 => (if t182 = (wrap64 (t183 + t184)) then ((boltinglaw01_fixed.f).bind fun t185 => (some t185)) else (some false))))) else (some false)) else (none)))) = some r := H
            have A16 := Aside0.mk A160
            clear A160
            replace H := Option.bind_eq_some_iff.mp H
            obtain ⟨t180, A170, H⟩ := H
            replace H : ((chars_Decode.f a1).bind fun t181 => (if t180.size + t181.size ≤ 9223372036854775807 then (if t179.toList = (t180 ++ t181).toList then ((chars_Count.f (a0 ++ a1)).bind fun t182 => ((chars_Count.f a0).bind fun t183 => ((chars_Count.f a1).bind fun t184 => (if t182 = (wrap64 (t183 + t184)) then ((boltinglaw01_fixed.f).bind fun t185 => (some t185)) else (some false))))) else (some false)) else (none))) = some r := H
            have A17 := Aside0.mk A170
            clear A170
            replace H := Option.bind_eq_some_iff.mp H
            obtain ⟨t181, A180, H⟩ := H
            replace H : (if t180.size + t181.size ≤ 9223372036854775807 then (if t179.toList = (t180 ++ t181).toList then ((chars_Count.f (a0 ++ a1)).bind fun t182 => ((chars_Count.f a0).bind fun t183 => ((chars_Count.f a1).bind fun t184 => (if t182 = (wrap64 (t183 + t184)) then ((boltinglaw01_fixed.f).bind fun t185 => (some t185)) else (some false))))) else (some false)) else (none)) = some r := H
            have A18 := Aside0.mk A180
            clear A180
            by_cases c19 : t180.size + t181.size ≤ 9223372036854775807
            · rw [if_pos c19] at H
              have c19b0 := eq_true c19
              have c19b1 : decide (t180.size + t181.size ≤ 9223372036854775807) = true := decide_eq_true c19
              try have c19b2 : (9223372036854775807 < t180.size + t181.size) = False := eq_false (Nat.not_lt.2 c19)
              by_cases c20 : t179.toList = (t180 ++ t181).toList
              · rw [if_pos c20] at H
                have c20b0 : (t179.toList == (t180 ++ t181).toList) = true := beq_iff_eq.mpr c20
                have c20b1 : (t179.toList != (t180 ++ t181).toList) = false := bne_eq_false_iff_eq.mpr c20
                clear c20
                replace H := Option.bind_eq_some_iff.mp H
                obtain ⟨t182, A210, H⟩ := H
                replace H : ((chars_Count.f a0).bind fun t183 => ((chars_Count.f a1).bind fun t184 => (if t182 = (wrap64 (t183 + t184)) then ((boltinglaw01_fixed.f).bind fun t185 => (some t185)) else (some false)))) = some r := H
                have A21 := Aside0.mk A210
                clear A210
                replace H := Option.bind_eq_some_iff.mp H
                obtain ⟨t183, A220, H⟩ := H
                replace H : ((chars_Count.f a1).bind fun t184 => (if t182 = (wrap64 (t183 + t184)) then ((boltinglaw01_fixed.f).bind fun t185 => (some t185)) else (some false))) = some r := H
                have A22 := Aside0.mk A220
                clear A220
                replace H := Option.bind_eq_some_iff.mp H
                obtain ⟨t184, A230, H⟩ := H
                replace H : (if t182 = (wrap64 (t183 + t184)) then ((boltinglaw01_fixed.f).bind fun t185 => (some t185)) else (some false)) = some r := H
                have A23 := Aside0.mk A230
                clear A230
                by_cases c24 : t182 = (wrap64 (t183 + t184))
                · rw [if_pos c24] at H
                  have c24b0 : (t182 == (wrap64 (t183 + t184))) = true := beq_iff_eq.mpr c24
                  have c24b1 : (t182 != (wrap64 (t183 + t184))) = false := bne_eq_false_iff_eq.mpr c24
                  clear c24
                  replace H := Option.bind_eq_some_iff.mp H
                  obtain ⟨t185, A250, H⟩ := H
                  replace H : (some t185) = some r := H
                  have A25 := Aside0.mk A250
                  clear A250
                  obtain rfl := Option.some.inj H
                  go_wp2_with (first | ((with_reducible refine gate_callee (f := 15) rfl ?_); refine goesL_ (some 17) rfl rfl Tryd.func15 (by kernel_rfl) rfl #[.string (a0 ++ a1)] rfl (by (try simp only [List.map_toArray, List.map_cons, List.map_nil]); first | done | rfl | (simp only [List.length_drop, List.length_take]; rfl)) ?_; (with_reducible refine (chars_Right.calls (a0 ++ a1) true _ (hG.out.go (by repeat (first | (with_reducible first | exact HB.out | apply below_alloc | apply pw_below_drewN | apply below_drew1) | exact HB.out))) A14.out).mono ?_); rintro e w26 ⟨rfl, hb⟩; refine ⟨_, rfl, ?_⟩; have n0_ := Aside0.mk (below_step (by repeat (first | (with_reducible first | exact HB.out | apply below_alloc | apply pw_below_drewN | apply below_drew1) | exact HB.out)) hb); clear HB; have HB := n0_; clear n0_; (try clear hb); (try clear hb2); (try clear hk); (try clear hi)) | (go_at_call 13; (with_reducible refine (chars_Decode.calls (a0 ++ a1) t179 _ A16.out).mono ?_); rintro e w27 ⟨rfl, hb⟩; have n0_ := Aside0.mk (below_step (by repeat (first | (with_reducible first | exact HB.out | apply below_alloc | apply pw_below_drewN | apply below_drew1) | exact HB.out)) hb); clear HB; have HB := n0_; clear n0_; (try clear hb); (try clear hb2); (try clear hk); (try clear hi)) | (go_at_call 13; (with_reducible refine (chars_Decode.calls a0 t180 _ A17.out).mono ?_); rintro e w28 ⟨rfl, hb⟩; have n0_ := Aside0.mk (below_step (by repeat (first | (with_reducible first | exact HB.out | apply below_alloc | apply pw_below_drewN | apply below_drew1) | exact HB.out)) hb); clear HB; have HB := n0_; clear n0_; (try clear hb); (try clear hb2); (try clear hk); (try clear hi)) | (go_at_call 13; (with_reducible refine (chars_Decode.calls a1 t181 _ A18.out).mono ?_); rintro e w29 ⟨rfl, hb⟩; have n0_ := Aside0.mk (below_step (by repeat (first | (with_reducible first | exact HB.out | apply below_alloc | apply pw_below_drewN | apply below_drew1) | exact HB.out)) hb); clear HB; have HB := n0_; clear n0_; (try clear hb); (try clear hb2); (try clear hk); (try clear hi)) | (go_at_call 17; (with_reducible refine (chars_Count.calls (a0 ++ a1) t182 _ A21.out).mono ?_); rintro e w30 ⟨rfl, hb⟩; have n0_ := Aside0.mk (below_step (by repeat (first | (with_reducible first | exact HB.out | apply below_alloc | apply pw_below_drewN | apply below_drew1) | exact HB.out)) hb); clear HB; have HB := n0_; clear n0_; (try clear hb); (try clear hb2); (try clear hk); (try clear hi)) | (go_at_call 17; (with_reducible refine (chars_Count.calls a0 t183 _ A22.out).mono ?_); rintro e w31 ⟨rfl, hb⟩; have n0_ := Aside0.mk (below_step (by repeat (first | (with_reducible first | exact HB.out | apply below_alloc | apply pw_below_drewN | apply below_drew1) | exact HB.out)) hb); clear HB; have HB := n0_; clear n0_; (try clear hb); (try clear hb2); (try clear hk); (try clear hi)) | (go_at_call 17; (with_reducible refine (chars_Count.calls a1 t184 _ A23.out).mono ?_); rintro e w32 ⟨rfl, hb⟩; have n0_ := Aside0.mk (below_step (by repeat (first | (with_reducible first | exact HB.out | apply below_alloc | apply pw_below_drewN | apply below_drew1) | exact HB.out)) hb); clear HB; have HB := n0_; clear n0_; (try clear hb); (try clear hb2); (try clear hk); (try clear hi)) | (go_at_call 12; (with_reducible refine (boltinglaw01_fixed.calls  t185 _ (hG.out.go (by repeat (first | (with_reducible first | exact HB.out | apply below_alloc | apply pw_below_drewN | apply below_drew1) | exact HB.out))) A25.out).mono ?_); rintro e w33 ⟨rfl, hb⟩; have n0_ := Aside0.mk (below_step (by repeat (first | (with_reducible first | exact HB.out | apply below_alloc | apply pw_below_drewN | apply below_drew1) | exact HB.out)) hb); clear HB; have HB := n0_; clear n0_; (try clear hb); (try clear hb2); (try clear hk); (try clear hi)))
                  go_ret
                  exact ⟨by first | rfl | (simp [errW_none, errW_some] <;> rfl) | (simp [*, errW_none, errW_some] <;> rfl), by repeat (first | (with_reducible first | exact HB.out | apply below_alloc | apply pw_below_drewN | apply below_drew1) | exact HB.out)⟩
                · rw [if_neg c24] at H
                  have c24b0 : (t182 == (wrap64 (t183 + t184))) = false := beq_eq_false_iff_ne.mpr c24
                  have c24b1 : (t182 != (wrap64 (t183 + t184))) = true := bne_iff_ne.mpr c24
                  obtain rfl := Option.some.inj H
                  go_wp2_with (first | ((with_reducible refine gate_callee (f := 15) rfl ?_); refine goesL_ (some 17) rfl rfl Tryd.func15 (by kernel_rfl) rfl #[.string (a0 ++ a1)] rfl (by (try simp only [List.map_toArray, List.map_cons, List.map_nil]); first | done | rfl | (simp only [List.length_drop, List.length_take]; rfl)) ?_; (with_reducible refine (chars_Right.calls (a0 ++ a1) true _ (hG.out.go (by repeat (first | (with_reducible first | exact HB.out | apply below_alloc | apply pw_below_drewN | apply below_drew1) | exact HB.out))) A14.out).mono ?_); rintro e w34 ⟨rfl, hb⟩; refine ⟨_, rfl, ?_⟩; have n0_ := Aside0.mk (below_step (by repeat (first | (with_reducible first | exact HB.out | apply below_alloc | apply pw_below_drewN | apply below_drew1) | exact HB.out)) hb); clear HB; have HB := n0_; clear n0_; (try clear hb); (try clear hb2); (try clear hk); (try clear hi)) | (go_at_call 13; (with_reducible refine (chars_Decode.calls (a0 ++ a1) t179 _ A16.out).mono ?_); rintro e w35 ⟨rfl, hb⟩; have n0_ := Aside0.mk (below_step (by repeat (first | (with_reducible first | exact HB.out | apply below_alloc | apply pw_below_drewN | apply below_drew1) | exact HB.out)) hb); clear HB; have HB := n0_; clear n0_; (try clear hb); (try clear hb2); (try clear hk); (try clear hi)) | (go_at_call 13; (with_reducible refine (chars_Decode.calls a0 t180 _ A17.out).mono ?_); rintro e w36 ⟨rfl, hb⟩; have n0_ := Aside0.mk (below_step (by repeat (first | (with_reducible first | exact HB.out | apply below_alloc | apply pw_below_drewN | apply below_drew1) | exact HB.out)) hb); clear HB; have HB := n0_; clear n0_; (try clear hb); (try clear hb2); (try clear hk); (try clear hi)) | (go_at_call 13; (with_reducible refine (chars_Decode.calls a1 t181 _ A18.out).mono ?_); rintro e w37 ⟨rfl, hb⟩; have n0_ := Aside0.mk (below_step (by repeat (first | (with_reducible first | exact HB.out | apply below_alloc | apply pw_below_drewN | apply below_drew1) | exact HB.out)) hb); clear HB; have HB := n0_; clear n0_; (try clear hb); (try clear hb2); (try clear hk); (try clear hi)) | (go_at_call 17; (with_reducible refine (chars_Count.calls (a0 ++ a1) t182 _ A21.out).mono ?_); rintro e w38 ⟨rfl, hb⟩; have n0_ := Aside0.mk (below_step (by repeat (first | (with_reducible first | exact HB.out | apply below_alloc | apply pw_below_drewN | apply below_drew1) | exact HB.out)) hb); clear HB; have HB := n0_; clear n0_; (try clear hb); (try clear hb2); (try clear hk); (try clear hi)) | (go_at_call 17; (with_reducible refine (chars_Count.calls a0 t183 _ A22.out).mono ?_); rintro e w39 ⟨rfl, hb⟩; have n0_ := Aside0.mk (below_step (by repeat (first | (with_reducible first | exact HB.out | apply below_alloc | apply pw_below_drewN | apply below_drew1) | exact HB.out)) hb); clear HB; have HB := n0_; clear n0_; (try clear hb); (try clear hb2); (try clear hk); (try clear hi)) | (go_at_call 17; (with_reducible refine (chars_Count.calls a1 t184 _ A23.out).mono ?_); rintro e w40 ⟨rfl, hb⟩; have n0_ := Aside0.mk (below_step (by repeat (first | (with_reducible first | exact HB.out | apply below_alloc | apply pw_below_drewN | apply below_drew1) | exact HB.out)) hb); clear HB; have HB := n0_; clear n0_; (try clear hb); (try clear hb2); (try clear hk); (try clear hi)))
                  go_ret
                  exact ⟨by first | rfl | (simp [errW_none, errW_some] <;> rfl) | (simp [*, errW_none, errW_some] <;> rfl), by repeat (first | (with_reducible first | exact HB.out | apply below_alloc | apply pw_below_drewN | apply below_drew1) | exact HB.out)⟩
              · rw [if_neg c20] at H
                have c20b0 : (t179.toList == (t180 ++ t181).toList) = false := beq_eq_false_iff_ne.mpr c20
                have c20b1 : (t179.toList != (t180 ++ t181).toList) = true := bne_iff_ne.mpr c20
                obtain rfl := Option.some.inj H
                go_wp2_with (first | ((with_reducible refine gate_callee (f := 15) rfl ?_); refine goesL_ (some 17) rfl rfl Tryd.func15 (by kernel_rfl) rfl #[.string (a0 ++ a1)] rfl (by (try simp only [List.map_toArray, List.map_cons, List.map_nil]); first | done | rfl | (simp only [List.length_drop, List.length_take]; rfl)) ?_; (with_reducible refine (chars_Right.calls (a0 ++ a1) true _ (hG.out.go (by repeat (first | (with_reducible first | exact HB.out | apply below_alloc | apply pw_below_drewN | apply below_drew1) | exact HB.out))) A14.out).mono ?_); rintro e w41 ⟨rfl, hb⟩; refine ⟨_, rfl, ?_⟩; have n0_ := Aside0.mk (below_step (by repeat (first | (with_reducible first | exact HB.out | apply below_alloc | apply pw_below_drewN | apply below_drew1) | exact HB.out)) hb); clear HB; have HB := n0_; clear n0_; (try clear hb); (try clear hb2); (try clear hk); (try clear hi)) | (go_at_call 13; (with_reducible refine (chars_Decode.calls (a0 ++ a1) t179 _ A16.out).mono ?_); rintro e w42 ⟨rfl, hb⟩; have n0_ := Aside0.mk (below_step (by repeat (first | (with_reducible first | exact HB.out | apply below_alloc | apply pw_below_drewN | apply below_drew1) | exact HB.out)) hb); clear HB; have HB := n0_; clear n0_; (try clear hb); (try clear hb2); (try clear hk); (try clear hi)) | (go_at_call 13; (with_reducible refine (chars_Decode.calls a0 t180 _ A17.out).mono ?_); rintro e w43 ⟨rfl, hb⟩; have n0_ := Aside0.mk (below_step (by repeat (first | (with_reducible first | exact HB.out | apply below_alloc | apply pw_below_drewN | apply below_drew1) | exact HB.out)) hb); clear HB; have HB := n0_; clear n0_; (try clear hb); (try clear hb2); (try clear hk); (try clear hi)) | (go_at_call 13; (with_reducible refine (chars_Decode.calls a1 t181 _ A18.out).mono ?_); rintro e w44 ⟨rfl, hb⟩; have n0_ := Aside0.mk (below_step (by repeat (first | (with_reducible first | exact HB.out | apply below_alloc | apply pw_below_drewN | apply below_drew1) | exact HB.out)) hb); clear HB; have HB := n0_; clear n0_; (try clear hb); (try clear hb2); (try clear hk); (try clear hi)))
                go_ret
                exact ⟨by first | rfl | (simp [errW_none, errW_some] <;> rfl) | (simp [*, errW_none, errW_some] <;> rfl), by repeat (first | (with_reducible first | exact HB.out | apply below_alloc | apply pw_below_drewN | apply below_drew1) | exact HB.out)⟩
            · rw [if_neg c19] at H
              exact absurd H (by simp)
          · replace c15 := Bool.eq_false_iff.mpr c15
            subst c15
            have H1 : (some false) = some r := by rw [if_neg (show ¬ (false = true) by decide)] at H; exact H
            clear H
            have H := H1
            clear H1
            obtain rfl := Option.some.inj H
            go_wp2_with (first | ((with_reducible refine gate_callee (f := 15) rfl ?_); refine goesL_ (some 17) rfl rfl Tryd.func15 (by kernel_rfl) rfl #[.string (a0 ++ a1)] rfl (by (try simp only [List.map_toArray, List.map_cons, List.map_nil]); first | done | rfl | (simp only [List.length_drop, List.length_take]; rfl)) ?_; (with_reducible refine (chars_Right.calls (a0 ++ a1) false _ (hG.out.go (by repeat (first | (with_reducible first | exact HB.out | apply below_alloc | apply pw_below_drewN | apply below_drew1) | exact HB.out))) A14.out).mono ?_); rintro e w45 ⟨rfl, hb⟩; refine ⟨_, rfl, ?_⟩; have n0_ := Aside0.mk (below_step (by repeat (first | (with_reducible first | exact HB.out | apply below_alloc | apply pw_below_drewN | apply below_drew1) | exact HB.out)) hb); clear HB; have HB := n0_; clear n0_; (try clear hb); (try clear hb2); (try clear hk); (try clear hi)))
            go_ret
            exact ⟨by first | rfl | (simp [errW_none, errW_some] <;> rfl) | (simp [*, errW_none, errW_some] <;> rfl), by repeat (first | (with_reducible first | exact HB.out | apply below_alloc | apply pw_below_drewN | apply below_drew1) | exact HB.out)⟩
        · rw [if_neg c13] at H
          exact absurd H (by simp)

end Go.Proofs.YtaeikiigdfgmaaaDoor.Pr
