-- Written by wip/tools/pr.sh out of Lean's own print of the translation. Not trusted: Lean checks it.
import Derived.Test.YtakhldahohooiaaPrx0
namespace Go.Proofs.Ytakhldahohooiaa.Pr
open Go.RowKit Go.Proofs.YtakhldahohooiaaW.PrintWords Go.Proofs.YtakhldahohooiaaW.PrintLast Go.Proofs.YtakhldahohooiaaW.PrintMore
attribute [local go_sem] max2_int min2_int max_two min_two max_three min_three max_four min_four   -- for this text's walks alone
set_option linter.unusedVariables false
set_option linter.unusedSimpArgs false

/-! ### risk_Element: function 34 -/
def risk_Element.f (a0 : ByteArray) : Option (Bool) := if a0.toList = ([98, 97, 115, 101] : List UInt8) then (some true) else (if a0.toList = ([101, 109, 98, 101, 100] : List UInt8) then (some true) else (if a0.toList = ([102, 114, 97, 109, 101] : List UInt8) then (some true) else (if a0.toList = ([105, 102, 114, 97, 109, 101] : List UInt8) then (some true) else (if a0.toList = ([108, 105, 110, 107] : List UInt8) then (some true) else (if a0.toList = ([109, 101, 116, 97] : List UInt8) then (some true) else (if a0.toList = ([111, 98, 106, 101, 99, 116] : List UInt8) then (some true) else (if a0.toList = ([115, 99, 114, 105, 112, 116] : List UInt8) then (some true) else (some false))))))))
set_option maxHeartbeats 8000000 in
set_option maxRecDepth 100000 in
theorem risk_Element.calls (a0 : ByteArray) (r : Bool) (w : World) (h : risk_Element.f a0 = some r) :
    Calls Try.prog 34 #[.string a0] w fun e w' => e = .returned (.bool r) ∧ Drawn0 w w' := by
  have H : (if a0.toList = ([98, 97, 115, 101] : List UInt8) then (some true) else (if a0.toList = ([101, 109, 98, 101, 100] : List UInt8) then (some true) else (if a0.toList = ([102, 114, 97, 109, 101] : List UInt8) then (some true) else (if a0.toList = ([105, 102, 114, 97, 109, 101] : List UInt8) then (some true) else (if a0.toList = ([108, 105, 110, 107] : List UInt8) then (some true) else (if a0.toList = ([109, 101, 116, 97] : List UInt8) then (some true) else (if a0.toList = ([111, 98, 106, 101, 99, 116] : List UInt8) then (some true) else (if a0.toList = ([115, 99, 114, 105, 112, 116] : List UInt8) then (some true) else (some false))))))))) = some r := h
  clear h
  by_cases c2 : a0.toList = ([98, 97, 115, 101] : List UInt8)
  · rw [if_pos c2] at H
    have c2b0 : (a0.toList == ([98, 97, 115, 101] : List UInt8)) = true := beq_iff_eq.mpr c2
    have c2b1 : (a0.toList != ([98, 97, 115, 101] : List UInt8)) = false := bne_eq_false_iff_eq.mpr c2
    clear c2
    obtain rfl := Option.some.inj H
    go_enter Try.func34, Try.ntmps34
    go_wp2
    go_ret
    exact ⟨by first | rfl | (simp; done) | (simp [*]; done) | (simp; generalize ByteArray.toList _ = l_; cases l_ <;> rfl), by repeat (first | exact Drawn0.refl _ | apply Drawn0.step)⟩
  · rw [if_neg c2] at H
    have c2b0 : (a0.toList == ([98, 97, 115, 101] : List UInt8)) = false := beq_eq_false_iff_ne.mpr c2
    have c2b1 : (a0.toList != ([98, 97, 115, 101] : List UInt8)) = true := bne_iff_ne.mpr c2
    by_cases c3 : a0.toList = ([101, 109, 98, 101, 100] : List UInt8)
    · rw [if_pos c3] at H
      have c3b0 : (a0.toList == ([101, 109, 98, 101, 100] : List UInt8)) = true := beq_iff_eq.mpr c3
      have c3b1 : (a0.toList != ([101, 109, 98, 101, 100] : List UInt8)) = false := bne_eq_false_iff_eq.mpr c3
      clear c3
      obtain rfl := Option.some.inj H
      go_enter Try.func34, Try.ntmps34
      go_wp2
      go_ret
      exact ⟨by first | rfl | (simp; done) | (simp [*]; done) | (simp; generalize ByteArray.toList _ = l_; cases l_ <;> rfl), by repeat (first | exact Drawn0.refl _ | apply Drawn0.step)⟩
    · rw [if_neg c3] at H
      have c3b0 : (a0.toList == ([101, 109, 98, 101, 100] : List UInt8)) = false := beq_eq_false_iff_ne.mpr c3
      have c3b1 : (a0.toList != ([101, 109, 98, 101, 100] : List UInt8)) = true := bne_iff_ne.mpr c3
      by_cases c4 : a0.toList = ([102, 114, 97, 109, 101] : List UInt8)
      · rw [if_pos c4] at H
        have c4b0 : (a0.toList == ([102, 114, 97, 109, 101] : List UInt8)) = true := beq_iff_eq.mpr c4
        have c4b1 : (a0.toList != ([102, 114, 97, 109, 101] : List UInt8)) = false := bne_eq_false_iff_eq.mpr c4
        clear c4
        obtain rfl := Option.some.inj H
        go_enter Try.func34, Try.ntmps34
        go_wp2
        go_ret
        exact ⟨by first | rfl | (simp; done) | (simp [*]; done) | (simp; generalize ByteArray.toList _ = l_; cases l_ <;> rfl), by repeat (first | exact Drawn0.refl _ | apply Drawn0.step)⟩
      · rw [if_neg c4] at H
        have c4b0 : (a0.toList == ([102, 114, 97, 109, 101] : List UInt8)) = false := beq_eq_false_iff_ne.mpr c4
        have c4b1 : (a0.toList != ([102, 114, 97, 109, 101] : List UInt8)) = true := bne_iff_ne.mpr c4
        by_cases c5 : a0.toList = ([105, 102, 114, 97, 109, 101] : List UInt8)
        · rw [if_pos c5] at H
          have c5b0 : (a0.toList == ([105, 102, 114, 97, 109, 101] : List UInt8)) = true := beq_iff_eq.mpr c5
          have c5b1 : (a0.toList != ([105, 102, 114, 97, 109, 101] : List UInt8)) = false := bne_eq_false_iff_eq.mpr c5
          clear c5
          obtain rfl := Option.some.inj H
          go_enter Try.func34, Try.ntmps34
          go_wp2
          go_ret
          exact ⟨by first | rfl | (simp; done) | (simp [*]; done) | (simp; generalize ByteArray.toList _ = l_; cases l_ <;> rfl), by repeat (first | exact Drawn0.refl _ | apply Drawn0.step)⟩
        · rw [if_neg c5] at H
          have c5b0 : (a0.toList == ([105, 102, 114, 97, 109, 101] : List UInt8)) = false := beq_eq_false_iff_ne.mpr c5
          have c5b1 : (a0.toList != ([105, 102, 114, 97, 109, 101] : List UInt8)) = true := bne_iff_ne.mpr c5
          by_cases c6 : a0.toList = ([108, 105, 110, 107] : List UInt8)
          · rw [if_pos c6] at H
            have c6b0 : (a0.toList == ([108, 105, 110, 107] : List UInt8)) = true := beq_iff_eq.mpr c6
            have c6b1 : (a0.toList != ([108, 105, 110, 107] : List UInt8)) = false := bne_eq_false_iff_eq.mpr c6
            clear c6
            obtain rfl := Option.some.inj H
            go_enter Try.func34, Try.ntmps34
            go_wp2
            go_ret
            exact ⟨by first | rfl | (simp; done) | (simp [*]; done) | (simp; generalize ByteArray.toList _ = l_; cases l_ <;> rfl), by repeat (first | exact Drawn0.refl _ | apply Drawn0.step)⟩
          · rw [if_neg c6] at H
            have c6b0 : (a0.toList == ([108, 105, 110, 107] : List UInt8)) = false := beq_eq_false_iff_ne.mpr c6
            have c6b1 : (a0.toList != ([108, 105, 110, 107] : List UInt8)) = true := bne_iff_ne.mpr c6
            by_cases c7 : a0.toList = ([109, 101, 116, 97] : List UInt8)
            · rw [if_pos c7] at H
              have c7b0 : (a0.toList == ([109, 101, 116, 97] : List UInt8)) = true := beq_iff_eq.mpr c7
              have c7b1 : (a0.toList != ([109, 101, 116, 97] : List UInt8)) = false := bne_eq_false_iff_eq.mpr c7
              clear c7
              obtain rfl := Option.some.inj H
              go_enter Try.func34, Try.ntmps34
              go_wp2
              go_ret
              exact ⟨by first | rfl | (simp; done) | (simp [*]; done) | (simp; generalize ByteArray.toList _ = l_; cases l_ <;> rfl), by repeat (first | exact Drawn0.refl _ | apply Drawn0.step)⟩
            · rw [if_neg c7] at H
              have c7b0 : (a0.toList == ([109, 101, 116, 97] : List UInt8)) = false := beq_eq_false_iff_ne.mpr c7
              have c7b1 : (a0.toList != ([109, 101, 116, 97] : List UInt8)) = true := bne_iff_ne.mpr c7
              by_cases c8 : a0.toList = ([111, 98, 106, 101, 99, 116] : List UInt8)
              · rw [if_pos c8] at H
                have c8b0 : (a0.toList == ([111, 98, 106, 101, 99, 116] : List UInt8)) = true := beq_iff_eq.mpr c8
                have c8b1 : (a0.toList != ([111, 98, 106, 101, 99, 116] : List UInt8)) = false := bne_eq_false_iff_eq.mpr c8
                clear c8
                obtain rfl := Option.some.inj H
                go_enter Try.func34, Try.ntmps34
                go_wp2
                go_ret
                exact ⟨by first | rfl | (simp; done) | (simp [*]; done) | (simp; generalize ByteArray.toList _ = l_; cases l_ <;> rfl), by repeat (first | exact Drawn0.refl _ | apply Drawn0.step)⟩
              · rw [if_neg c8] at H
                have c8b0 : (a0.toList == ([111, 98, 106, 101, 99, 116] : List UInt8)) = false := beq_eq_false_iff_ne.mpr c8
                have c8b1 : (a0.toList != ([111, 98, 106, 101, 99, 116] : List UInt8)) = true := bne_iff_ne.mpr c8
                by_cases c9 : a0.toList = ([115, 99, 114, 105, 112, 116] : List UInt8)
                · rw [if_pos c9] at H
                  have c9b0 : (a0.toList == ([115, 99, 114, 105, 112, 116] : List UInt8)) = true := beq_iff_eq.mpr c9
                  have c9b1 : (a0.toList != ([115, 99, 114, 105, 112, 116] : List UInt8)) = false := bne_eq_false_iff_eq.mpr c9
                  clear c9
                  obtain rfl := Option.some.inj H
                  go_enter Try.func34, Try.ntmps34
                  go_wp2
                  go_ret
                  exact ⟨by first | rfl | (simp; done) | (simp [*]; done) | (simp; generalize ByteArray.toList _ = l_; cases l_ <;> rfl), by repeat (first | exact Drawn0.refl _ | apply Drawn0.step)⟩
                · rw [if_neg c9] at H
                  have c9b0 : (a0.toList == ([115, 99, 114, 105, 112, 116] : List UInt8)) = false := beq_eq_false_iff_ne.mpr c9
                  have c9b1 : (a0.toList != ([115, 99, 114, 105, 112, 116] : List UInt8)) = true := bne_iff_ne.mpr c9
                  obtain rfl := Option.some.inj H
                  go_enter Try.func34, Try.ntmps34
                  go_wp2
                  go_ret
                  exact ⟨by first | rfl | (simp; done) | (simp [*]; done) | (simp; generalize ByteArray.toList _ = l_; cases l_ <;> rfl), by repeat (first | exact Drawn0.refl _ | apply Drawn0.step)⟩

/-! ### risk_Attr: function 35 -/
def risk_Attr.f (a0 : ByteArray) (a1_0 : ByteArray) (a1_1 : ByteArray) : Option (Bool) := (risk_Sink.f a0 a1_0).bind fun t390 => (if t390 = 0 then ((risk_Nav.f a0 a1_0).bind fun t391 => (if t391 = true then ((link_Script.f a1_1).bind fun t392 => (some t392)) else (some false))) else (some true))
set_option maxHeartbeats 8000000 in
set_option maxRecDepth 100000 in
theorem risk_Attr.calls (a0 : ByteArray) (a1_0 : ByteArray) (a1_1 : ByteArray) (r : Bool) (w : World) (h : risk_Attr.f a0 a1_0 a1_1 = some r) :
    Calls Try.prog 35 #[.string a0, .agg #[.string a1_0, .string a1_1]] w fun e w' => e = .returned (.bool r) ∧ Below w.heap.size w w' := by
  have hu39 := Try.underlying39
  have HB := Aside0.mk (Below.refl w.heap.size w)
  have H : ((risk_Sink.f a0 a1_0).bind fun t390 => (if t390 = 0 then ((risk_Nav.f a0 a1_0).bind fun t391 => (if t391 = true then ((link_Script.f a1_1).bind fun t392 => (some t392)) else (some false))) else (some true))) = some r := h
  clear h
  replace H := Option.bind_eq_some_iff.mp H
  obtain ⟨t390, A30, H⟩ := H
  replace H : (if t390 = 0 then ((risk_Nav.f a0 a1_0).bind fun t391 => (if t391 = true then ((link_Script.f a1_1).bind fun t392 => (some t392)) else (some false))) else (some true)) = some r := H
  have A3 := Aside0.mk A30
  clear A30
  by_cases c4 : t390 = 0
  · rw [if_pos c4] at H
    have c4b0 : (t390 == 0) = true := beq_iff_eq.mpr c4
    have c4b1 : (t390 != 0) = false := bne_eq_false_iff_eq.mpr c4
    clear c4
    replace H := Option.bind_eq_some_iff.mp H
    obtain ⟨t391, A50, H⟩ := H
    replace H : (if t391 = true then ((link_Script.f a1_1).bind fun t392 => (some t392)) else (some false)) = some r := H
    have A5 := Aside0.mk A50
    clear A50
    by_cases c6 : t391 = true
    · subst c6
      have H1 : ((link_Script.f a1_1).bind fun t392 => (some t392)) = some r := by rw [if_pos rfl] at H; exact H
      clear H
      have H := H1
      clear H1
      replace H := Option.bind_eq_some_iff.mp H
      obtain ⟨t392, A70, H⟩ := H
      replace H : (some t392) = some r := H
      have A7 := Aside0.mk A70
      clear A70
      obtain rfl := Option.some.inj H
      go_enter Try.func35, Try.ntmps35
      go_wp2_with (first | ((with_reducible refine gate_dst (N := 3) rfl ?_); refine box_event ?hg (N := 3) ?hd (cs := #[.string a1_0, .string a1_1]) (t := 39) ?hr ?_; (case hd => rfl); (case hg => rfl); (case hr => first | (go_simp; done) | (go_simp; rfl)); intro gb389 hg w8 hbox hb; have n0_ := Aside0.mk (below_step (by repeat (first | (with_reducible first | exact HB.out | apply below_alloc | apply pw_below_drewN | apply below_drew1) | exact HB.out)) hb); have n1_ := Aside0.mk (hbox); have n2_ := Aside0.mk ((by rw [hg]; exact (below_size (by repeat (first | (with_reducible first | exact HB.out | apply below_alloc | apply pw_below_drewN | apply below_drew1) | exact HB.out))) : w.heap.size ≤ gb389)); have n3_ := Aside0.mk ((by rw [hg]; exact (below_size (by repeat (first | (with_reducible first | exact HB.out | apply below_alloc | apply pw_below_drewN | apply below_drew1) | exact HB.out))) : w.heap.size ≤ gb389)); clear HB; have HB := n0_; have BK389 := n1_; have GW389 := n2_; have GE389 := n3_; clear n0_ n1_ n2_ n3_; clear hb hbox hg; have hcz9_0 : w8.cell? ⟨gb389, 0, none⟩ = some (.string a1_0) := (blk_cell BK389.out 0).trans rfl; have hcz9_1 : w8.cell? ⟨gb389, 1, none⟩ = some (.string a1_1) := (blk_cell BK389.out 1).trans rfl; have hfz9_0 := blk_frozen BK389.out 0; have hfz9_1 := blk_frozen BK389.out 1) | ((with_reducible refine gate_callee (f := 49) rfl ?_); refine goesL_ (some 8) rfl rfl Try.func49 (by kernel_rfl) rfl #[.string a0, .string a1_0] rfl (by (try simp only [List.map_toArray, List.map_cons, List.map_nil]); first | done | rfl | (simp only [List.length_drop, List.length_take]; rfl)) ?_; (with_reducible refine (risk_Sink.calls a0 a1_0 t390 _ A3.out).mono ?_); rintro e w10 ⟨rfl, hb⟩; refine ⟨_, rfl, ?_⟩; have n0_ := Aside0.mk (blk_below (g := gb389) (o := .cells #[.string a1_0, .string a1_1] 39 (0, 0)) (by (with_reducible repeat (first | refine blk_drewN ?_ _ | refine blk_drew ?_ | refine blk_alloc ?_ _)); exact BK389.out) hb); have n1_ := Aside0.mk (below_step (by repeat (first | (with_reducible first | exact HB.out | apply below_alloc | apply pw_below_drewN | apply below_drew1 | refine below_set ?_ GE389.out) | exact HB.out)) hb); clear BK389; clear HB; have BK389 := n0_; have HB := n1_; clear n0_ n1_; (try clear hb); (try clear hb2); (try clear hk); (try clear hi); have hcz11_0 : w10.cell? ⟨gb389, 0, none⟩ = some (.string a1_0) := (blk_cell BK389.out 0).trans rfl; have hcz11_1 : w10.cell? ⟨gb389, 1, none⟩ = some (.string a1_1) := (blk_cell BK389.out 1).trans rfl; have hfz11_0 := blk_frozen BK389.out 0; have hfz11_1 := blk_frozen BK389.out 1) | (go_at_call 31; (with_reducible refine (risk_Nav.calls a0 a1_0 true _ A5.out).mono ?_); rintro e w12 ⟨rfl, hb⟩; have n0_ := Aside0.mk (blk_below (g := gb389) (o := .cells #[.string a1_0, .string a1_1] 39 (0, 0)) (by (with_reducible repeat (first | refine blk_drewN ?_ _ | refine blk_drew ?_ | refine blk_alloc ?_ _)); exact BK389.out) hb); have n1_ := Aside0.mk (below_step (by repeat (first | (with_reducible first | exact HB.out | apply below_alloc | apply pw_below_drewN | apply below_drew1 | refine below_set ?_ GE389.out) | exact HB.out)) hb); clear BK389; clear HB; have BK389 := n0_; have HB := n1_; clear n0_ n1_; (try clear hb); (try clear hb2); (try clear hk); (try clear hi); have hcz13_0 : w12.cell? ⟨gb389, 0, none⟩ = some (.string a1_0) := (blk_cell BK389.out 0).trans rfl; have hcz13_1 : w12.cell? ⟨gb389, 1, none⟩ = some (.string a1_1) := (blk_cell BK389.out 1).trans rfl; have hfz13_0 := blk_frozen BK389.out 0; have hfz13_1 := blk_frozen BK389.out 1) | (go_at_call 32; (with_reducible refine (link_Script.calls a1_1 t392 _ A7.out).mono ?_); rintro e w14 ⟨rfl, hb⟩; have n0_ := Aside0.mk (blk_below (g := gb389) (o := .cells #[.string a1_0, .string a1_1] 39 (0, 0)) (by (with_reducible repeat (first | refine blk_drewN ?_ _ | refine blk_drew ?_ | refine blk_alloc ?_ _)); exact BK389.out) hb); have n1_ := Aside0.mk (below_step (by repeat (first | (with_reducible first | exact HB.out | apply below_alloc | apply pw_below_drewN | apply below_drew1 | refine below_set ?_ GE389.out) | exact HB.out)) hb); clear BK389; clear HB; have BK389 := n0_; have HB := n1_; clear n0_ n1_; (try clear hb); (try clear hb2); (try clear hk); (try clear hi)))
      go_ret
      exact ⟨by first | rfl | (simp [errW_none, errW_some] <;> rfl) | (simp [*, errW_none, errW_some] <;> rfl), by repeat (first | (with_reducible first | exact HB.out | apply below_alloc | apply pw_below_drewN | apply below_drew1 | refine below_set ?_ GE389.out) | exact HB.out)⟩
    · replace c6 := Bool.eq_false_iff.mpr c6
      subst c6
      have H1 : (some false) = some r := by rw [if_neg (show ¬ (false = true) by decide)] at H; exact H
      clear H
      have H := H1
      clear H1
      obtain rfl := Option.some.inj H
      go_enter Try.func35, Try.ntmps35
      go_wp2_with (first | ((with_reducible refine gate_dst (N := 3) rfl ?_); refine box_event ?hg (N := 3) ?hd (cs := #[.string a1_0, .string a1_1]) (t := 39) ?hr ?_; (case hd => rfl); (case hg => rfl); (case hr => first | (go_simp; done) | (go_simp; rfl)); intro gb389 hg w15 hbox hb; have n0_ := Aside0.mk (below_step (by repeat (first | (with_reducible first | exact HB.out | apply below_alloc | apply pw_below_drewN | apply below_drew1) | exact HB.out)) hb); have n1_ := Aside0.mk (hbox); have n2_ := Aside0.mk ((by rw [hg]; exact (below_size (by repeat (first | (with_reducible first | exact HB.out | apply below_alloc | apply pw_below_drewN | apply below_drew1) | exact HB.out))) : w.heap.size ≤ gb389)); have n3_ := Aside0.mk ((by rw [hg]; exact (below_size (by repeat (first | (with_reducible first | exact HB.out | apply below_alloc | apply pw_below_drewN | apply below_drew1) | exact HB.out))) : w.heap.size ≤ gb389)); clear HB; have HB := n0_; have BK389 := n1_; have GW389 := n2_; have GE389 := n3_; clear n0_ n1_ n2_ n3_; clear hb hbox hg; have hcz16_0 : w15.cell? ⟨gb389, 0, none⟩ = some (.string a1_0) := (blk_cell BK389.out 0).trans rfl; have hcz16_1 : w15.cell? ⟨gb389, 1, none⟩ = some (.string a1_1) := (blk_cell BK389.out 1).trans rfl; have hfz16_0 := blk_frozen BK389.out 0; have hfz16_1 := blk_frozen BK389.out 1) | ((with_reducible refine gate_callee (f := 49) rfl ?_); refine goesL_ (some 8) rfl rfl Try.func49 (by kernel_rfl) rfl #[.string a0, .string a1_0] rfl (by (try simp only [List.map_toArray, List.map_cons, List.map_nil]); first | done | rfl | (simp only [List.length_drop, List.length_take]; rfl)) ?_; (with_reducible refine (risk_Sink.calls a0 a1_0 t390 _ A3.out).mono ?_); rintro e w17 ⟨rfl, hb⟩; refine ⟨_, rfl, ?_⟩; have n0_ := Aside0.mk (blk_below (g := gb389) (o := .cells #[.string a1_0, .string a1_1] 39 (0, 0)) (by (with_reducible repeat (first | refine blk_drewN ?_ _ | refine blk_drew ?_ | refine blk_alloc ?_ _)); exact BK389.out) hb); have n1_ := Aside0.mk (below_step (by repeat (first | (with_reducible first | exact HB.out | apply below_alloc | apply pw_below_drewN | apply below_drew1 | refine below_set ?_ GE389.out) | exact HB.out)) hb); clear BK389; clear HB; have BK389 := n0_; have HB := n1_; clear n0_ n1_; (try clear hb); (try clear hb2); (try clear hk); (try clear hi); have hcz18_0 : w17.cell? ⟨gb389, 0, none⟩ = some (.string a1_0) := (blk_cell BK389.out 0).trans rfl; have hcz18_1 : w17.cell? ⟨gb389, 1, none⟩ = some (.string a1_1) := (blk_cell BK389.out 1).trans rfl; have hfz18_0 := blk_frozen BK389.out 0; have hfz18_1 := blk_frozen BK389.out 1) | (go_at_call 31; (with_reducible refine (risk_Nav.calls a0 a1_0 false _ A5.out).mono ?_); rintro e w19 ⟨rfl, hb⟩; have n0_ := Aside0.mk (blk_below (g := gb389) (o := .cells #[.string a1_0, .string a1_1] 39 (0, 0)) (by (with_reducible repeat (first | refine blk_drewN ?_ _ | refine blk_drew ?_ | refine blk_alloc ?_ _)); exact BK389.out) hb); have n1_ := Aside0.mk (below_step (by repeat (first | (with_reducible first | exact HB.out | apply below_alloc | apply pw_below_drewN | apply below_drew1 | refine below_set ?_ GE389.out) | exact HB.out)) hb); clear BK389; clear HB; have BK389 := n0_; have HB := n1_; clear n0_ n1_; (try clear hb); (try clear hb2); (try clear hk); (try clear hi)))
      go_ret
      exact ⟨by first | rfl | (simp [errW_none, errW_some] <;> rfl) | (simp [*, errW_none, errW_some] <;> rfl), by repeat (first | (with_reducible first | exact HB.out | apply below_alloc | apply pw_below_drewN | apply below_drew1 | refine below_set ?_ GE389.out) | exact HB.out)⟩
  · rw [if_neg c4] at H
    have c4b0 : (t390 == 0) = false := beq_eq_false_iff_ne.mpr c4
    have c4b1 : (t390 != 0) = true := bne_iff_ne.mpr c4
    obtain rfl := Option.some.inj H
    go_enter Try.func35, Try.ntmps35
    go_wp2_with (first | ((with_reducible refine gate_dst (N := 3) rfl ?_); refine box_event ?hg (N := 3) ?hd (cs := #[.string a1_0, .string a1_1]) (t := 39) ?hr ?_; (case hd => rfl); (case hg => rfl); (case hr => first | (go_simp; done) | (go_simp; rfl)); intro gb389 hg w20 hbox hb; have n0_ := Aside0.mk (below_step (by repeat (first | (with_reducible first | exact HB.out | apply below_alloc | apply pw_below_drewN | apply below_drew1) | exact HB.out)) hb); have n1_ := Aside0.mk (hbox); have n2_ := Aside0.mk ((by rw [hg]; exact (below_size (by repeat (first | (with_reducible first | exact HB.out | apply below_alloc | apply pw_below_drewN | apply below_drew1) | exact HB.out))) : w.heap.size ≤ gb389)); have n3_ := Aside0.mk ((by rw [hg]; exact (below_size (by repeat (first | (with_reducible first | exact HB.out | apply below_alloc | apply pw_below_drewN | apply below_drew1) | exact HB.out))) : w.heap.size ≤ gb389)); clear HB; have HB := n0_; have BK389 := n1_; have GW389 := n2_; have GE389 := n3_; clear n0_ n1_ n2_ n3_; clear hb hbox hg; have hcz21_0 : w20.cell? ⟨gb389, 0, none⟩ = some (.string a1_0) := (blk_cell BK389.out 0).trans rfl; have hcz21_1 : w20.cell? ⟨gb389, 1, none⟩ = some (.string a1_1) := (blk_cell BK389.out 1).trans rfl; have hfz21_0 := blk_frozen BK389.out 0; have hfz21_1 := blk_frozen BK389.out 1) | ((with_reducible refine gate_callee (f := 49) rfl ?_); refine goesL_ (some 8) rfl rfl Try.func49 (by kernel_rfl) rfl #[.string a0, .string a1_0] rfl (by (try simp only [List.map_toArray, List.map_cons, List.map_nil]); first | done | rfl | (simp only [List.length_drop, List.length_take]; rfl)) ?_; (with_reducible refine (risk_Sink.calls a0 a1_0 t390 _ A3.out).mono ?_); rintro e w22 ⟨rfl, hb⟩; refine ⟨_, rfl, ?_⟩; have n0_ := Aside0.mk (blk_below (g := gb389) (o := .cells #[.string a1_0, .string a1_1] 39 (0, 0)) (by (with_reducible repeat (first | refine blk_drewN ?_ _ | refine blk_drew ?_ | refine blk_alloc ?_ _)); exact BK389.out) hb); have n1_ := Aside0.mk (below_step (by repeat (first | (with_reducible first | exact HB.out | apply below_alloc | apply pw_below_drewN | apply below_drew1 | refine below_set ?_ GE389.out) | exact HB.out)) hb); clear BK389; clear HB; have BK389 := n0_; have HB := n1_; clear n0_ n1_; (try clear hb); (try clear hb2); (try clear hk); (try clear hi)))
    go_ret
    exact ⟨by first | rfl | (simp [errW_none, errW_some] <;> rfl) | (simp [*, errW_none, errW_some] <;> rfl), by repeat (first | (with_reducible first | exact HB.out | apply below_alloc | apply pw_below_drewN | apply below_drew1 | refine below_set ?_ GE389.out) | exact HB.out)⟩

/-! ### risk_Safe: function 18 -/
mutual
def risk_Safe.l0 : Nat → List (S34) → Int → Int → Option (Bool)
  | 0, _, _, _ => none
  | k + 1, x7, x8, x9 => if x9 < x8 then (if 0 ≤ x9 then (if x9 < (x7.length : Int) then (if ((rd_T34 x7 x9).f1) = 0 then ((risk_Element.f ((rd_T34 x7 x9).f2)).bind fun t395 => (if t395 = true then (some false) else (risk_Safe.l1 k x7 x8 x9 ((rd_T34 x7 x9).f4) (((rd_T34 x7 x9).f4).length : Int) 0 ((rd_T34 x7 x9).f0) ((rd_T34 x7 x9).f1) ((rd_T34 x7 x9).f2) ((rd_T34 x7 x9).f3) ((rd_T34 x7 x9).f4)))) else (risk_Safe.l0 k x7 x8 (wrap64 (x9 + 1)))) else (none)) else (none)) else (some true)
def risk_Safe.l1 : Nat → List (S34) → Int → Int → List (S39) → Int → Int → Int → Int → ByteArray → ByteArray → List (S39) → Option (Bool)
  | 0, _, _, _, _, _, _, _, _, _, _, _ => none
  | k + 1, x7, x8, x9, x20, x21, x22, x395000, x395001, x395002, x395003, x395004 => if x22 < x21 then (if 0 ≤ x22 then (if x22 < (x20.length : Int) then ((risk_Attr.f x395002 ((rd_T39 x20 x22).f0) ((rd_T39 x20 x22).f1)).bind fun t398 => (if t398 = true then (some false) else (risk_Safe.l1 k x7 x8 x9 x20 x21 (wrap64 (x22 + 1)) x395000 x395001 x395002 x395003 x395004))) else (none)) else (none)) else (risk_Safe.l0 k x7 x8 (wrap64 (x9 + 1)))
end
def risk_Safe.f (k : Nat) (l0 : List (S34)) : Option (Bool) := risk_Safe.l0 k l0 (l0.length : Int) 0
theorem risk_Safe.mono_l : ∀ k, (∀ y0 y1 y2, LeO (risk_Safe.l0 k y0 y1 y2) (risk_Safe.l0 (k + 1) y0 y1 y2)) ∧ (∀ y0 y1 y2 y3 y4 y5 y6 y7 y8 y9 y10, LeO (risk_Safe.l1 k y0 y1 y2 y3 y4 y5 y6 y7 y8 y9 y10) (risk_Safe.l1 (k + 1) y0 y1 y2 y3 y4 y5 y6 y7 y8 y9 y10))
  | 0 => ⟨fun _ _ _ r h => by simp [risk_Safe.l0] at h, fun _ _ _ _ _ _ _ _ _ _ _ r h => by simp [risk_Safe.l1] at h⟩
  | k + 1 => by
    obtain ⟨ih0, ih1⟩ := risk_Safe.mono_l k
    refine ⟨?_, ?_⟩
    · intro y0 y1 y2
      unfold risk_Safe.l0
      repeat' first
      | (with_reducible exact ih0 _ _ _)
      | (with_reducible exact ih1 _ _ _ _ _ _ _ _ _ _ _)
      | (with_reducible exact LeO.refl _)
      | (with_reducible exact LeO.none _)
      | (with_reducible refine LeO.ite ?_ ?_)
      | (with_reducible refine LeO.bind ?_ (fun _ => ?_))
      | exact ih0 _ _ _
      | exact ih1 _ _ _ _ _ _ _ _ _ _ _
      | exact LeO.none _
      | refine LeO.ite ?_ ?_
      | refine LeO.bind ?_ (fun _ => ?_)
    · intro y0 y1 y2 y3 y4 y5 y6 y7 y8 y9 y10
      unfold risk_Safe.l1
      repeat' first
      | (with_reducible exact ih0 _ _ _)
      | (with_reducible exact ih1 _ _ _ _ _ _ _ _ _ _ _)
      | (with_reducible exact LeO.refl _)
      | (with_reducible exact LeO.none _)
      | (with_reducible refine LeO.ite ?_ ?_)
      | (with_reducible refine LeO.bind ?_ (fun _ => ?_))
      | exact ih0 _ _ _
      | exact ih1 _ _ _ _ _ _ _ _ _ _ _
      | exact LeO.none _
      | refine LeO.ite ?_ ?_
      | refine LeO.bind ?_ (fun _ => ?_)
theorem risk_Safe.mono : ∀ a0 k, LeO (risk_Safe.f k a0) (risk_Safe.f (k + 1) a0) := by
  intro a0 k
  obtain ⟨ih0, ih1⟩ := risk_Safe.mono_l k
  unfold risk_Safe.f
  repeat' first
      | (with_reducible exact ih0 _ _ _)
      | (with_reducible exact ih1 _ _ _ _ _ _ _ _ _ _ _)
      | (with_reducible exact LeO.refl _)
      | (with_reducible exact LeO.none _)
      | (with_reducible refine LeO.ite ?_ ?_)
      | (with_reducible refine LeO.bind ?_ (fun _ => ?_))
      | exact ih0 _ _ _
      | exact ih1 _ _ _ _ _ _ _ _ _ _ _
      | exact LeO.none _
      | refine LeO.ite ?_ ?_
      | refine LeO.bind ?_ (fun _ => ?_)
set_option maxHeartbeats 8000000 in
set_option maxRecDepth 100000 in
theorem risk_Safe.calls (k : Nat) (A0 : Option Addr) (c0 : Nat) (l0 : List (S34)) (r : Bool) (w : World) (hr0 : Kd.C k34 w A0 l0.length l0) (hc0 : l0.length ≤ c0) (h : risk_Safe.f k l0 = some r) :
    Calls Try.prog 18 #[.slice A0 l0.length c0] w fun e w' => e = .returned (.bool r) ∧ Below w.heap.size w w' := by
  have hu34 := Try.underlying34
  have hu39 := Try.underlying39
  have HR0 := Aside0.mk hr0
  have HC0 := Aside0.mk hc0
  clear hr0 hc0
  have HB := Aside0.mk (Below.refl w.heap.size w)
  have H : (risk_Safe.l0 k l0 (l0.length : Int) 0) = some r := h
  clear h
  have H' := Aside0.mk H
  clear H
  go_enter Try.func18, Try.ntmps18
  go_wp2
  go_loopg [9] k (fun kq v9 w' => ∃ (x9_1 : Int), v9 = .int .i64 x9_1 ∧ Aside0 (risk_Safe.l0 kq l0 (l0.length : Int) x9_1 = some r) ∧ Aside0 (kq ≤ k) ∧ Aside0 (Below w.heap.size w w'))
  case atStart => exact ⟨(0), (by first | rfl | (simp; done) | (simp [*]; done)), H', ⟨Nat.le_refl _⟩, ⟨by repeat (first | (with_reducible first | exact HB.out | apply below_alloc | apply pw_below_drewN | apply below_drew1) | exact HB.out)⟩⟩
  case round =>
    clear H'
    try clear c1
    obtain ⟨x9_1, rfl, HA, HK1, HB⟩ := hrel
    cases gk with
    | zero => exact absurd HA.out (by simp [risk_Safe.l0])
    | succ k1 =>
      have H := HA.out
      clear HA
      simp only [risk_Safe.l0] at H
      by_cases c2 : x9_1 < (l0.length : Int)
      · rw [if_pos c2] at H
        have c2b0 : decide (x9_1 < (l0.length : Int)) = true := decide_eq_true c2
        clear c2
        by_cases c3 : 0 ≤ x9_1
        · rw [if_pos c3] at H
          have c3b0 : decide (0 ≤ x9_1) = true := decide_eq_true c3
          clear c3
          by_cases c4 : x9_1 < (l0.length : Int)
          · rw [if_pos c4] at H
            have c4b0 : decide (x9_1 < (l0.length : Int)) = true := decide_eq_true c4
            clear c4
            by_cases c5 : ((rd_T34 l0 x9_1).f1) = 0
            · rw [if_pos c5] at H
              have c5b0 : (((rd_T34 l0 x9_1).f1) == 0) = true := beq_iff_eq.mpr c5
              have c5b1 : (((rd_T34 l0 x9_1).f1) != 0) = false := bne_eq_false_iff_eq.mpr c5
              clear c5
              replace H := Option.bind_eq_some_iff.mp H
              obtain ⟨t395, A60, H⟩ := H
              replace H : (if t395 = true then (some false) else (risk_Safe.l1 k1 l0 (l0.length : Int) x9_1 ((rd_T34 l0 x9_1).f4) (((rd_T34 l0 x9_1).f4).length : Int) 0 ((rd_T34 l0 x9_1).f0) ((rd_T34 l0 x9_1).f1) ((rd_T34 l0 x9_1).f2) ((rd_T34 l0 x9_1).f3) ((rd_T34 l0 x9_1).f4))) = some r := H
              have A6 := Aside0.mk A60
              clear A60
              by_cases c7 : t395 = true
              · subst c7
                have H1 : (some false) = some r := by rw [if_pos rfl] at H; exact H
                clear H
                have H := H1
                clear H1
                obtain rfl := Option.some.inj H
                have p393 : 0 ≤ (x9_1 : Int) := of_decide_eq_true (by first | (with_reducible assumption) | assumption)
                have q393 : x9_1 < (l0.length : Int) := of_decide_eq_true (by first | (with_reducible assumption) | assumption)
                obtain ⟨ad393, A393_4, c393_4, e393, hx393_0, hx393_1, hx393_2, hx393_3, hx393_4, hl393_4, hi393_4⟩ := at_T34 HR0.out x9_1 p393 q393
                cases e393
                replace hx393_0 := (HB.out.cell (World.block_lt_of_cell? w _ hx393_0)).trans hx393_0
                replace hx393_1 := (HB.out.cell (World.block_lt_of_cell? w _ hx393_1)).trans hx393_1
                replace hx393_2 := (HB.out.cell (World.block_lt_of_cell? w _ hx393_2)).trans hx393_2
                replace hx393_3 := (HB.out.cell (World.block_lt_of_cell? w _ hx393_3)).trans hx393_3
                replace hx393_4 := (HB.out.cell (World.block_lt_of_cell? w _ hx393_4)).trans hx393_4
                have HR393_4 := Aside0.mk hi393_4
                have HC393_4 := Aside0.mk hl393_4
                clear hi393_4 hl393_4
                replace p393 := eq_true p393
                replace q393 := eq_true q393
                go_wp2_with (first | ((with_reducible refine gate_dst (N := 4) rfl ?_); refine box_event ?hg (N := 4) ?hd (cs := #[.int .i64 0, .int .i64 0, .string (⟨#[]⟩ : ByteArray), .string (⟨#[]⟩ : ByteArray), .slice none 0 0]) (t := 34) ?hr ?_; (case hd => rfl); (case hg => rfl); (case hr => first | (go_simp; done) | (go_simp; rfl)); intro gb394 hg w8 hbox hb; have n0_ := Aside0.mk (below_step (by repeat (first | (with_reducible first | exact HB.out | apply below_alloc | apply pw_below_drewN | apply below_drew1) | exact HB.out)) hb); have n1_ := Aside0.mk (hbox); have n2_ := Aside0.mk ((by rw [hg]; exact (below_size (by repeat (first | (with_reducible first | exact HB.out | apply below_alloc | apply pw_below_drewN | apply below_drew1) | exact HB.out))) : w.heap.size ≤ gb394)); have n3_ := Aside0.mk ((by rw [hg]; exact (below_size (by repeat (first | (with_reducible first | exact HB.out | apply below_alloc | apply pw_below_drewN | apply below_drew1) | exact HB.out))) : w.heap.size ≤ gb394)); clear HB; have HB := n0_; have BK394 := n1_; have GW394 := n2_; have GE394 := n3_; clear n0_ n1_ n2_ n3_; clear hb hbox hg; have hcz9_0 : w8.cell? ⟨gb394, 0, none⟩ = some (.int .i64 0) := (blk_cell BK394.out 0).trans rfl; have hcz9_1 : w8.cell? ⟨gb394, 1, none⟩ = some (.int .i64 0) := (blk_cell BK394.out 1).trans rfl; have hcz9_2 : w8.cell? ⟨gb394, 2, none⟩ = some (.string (⟨#[]⟩ : ByteArray)) := (blk_cell BK394.out 2).trans rfl; have hcz9_3 : w8.cell? ⟨gb394, 3, none⟩ = some (.string (⟨#[]⟩ : ByteArray)) := (blk_cell BK394.out 3).trans rfl; have hcz9_4 : w8.cell? ⟨gb394, 4, none⟩ = some (.slice none 0 0) := (blk_cell BK394.out 4).trans rfl; have hfz9_0 := blk_frozen BK394.out 0; have hfz9_1 := blk_frozen BK394.out 1; have hfz9_2 := blk_frozen BK394.out 2; have hfz9_3 := blk_frozen BK394.out 3; have hfz9_4 := blk_frozen BK394.out 4) | ((with_reducible refine gate_callee (f := 34) rfl ?_); refine goesL_ (some 18) rfl rfl Try.func34 (by kernel_rfl) rfl #[.string ((rd_T34 l0 x9_1).f2)] rfl (by (try simp only [List.map_toArray, List.map_cons, List.map_nil]); first | done | rfl | (simp only [List.length_drop, List.length_take]; rfl)) ?_; (with_reducible refine (risk_Element.calls ((rd_T34 l0 x9_1).f2) true _ A6.out).mono ?_); rintro e w' ⟨rfl, ⟨nd, rfl⟩⟩; refine ⟨_, rfl, ?_⟩))
                go_ret
                exact ⟨by first | rfl | (simp [errW_none, errW_some] <;> rfl) | (simp [*, errW_none, errW_some] <;> rfl), by repeat (first | (with_reducible first | exact HB.out | apply below_alloc | apply pw_below_drewN | apply below_drew1 | refine below_set ?_ GE394.out) | exact HB.out)⟩
              · replace c7 := Bool.eq_false_iff.mpr c7
                subst c7
                have H1 : (risk_Safe.l1 k1 l0 (l0.length : Int) x9_1 ((rd_T34 l0 x9_1).f4) (((rd_T34 l0 x9_1).f4).length : Int) 0 ((rd_T34 l0 x9_1).f0) ((rd_T34 l0 x9_1).f1) ((rd_T34 l0 x9_1).f2) ((rd_T34 l0 x9_1).f3) ((rd_T34 l0 x9_1).f4)) = some r := by rw [if_neg (show ¬ (false = true) by decide)] at H; exact H
                clear H
                have H := H1
                clear H1
                have H' := Aside0.mk H
                clear H
                have p393 : 0 ≤ (x9_1 : Int) := of_decide_eq_true (by first | (with_reducible assumption) | assumption)
                have q393 : x9_1 < (l0.length : Int) := of_decide_eq_true (by first | (with_reducible assumption) | assumption)
                obtain ⟨ad393, A393_4, c393_4, e393, hx393_0, hx393_1, hx393_2, hx393_3, hx393_4, hl393_4, hi393_4⟩ := at_T34 HR0.out x9_1 p393 q393
                cases e393
                replace hx393_0 := (HB.out.cell (World.block_lt_of_cell? w _ hx393_0)).trans hx393_0
                replace hx393_1 := (HB.out.cell (World.block_lt_of_cell? w _ hx393_1)).trans hx393_1
                replace hx393_2 := (HB.out.cell (World.block_lt_of_cell? w _ hx393_2)).trans hx393_2
                replace hx393_3 := (HB.out.cell (World.block_lt_of_cell? w _ hx393_3)).trans hx393_3
                replace hx393_4 := (HB.out.cell (World.block_lt_of_cell? w _ hx393_4)).trans hx393_4
                have HR393_4 := Aside0.mk hi393_4
                have HC393_4 := Aside0.mk hl393_4
                clear hi393_4 hl393_4
                replace p393 := eq_true p393
                replace q393 := eq_true q393
                go_wp2_with (first | ((with_reducible refine gate_dst (N := 4) rfl ?_); refine box_event ?hg (N := 4) ?hd (cs := #[.int .i64 0, .int .i64 0, .string (⟨#[]⟩ : ByteArray), .string (⟨#[]⟩ : ByteArray), .slice none 0 0]) (t := 34) ?hr ?_; (case hd => rfl); (case hg => rfl); (case hr => first | (go_simp; done) | (go_simp; rfl)); intro gb394 hg w10 hbox hb; have n0_ := Aside0.mk (below_step (by repeat (first | (with_reducible first | exact HB.out | apply below_alloc | apply pw_below_drewN | apply below_drew1) | exact HB.out)) hb); have n1_ := Aside0.mk (hbox); have n2_ := Aside0.mk ((by rw [hg]; exact (below_size (by repeat (first | (with_reducible first | exact HB.out | apply below_alloc | apply pw_below_drewN | apply below_drew1) | exact HB.out))) : w.heap.size ≤ gb394)); have n3_ := Aside0.mk ((by rw [hg]; exact (below_size (by repeat (first | (with_reducible first | exact HB.out | apply below_alloc | apply pw_below_drewN | apply below_drew1) | exact HB.out))) : w.heap.size ≤ gb394)); clear HB; have HB := n0_; have BK394 := n1_; have GW394 := n2_; have GE394 := n3_; clear n0_ n1_ n2_ n3_; clear hb hbox hg; have hcz11_0 : w10.cell? ⟨gb394, 0, none⟩ = some (.int .i64 0) := (blk_cell BK394.out 0).trans rfl; have hcz11_1 : w10.cell? ⟨gb394, 1, none⟩ = some (.int .i64 0) := (blk_cell BK394.out 1).trans rfl; have hcz11_2 : w10.cell? ⟨gb394, 2, none⟩ = some (.string (⟨#[]⟩ : ByteArray)) := (blk_cell BK394.out 2).trans rfl; have hcz11_3 : w10.cell? ⟨gb394, 3, none⟩ = some (.string (⟨#[]⟩ : ByteArray)) := (blk_cell BK394.out 3).trans rfl; have hcz11_4 : w10.cell? ⟨gb394, 4, none⟩ = some (.slice none 0 0) := (blk_cell BK394.out 4).trans rfl; have hfz11_0 := blk_frozen BK394.out 0; have hfz11_1 := blk_frozen BK394.out 1; have hfz11_2 := blk_frozen BK394.out 2; have hfz11_3 := blk_frozen BK394.out 3; have hfz11_4 := blk_frozen BK394.out 4) | ((with_reducible refine gate_callee (f := 34) rfl ?_); refine goesL_ (some 18) rfl rfl Try.func34 (by kernel_rfl) rfl #[.string ((rd_T34 l0 x9_1).f2)] rfl (by (try simp only [List.map_toArray, List.map_cons, List.map_nil]); first | done | rfl | (simp only [List.length_drop, List.length_take]; rfl)) ?_; (with_reducible refine (risk_Element.calls ((rd_T34 l0 x9_1).f2) false _ A6.out).mono ?_); rintro e w' ⟨rfl, ⟨nd, rfl⟩⟩; refine ⟨_, rfl, ?_⟩))
                go_loopg [22] k1 (fun kq v22 w' => ∃ (x22_2 : Int), v22 = .int .i64 x22_2 ∧ Aside0 (risk_Safe.l1 kq l0 (l0.length : Int) x9_1 ((rd_T34 l0 x9_1).f4) (((rd_T34 l0 x9_1).f4).length : Int) x22_2 ((rd_T34 l0 x9_1).f0) ((rd_T34 l0 x9_1).f1) ((rd_T34 l0 x9_1).f2) ((rd_T34 l0 x9_1).f3) ((rd_T34 l0 x9_1).f4) = some r) ∧ Aside0 (kq ≤ k1) ∧ Aside0 (w'.heap[gb394]? = some (.cells #[.int .i64 ((rd_T34 l0 x9_1).f0), .int .i64 ((rd_T34 l0 x9_1).f1), .string ((rd_T34 l0 x9_1).f2), .string ((rd_T34 l0 x9_1).f3), (.slice A393_4 ((rd_T34 l0 x9_1).f4).length c393_4)] 34 (0, 0))) ∧ Aside0 (Below w.heap.size w w'))
                case atStart => exact ⟨(0), (by first | rfl | (simp; done) | (simp [*]; done)), H', ⟨Nat.le_refl _⟩, ⟨by (with_reducible repeat (first | refine blk_drewN ?_ _ | refine blk_drew ?_ | refine blk_alloc ?_ _)); refine blk_put (cs := #[.int .i64 ((rd_T34 l0 x9_1).f0), .int .i64 ((rd_T34 l0 x9_1).f1), .string ((rd_T34 l0 x9_1).f2), .string ((rd_T34 l0 x9_1).f3), .slice none 0 0]) ?_ 4 _ rfl; (with_reducible repeat (first | refine blk_drewN ?_ _ | refine blk_drew ?_ | refine blk_alloc ?_ _)); refine blk_put (cs := #[.int .i64 ((rd_T34 l0 x9_1).f0), .int .i64 ((rd_T34 l0 x9_1).f1), .string ((rd_T34 l0 x9_1).f2), .string (⟨#[]⟩ : ByteArray), .slice none 0 0]) ?_ 3 _ rfl; (with_reducible repeat (first | refine blk_drewN ?_ _ | refine blk_drew ?_ | refine blk_alloc ?_ _)); refine blk_put (cs := #[.int .i64 ((rd_T34 l0 x9_1).f0), .int .i64 ((rd_T34 l0 x9_1).f1), .string (⟨#[]⟩ : ByteArray), .string (⟨#[]⟩ : ByteArray), .slice none 0 0]) ?_ 2 _ rfl; (with_reducible repeat (first | refine blk_drewN ?_ _ | refine blk_drew ?_ | refine blk_alloc ?_ _)); refine blk_put (cs := #[.int .i64 ((rd_T34 l0 x9_1).f0), .int .i64 0, .string (⟨#[]⟩ : ByteArray), .string (⟨#[]⟩ : ByteArray), .slice none 0 0]) ?_ 1 _ rfl; (with_reducible repeat (first | refine blk_drewN ?_ _ | refine blk_drew ?_ | refine blk_alloc ?_ _)); refine blk_put (cs := #[.int .i64 0, .int .i64 0, .string (⟨#[]⟩ : ByteArray), .string (⟨#[]⟩ : ByteArray), .slice none 0 0]) ?_ 0 _ rfl; (with_reducible repeat (first | refine blk_drewN ?_ _ | refine blk_drew ?_ | refine blk_alloc ?_ _)); exact BK394.out⟩, ⟨by repeat (first | (with_reducible first | exact HB.out | apply below_alloc | apply pw_below_drewN | apply below_drew1 | refine below_set ?_ GE394.out) | exact HB.out)⟩⟩
                case round =>
                  clear H'
                  try clear c1
                  try clear c2
                  try clear c2b0
                  try clear p2
                  try clear c3
                  try clear c3b0
                  try clear p3
                  try clear q3
                  try clear hx3
                  try clear c4
                  try clear c4b0
                  try clear c5
                  try clear c5b0
                  try clear c5b1
                  try clear c7
                  try clear hcz11_0
                  try clear hcz11_1
                  try clear hcz11_2
                  try clear hcz11_3
                  try clear hcz11_4
                  try clear hcz9_0
                  try clear hcz9_1
                  try clear hcz9_2
                  try clear hcz9_3
                  try clear hcz9_4
                  try clear hfz11_0
                  try clear hfz11_1
                  try clear hfz11_2
                  try clear hfz11_3
                  try clear hfz11_4
                  try clear hfz9_0
                  try clear hfz9_1
                  try clear hfz9_2
                  try clear hfz9_3
                  try clear hfz9_4
                  try clear hx393_0
                  try clear hx393_1
                  try clear hx393_2
                  try clear hx393_3
                  try clear hx393_4
                  try clear p393
                  try clear q393
                  obtain ⟨x22_2, rfl, HA, HK2, BK394, HB⟩ := hrel
                  cases gk with
                  | zero => exact absurd HA.out (by simp [risk_Safe.l1])
                  | succ k2 =>
                    have H := HA.out
                    clear HA
                    simp only [risk_Safe.l1] at H
                    by_cases c12 : x22_2 < (((rd_T34 l0 x9_1).f4).length : Int)
                    · rw [if_pos c12] at H
                      have c12b0 : decide (x22_2 < (((rd_T34 l0 x9_1).f4).length : Int)) = true := decide_eq_true c12
                      clear c12
                      by_cases c13 : 0 ≤ x22_2
                      · rw [if_pos c13] at H
                        have c13b0 : decide (0 ≤ x22_2) = true := decide_eq_true c13
                        clear c13
                        by_cases c14 : x22_2 < (((rd_T34 l0 x9_1).f4).length : Int)
                        · rw [if_pos c14] at H
                          have c14b0 : decide (x22_2 < (((rd_T34 l0 x9_1).f4).length : Int)) = true := decide_eq_true c14
                          clear c14
                          replace H := Option.bind_eq_some_iff.mp H
                          obtain ⟨t398, A150, H⟩ := H
                          replace H : (if t398 = true then (some false) else (risk_Safe.l1 k2 l0 (l0.length : Int) x9_1 ((rd_T34 l0 x9_1).f4) (((rd_T34 l0 x9_1).f4).length : Int) (wrap64 (x22_2 + 1)) ((rd_T34 l0 x9_1).f0) ((rd_T34 l0 x9_1).f1) ((rd_T34 l0 x9_1).f2) ((rd_T34 l0 x9_1).f3) ((rd_T34 l0 x9_1).f4))) = some r := H
                          have A15 := Aside0.mk A150
                          clear A150
                          by_cases c16 : t398 = true
                          · subst c16
                            have H1 : (some false) = some r := by rw [if_pos rfl] at H; exact H
                            clear H
                            have H := H1
                            clear H1
                            obtain rfl := Option.some.inj H
                            have p396 : 0 ≤ (x22_2 : Int) := of_decide_eq_true (by first | (with_reducible assumption) | assumption)
                            have q396 : x22_2 < (((rd_T34 l0 x9_1).f4).length : Int) := of_decide_eq_true (by first | (with_reducible assumption) | assumption)
                            obtain ⟨ad396, e396, hx396_0, hx396_1⟩ := at_T39 HR393_4.out x22_2 p396 q396
                            cases e396
                            replace hx396_0 := (HB.out.cell (World.block_lt_of_cell? w _ hx396_0)).trans hx396_0
                            replace hx396_1 := (HB.out.cell (World.block_lt_of_cell? w _ hx396_1)).trans hx396_1
                            replace p396 := eq_true p396
                            replace q396 := eq_true q396
                            go_wp2_with (first | ((with_reducible refine gate_dst (N := 6) rfl ?_); refine box_event ?hg (N := 6) ?hd (cs := #[.string (⟨#[]⟩ : ByteArray), .string (⟨#[]⟩ : ByteArray)]) (t := 39) ?hr ?_; (case hd => rfl); (case hg => rfl); (case hr => first | (go_simp; done) | (go_simp; rfl)); intro gb397 hg w17 hbox hb; have n0_ := Aside0.mk (blk_below (g := gb394) (o := .cells #[.int .i64 ((rd_T34 l0 x9_1).f0), .int .i64 ((rd_T34 l0 x9_1).f1), .string ((rd_T34 l0 x9_1).f2), .string ((rd_T34 l0 x9_1).f3), .slice (some ad396) ((rd_T34 l0 x9_1).f4).length c393_4] 34 (0, 0)) (by (with_reducible repeat (first | refine blk_drewN ?_ _ | refine blk_drew ?_ | refine blk_alloc ?_ _)); exact BK394.out) hb); have n1_ := Aside0.mk (below_step (by repeat (first | (with_reducible first | exact HB.out | apply below_alloc | apply pw_below_drewN | apply below_drew1 | refine below_set ?_ GE394.out) | exact HB.out)) hb); have n2_ := Aside0.mk (hbox); have n3_ := Aside0.mk ((by rw [hg]; exact (below_size (by repeat (first | (with_reducible first | exact HB.out | apply below_alloc | apply pw_below_drewN | apply below_drew1 | refine below_set ?_ GE394.out) | exact HB.out))) : w.heap.size ≤ gb397)); have n4_ := Aside0.mk ((by rw [hg]; exact (below_size (by repeat (first | (with_reducible first | exact HB.out | apply below_alloc | apply pw_below_drewN | apply below_drew1 | refine below_set ?_ GE394.out) | exact HB.out))) : w.heap.size ≤ gb397)); have n5_ := Aside0.mk ((by rw [hg]; exact Nat.ne_of_lt (blk_lt (g := gb394) (o := .cells #[.int .i64 ((rd_T34 l0 x9_1).f0), .int .i64 ((rd_T34 l0 x9_1).f1), .string ((rd_T34 l0 x9_1).f2), .string ((rd_T34 l0 x9_1).f3), .slice (some ad396) ((rd_T34 l0 x9_1).f4).length c393_4] 34 (0, 0)) (by (with_reducible repeat (first | refine blk_drewN ?_ _ | refine blk_drew ?_ | refine blk_alloc ?_ _)); exact BK394.out)) : gb394 ≠ gb397)); have n6_ := Aside0.mk ((by rw [hg]; exact Nat.ne_of_gt (blk_lt (g := gb394) (o := .cells #[.int .i64 ((rd_T34 l0 x9_1).f0), .int .i64 ((rd_T34 l0 x9_1).f1), .string ((rd_T34 l0 x9_1).f2), .string ((rd_T34 l0 x9_1).f3), .slice (some ad396) ((rd_T34 l0 x9_1).f4).length c393_4] 34 (0, 0)) (by (with_reducible repeat (first | refine blk_drewN ?_ _ | refine blk_drew ?_ | refine blk_alloc ?_ _)); exact BK394.out)) : gb397 ≠ gb394)); clear BK394; clear HB; have BK394 := n0_; have HB := n1_; have BK397 := n2_; have GW397 := n3_; have GE397 := n4_; have NB394_397 := n5_; have NB397_394 := n6_; clear n0_ n1_ n2_ n3_ n4_ n5_ n6_; clear hb hbox hg; have hnb18 := NB397_394.out; have hnc18 := NB394_397.out; have hcz19_0 : w17.cell? ⟨gb397, 0, none⟩ = some (.string (⟨#[]⟩ : ByteArray)) := (blk_cell BK397.out 0).trans rfl; have hcz19_1 : w17.cell? ⟨gb397, 1, none⟩ = some (.string (⟨#[]⟩ : ByteArray)) := (blk_cell BK397.out 1).trans rfl; have hfz19_0 := blk_frozen BK397.out 0; have hfz19_1 := blk_frozen BK397.out 1; have hcz20_0 : w17.cell? ⟨gb394, 0, none⟩ = some (.int .i64 ((rd_T34 l0 x9_1).f0)) := (blk_cell BK394.out 0).trans rfl; have hcz20_1 : w17.cell? ⟨gb394, 1, none⟩ = some (.int .i64 ((rd_T34 l0 x9_1).f1)) := (blk_cell BK394.out 1).trans rfl; have hcz20_2 : w17.cell? ⟨gb394, 2, none⟩ = some (.string ((rd_T34 l0 x9_1).f2)) := (blk_cell BK394.out 2).trans rfl; have hcz20_3 : w17.cell? ⟨gb394, 3, none⟩ = some (.string ((rd_T34 l0 x9_1).f3)) := (blk_cell BK394.out 3).trans rfl; have hcz20_4 : w17.cell? ⟨gb394, 4, none⟩ = some (.slice (some ad396) ((rd_T34 l0 x9_1).f4).length c393_4) := (blk_cell BK394.out 4).trans rfl; have hfz20_0 := blk_frozen BK394.out 0; have hfz20_1 := blk_frozen BK394.out 1; have hfz20_2 := blk_frozen BK394.out 2; have hfz20_3 := blk_frozen BK394.out 3; have hfz20_4 := blk_frozen BK394.out 4) | ((with_reducible refine gate_callee (f := 35) rfl ?_); refine goesL_ (some 29) rfl rfl Try.func35 (by kernel_rfl) rfl #[.string ((rd_T34 l0 x9_1).f2), .agg #[.string ((rd_T39 ((rd_T34 l0 x9_1).f4) x22_2).f0), .string ((rd_T39 ((rd_T34 l0 x9_1).f4) x22_2).f1)]] rfl (by (try simp only [List.map_toArray, List.map_cons, List.map_nil]); first | done | rfl | (simp only [List.length_drop, List.length_take]; rfl)) ?_; (with_reducible refine (risk_Attr.calls ((rd_T34 l0 x9_1).f2) ((rd_T39 ((rd_T34 l0 x9_1).f4) x22_2).f0) ((rd_T39 ((rd_T34 l0 x9_1).f4) x22_2).f1) true _ A15.out).mono ?_); rintro e w21 ⟨rfl, hb⟩; refine ⟨_, rfl, ?_⟩; have n0_ := Aside0.mk (blk_below (g := gb394) (o := .cells #[.int .i64 ((rd_T34 l0 x9_1).f0), .int .i64 ((rd_T34 l0 x9_1).f1), .string ((rd_T34 l0 x9_1).f2), .string ((rd_T34 l0 x9_1).f3), .slice (some ad396) ((rd_T34 l0 x9_1).f4).length c393_4] 34 (0, 0)) (by (with_reducible repeat (first | refine blk_drewN ?_ _ | refine blk_drew ?_ | refine blk_alloc ?_ _)); refine blk_far ?_ NB394_397.out _; (with_reducible repeat (first | refine blk_drewN ?_ _ | refine blk_drew ?_ | refine blk_alloc ?_ _)); refine blk_far ?_ NB394_397.out _; (with_reducible repeat (first | refine blk_drewN ?_ _ | refine blk_drew ?_ | refine blk_alloc ?_ _)); exact BK394.out) hb); have n1_ := Aside0.mk (blk_below (g := gb397) (o := .cells #[.string ((rd_T39 ((rd_T34 l0 x9_1).f4) x22_2).f0), .string ((rd_T39 ((rd_T34 l0 x9_1).f4) x22_2).f1)] 39 (0, 0)) (by (with_reducible repeat (first | refine blk_drewN ?_ _ | refine blk_drew ?_ | refine blk_alloc ?_ _)); refine blk_put (cs := #[.string ((rd_T39 ((rd_T34 l0 x9_1).f4) x22_2).f0), .string (⟨#[]⟩ : ByteArray)]) ?_ 1 _ rfl; (with_reducible repeat (first | refine blk_drewN ?_ _ | refine blk_drew ?_ | refine blk_alloc ?_ _)); refine blk_put (cs := #[.string (⟨#[]⟩ : ByteArray), .string (⟨#[]⟩ : ByteArray)]) ?_ 0 _ rfl; (with_reducible repeat (first | refine blk_drewN ?_ _ | refine blk_drew ?_ | refine blk_alloc ?_ _)); exact BK397.out) hb); have n2_ := Aside0.mk (below_step (by repeat (first | (with_reducible first | exact HB.out | apply below_alloc | apply pw_below_drewN | apply below_drew1 | refine below_set ?_ GE394.out | refine below_set ?_ GE397.out) | exact HB.out)) hb); clear BK394; clear BK397; clear HB; have BK394 := n0_; have BK397 := n1_; have HB := n2_; clear n0_ n1_ n2_; (try clear hb); (try clear hb2); (try clear hk); (try clear hi)))
                            go_ret
                            exact ⟨by first | rfl | (simp [errW_none, errW_some] <;> rfl) | (simp [*, errW_none, errW_some] <;> rfl), by repeat (first | (with_reducible first | exact HB.out | apply below_alloc | apply pw_below_drewN | apply below_drew1 | refine below_set ?_ GE394.out | refine below_set ?_ GE397.out) | exact HB.out)⟩
                          · replace c16 := Bool.eq_false_iff.mpr c16
                            subst c16
                            have H1 : (risk_Safe.l1 k2 l0 (l0.length : Int) x9_1 ((rd_T34 l0 x9_1).f4) (((rd_T34 l0 x9_1).f4).length : Int) (wrap64 (x22_2 + 1)) ((rd_T34 l0 x9_1).f0) ((rd_T34 l0 x9_1).f1) ((rd_T34 l0 x9_1).f2) ((rd_T34 l0 x9_1).f3) ((rd_T34 l0 x9_1).f4)) = some r := by rw [if_neg (show ¬ (false = true) by decide)] at H; exact H
                            clear H
                            have H := H1
                            clear H1
                            have H' := Aside0.mk H
                            clear H
                            have p396 : 0 ≤ (x22_2 : Int) := of_decide_eq_true (by first | (with_reducible assumption) | assumption)
                            have q396 : x22_2 < (((rd_T34 l0 x9_1).f4).length : Int) := of_decide_eq_true (by first | (with_reducible assumption) | assumption)
                            obtain ⟨ad396, e396, hx396_0, hx396_1⟩ := at_T39 HR393_4.out x22_2 p396 q396
                            cases e396
                            replace hx396_0 := (HB.out.cell (World.block_lt_of_cell? w _ hx396_0)).trans hx396_0
                            replace hx396_1 := (HB.out.cell (World.block_lt_of_cell? w _ hx396_1)).trans hx396_1
                            replace p396 := eq_true p396
                            replace q396 := eq_true q396
                            go_wp2_with (first | ((with_reducible refine gate_dst (N := 6) rfl ?_); refine box_event ?hg (N := 6) ?hd (cs := #[.string (⟨#[]⟩ : ByteArray), .string (⟨#[]⟩ : ByteArray)]) (t := 39) ?hr ?_; (case hd => rfl); (case hg => rfl); (case hr => first | (go_simp; done) | (go_simp; rfl)); intro gb397 hg w22 hbox hb; have n0_ := Aside0.mk (blk_below (g := gb394) (o := .cells #[.int .i64 ((rd_T34 l0 x9_1).f0), .int .i64 ((rd_T34 l0 x9_1).f1), .string ((rd_T34 l0 x9_1).f2), .string ((rd_T34 l0 x9_1).f3), .slice (some ad396) ((rd_T34 l0 x9_1).f4).length c393_4] 34 (0, 0)) (by (with_reducible repeat (first | refine blk_drewN ?_ _ | refine blk_drew ?_ | refine blk_alloc ?_ _)); exact BK394.out) hb); have n1_ := Aside0.mk (below_step (by repeat (first | (with_reducible first | exact HB.out | apply below_alloc | apply pw_below_drewN | apply below_drew1 | refine below_set ?_ GE394.out) | exact HB.out)) hb); have n2_ := Aside0.mk (hbox); have n3_ := Aside0.mk ((by rw [hg]; exact (below_size (by repeat (first | (with_reducible first | exact HB.out | apply below_alloc | apply pw_below_drewN | apply below_drew1 | refine below_set ?_ GE394.out) | exact HB.out))) : w.heap.size ≤ gb397)); have n4_ := Aside0.mk ((by rw [hg]; exact (below_size (by repeat (first | (with_reducible first | exact HB.out | apply below_alloc | apply pw_below_drewN | apply below_drew1 | refine below_set ?_ GE394.out) | exact HB.out))) : w.heap.size ≤ gb397)); have n5_ := Aside0.mk ((by rw [hg]; exact Nat.ne_of_lt (blk_lt (g := gb394) (o := .cells #[.int .i64 ((rd_T34 l0 x9_1).f0), .int .i64 ((rd_T34 l0 x9_1).f1), .string ((rd_T34 l0 x9_1).f2), .string ((rd_T34 l0 x9_1).f3), .slice (some ad396) ((rd_T34 l0 x9_1).f4).length c393_4] 34 (0, 0)) (by (with_reducible repeat (first | refine blk_drewN ?_ _ | refine blk_drew ?_ | refine blk_alloc ?_ _)); exact BK394.out)) : gb394 ≠ gb397)); have n6_ := Aside0.mk ((by rw [hg]; exact Nat.ne_of_gt (blk_lt (g := gb394) (o := .cells #[.int .i64 ((rd_T34 l0 x9_1).f0), .int .i64 ((rd_T34 l0 x9_1).f1), .string ((rd_T34 l0 x9_1).f2), .string ((rd_T34 l0 x9_1).f3), .slice (some ad396) ((rd_T34 l0 x9_1).f4).length c393_4] 34 (0, 0)) (by (with_reducible repeat (first | refine blk_drewN ?_ _ | refine blk_drew ?_ | refine blk_alloc ?_ _)); exact BK394.out)) : gb397 ≠ gb394)); clear BK394; clear HB; have BK394 := n0_; have HB := n1_; have BK397 := n2_; have GW397 := n3_; have GE397 := n4_; have NB394_397 := n5_; have NB397_394 := n6_; clear n0_ n1_ n2_ n3_ n4_ n5_ n6_; clear hb hbox hg; have hnb23 := NB397_394.out; have hnc23 := NB394_397.out; have hcz24_0 : w22.cell? ⟨gb397, 0, none⟩ = some (.string (⟨#[]⟩ : ByteArray)) := (blk_cell BK397.out 0).trans rfl; have hcz24_1 : w22.cell? ⟨gb397, 1, none⟩ = some (.string (⟨#[]⟩ : ByteArray)) := (blk_cell BK397.out 1).trans rfl; have hfz24_0 := blk_frozen BK397.out 0; have hfz24_1 := blk_frozen BK397.out 1; have hcz25_0 : w22.cell? ⟨gb394, 0, none⟩ = some (.int .i64 ((rd_T34 l0 x9_1).f0)) := (blk_cell BK394.out 0).trans rfl; have hcz25_1 : w22.cell? ⟨gb394, 1, none⟩ = some (.int .i64 ((rd_T34 l0 x9_1).f1)) := (blk_cell BK394.out 1).trans rfl; have hcz25_2 : w22.cell? ⟨gb394, 2, none⟩ = some (.string ((rd_T34 l0 x9_1).f2)) := (blk_cell BK394.out 2).trans rfl; have hcz25_3 : w22.cell? ⟨gb394, 3, none⟩ = some (.string ((rd_T34 l0 x9_1).f3)) := (blk_cell BK394.out 3).trans rfl; have hcz25_4 : w22.cell? ⟨gb394, 4, none⟩ = some (.slice (some ad396) ((rd_T34 l0 x9_1).f4).length c393_4) := (blk_cell BK394.out 4).trans rfl; have hfz25_0 := blk_frozen BK394.out 0; have hfz25_1 := blk_frozen BK394.out 1; have hfz25_2 := blk_frozen BK394.out 2; have hfz25_3 := blk_frozen BK394.out 3; have hfz25_4 := blk_frozen BK394.out 4) | ((with_reducible refine gate_callee (f := 35) rfl ?_); refine goesL_ (some 29) rfl rfl Try.func35 (by kernel_rfl) rfl #[.string ((rd_T34 l0 x9_1).f2), .agg #[.string ((rd_T39 ((rd_T34 l0 x9_1).f4) x22_2).f0), .string ((rd_T39 ((rd_T34 l0 x9_1).f4) x22_2).f1)]] rfl (by (try simp only [List.map_toArray, List.map_cons, List.map_nil]); first | done | rfl | (simp only [List.length_drop, List.length_take]; rfl)) ?_; (with_reducible refine (risk_Attr.calls ((rd_T34 l0 x9_1).f2) ((rd_T39 ((rd_T34 l0 x9_1).f4) x22_2).f0) ((rd_T39 ((rd_T34 l0 x9_1).f4) x22_2).f1) false _ A15.out).mono ?_); rintro e w26 ⟨rfl, hb⟩; refine ⟨_, rfl, ?_⟩; have n0_ := Aside0.mk (blk_below (g := gb394) (o := .cells #[.int .i64 ((rd_T34 l0 x9_1).f0), .int .i64 ((rd_T34 l0 x9_1).f1), .string ((rd_T34 l0 x9_1).f2), .string ((rd_T34 l0 x9_1).f3), .slice (some ad396) ((rd_T34 l0 x9_1).f4).length c393_4] 34 (0, 0)) (by (with_reducible repeat (first | refine blk_drewN ?_ _ | refine blk_drew ?_ | refine blk_alloc ?_ _)); refine blk_far ?_ NB394_397.out _; (with_reducible repeat (first | refine blk_drewN ?_ _ | refine blk_drew ?_ | refine blk_alloc ?_ _)); refine blk_far ?_ NB394_397.out _; (with_reducible repeat (first | refine blk_drewN ?_ _ | refine blk_drew ?_ | refine blk_alloc ?_ _)); exact BK394.out) hb); have n1_ := Aside0.mk (blk_below (g := gb397) (o := .cells #[.string ((rd_T39 ((rd_T34 l0 x9_1).f4) x22_2).f0), .string ((rd_T39 ((rd_T34 l0 x9_1).f4) x22_2).f1)] 39 (0, 0)) (by (with_reducible repeat (first | refine blk_drewN ?_ _ | refine blk_drew ?_ | refine blk_alloc ?_ _)); refine blk_put (cs := #[.string ((rd_T39 ((rd_T34 l0 x9_1).f4) x22_2).f0), .string (⟨#[]⟩ : ByteArray)]) ?_ 1 _ rfl; (with_reducible repeat (first | refine blk_drewN ?_ _ | refine blk_drew ?_ | refine blk_alloc ?_ _)); refine blk_put (cs := #[.string (⟨#[]⟩ : ByteArray), .string (⟨#[]⟩ : ByteArray)]) ?_ 0 _ rfl; (with_reducible repeat (first | refine blk_drewN ?_ _ | refine blk_drew ?_ | refine blk_alloc ?_ _)); exact BK397.out) hb); have n2_ := Aside0.mk (below_step (by repeat (first | (with_reducible first | exact HB.out | apply below_alloc | apply pw_below_drewN | apply below_drew1 | refine below_set ?_ GE394.out | refine below_set ?_ GE397.out) | exact HB.out)) hb); clear BK394; clear BK397; clear HB; have BK394 := n0_; have BK397 := n1_; have HB := n2_; clear n0_ n1_ n2_; (try clear hb); (try clear hb2); (try clear hk); (try clear hi)))
                            go_roundg k2
                            case measure => have := HK1.out; have := HK2.out; omega
                            case rel => exact ⟨(wrap64 (x22_2 + 1)), (by first | rfl | (simp; done) | (simp [*]; done)), H', ⟨by have := HK1.out; have := HK2.out; omega⟩, ⟨by (with_reducible repeat (first | refine blk_drewN ?_ _ | refine blk_drew ?_ | refine blk_alloc ?_ _)); exact BK394.out⟩, ⟨by repeat (first | (with_reducible first | exact HB.out | apply below_alloc | apply pw_below_drewN | apply below_drew1 | refine below_set ?_ GE394.out | refine below_set ?_ GE397.out) | exact HB.out)⟩⟩
                        · rw [if_neg c14] at H
                          exact absurd H (by simp)
                      · rw [if_neg c13] at H
                        exact absurd H (by simp)
                    · rw [if_neg c12] at H
                      have c12b0 : decide (x22_2 < (((rd_T34 l0 x9_1).f4).length : Int)) = false := decide_eq_false c12
                      clear c12
                      have H' := Aside0.mk H
                      clear H
                      go_wp2
                      go_roundg k2
                      case measure => have := HK1.out; have := HK2.out; omega
                      case rel => exact ⟨(wrap64 (x9_1 + 1)), (by first | rfl | (simp; done) | (simp [*]; done)), H', ⟨by have := HK1.out; have := HK2.out; omega⟩, ⟨by repeat (first | (with_reducible first | exact HB.out | apply below_alloc | apply pw_below_drewN | apply below_drew1 | refine below_set ?_ GE394.out) | exact HB.out)⟩⟩
            · rw [if_neg c5] at H
              have c5b0 : (((rd_T34 l0 x9_1).f1) == 0) = false := beq_eq_false_iff_ne.mpr c5
              have c5b1 : (((rd_T34 l0 x9_1).f1) != 0) = true := bne_iff_ne.mpr c5
              have H' := Aside0.mk H
              clear H
              have p393 : 0 ≤ (x9_1 : Int) := of_decide_eq_true (by first | (with_reducible assumption) | assumption)
              have q393 : x9_1 < (l0.length : Int) := of_decide_eq_true (by first | (with_reducible assumption) | assumption)
              obtain ⟨ad393, A393_4, c393_4, e393, hx393_0, hx393_1, hx393_2, hx393_3, hx393_4, hl393_4, hi393_4⟩ := at_T34 HR0.out x9_1 p393 q393
              cases e393
              replace hx393_0 := (HB.out.cell (World.block_lt_of_cell? w _ hx393_0)).trans hx393_0
              replace hx393_1 := (HB.out.cell (World.block_lt_of_cell? w _ hx393_1)).trans hx393_1
              replace hx393_2 := (HB.out.cell (World.block_lt_of_cell? w _ hx393_2)).trans hx393_2
              replace hx393_3 := (HB.out.cell (World.block_lt_of_cell? w _ hx393_3)).trans hx393_3
              replace hx393_4 := (HB.out.cell (World.block_lt_of_cell? w _ hx393_4)).trans hx393_4
              have HR393_4 := Aside0.mk hi393_4
              have HC393_4 := Aside0.mk hl393_4
              clear hi393_4 hl393_4
              replace p393 := eq_true p393
              replace q393 := eq_true q393
              go_wp2_with (first | ((with_reducible refine gate_dst (N := 4) rfl ?_); refine box_event ?hg (N := 4) ?hd (cs := #[.int .i64 0, .int .i64 0, .string (⟨#[]⟩ : ByteArray), .string (⟨#[]⟩ : ByteArray), .slice none 0 0]) (t := 34) ?hr ?_; (case hd => rfl); (case hg => rfl); (case hr => first | (go_simp; done) | (go_simp; rfl)); intro gb394 hg w27 hbox hb; have n0_ := Aside0.mk (below_step (by repeat (first | (with_reducible first | exact HB.out | apply below_alloc | apply pw_below_drewN | apply below_drew1) | exact HB.out)) hb); have n1_ := Aside0.mk (hbox); have n2_ := Aside0.mk ((by rw [hg]; exact (below_size (by repeat (first | (with_reducible first | exact HB.out | apply below_alloc | apply pw_below_drewN | apply below_drew1) | exact HB.out))) : w.heap.size ≤ gb394)); have n3_ := Aside0.mk ((by rw [hg]; exact (below_size (by repeat (first | (with_reducible first | exact HB.out | apply below_alloc | apply pw_below_drewN | apply below_drew1) | exact HB.out))) : w.heap.size ≤ gb394)); clear HB; have HB := n0_; have BK394 := n1_; have GW394 := n2_; have GE394 := n3_; clear n0_ n1_ n2_ n3_; clear hb hbox hg; have hcz28_0 : w27.cell? ⟨gb394, 0, none⟩ = some (.int .i64 0) := (blk_cell BK394.out 0).trans rfl; have hcz28_1 : w27.cell? ⟨gb394, 1, none⟩ = some (.int .i64 0) := (blk_cell BK394.out 1).trans rfl; have hcz28_2 : w27.cell? ⟨gb394, 2, none⟩ = some (.string (⟨#[]⟩ : ByteArray)) := (blk_cell BK394.out 2).trans rfl; have hcz28_3 : w27.cell? ⟨gb394, 3, none⟩ = some (.string (⟨#[]⟩ : ByteArray)) := (blk_cell BK394.out 3).trans rfl; have hcz28_4 : w27.cell? ⟨gb394, 4, none⟩ = some (.slice none 0 0) := (blk_cell BK394.out 4).trans rfl; have hfz28_0 := blk_frozen BK394.out 0; have hfz28_1 := blk_frozen BK394.out 1; have hfz28_2 := blk_frozen BK394.out 2; have hfz28_3 := blk_frozen BK394.out 3; have hfz28_4 := blk_frozen BK394.out 4))
              go_roundg k1
              case measure => have := HK1.out; omega
              case rel => exact ⟨(wrap64 (x9_1 + 1)), (by first | rfl | (simp; done) | (simp [*]; done)), H', ⟨by have := HK1.out; omega⟩, ⟨by repeat (first | (with_reducible first | exact HB.out | apply below_alloc | apply pw_below_drewN | apply below_drew1 | refine below_set ?_ GE394.out) | exact HB.out)⟩⟩
          · rw [if_neg c4] at H
            exact absurd H (by simp)
        · rw [if_neg c3] at H
          exact absurd H (by simp)
      · rw [if_neg c2] at H
        have c2b0 : decide (x9_1 < (l0.length : Int)) = false := decide_eq_false c2
        clear c2
        obtain rfl := Option.some.inj H
        go_wp2
        go_ret
        exact ⟨by first | rfl | (simp [errW_none, errW_some] <;> rfl) | (simp [*, errW_none, errW_some] <;> rfl), by repeat (first | (with_reducible first | exact HB.out | apply below_alloc | apply pw_below_drewN | apply below_drew1) | exact HB.out)⟩

end Go.Proofs.Ytakhldahohooiaa.Pr
