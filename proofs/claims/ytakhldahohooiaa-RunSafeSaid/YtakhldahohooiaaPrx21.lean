-- Written by wip/tools/pr.sh out of Lean's own print of the translation. Not trusted: Lean checks it.
import Derived.Test.YtakhldahohooiaaPrx0
import Derived.Test.YtakhldahohooiaaPrx2
import Derived.Test.YtakhldahohooiaaPrx3
import Derived.Test.YtakhldahohooiaaPrx4
import Derived.Test.YtakhldahohooiaaPrx5
import Derived.Test.YtakhldahohooiaaPrx7
import Derived.Test.YtakhldahohooiaaPrxRightA
import Derived.Test.YtakhldahohooiaaPrx20
namespace Go.Proofs.Ytakhldahohooiaa.Pr
open Go.RowKit Go.Proofs.YtakhldahohooiaaW.PrintWords Go.Proofs.YtakhldahohooiaaW.PrintLast Go.Proofs.YtakhldahohooiaaW.PrintMore
attribute [local go_sem] max2_int min2_int max_two min_two max_three min_three max_four min_four   -- for this text's walks alone
set_option linter.unusedVariables false
set_option linter.unusedSimpArgs false

/-! ### boltinglaw19_RunSafe: function 6 -/
mutual
def boltinglaw19_RunSafe.j0 : Nat → List (S34) → ByteArray → Bool → Option (Bool)
  | 0, _, _, _ => none
  | k + 1, x0, x1, x22 => if x22 = true then (some false) else ((run_Nothing.f k x0).bind fun t406 => (if t406 = true then (boltinglaw19_RunSafe.l0 k x0 x1 0) else ((boltinglaw19_fixed.f k).bind fun t407 => (some t407))))
def boltinglaw19_RunSafe.l0 : Nat → List (S34) → ByteArray → Int → Option (Bool)
  | 0, _, _, _ => none
  | k + 1, x0, x1, x5 => if x5 < (x0.length : Int) then (if 0 ≤ x5 then ((run_Handler.f k ((rd_T34 x0 x5).f0) ((rd_T34 x0 x5).f1) ((rd_T34 x0 x5).f2) ((rd_T34 x0 x5).f3) ((rd_T34 x0 x5).f4) x1).bind fun bt413 => ((run_Follow.f k ((rd_T34 x0 x5).f0) ((rd_T34 x0 x5).f1) ((rd_T34 x0 x5).f2) ((rd_T34 x0 x5).f3) ((rd_T34 x0 x5).f4)).bind fun bt416 => (if bt413.2 = true then (some false) else (if bt416.2 = true then (some false) else (boltinglaw19_RunSafe.l0 k x0 x1 (wrap64 (x5 + 1))))))) else (none)) else ((run_Scripts.f k x0).bind fun t408 => (if (t408.length : Int) = 0 then ((boltinglaw19_fixed.f k).bind fun t411 => (some t411)) else (some false)))
end
def boltinglaw19_RunSafe.f (k : Nat) (l0 : List (S34)) (a1 : ByteArray) : Option (Bool) := (boltinglaw19_bound.f k l0).bind fun t399 => ((boltingref04_Right.f k t399).bind fun t402 => (if t402 = true then ((risk_Safe.f k t399).bind fun t404 => (if t404 = true then ((run_Nothing.f k t399).bind fun t405 => (boltinglaw19_RunSafe.j0 k t399 a1 (!t405))) else (boltinglaw19_RunSafe.j0 k t399 a1 false))) else ((boltinglaw19_fixed.f k).bind fun t403 => (some t403))))
theorem boltinglaw19_RunSafe.mono_l : ∀ k, (∀ y0 y1 y2, LeO (boltinglaw19_RunSafe.j0 k y0 y1 y2) (boltinglaw19_RunSafe.j0 (k + 1) y0 y1 y2)) ∧ (∀ y0 y1 y2, LeO (boltinglaw19_RunSafe.l0 k y0 y1 y2) (boltinglaw19_RunSafe.l0 (k + 1) y0 y1 y2))
  | 0 => ⟨fun _ _ _ r h => by simp [boltinglaw19_RunSafe.j0] at h, fun _ _ _ r h => by simp [boltinglaw19_RunSafe.l0] at h⟩
  | k + 1 => by
    obtain ⟨ih0, ih1⟩ := boltinglaw19_RunSafe.mono_l k
    refine ⟨?_, ?_⟩
    · intro y0 y1 y2
      unfold boltinglaw19_RunSafe.j0
      repeat' first
      | (with_reducible exact ih0 _ _ _)
      | (with_reducible exact ih1 _ _ _)
      | (with_reducible exact boltinglaw19_bound.mono _ _)
      | (with_reducible exact boltinglaw19_fixed.mono _)
      | (with_reducible exact boltingref04_Right.mono _ _)
      | (with_reducible exact risk_Safe.mono _ _)
      | (with_reducible exact run_Follow.mono _ _ _ _ _ _)
      | (with_reducible exact run_Handler.mono _ _ _ _ _ _ _)
      | (with_reducible exact run_Nothing.mono _ _)
      | (with_reducible exact run_Scripts.mono _ _)
      | (with_reducible exact LeO.refl _)
      | (with_reducible exact LeO.none _)
      | (with_reducible refine LeO.ite ?_ ?_)
      | (with_reducible refine LeO.bind ?_ (fun _ => ?_))
      | exact ih0 _ _ _
      | exact ih1 _ _ _
      | exact boltinglaw19_bound.mono _ _
      | exact boltinglaw19_fixed.mono _
      | exact boltingref04_Right.mono _ _
      | exact risk_Safe.mono _ _
      | exact run_Follow.mono _ _ _ _ _ _
      | exact run_Handler.mono _ _ _ _ _ _ _
      | exact run_Nothing.mono _ _
      | exact run_Scripts.mono _ _
      | exact LeO.none _
      | refine LeO.ite ?_ ?_
      | refine LeO.bind ?_ (fun _ => ?_)
    · intro y0 y1 y2
      unfold boltinglaw19_RunSafe.l0
      repeat' first
      | (with_reducible exact ih0 _ _ _)
      | (with_reducible exact ih1 _ _ _)
      | (with_reducible exact boltinglaw19_bound.mono _ _)
      | (with_reducible exact boltinglaw19_fixed.mono _)
      | (with_reducible exact boltingref04_Right.mono _ _)
      | (with_reducible exact risk_Safe.mono _ _)
      | (with_reducible exact run_Follow.mono _ _ _ _ _ _)
      | (with_reducible exact run_Handler.mono _ _ _ _ _ _ _)
      | (with_reducible exact run_Nothing.mono _ _)
      | (with_reducible exact run_Scripts.mono _ _)
      | (with_reducible exact LeO.refl _)
      | (with_reducible exact LeO.none _)
      | (with_reducible refine LeO.ite ?_ ?_)
      | (with_reducible refine LeO.bind ?_ (fun _ => ?_))
      | exact ih0 _ _ _
      | exact ih1 _ _ _
      | exact boltinglaw19_bound.mono _ _
      | exact boltinglaw19_fixed.mono _
      | exact boltingref04_Right.mono _ _
      | exact risk_Safe.mono _ _
      | exact run_Follow.mono _ _ _ _ _ _
      | exact run_Handler.mono _ _ _ _ _ _ _
      | exact run_Nothing.mono _ _
      | exact run_Scripts.mono _ _
      | exact LeO.none _
      | refine LeO.ite ?_ ?_
      | refine LeO.bind ?_ (fun _ => ?_)
theorem boltinglaw19_RunSafe.mono : ∀ a0 a1 k, LeO (boltinglaw19_RunSafe.f k a0 a1) (boltinglaw19_RunSafe.f (k + 1) a0 a1) := by
  intro a0 a1 k
  obtain ⟨ih0, ih1⟩ := boltinglaw19_RunSafe.mono_l k
  unfold boltinglaw19_RunSafe.f
  repeat' first
      | (with_reducible exact ih0 _ _ _)
      | (with_reducible exact ih1 _ _ _)
      | (with_reducible exact boltinglaw19_bound.mono _ _)
      | (with_reducible exact boltinglaw19_fixed.mono _)
      | (with_reducible exact boltingref04_Right.mono _ _)
      | (with_reducible exact risk_Safe.mono _ _)
      | (with_reducible exact run_Follow.mono _ _ _ _ _ _)
      | (with_reducible exact run_Handler.mono _ _ _ _ _ _ _)
      | (with_reducible exact run_Nothing.mono _ _)
      | (with_reducible exact run_Scripts.mono _ _)
      | (with_reducible exact LeO.refl _)
      | (with_reducible exact LeO.none _)
      | (with_reducible refine LeO.ite ?_ ?_)
      | (with_reducible refine LeO.bind ?_ (fun _ => ?_))
      | exact ih0 _ _ _
      | exact ih1 _ _ _
      | exact boltinglaw19_bound.mono _ _
      | exact boltinglaw19_fixed.mono _
      | exact boltingref04_Right.mono _ _
      | exact risk_Safe.mono _ _
      | exact run_Follow.mono _ _ _ _ _ _
      | exact run_Handler.mono _ _ _ _ _ _ _
      | exact run_Nothing.mono _ _
      | exact run_Scripts.mono _ _
      | exact LeO.none _
      | refine LeO.ite ?_ ?_
      | refine LeO.bind ?_ (fun _ => ?_)
set_option maxHeartbeats 8000000 in
set_option maxRecDepth 100000 in
theorem boltinglaw19_RunSafe.calls (k : Nat) (A0 : Option Addr) (c0 : Nat) (l0 : List (S34)) (a1 : ByteArray) (r : Bool) (w : World) (hr0 : Kd.C k34 w A0 l0.length l0) (hc0 : l0.length ≤ c0) (h : boltinglaw19_RunSafe.f k l0 a1 = some r) :
    Calls Try.prog 6 #[.slice A0 l0.length c0, .string a1] w fun e w' => e = .returned (.bool r) ∧ Below w.heap.size w w' := by
  have hu34 := Try.underlying34
  have HR0 := Aside0.mk hr0
  have HC0 := Aside0.mk hc0
  clear hr0 hc0
  have HB := Aside0.mk (Below.refl w.heap.size w)
  have H : ((boltinglaw19_bound.f k l0).bind fun t399 => ((boltingref04_Right.f k t399).bind fun t402 => (if t402 = true then ((risk_Safe.f k t399).bind fun t404 => (if t404 = true then ((run_Nothing.f k t399).bind fun t405 => (boltinglaw19_RunSafe.j0 k t399 a1 (!t405))) else (boltinglaw19_RunSafe.j0 k t399 a1 false))) else ((boltinglaw19_fixed.f k).bind fun t403 => (some t403))))) = some r := h
  clear h
  replace H := Option.bind_eq_some_iff.mp H
  obtain ⟨t399, A30, H⟩ := H
  replace H : ((boltingref04_Right.f k t399).bind fun t402 => (if t402 = true then ((risk_Safe.f k t399).bind fun t404 => (if t404 = true then ((run_Nothing.f k t399).bind fun t405 => (boltinglaw19_RunSafe.j0 k t399 a1 (!t405))) else (boltinglaw19_RunSafe.j0 k t399 a1 false))) else ((boltinglaw19_fixed.f k).bind fun t403 => (some t403)))) = some r := H
  have A3 := Aside0.mk A30
  clear A30
  replace H := Option.bind_eq_some_iff.mp H
  obtain ⟨t402, A40, H⟩ := H
  replace H : (if t402 = true then ((risk_Safe.f k t399).bind fun t404 => (if t404 = true then ((run_Nothing.f k t399).bind fun t405 => (boltinglaw19_RunSafe.j0 k t399 a1 (!t405))) else (boltinglaw19_RunSafe.j0 k t399 a1 false))) else ((boltinglaw19_fixed.f k).bind fun t403 => (some t403))) = some r := H
  have A4 := Aside0.mk A40
  clear A40
  by_cases c5 : t402 = true
  · subst c5
    have H1 : ((risk_Safe.f k t399).bind fun t404 => (if t404 = true then ((run_Nothing.f k t399).bind fun t405 => (boltinglaw19_RunSafe.j0 k t399 a1 (!t405))) else (boltinglaw19_RunSafe.j0 k t399 a1 false))) = some r := by rw [if_pos rfl] at H; exact H
    clear H
    have H := H1
    clear H1
    have HC6 := Aside0.mk H
    clear H
    go_enter Try.func6, Try.ntmps6
    go_upto_region 4 with (first | ((fail_if_success (have z_ := HO401)); (with_reducible refine gate_callee (f := 7) rfl ?_); refine goesL_ (some 11) rfl rfl Try.func7 (by kernel_rfl) rfl #[.slice A0 l0.length c0] rfl (by (try simp only [List.map_toArray, List.map_cons, List.map_nil]); first | done | rfl | (simp only [List.length_drop, List.length_take]; rfl)) ?_; (with_reducible refine (boltinglaw19_bound.calls k (fun k_ => k_ < w.heap.size) _ _ l0 t399 _ ?side1 A3.out).mono ?_); (case side1 => exact Kd.V_mk HC0.out (Kd.F_below (Kd.C_F k34_heap HR0.out) (by repeat (first | (with_reducible first | exact HB.out | apply below_alloc | apply pw_below_drewN | apply below_drew1) | exact HB.out)))); rintro e w7 ⟨v400, rfl, ho0, hb⟩; refine ⟨_, rfl, ?_⟩; have n0_ := Aside0.mk (Kd.N_lower (Kd.N_mono (ok' := fun k_ => True) ho0 (fun k_ hk_ => trivial)) (below_size (by repeat (first | (with_reducible first | exact HB.out | apply below_alloc | apply pw_below_drewN | apply below_drew1) | exact HB.out)))); have n1_ := Aside0.mk (below_step (by repeat (first | (with_reducible first | exact HB.out | apply below_alloc | apply pw_below_drewN | apply below_drew1) | exact HB.out)) hb); clear HB; have HO401 := n0_; have HB := n1_; clear n0_ n1_; (try clear hb); (try clear hb2); (try clear hk); (try clear hi); (try clear ho0); obtain ⟨Ao8, co8, eo8⟩ := Kd.N_slice HO401.out; subst eo8) | ((with_reducible refine gate_callee (f := 8) rfl ?_); refine goesL_ (some 13) rfl rfl Try.func8 (by kernel_rfl) rfl #[.slice Ao8 t399.length co8] rfl (by (try simp only [List.map_toArray, List.map_cons, List.map_nil]); first | done | rfl | (simp only [List.length_drop, List.length_take]; rfl)) ?_; (with_reducible refine (boltingref04_Right.calls k _ _ t399 true _ ?side1 ?side2 A4.out).mono ?_); (case side1 => repeat (first | exact (Kd.N_reads' HO401.out).2.2 | (with_reducible refine Kd.C_alloc ?_ _) | (with_reducible refine Kd.C_drewN ?_ _) | (with_reducible refine Kd.C_drew ?_))); (case side2 => exact (Kd.N_reads' HO401.out).2.1); rintro e w9 ⟨rfl, hb⟩; refine ⟨_, rfl, ?_⟩; have n0_ := Aside0.mk (Kd.N_below (by (with_reducible repeat (first | apply Kd.N_alloc | apply Kd.N_drewN | apply Kd.N_drew)); exact HO401.out) hb); have n1_ := Aside0.mk (below_step (by repeat (first | (with_reducible first | exact HB.out | apply below_alloc | apply pw_below_drewN | apply below_drew1) | exact HB.out)) hb); clear HO401; clear HB; have HO401 := n0_; have HB := n1_; clear n0_ n1_; (try clear hb); (try clear hb2); (try clear hk); (try clear hi)))
    (try simp only [Act.put, List.setIfInBounds_toArray, List.set_cons_zero, List.set_cons_succ])
    go_cut [22] (fun v22 wc => ∃ (kq : Nat) (x22_5 : Bool), v22 = .bool x22_5 ∧ Aside0 (boltinglaw19_RunSafe.j0 kq t399 a1 x22_5 = some r) ∧ Aside0 (kq ≤ k) ∧ Aside0 (Kd.N k34 34 wc w.heap.size (fun _ => True) (.slice Ao8 t399.length co8) t399) ∧ Aside0 (Below w.heap.size w wc))
    case first =>
      have H := HC6.out
      clear HC6
      replace H := Option.bind_eq_some_iff.mp H
      obtain ⟨t404, A100, H⟩ := H
      replace H : (if t404 = true then ((run_Nothing.f k t399).bind fun t405 => (boltinglaw19_RunSafe.j0 k t399 a1 (!t405))) else (boltinglaw19_RunSafe.j0 k t399 a1 false)) = some r := H
      have A10 := Aside0.mk A100
      clear A100
      by_cases c11 : t404 = true
      · subst c11
        have H1 : ((run_Nothing.f k t399).bind fun t405 => (boltinglaw19_RunSafe.j0 k t399 a1 (!t405))) = some r := by rw [if_pos rfl] at H; exact H
        clear H
        have H := H1
        clear H1
        replace H := Option.bind_eq_some_iff.mp H
        obtain ⟨t405, A120, H⟩ := H
        replace H : (boltinglaw19_RunSafe.j0 k t399 a1 (!t405)) = some r := H
        have A12 := Aside0.mk A120
        clear A120
        have H' := Aside0.mk H
        clear H
        go_wp2_with (first | ((with_reducible refine gate_callee (f := 18) rfl ?_); refine goesL_ (some 17) rfl rfl Try.func18 (by kernel_rfl) rfl #[.slice Ao8 t399.length co8] rfl (by (try simp only [List.map_toArray, List.map_cons, List.map_nil]); first | done | rfl | (simp only [List.length_drop, List.length_take]; rfl)) ?_; (with_reducible refine (risk_Safe.calls k _ _ t399 true _ ?side1 ?side2 A10.out).mono ?_); (case side1 => repeat (first | exact (Kd.N_reads' HO401.out).2.2 | (with_reducible refine Kd.C_alloc ?_ _) | (with_reducible refine Kd.C_drewN ?_ _) | (with_reducible refine Kd.C_drew ?_))); (case side2 => exact (Kd.N_reads' HO401.out).2.1); rintro e w13 ⟨rfl, hb⟩; refine ⟨_, rfl, ?_⟩; have n0_ := Aside0.mk (Kd.N_below (by (with_reducible repeat (first | apply Kd.N_alloc | apply Kd.N_drewN | apply Kd.N_drew)); exact HO401.out) hb); have n1_ := Aside0.mk (below_step (by repeat (first | (with_reducible first | exact HB.out | apply below_alloc | apply pw_below_drewN | apply below_drew1) | exact HB.out)) hb); clear HO401; clear HB; have HO401 := n0_; have HB := n1_; clear n0_ n1_; (try clear hb); (try clear hb2); (try clear hk); (try clear hi)) | (go_at_call 13; (with_reducible refine (run_Nothing.calls k _ _ t399 t405 _ ?side1 ?side2 A12.out).mono ?_); (case side1 => repeat (first | exact (Kd.N_reads' HO401.out).2.2 | (with_reducible refine Kd.C_alloc ?_ _) | (with_reducible refine Kd.C_drewN ?_ _) | (with_reducible refine Kd.C_drew ?_))); (case side2 => exact (Kd.N_reads' HO401.out).2.1); rintro e w14 ⟨rfl, hb⟩; have n0_ := Aside0.mk (Kd.N_below (by (with_reducible repeat (first | apply Kd.N_alloc | apply Kd.N_drewN | apply Kd.N_drew)); exact HO401.out) hb); have n1_ := Aside0.mk (below_step (by repeat (first | (with_reducible first | exact HB.out | apply below_alloc | apply pw_below_drewN | apply below_drew1) | exact HB.out)) hb); clear HO401; clear HB; have HO401 := n0_; have HB := n1_; clear n0_ n1_; (try clear hb); (try clear hb2); (try clear hk); (try clear hi)))
        go_meet
        case rel => exact ⟨_, (!t405), (by first | rfl | (simp; done) | (simp [*]; done)), H', ⟨by first | omega | exact Nat.le_refl _⟩, ⟨by (with_reducible repeat (first | apply Kd.N_alloc | apply Kd.N_drewN | apply Kd.N_drew)); exact HO401.out⟩, ⟨by repeat (first | (with_reducible first | exact HB.out | apply below_alloc | apply pw_below_drewN | apply below_drew1) | exact HB.out)⟩⟩
      · replace c11 := Bool.eq_false_iff.mpr c11
        subst c11
        have H1 : (boltinglaw19_RunSafe.j0 k t399 a1 false) = some r := by rw [if_neg (show ¬ (false = true) by decide)] at H; exact H
        clear H
        have H := H1
        clear H1
        have H' := Aside0.mk H
        clear H
        go_wp2_with (first | ((with_reducible refine gate_callee (f := 18) rfl ?_); refine goesL_ (some 17) rfl rfl Try.func18 (by kernel_rfl) rfl #[.slice Ao8 t399.length co8] rfl (by (try simp only [List.map_toArray, List.map_cons, List.map_nil]); first | done | rfl | (simp only [List.length_drop, List.length_take]; rfl)) ?_; (with_reducible refine (risk_Safe.calls k _ _ t399 false _ ?side1 ?side2 A10.out).mono ?_); (case side1 => repeat (first | exact (Kd.N_reads' HO401.out).2.2 | (with_reducible refine Kd.C_alloc ?_ _) | (with_reducible refine Kd.C_drewN ?_ _) | (with_reducible refine Kd.C_drew ?_))); (case side2 => exact (Kd.N_reads' HO401.out).2.1); rintro e w15 ⟨rfl, hb⟩; refine ⟨_, rfl, ?_⟩; have n0_ := Aside0.mk (Kd.N_below (by (with_reducible repeat (first | apply Kd.N_alloc | apply Kd.N_drewN | apply Kd.N_drew)); exact HO401.out) hb); have n1_ := Aside0.mk (below_step (by repeat (first | (with_reducible first | exact HB.out | apply below_alloc | apply pw_below_drewN | apply below_drew1) | exact HB.out)) hb); clear HO401; clear HB; have HO401 := n0_; have HB := n1_; clear n0_ n1_; (try clear hb); (try clear hb2); (try clear hk); (try clear hi)))
        go_meet
        case rel => exact ⟨_, (false), (by first | rfl | (simp; done) | (simp [*]; done)), H', ⟨by first | omega | exact Nat.le_refl _⟩, ⟨by (with_reducible repeat (first | apply Kd.N_alloc | apply Kd.N_drewN | apply Kd.N_drew)); exact HO401.out⟩, ⟨by repeat (first | (with_reducible first | exact HB.out | apply below_alloc | apply pw_below_drewN | apply below_drew1) | exact HB.out)⟩⟩
    case rest =>
      clear HC6
      try clear c1
      try clear p2
      try clear c5
      try clear c6
      try clear c7
      try clear c8
      try clear c11
      obtain ⟨kq, x22_5, rfl, HA, HJ5, HO_0, HB⟩ := hcut
      cases kq with
      | zero => exact absurd HA.out (by simp [boltinglaw19_RunSafe.j0])
      | succ kj5 =>
        have H := HA.out
        clear HA
        simp only [boltinglaw19_RunSafe.j0] at H
        by_cases c16 : x22_5 = true
        · subst c16
          have H1 : (some false) = some r := by rw [if_pos rfl] at H; exact H
          clear H
          have H := H1
          clear H1
          obtain rfl := Option.some.inj H
          go_wp2
          go_ret
          exact ⟨by first | rfl | (simp [errW_none, errW_some] <;> rfl) | (simp [*, errW_none, errW_some] <;> rfl), by repeat (first | (with_reducible first | exact HB.out | apply below_alloc | apply pw_below_drewN | apply below_drew1) | exact HB.out)⟩
        · replace c16 := Bool.eq_false_iff.mpr c16
          subst c16
          have H1 : ((run_Nothing.f kj5 t399).bind fun t406 => (if t406 = true then (boltinglaw19_RunSafe.l0 kj5 t399 a1 0) else ((boltinglaw19_fixed.f kj5).bind fun t407 => (some t407)))) = some r := by rw [if_neg (show ¬ (false = true) by decide)] at H; exact H
          clear H
          have H := H1
          clear H1
          replace H := Option.bind_eq_some_iff.mp H
          obtain ⟨t406, A170, H⟩ := H
          replace H : (if t406 = true then (boltinglaw19_RunSafe.l0 kj5 t399 a1 0) else ((boltinglaw19_fixed.f kj5).bind fun t407 => (some t407))) = some r := H
          have A17 := Aside0.mk A170
          clear A170
          by_cases c18 : t406 = true
          · subst c18
            have H1 : (boltinglaw19_RunSafe.l0 kj5 t399 a1 0) = some r := by rw [if_pos rfl] at H; exact H
            clear H
            have H := H1
            clear H1
            have H' := Aside0.mk H
            clear H
            go_wp2_with (first | ((with_reducible refine gate_callee (f := 13) rfl ?_); refine goesL_ (some 24) rfl rfl Try.func13 (by kernel_rfl) rfl #[.slice Ao8 t399.length co8] rfl (by (try simp only [List.map_toArray, List.map_cons, List.map_nil]); first | done | rfl | (simp only [List.length_drop, List.length_take]; rfl)) ?_; (with_reducible refine (run_Nothing.calls kj5 _ _ t399 true _ ?side1 ?side2 A17.out).mono ?_); (case side1 => repeat (first | exact (Kd.N_reads' HO_0.out).2.2 | (with_reducible refine Kd.C_alloc ?_ _) | (with_reducible refine Kd.C_drewN ?_ _) | (with_reducible refine Kd.C_drew ?_))); (case side2 => exact (Kd.N_reads' HO_0.out).2.1); rintro e w19 ⟨rfl, hb⟩; refine ⟨_, rfl, ?_⟩; have n0_ := Aside0.mk (Kd.N_below (by (with_reducible repeat (first | apply Kd.N_alloc | apply Kd.N_drewN | apply Kd.N_drew)); exact HO_0.out) hb); have n1_ := Aside0.mk (below_step (by repeat (first | (with_reducible first | exact HB.out | apply below_alloc | apply pw_below_drewN | apply below_drew1) | exact HB.out)) hb); clear HO_0; clear HB; have HO_0 := n0_; have HB := n1_; clear n0_ n1_; (try clear hb); (try clear hb2); (try clear hk); (try clear hi)))
            go_loopg [5] kj5 (fun kq v5 w' => ∃ (x5_2 : Int), v5 = .int .i64 x5_2 ∧ Aside0 (boltinglaw19_RunSafe.l0 kq t399 a1 x5_2 = some r) ∧ Aside0 (kq ≤ kj5) ∧ Aside0 (Kd.N k34 34 w' w.heap.size (fun _ => True) (.slice Ao8 t399.length co8) t399) ∧ Aside0 (Below w.heap.size w w'))
            case atStart => exact ⟨(0), (by first | rfl | (simp; done) | (simp [*]; done)), H', ⟨Nat.le_refl _⟩, ⟨by (with_reducible repeat (first | apply Kd.N_alloc | apply Kd.N_drewN | apply Kd.N_drew)); exact HO_0.out⟩, ⟨by repeat (first | (with_reducible first | exact HB.out | apply below_alloc | apply pw_below_drewN | apply below_drew1) | exact HB.out)⟩⟩
            case round =>
              clear H'
              try clear c1
              try clear p2
              try clear c5
              try clear c6
              try clear c7
              try clear c8
              try clear c11
              try clear c13
              try clear c16
              try clear c18
              try clear p2
              obtain ⟨x5_2, rfl, HA, HK2, HO_0, HB⟩ := hrel
              cases gk with
              | zero => exact absurd HA.out (by simp [boltinglaw19_RunSafe.l0])
              | succ k2 =>
                have H := HA.out
                clear HA
                simp only [boltinglaw19_RunSafe.l0] at H
                by_cases c20 : x5_2 < (t399.length : Int)
                · rw [if_pos c20] at H
                  have c20b0 : decide (x5_2 < (t399.length : Int)) = true := decide_eq_true c20
                  clear c20
                  by_cases c21 : 0 ≤ x5_2
                  · rw [if_pos c21] at H
                    have c21b0 : decide (0 ≤ x5_2) = true := decide_eq_true c21
                    clear c21
                    replace H := Option.bind_eq_some_iff.mp H
                    obtain ⟨⟨t413, t414⟩, A220, H⟩ := H
                    replace H : ((run_Follow.f k2 ((rd_T34 t399 x5_2).f0) ((rd_T34 t399 x5_2).f1) ((rd_T34 t399 x5_2).f2) ((rd_T34 t399 x5_2).f3) ((rd_T34 t399 x5_2).f4)).bind fun bt416 => (if t414 = true then (some false) else (if bt416.2 = true then (some false) else (boltinglaw19_RunSafe.l0 k2 t399 a1 (wrap64 (x5_2 + 1)))))) = some r := H
                    have A22 := Aside0.mk A220
                    clear A220
                    replace H := Option.bind_eq_some_iff.mp H
                    obtain ⟨⟨t416, t417⟩, A230, H⟩ := H
                    replace H : (if t414 = true then (some false) else (if t417 = true then (some false) else (boltinglaw19_RunSafe.l0 k2 t399 a1 (wrap64 (x5_2 + 1))))) = some r := H
                    have A23 := Aside0.mk A230
                    clear A230
                    by_cases c24 : t414 = true
                    · subst c24
                      have H1 : (some false) = some r := by rw [if_pos rfl] at H; exact H
                      clear H
                      have H := H1
                      clear H1
                      obtain rfl := Option.some.inj H
                      have p412 : 0 ≤ (x5_2 : Int) := of_decide_eq_true (by first | (with_reducible assumption) | assumption)
                      have q412 : x5_2 < (t399.length : Int) := of_decide_eq_true (by first | (with_reducible assumption) | assumption)
                      obtain ⟨ad412, A412_4, c412_4, e412, hx412_0, hx412_1, hx412_2, hx412_3, hx412_4, hl412_4, hi412_4⟩ := at_T34 (Kd.N_reads' HO_0.out).2.2 x5_2 p412 q412
                      cases e412
                      obtain ⟨ce412, hce412, hMe412, hcc412⟩ := Kd.N_get HO_0.out z34 x5_2 p412 (by first | exact q412 | exact of_decide_eq_true (by first | (with_reducible assumption) | assumption) | (have e_ := (Kd.N_reads' HO_0.out).1; omega))
                      obtain ⟨ua412_4, uc412_4, rfl, ul412_4, ge412_4⟩ := k34_openF hMe412
                      have hv412_4 := hcc412 4 _ rfl
                      rw [add_field _ _ 4 (by omega)] at hv412_4
                      replace hv412_4 := Option.some.inj (hv412_4.symm.trans hx412_4)
                      injection hv412_4 with hva_ hvn_ hvc_
                      rw [hva_] at ge412_4
                      rw [hvc_] at ul412_4
                      have HL412_4 := Aside0.mk (show Kd.V k39 39 _ w.heap.size _ _ ((rd_T34 t399 x5_2).f4) from Kd.V_mk ul412_4 ge412_4)
                      clear hva_ hvn_ hvc_ ge412_4 ul412_4
                      clear hcc412 hce412
                      have HR412_4 := Aside0.mk hi412_4
                      have HC412_4 := Aside0.mk hl412_4
                      clear hi412_4 hl412_4
                      replace p412 := eq_true p412
                      replace q412 := eq_true q412
                      go_wp2_with (first | ((with_reducible refine gate_callee (f := 19) rfl ?_); refine goesL_ (some 39) rfl rfl Try.func19 (by kernel_rfl) rfl #[.agg #[.int .i64 ((rd_T34 t399 x5_2).f0), .int .i64 ((rd_T34 t399 x5_2).f1), .string ((rd_T34 t399 x5_2).f2), .string ((rd_T34 t399 x5_2).f3), .slice A412_4 ((rd_T34 t399 x5_2).f4).length c412_4], .string a1] rfl (by (try simp only [List.map_toArray, List.map_cons, List.map_nil]); first | done | rfl | (simp only [List.length_drop, List.length_take]; rfl)) ?_; (with_reducible refine (run_Handler.calls k2 ((rd_T34 t399 x5_2).f0) ((rd_T34 t399 x5_2).f1) ((rd_T34 t399 x5_2).f2) ((rd_T34 t399 x5_2).f3) _ _ ((rd_T34 t399 x5_2).f4) a1 t413 true _ ?side1 ?side2 A22.out).mono ?_); (case side1 => repeat (first | exact (by repeat (first | (with_reducible exact HR412_4.out) | (with_reducible refine Kd.C_alloc ?_ _) | (with_reducible refine Kd.C_drewN ?_ _) | (with_reducible refine Kd.C_drew ?_) | exact HR412_4.out)) | (with_reducible refine Kd.C_alloc ?_ _) | (with_reducible refine Kd.C_drewN ?_ _) | (with_reducible refine Kd.C_drew ?_))); (case side2 => exact HC412_4.out); rintro e w25 ⟨rfl, hb⟩; refine ⟨_, rfl, ?_⟩; have n0_ := Aside0.mk (Kd.N_below (by (with_reducible repeat (first | apply Kd.N_alloc | apply Kd.N_drewN | apply Kd.N_drew)); exact HO_0.out) hb); have n1_ := Aside0.mk (Kd.V_below (by (with_reducible repeat (first | apply Kd.V_alloc | apply Kd.V_drewN | apply Kd.V_drew)); exact HL412_4.out) hb); have n2_ := Aside0.mk (Kd.C_below (by repeat (first | (with_reducible exact HR412_4.out) | (with_reducible refine Kd.C_alloc ?_ _) | (with_reducible refine Kd.C_drewN ?_ _) | (with_reducible refine Kd.C_drew ?_) | exact HR412_4.out)) hb); have n3_ := Aside0.mk (below_step (by repeat (first | (with_reducible first | exact HB.out | apply below_alloc | apply pw_below_drewN | apply below_drew1) | exact HB.out)) hb); clear HO_0; clear HL412_4; clear HR412_4; clear HB; have HO_0 := n0_; have HL412_4 := n1_; have HR412_4 := n2_; have HB := n3_; clear n0_ n1_ n2_ n3_; (try clear hb); (try clear hb2); (try clear hk); (try clear hi); have p415 : 0 ≤ (x5_2 : Int) := of_decide_eq_true (by first | (with_reducible assumption) | assumption); have q415 : x5_2 < (t399.length : Int) := of_decide_eq_true (by first | (with_reducible assumption) | assumption); obtain ⟨ad415, A415_4, c415_4, e415, hx415_0, hx415_1, hx415_2, hx415_3, hx415_4, hl415_4, hi415_4⟩ := at_T34 (Kd.N_reads' HO_0.out).2.2 x5_2 p415 q415; obtain rfl : ad412 = ad415 := (by injection e415); obtain ⟨ce415, hce415, hMe415, hcc415⟩ := Kd.N_get HO_0.out z34 x5_2 p415 (by first | exact q415 | exact of_decide_eq_true (by first | (with_reducible assumption) | assumption) | (have e_ := (Kd.N_reads' HO_0.out).1; omega)); obtain ⟨ua415_4, uc415_4, rfl, ul415_4, ge415_4⟩ := k34_openF hMe415; have hv415_4 := hcc415 4 _ rfl; rw [add_field _ _ 4 (by omega)] at hv415_4; replace hv415_4 := Option.some.inj (hv415_4.symm.trans hx415_4); injection hv415_4 with hva_ hvn_ hvc_; rw [hva_] at ge415_4; rw [hvc_] at ul415_4; have HL415_4 := Aside0.mk (show Kd.V k39 39 _ w.heap.size _ _ ((rd_T34 t399 x5_2).f4) from Kd.V_mk ul415_4 ge415_4); clear hva_ hvn_ hvc_ ge415_4 ul415_4; clear hcc415 hce415; have HR415_4 := Aside0.mk hi415_4; have HC415_4 := Aside0.mk hl415_4; clear hi415_4 hl415_4; replace p415 := eq_true p415; replace q415 := eq_true q415) | ((with_reducible refine gate_callee (f := 17) rfl ?_); refine goesL_ (some 47) rfl rfl Try.func17 (by kernel_rfl) rfl #[.agg #[.int .i64 ((rd_T34 t399 x5_2).f0), .int .i64 ((rd_T34 t399 x5_2).f1), .string ((rd_T34 t399 x5_2).f2), .string ((rd_T34 t399 x5_2).f3), .slice A415_4 ((rd_T34 t399 x5_2).f4).length c415_4]] rfl (by (try simp only [List.map_toArray, List.map_cons, List.map_nil]); first | done | rfl | (simp only [List.length_drop, List.length_take]; rfl)) ?_; (with_reducible refine (run_Follow.calls k2 ((rd_T34 t399 x5_2).f0) ((rd_T34 t399 x5_2).f1) ((rd_T34 t399 x5_2).f2) ((rd_T34 t399 x5_2).f3) _ _ ((rd_T34 t399 x5_2).f4) t416 t417 _ ?side1 ?side2 A23.out).mono ?_); (case side1 => repeat (first | exact (by repeat (first | (with_reducible exact HR415_4.out) | (with_reducible refine Kd.C_alloc ?_ _) | (with_reducible refine Kd.C_drewN ?_ _) | (with_reducible refine Kd.C_drew ?_) | exact HR415_4.out)) | (with_reducible refine Kd.C_alloc ?_ _) | (with_reducible refine Kd.C_drewN ?_ _) | (with_reducible refine Kd.C_drew ?_))); (case side2 => exact HC415_4.out); rintro e w26 ⟨rfl, hb⟩; refine ⟨_, rfl, ?_⟩; have n0_ := Aside0.mk (Kd.N_below (by (with_reducible repeat (first | apply Kd.N_alloc | apply Kd.N_drewN | apply Kd.N_drew)); exact HO_0.out) hb); have n1_ := Aside0.mk (Kd.V_below (by (with_reducible repeat (first | apply Kd.V_alloc | apply Kd.V_drewN | apply Kd.V_drew)); exact HL412_4.out) hb); have n2_ := Aside0.mk (Kd.V_below (by (with_reducible repeat (first | apply Kd.V_alloc | apply Kd.V_drewN | apply Kd.V_drew)); exact HL415_4.out) hb); have n3_ := Aside0.mk (Kd.C_below (by repeat (first | (with_reducible exact HR412_4.out) | (with_reducible refine Kd.C_alloc ?_ _) | (with_reducible refine Kd.C_drewN ?_ _) | (with_reducible refine Kd.C_drew ?_) | exact HR412_4.out)) hb); have n4_ := Aside0.mk (Kd.C_below (by repeat (first | (with_reducible exact HR415_4.out) | (with_reducible refine Kd.C_alloc ?_ _) | (with_reducible refine Kd.C_drewN ?_ _) | (with_reducible refine Kd.C_drew ?_) | exact HR415_4.out)) hb); have n5_ := Aside0.mk (below_step (by repeat (first | (with_reducible first | exact HB.out | apply below_alloc | apply pw_below_drewN | apply below_drew1) | exact HB.out)) hb); clear HO_0; clear HL412_4; clear HL415_4; clear HR412_4; clear HR415_4; clear HB; have HO_0 := n0_; have HL412_4 := n1_; have HL415_4 := n2_; have HR412_4 := n3_; have HR415_4 := n4_; have HB := n5_; clear n0_ n1_ n2_ n3_ n4_ n5_; (try clear hb); (try clear hb2); (try clear hk); (try clear hi)))
                      go_ret
                      exact ⟨by first | rfl | (simp [errW_none, errW_some] <;> rfl) | (simp [*, errW_none, errW_some] <;> rfl), by repeat (first | (with_reducible first | exact HB.out | apply below_alloc | apply pw_below_drewN | apply below_drew1) | exact HB.out)⟩
                    · replace c24 := Bool.eq_false_iff.mpr c24
                      subst c24
                      have H1 : (if t417 = true then (some false) else (boltinglaw19_RunSafe.l0 k2 t399 a1 (wrap64 (x5_2 + 1)))) = some r := by rw [if_neg (show ¬ (false = true) by decide)] at H; exact H
                      clear H
                      have H := H1
                      clear H1
                      by_cases c27 : t417 = true
                      · subst c27
                        have H1 : (some false) = some r := by rw [if_pos rfl] at H; exact H
                        clear H
                        have H := H1
                        clear H1
                        obtain rfl := Option.some.inj H
                        have p412 : 0 ≤ (x5_2 : Int) := of_decide_eq_true (by first | (with_reducible assumption) | assumption)
                        have q412 : x5_2 < (t399.length : Int) := of_decide_eq_true (by first | (with_reducible assumption) | assumption)
                        obtain ⟨ad412, A412_4, c412_4, e412, hx412_0, hx412_1, hx412_2, hx412_3, hx412_4, hl412_4, hi412_4⟩ := at_T34 (Kd.N_reads' HO_0.out).2.2 x5_2 p412 q412
                        cases e412
                        obtain ⟨ce412, hce412, hMe412, hcc412⟩ := Kd.N_get HO_0.out z34 x5_2 p412 (by first | exact q412 | exact of_decide_eq_true (by first | (with_reducible assumption) | assumption) | (have e_ := (Kd.N_reads' HO_0.out).1; omega))
                        obtain ⟨ua412_4, uc412_4, rfl, ul412_4, ge412_4⟩ := k34_openF hMe412
                        have hv412_4 := hcc412 4 _ rfl
                        rw [add_field _ _ 4 (by omega)] at hv412_4
                        replace hv412_4 := Option.some.inj (hv412_4.symm.trans hx412_4)
                        injection hv412_4 with hva_ hvn_ hvc_
                        rw [hva_] at ge412_4
                        rw [hvc_] at ul412_4
                        have HL412_4 := Aside0.mk (show Kd.V k39 39 _ w.heap.size _ _ ((rd_T34 t399 x5_2).f4) from Kd.V_mk ul412_4 ge412_4)
                        clear hva_ hvn_ hvc_ ge412_4 ul412_4
                        clear hcc412 hce412
                        have HR412_4 := Aside0.mk hi412_4
                        have HC412_4 := Aside0.mk hl412_4
                        clear hi412_4 hl412_4
                        replace p412 := eq_true p412
                        replace q412 := eq_true q412
                        go_wp2_with (first | ((with_reducible refine gate_callee (f := 19) rfl ?_); refine goesL_ (some 39) rfl rfl Try.func19 (by kernel_rfl) rfl #[.agg #[.int .i64 ((rd_T34 t399 x5_2).f0), .int .i64 ((rd_T34 t399 x5_2).f1), .string ((rd_T34 t399 x5_2).f2), .string ((rd_T34 t399 x5_2).f3), .slice A412_4 ((rd_T34 t399 x5_2).f4).length c412_4], .string a1] rfl (by (try simp only [List.map_toArray, List.map_cons, List.map_nil]); first | done | rfl | (simp only [List.length_drop, List.length_take]; rfl)) ?_; (with_reducible refine (run_Handler.calls k2 ((rd_T34 t399 x5_2).f0) ((rd_T34 t399 x5_2).f1) ((rd_T34 t399 x5_2).f2) ((rd_T34 t399 x5_2).f3) _ _ ((rd_T34 t399 x5_2).f4) a1 t413 false _ ?side1 ?side2 A22.out).mono ?_); (case side1 => repeat (first | exact (by repeat (first | (with_reducible exact HR412_4.out) | (with_reducible refine Kd.C_alloc ?_ _) | (with_reducible refine Kd.C_drewN ?_ _) | (with_reducible refine Kd.C_drew ?_) | exact HR412_4.out)) | (with_reducible refine Kd.C_alloc ?_ _) | (with_reducible refine Kd.C_drewN ?_ _) | (with_reducible refine Kd.C_drew ?_))); (case side2 => exact HC412_4.out); rintro e w28 ⟨rfl, hb⟩; refine ⟨_, rfl, ?_⟩; have n0_ := Aside0.mk (Kd.N_below (by (with_reducible repeat (first | apply Kd.N_alloc | apply Kd.N_drewN | apply Kd.N_drew)); exact HO_0.out) hb); have n1_ := Aside0.mk (Kd.V_below (by (with_reducible repeat (first | apply Kd.V_alloc | apply Kd.V_drewN | apply Kd.V_drew)); exact HL412_4.out) hb); have n2_ := Aside0.mk (Kd.C_below (by repeat (first | (with_reducible exact HR412_4.out) | (with_reducible refine Kd.C_alloc ?_ _) | (with_reducible refine Kd.C_drewN ?_ _) | (with_reducible refine Kd.C_drew ?_) | exact HR412_4.out)) hb); have n3_ := Aside0.mk (below_step (by repeat (first | (with_reducible first | exact HB.out | apply below_alloc | apply pw_below_drewN | apply below_drew1) | exact HB.out)) hb); clear HO_0; clear HL412_4; clear HR412_4; clear HB; have HO_0 := n0_; have HL412_4 := n1_; have HR412_4 := n2_; have HB := n3_; clear n0_ n1_ n2_ n3_; (try clear hb); (try clear hb2); (try clear hk); (try clear hi); have p415 : 0 ≤ (x5_2 : Int) := of_decide_eq_true (by first | (with_reducible assumption) | assumption); have q415 : x5_2 < (t399.length : Int) := of_decide_eq_true (by first | (with_reducible assumption) | assumption); obtain ⟨ad415, A415_4, c415_4, e415, hx415_0, hx415_1, hx415_2, hx415_3, hx415_4, hl415_4, hi415_4⟩ := at_T34 (Kd.N_reads' HO_0.out).2.2 x5_2 p415 q415; obtain rfl : ad412 = ad415 := (by injection e415); obtain ⟨ce415, hce415, hMe415, hcc415⟩ := Kd.N_get HO_0.out z34 x5_2 p415 (by first | exact q415 | exact of_decide_eq_true (by first | (with_reducible assumption) | assumption) | (have e_ := (Kd.N_reads' HO_0.out).1; omega)); obtain ⟨ua415_4, uc415_4, rfl, ul415_4, ge415_4⟩ := k34_openF hMe415; have hv415_4 := hcc415 4 _ rfl; rw [add_field _ _ 4 (by omega)] at hv415_4; replace hv415_4 := Option.some.inj (hv415_4.symm.trans hx415_4); injection hv415_4 with hva_ hvn_ hvc_; rw [hva_] at ge415_4; rw [hvc_] at ul415_4; have HL415_4 := Aside0.mk (show Kd.V k39 39 _ w.heap.size _ _ ((rd_T34 t399 x5_2).f4) from Kd.V_mk ul415_4 ge415_4); clear hva_ hvn_ hvc_ ge415_4 ul415_4; clear hcc415 hce415; have HR415_4 := Aside0.mk hi415_4; have HC415_4 := Aside0.mk hl415_4; clear hi415_4 hl415_4; replace p415 := eq_true p415; replace q415 := eq_true q415) | ((with_reducible refine gate_callee (f := 17) rfl ?_); refine goesL_ (some 47) rfl rfl Try.func17 (by kernel_rfl) rfl #[.agg #[.int .i64 ((rd_T34 t399 x5_2).f0), .int .i64 ((rd_T34 t399 x5_2).f1), .string ((rd_T34 t399 x5_2).f2), .string ((rd_T34 t399 x5_2).f3), .slice A415_4 ((rd_T34 t399 x5_2).f4).length c415_4]] rfl (by (try simp only [List.map_toArray, List.map_cons, List.map_nil]); first | done | rfl | (simp only [List.length_drop, List.length_take]; rfl)) ?_; (with_reducible refine (run_Follow.calls k2 ((rd_T34 t399 x5_2).f0) ((rd_T34 t399 x5_2).f1) ((rd_T34 t399 x5_2).f2) ((rd_T34 t399 x5_2).f3) _ _ ((rd_T34 t399 x5_2).f4) t416 true _ ?side1 ?side2 A23.out).mono ?_); (case side1 => repeat (first | exact (by repeat (first | (with_reducible exact HR415_4.out) | (with_reducible refine Kd.C_alloc ?_ _) | (with_reducible refine Kd.C_drewN ?_ _) | (with_reducible refine Kd.C_drew ?_) | exact HR415_4.out)) | (with_reducible refine Kd.C_alloc ?_ _) | (with_reducible refine Kd.C_drewN ?_ _) | (with_reducible refine Kd.C_drew ?_))); (case side2 => exact HC415_4.out); rintro e w29 ⟨rfl, hb⟩; refine ⟨_, rfl, ?_⟩; have n0_ := Aside0.mk (Kd.N_below (by (with_reducible repeat (first | apply Kd.N_alloc | apply Kd.N_drewN | apply Kd.N_drew)); exact HO_0.out) hb); have n1_ := Aside0.mk (Kd.V_below (by (with_reducible repeat (first | apply Kd.V_alloc | apply Kd.V_drewN | apply Kd.V_drew)); exact HL412_4.out) hb); have n2_ := Aside0.mk (Kd.V_below (by (with_reducible repeat (first | apply Kd.V_alloc | apply Kd.V_drewN | apply Kd.V_drew)); exact HL415_4.out) hb); have n3_ := Aside0.mk (Kd.C_below (by repeat (first | (with_reducible exact HR412_4.out) | (with_reducible refine Kd.C_alloc ?_ _) | (with_reducible refine Kd.C_drewN ?_ _) | (with_reducible refine Kd.C_drew ?_) | exact HR412_4.out)) hb); have n4_ := Aside0.mk (Kd.C_below (by repeat (first | (with_reducible exact HR415_4.out) | (with_reducible refine Kd.C_alloc ?_ _) | (with_reducible refine Kd.C_drewN ?_ _) | (with_reducible refine Kd.C_drew ?_) | exact HR415_4.out)) hb); have n5_ := Aside0.mk (below_step (by repeat (first | (with_reducible first | exact HB.out | apply below_alloc | apply pw_below_drewN | apply below_drew1) | exact HB.out)) hb); clear HO_0; clear HL412_4; clear HL415_4; clear HR412_4; clear HR415_4; clear HB; have HO_0 := n0_; have HL412_4 := n1_; have HL415_4 := n2_; have HR412_4 := n3_; have HR415_4 := n4_; have HB := n5_; clear n0_ n1_ n2_ n3_ n4_ n5_; (try clear hb); (try clear hb2); (try clear hk); (try clear hi)))
                        go_ret
                        exact ⟨by first | rfl | (simp [errW_none, errW_some] <;> rfl) | (simp [*, errW_none, errW_some] <;> rfl), by repeat (first | (with_reducible first | exact HB.out | apply below_alloc | apply pw_below_drewN | apply below_drew1) | exact HB.out)⟩
                      · replace c27 := Bool.eq_false_iff.mpr c27
                        subst c27
                        have H1 : (boltinglaw19_RunSafe.l0 k2 t399 a1 (wrap64 (x5_2 + 1))) = some r := by rw [if_neg (show ¬ (false = true) by decide)] at H; exact H
                        clear H
                        have H := H1
                        clear H1
                        have H' := Aside0.mk H
                        clear H
                        have p412 : 0 ≤ (x5_2 : Int) := of_decide_eq_true (by first | (with_reducible assumption) | assumption)
                        have q412 : x5_2 < (t399.length : Int) := of_decide_eq_true (by first | (with_reducible assumption) | assumption)
                        obtain ⟨ad412, A412_4, c412_4, e412, hx412_0, hx412_1, hx412_2, hx412_3, hx412_4, hl412_4, hi412_4⟩ := at_T34 (Kd.N_reads' HO_0.out).2.2 x5_2 p412 q412
                        cases e412
                        obtain ⟨ce412, hce412, hMe412, hcc412⟩ := Kd.N_get HO_0.out z34 x5_2 p412 (by first | exact q412 | exact of_decide_eq_true (by first | (with_reducible assumption) | assumption) | (have e_ := (Kd.N_reads' HO_0.out).1; omega))
                        obtain ⟨ua412_4, uc412_4, rfl, ul412_4, ge412_4⟩ := k34_openF hMe412
                        have hv412_4 := hcc412 4 _ rfl
                        rw [add_field _ _ 4 (by omega)] at hv412_4
                        replace hv412_4 := Option.some.inj (hv412_4.symm.trans hx412_4)
                        injection hv412_4 with hva_ hvn_ hvc_
                        rw [hva_] at ge412_4
                        rw [hvc_] at ul412_4
                        have HL412_4 := Aside0.mk (show Kd.V k39 39 _ w.heap.size _ _ ((rd_T34 t399 x5_2).f4) from Kd.V_mk ul412_4 ge412_4)
                        clear hva_ hvn_ hvc_ ge412_4 ul412_4
                        clear hcc412 hce412
                        have HR412_4 := Aside0.mk hi412_4
                        have HC412_4 := Aside0.mk hl412_4
                        clear hi412_4 hl412_4
                        replace p412 := eq_true p412
                        replace q412 := eq_true q412
                        go_wp2_with (first | ((with_reducible refine gate_callee (f := 19) rfl ?_); refine goesL_ (some 39) rfl rfl Try.func19 (by kernel_rfl) rfl #[.agg #[.int .i64 ((rd_T34 t399 x5_2).f0), .int .i64 ((rd_T34 t399 x5_2).f1), .string ((rd_T34 t399 x5_2).f2), .string ((rd_T34 t399 x5_2).f3), .slice A412_4 ((rd_T34 t399 x5_2).f4).length c412_4], .string a1] rfl (by (try simp only [List.map_toArray, List.map_cons, List.map_nil]); first | done | rfl | (simp only [List.length_drop, List.length_take]; rfl)) ?_; (with_reducible refine (run_Handler.calls k2 ((rd_T34 t399 x5_2).f0) ((rd_T34 t399 x5_2).f1) ((rd_T34 t399 x5_2).f2) ((rd_T34 t399 x5_2).f3) _ _ ((rd_T34 t399 x5_2).f4) a1 t413 false _ ?side1 ?side2 A22.out).mono ?_); (case side1 => repeat (first | exact (by repeat (first | (with_reducible exact HR412_4.out) | (with_reducible refine Kd.C_alloc ?_ _) | (with_reducible refine Kd.C_drewN ?_ _) | (with_reducible refine Kd.C_drew ?_) | exact HR412_4.out)) | (with_reducible refine Kd.C_alloc ?_ _) | (with_reducible refine Kd.C_drewN ?_ _) | (with_reducible refine Kd.C_drew ?_))); (case side2 => exact HC412_4.out); rintro e w30 ⟨rfl, hb⟩; refine ⟨_, rfl, ?_⟩; have n0_ := Aside0.mk (Kd.N_below (by (with_reducible repeat (first | apply Kd.N_alloc | apply Kd.N_drewN | apply Kd.N_drew)); exact HO_0.out) hb); have n1_ := Aside0.mk (Kd.V_below (by (with_reducible repeat (first | apply Kd.V_alloc | apply Kd.V_drewN | apply Kd.V_drew)); exact HL412_4.out) hb); have n2_ := Aside0.mk (Kd.C_below (by repeat (first | (with_reducible exact HR412_4.out) | (with_reducible refine Kd.C_alloc ?_ _) | (with_reducible refine Kd.C_drewN ?_ _) | (with_reducible refine Kd.C_drew ?_) | exact HR412_4.out)) hb); have n3_ := Aside0.mk (below_step (by repeat (first | (with_reducible first | exact HB.out | apply below_alloc | apply pw_below_drewN | apply below_drew1) | exact HB.out)) hb); clear HO_0; clear HL412_4; clear HR412_4; clear HB; have HO_0 := n0_; have HL412_4 := n1_; have HR412_4 := n2_; have HB := n3_; clear n0_ n1_ n2_ n3_; (try clear hb); (try clear hb2); (try clear hk); (try clear hi); have p415 : 0 ≤ (x5_2 : Int) := of_decide_eq_true (by first | (with_reducible assumption) | assumption); have q415 : x5_2 < (t399.length : Int) := of_decide_eq_true (by first | (with_reducible assumption) | assumption); obtain ⟨ad415, A415_4, c415_4, e415, hx415_0, hx415_1, hx415_2, hx415_3, hx415_4, hl415_4, hi415_4⟩ := at_T34 (Kd.N_reads' HO_0.out).2.2 x5_2 p415 q415; obtain rfl : ad412 = ad415 := (by injection e415); obtain ⟨ce415, hce415, hMe415, hcc415⟩ := Kd.N_get HO_0.out z34 x5_2 p415 (by first | exact q415 | exact of_decide_eq_true (by first | (with_reducible assumption) | assumption) | (have e_ := (Kd.N_reads' HO_0.out).1; omega)); obtain ⟨ua415_4, uc415_4, rfl, ul415_4, ge415_4⟩ := k34_openF hMe415; have hv415_4 := hcc415 4 _ rfl; rw [add_field _ _ 4 (by omega)] at hv415_4; replace hv415_4 := Option.some.inj (hv415_4.symm.trans hx415_4); injection hv415_4 with hva_ hvn_ hvc_; rw [hva_] at ge415_4; rw [hvc_] at ul415_4; have HL415_4 := Aside0.mk (show Kd.V k39 39 _ w.heap.size _ _ ((rd_T34 t399 x5_2).f4) from Kd.V_mk ul415_4 ge415_4); clear hva_ hvn_ hvc_ ge415_4 ul415_4; clear hcc415 hce415; have HR415_4 := Aside0.mk hi415_4; have HC415_4 := Aside0.mk hl415_4; clear hi415_4 hl415_4; replace p415 := eq_true p415; replace q415 := eq_true q415) | ((with_reducible refine gate_callee (f := 17) rfl ?_); refine goesL_ (some 47) rfl rfl Try.func17 (by kernel_rfl) rfl #[.agg #[.int .i64 ((rd_T34 t399 x5_2).f0), .int .i64 ((rd_T34 t399 x5_2).f1), .string ((rd_T34 t399 x5_2).f2), .string ((rd_T34 t399 x5_2).f3), .slice A415_4 ((rd_T34 t399 x5_2).f4).length c415_4]] rfl (by (try simp only [List.map_toArray, List.map_cons, List.map_nil]); first | done | rfl | (simp only [List.length_drop, List.length_take]; rfl)) ?_; (with_reducible refine (run_Follow.calls k2 ((rd_T34 t399 x5_2).f0) ((rd_T34 t399 x5_2).f1) ((rd_T34 t399 x5_2).f2) ((rd_T34 t399 x5_2).f3) _ _ ((rd_T34 t399 x5_2).f4) t416 false _ ?side1 ?side2 A23.out).mono ?_); (case side1 => repeat (first | exact (by repeat (first | (with_reducible exact HR415_4.out) | (with_reducible refine Kd.C_alloc ?_ _) | (with_reducible refine Kd.C_drewN ?_ _) | (with_reducible refine Kd.C_drew ?_) | exact HR415_4.out)) | (with_reducible refine Kd.C_alloc ?_ _) | (with_reducible refine Kd.C_drewN ?_ _) | (with_reducible refine Kd.C_drew ?_))); (case side2 => exact HC415_4.out); rintro e w31 ⟨rfl, hb⟩; refine ⟨_, rfl, ?_⟩; have n0_ := Aside0.mk (Kd.N_below (by (with_reducible repeat (first | apply Kd.N_alloc | apply Kd.N_drewN | apply Kd.N_drew)); exact HO_0.out) hb); have n1_ := Aside0.mk (Kd.V_below (by (with_reducible repeat (first | apply Kd.V_alloc | apply Kd.V_drewN | apply Kd.V_drew)); exact HL412_4.out) hb); have n2_ := Aside0.mk (Kd.V_below (by (with_reducible repeat (first | apply Kd.V_alloc | apply Kd.V_drewN | apply Kd.V_drew)); exact HL415_4.out) hb); have n3_ := Aside0.mk (Kd.C_below (by repeat (first | (with_reducible exact HR412_4.out) | (with_reducible refine Kd.C_alloc ?_ _) | (with_reducible refine Kd.C_drewN ?_ _) | (with_reducible refine Kd.C_drew ?_) | exact HR412_4.out)) hb); have n4_ := Aside0.mk (Kd.C_below (by repeat (first | (with_reducible exact HR415_4.out) | (with_reducible refine Kd.C_alloc ?_ _) | (with_reducible refine Kd.C_drewN ?_ _) | (with_reducible refine Kd.C_drew ?_) | exact HR415_4.out)) hb); have n5_ := Aside0.mk (below_step (by repeat (first | (with_reducible first | exact HB.out | apply below_alloc | apply pw_below_drewN | apply below_drew1) | exact HB.out)) hb); clear HO_0; clear HL412_4; clear HL415_4; clear HR412_4; clear HR415_4; clear HB; have HO_0 := n0_; have HL412_4 := n1_; have HL415_4 := n2_; have HR412_4 := n3_; have HR415_4 := n4_; have HB := n5_; clear n0_ n1_ n2_ n3_ n4_ n5_; (try clear hb); (try clear hb2); (try clear hk); (try clear hi)))
                        go_roundg k2
                        case measure => have := HJ5.out; have := HK2.out; omega
                        case rel => exact ⟨(wrap64 (x5_2 + 1)), (by first | rfl | (simp; done) | (simp [*]; done)), H', ⟨by have := HJ5.out; have := HK2.out; omega⟩, ⟨by (with_reducible repeat (first | apply Kd.N_alloc | apply Kd.N_drewN | apply Kd.N_drew)); exact HO_0.out⟩, ⟨by repeat (first | (with_reducible first | exact HB.out | apply below_alloc | apply pw_below_drewN | apply below_drew1) | exact HB.out)⟩⟩
                  · rw [if_neg c21] at H
                    exact absurd H (by simp)
                · rw [if_neg c20] at H
                  have c20b0 : decide (x5_2 < (t399.length : Int)) = false := decide_eq_false c20
                  clear c20
                  replace H := Option.bind_eq_some_iff.mp H
                  obtain ⟨t408, A320, H⟩ := H
                  replace H : (if (t408.length : Int) = 0 then ((boltinglaw19_fixed.f k2).bind fun t411 => (some t411)) else (some false)) = some r := H
                  have A32 := Aside0.mk A320
                  clear A320
                  by_cases c33 : (t408.length : Int) = 0
                  · rw [if_pos c33] at H
                    have c33b0 : ((t408.length : Int) == 0) = true := beq_iff_eq.mpr c33
                    have c33b1 : ((t408.length : Int) != 0) = false := bne_eq_false_iff_eq.mpr c33
                    clear c33
                    replace H := Option.bind_eq_some_iff.mp H
                    obtain ⟨t411, A340, H⟩ := H
                    replace H : (some t411) = some r := H
                    have A34 := Aside0.mk A340
                    clear A340
                    obtain rfl := Option.some.inj H
                    go_wp2_with (first | ((fail_if_success (have z_ := HO410)); (with_reducible refine gate_callee (f := 10) rfl ?_); refine goesL_ (some 55) rfl rfl Try.func10 (by kernel_rfl) rfl #[.slice Ao8 t399.length co8] rfl (by (try simp only [List.map_toArray, List.map_cons, List.map_nil]); first | done | rfl | (simp only [List.length_drop, List.length_take]; rfl)) ?_; (with_reducible refine (run_Scripts.calls k2 _ _ t399 t408 _ ?side1 ?side2 A32.out).mono ?_); (case side1 => repeat (first | exact (Kd.N_reads' HO_0.out).2.2 | (with_reducible refine Kd.C_alloc ?_ _) | (with_reducible refine Kd.C_drewN ?_ _) | (with_reducible refine Kd.C_drew ?_))); (case side2 => exact (Kd.N_reads' HO_0.out).2.1); rintro e w35 ⟨v409, rfl, ho0, hb⟩; refine ⟨_, rfl, ?_⟩; have n0_ := Aside0.mk (Kd.N_elder' (by (with_reducible repeat (first | apply Kd.N_alloc | apply Kd.N_drewN | apply Kd.N_drew)); exact HO_0.out) (Kd.R_base ho0) hb); have n1_ := Aside0.mk (Kd.R_lower ho0 (below_size (by repeat (first | (with_reducible first | exact HB.out | apply below_alloc | apply pw_below_drewN | apply below_drew1) | exact HB.out)))); have n2_ := Aside0.mk (below_step (by repeat (first | (with_reducible first | exact HB.out | apply below_alloc | apply pw_below_drewN | apply below_drew1) | exact HB.out)) hb); clear HO_0; clear HB; have HO_0 := n0_; have HO410 := n1_; have HB := n2_; clear n0_ n1_ n2_; (try clear hb); (try clear hb2); (try clear hk); (try clear hi); (try clear ho0); obtain ⟨Ao36, co36, eo36⟩ := Kd.R_slice HO410.out; subst eo36) | (go_at_call 9; (with_reducible refine (boltinglaw19_fixed.calls k2  t411 _ A34.out).mono ?_); rintro e w37 ⟨rfl, hb⟩; have n0_ := Aside0.mk (Kd.N_below (by (with_reducible repeat (first | apply Kd.N_alloc | apply Kd.N_drewN | apply Kd.N_drew)); exact HO_0.out) hb); have n1_ := Aside0.mk (Kd.R_below (by (with_reducible repeat (first | apply Kd.R_alloc | apply Kd.R_drewN | apply Kd.R_drew)); exact HO410.out) hb); have n2_ := Aside0.mk (below_step (by repeat (first | (with_reducible first | exact HB.out | apply below_alloc | apply pw_below_drewN | apply below_drew1) | exact HB.out)) hb); clear HO_0; clear HO410; clear HB; have HO_0 := n0_; have HO410 := n1_; have HB := n2_; clear n0_ n1_ n2_; (try clear hb); (try clear hb2); (try clear hk); (try clear hi)))
                    go_ret
                    exact ⟨by first | rfl | (simp [errW_none, errW_some] <;> rfl) | (simp [*, errW_none, errW_some] <;> rfl), by repeat (first | (with_reducible first | exact HB.out | apply below_alloc | apply pw_below_drewN | apply below_drew1) | exact HB.out)⟩
                  · rw [if_neg c33] at H
                    have c33b0 : ((t408.length : Int) == 0) = false := beq_eq_false_iff_ne.mpr c33
                    have c33b1 : ((t408.length : Int) != 0) = true := bne_iff_ne.mpr c33
                    have c33b2 : ¬ (t408 = []) := fun h_ => c33 (by rw [h_]; rfl)
                    obtain rfl := Option.some.inj H
                    go_wp2_with (first | ((fail_if_success (have z_ := HO410)); (with_reducible refine gate_callee (f := 10) rfl ?_); refine goesL_ (some 55) rfl rfl Try.func10 (by kernel_rfl) rfl #[.slice Ao8 t399.length co8] rfl (by (try simp only [List.map_toArray, List.map_cons, List.map_nil]); first | done | rfl | (simp only [List.length_drop, List.length_take]; rfl)) ?_; (with_reducible refine (run_Scripts.calls k2 _ _ t399 t408 _ ?side1 ?side2 A32.out).mono ?_); (case side1 => repeat (first | exact (Kd.N_reads' HO_0.out).2.2 | (with_reducible refine Kd.C_alloc ?_ _) | (with_reducible refine Kd.C_drewN ?_ _) | (with_reducible refine Kd.C_drew ?_))); (case side2 => exact (Kd.N_reads' HO_0.out).2.1); rintro e w38 ⟨v409, rfl, ho0, hb⟩; refine ⟨_, rfl, ?_⟩; have n0_ := Aside0.mk (Kd.N_elder' (by (with_reducible repeat (first | apply Kd.N_alloc | apply Kd.N_drewN | apply Kd.N_drew)); exact HO_0.out) (Kd.R_base ho0) hb); have n1_ := Aside0.mk (Kd.R_lower ho0 (below_size (by repeat (first | (with_reducible first | exact HB.out | apply below_alloc | apply pw_below_drewN | apply below_drew1) | exact HB.out)))); have n2_ := Aside0.mk (below_step (by repeat (first | (with_reducible first | exact HB.out | apply below_alloc | apply pw_below_drewN | apply below_drew1) | exact HB.out)) hb); clear HO_0; clear HB; have HO_0 := n0_; have HO410 := n1_; have HB := n2_; clear n0_ n1_ n2_; (try clear hb); (try clear hb2); (try clear hk); (try clear hi); (try clear ho0); obtain ⟨Ao39, co39, eo39⟩ := Kd.R_slice HO410.out; subst eo39))
                    go_ret
                    exact ⟨by first | rfl | (simp [errW_none, errW_some] <;> rfl) | (simp [*, errW_none, errW_some] <;> rfl), by repeat (first | (with_reducible first | exact HB.out | apply below_alloc | apply pw_below_drewN | apply below_drew1) | exact HB.out)⟩
          · replace c18 := Bool.eq_false_iff.mpr c18
            subst c18
            have H1 : ((boltinglaw19_fixed.f kj5).bind fun t407 => (some t407)) = some r := by rw [if_neg (show ¬ (false = true) by decide)] at H; exact H
            clear H
            have H := H1
            clear H1
            replace H := Option.bind_eq_some_iff.mp H
            obtain ⟨t407, A400, H⟩ := H
            replace H : (some t407) = some r := H
            have A40 := Aside0.mk A400
            clear A400
            obtain rfl := Option.some.inj H
            go_wp2_with (first | ((with_reducible refine gate_callee (f := 13) rfl ?_); refine goesL_ (some 24) rfl rfl Try.func13 (by kernel_rfl) rfl #[.slice Ao8 t399.length co8] rfl (by (try simp only [List.map_toArray, List.map_cons, List.map_nil]); first | done | rfl | (simp only [List.length_drop, List.length_take]; rfl)) ?_; (with_reducible refine (run_Nothing.calls kj5 _ _ t399 false _ ?side1 ?side2 A17.out).mono ?_); (case side1 => repeat (first | exact (Kd.N_reads' HO_0.out).2.2 | (with_reducible refine Kd.C_alloc ?_ _) | (with_reducible refine Kd.C_drewN ?_ _) | (with_reducible refine Kd.C_drew ?_))); (case side2 => exact (Kd.N_reads' HO_0.out).2.1); rintro e w41 ⟨rfl, hb⟩; refine ⟨_, rfl, ?_⟩; have n0_ := Aside0.mk (Kd.N_below (by (with_reducible repeat (first | apply Kd.N_alloc | apply Kd.N_drewN | apply Kd.N_drew)); exact HO_0.out) hb); have n1_ := Aside0.mk (below_step (by repeat (first | (with_reducible first | exact HB.out | apply below_alloc | apply pw_below_drewN | apply below_drew1) | exact HB.out)) hb); clear HO_0; clear HB; have HO_0 := n0_; have HB := n1_; clear n0_ n1_; (try clear hb); (try clear hb2); (try clear hk); (try clear hi)) | ((with_reducible refine gate_callee (f := 9) rfl ?_); refine goesL_ (some 26) rfl rfl Try.func9 (by kernel_rfl) rfl #[] rfl (by (try simp only [List.map_toArray, List.map_cons, List.map_nil]); first | done | rfl | (simp only [List.length_drop, List.length_take]; rfl)) ?_; (with_reducible refine (boltinglaw19_fixed.calls kj5  t407 _ A40.out).mono ?_); rintro e w42 ⟨rfl, hb⟩; refine ⟨_, rfl, ?_⟩; have n0_ := Aside0.mk (Kd.N_below (by (with_reducible repeat (first | apply Kd.N_alloc | apply Kd.N_drewN | apply Kd.N_drew)); exact HO_0.out) hb); have n1_ := Aside0.mk (below_step (by repeat (first | (with_reducible first | exact HB.out | apply below_alloc | apply pw_below_drewN | apply below_drew1) | exact HB.out)) hb); clear HO_0; clear HB; have HO_0 := n0_; have HB := n1_; clear n0_ n1_; (try clear hb); (try clear hb2); (try clear hk); (try clear hi)))
            go_ret
            exact ⟨by first | rfl | (simp [errW_none, errW_some] <;> rfl) | (simp [*, errW_none, errW_some] <;> rfl), by repeat (first | (with_reducible first | exact HB.out | apply below_alloc | apply pw_below_drewN | apply below_drew1) | exact HB.out)⟩
  · replace c5 := Bool.eq_false_iff.mpr c5
    subst c5
    have H1 : ((boltinglaw19_fixed.f k).bind fun t403 => (some t403)) = some r := by rw [if_neg (show ¬ (false = true) by decide)] at H; exact H
    clear H
    have H := H1
    clear H1
    replace H := Option.bind_eq_some_iff.mp H
    obtain ⟨t403, A430, H⟩ := H
    replace H : (some t403) = some r := H
    have A43 := Aside0.mk A430
    clear A430
    obtain rfl := Option.some.inj H
    go_enter Try.func6, Try.ntmps6
    go_wp2_with (first | ((fail_if_success (have z_ := HO401)); (with_reducible refine gate_callee (f := 7) rfl ?_); refine goesL_ (some 11) rfl rfl Try.func7 (by kernel_rfl) rfl #[.slice A0 l0.length c0] rfl (by (try simp only [List.map_toArray, List.map_cons, List.map_nil]); first | done | rfl | (simp only [List.length_drop, List.length_take]; rfl)) ?_; (with_reducible refine (boltinglaw19_bound.calls k (fun k_ => k_ < w.heap.size) _ _ l0 t399 _ ?side1 A3.out).mono ?_); (case side1 => exact Kd.V_mk HC0.out (Kd.F_below (Kd.C_F k34_heap HR0.out) (by repeat (first | (with_reducible first | exact HB.out | apply below_alloc | apply pw_below_drewN | apply below_drew1) | exact HB.out)))); rintro e w44 ⟨v400, rfl, ho0, hb⟩; refine ⟨_, rfl, ?_⟩; have n0_ := Aside0.mk (Kd.N_lower (Kd.N_mono (ok' := fun k_ => True) ho0 (fun k_ hk_ => trivial)) (below_size (by repeat (first | (with_reducible first | exact HB.out | apply below_alloc | apply pw_below_drewN | apply below_drew1) | exact HB.out)))); have n1_ := Aside0.mk (below_step (by repeat (first | (with_reducible first | exact HB.out | apply below_alloc | apply pw_below_drewN | apply below_drew1) | exact HB.out)) hb); clear HB; have HO401 := n0_; have HB := n1_; clear n0_ n1_; (try clear hb); (try clear hb2); (try clear hk); (try clear hi); (try clear ho0); obtain ⟨Ao45, co45, eo45⟩ := Kd.N_slice HO401.out; subst eo45) | ((with_reducible refine gate_callee (f := 8) rfl ?_); refine goesL_ (some 13) rfl rfl Try.func8 (by kernel_rfl) rfl #[.slice Ao45 t399.length co45] rfl (by (try simp only [List.map_toArray, List.map_cons, List.map_nil]); first | done | rfl | (simp only [List.length_drop, List.length_take]; rfl)) ?_; (with_reducible refine (boltingref04_Right.calls k _ _ t399 false _ ?side1 ?side2 A4.out).mono ?_); (case side1 => repeat (first | exact (Kd.N_reads' HO401.out).2.2 | (with_reducible refine Kd.C_alloc ?_ _) | (with_reducible refine Kd.C_drewN ?_ _) | (with_reducible refine Kd.C_drew ?_))); (case side2 => exact (Kd.N_reads' HO401.out).2.1); rintro e w46 ⟨rfl, hb⟩; refine ⟨_, rfl, ?_⟩; have n0_ := Aside0.mk (Kd.N_below (by (with_reducible repeat (first | apply Kd.N_alloc | apply Kd.N_drewN | apply Kd.N_drew)); exact HO401.out) hb); have n1_ := Aside0.mk (below_step (by repeat (first | (with_reducible first | exact HB.out | apply below_alloc | apply pw_below_drewN | apply below_drew1) | exact HB.out)) hb); clear HO401; clear HB; have HO401 := n0_; have HB := n1_; clear n0_ n1_; (try clear hb); (try clear hb2); (try clear hk); (try clear hi)) | ((with_reducible refine gate_callee (f := 9) rfl ?_); refine goesL_ (some 15) rfl rfl Try.func9 (by kernel_rfl) rfl #[] rfl (by (try simp only [List.map_toArray, List.map_cons, List.map_nil]); first | done | rfl | (simp only [List.length_drop, List.length_take]; rfl)) ?_; (with_reducible refine (boltinglaw19_fixed.calls k  t403 _ A43.out).mono ?_); rintro e w47 ⟨rfl, hb⟩; refine ⟨_, rfl, ?_⟩; have n0_ := Aside0.mk (Kd.N_below (by (with_reducible repeat (first | apply Kd.N_alloc | apply Kd.N_drewN | apply Kd.N_drew)); exact HO401.out) hb); have n1_ := Aside0.mk (below_step (by repeat (first | (with_reducible first | exact HB.out | apply below_alloc | apply pw_below_drewN | apply below_drew1) | exact HB.out)) hb); clear HO401; clear HB; have HO401 := n0_; have HB := n1_; clear n0_ n1_; (try clear hb); (try clear hb2); (try clear hk); (try clear hi)))
    go_ret
    exact ⟨by first | rfl | (simp [errW_none, errW_some] <;> rfl) | (simp [*, errW_none, errW_some] <;> rfl), by repeat (first | (with_reducible first | exact HB.out | apply below_alloc | apply pw_below_drewN | apply below_drew1) | exact HB.out)⟩

end Go.Proofs.Ytakhldahohooiaa.Pr
