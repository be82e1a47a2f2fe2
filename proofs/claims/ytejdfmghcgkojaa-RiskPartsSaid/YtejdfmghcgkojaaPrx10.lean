-- Written by wip/tools/pr.sh out of Lean's own print of the translation. Not trusted: Lean checks it.
import Derived.Test.YtejdfmghcgkojaaPrx0
import Derived.Test.YtejdfmghcgkojaaPrx1
import Derived.Test.YtejdfmghcgkojaaPrx2
import Derived.Test.YtejdfmghcgkojaaPrx9
namespace Go.Proofs.Ytejdfmghcgkojaa.Pr
open Go.RowKit Go.Proofs.YtejdfmghcgkojaaW.PrintWords Go.Proofs.YtejdfmghcgkojaaW.PrintLast Go.Proofs.YtejdfmghcgkojaaW.PrintMore
attribute [local go_sem] max2_int min2_int max_two min_two max_three min_three max_four min_four   -- for this text's walks alone
set_option linter.unusedVariables false
set_option linter.unusedSimpArgs false

/-! ### boltinglaw10_RiskParts: function 5 -/
mutual
def boltinglaw10_RiskParts.l0 : Nat → List (S37) → Int → Int → Bool → Int → Option (Bool)
  | 0, _, _, _, _, _ => none
  | k + 1, x0, x1, x2, x7, x8 => if x8 < (x0.length : Int) then (if x7 = true then (if 0 ≤ x8 then (if x8 ≤ (wrap64 (x8 + 1)) then (if (wrap64 (x8 + 1)) ≤ (x0.length : Int) then ((risk_Safe.f k ((x0.take ((wrap64 (x8 + 1)) : Int).toNat).drop (x8 : Int).toNat)).bind fun t239 => (boltinglaw10_RiskParts.l0 k x0 x1 x2 t239 (wrap64 (x8 + 1)))) else (none)) else (none)) else (none)) else (boltinglaw10_RiskParts.l0 k x0 x1 x2 false (wrap64 (x8 + 1)))) else ((risk_Safe.f k x0).bind fun t240 => (if (t240 != x7) = true then (some false) else (if (x0.length : Int) = 0 then (boltinglaw10_RiskParts.j1 k x0 x1 x2 true) else (boltinglaw10_RiskParts.j1 k x0 x1 x2 (!x7)))))
def boltinglaw10_RiskParts.j1 : Nat → List (S37) → Int → Int → Bool → Option (Bool)
  | 0, _, _, _, _ => none
  | k + 1, x0, x1, x2, x38 => if x38 = true then ((boltinglaw10_fixed.f k).bind fun t241 => (some t241)) else (if (x0.length : Int) = 0 then (none) else (if 0 ≤ (Int.tmod (Go.bits .and .i64 x1 65535) (x0.length : Int)) then (if (Int.tmod (Go.bits .and .i64 x1 65535) (x0.length : Int)) < (x0.length : Int) then (if (wrap64 ((((rd_T37 x0 (Int.tmod (Go.bits .and .i64 x1 65535) (x0.length : Int))).f4).length : Int) + 1)) = 0 then (none) else (if 0 ≤ (Int.tmod (Go.bits .and .i64 x2 65535) (wrap64 ((((rd_T37 x0 (Int.tmod (Go.bits .and .i64 x1 65535) (x0.length : Int))).f4).length : Int) + 1))) then (if (Int.tmod (Go.bits .and .i64 x2 65535) (wrap64 ((((rd_T37 x0 (Int.tmod (Go.bits .and .i64 x1 65535) (x0.length : Int))).f4).length : Int) + 1))) ≤ (((rd_T37 x0 (Int.tmod (Go.bits .and .i64 x1 65535) (x0.length : Int))).f4).length : Int) then (if (Int.tmod (Go.bits .and .i64 x1 65535) (x0.length : Int)) ≤ (x0.length : Int) then ((risk_Safe.f k (x0.take ((Int.tmod (Go.bits .and .i64 x1 65535) (x0.length : Int)) : Int).toNat)).bind fun t254 => (if t254 = true then ((risk_Safe.f k (x0.drop ((Int.tmod (Go.bits .and .i64 x1 65535) (x0.length : Int)) : Int).toNat)).bind fun t260 => (if t260 = true then ((risk_Safe.f k (([(⟨(rd_T37 x0 (Int.tmod (Go.bits .and .i64 x1 65535) (x0.length : Int))).f0, (rd_T37 x0 (Int.tmod (Go.bits .and .i64 x1 65535) (x0.length : Int))).f1, (rd_T37 x0 (Int.tmod (Go.bits .and .i64 x1 65535) (x0.length : Int))).f2, (rd_T37 x0 (Int.tmod (Go.bits .and .i64 x1 65535) (x0.length : Int))).f3, (((rd_T37 x0 (Int.tmod (Go.bits .and .i64 x1 65535) (x0.length : Int))).f4).take ((Int.tmod (Go.bits .and .i64 x2 65535) (wrap64 ((((rd_T37 x0 (Int.tmod (Go.bits .and .i64 x1 65535) (x0.length : Int))).f4).length : Int) + 1))) : Int).toNat)⟩ : S37)] : List (S37)))).bind fun t264 => (if t264 = true then ((boltinglaw10_fixed.f k).bind fun t265 => (some t265)) else (some false))) else (some false))) else (some false))) else (none)) else (none)) else (none))) else (none)) else (none)))
end
def boltinglaw10_RiskParts.f (k : Nat) (l0 : List (S37)) (a1 : Int) (a2 : Int) : Option (Bool) := (boltinglaw10_bound.f k l0).bind fun t231 => (boltinglaw10_RiskParts.l0 k t231 a1 a2 true 0)
theorem boltinglaw10_RiskParts.mono_l : ∀ k, (∀ y0 y1 y2 y3 y4, LeO (boltinglaw10_RiskParts.l0 k y0 y1 y2 y3 y4) (boltinglaw10_RiskParts.l0 (k + 1) y0 y1 y2 y3 y4)) ∧ (∀ y0 y1 y2 y3, LeO (boltinglaw10_RiskParts.j1 k y0 y1 y2 y3) (boltinglaw10_RiskParts.j1 (k + 1) y0 y1 y2 y3))
  | 0 => ⟨fun _ _ _ _ _ r h => by simp [boltinglaw10_RiskParts.l0] at h, fun _ _ _ _ r h => by simp [boltinglaw10_RiskParts.j1] at h⟩
  | k + 1 => by
    obtain ⟨ih0, ih1⟩ := boltinglaw10_RiskParts.mono_l k
    refine ⟨?_, ?_⟩
    · intro y0 y1 y2 y3 y4
      unfold boltinglaw10_RiskParts.l0
      repeat' first
      | (with_reducible exact ih0 _ _ _ _ _)
      | (with_reducible exact ih1 _ _ _ _)
      | (with_reducible exact boltinglaw10_bound.mono _ _)
      | (with_reducible exact boltinglaw10_fixed.mono _)
      | (with_reducible exact risk_Safe.mono _ _)
      | (with_reducible exact LeO.refl _)
      | (with_reducible exact LeO.none _)
      | (with_reducible refine LeO.ite ?_ ?_)
      | (with_reducible refine LeO.bind ?_ (fun _ => ?_))
      | exact ih0 _ _ _ _ _
      | exact ih1 _ _ _ _
      | exact boltinglaw10_bound.mono _ _
      | exact boltinglaw10_fixed.mono _
      | exact risk_Safe.mono _ _
      | exact LeO.none _
      | refine LeO.ite ?_ ?_
      | refine LeO.bind ?_ (fun _ => ?_)
    · intro y0 y1 y2 y3
      unfold boltinglaw10_RiskParts.j1
      repeat' first
      | (with_reducible exact ih0 _ _ _ _ _)
      | (with_reducible exact ih1 _ _ _ _)
      | (with_reducible exact boltinglaw10_bound.mono _ _)
      | (with_reducible exact boltinglaw10_fixed.mono _)
      | (with_reducible exact risk_Safe.mono _ _)
      | (with_reducible exact LeO.refl _)
      | (with_reducible exact LeO.none _)
      | (with_reducible refine LeO.ite ?_ ?_)
      | (with_reducible refine LeO.bind ?_ (fun _ => ?_))
      | exact ih0 _ _ _ _ _
      | exact ih1 _ _ _ _
      | exact boltinglaw10_bound.mono _ _
      | exact boltinglaw10_fixed.mono _
      | exact risk_Safe.mono _ _
      | exact LeO.none _
      | refine LeO.ite ?_ ?_
      | refine LeO.bind ?_ (fun _ => ?_)
theorem boltinglaw10_RiskParts.mono : ∀ a0 a1 a2 k, LeO (boltinglaw10_RiskParts.f k a0 a1 a2) (boltinglaw10_RiskParts.f (k + 1) a0 a1 a2) := by
  intro a0 a1 a2 k
  obtain ⟨ih0, ih1⟩ := boltinglaw10_RiskParts.mono_l k
  unfold boltinglaw10_RiskParts.f
  repeat' first
      | (with_reducible exact ih0 _ _ _ _ _)
      | (with_reducible exact ih1 _ _ _ _)
      | (with_reducible exact boltinglaw10_bound.mono _ _)
      | (with_reducible exact boltinglaw10_fixed.mono _)
      | (with_reducible exact risk_Safe.mono _ _)
      | (with_reducible exact LeO.refl _)
      | (with_reducible exact LeO.none _)
      | (with_reducible refine LeO.ite ?_ ?_)
      | (with_reducible refine LeO.bind ?_ (fun _ => ?_))
      | exact ih0 _ _ _ _ _
      | exact ih1 _ _ _ _
      | exact boltinglaw10_bound.mono _ _
      | exact boltinglaw10_fixed.mono _
      | exact risk_Safe.mono _ _
      | exact LeO.none _
      | refine LeO.ite ?_ ?_
      | refine LeO.bind ?_ (fun _ => ?_)
def boltinglaw10_RiskParts.T13 : Bool × List (List Nat × List Nat) := (true, [([], []), ([0], [0]), ([], []), ([2], [2]), ([], []), ([4], [4]), ([5], [5]), ([6], [6]), ([3, 7], [3, 7]), ([1, 8], [1, 8]), ([0, 1, 2, 3, 4, 5, 6, 7, 8, 9], []), ([10, 9, 0, 1, 2, 3, 4, 5, 6, 7, 8, 9], [9, 10])])
def boltinglaw10_RiskParts.B13 : List Nat := [0, 1, 0, 4, 0, 16, 48, 112, 252, 511, 1023, 2047]
theorem boltinglaw10_RiskParts.tab13 : rtab .any (opsOf Try.f5 13) = boltinglaw10_RiskParts.T13 := by kernel_rfl
theorem boltinglaw10_RiskParts.bits13 : waitsOk boltinglaw10_RiskParts.T13.2 boltinglaw10_RiskParts.B13 = true := by kernel_rfl
set_option maxHeartbeats 8000000 in
set_option maxRecDepth 100000 in
theorem boltinglaw10_RiskParts.calls (k : Nat) (A0 : Option Addr) (c0 : Nat) (l0 : List (S37)) (a1 : Int) (a2 : Int) (r : Bool) (w : World) (hr0 : Kd.C k37 w A0 l0.length l0) (hc0 : l0.length ≤ c0) (h : boltinglaw10_RiskParts.f k l0 a1 a2 = some r) :
    Calls Try.prog 5 #[.slice A0 l0.length c0, .int .i64 a1, .int .i64 a2] w fun e w' => e = .returned (.bool r) ∧ Below w.heap.size w w' := by
  have hu37 := Try.underlying37
  have HR0 := Aside0.mk hr0
  have HC0 := Aside0.mk hc0
  clear hr0 hc0
  have HB := Aside0.mk (Below.refl w.heap.size w)
  have H : ((boltinglaw10_bound.f k l0).bind fun t231 => (boltinglaw10_RiskParts.l0 k t231 a1 a2 true 0)) = some r := h
  clear h
  replace H := Option.bind_eq_some_iff.mp H
  obtain ⟨t231, A40, H⟩ := H
  replace H : (boltinglaw10_RiskParts.l0 k t231 a1 a2 true 0) = some r := H
  have A4 := Aside0.mk A40
  clear A40
  have H' := Aside0.mk H
  clear H
  go_enter Try.func5, Try.ntmps5
  go_wp2_with (first | ((with_reducible refine gate_callee (f := 21) rfl ?_); refine goesL_ (some 12) rfl rfl Try.func21 (by kernel_rfl) rfl #[.slice A0 l0.length c0] rfl (by (try simp only [List.map_toArray, List.map_cons, List.map_nil]); first | done | rfl | (simp only [List.length_drop, List.length_take]; rfl)) ?_; (with_reducible refine (boltinglaw10_bound.calls k (fun k_ => k_ < w.heap.size) _ _ l0 t231 _ ?side1 A4.out).mono ?_); (case side1 => exact Kd.V_mk HC0.out (Kd.F_below (Kd.C_F k37_heap HR0.out) (by repeat (first | (with_reducible first | exact HB.out | apply below_alloc | apply pw_below_drewN | apply below_drew1) | exact HB.out)))); rintro e w5 ⟨v232, rfl, ho0, hb⟩; refine ⟨_, rfl, ?_⟩; have n0_ := Aside0.mk (Kd.N_lower (Kd.N_mono (ok' := fun k_ => True) ho0 (fun k_ hk_ => trivial)) (below_size (by repeat (first | (with_reducible first | exact HB.out | apply below_alloc | apply pw_below_drewN | apply below_drew1) | exact HB.out)))); have n1_ := Aside0.mk (below_step (by repeat (first | (with_reducible first | exact HB.out | apply below_alloc | apply pw_below_drewN | apply below_drew1) | exact HB.out)) hb); clear HB; have HO233 := n0_; have HB := n1_; clear n0_ n1_; (try clear hb); (try clear hb2); (try clear hk); (try clear hi); (try clear ho0)))
  go_loopg [7, 8] k (fun kq v7 v8 w' => ∃ (x7_1 : Bool) (x8_1 : Int), v7 = .bool x7_1 ∧ v8 = .int .i64 x8_1 ∧ Aside0 (boltinglaw10_RiskParts.l0 kq t231 a1 a2 x7_1 x8_1 = some r) ∧ Aside0 (kq ≤ k) ∧ Aside0 (Kd.N k37 37 w' w.heap.size (fun _ => True) v232 t231) ∧ Aside0 (Below w.heap.size w w'))
  case atStart => exact ⟨(true), (0), (by first | rfl | (simp; done) | (simp [*]; done)), (by first | rfl | (simp; done) | (simp [*]; done)), H', ⟨Nat.le_refl _⟩, ⟨by (with_reducible repeat (first | apply Kd.N_alloc | apply Kd.N_drewN | apply Kd.N_drew)); exact HO233.out⟩, ⟨by repeat (first | (with_reducible first | exact HB.out | apply below_alloc | apply pw_below_drewN | apply below_drew1) | exact HB.out)⟩⟩
  case round =>
    clear H'
    try clear c2
    try clear p2
    try clear c5
    obtain ⟨x7_1, x8_1, rfl, rfl, HA, HK1, HO_0, HB⟩ := hrel
    cases gk with
    | zero => exact absurd HA.out (by simp [boltinglaw10_RiskParts.l0])
    | succ k1 =>
      have H := HA.out
      clear HA
      simp only [boltinglaw10_RiskParts.l0] at H
      by_cases c6 : x8_1 < (t231.length : Int)
      · rw [if_pos c6] at H
        have c6b0 : decide (x8_1 < (t231.length : Int)) = true := decide_eq_true c6
        clear c6
        by_cases c7 : x7_1 = true
        · subst c7
          have H1 : (if 0 ≤ x8_1 then (if x8_1 ≤ (wrap64 (x8_1 + 1)) then (if (wrap64 (x8_1 + 1)) ≤ (t231.length : Int) then ((risk_Safe.f k1 ((t231.take ((wrap64 (x8_1 + 1)) : Int).toNat).drop (x8_1 : Int).toNat)).bind fun t239 => (boltinglaw10_RiskParts.l0 k1 t231 a1 a2 t239 (wrap64 (x8_1 + 1)))) else (none)) else (none)) else (none)) = some r := by rw [if_pos rfl] at H; exact H
          clear H
          have H := H1
          clear H1
          by_cases c8 : 0 ≤ x8_1
          · rw [if_pos c8] at H
            have c8b0 := eq_true c8
            have c8b1 : decide (0 ≤ x8_1) = true := decide_eq_true c8
            clear c8
            by_cases c9 : x8_1 ≤ (wrap64 (x8_1 + 1))
            · rw [if_pos c9] at H
              have c9b0 := eq_true c9
              have c9b1 : decide (x8_1 ≤ (wrap64 (x8_1 + 1))) = true := decide_eq_true c9
              by_cases c10 : (wrap64 (x8_1 + 1)) ≤ (t231.length : Int)
              · rw [if_pos c10] at H
                have c10b0 := eq_true c10
                have c10b1 : decide ((wrap64 (x8_1 + 1)) ≤ (t231.length : Int)) = true := decide_eq_true c10
                obtain ⟨y234, hy234⟩ : ∃ y_ : List (S37), y_ = ((t231.take ((wrap64 (x8_1 + 1)) : Int).toNat).drop (x8_1 : Int).toNat) := ⟨_, rfl⟩
                replace H : ((risk_Safe.f k1 y234).bind fun t239 => (boltinglaw10_RiskParts.l0 k1 t231 a1 a2 t239 (wrap64 (x8_1 + 1)))) = some r := by first | (rw [hy234]; with_reducible exact H) | (have H2_ := (Option.bind_some _ _).symm.trans H; rw [hy234]; with_reducible exact H2_) | (have H2_ := (Option.bind_some _ _).symm.trans H; with_reducible exact H2_) | with_reducible exact H | (rw [hy234]; exact H) | exact H
                have Ny234 := Aside0.mk hy234
                clear hy234
                replace H := Option.bind_eq_some_iff.mp H
                obtain ⟨t239, A110, H⟩ := H
                replace H : (boltinglaw10_RiskParts.l0 k1 t231 a1 a2 t239 (wrap64 (x8_1 + 1))) = some r := H
                have A11 := Aside0.mk A110
                clear A110
                have H' := Aside0.mk H
                clear H
                obtain ⟨Ao12, co12, eo12⟩ := Kd.N_slice HO_0.out
                subst eo12
                have q13 : ((wrap64 (x8_1 + 1)) : Int) ≤ ((t231.length : Int) : Int) := of_decide_eq_true (by first | (with_reducible assumption) | assumption)
                obtain ⟨i013, hi013, _, hsz13, _⟩ := info_parts info37
                have hroom13 : t231.length ≤ co12 := (Kd.N_reads' HO_0.out).2.1
                have hC13 : Kd.F k37 _ _ Ao12 t231.length t231 := (Kd.V_at (base := w.heap.size) (Kd.N_V HO_0.out)).2.2
                have ql13 : (x8_1 : Int) ≤ ((wrap64 (x8_1 + 1)) : Int) := of_decide_eq_true (by first | (with_reducible assumption) | assumption)
                have q013 : (0 : Int) ≤ (x8_1 : Int) := of_decide_eq_true (by first | (with_reducible assumption) | assumption)
                have hcut13 := cut_mid (P := Try.prog) 32 37 .i64 .i64 Try.underlying32 hi013 5 hsz13 Ao12 t231.length co12 x8_1 (wrap64 (x8_1 + 1)) q013 ql13 q13 hroom13
                have hr13 := Kd.F_mid (lo := (x8_1 : Int).toNat) (hi := ((wrap64 (x8_1 + 1)) : Int).toNat) (c := co12) hC13 (by omega) (by omega) hroom13
                obtain ⟨A13, hA13⟩ : ∃ A1, A1 = (if co12 = (x8_1 : Int).toNat then Ao12 else (Ao12 : Option Addr).map (·.add ((x8_1 : Int).toNat * 5))) := ⟨_, rfl⟩
                obtain ⟨c13, hc13⟩ : ∃ c1, c1 = co12 - (x8_1 : Int).toNat := ⟨_, rfl⟩
                have hy13 : y234.length = ((wrap64 (x8_1 + 1)) : Int).toNat - (x8_1 : Int).toNat := (by rw [Ny234.out, List.length_drop, List.length_take] <;> omega)
                rw [show ((t231).take ((wrap64 (x8_1 + 1)) : Int).toNat).drop (x8_1 : Int).toNat = y234 from Ny234.out.symm] at hr13
                replace hr13 : Kd.F k37 _ _ A13 y234.length y234 := (by rw [hA13]; exact hr13)
                rw [← hy13, ← hA13, ← hc13] at hcut13
                have HO238 := Aside0.mk (show Kd.V k37 37 _ w.heap.size _ (.slice A13 y234.length c13) y234 from Kd.V_mk (by rw [hy13, hc13]; exact Nat.sub_le_sub_right (Nat.le_trans (by omega) hroom13) _) hr13)
                have HC238 := Aside0.mk (show y234.length ≤ c13 from by rw [hy13, hc13]; exact Nat.sub_le_sub_right (Nat.le_trans (by omega) hroom13) _)
                clear hr13 hC13 hroom13 hi013 hsz13 hc13
                have KY13 := Aside0.mk hy13
                have KA13 := Aside0.mk hA13
                clear hy13 hA13
                replace q13 := eq_true q13
                go_wp2_with (first | (go_at_call 22; (with_reducible refine (risk_Safe.calls k1 _ _ y234 t239 _ ?side1 ?side2 A11.out).mono ?_); (case side1 => repeat (first | exact (Kd.V_reads' HO238.out).2.2 | (with_reducible refine Kd.C_alloc ?_ _) | (with_reducible refine Kd.C_drewN ?_ _) | (with_reducible refine Kd.C_drew ?_))); (case side2 => exact (Kd.V_reads' HO238.out).2.1); rintro e w14 ⟨rfl, hb⟩; have n0_ := Aside0.mk (Kd.N_below (by (with_reducible repeat (first | apply Kd.N_alloc | apply Kd.N_drewN | apply Kd.N_drew)); exact HO_0.out) hb); have n1_ := Aside0.mk (Kd.V_below (by (with_reducible repeat (first | apply Kd.V_alloc | apply Kd.V_drewN | apply Kd.V_drew)); exact HO238.out) hb); have n2_ := Aside0.mk (below_step (by repeat (first | (with_reducible first | exact HB.out | apply below_alloc | apply pw_below_drewN | apply below_drew1) | exact HB.out)) hb); clear HO_0; clear HO238; clear HB; have HO_0 := n0_; have HO238 := n1_; have HB := n2_; clear n0_ n1_ n2_; (try clear hb); (try clear hb2); (try clear hk); (try clear hi)))
                go_roundg k1
                case measure => have := HK1.out; omega
                case rel => exact ⟨(t239), (wrap64 (x8_1 + 1)), (by first | rfl | (simp; done) | (simp [*]; done)), (by first | rfl | (simp; done) | (simp [*]; done)), H', ⟨by have := HK1.out; omega⟩, ⟨by (with_reducible repeat (first | apply Kd.N_alloc | apply Kd.N_drewN | apply Kd.N_drew)); exact HO_0.out⟩, ⟨by repeat (first | (with_reducible first | exact HB.out | apply below_alloc | apply pw_below_drewN | apply below_drew1) | exact HB.out)⟩⟩
              · rw [if_neg c10] at H
                exact absurd H (by simp)
            · rw [if_neg c9] at H
              exact absurd H (by simp)
          · rw [if_neg c8] at H
            exact absurd H (by simp)
        · replace c7 := Bool.eq_false_iff.mpr c7
          subst c7
          have H1 : (boltinglaw10_RiskParts.l0 k1 t231 a1 a2 false (wrap64 (x8_1 + 1))) = some r := by rw [if_neg (show ¬ (false = true) by decide)] at H; exact H
          clear H
          have H := H1
          clear H1
          have H' := Aside0.mk H
          clear H
          obtain ⟨Ao15, co15, eo15⟩ := Kd.N_slice HO_0.out
          subst eo15
          go_wp2
          go_roundg k1
          case measure => have := HK1.out; omega
          case rel => exact ⟨(false), (wrap64 (x8_1 + 1)), (by first | rfl | (simp; done) | (simp [*]; done)), (by first | rfl | (simp; done) | (simp [*]; done)), H', ⟨by have := HK1.out; omega⟩, ⟨by (with_reducible repeat (first | apply Kd.N_alloc | apply Kd.N_drewN | apply Kd.N_drew)); exact HO_0.out⟩, ⟨by repeat (first | (with_reducible first | exact HB.out | apply below_alloc | apply pw_below_drewN | apply below_drew1) | exact HB.out)⟩⟩
      · rw [if_neg c6] at H
        have c6b0 : decide (x8_1 < (t231.length : Int)) = false := decide_eq_false c6
        clear c6
        replace H := Option.bind_eq_some_iff.mp H
        obtain ⟨t240, A160, H⟩ := H
        replace H : (if (t240 != x7_1) = true then (some false) else (if (t231.length : Int) = 0 then (boltinglaw10_RiskParts.j1 k1 t231 a1 a2 true) else (boltinglaw10_RiskParts.j1 k1 t231 a1 a2 (!x7_1)))) = some r := H
        have A16 := Aside0.mk A160
        clear A160
        by_cases c17 : (t240 != x7_1) = true
        · rw [if_pos c17] at H
          have c17b0 : (t240 != x7_1) = true := c17
          (try (have c17b1 : decide (t240 = x7_1) = false := by simpa using c17))
          (try (have c17b2 : (t240 == x7_1) = false := by simpa using c17))
          (try (have c17b3 : ¬ (t240 = x7_1) := by simpa using c17))
          clear c17
          obtain rfl := Option.some.inj H
          obtain ⟨Ao18, co18, eo18⟩ := Kd.N_slice HO_0.out
          subst eo18
          go_wp2_with (first | ((with_reducible refine gate_callee (f := 22) rfl ?_); refine goesL_ (some 29) rfl rfl Try.func22 (by kernel_rfl) rfl #[.slice Ao18 t231.length co18] rfl (by (try simp only [List.map_toArray, List.map_cons, List.map_nil]); first | done | rfl | (simp only [List.length_drop, List.length_take]; rfl)) ?_; (with_reducible refine (risk_Safe.calls k1 _ _ t231 t240 _ ?side1 ?side2 A16.out).mono ?_); (case side1 => repeat (first | exact (Kd.N_reads' HO_0.out).2.2 | (with_reducible refine Kd.C_alloc ?_ _) | (with_reducible refine Kd.C_drewN ?_ _) | (with_reducible refine Kd.C_drew ?_))); (case side2 => exact (Kd.N_reads' HO_0.out).2.1); rintro e w19 ⟨rfl, hb⟩; refine ⟨_, rfl, ?_⟩; have n0_ := Aside0.mk (Kd.N_below (by (with_reducible repeat (first | apply Kd.N_alloc | apply Kd.N_drewN | apply Kd.N_drew)); exact HO_0.out) hb); have n1_ := Aside0.mk (below_step (by repeat (first | (with_reducible first | exact HB.out | apply below_alloc | apply pw_below_drewN | apply below_drew1) | exact HB.out)) hb); clear HO_0; clear HB; have HO_0 := n0_; have HB := n1_; clear n0_ n1_; (try clear hb); (try clear hb2); (try clear hk); (try clear hi)))
          go_ret
          exact ⟨by first | rfl | (simp [errW_none, errW_some] <;> rfl) | (simp [*, errW_none, errW_some] <;> rfl), by repeat (first | (with_reducible first | exact HB.out | apply below_alloc | apply pw_below_drewN | apply below_drew1) | exact HB.out)⟩
        · rw [if_neg c17] at H
          have c17b0 : (t240 != x7_1) = false := by simpa using c17
          (try (have c17b1 : decide (t240 = x7_1) = true := by simpa using c17))
          (try (have c17b2 : (t240 == x7_1) = true := by simpa using c17))
          clear c17
          have HC20 := Aside0.mk H
          clear H
          obtain ⟨Ao21, co21, eo21⟩ := Kd.N_slice HO_0.out
          subst eo21
          go_upto_region 9 with (first | ((with_reducible refine gate_callee (f := 22) rfl ?_); refine goesL_ (some 29) rfl rfl Try.func22 (by kernel_rfl) rfl #[.slice Ao21 t231.length co21] rfl (by (try simp only [List.map_toArray, List.map_cons, List.map_nil]); first | done | rfl | (simp only [List.length_drop, List.length_take]; rfl)) ?_; (with_reducible refine (risk_Safe.calls k1 _ _ t231 t240 _ ?side1 ?side2 A16.out).mono ?_); (case side1 => repeat (first | exact (Kd.N_reads' HO_0.out).2.2 | (with_reducible refine Kd.C_alloc ?_ _) | (with_reducible refine Kd.C_drewN ?_ _) | (with_reducible refine Kd.C_drew ?_))); (case side2 => exact (Kd.N_reads' HO_0.out).2.1); rintro e w22 ⟨rfl, hb⟩; refine ⟨_, rfl, ?_⟩; have n0_ := Aside0.mk (Kd.N_below (by (with_reducible repeat (first | apply Kd.N_alloc | apply Kd.N_drewN | apply Kd.N_drew)); exact HO_0.out) hb); have n1_ := Aside0.mk (below_step (by repeat (first | (with_reducible first | exact HB.out | apply below_alloc | apply pw_below_drewN | apply below_drew1) | exact HB.out)) hb); clear HO_0; clear HB; have HO_0 := n0_; have HB := n1_; clear n0_ n1_; (try clear hb); (try clear hb2); (try clear hk); (try clear hi)))
          (try simp only [Act.put, List.setIfInBounds_toArray, List.set_cons_zero, List.set_cons_succ])
          go_cut [38] (fun v38 wc => ∃ (kq : Nat) (x38_19 : Bool), v38 = .bool x38_19 ∧ Aside0 (boltinglaw10_RiskParts.j1 kq t231 a1 a2 x38_19 = some r) ∧ Aside0 (kq ≤ k1) ∧ Aside0 (Kd.N k37 37 wc w.heap.size (fun _ => True) (.slice Ao21 t231.length co21) t231) ∧ Aside0 (Below w.heap.size w wc))
          case first =>
            have H := HC20.out
            clear HC20
            by_cases c23 : (t231.length : Int) = 0
            · rw [if_pos c23] at H
              have c23b0 : ((t231.length : Int) == 0) = true := beq_iff_eq.mpr c23
              have c23b1 : ((t231.length : Int) != 0) = false := bne_eq_false_iff_eq.mpr c23
              clear c23
              (first | rw [c23b0] | (simp only [i64_w, i32_w]; rw [c23b0]) | skip)
              have H' := Aside0.mk H
              clear H
              go_wp2
              go_meet
              case rel => exact ⟨_, (true), (by first | rfl | (simp; done) | (simp [*]; done)), H', ⟨by have := HK1.out; first | omega | exact Nat.le_refl _⟩, ⟨by (with_reducible repeat (first | apply Kd.N_alloc | apply Kd.N_drewN | apply Kd.N_drew)); exact HO_0.out⟩, ⟨by repeat (first | (with_reducible first | exact HB.out | apply below_alloc | apply pw_below_drewN | apply below_drew1) | exact HB.out)⟩⟩
            · rw [if_neg c23] at H
              have c23b0 : ((t231.length : Int) == 0) = false := beq_eq_false_iff_ne.mpr c23
              have c23b1 : ((t231.length : Int) != 0) = true := bne_iff_ne.mpr c23
              have c23b2 : ¬ (t231 = []) := fun h_ => c23 (by rw [h_]; rfl)
              (first | rw [c23b0] | (simp only [i64_w, i32_w]; rw [c23b0]) | skip)
              have H' := Aside0.mk H
              clear H
              go_wp2
              go_meet
              case rel => exact ⟨_, (!x7_1), (by first | rfl | (simp; done) | (simp [*]; done)), H', ⟨by have := HK1.out; first | omega | exact Nat.le_refl _⟩, ⟨by (with_reducible repeat (first | apply Kd.N_alloc | apply Kd.N_drewN | apply Kd.N_drew)); exact HO_0.out⟩, ⟨by repeat (first | (with_reducible first | exact HB.out | apply below_alloc | apply pw_below_drewN | apply below_drew1) | exact HB.out)⟩⟩
          case rest =>
            clear HC20
            try clear c1
            try clear q1
            try clear c2
            try clear p2
            try clear c5
            try clear c6
            try clear c6b0
            try clear p6
            try clear c7
            try clear c8
            try clear c8b0
            try clear c8b1
            try clear c9
            try clear c9b0
            try clear c9b1
            try clear c10
            try clear c10b0
            try clear c10b1
            try clear c13
            try clear q13
            try clear c17
            try clear c17b0
            try clear c17b1
            try clear c17b2
            try clear c21
            try clear c22
            try clear c23
            try clear c23b0
            try clear c23b1
            try clear c23b2
            try clear p2
            try clear q013
            try clear q13
            obtain ⟨kq, x38_19, rfl, HA, HJ19, HO_0, HB⟩ := hcut
            cases kq with
            | zero => exact absurd HA.out (by simp [boltinglaw10_RiskParts.j1])
            | succ kj19 =>
              have H := HA.out
              clear HA
              simp only [boltinglaw10_RiskParts.j1] at H
              by_cases c24 : x38_19 = true
              · subst c24
                have H1 : ((boltinglaw10_fixed.f kj19).bind fun t241 => (some t241)) = some r := by rw [if_pos rfl] at H; exact H
                clear H
                have H := H1
                clear H1
                replace H := Option.bind_eq_some_iff.mp H
                obtain ⟨t241, A250, H⟩ := H
                replace H : (some t241) = some r := H
                have A25 := Aside0.mk A250
                clear A250
                obtain rfl := Option.some.inj H
                go_wp2_with (first | ((with_reducible refine gate_callee (f := 9) rfl ?_); refine goesL_ (some 39) rfl rfl Try.func9 (by kernel_rfl) rfl #[] rfl (by (try simp only [List.map_toArray, List.map_cons, List.map_nil]); first | done | rfl | (simp only [List.length_drop, List.length_take]; rfl)) ?_; (with_reducible refine (boltinglaw10_fixed.calls kj19  t241 _ A25.out).mono ?_); rintro e w26 ⟨rfl, hb⟩; refine ⟨_, rfl, ?_⟩; have n0_ := Aside0.mk (Kd.N_below (by (with_reducible repeat (first | apply Kd.N_alloc | apply Kd.N_drewN | apply Kd.N_drew)); exact HO_0.out) hb); have n1_ := Aside0.mk (below_step (by repeat (first | (with_reducible first | exact HB.out | apply below_alloc | apply pw_below_drewN | apply below_drew1) | exact HB.out)) hb); clear HO_0; clear HB; have HO_0 := n0_; have HB := n1_; clear n0_ n1_; (try clear hb); (try clear hb2); (try clear hk); (try clear hi)))
                go_ret
                exact ⟨by first | rfl | (simp [errW_none, errW_some] <;> rfl) | (simp [*, errW_none, errW_some] <;> rfl), by repeat (first | (with_reducible first | exact HB.out | apply below_alloc | apply pw_below_drewN | apply below_drew1) | exact HB.out)⟩
              · replace c24 := Bool.eq_false_iff.mpr c24
                subst c24
                have H1 : (if (t231.length : Int) = 0 then (none) else (if 0 ≤ (Int.tmod (Go.bits .and .i64 a1 65535) (t231.length : Int)) then (if (Int.tmod (Go.bits .and .i64 a1 65535) (t231.length : Int)) < (t231.length : Int) then (if (wrap64 ((((rd_T37 t231 (Int.tmod (Go.bits .and .i64 a1 65535) (t231.length : Int))).f4).length : Int) + 1)) = 0 then (none) else (if 0 ≤ (Int.tmod (Go.bits .and .i64 a2 65535) (wrap64 ((((rd_T37 t231 (Int.tmod (Go.bits .and .i64 a1 65535) (t231.length : Int))).f4).length : Int) + 1))) then (if (Int.tmod (Go.bits .and .i64 a2 65535) (wrap64 ((((rd_T37 t231 (Int.tmod (Go.bits .and .i64 a1 65535) (t231.length : Int))).f4).length : Int) + 1))) ≤ (((rd_T37 t231 (Int.tmod (Go.bits .and .i64 a1 65535) (t231.length : Int))).f4).length : Int) then (if (Int.tmod (Go.bits .and .i64 a1 65535) (t231.length : Int)) ≤ (t231.length : Int) then ((risk_Safe.f kj19 (t231.take ((Int.tmod (Go.bits .and .i64 a1 65535) (t231.length : Int)) : Int).toNat)).bind fun t254 => (if t254 = true then ((risk_Safe.f kj19 (t231.drop ((Int.tmod (Go.bits .and .i64 a1 65535) (t231.length : Int)) : Int).toNat)).bind fun t260 => (if t260 = true then ((risk_Safe.f kj19 (([(⟨(rd_T37 t231 (Int.tmod (Go.bits .and .i64 a1 65535) (t231.length : Int))).f0, (rd_T37 t231 (Int.tmod (Go.bits .and .i64 a1 65535) (t231.length : Int))).f1, (rd_T37 t231 (Int.tmod (Go.bits .and .i64 a1 65535) (t231.length : Int))).f2, (rd_T37 t231 (Int.tmod (Go.bits .and .i64 a1 65535) (t231.length : Int))).f3, (((rd_T37 t231 (Int.tmod (Go.bits .and .i64 a1 65535) (t231.length : Int))).f4).take ((Int.tmod (Go.bits .and .i64 a2 65535) (wrap64 ((((rd_T37 t231 (Int.tmod (Go.bits .and .i64 a1 65535) (t231.length : Int))).f4).length : Int) + 1))) : Int).toNat)⟩ : S37)] : List (S37)))).bind fun t264 => (if t264 = true then ((boltinglaw10_fixed.f kj19).bind fun t265 => (some t265)) else (some false))) else (some false))) else (some false))) else (none)) else (none)) else (none))) else (none)) else (none))) = some r := by rw [if_neg (show ¬ (false = true) by decide)] at H; exact H
                clear H
                have H := H1
                clear H1
                by_cases c27 : (t231.length : Int) = 0
                · rw [if_pos c27] at H
                  exact absurd H (by simp)
                · rw [if_neg c27] at H
                  have c27b0 : ((t231.length : Int) == 0) = false := beq_eq_false_iff_ne.mpr c27
                  have c27b1 : ((t231.length : Int) != 0) = true := bne_iff_ne.mpr c27
                  have c27b2 : ¬ (t231 = []) := fun h_ => c27 (by rw [h_]; rfl)
                  obtain ⟨ji28, hji28⟩ : ∃ j_ : Int, (Int.tmod (Go.bits .and .i64 a1 65535) (t231.length : Int)) = j_ := ⟨_, rfl⟩
                  replace H : (if 0 ≤ (ji28) then (if (ji28) < (t231.length : Int) then (if (wrap64 ((((rd_T37 t231 (ji28)).f4).length : Int) + 1)) = 0 then (none) else (if 0 ≤ (Int.tmod (Go.bits .and .i64 a2 65535) (wrap64 ((((rd_T37 t231 (ji28)).f4).length : Int) + 1))) then (if (Int.tmod (Go.bits .and .i64 a2 65535) (wrap64 ((((rd_T37 t231 (ji28)).f4).length : Int) + 1))) ≤ (((rd_T37 t231 (ji28)).f4).length : Int) then (if (ji28) ≤ (t231.length : Int) then ((risk_Safe.f kj19 (t231.take ((ji28) : Int).toNat)).bind fun t254 => (if t254 = true then ((risk_Safe.f kj19 (t231.drop ((ji28) : Int).toNat)).bind fun t260 => (if t260 = true then ((risk_Safe.f kj19 (([(⟨(rd_T37 t231 (ji28)).f0, (rd_T37 t231 (ji28)).f1, (rd_T37 t231 (ji28)).f2, (rd_T37 t231 (ji28)).f3, (((rd_T37 t231 (ji28)).f4).take ((Int.tmod (Go.bits .and .i64 a2 65535) (wrap64 ((((rd_T37 t231 (ji28)).f4).length : Int) + 1))) : Int).toNat)⟩ : S37)] : List (S37)))).bind fun t264 => (if t264 = true then ((boltinglaw10_fixed.f kj19).bind fun t265 => (some t265)) else (some false))) else (some false))) else (some false))) else (none)) else (none)) else (none))) else (none)) else (none)) = some r := by first | (rw [hji28] at H; exact H) | (simp only [hji28] at H ⊢; exact H)
                  by_cases c29 : 0 ≤ (ji28)
                  · rw [if_pos c29] at H
                    have c29b0 : decide (0 ≤ (ji28)) = true := decide_eq_true c29
                    clear c29
                    by_cases c30 : (ji28) < (t231.length : Int)
                    · rw [if_pos c30] at H
                      have c30b0 : decide ((ji28) < (t231.length : Int)) = true := decide_eq_true c30
                      clear c30
                      by_cases c31 : (wrap64 ((((rd_T37 t231 (ji28)).f4).length : Int) + 1)) = 0
                      · rw [if_pos c31] at H
                        exact absurd H (by simp)
                      · rw [if_neg c31] at H
                        have c31b0 : ((wrap64 ((((rd_T37 t231 (ji28)).f4).length : Int) + 1)) == 0) = false := beq_eq_false_iff_ne.mpr c31
                        have c31b1 : ((wrap64 ((((rd_T37 t231 (ji28)).f4).length : Int) + 1)) != 0) = true := bne_iff_ne.mpr c31
                        obtain ⟨ji32, hji32⟩ : ∃ j_ : Int, (Int.tmod (Go.bits .and .i64 a2 65535) (wrap64 ((((rd_T37 t231 (ji28)).f4).length : Int) + 1))) = j_ := ⟨_, rfl⟩
                        replace H : (if 0 ≤ (ji32) then (if (ji32) ≤ (((rd_T37 t231 (ji28)).f4).length : Int) then (if (ji28) ≤ (t231.length : Int) then ((risk_Safe.f kj19 (t231.take ((ji28) : Int).toNat)).bind fun t254 => (if t254 = true then ((risk_Safe.f kj19 (t231.drop ((ji28) : Int).toNat)).bind fun t260 => (if t260 = true then ((risk_Safe.f kj19 (([(⟨(rd_T37 t231 (ji28)).f0, (rd_T37 t231 (ji28)).f1, (rd_T37 t231 (ji28)).f2, (rd_T37 t231 (ji28)).f3, (((rd_T37 t231 (ji28)).f4).take ((ji32) : Int).toNat)⟩ : S37)] : List (S37)))).bind fun t264 => (if t264 = true then ((boltinglaw10_fixed.f kj19).bind fun t265 => (some t265)) else (some false))) else (some false))) else (some false))) else (none)) else (none)) else (none)) = some r := by first | (rw [hji32] at H; exact H) | (simp only [hji32] at H ⊢; exact H)
                        by_cases c33 : 0 ≤ (ji32)
                        · rw [if_pos c33] at H
                          have c33b0 := eq_true c33
                          have c33b1 : decide (0 ≤ (ji32)) = true := decide_eq_true c33
                          clear c33
                          by_cases c34 : (ji32) ≤ (((rd_T37 t231 (ji28)).f4).length : Int)
                          · rw [if_pos c34] at H
                            have c34b0 := eq_true c34
                            have c34b1 : decide ((ji32) ≤ (((rd_T37 t231 (ji28)).f4).length : Int)) = true := decide_eq_true c34
                            clear c34
                            obtain ⟨y244, hy244⟩ : ∃ y_ : List (S30), y_ = (((rd_T37 t231 (ji28)).f4).take ((ji32) : Int).toNat) := ⟨_, rfl⟩
                            replace H : (if (ji28) ≤ (t231.length : Int) then ((risk_Safe.f kj19 (t231.take ((ji28) : Int).toNat)).bind fun t254 => (if t254 = true then ((risk_Safe.f kj19 (t231.drop ((ji28) : Int).toNat)).bind fun t260 => (if t260 = true then ((risk_Safe.f kj19 (([(⟨(rd_T37 t231 (ji28)).f0, (rd_T37 t231 (ji28)).f1, (rd_T37 t231 (ji28)).f2, (rd_T37 t231 (ji28)).f3, y244⟩ : S37)] : List (S37)))).bind fun t264 => (if t264 = true then ((boltinglaw10_fixed.f kj19).bind fun t265 => (some t265)) else (some false))) else (some false))) else (some false))) else (none)) = some r := by first | (rw [hy244]; with_reducible exact H) | (have H2_ := (Option.bind_some _ _).symm.trans H; rw [hy244]; with_reducible exact H2_) | (have H2_ := (Option.bind_some _ _).symm.trans H; with_reducible exact H2_) | with_reducible exact H | (rw [hy244]; exact H) | exact H
                            have Ny244 := Aside0.mk hy244
                            clear hy244
                            have c35b0 := eq_true (of_decide_eq_true (by first | (with_reducible assumption) | assumption) : 0 ≤ (ji28))
                            by_cases c36 : (ji28) ≤ (t231.length : Int)
                            · rw [if_pos c36] at H
                              have c36b0 := eq_true c36
                              have c36b1 : decide ((ji28) ≤ (t231.length : Int)) = true := decide_eq_true c36
                              clear c36
                              obtain ⟨y249, hy249⟩ : ∃ y_ : List (S37), y_ = (t231.take ((ji28) : Int).toNat) := ⟨_, rfl⟩
                              replace H : ((risk_Safe.f kj19 y249).bind fun t254 => (if t254 = true then ((risk_Safe.f kj19 (t231.drop ((ji28) : Int).toNat)).bind fun t260 => (if t260 = true then ((risk_Safe.f kj19 (([(⟨(rd_T37 t231 (ji28)).f0, (rd_T37 t231 (ji28)).f1, (rd_T37 t231 (ji28)).f2, (rd_T37 t231 (ji28)).f3, y244⟩ : S37)] : List (S37)))).bind fun t264 => (if t264 = true then ((boltinglaw10_fixed.f kj19).bind fun t265 => (some t265)) else (some false))) else (some false))) else (some false))) = some r := by first | (rw [hy249]; with_reducible exact H) | (have H2_ := (Option.bind_some _ _).symm.trans H; rw [hy249]; with_reducible exact H2_) | (have H2_ := (Option.bind_some _ _).symm.trans H; with_reducible exact H2_) | with_reducible exact H | (rw [hy249]; exact H) | exact H
                              have Ny249 := Aside0.mk hy249
                              clear hy249
                              replace H := Option.bind_eq_some_iff.mp H
                              obtain ⟨t254, A370, H⟩ := H
                              replace H : (if t254 = true then ((risk_Safe.f kj19 (t231.drop ((ji28) : Int).toNat)).bind fun t260 => (if t260 = true then ((risk_Safe.f kj19 (([(⟨(rd_T37 t231 (ji28)).f0, (rd_T37 t231 (ji28)).f1, (rd_T37 t231 (ji28)).f2, (rd_T37 t231 (ji28)).f3, y244⟩ : S37)] : List (S37)))).bind fun t264 => (if t264 = true then ((boltinglaw10_fixed.f kj19).bind fun t265 => (some t265)) else (some false))) else (some false))) else (some false)) = some r := H
                              have A37 := Aside0.mk A370
                              clear A370
                              by_cases c38 : t254 = true
                              · subst c38
                                have H1 : ((risk_Safe.f kj19 (t231.drop ((ji28) : Int).toNat)).bind fun t260 => (if t260 = true then ((risk_Safe.f kj19 (([(⟨(rd_T37 t231 (ji28)).f0, (rd_T37 t231 (ji28)).f1, (rd_T37 t231 (ji28)).f2, (rd_T37 t231 (ji28)).f3, y244⟩ : S37)] : List (S37)))).bind fun t264 => (if t264 = true then ((boltinglaw10_fixed.f kj19).bind fun t265 => (some t265)) else (some false))) else (some false))) = some r := by rw [if_pos rfl] at H; exact H
                                clear H
                                have H := H1
                                clear H1
                                have c39b0 := eq_true (of_decide_eq_true (by first | (with_reducible assumption) | assumption) : 0 ≤ (ji28))
                                have c40b0 := eq_true (of_decide_eq_true (by first | (with_reducible assumption) | assumption) : (ji28) ≤ (t231.length : Int))
                                obtain ⟨y255, hy255⟩ : ∃ y_ : List (S37), y_ = (t231.drop ((ji28) : Int).toNat) := ⟨_, rfl⟩
                                replace H : ((risk_Safe.f kj19 y255).bind fun t260 => (if t260 = true then ((risk_Safe.f kj19 (([(⟨(rd_T37 t231 (ji28)).f0, (rd_T37 t231 (ji28)).f1, (rd_T37 t231 (ji28)).f2, (rd_T37 t231 (ji28)).f3, y244⟩ : S37)] : List (S37)))).bind fun t264 => (if t264 = true then ((boltinglaw10_fixed.f kj19).bind fun t265 => (some t265)) else (some false))) else (some false))) = some r := by first | (rw [hy255]; with_reducible exact H) | (have H2_ := (Option.bind_some _ _).symm.trans H; rw [hy255]; with_reducible exact H2_) | (have H2_ := (Option.bind_some _ _).symm.trans H; with_reducible exact H2_) | with_reducible exact H | (rw [hy255]; exact H) | exact H
                                have Ny255 := Aside0.mk hy255
                                clear hy255
                                replace H := Option.bind_eq_some_iff.mp H
                                obtain ⟨t260, A410, H⟩ := H
                                replace H : (if t260 = true then ((risk_Safe.f kj19 (([(⟨(rd_T37 t231 (ji28)).f0, (rd_T37 t231 (ji28)).f1, (rd_T37 t231 (ji28)).f2, (rd_T37 t231 (ji28)).f3, y244⟩ : S37)] : List (S37)))).bind fun t264 => (if t264 = true then ((boltinglaw10_fixed.f kj19).bind fun t265 => (some t265)) else (some false))) else (some false)) = some r := H
                                have A41 := Aside0.mk A410
                                clear A410
                                by_cases c42 : t260 = true
                                · subst c42
                                  have H1 : ((risk_Safe.f kj19 (([(⟨(rd_T37 t231 (ji28)).f0, (rd_T37 t231 (ji28)).f1, (rd_T37 t231 (ji28)).f2, (rd_T37 t231 (ji28)).f3, y244⟩ : S37)] : List (S37)))).bind fun t264 => (if t264 = true then ((boltinglaw10_fixed.f kj19).bind fun t265 => (some t265)) else (some false))) = some r := by rw [if_pos rfl] at H; exact H
                                  clear H
                                  have H := H1
                                  clear H1
                                  obtain ⟨y261, hy261⟩ : ∃ y_ : List (S37), y_ = (([(⟨(rd_T37 t231 (ji28)).f0, (rd_T37 t231 (ji28)).f1, (rd_T37 t231 (ji28)).f2, (rd_T37 t231 (ji28)).f3, y244⟩ : S37)] : List (S37))) := ⟨_, rfl⟩
                                  replace H : ((risk_Safe.f kj19 y261).bind fun t264 => (if t264 = true then ((boltinglaw10_fixed.f kj19).bind fun t265 => (some t265)) else (some false))) = some r := by first | (rw [hy261]; with_reducible exact H) | (have H2_ := (Option.bind_some _ _).symm.trans H; rw [hy261]; with_reducible exact H2_) | (have H2_ := (Option.bind_some _ _).symm.trans H; with_reducible exact H2_) | with_reducible exact H | (rw [hy261]; exact H) | exact H
                                  have Ny261 := Aside0.mk hy261
                                  clear hy261
                                  replace H := Option.bind_eq_some_iff.mp H
                                  obtain ⟨t264, A430, H⟩ := H
                                  replace H : (if t264 = true then ((boltinglaw10_fixed.f kj19).bind fun t265 => (some t265)) else (some false)) = some r := H
                                  have A43 := Aside0.mk A430
                                  clear A430
                                  by_cases c44 : t264 = true
                                  · subst c44
                                    have H1 : ((boltinglaw10_fixed.f kj19).bind fun t265 => (some t265)) = some r := by rw [if_pos rfl] at H; exact H
                                    clear H
                                    have H := H1
                                    clear H1
                                    replace H := Option.bind_eq_some_iff.mp H
                                    obtain ⟨t265, A450, H⟩ := H
                                    replace H : (some t265) = some r := H
                                    have A45 := Aside0.mk A450
                                    clear A450
                                    obtain rfl := Option.some.inj H
                                    have p242 : 0 ≤ ((ji28) : Int) := of_decide_eq_true (by first | (with_reducible assumption) | assumption)
                                    have q242 : (ji28) < (t231.length : Int) := of_decide_eq_true (by first | (with_reducible assumption) | assumption)
                                    obtain ⟨ad242, A242_4, c242_4, e242, hx242_0, hx242_1, hx242_2, hx242_3, hx242_4, hl242_4, hi242_4⟩ := at_T37 (Kd.N_reads' HO_0.out).2.2 (ji28) p242 q242
                                    cases e242
                                    obtain ⟨ce242, hce242, hMe242, hcc242⟩ := Kd.N_get HO_0.out z37 (ji28) p242 (by first | exact q242 | exact of_decide_eq_true (by first | (with_reducible assumption) | assumption) | (have e_ := (Kd.N_reads' HO_0.out).1; omega))
                                    obtain ⟨ua242_4, uc242_4, rfl, ul242_4, ge242_4⟩ := k37_openF hMe242
                                    have hv242_4 := hcc242 4 _ rfl
                                    rw [add_field _ _ 4 (by omega)] at hv242_4
                                    replace hv242_4 := Option.some.inj (hv242_4.symm.trans hx242_4)
                                    injection hv242_4 with hva_ hvn_ hvc_
                                    rw [hva_] at ge242_4
                                    rw [hvc_] at ul242_4
                                    have HL242_4 := Aside0.mk (show Kd.V k30 30 _ w.heap.size _ _ ((rd_T37 t231 (ji28)).f4) from Kd.V_mk ul242_4 ge242_4)
                                    clear hva_ hvn_ hvc_ ge242_4 ul242_4
                                    clear hcc242 hce242
                                    have HR242_4 := Aside0.mk hi242_4
                                    have HC242_4 := Aside0.mk hl242_4
                                    clear hi242_4 hl242_4
                                    replace p242 := eq_true p242
                                    replace q242 := eq_true q242
                                    try go_wp2_with (first | ((with_reducible refine gate_dst (N := 10) rfl ?_); (try (refine gate_guard (by rfl) ?_; dsimp only)); refine box_event ?hg (N := 10) ?hd (cs := #[.int .i64 0, .int .i64 0, .string (⟨#[]⟩ : ByteArray), .string (⟨#[]⟩ : ByteArray), .slice none 0 0]) (t := 37) ?hr ?_; (case hd => rfl); (case hg => rfl); (case hr => first | (go_simp; done) | (go_simp; rfl)); intro gb243 hg w46 hbox hb; have n0_ := Aside0.mk (Kd.N_below (Kd.N_elderB (by (with_reducible repeat (first | apply Kd.N_alloc | apply Kd.N_drewN | apply Kd.N_drew)); exact HO_0.out) gb243 (Nat.le_of_eq hg.symm)) hb); have n1_ := Aside0.mk (Kd.V_below (Kd.V_elderB (by (with_reducible repeat (first | apply Kd.V_alloc | apply Kd.V_drewN | apply Kd.V_drew)); exact HL242_4.out) gb243 (Nat.le_of_eq hg.symm)) hb); have n2_ := Aside0.mk (Kd.C_below (by repeat (first | (with_reducible exact HR242_4.out) | (with_reducible refine Kd.C_alloc ?_ _) | (with_reducible refine Kd.C_drewN ?_ _) | (with_reducible refine Kd.C_drew ?_) | exact HR242_4.out)) hb); have n3_ := Aside0.mk (below_step (by repeat (first | (with_reducible first | exact HB.out | apply below_alloc | apply pw_below_drewN | apply below_drew1) | exact HB.out)) hb); have n4_ := Aside0.mk (hbox); have n5_ := Aside0.mk ((by rw [hg]; exact (below_size (by repeat (first | (with_reducible first | exact HB.out | apply below_alloc | apply pw_below_drewN | apply below_drew1) | exact HB.out))) : w.heap.size ≤ gb243)); have n6_ := Aside0.mk ((by rw [hg]; exact (below_size (by repeat (first | (with_reducible first | exact HB.out | apply below_alloc | apply pw_below_drewN | apply below_drew1) | exact HB.out))) : w.heap.size ≤ gb243)); clear HO_0; clear HL242_4; clear HR242_4; clear HB; have HO_0 := n0_; have HL242_4 := n1_; have HR242_4 := n2_; have HB := n3_; have BK243 := n4_; have GW243 := n5_; have GE243 := n6_; clear n0_ n1_ n2_ n3_ n4_ n5_ n6_; clear hb hbox hg; have hcz47_0 : w46.cell? ⟨gb243, 0, none⟩ = some (.int .i64 0) := (blk_cell BK243.out 0).trans rfl; have hcz47_1 : w46.cell? ⟨gb243, 1, none⟩ = some (.int .i64 0) := (blk_cell BK243.out 1).trans rfl; have hcz47_2 : w46.cell? ⟨gb243, 2, none⟩ = some (.string (⟨#[]⟩ : ByteArray)) := (blk_cell BK243.out 2).trans rfl; have hcz47_3 : w46.cell? ⟨gb243, 3, none⟩ = some (.string (⟨#[]⟩ : ByteArray)) := (blk_cell BK243.out 3).trans rfl; have hcz47_4 : w46.cell? ⟨gb243, 4, none⟩ = some (.slice none 0 0) := (blk_cell BK243.out 4).trans rfl; have hfz47_0 := blk_frozen BK243.out 0; have hfz47_1 := blk_frozen BK243.out 1; have hfz47_2 := blk_frozen BK243.out 2; have hfz47_3 := blk_frozen BK243.out 3; have hfz47_4 := blk_frozen BK243.out 4))
                                    have n0_ : Aside0 (Kd.N k37 37 (((((w46.setCell ⟨gb243, 0, none⟩ (.int .i64 ((rd_T37 t231 (ji28)).f0))).setCell ⟨gb243, 1, none⟩ (.int .i64 ((rd_T37 t231 (ji28)).f1))).setCell ⟨gb243, 2, none⟩ (.string ((rd_T37 t231 (ji28)).f2))).setCell ⟨gb243, 3, none⟩ (.string ((rd_T37 t231 (ji28)).f3))).setCell ⟨gb243, 4, none⟩ (.slice A242_4 ((rd_T37 t231 (ji28)).f4).length c242_4)) w.heap.size (fun k_ => k_ ≠ gb243) (.slice (some ad242) t231.length co21) t231) := ⟨by (with_reducible repeat (first | apply Kd.N_alloc | apply Kd.N_drewN | apply Kd.N_drew)); exact Kd.N_mono (Kd.N_far (p := ⟨gb243, 4, none⟩) (Kd.N_far (p := ⟨gb243, 3, none⟩) (Kd.N_far (p := ⟨gb243, 2, none⟩) (Kd.N_far (p := ⟨gb243, 1, none⟩) (Kd.N_far (p := ⟨gb243, 0, none⟩) (Kd.N_mono HO_0.out (fun k_ hk => (⟨hk, hk.2⟩ : _ ∧ k_ ≠ gb243))) (fun _ hk => hk.2) (.int .i64 ((rd_T37 t231 (ji28)).f0))) (fun _ hk => hk.2) (.int .i64 ((rd_T37 t231 (ji28)).f1))) (fun _ hk => hk.2) (.string ((rd_T37 t231 (ji28)).f2))) (fun _ hk => hk.2) (.string ((rd_T37 t231 (ji28)).f3))) (fun _ hk => hk.2) (.slice A242_4 ((rd_T37 t231 (ji28)).f4).length c242_4)) (fun _ hk => hk.1.2)⟩
                                    have n1_ : Aside0 (Kd.V k30 30 (((((w46.setCell ⟨gb243, 0, none⟩ (.int .i64 ((rd_T37 t231 (ji28)).f0))).setCell ⟨gb243, 1, none⟩ (.int .i64 ((rd_T37 t231 (ji28)).f1))).setCell ⟨gb243, 2, none⟩ (.string ((rd_T37 t231 (ji28)).f2))).setCell ⟨gb243, 3, none⟩ (.string ((rd_T37 t231 (ji28)).f3))).setCell ⟨gb243, 4, none⟩ (.slice A242_4 ((rd_T37 t231 (ji28)).f4).length c242_4)) w.heap.size (fun k_ => some k_ ≠ (.slice (some ad242) t231.length co21 : Value).ownBlock ∧ k_ ≠ gb243) (.slice A242_4 ((rd_T37 t231 (ji28)).f4).length c242_4) ((rd_T37 t231 (ji28)).f4)) := ⟨by (with_reducible repeat (first | apply Kd.V_alloc | apply Kd.V_drewN | apply Kd.V_drew)); exact Kd.V_mono (Kd.V_far (p := ⟨gb243, 4, none⟩) (Kd.V_far (p := ⟨gb243, 3, none⟩) (Kd.V_far (p := ⟨gb243, 2, none⟩) (Kd.V_far (p := ⟨gb243, 1, none⟩) (Kd.V_far (p := ⟨gb243, 0, none⟩) (Kd.V_mono HL242_4.out (fun k_ hk => (⟨hk, hk.2⟩ : _ ∧ k_ ≠ gb243))) (fun _ hk => hk.2) (.int .i64 ((rd_T37 t231 (ji28)).f0))) (fun _ hk => hk.2) (.int .i64 ((rd_T37 t231 (ji28)).f1))) (fun _ hk => hk.2) (.string ((rd_T37 t231 (ji28)).f2))) (fun _ hk => hk.2) (.string ((rd_T37 t231 (ji28)).f3))) (fun _ hk => hk.2) (.slice A242_4 ((rd_T37 t231 (ji28)).f4).length c242_4)) (fun _ hk => ⟨hk.1.1.2, hk.1.2⟩)⟩
                                    have n2_ : Aside0 ((((((w46.setCell ⟨gb243, 0, none⟩ (.int .i64 ((rd_T37 t231 (ji28)).f0))).setCell ⟨gb243, 1, none⟩ (.int .i64 ((rd_T37 t231 (ji28)).f1))).setCell ⟨gb243, 2, none⟩ (.string ((rd_T37 t231 (ji28)).f2))).setCell ⟨gb243, 3, none⟩ (.string ((rd_T37 t231 (ji28)).f3))).setCell ⟨gb243, 4, none⟩ (.slice A242_4 ((rd_T37 t231 (ji28)).f4).length c242_4)).heap[gb243]? = some (.cells #[.int .i64 ((rd_T37 t231 (ji28)).f0), .int .i64 ((rd_T37 t231 (ji28)).f1), .string ((rd_T37 t231 (ji28)).f2), .string ((rd_T37 t231 (ji28)).f3), .slice A242_4 ((rd_T37 t231 (ji28)).f4).length c242_4] 37 (0, 0))) := ⟨by (with_reducible repeat (first | refine blk_drewN ?_ _ | refine blk_drew ?_ | refine blk_alloc ?_ _)); refine blk_put (cs := #[.int .i64 ((rd_T37 t231 (ji28)).f0), .int .i64 ((rd_T37 t231 (ji28)).f1), .string ((rd_T37 t231 (ji28)).f2), .string ((rd_T37 t231 (ji28)).f3), .slice none 0 0]) ?_ 4 _ rfl; (with_reducible repeat (first | refine blk_drewN ?_ _ | refine blk_drew ?_ | refine blk_alloc ?_ _)); refine blk_put (cs := #[.int .i64 ((rd_T37 t231 (ji28)).f0), .int .i64 ((rd_T37 t231 (ji28)).f1), .string ((rd_T37 t231 (ji28)).f2), .string (⟨#[]⟩ : ByteArray), .slice none 0 0]) ?_ 3 _ rfl; (with_reducible repeat (first | refine blk_drewN ?_ _ | refine blk_drew ?_ | refine blk_alloc ?_ _)); refine blk_put (cs := #[.int .i64 ((rd_T37 t231 (ji28)).f0), .int .i64 ((rd_T37 t231 (ji28)).f1), .string (⟨#[]⟩ : ByteArray), .string (⟨#[]⟩ : ByteArray), .slice none 0 0]) ?_ 2 _ rfl; (with_reducible repeat (first | refine blk_drewN ?_ _ | refine blk_drew ?_ | refine blk_alloc ?_ _)); refine blk_put (cs := #[.int .i64 ((rd_T37 t231 (ji28)).f0), .int .i64 0, .string (⟨#[]⟩ : ByteArray), .string (⟨#[]⟩ : ByteArray), .slice none 0 0]) ?_ 1 _ rfl; (with_reducible repeat (first | refine blk_drewN ?_ _ | refine blk_drew ?_ | refine blk_alloc ?_ _)); refine blk_put (cs := #[.int .i64 0, .int .i64 0, .string (⟨#[]⟩ : ByteArray), .string (⟨#[]⟩ : ByteArray), .slice none 0 0]) ?_ 0 _ rfl; (with_reducible repeat (first | refine blk_drewN ?_ _ | refine blk_drew ?_ | refine blk_alloc ?_ _)); exact BK243.out⟩
                                    have n3_ : Aside0 (Below w.heap.size w (((((w46.setCell ⟨gb243, 0, none⟩ (.int .i64 ((rd_T37 t231 (ji28)).f0))).setCell ⟨gb243, 1, none⟩ (.int .i64 ((rd_T37 t231 (ji28)).f1))).setCell ⟨gb243, 2, none⟩ (.string ((rd_T37 t231 (ji28)).f2))).setCell ⟨gb243, 3, none⟩ (.string ((rd_T37 t231 (ji28)).f3))).setCell ⟨gb243, 4, none⟩ (.slice A242_4 ((rd_T37 t231 (ji28)).f4).length c242_4))) := ⟨by repeat (first | (with_reducible first | exact HB.out | apply below_alloc | apply pw_below_drewN | apply below_drew1 | refine below_set ?_ GE243.out) | exact HB.out)⟩
                                    (try clear HO_0)
                                    (try clear HL242_4)
                                    (try clear BK243)
                                    (try clear HB)
                                    generalize (((((w46.setCell ⟨gb243, 0, none⟩ (.int .i64 ((rd_T37 t231 (ji28)).f0))).setCell ⟨gb243, 1, none⟩ (.int .i64 ((rd_T37 t231 (ji28)).f1))).setCell ⟨gb243, 2, none⟩ (.string ((rd_T37 t231 (ji28)).f2))).setCell ⟨gb243, 3, none⟩ (.string ((rd_T37 t231 (ji28)).f3))).setCell ⟨gb243, 4, none⟩ (.slice A242_4 ((rd_T37 t231 (ji28)).f4).length c242_4)) = w48 at n0_ n1_ n2_ n3_ ⊢
                                    have HO_0 := n0_
                                    have HL242_4 := n1_
                                    have BK243 := n2_
                                    have HB := n3_
                                    clear n0_ n1_ n2_ n3_
                                    have n0_ := Aside0.mk (Kd.N_drew HO_0.out)
                                    have n1_ := Aside0.mk (Kd.V_drew HL242_4.out)
                                    have n2_ := Aside0.mk (blk_drew BK243.out)
                                    have n3_ := Aside0.mk (below_drew1 HB.out)
                                    clear HO_0
                                    clear HL242_4
                                    clear BK243
                                    clear HB
                                    have HO_0 := n0_
                                    have HL242_4 := n1_
                                    have BK243 := n2_
                                    have HB := n3_
                                    clear n0_ n1_ n2_ n3_
                                    have q50 : ((ji32) : Int) ≤ ((((rd_T37 t231 (ji28)).f4).length : Int) : Int) := of_decide_eq_true (by first | (with_reducible assumption) | assumption)
                                    obtain ⟨i050, hi050, _, hsz50, _⟩ := info_parts info30
                                    have hroom50 : ((rd_T37 t231 (ji28)).f4).length ≤ c242_4 := HC242_4.out
                                    have hC50 : Kd.F k30 _ _ A242_4 ((rd_T37 t231 (ji28)).f4).length ((rd_T37 t231 (ji28)).f4) := (Kd.V_at (base := w.heap.size) HL242_4.out).2.2
                                    have hcut50 := cut_to (P := Try.prog) 35 30 .i64 Try.underlying35 hi050 A242_4 ((rd_T37 t231 (ji28)).f4).length c242_4 (ji32) (of_decide_eq_true (by first | (with_reducible assumption) | assumption)) q50 hroom50
                                    have hr50 := Kd.F_take (m := ((ji32) : Int).toNat) hC50 (by omega)
                                    have hy50 : y244.length = ((ji32) : Int).toNat := (by rw [Ny244.out, List.length_take]; omega)
                                    rw [← Ny244.out] at hr50
                                    rw [← hy50] at hcut50
                                    have HO248 := Aside0.mk (show Kd.V k30 30 _ w.heap.size _ (.slice A242_4 y244.length c242_4) y244 from Kd.V_mk (by omega) hr50)
                                    have HC248 := Aside0.mk (show y244.length ≤ c242_4 from by omega)
                                    clear hr50 hC50 hroom50 hi050 hsz50
                                    have KY50 := Aside0.mk hy50
                                    clear hy50
                                    replace q50 := eq_true q50
                                    refine start_ (n := 12) (S := fun w' => w'.cell? ⟨gb243, 0, none⟩ = some (.int .i64 ((rd_T37 t231 (ji28)).f0)) ∧ w'.cell? ⟨gb243, 1, none⟩ = some (.int .i64 ((rd_T37 t231 (ji28)).f1)) ∧ w'.cell? ⟨gb243, 2, none⟩ = some (.string ((rd_T37 t231 (ji28)).f2)) ∧ w'.cell? ⟨gb243, 3, none⟩ = some (.string ((rd_T37 t231 (ji28)).f3)) ∧ w'.cell? ⟨gb243, 4, none⟩ = some (.slice A242_4 ((rd_T37 t231 (ji28)).f4).length c242_4)) (ds := [11]) #[false, false, false, false, false, false, false, false, false, false, false, false] (by kernel_rfl) rfl rfl ⟨(blk_cell BK243.out 0).trans rfl, (blk_cell BK243.out 1).trans rfl, (blk_cell BK243.out 2).trans rfl, (blk_cell BK243.out 3).trans rfl, (blk_cell BK243.out 4).trans rfl⟩ (fun hHeld => ?_); refine with_tabW boltinglaw10_RiskParts.tab13 boltinglaw10_RiskParts.bits13 (fun HT_ HW_ => ?_)
                                    generalize w48.drew = w49 at HO_0 HL242_4 BK243 HB HO248 hHeld ⊢
                                    refine pure_ (i := 0) (N := some 49) (v := ?_) (a' := ?_) #[true, false, false, false, false, false, false, false, false, false, false, false] rfl rfl (any_of HT_.out (by kernel_rfl)) (fun _ _ _ h => h) (Or.inl ⟨by rfl, ?_⟩) ?_ ?_
                                    rotate_left
                                    · intro w'
                                      go_simp
                                      with_reducible rfl
                                    rotate_left
                                    · simp only [Act.put, List.setIfInBounds_toArray, List.set_cons_zero, List.set_cons_succ, i64_w, i32_w]
                                      rfl
                                    refine pure_ (i := 2) (N := some 51) (v := ?_) (a' := ?_) #[true, false, true, false, false, false, false, false, false, false, false, false] rfl rfl (any_of HT_.out (by kernel_rfl)) (fun _ _ _ h => h) (Or.inl ⟨by rfl, ?_⟩) ?_ ?_
                                    rotate_left
                                    · intro w'
                                      go_simp
                                      with_reducible rfl
                                    rotate_left
                                    · simp only [Act.put, List.setIfInBounds_toArray, List.set_cons_zero, List.set_cons_succ, i64_w, i32_w]
                                      rfl
                                    refine pure_ (i := 3) (N := some 52) (v := ?_) (a' := ?_) #[true, false, true, true, false, false, false, false, false, false, false, false] rfl rfl (any_of HT_.out (by kernel_rfl)) (fun _ _ _ h => h) (Or.inl ⟨by rfl, ?_⟩) ?_ ?_
                                    rotate_left
                                    · intro w'
                                      go_simp
                                      with_reducible rfl
                                    rotate_left
                                    · simp only [Act.put, List.setIfInBounds_toArray, List.set_cons_zero, List.set_cons_succ, i64_w, i32_w]
                                      rfl
                                    refine pure_ (i := 4) (N := some 53) (v := ?_) (a' := ?_) #[true, false, true, true, true, false, false, false, false, false, false, false] rfl rfl (any_of HT_.out (by kernel_rfl)) (fun _ _ _ h => h) (Or.inl ⟨by rfl, ?_⟩) ?_ ?_
                                    rotate_left
                                    · intro w'
                                      go_simp
                                      with_reducible rfl
                                    rotate_left
                                    · simp only [Act.put, List.setIfInBounds_toArray, List.set_cons_zero, List.set_cons_succ, i64_w, i32_w]
                                      rfl
                                    refine take_ (i := 1) (N := some 50) (v := ?_) (a' := ?_) #[true, true, true, true, true, false, false, false, false, false, false, false] rfl rfl (take_ofW HT_.out HW_.out (by kernel_rfl)) (fun _ _ _ h => h) (Or.inl ⟨by rfl, ?_⟩) hHeld ?_ ?_
                                    rotate_left
                                    · rintro w' ⟨s0, s1, s2, s3, s4⟩
                                      go_simp
                                      with_reducible rfl
                                    rotate_left
                                    · simp only [Act.put, List.setIfInBounds_toArray, List.set_cons_zero, List.set_cons_succ, i64_w, i32_w]
                                      rfl
                                    refine take_ (i := 5) (N := some 54) (v := ?_) (a' := ?_) #[true, true, true, true, true, true, false, false, false, false, false, false] rfl rfl (take_ofW HT_.out HW_.out (by kernel_rfl)) (fun _ _ _ h => h) (Or.inl ⟨by rfl, ?_⟩) hHeld ?_ ?_
                                    rotate_left
                                    · rintro w' ⟨s0, s1, s2, s3, s4⟩
                                      go_simp
                                      with_reducible rfl
                                    rotate_left
                                    · simp only [Act.put, List.setIfInBounds_toArray, List.set_cons_zero, List.set_cons_succ, i64_w, i32_w]
                                      rfl
                                    refine pure_ (i := 6) (N := some 55) (v := ?_) (a' := ?_) #[true, true, true, true, true, true, true, false, false, false, false, false] rfl rfl (any_of HT_.out (by kernel_rfl)) (fun _ _ _ h => h) (Or.inl ⟨by rfl, ?_⟩) ?_ ?_
                                    rotate_left
                                    · intro w'
                                      go_simp
                                      with_reducible rfl
                                    rotate_left
                                    · simp only [Act.put, List.setIfInBounds_toArray, List.set_cons_zero, List.set_cons_succ, i64_w, i32_w]
                                      rfl
                                    refine pure_ (i := 7) (N := some 56) (v := ?_) (a' := ?_) #[true, true, true, true, true, true, true, true, false, false, false, false] rfl rfl (any_of HT_.out (by kernel_rfl)) (fun _ _ _ h => h) (Or.inl ⟨by rfl, ?_⟩) ?_ ?_
                                    rotate_left
                                    · intro w'
                                      go_simp
                                      with_reducible rfl
                                    rotate_left
                                    · simp only [Act.put, List.setIfInBounds_toArray, List.set_cons_zero, List.set_cons_succ, i64_w, i32_w]
                                      rfl
                                    refine pure_ (i := 8) (N := some 57) (v := ?_) (a' := ?_) #[true, true, true, true, true, true, true, true, true, false, false, false] rfl rfl (any_of HT_.out (by kernel_rfl)) (fun _ _ _ h => h) (Or.inl ⟨by rfl, ?_⟩) ?_ ?_
                                    rotate_left
                                    · intro w'
                                      go_simp
                                      with_reducible rfl
                                    rotate_left
                                    · simp only [Act.put, List.setIfInBounds_toArray, List.set_cons_zero, List.set_cons_succ, i64_w, i32_w]
                                      rfl
                                    refine pure_ (i := 9) (N := some 58) (v := ?_) (a' := ?_) #[true, true, true, true, true, true, true, true, true, true, false, false] rfl rfl (any_of HT_.out (by kernel_rfl)) (fun _ _ _ h => h) (Or.inl ⟨by rfl, ?_⟩) ?_ ?_
                                    rotate_left
                                    · intro w'
                                      go_simp
                                      with_reducible rfl
                                    rotate_left
                                    · simp only [Act.put, List.setIfInBounds_toArray, List.set_cons_zero, List.set_cons_succ, i64_w, i32_w]
                                      rfl
                                    refine pure_ (i := 10) (N := some 59) (v := ?_) (a' := ?_) #[true, true, true, true, true, true, true, true, true, true, true, false] rfl rfl (any_of HT_.out (by kernel_rfl)) (fun _ _ _ h => h) (Or.inl ⟨by rfl, ?_⟩) ?_ ?_
                                    rotate_left
                                    · intro w'
                                      go_simp
                                      with_reducible rfl
                                    rotate_left
                                    · simp only [Act.put, List.setIfInBounds_toArray, List.set_cons_zero, List.set_cons_succ, i64_w, i32_w]
                                      rfl
                                    refine last_ (i := 11) (N := none) #[true, true, true, true, true, true, true, true, true, true, true, true] rfl rfl (one_of HT_.out (by kernel_rfl)) (by decide) (fun K hK => ?_)
                                    have hs51 : w49.cell? ⟨gb243, 4, none⟩ = some (.slice A242_4 ((rd_T37 t231 (ji28)).f4).length c242_4) := (blk_cell BK243.out 4).trans rfl
                                    have hfs51 := blk_frozen BK243.out 4
                                    refine skip_ (w1 := ?_) (by rfl) rfl ?_ ?_
                                    rotate_left
                                    · go_simp
                                      rfl
                                    refine hK.out _ _ ?_
                                    clear hK K
                                    refine done_ (done_of HT_.out (by kernel_rfl)) ?_
                                    have n0_ : Aside0 (Kd.N k37 37 (w49.setCell ⟨gb243, 4, none⟩ (.slice A242_4 y244.length c242_4)) w.heap.size (fun k_ => k_ ≠ gb243) (.slice (some ad242) t231.length co21) t231) := ⟨by (with_reducible repeat (first | apply Kd.N_alloc | apply Kd.N_drewN | apply Kd.N_drew)); exact Kd.N_mono (Kd.N_far (p := ⟨gb243, 4, none⟩) (Kd.N_mono HO_0.out (fun k_ hk => (⟨hk, hk⟩ : _ ∧ k_ ≠ gb243))) (fun _ hk => hk.2) (.slice A242_4 y244.length c242_4)) (fun _ hk => hk.1)⟩
                                    have n1_ : Aside0 (Kd.V k30 30 (w49.setCell ⟨gb243, 4, none⟩ (.slice A242_4 y244.length c242_4)) w.heap.size (fun k_ => some k_ ≠ (.slice (some ad242) t231.length co21 : Value).ownBlock ∧ k_ ≠ gb243) (.slice A242_4 ((rd_T37 t231 (ji28)).f4).length c242_4) ((rd_T37 t231 (ji28)).f4)) := ⟨by (with_reducible repeat (first | apply Kd.V_alloc | apply Kd.V_drewN | apply Kd.V_drew)); exact Kd.V_mono (Kd.V_far (p := ⟨gb243, 4, none⟩) (Kd.V_mono HL242_4.out (fun k_ hk => (⟨hk, hk.2⟩ : _ ∧ k_ ≠ gb243))) (fun _ hk => hk.2) (.slice A242_4 y244.length c242_4)) (fun _ hk => ⟨hk.1.1, hk.1.2⟩)⟩
                                    have n2_ : Aside0 (Kd.V k30 30 (w49.setCell ⟨gb243, 4, none⟩ (.slice A242_4 y244.length c242_4)) w.heap.size (fun k_ => some k_ ≠ (.slice (some ad242) t231.length co21 : Value).ownBlock ∧ k_ ≠ gb243) (.slice A242_4 y244.length c242_4) y244) := ⟨by (with_reducible repeat (first | apply Kd.V_alloc | apply Kd.V_drewN | apply Kd.V_drew)); exact Kd.V_mono (Kd.V_far (p := ⟨gb243, 4, none⟩) (Kd.V_mono HO248.out (fun k_ hk => (⟨hk, hk.2⟩ : _ ∧ k_ ≠ gb243))) (fun _ hk => hk.2) (.slice A242_4 y244.length c242_4)) (fun _ hk => ⟨hk.1.1, hk.1.2⟩)⟩
                                    have n3_ : Aside0 ((w49.setCell ⟨gb243, 4, none⟩ (.slice A242_4 y244.length c242_4)).heap[gb243]? = some (.cells #[.int .i64 ((rd_T37 t231 (ji28)).f0), .int .i64 ((rd_T37 t231 (ji28)).f1), .string ((rd_T37 t231 (ji28)).f2), .string ((rd_T37 t231 (ji28)).f3), .slice A242_4 y244.length c242_4] 37 (0, 0))) := ⟨by (with_reducible repeat (first | refine blk_drewN ?_ _ | refine blk_drew ?_ | refine blk_alloc ?_ _)); refine blk_put (cs := #[.int .i64 ((rd_T37 t231 (ji28)).f0), .int .i64 ((rd_T37 t231 (ji28)).f1), .string ((rd_T37 t231 (ji28)).f2), .string ((rd_T37 t231 (ji28)).f3), .slice A242_4 ((rd_T37 t231 (ji28)).f4).length c242_4]) ?_ 4 _ rfl; (with_reducible repeat (first | refine blk_drewN ?_ _ | refine blk_drew ?_ | refine blk_alloc ?_ _)); exact BK243.out⟩
                                    have n4_ : Aside0 (Below w.heap.size w (w49.setCell ⟨gb243, 4, none⟩ (.slice A242_4 y244.length c242_4))) := ⟨by repeat (first | (with_reducible first | exact HB.out | apply below_alloc | apply pw_below_drewN | apply below_drew1 | refine below_set ?_ GE243.out) | exact HB.out)⟩
                                    (try clear HO_0)
                                    (try clear HL242_4)
                                    (try clear HO248)
                                    (try clear BK243)
                                    (try clear HB)
                                    generalize (w49.setCell ⟨gb243, 4, none⟩ (.slice A242_4 y244.length c242_4)) = w52 at n0_ n1_ n2_ n3_ n4_ ⊢
                                    have HO_0 := n0_
                                    have HL242_4 := n1_
                                    have HO248 := n2_
                                    have BK243 := n3_
                                    have HB := n4_
                                    clear n0_ n1_ n2_ n3_ n4_
                                    have q53 : ((ji28) : Int) ≤ ((t231.length : Int) : Int) := of_decide_eq_true (by first | (with_reducible assumption) | assumption)
                                    obtain ⟨i053, hi053, _, hsz53, _⟩ := info_parts info37
                                    have hroom53 : t231.length ≤ co21 := (Kd.N_reads' HO_0.out).2.1
                                    have hC53 : Kd.F k37 _ _ (some ad242) t231.length t231 := (Kd.V_at (base := w.heap.size) (Kd.N_V HO_0.out)).2.2
                                    have hcut53 := cut_to (P := Try.prog) 32 37 .i64 Try.underlying32 hi053 (some ad242) t231.length co21 (ji28) (of_decide_eq_true (by first | (with_reducible assumption) | assumption)) q53 hroom53
                                    have hr53 := Kd.F_take (m := ((ji28) : Int).toNat) hC53 (by omega)
                                    have hy53 : y249.length = ((ji28) : Int).toNat := (by rw [Ny249.out, List.length_take]; omega)
                                    rw [← Ny249.out] at hr53
                                    rw [← hy53] at hcut53
                                    have HO253 := Aside0.mk (show Kd.V k37 37 _ w.heap.size _ (.slice (some ad242) y249.length co21) y249 from Kd.V_mk (by omega) hr53)
                                    have HC253 := Aside0.mk (show y249.length ≤ co21 from by omega)
                                    clear hr53 hC53 hroom53 hi053 hsz53
                                    have KY53 := Aside0.mk hy53
                                    clear hy53
                                    replace q53 := eq_true q53
                                    try go_wp2_with (first | ((with_reducible refine gate_callee (f := 22) rfl ?_); refine goesL_ (some 63) rfl rfl Try.func22 (by kernel_rfl) rfl #[.slice (some ad242) y249.length co21] rfl (by (try simp only [List.map_toArray, List.map_cons, List.map_nil]); first | done | rfl | (simp only [List.length_drop, List.length_take]; rfl)) ?_; (with_reducible refine (risk_Safe.calls kj19 _ _ y249 true _ ?side1 ?side2 A37.out).mono ?_); (case side1 => repeat (first | exact (Kd.V_reads' HO253.out).2.2 | (with_reducible refine Kd.C_alloc ?_ _) | (with_reducible refine Kd.C_drewN ?_ _) | (with_reducible refine Kd.C_drew ?_))); (case side2 => exact (Kd.V_reads' HO253.out).2.1); rintro e w54 ⟨rfl, hb⟩; refine ⟨_, rfl, ?_⟩; have n0_ := Aside0.mk (Kd.N_below (by (with_reducible repeat (first | apply Kd.N_alloc | apply Kd.N_drewN | apply Kd.N_drew)); exact HO_0.out) hb); have n1_ := Aside0.mk (Kd.V_below (by (with_reducible repeat (first | apply Kd.V_alloc | apply Kd.V_drewN | apply Kd.V_drew)); exact HL242_4.out) hb); have n2_ := Aside0.mk (Kd.V_below (by (with_reducible repeat (first | apply Kd.V_alloc | apply Kd.V_drewN | apply Kd.V_drew)); exact HO248.out) hb); have n3_ := Aside0.mk (Kd.V_below (by (with_reducible repeat (first | apply Kd.V_alloc | apply Kd.V_drewN | apply Kd.V_drew)); exact HO253.out) hb); have n4_ := Aside0.mk (blk_below (g := gb243) (o := .cells #[.int .i64 ((rd_T37 t231 (ji28)).f0), .int .i64 ((rd_T37 t231 (ji28)).f1), .string ((rd_T37 t231 (ji28)).f2), .string ((rd_T37 t231 (ji28)).f3), .slice A242_4 y244.length c242_4] 37 (0, 0)) (by (with_reducible repeat (first | refine blk_drewN ?_ _ | refine blk_drew ?_ | refine blk_alloc ?_ _)); exact BK243.out) hb); have n5_ := Aside0.mk (below_step (by repeat (first | (with_reducible first | exact HB.out | apply below_alloc | apply pw_below_drewN | apply below_drew1 | refine below_set ?_ GE243.out) | exact HB.out)) hb); clear HO_0; clear HL242_4; clear HO248; clear HO253; clear BK243; clear HB; have HO_0 := n0_; have HL242_4 := n1_; have HO248 := n2_; have HO253 := n3_; have BK243 := n4_; have HB := n5_; clear n0_ n1_ n2_ n3_ n4_ n5_; (try clear hb); (try clear hb2); (try clear hk); (try clear hi); have q55 : ((ji28) : Int) ≤ ((t231.length : Int) : Int) := of_decide_eq_true (by first | (with_reducible assumption) | assumption); obtain ⟨i055, hi055, _, hsz55, _⟩ := info_parts info37; have hroom55 : t231.length ≤ co21 := (Kd.N_reads' HO_0.out).2.1; have hC55 : Kd.F k37 _ _ (some ad242) t231.length t231 := (Kd.V_at (base := w.heap.size) (Kd.N_V HO_0.out)).2.2; have q055 : (0 : Int) ≤ ((ji28) : Int) := of_decide_eq_true (by first | (with_reducible assumption) | assumption); have hcut55 := cut_from (P := Try.prog) 32 37 .i64 Try.underlying32 hi055 5 hsz55 (some ad242) t231.length co21 (ji28) q055 q55; have hr55 := Kd.F_cut (m := ((ji28) : Int).toNat) (c := co21) hC55 (by omega) hroom55; obtain ⟨A55, hA55⟩ : ∃ A1, A1 = (if co21 = ((ji28) : Int).toNat then (some ad242) else ((some ad242) : Option Addr).map (·.add (((ji28) : Int).toNat * 5))) := ⟨_, rfl⟩; obtain ⟨c55, hc55⟩ : ∃ c1, c1 = co21 - ((ji28) : Int).toNat := ⟨_, rfl⟩; have hy55 : y255.length = t231.length - ((ji28) : Int).toNat := (by rw [Ny255.out, List.length_drop] <;> omega); rw [show (t231).drop ((ji28) : Int).toNat = y255 from Ny255.out.symm] at hr55; replace hr55 : Kd.F k37 _ _ A55 y255.length y255 := (by rw [hA55]; exact hr55); rw [← hy55, ← hA55, ← hc55] at hcut55; have HO259 := Aside0.mk (show Kd.V k37 37 _ w.heap.size _ (.slice A55 y255.length c55) y255 from Kd.V_mk (by rw [hy55, hc55]; exact Nat.sub_le_sub_right hroom55 _) hr55); have HC259 := Aside0.mk (show y255.length ≤ c55 from by rw [hy55, hc55]; exact Nat.sub_le_sub_right hroom55 _); clear hr55 hC55 hroom55 hi055 hsz55 hc55; have KY55 := Aside0.mk hy55; have KA55 := Aside0.mk hA55; clear hy55 hA55; replace q55 := eq_true q55) | (go_at_call 22; (with_reducible refine (risk_Safe.calls kj19 _ _ y255 true _ ?side1 ?side2 A41.out).mono ?_); (case side1 => repeat (first | exact (Kd.V_reads' HO259.out).2.2 | (with_reducible refine Kd.C_alloc ?_ _) | (with_reducible refine Kd.C_drewN ?_ _) | (with_reducible refine Kd.C_drew ?_))); (case side2 => exact (Kd.V_reads' HO259.out).2.1); rintro e w56 ⟨rfl, hb⟩; have n0_ := Aside0.mk (Kd.N_below (by (with_reducible repeat (first | apply Kd.N_alloc | apply Kd.N_drewN | apply Kd.N_drew)); exact HO_0.out) hb); have n1_ := Aside0.mk (Kd.V_below (by (with_reducible repeat (first | apply Kd.V_alloc | apply Kd.V_drewN | apply Kd.V_drew)); exact HL242_4.out) hb); have n2_ := Aside0.mk (Kd.V_below (by (with_reducible repeat (first | apply Kd.V_alloc | apply Kd.V_drewN | apply Kd.V_drew)); exact HO248.out) hb); have n3_ := Aside0.mk (Kd.V_below (by (with_reducible repeat (first | apply Kd.V_alloc | apply Kd.V_drewN | apply Kd.V_drew)); exact HO253.out) hb); have n4_ := Aside0.mk (Kd.V_below (by (with_reducible repeat (first | apply Kd.V_alloc | apply Kd.V_drewN | apply Kd.V_drew)); exact HO259.out) hb); have n5_ := Aside0.mk (blk_below (g := gb243) (o := .cells #[.int .i64 ((rd_T37 t231 (ji28)).f0), .int .i64 ((rd_T37 t231 (ji28)).f1), .string ((rd_T37 t231 (ji28)).f2), .string ((rd_T37 t231 (ji28)).f3), .slice A242_4 y244.length c242_4] 37 (0, 0)) (by (with_reducible repeat (first | refine blk_drewN ?_ _ | refine blk_drew ?_ | refine blk_alloc ?_ _)); exact BK243.out) hb); have n6_ := Aside0.mk (below_step (by repeat (first | (with_reducible first | exact HB.out | apply below_alloc | apply pw_below_drewN | apply below_drew1 | refine below_set ?_ GE243.out) | exact HB.out)) hb); clear HO_0; clear HL242_4; clear HO248; clear HO253; clear HO259; clear BK243; clear HB; have HO_0 := n0_; have HL242_4 := n1_; have HO248 := n2_; have HO253 := n3_; have HO259 := n4_; have BK243 := n5_; have HB := n6_; clear n0_ n1_ n2_ n3_ n4_ n5_ n6_; (try clear hb); (try clear hb2); (try clear hk); (try clear hi); have hcz57_0 : w56.cell? ⟨gb243, 0, none⟩ = some (.int .i64 ((rd_T37 t231 (ji28)).f0)) := (blk_cell BK243.out 0).trans rfl; have hcz57_1 : w56.cell? ⟨gb243, 1, none⟩ = some (.int .i64 ((rd_T37 t231 (ji28)).f1)) := (blk_cell BK243.out 1).trans rfl; have hcz57_2 : w56.cell? ⟨gb243, 2, none⟩ = some (.string ((rd_T37 t231 (ji28)).f2)) := (blk_cell BK243.out 2).trans rfl; have hcz57_3 : w56.cell? ⟨gb243, 3, none⟩ = some (.string ((rd_T37 t231 (ji28)).f3)) := (blk_cell BK243.out 3).trans rfl; have hcz57_4 : w56.cell? ⟨gb243, 4, none⟩ = some (.slice A242_4 y244.length c242_4) := (blk_cell BK243.out 4).trans rfl; have hfz57_0 := blk_frozen BK243.out 0; have hfz57_1 := blk_frozen BK243.out 1; have hfz57_2 := blk_frozen BK243.out 2; have hfz57_3 := blk_frozen BK243.out 3; have hfz57_4 := blk_frozen BK243.out 4) | ((with_reducible refine gate_dst (N := 72) rfl ?_); (try (refine gate_guard (by rfl) ?_; dsimp only)); refine Kd.N_lit k37 _ 37 ?hg (N' := 72) ?hd (xs := ([(⟨(rd_T37 t231 (ji28)).f0, (rd_T37 t231 (ji28)).f1, (rd_T37 t231 (ji28)).f2, (rd_T37 t231 (ji28)).f3, y244⟩ : S37)] : List (S37))) (inner := [.int .i64 ((rd_T37 t231 (ji28)).f0), .int .i64 ((rd_T37 t231 (ji28)).f1), .string ((rd_T37 t231 (ji28)).f2), .string ((rd_T37 t231 (ji28)).f3), .slice A242_4 y244.length c242_4]) (ok := (fun k_ => some k_ ≠ (.slice (some ad242) t231.length co21 : Value).ownBlock ∧ k_ ≠ gb243)) (okp := (fun k_ => some k_ ≠ (.slice (some ad242) t231.length co21 : Value).ownBlock ∧ k_ ≠ gb243)) ?hr ?hp (fun _ hk => hk) ((show ∀ k_, w56.heap.size ≤ k_ → (fun k_ => some k_ ≠ (.slice (some ad242) t231.length co21 : Value).ownBlock ∧ k_ ≠ gb243) k_ from fun k_ hk => ⟨Kd.fresh' (Kd.N_lt (by (with_reducible repeat (first | apply Kd.N_alloc | apply Kd.N_drewN | apply Kd.N_drew)); exact HO_0.out)) k_ hk, Kd.freshB (g := gb243) (o := .cells #[.int .i64 ((rd_T37 t231 (ji28)).f0), .int .i64 ((rd_T37 t231 (ji28)).f1), .string ((rd_T37 t231 (ji28)).f2), .string ((rd_T37 t231 (ji28)).f3), .slice A242_4 y244.length c242_4] 37 (0, 0)) (by (with_reducible repeat (first | refine blk_drewN ?_ _ | refine blk_drew ?_ | refine blk_alloc ?_ _)); exact BK243.out) k_ hk⟩) _ (Nat.le_refl _)) (Below.refl _ _) (Nat.le_refl _) (by simp) ?_; (case hd => rfl); (case hg => rfl); (case hr => first | (go_simp; done) | (go_simp; rfl)); (case hp => exact (Reps.c5 (show Kd.FK k37 _ _ (⟨(rd_T37 t231 (ji28)).f0, (rd_T37 t231 (ji28)).f1, (rd_T37 t231 (ji28)).f2, (rd_T37 t231 (ji28)).f3, y244⟩ : S37) [.int .i64 ((rd_T37 t231 (ji28)).f0), .int .i64 ((rd_T37 t231 (ji28)).f1), .string ((rd_T37 t231 (ji28)).f2), .string ((rd_T37 t231 (ji28)).f3), .slice A242_4 y244.length c242_4] from (k37_mkF _ _ (⟨(rd_T37 t231 (ji28)).f0, (rd_T37 t231 (ji28)).f1, (rd_T37 t231 (ji28)).f2, (rd_T37 t231 (ji28)).f3, y244⟩ : S37) (Kd.V_reads' (Kd.V_mono (ok' := (fun k_ => some k_ ≠ (.slice (some ad242) t231.length co21 : Value).ownBlock ∧ k_ ≠ gb243)) (HO248.out) (fun k_ hk => ⟨hk.1, hk.2⟩))).2.1 (Kd.V_F (Kd.V_mono (ok' := (fun k_ => some k_ ≠ (.slice (some ad242) t231.length co21 : Value).ownBlock ∧ k_ ≠ gb243)) (HO248.out) (fun k_ hk => ⟨hk.1, hk.2⟩))))) (Reps.none _ _))); intro v262 w58 ho59 hb hg_ hnew_; clear hg_ hnew_; (first | rw [← Ny261.out] at ho59 | (simp only [Int.reduceToNat] at ho59; rw [← Ny261.out] at ho59)); have n0_ := Aside0.mk (Kd.N_elder' (by (with_reducible repeat (first | apply Kd.N_alloc | apply Kd.N_drewN | apply Kd.N_drew)); exact HO_0.out) (Kd.N_base ho59) hb); have n1_ := Aside0.mk (Kd.V_elder' (by (with_reducible repeat (first | apply Kd.V_alloc | apply Kd.V_drewN | apply Kd.V_drew)); exact HL242_4.out) (Kd.N_base ho59) hb); have n2_ := Aside0.mk (Kd.V_elder' (by (with_reducible repeat (first | apply Kd.V_alloc | apply Kd.V_drewN | apply Kd.V_drew)); exact HO248.out) (Kd.N_base ho59) hb); have n3_ := Aside0.mk (Kd.V_elder' (by (with_reducible repeat (first | apply Kd.V_alloc | apply Kd.V_drewN | apply Kd.V_drew)); exact HO253.out) (Kd.N_base ho59) hb); have n4_ := Aside0.mk (Kd.V_elder' (by (with_reducible repeat (first | apply Kd.V_alloc | apply Kd.V_drewN | apply Kd.V_drew)); exact HO259.out) (Kd.N_base ho59) hb); have n5_ := Aside0.mk (Kd.N_lower ho59 (below_size (by repeat (first | (with_reducible first | exact HB.out | apply below_alloc | apply pw_below_drewN | apply below_drew1 | refine below_set ?_ GE243.out) | exact HB.out)))); have n6_ := Aside0.mk (blk_below (g := gb243) (o := .cells #[.int .i64 ((rd_T37 t231 (ji28)).f0), .int .i64 ((rd_T37 t231 (ji28)).f1), .string ((rd_T37 t231 (ji28)).f2), .string ((rd_T37 t231 (ji28)).f3), .slice A242_4 y244.length c242_4] 37 (0, 0)) (by (with_reducible repeat (first | refine blk_drewN ?_ _ | refine blk_drew ?_ | refine blk_alloc ?_ _)); exact BK243.out) hb); have n7_ := Aside0.mk (below_step (by repeat (first | (with_reducible first | exact HB.out | apply below_alloc | apply pw_below_drewN | apply below_drew1 | refine below_set ?_ GE243.out) | exact HB.out)) hb); clear HO_0; clear HL242_4; clear HO248; clear HO253; clear HO259; clear BK243; clear HB; have HO_0 := n0_; have HL242_4 := n1_; have HO248 := n2_; have HO253 := n3_; have HO259 := n4_; have HO263 := n5_; have BK243 := n6_; have HB := n7_; clear n0_ n1_ n2_ n3_ n4_ n5_ n6_ n7_; clear hb ho59; obtain ⟨Ao60, co60, eo60⟩ := Kd.N_slice HO263.out; subst eo60) | (go_at_call 22; (with_reducible refine (risk_Safe.calls kj19 _ _ y261 true _ ?side1 ?side2 A43.out).mono ?_); (case side1 => repeat (first | exact (Kd.N_reads' HO263.out).2.2 | (with_reducible refine Kd.C_alloc ?_ _) | (with_reducible refine Kd.C_drewN ?_ _) | (with_reducible refine Kd.C_drew ?_))); (case side2 => exact (Kd.N_reads' HO263.out).2.1); rintro e w61 ⟨rfl, hb⟩; have n0_ := Aside0.mk (Kd.N_below (by (with_reducible repeat (first | apply Kd.N_alloc | apply Kd.N_drewN | apply Kd.N_drew)); exact HO_0.out) hb); have n1_ := Aside0.mk (Kd.V_below (by (with_reducible repeat (first | apply Kd.V_alloc | apply Kd.V_drewN | apply Kd.V_drew)); exact HL242_4.out) hb); have n2_ := Aside0.mk (Kd.V_below (by (with_reducible repeat (first | apply Kd.V_alloc | apply Kd.V_drewN | apply Kd.V_drew)); exact HO248.out) hb); have n3_ := Aside0.mk (Kd.V_below (by (with_reducible repeat (first | apply Kd.V_alloc | apply Kd.V_drewN | apply Kd.V_drew)); exact HO253.out) hb); have n4_ := Aside0.mk (Kd.V_below (by (with_reducible repeat (first | apply Kd.V_alloc | apply Kd.V_drewN | apply Kd.V_drew)); exact HO259.out) hb); have n5_ := Aside0.mk (Kd.N_below (by (with_reducible repeat (first | apply Kd.N_alloc | apply Kd.N_drewN | apply Kd.N_drew)); exact HO263.out) hb); have n6_ := Aside0.mk (blk_below (g := gb243) (o := .cells #[.int .i64 ((rd_T37 t231 (ji28)).f0), .int .i64 ((rd_T37 t231 (ji28)).f1), .string ((rd_T37 t231 (ji28)).f2), .string ((rd_T37 t231 (ji28)).f3), .slice A242_4 y244.length c242_4] 37 (0, 0)) (by (with_reducible repeat (first | refine blk_drewN ?_ _ | refine blk_drew ?_ | refine blk_alloc ?_ _)); exact BK243.out) hb); have n7_ := Aside0.mk (below_step (by repeat (first | (with_reducible first | exact HB.out | apply below_alloc | apply pw_below_drewN | apply below_drew1 | refine below_set ?_ GE243.out) | exact HB.out)) hb); clear HO_0; clear HL242_4; clear HO248; clear HO253; clear HO259; clear HO263; clear BK243; clear HB; have HO_0 := n0_; have HL242_4 := n1_; have HO248 := n2_; have HO253 := n3_; have HO259 := n4_; have HO263 := n5_; have BK243 := n6_; have HB := n7_; clear n0_ n1_ n2_ n3_ n4_ n5_ n6_ n7_; (try clear hb); (try clear hb2); (try clear hk); (try clear hi)) | (go_at_call 9; (with_reducible refine (boltinglaw10_fixed.calls kj19  t265 _ A45.out).mono ?_); rintro e w62 ⟨rfl, hb⟩; have n0_ := Aside0.mk (Kd.N_below (by (with_reducible repeat (first | apply Kd.N_alloc | apply Kd.N_drewN | apply Kd.N_drew)); exact HO_0.out) hb); have n1_ := Aside0.mk (Kd.V_below (by (with_reducible repeat (first | apply Kd.V_alloc | apply Kd.V_drewN | apply Kd.V_drew)); exact HL242_4.out) hb); have n2_ := Aside0.mk (Kd.V_below (by (with_reducible repeat (first | apply Kd.V_alloc | apply Kd.V_drewN | apply Kd.V_drew)); exact HO248.out) hb); have n3_ := Aside0.mk (Kd.V_below (by (with_reducible repeat (first | apply Kd.V_alloc | apply Kd.V_drewN | apply Kd.V_drew)); exact HO253.out) hb); have n4_ := Aside0.mk (Kd.V_below (by (with_reducible repeat (first | apply Kd.V_alloc | apply Kd.V_drewN | apply Kd.V_drew)); exact HO259.out) hb); have n5_ := Aside0.mk (Kd.N_below (by (with_reducible repeat (first | apply Kd.N_alloc | apply Kd.N_drewN | apply Kd.N_drew)); exact HO263.out) hb); have n6_ := Aside0.mk (blk_below (g := gb243) (o := .cells #[.int .i64 ((rd_T37 t231 (ji28)).f0), .int .i64 ((rd_T37 t231 (ji28)).f1), .string ((rd_T37 t231 (ji28)).f2), .string ((rd_T37 t231 (ji28)).f3), .slice A242_4 y244.length c242_4] 37 (0, 0)) (by (with_reducible repeat (first | refine blk_drewN ?_ _ | refine blk_drew ?_ | refine blk_alloc ?_ _)); exact BK243.out) hb); have n7_ := Aside0.mk (below_step (by repeat (first | (with_reducible first | exact HB.out | apply below_alloc | apply pw_below_drewN | apply below_drew1 | refine below_set ?_ GE243.out) | exact HB.out)) hb); clear HO_0; clear HL242_4; clear HO248; clear HO253; clear HO259; clear HO263; clear BK243; clear HB; have HO_0 := n0_; have HL242_4 := n1_; have HO248 := n2_; have HO253 := n3_; have HO259 := n4_; have HO263 := n5_; have BK243 := n6_; have HB := n7_; clear n0_ n1_ n2_ n3_ n4_ n5_ n6_ n7_; (try clear hb); (try clear hb2); (try clear hk); (try clear hi)))
                                    go_ret
                                    exact ⟨by first | rfl | (simp [errW_none, errW_some] <;> rfl) | (simp only [← hji28, ← hji32]; first | rfl | (simp [errW_none, errW_some] <;> rfl)) | (simp [*, errW_none, errW_some] <;> rfl), by repeat (first | (with_reducible first | exact HB.out | apply below_alloc | apply pw_below_drewN | apply below_drew1 | refine below_set ?_ GE243.out) | exact HB.out)⟩
                                  · replace c44 := Bool.eq_false_iff.mpr c44
                                    subst c44
                                    have H1 : (some false) = some r := by rw [if_neg (show ¬ (false = true) by decide)] at H; exact H
                                    clear H
                                    have H := H1
                                    clear H1
                                    obtain rfl := Option.some.inj H
                                    have p242 : 0 ≤ ((ji28) : Int) := of_decide_eq_true (by first | (with_reducible assumption) | assumption)
                                    have q242 : (ji28) < (t231.length : Int) := of_decide_eq_true (by first | (with_reducible assumption) | assumption)
                                    obtain ⟨ad242, A242_4, c242_4, e242, hx242_0, hx242_1, hx242_2, hx242_3, hx242_4, hl242_4, hi242_4⟩ := at_T37 (Kd.N_reads' HO_0.out).2.2 (ji28) p242 q242
                                    cases e242
                                    obtain ⟨ce242, hce242, hMe242, hcc242⟩ := Kd.N_get HO_0.out z37 (ji28) p242 (by first | exact q242 | exact of_decide_eq_true (by first | (with_reducible assumption) | assumption) | (have e_ := (Kd.N_reads' HO_0.out).1; omega))
                                    obtain ⟨ua242_4, uc242_4, rfl, ul242_4, ge242_4⟩ := k37_openF hMe242
                                    have hv242_4 := hcc242 4 _ rfl
                                    rw [add_field _ _ 4 (by omega)] at hv242_4
                                    replace hv242_4 := Option.some.inj (hv242_4.symm.trans hx242_4)
                                    injection hv242_4 with hva_ hvn_ hvc_
                                    rw [hva_] at ge242_4
                                    rw [hvc_] at ul242_4
                                    have HL242_4 := Aside0.mk (show Kd.V k30 30 _ w.heap.size _ _ ((rd_T37 t231 (ji28)).f4) from Kd.V_mk ul242_4 ge242_4)
                                    clear hva_ hvn_ hvc_ ge242_4 ul242_4
                                    clear hcc242 hce242
                                    have HR242_4 := Aside0.mk hi242_4
                                    have HC242_4 := Aside0.mk hl242_4
                                    clear hi242_4 hl242_4
                                    replace p242 := eq_true p242
                                    replace q242 := eq_true q242
                                    try go_wp2_with (first | ((with_reducible refine gate_dst (N := 10) rfl ?_); (try (refine gate_guard (by rfl) ?_; dsimp only)); refine box_event ?hg (N := 10) ?hd (cs := #[.int .i64 0, .int .i64 0, .string (⟨#[]⟩ : ByteArray), .string (⟨#[]⟩ : ByteArray), .slice none 0 0]) (t := 37) ?hr ?_; (case hd => rfl); (case hg => rfl); (case hr => first | (go_simp; done) | (go_simp; rfl)); intro gb243 hg w63 hbox hb; have n0_ := Aside0.mk (Kd.N_below (Kd.N_elderB (by (with_reducible repeat (first | apply Kd.N_alloc | apply Kd.N_drewN | apply Kd.N_drew)); exact HO_0.out) gb243 (Nat.le_of_eq hg.symm)) hb); have n1_ := Aside0.mk (Kd.V_below (Kd.V_elderB (by (with_reducible repeat (first | apply Kd.V_alloc | apply Kd.V_drewN | apply Kd.V_drew)); exact HL242_4.out) gb243 (Nat.le_of_eq hg.symm)) hb); have n2_ := Aside0.mk (Kd.C_below (by repeat (first | (with_reducible exact HR242_4.out) | (with_reducible refine Kd.C_alloc ?_ _) | (with_reducible refine Kd.C_drewN ?_ _) | (with_reducible refine Kd.C_drew ?_) | exact HR242_4.out)) hb); have n3_ := Aside0.mk (below_step (by repeat (first | (with_reducible first | exact HB.out | apply below_alloc | apply pw_below_drewN | apply below_drew1) | exact HB.out)) hb); have n4_ := Aside0.mk (hbox); have n5_ := Aside0.mk ((by rw [hg]; exact (below_size (by repeat (first | (with_reducible first | exact HB.out | apply below_alloc | apply pw_below_drewN | apply below_drew1) | exact HB.out))) : w.heap.size ≤ gb243)); have n6_ := Aside0.mk ((by rw [hg]; exact (below_size (by repeat (first | (with_reducible first | exact HB.out | apply below_alloc | apply pw_below_drewN | apply below_drew1) | exact HB.out))) : w.heap.size ≤ gb243)); clear HO_0; clear HL242_4; clear HR242_4; clear HB; have HO_0 := n0_; have HL242_4 := n1_; have HR242_4 := n2_; have HB := n3_; have BK243 := n4_; have GW243 := n5_; have GE243 := n6_; clear n0_ n1_ n2_ n3_ n4_ n5_ n6_; clear hb hbox hg; have hcz64_0 : w63.cell? ⟨gb243, 0, none⟩ = some (.int .i64 0) := (blk_cell BK243.out 0).trans rfl; have hcz64_1 : w63.cell? ⟨gb243, 1, none⟩ = some (.int .i64 0) := (blk_cell BK243.out 1).trans rfl; have hcz64_2 : w63.cell? ⟨gb243, 2, none⟩ = some (.string (⟨#[]⟩ : ByteArray)) := (blk_cell BK243.out 2).trans rfl; have hcz64_3 : w63.cell? ⟨gb243, 3, none⟩ = some (.string (⟨#[]⟩ : ByteArray)) := (blk_cell BK243.out 3).trans rfl; have hcz64_4 : w63.cell? ⟨gb243, 4, none⟩ = some (.slice none 0 0) := (blk_cell BK243.out 4).trans rfl; have hfz64_0 := blk_frozen BK243.out 0; have hfz64_1 := blk_frozen BK243.out 1; have hfz64_2 := blk_frozen BK243.out 2; have hfz64_3 := blk_frozen BK243.out 3; have hfz64_4 := blk_frozen BK243.out 4))
                                    have n0_ : Aside0 (Kd.N k37 37 (((((w63.setCell ⟨gb243, 0, none⟩ (.int .i64 ((rd_T37 t231 (ji28)).f0))).setCell ⟨gb243, 1, none⟩ (.int .i64 ((rd_T37 t231 (ji28)).f1))).setCell ⟨gb243, 2, none⟩ (.string ((rd_T37 t231 (ji28)).f2))).setCell ⟨gb243, 3, none⟩ (.string ((rd_T37 t231 (ji28)).f3))).setCell ⟨gb243, 4, none⟩ (.slice A242_4 ((rd_T37 t231 (ji28)).f4).length c242_4)) w.heap.size (fun k_ => k_ ≠ gb243) (.slice (some ad242) t231.length co21) t231) := ⟨by (with_reducible repeat (first | apply Kd.N_alloc | apply Kd.N_drewN | apply Kd.N_drew)); exact Kd.N_mono (Kd.N_far (p := ⟨gb243, 4, none⟩) (Kd.N_far (p := ⟨gb243, 3, none⟩) (Kd.N_far (p := ⟨gb243, 2, none⟩) (Kd.N_far (p := ⟨gb243, 1, none⟩) (Kd.N_far (p := ⟨gb243, 0, none⟩) (Kd.N_mono HO_0.out (fun k_ hk => (⟨hk, hk.2⟩ : _ ∧ k_ ≠ gb243))) (fun _ hk => hk.2) (.int .i64 ((rd_T37 t231 (ji28)).f0))) (fun _ hk => hk.2) (.int .i64 ((rd_T37 t231 (ji28)).f1))) (fun _ hk => hk.2) (.string ((rd_T37 t231 (ji28)).f2))) (fun _ hk => hk.2) (.string ((rd_T37 t231 (ji28)).f3))) (fun _ hk => hk.2) (.slice A242_4 ((rd_T37 t231 (ji28)).f4).length c242_4)) (fun _ hk => hk.1.2)⟩
                                    have n1_ : Aside0 (Kd.V k30 30 (((((w63.setCell ⟨gb243, 0, none⟩ (.int .i64 ((rd_T37 t231 (ji28)).f0))).setCell ⟨gb243, 1, none⟩ (.int .i64 ((rd_T37 t231 (ji28)).f1))).setCell ⟨gb243, 2, none⟩ (.string ((rd_T37 t231 (ji28)).f2))).setCell ⟨gb243, 3, none⟩ (.string ((rd_T37 t231 (ji28)).f3))).setCell ⟨gb243, 4, none⟩ (.slice A242_4 ((rd_T37 t231 (ji28)).f4).length c242_4)) w.heap.size (fun k_ => some k_ ≠ (.slice (some ad242) t231.length co21 : Value).ownBlock ∧ k_ ≠ gb243) (.slice A242_4 ((rd_T37 t231 (ji28)).f4).length c242_4) ((rd_T37 t231 (ji28)).f4)) := ⟨by (with_reducible repeat (first | apply Kd.V_alloc | apply Kd.V_drewN | apply Kd.V_drew)); exact Kd.V_mono (Kd.V_far (p := ⟨gb243, 4, none⟩) (Kd.V_far (p := ⟨gb243, 3, none⟩) (Kd.V_far (p := ⟨gb243, 2, none⟩) (Kd.V_far (p := ⟨gb243, 1, none⟩) (Kd.V_far (p := ⟨gb243, 0, none⟩) (Kd.V_mono HL242_4.out (fun k_ hk => (⟨hk, hk.2⟩ : _ ∧ k_ ≠ gb243))) (fun _ hk => hk.2) (.int .i64 ((rd_T37 t231 (ji28)).f0))) (fun _ hk => hk.2) (.int .i64 ((rd_T37 t231 (ji28)).f1))) (fun _ hk => hk.2) (.string ((rd_T37 t231 (ji28)).f2))) (fun _ hk => hk.2) (.string ((rd_T37 t231 (ji28)).f3))) (fun _ hk => hk.2) (.slice A242_4 ((rd_T37 t231 (ji28)).f4).length c242_4)) (fun _ hk => ⟨hk.1.1.2, hk.1.2⟩)⟩
                                    have n2_ : Aside0 ((((((w63.setCell ⟨gb243, 0, none⟩ (.int .i64 ((rd_T37 t231 (ji28)).f0))).setCell ⟨gb243, 1, none⟩ (.int .i64 ((rd_T37 t231 (ji28)).f1))).setCell ⟨gb243, 2, none⟩ (.string ((rd_T37 t231 (ji28)).f2))).setCell ⟨gb243, 3, none⟩ (.string ((rd_T37 t231 (ji28)).f3))).setCell ⟨gb243, 4, none⟩ (.slice A242_4 ((rd_T37 t231 (ji28)).f4).length c242_4)).heap[gb243]? = some (.cells #[.int .i64 ((rd_T37 t231 (ji28)).f0), .int .i64 ((rd_T37 t231 (ji28)).f1), .string ((rd_T37 t231 (ji28)).f2), .string ((rd_T37 t231 (ji28)).f3), .slice A242_4 ((rd_T37 t231 (ji28)).f4).length c242_4] 37 (0, 0))) := ⟨by (with_reducible repeat (first | refine blk_drewN ?_ _ | refine blk_drew ?_ | refine blk_alloc ?_ _)); refine blk_put (cs := #[.int .i64 ((rd_T37 t231 (ji28)).f0), .int .i64 ((rd_T37 t231 (ji28)).f1), .string ((rd_T37 t231 (ji28)).f2), .string ((rd_T37 t231 (ji28)).f3), .slice none 0 0]) ?_ 4 _ rfl; (with_reducible repeat (first | refine blk_drewN ?_ _ | refine blk_drew ?_ | refine blk_alloc ?_ _)); refine blk_put (cs := #[.int .i64 ((rd_T37 t231 (ji28)).f0), .int .i64 ((rd_T37 t231 (ji28)).f1), .string ((rd_T37 t231 (ji28)).f2), .string (⟨#[]⟩ : ByteArray), .slice none 0 0]) ?_ 3 _ rfl; (with_reducible repeat (first | refine blk_drewN ?_ _ | refine blk_drew ?_ | refine blk_alloc ?_ _)); refine blk_put (cs := #[.int .i64 ((rd_T37 t231 (ji28)).f0), .int .i64 ((rd_T37 t231 (ji28)).f1), .string (⟨#[]⟩ : ByteArray), .string (⟨#[]⟩ : ByteArray), .slice none 0 0]) ?_ 2 _ rfl; (with_reducible repeat (first | refine blk_drewN ?_ _ | refine blk_drew ?_ | refine blk_alloc ?_ _)); refine blk_put (cs := #[.int .i64 ((rd_T37 t231 (ji28)).f0), .int .i64 0, .string (⟨#[]⟩ : ByteArray), .string (⟨#[]⟩ : ByteArray), .slice none 0 0]) ?_ 1 _ rfl; (with_reducible repeat (first | refine blk_drewN ?_ _ | refine blk_drew ?_ | refine blk_alloc ?_ _)); refine blk_put (cs := #[.int .i64 0, .int .i64 0, .string (⟨#[]⟩ : ByteArray), .string (⟨#[]⟩ : ByteArray), .slice none 0 0]) ?_ 0 _ rfl; (with_reducible repeat (first | refine blk_drewN ?_ _ | refine blk_drew ?_ | refine blk_alloc ?_ _)); exact BK243.out⟩
                                    have n3_ : Aside0 (Below w.heap.size w (((((w63.setCell ⟨gb243, 0, none⟩ (.int .i64 ((rd_T37 t231 (ji28)).f0))).setCell ⟨gb243, 1, none⟩ (.int .i64 ((rd_T37 t231 (ji28)).f1))).setCell ⟨gb243, 2, none⟩ (.string ((rd_T37 t231 (ji28)).f2))).setCell ⟨gb243, 3, none⟩ (.string ((rd_T37 t231 (ji28)).f3))).setCell ⟨gb243, 4, none⟩ (.slice A242_4 ((rd_T37 t231 (ji28)).f4).length c242_4))) := ⟨by repeat (first | (with_reducible first | exact HB.out | apply below_alloc | apply pw_below_drewN | apply below_drew1 | refine below_set ?_ GE243.out) | exact HB.out)⟩
                                    (try clear HO_0)
                                    (try clear HL242_4)
                                    (try clear BK243)
                                    (try clear HB)
                                    generalize (((((w63.setCell ⟨gb243, 0, none⟩ (.int .i64 ((rd_T37 t231 (ji28)).f0))).setCell ⟨gb243, 1, none⟩ (.int .i64 ((rd_T37 t231 (ji28)).f1))).setCell ⟨gb243, 2, none⟩ (.string ((rd_T37 t231 (ji28)).f2))).setCell ⟨gb243, 3, none⟩ (.string ((rd_T37 t231 (ji28)).f3))).setCell ⟨gb243, 4, none⟩ (.slice A242_4 ((rd_T37 t231 (ji28)).f4).length c242_4)) = w65 at n0_ n1_ n2_ n3_ ⊢
                                    have HO_0 := n0_
                                    have HL242_4 := n1_
                                    have BK243 := n2_
                                    have HB := n3_
                                    clear n0_ n1_ n2_ n3_
                                    have n0_ := Aside0.mk (Kd.N_drew HO_0.out)
                                    have n1_ := Aside0.mk (Kd.V_drew HL242_4.out)
                                    have n2_ := Aside0.mk (blk_drew BK243.out)
                                    have n3_ := Aside0.mk (below_drew1 HB.out)
                                    clear HO_0
                                    clear HL242_4
                                    clear BK243
                                    clear HB
                                    have HO_0 := n0_
                                    have HL242_4 := n1_
                                    have BK243 := n2_
                                    have HB := n3_
                                    clear n0_ n1_ n2_ n3_
                                    have q67 : ((ji32) : Int) ≤ ((((rd_T37 t231 (ji28)).f4).length : Int) : Int) := of_decide_eq_true (by first | (with_reducible assumption) | assumption)
                                    obtain ⟨i067, hi067, _, hsz67, _⟩ := info_parts info30
                                    have hroom67 : ((rd_T37 t231 (ji28)).f4).length ≤ c242_4 := HC242_4.out
                                    have hC67 : Kd.F k30 _ _ A242_4 ((rd_T37 t231 (ji28)).f4).length ((rd_T37 t231 (ji28)).f4) := (Kd.V_at (base := w.heap.size) HL242_4.out).2.2
                                    have hcut67 := cut_to (P := Try.prog) 35 30 .i64 Try.underlying35 hi067 A242_4 ((rd_T37 t231 (ji28)).f4).length c242_4 (ji32) (of_decide_eq_true (by first | (with_reducible assumption) | assumption)) q67 hroom67
                                    have hr67 := Kd.F_take (m := ((ji32) : Int).toNat) hC67 (by omega)
                                    have hy67 : y244.length = ((ji32) : Int).toNat := (by rw [Ny244.out, List.length_take]; omega)
                                    rw [← Ny244.out] at hr67
                                    rw [← hy67] at hcut67
                                    have HO248 := Aside0.mk (show Kd.V k30 30 _ w.heap.size _ (.slice A242_4 y244.length c242_4) y244 from Kd.V_mk (by omega) hr67)
                                    have HC248 := Aside0.mk (show y244.length ≤ c242_4 from by omega)
                                    clear hr67 hC67 hroom67 hi067 hsz67
                                    have KY67 := Aside0.mk hy67
                                    clear hy67
                                    replace q67 := eq_true q67
                                    refine start_ (n := 12) (S := fun w' => w'.cell? ⟨gb243, 0, none⟩ = some (.int .i64 ((rd_T37 t231 (ji28)).f0)) ∧ w'.cell? ⟨gb243, 1, none⟩ = some (.int .i64 ((rd_T37 t231 (ji28)).f1)) ∧ w'.cell? ⟨gb243, 2, none⟩ = some (.string ((rd_T37 t231 (ji28)).f2)) ∧ w'.cell? ⟨gb243, 3, none⟩ = some (.string ((rd_T37 t231 (ji28)).f3)) ∧ w'.cell? ⟨gb243, 4, none⟩ = some (.slice A242_4 ((rd_T37 t231 (ji28)).f4).length c242_4)) (ds := [11]) #[false, false, false, false, false, false, false, false, false, false, false, false] (by kernel_rfl) rfl rfl ⟨(blk_cell BK243.out 0).trans rfl, (blk_cell BK243.out 1).trans rfl, (blk_cell BK243.out 2).trans rfl, (blk_cell BK243.out 3).trans rfl, (blk_cell BK243.out 4).trans rfl⟩ (fun hHeld => ?_); refine with_tabW boltinglaw10_RiskParts.tab13 boltinglaw10_RiskParts.bits13 (fun HT_ HW_ => ?_)
                                    generalize w65.drew = w66 at HO_0 HL242_4 BK243 HB HO248 hHeld ⊢
                                    refine pure_ (i := 0) (N := some 49) (v := ?_) (a' := ?_) #[true, false, false, false, false, false, false, false, false, false, false, false] rfl rfl (any_of HT_.out (by kernel_rfl)) (fun _ _ _ h => h) (Or.inl ⟨by rfl, ?_⟩) ?_ ?_
                                    rotate_left
                                    · intro w'
                                      go_simp
                                      with_reducible rfl
                                    rotate_left
                                    · simp only [Act.put, List.setIfInBounds_toArray, List.set_cons_zero, List.set_cons_succ, i64_w, i32_w]
                                      rfl
                                    refine pure_ (i := 2) (N := some 51) (v := ?_) (a' := ?_) #[true, false, true, false, false, false, false, false, false, false, false, false] rfl rfl (any_of HT_.out (by kernel_rfl)) (fun _ _ _ h => h) (Or.inl ⟨by rfl, ?_⟩) ?_ ?_
                                    rotate_left
                                    · intro w'
                                      go_simp
                                      with_reducible rfl
                                    rotate_left
                                    · simp only [Act.put, List.setIfInBounds_toArray, List.set_cons_zero, List.set_cons_succ, i64_w, i32_w]
                                      rfl
                                    refine pure_ (i := 3) (N := some 52) (v := ?_) (a' := ?_) #[true, false, true, true, false, false, false, false, false, false, false, false] rfl rfl (any_of HT_.out (by kernel_rfl)) (fun _ _ _ h => h) (Or.inl ⟨by rfl, ?_⟩) ?_ ?_
                                    rotate_left
                                    · intro w'
                                      go_simp
                                      with_reducible rfl
                                    rotate_left
                                    · simp only [Act.put, List.setIfInBounds_toArray, List.set_cons_zero, List.set_cons_succ, i64_w, i32_w]
                                      rfl
                                    refine pure_ (i := 4) (N := some 53) (v := ?_) (a' := ?_) #[true, false, true, true, true, false, false, false, false, false, false, false] rfl rfl (any_of HT_.out (by kernel_rfl)) (fun _ _ _ h => h) (Or.inl ⟨by rfl, ?_⟩) ?_ ?_
                                    rotate_left
                                    · intro w'
                                      go_simp
                                      with_reducible rfl
                                    rotate_left
                                    · simp only [Act.put, List.setIfInBounds_toArray, List.set_cons_zero, List.set_cons_succ, i64_w, i32_w]
                                      rfl
                                    refine take_ (i := 1) (N := some 50) (v := ?_) (a' := ?_) #[true, true, true, true, true, false, false, false, false, false, false, false] rfl rfl (take_ofW HT_.out HW_.out (by kernel_rfl)) (fun _ _ _ h => h) (Or.inl ⟨by rfl, ?_⟩) hHeld ?_ ?_
                                    rotate_left
                                    · rintro w' ⟨s0, s1, s2, s3, s4⟩
                                      go_simp
                                      with_reducible rfl
                                    rotate_left
                                    · simp only [Act.put, List.setIfInBounds_toArray, List.set_cons_zero, List.set_cons_succ, i64_w, i32_w]
                                      rfl
                                    refine take_ (i := 5) (N := some 54) (v := ?_) (a' := ?_) #[true, true, true, true, true, true, false, false, false, false, false, false] rfl rfl (take_ofW HT_.out HW_.out (by kernel_rfl)) (fun _ _ _ h => h) (Or.inl ⟨by rfl, ?_⟩) hHeld ?_ ?_
                                    rotate_left
                                    · rintro w' ⟨s0, s1, s2, s3, s4⟩
                                      go_simp
                                      with_reducible rfl
                                    rotate_left
                                    · simp only [Act.put, List.setIfInBounds_toArray, List.set_cons_zero, List.set_cons_succ, i64_w, i32_w]
                                      rfl
                                    refine pure_ (i := 6) (N := some 55) (v := ?_) (a' := ?_) #[true, true, true, true, true, true, true, false, false, false, false, false] rfl rfl (any_of HT_.out (by kernel_rfl)) (fun _ _ _ h => h) (Or.inl ⟨by rfl, ?_⟩) ?_ ?_
                                    rotate_left
                                    · intro w'
                                      go_simp
                                      with_reducible rfl
                                    rotate_left
                                    · simp only [Act.put, List.setIfInBounds_toArray, List.set_cons_zero, List.set_cons_succ, i64_w, i32_w]
                                      rfl
                                    refine pure_ (i := 7) (N := some 56) (v := ?_) (a' := ?_) #[true, true, true, true, true, true, true, true, false, false, false, false] rfl rfl (any_of HT_.out (by kernel_rfl)) (fun _ _ _ h => h) (Or.inl ⟨by rfl, ?_⟩) ?_ ?_
                                    rotate_left
                                    · intro w'
                                      go_simp
                                      with_reducible rfl
                                    rotate_left
                                    · simp only [Act.put, List.setIfInBounds_toArray, List.set_cons_zero, List.set_cons_succ, i64_w, i32_w]
                                      rfl
                                    refine pure_ (i := 8) (N := some 57) (v := ?_) (a' := ?_) #[true, true, true, true, true, true, true, true, true, false, false, false] rfl rfl (any_of HT_.out (by kernel_rfl)) (fun _ _ _ h => h) (Or.inl ⟨by rfl, ?_⟩) ?_ ?_
                                    rotate_left
                                    · intro w'
                                      go_simp
                                      with_reducible rfl
                                    rotate_left
                                    · simp only [Act.put, List.setIfInBounds_toArray, List.set_cons_zero, List.set_cons_succ, i64_w, i32_w]
                                      rfl
                                    refine pure_ (i := 9) (N := some 58) (v := ?_) (a' := ?_) #[true, true, true, true, true, true, true, true, true, true, false, false] rfl rfl (any_of HT_.out (by kernel_rfl)) (fun _ _ _ h => h) (Or.inl ⟨by rfl, ?_⟩) ?_ ?_
                                    rotate_left
                                    · intro w'
                                      go_simp
                                      with_reducible rfl
                                    rotate_left
                                    · simp only [Act.put, List.setIfInBounds_toArray, List.set_cons_zero, List.set_cons_succ, i64_w, i32_w]
                                      rfl
                                    refine pure_ (i := 10) (N := some 59) (v := ?_) (a' := ?_) #[true, true, true, true, true, true, true, true, true, true, true, false] rfl rfl (any_of HT_.out (by kernel_rfl)) (fun _ _ _ h => h) (Or.inl ⟨by rfl, ?_⟩) ?_ ?_
                                    rotate_left
                                    · intro w'
                                      go_simp
                                      with_reducible rfl
                                    rotate_left
                                    · simp only [Act.put, List.setIfInBounds_toArray, List.set_cons_zero, List.set_cons_succ, i64_w, i32_w]
                                      rfl
                                    refine last_ (i := 11) (N := none) #[true, true, true, true, true, true, true, true, true, true, true, true] rfl rfl (one_of HT_.out (by kernel_rfl)) (by decide) (fun K hK => ?_)
                                    have hs68 : w66.cell? ⟨gb243, 4, none⟩ = some (.slice A242_4 ((rd_T37 t231 (ji28)).f4).length c242_4) := (blk_cell BK243.out 4).trans rfl
                                    have hfs68 := blk_frozen BK243.out 4
                                    refine skip_ (w1 := ?_) (by rfl) rfl ?_ ?_
                                    rotate_left
                                    · go_simp
                                      rfl
                                    refine hK.out _ _ ?_
                                    clear hK K
                                    refine done_ (done_of HT_.out (by kernel_rfl)) ?_
                                    have n0_ : Aside0 (Kd.N k37 37 (w66.setCell ⟨gb243, 4, none⟩ (.slice A242_4 y244.length c242_4)) w.heap.size (fun k_ => k_ ≠ gb243) (.slice (some ad242) t231.length co21) t231) := ⟨by (with_reducible repeat (first | apply Kd.N_alloc | apply Kd.N_drewN | apply Kd.N_drew)); exact Kd.N_mono (Kd.N_far (p := ⟨gb243, 4, none⟩) (Kd.N_mono HO_0.out (fun k_ hk => (⟨hk, hk⟩ : _ ∧ k_ ≠ gb243))) (fun _ hk => hk.2) (.slice A242_4 y244.length c242_4)) (fun _ hk => hk.1)⟩
                                    have n1_ : Aside0 (Kd.V k30 30 (w66.setCell ⟨gb243, 4, none⟩ (.slice A242_4 y244.length c242_4)) w.heap.size (fun k_ => some k_ ≠ (.slice (some ad242) t231.length co21 : Value).ownBlock ∧ k_ ≠ gb243) (.slice A242_4 ((rd_T37 t231 (ji28)).f4).length c242_4) ((rd_T37 t231 (ji28)).f4)) := ⟨by (with_reducible repeat (first | apply Kd.V_alloc | apply Kd.V_drewN | apply Kd.V_drew)); exact Kd.V_mono (Kd.V_far (p := ⟨gb243, 4, none⟩) (Kd.V_mono HL242_4.out (fun k_ hk => (⟨hk, hk.2⟩ : _ ∧ k_ ≠ gb243))) (fun _ hk => hk.2) (.slice A242_4 y244.length c242_4)) (fun _ hk => ⟨hk.1.1, hk.1.2⟩)⟩
                                    have n2_ : Aside0 (Kd.V k30 30 (w66.setCell ⟨gb243, 4, none⟩ (.slice A242_4 y244.length c242_4)) w.heap.size (fun k_ => some k_ ≠ (.slice (some ad242) t231.length co21 : Value).ownBlock ∧ k_ ≠ gb243) (.slice A242_4 y244.length c242_4) y244) := ⟨by (with_reducible repeat (first | apply Kd.V_alloc | apply Kd.V_drewN | apply Kd.V_drew)); exact Kd.V_mono (Kd.V_far (p := ⟨gb243, 4, none⟩) (Kd.V_mono HO248.out (fun k_ hk => (⟨hk, hk.2⟩ : _ ∧ k_ ≠ gb243))) (fun _ hk => hk.2) (.slice A242_4 y244.length c242_4)) (fun _ hk => ⟨hk.1.1, hk.1.2⟩)⟩
                                    have n3_ : Aside0 ((w66.setCell ⟨gb243, 4, none⟩ (.slice A242_4 y244.length c242_4)).heap[gb243]? = some (.cells #[.int .i64 ((rd_T37 t231 (ji28)).f0), .int .i64 ((rd_T37 t231 (ji28)).f1), .string ((rd_T37 t231 (ji28)).f2), .string ((rd_T37 t231 (ji28)).f3), .slice A242_4 y244.length c242_4] 37 (0, 0))) := ⟨by (with_reducible repeat (first | refine blk_drewN ?_ _ | refine blk_drew ?_ | refine blk_alloc ?_ _)); refine blk_put (cs := #[.int .i64 ((rd_T37 t231 (ji28)).f0), .int .i64 ((rd_T37 t231 (ji28)).f1), .string ((rd_T37 t231 (ji28)).f2), .string ((rd_T37 t231 (ji28)).f3), .slice A242_4 ((rd_T37 t231 (ji28)).f4).length c242_4]) ?_ 4 _ rfl; (with_reducible repeat (first | refine blk_drewN ?_ _ | refine blk_drew ?_ | refine blk_alloc ?_ _)); exact BK243.out⟩
                                    have n4_ : Aside0 (Below w.heap.size w (w66.setCell ⟨gb243, 4, none⟩ (.slice A242_4 y244.length c242_4))) := ⟨by repeat (first | (with_reducible first | exact HB.out | apply below_alloc | apply pw_below_drewN | apply below_drew1 | refine below_set ?_ GE243.out) | exact HB.out)⟩
                                    (try clear HO_0)
                                    (try clear HL242_4)
                                    (try clear HO248)
                                    (try clear BK243)
                                    (try clear HB)
                                    generalize (w66.setCell ⟨gb243, 4, none⟩ (.slice A242_4 y244.length c242_4)) = w69 at n0_ n1_ n2_ n3_ n4_ ⊢
                                    have HO_0 := n0_
                                    have HL242_4 := n1_
                                    have HO248 := n2_
                                    have BK243 := n3_
                                    have HB := n4_
                                    clear n0_ n1_ n2_ n3_ n4_
                                    have q70 : ((ji28) : Int) ≤ ((t231.length : Int) : Int) := of_decide_eq_true (by first | (with_reducible assumption) | assumption)
                                    obtain ⟨i070, hi070, _, hsz70, _⟩ := info_parts info37
                                    have hroom70 : t231.length ≤ co21 := (Kd.N_reads' HO_0.out).2.1
                                    have hC70 : Kd.F k37 _ _ (some ad242) t231.length t231 := (Kd.V_at (base := w.heap.size) (Kd.N_V HO_0.out)).2.2
                                    have hcut70 := cut_to (P := Try.prog) 32 37 .i64 Try.underlying32 hi070 (some ad242) t231.length co21 (ji28) (of_decide_eq_true (by first | (with_reducible assumption) | assumption)) q70 hroom70
                                    have hr70 := Kd.F_take (m := ((ji28) : Int).toNat) hC70 (by omega)
                                    have hy70 : y249.length = ((ji28) : Int).toNat := (by rw [Ny249.out, List.length_take]; omega)
                                    rw [← Ny249.out] at hr70
                                    rw [← hy70] at hcut70
                                    have HO253 := Aside0.mk (show Kd.V k37 37 _ w.heap.size _ (.slice (some ad242) y249.length co21) y249 from Kd.V_mk (by omega) hr70)
                                    have HC253 := Aside0.mk (show y249.length ≤ co21 from by omega)
                                    clear hr70 hC70 hroom70 hi070 hsz70
                                    have KY70 := Aside0.mk hy70
                                    clear hy70
                                    replace q70 := eq_true q70
                                    try go_wp2_with (first | ((with_reducible refine gate_callee (f := 22) rfl ?_); refine goesL_ (some 63) rfl rfl Try.func22 (by kernel_rfl) rfl #[.slice (some ad242) y249.length co21] rfl (by (try simp only [List.map_toArray, List.map_cons, List.map_nil]); first | done | rfl | (simp only [List.length_drop, List.length_take]; rfl)) ?_; (with_reducible refine (risk_Safe.calls kj19 _ _ y249 true _ ?side1 ?side2 A37.out).mono ?_); (case side1 => repeat (first | exact (Kd.V_reads' HO253.out).2.2 | (with_reducible refine Kd.C_alloc ?_ _) | (with_reducible refine Kd.C_drewN ?_ _) | (with_reducible refine Kd.C_drew ?_))); (case side2 => exact (Kd.V_reads' HO253.out).2.1); rintro e w71 ⟨rfl, hb⟩; refine ⟨_, rfl, ?_⟩; have n0_ := Aside0.mk (Kd.N_below (by (with_reducible repeat (first | apply Kd.N_alloc | apply Kd.N_drewN | apply Kd.N_drew)); exact HO_0.out) hb); have n1_ := Aside0.mk (Kd.V_below (by (with_reducible repeat (first | apply Kd.V_alloc | apply Kd.V_drewN | apply Kd.V_drew)); exact HL242_4.out) hb); have n2_ := Aside0.mk (Kd.V_below (by (with_reducible repeat (first | apply Kd.V_alloc | apply Kd.V_drewN | apply Kd.V_drew)); exact HO248.out) hb); have n3_ := Aside0.mk (Kd.V_below (by (with_reducible repeat (first | apply Kd.V_alloc | apply Kd.V_drewN | apply Kd.V_drew)); exact HO253.out) hb); have n4_ := Aside0.mk (blk_below (g := gb243) (o := .cells #[.int .i64 ((rd_T37 t231 (ji28)).f0), .int .i64 ((rd_T37 t231 (ji28)).f1), .string ((rd_T37 t231 (ji28)).f2), .string ((rd_T37 t231 (ji28)).f3), .slice A242_4 y244.length c242_4] 37 (0, 0)) (by (with_reducible repeat (first | refine blk_drewN ?_ _ | refine blk_drew ?_ | refine blk_alloc ?_ _)); exact BK243.out) hb); have n5_ := Aside0.mk (below_step (by repeat (first | (with_reducible first | exact HB.out | apply below_alloc | apply pw_below_drewN | apply below_drew1 | refine below_set ?_ GE243.out) | exact HB.out)) hb); clear HO_0; clear HL242_4; clear HO248; clear HO253; clear BK243; clear HB; have HO_0 := n0_; have HL242_4 := n1_; have HO248 := n2_; have HO253 := n3_; have BK243 := n4_; have HB := n5_; clear n0_ n1_ n2_ n3_ n4_ n5_; (try clear hb); (try clear hb2); (try clear hk); (try clear hi); have q72 : ((ji28) : Int) ≤ ((t231.length : Int) : Int) := of_decide_eq_true (by first | (with_reducible assumption) | assumption); obtain ⟨i072, hi072, _, hsz72, _⟩ := info_parts info37; have hroom72 : t231.length ≤ co21 := (Kd.N_reads' HO_0.out).2.1; have hC72 : Kd.F k37 _ _ (some ad242) t231.length t231 := (Kd.V_at (base := w.heap.size) (Kd.N_V HO_0.out)).2.2; have q072 : (0 : Int) ≤ ((ji28) : Int) := of_decide_eq_true (by first | (with_reducible assumption) | assumption); have hcut72 := cut_from (P := Try.prog) 32 37 .i64 Try.underlying32 hi072 5 hsz72 (some ad242) t231.length co21 (ji28) q072 q72; have hr72 := Kd.F_cut (m := ((ji28) : Int).toNat) (c := co21) hC72 (by omega) hroom72; obtain ⟨A72, hA72⟩ : ∃ A1, A1 = (if co21 = ((ji28) : Int).toNat then (some ad242) else ((some ad242) : Option Addr).map (·.add (((ji28) : Int).toNat * 5))) := ⟨_, rfl⟩; obtain ⟨c72, hc72⟩ : ∃ c1, c1 = co21 - ((ji28) : Int).toNat := ⟨_, rfl⟩; have hy72 : y255.length = t231.length - ((ji28) : Int).toNat := (by rw [Ny255.out, List.length_drop] <;> omega); rw [show (t231).drop ((ji28) : Int).toNat = y255 from Ny255.out.symm] at hr72; replace hr72 : Kd.F k37 _ _ A72 y255.length y255 := (by rw [hA72]; exact hr72); rw [← hy72, ← hA72, ← hc72] at hcut72; have HO259 := Aside0.mk (show Kd.V k37 37 _ w.heap.size _ (.slice A72 y255.length c72) y255 from Kd.V_mk (by rw [hy72, hc72]; exact Nat.sub_le_sub_right hroom72 _) hr72); have HC259 := Aside0.mk (show y255.length ≤ c72 from by rw [hy72, hc72]; exact Nat.sub_le_sub_right hroom72 _); clear hr72 hC72 hroom72 hi072 hsz72 hc72; have KY72 := Aside0.mk hy72; have KA72 := Aside0.mk hA72; clear hy72 hA72; replace q72 := eq_true q72) | (go_at_call 22; (with_reducible refine (risk_Safe.calls kj19 _ _ y255 true _ ?side1 ?side2 A41.out).mono ?_); (case side1 => repeat (first | exact (Kd.V_reads' HO259.out).2.2 | (with_reducible refine Kd.C_alloc ?_ _) | (with_reducible refine Kd.C_drewN ?_ _) | (with_reducible refine Kd.C_drew ?_))); (case side2 => exact (Kd.V_reads' HO259.out).2.1); rintro e w73 ⟨rfl, hb⟩; have n0_ := Aside0.mk (Kd.N_below (by (with_reducible repeat (first | apply Kd.N_alloc | apply Kd.N_drewN | apply Kd.N_drew)); exact HO_0.out) hb); have n1_ := Aside0.mk (Kd.V_below (by (with_reducible repeat (first | apply Kd.V_alloc | apply Kd.V_drewN | apply Kd.V_drew)); exact HL242_4.out) hb); have n2_ := Aside0.mk (Kd.V_below (by (with_reducible repeat (first | apply Kd.V_alloc | apply Kd.V_drewN | apply Kd.V_drew)); exact HO248.out) hb); have n3_ := Aside0.mk (Kd.V_below (by (with_reducible repeat (first | apply Kd.V_alloc | apply Kd.V_drewN | apply Kd.V_drew)); exact HO253.out) hb); have n4_ := Aside0.mk (Kd.V_below (by (with_reducible repeat (first | apply Kd.V_alloc | apply Kd.V_drewN | apply Kd.V_drew)); exact HO259.out) hb); have n5_ := Aside0.mk (blk_below (g := gb243) (o := .cells #[.int .i64 ((rd_T37 t231 (ji28)).f0), .int .i64 ((rd_T37 t231 (ji28)).f1), .string ((rd_T37 t231 (ji28)).f2), .string ((rd_T37 t231 (ji28)).f3), .slice A242_4 y244.length c242_4] 37 (0, 0)) (by (with_reducible repeat (first | refine blk_drewN ?_ _ | refine blk_drew ?_ | refine blk_alloc ?_ _)); exact BK243.out) hb); have n6_ := Aside0.mk (below_step (by repeat (first | (with_reducible first | exact HB.out | apply below_alloc | apply pw_below_drewN | apply below_drew1 | refine below_set ?_ GE243.out) | exact HB.out)) hb); clear HO_0; clear HL242_4; clear HO248; clear HO253; clear HO259; clear BK243; clear HB; have HO_0 := n0_; have HL242_4 := n1_; have HO248 := n2_; have HO253 := n3_; have HO259 := n4_; have BK243 := n5_; have HB := n6_; clear n0_ n1_ n2_ n3_ n4_ n5_ n6_; (try clear hb); (try clear hb2); (try clear hk); (try clear hi); have hcz74_0 : w73.cell? ⟨gb243, 0, none⟩ = some (.int .i64 ((rd_T37 t231 (ji28)).f0)) := (blk_cell BK243.out 0).trans rfl; have hcz74_1 : w73.cell? ⟨gb243, 1, none⟩ = some (.int .i64 ((rd_T37 t231 (ji28)).f1)) := (blk_cell BK243.out 1).trans rfl; have hcz74_2 : w73.cell? ⟨gb243, 2, none⟩ = some (.string ((rd_T37 t231 (ji28)).f2)) := (blk_cell BK243.out 2).trans rfl; have hcz74_3 : w73.cell? ⟨gb243, 3, none⟩ = some (.string ((rd_T37 t231 (ji28)).f3)) := (blk_cell BK243.out 3).trans rfl; have hcz74_4 : w73.cell? ⟨gb243, 4, none⟩ = some (.slice A242_4 y244.length c242_4) := (blk_cell BK243.out 4).trans rfl; have hfz74_0 := blk_frozen BK243.out 0; have hfz74_1 := blk_frozen BK243.out 1; have hfz74_2 := blk_frozen BK243.out 2; have hfz74_3 := blk_frozen BK243.out 3; have hfz74_4 := blk_frozen BK243.out 4) | ((with_reducible refine gate_dst (N := 72) rfl ?_); (try (refine gate_guard (by rfl) ?_; dsimp only)); refine Kd.N_lit k37 _ 37 ?hg (N' := 72) ?hd (xs := ([(⟨(rd_T37 t231 (ji28)).f0, (rd_T37 t231 (ji28)).f1, (rd_T37 t231 (ji28)).f2, (rd_T37 t231 (ji28)).f3, y244⟩ : S37)] : List (S37))) (inner := [.int .i64 ((rd_T37 t231 (ji28)).f0), .int .i64 ((rd_T37 t231 (ji28)).f1), .string ((rd_T37 t231 (ji28)).f2), .string ((rd_T37 t231 (ji28)).f3), .slice A242_4 y244.length c242_4]) (ok := (fun k_ => some k_ ≠ (.slice (some ad242) t231.length co21 : Value).ownBlock ∧ k_ ≠ gb243)) (okp := (fun k_ => some k_ ≠ (.slice (some ad242) t231.length co21 : Value).ownBlock ∧ k_ ≠ gb243)) ?hr ?hp (fun _ hk => hk) ((show ∀ k_, w73.heap.size ≤ k_ → (fun k_ => some k_ ≠ (.slice (some ad242) t231.length co21 : Value).ownBlock ∧ k_ ≠ gb243) k_ from fun k_ hk => ⟨Kd.fresh' (Kd.N_lt (by (with_reducible repeat (first | apply Kd.N_alloc | apply Kd.N_drewN | apply Kd.N_drew)); exact HO_0.out)) k_ hk, Kd.freshB (g := gb243) (o := .cells #[.int .i64 ((rd_T37 t231 (ji28)).f0), .int .i64 ((rd_T37 t231 (ji28)).f1), .string ((rd_T37 t231 (ji28)).f2), .string ((rd_T37 t231 (ji28)).f3), .slice A242_4 y244.length c242_4] 37 (0, 0)) (by (with_reducible repeat (first | refine blk_drewN ?_ _ | refine blk_drew ?_ | refine blk_alloc ?_ _)); exact BK243.out) k_ hk⟩) _ (Nat.le_refl _)) (Below.refl _ _) (Nat.le_refl _) (by simp) ?_; (case hd => rfl); (case hg => rfl); (case hr => first | (go_simp; done) | (go_simp; rfl)); (case hp => exact (Reps.c5 (show Kd.FK k37 _ _ (⟨(rd_T37 t231 (ji28)).f0, (rd_T37 t231 (ji28)).f1, (rd_T37 t231 (ji28)).f2, (rd_T37 t231 (ji28)).f3, y244⟩ : S37) [.int .i64 ((rd_T37 t231 (ji28)).f0), .int .i64 ((rd_T37 t231 (ji28)).f1), .string ((rd_T37 t231 (ji28)).f2), .string ((rd_T37 t231 (ji28)).f3), .slice A242_4 y244.length c242_4] from (k37_mkF _ _ (⟨(rd_T37 t231 (ji28)).f0, (rd_T37 t231 (ji28)).f1, (rd_T37 t231 (ji28)).f2, (rd_T37 t231 (ji28)).f3, y244⟩ : S37) (Kd.V_reads' (Kd.V_mono (ok' := (fun k_ => some k_ ≠ (.slice (some ad242) t231.length co21 : Value).ownBlock ∧ k_ ≠ gb243)) (HO248.out) (fun k_ hk => ⟨hk.1, hk.2⟩))).2.1 (Kd.V_F (Kd.V_mono (ok' := (fun k_ => some k_ ≠ (.slice (some ad242) t231.length co21 : Value).ownBlock ∧ k_ ≠ gb243)) (HO248.out) (fun k_ hk => ⟨hk.1, hk.2⟩))))) (Reps.none _ _))); intro v262 w75 ho76 hb hg_ hnew_; clear hg_ hnew_; (first | rw [← Ny261.out] at ho76 | (simp only [Int.reduceToNat] at ho76; rw [← Ny261.out] at ho76)); have n0_ := Aside0.mk (Kd.N_elder' (by (with_reducible repeat (first | apply Kd.N_alloc | apply Kd.N_drewN | apply Kd.N_drew)); exact HO_0.out) (Kd.N_base ho76) hb); have n1_ := Aside0.mk (Kd.V_elder' (by (with_reducible repeat (first | apply Kd.V_alloc | apply Kd.V_drewN | apply Kd.V_drew)); exact HL242_4.out) (Kd.N_base ho76) hb); have n2_ := Aside0.mk (Kd.V_elder' (by (with_reducible repeat (first | apply Kd.V_alloc | apply Kd.V_drewN | apply Kd.V_drew)); exact HO248.out) (Kd.N_base ho76) hb); have n3_ := Aside0.mk (Kd.V_elder' (by (with_reducible repeat (first | apply Kd.V_alloc | apply Kd.V_drewN | apply Kd.V_drew)); exact HO253.out) (Kd.N_base ho76) hb); have n4_ := Aside0.mk (Kd.V_elder' (by (with_reducible repeat (first | apply Kd.V_alloc | apply Kd.V_drewN | apply Kd.V_drew)); exact HO259.out) (Kd.N_base ho76) hb); have n5_ := Aside0.mk (Kd.N_lower ho76 (below_size (by repeat (first | (with_reducible first | exact HB.out | apply below_alloc | apply pw_below_drewN | apply below_drew1 | refine below_set ?_ GE243.out) | exact HB.out)))); have n6_ := Aside0.mk (blk_below (g := gb243) (o := .cells #[.int .i64 ((rd_T37 t231 (ji28)).f0), .int .i64 ((rd_T37 t231 (ji28)).f1), .string ((rd_T37 t231 (ji28)).f2), .string ((rd_T37 t231 (ji28)).f3), .slice A242_4 y244.length c242_4] 37 (0, 0)) (by (with_reducible repeat (first | refine blk_drewN ?_ _ | refine blk_drew ?_ | refine blk_alloc ?_ _)); exact BK243.out) hb); have n7_ := Aside0.mk (below_step (by repeat (first | (with_reducible first | exact HB.out | apply below_alloc | apply pw_below_drewN | apply below_drew1 | refine below_set ?_ GE243.out) | exact HB.out)) hb); clear HO_0; clear HL242_4; clear HO248; clear HO253; clear HO259; clear BK243; clear HB; have HO_0 := n0_; have HL242_4 := n1_; have HO248 := n2_; have HO253 := n3_; have HO259 := n4_; have HO263 := n5_; have BK243 := n6_; have HB := n7_; clear n0_ n1_ n2_ n3_ n4_ n5_ n6_ n7_; clear hb ho76; obtain ⟨Ao77, co77, eo77⟩ := Kd.N_slice HO263.out; subst eo77) | (go_at_call 22; (with_reducible refine (risk_Safe.calls kj19 _ _ y261 false _ ?side1 ?side2 A43.out).mono ?_); (case side1 => repeat (first | exact (Kd.N_reads' HO263.out).2.2 | (with_reducible refine Kd.C_alloc ?_ _) | (with_reducible refine Kd.C_drewN ?_ _) | (with_reducible refine Kd.C_drew ?_))); (case side2 => exact (Kd.N_reads' HO263.out).2.1); rintro e w78 ⟨rfl, hb⟩; have n0_ := Aside0.mk (Kd.N_below (by (with_reducible repeat (first | apply Kd.N_alloc | apply Kd.N_drewN | apply Kd.N_drew)); exact HO_0.out) hb); have n1_ := Aside0.mk (Kd.V_below (by (with_reducible repeat (first | apply Kd.V_alloc | apply Kd.V_drewN | apply Kd.V_drew)); exact HL242_4.out) hb); have n2_ := Aside0.mk (Kd.V_below (by (with_reducible repeat (first | apply Kd.V_alloc | apply Kd.V_drewN | apply Kd.V_drew)); exact HO248.out) hb); have n3_ := Aside0.mk (Kd.V_below (by (with_reducible repeat (first | apply Kd.V_alloc | apply Kd.V_drewN | apply Kd.V_drew)); exact HO253.out) hb); have n4_ := Aside0.mk (Kd.V_below (by (with_reducible repeat (first | apply Kd.V_alloc | apply Kd.V_drewN | apply Kd.V_drew)); exact HO259.out) hb); have n5_ := Aside0.mk (Kd.N_below (by (with_reducible repeat (first | apply Kd.N_alloc | apply Kd.N_drewN | apply Kd.N_drew)); exact HO263.out) hb); have n6_ := Aside0.mk (blk_below (g := gb243) (o := .cells #[.int .i64 ((rd_T37 t231 (ji28)).f0), .int .i64 ((rd_T37 t231 (ji28)).f1), .string ((rd_T37 t231 (ji28)).f2), .string ((rd_T37 t231 (ji28)).f3), .slice A242_4 y244.length c242_4] 37 (0, 0)) (by (with_reducible repeat (first | refine blk_drewN ?_ _ | refine blk_drew ?_ | refine blk_alloc ?_ _)); exact BK243.out) hb); have n7_ := Aside0.mk (below_step (by repeat (first | (with_reducible first | exact HB.out | apply below_alloc | apply pw_below_drewN | apply below_drew1 | refine below_set ?_ GE243.out) | exact HB.out)) hb); clear HO_0; clear HL242_4; clear HO248; clear HO253; clear HO259; clear HO263; clear BK243; clear HB; have HO_0 := n0_; have HL242_4 := n1_; have HO248 := n2_; have HO253 := n3_; have HO259 := n4_; have HO263 := n5_; have BK243 := n6_; have HB := n7_; clear n0_ n1_ n2_ n3_ n4_ n5_ n6_ n7_; (try clear hb); (try clear hb2); (try clear hk); (try clear hi)))
                                    go_ret
                                    exact ⟨by first | rfl | (simp [errW_none, errW_some] <;> rfl) | (simp only [← hji28, ← hji32]; first | rfl | (simp [errW_none, errW_some] <;> rfl)) | (simp [*, errW_none, errW_some] <;> rfl), by repeat (first | (with_reducible first | exact HB.out | apply below_alloc | apply pw_below_drewN | apply below_drew1 | refine below_set ?_ GE243.out) | exact HB.out)⟩
                                · replace c42 := Bool.eq_false_iff.mpr c42
                                  subst c42
                                  have H1 : (some false) = some r := by rw [if_neg (show ¬ (false = true) by decide)] at H; exact H
                                  clear H
                                  have H := H1
                                  clear H1
                                  obtain rfl := Option.some.inj H
                                  have p242 : 0 ≤ ((ji28) : Int) := of_decide_eq_true (by first | (with_reducible assumption) | assumption)
                                  have q242 : (ji28) < (t231.length : Int) := of_decide_eq_true (by first | (with_reducible assumption) | assumption)
                                  obtain ⟨ad242, A242_4, c242_4, e242, hx242_0, hx242_1, hx242_2, hx242_3, hx242_4, hl242_4, hi242_4⟩ := at_T37 (Kd.N_reads' HO_0.out).2.2 (ji28) p242 q242
                                  cases e242
                                  obtain ⟨ce242, hce242, hMe242, hcc242⟩ := Kd.N_get HO_0.out z37 (ji28) p242 (by first | exact q242 | exact of_decide_eq_true (by first | (with_reducible assumption) | assumption) | (have e_ := (Kd.N_reads' HO_0.out).1; omega))
                                  obtain ⟨ua242_4, uc242_4, rfl, ul242_4, ge242_4⟩ := k37_openF hMe242
                                  have hv242_4 := hcc242 4 _ rfl
                                  rw [add_field _ _ 4 (by omega)] at hv242_4
                                  replace hv242_4 := Option.some.inj (hv242_4.symm.trans hx242_4)
                                  injection hv242_4 with hva_ hvn_ hvc_
                                  rw [hva_] at ge242_4
                                  rw [hvc_] at ul242_4
                                  have HL242_4 := Aside0.mk (show Kd.V k30 30 _ w.heap.size _ _ ((rd_T37 t231 (ji28)).f4) from Kd.V_mk ul242_4 ge242_4)
                                  clear hva_ hvn_ hvc_ ge242_4 ul242_4
                                  clear hcc242 hce242
                                  have HR242_4 := Aside0.mk hi242_4
                                  have HC242_4 := Aside0.mk hl242_4
                                  clear hi242_4 hl242_4
                                  replace p242 := eq_true p242
                                  replace q242 := eq_true q242
                                  try go_wp2_with (first | ((with_reducible refine gate_dst (N := 10) rfl ?_); (try (refine gate_guard (by rfl) ?_; dsimp only)); refine box_event ?hg (N := 10) ?hd (cs := #[.int .i64 0, .int .i64 0, .string (⟨#[]⟩ : ByteArray), .string (⟨#[]⟩ : ByteArray), .slice none 0 0]) (t := 37) ?hr ?_; (case hd => rfl); (case hg => rfl); (case hr => first | (go_simp; done) | (go_simp; rfl)); intro gb243 hg w79 hbox hb; have n0_ := Aside0.mk (Kd.N_below (Kd.N_elderB (by (with_reducible repeat (first | apply Kd.N_alloc | apply Kd.N_drewN | apply Kd.N_drew)); exact HO_0.out) gb243 (Nat.le_of_eq hg.symm)) hb); have n1_ := Aside0.mk (Kd.V_below (Kd.V_elderB (by (with_reducible repeat (first | apply Kd.V_alloc | apply Kd.V_drewN | apply Kd.V_drew)); exact HL242_4.out) gb243 (Nat.le_of_eq hg.symm)) hb); have n2_ := Aside0.mk (Kd.C_below (by repeat (first | (with_reducible exact HR242_4.out) | (with_reducible refine Kd.C_alloc ?_ _) | (with_reducible refine Kd.C_drewN ?_ _) | (with_reducible refine Kd.C_drew ?_) | exact HR242_4.out)) hb); have n3_ := Aside0.mk (below_step (by repeat (first | (with_reducible first | exact HB.out | apply below_alloc | apply pw_below_drewN | apply below_drew1) | exact HB.out)) hb); have n4_ := Aside0.mk (hbox); have n5_ := Aside0.mk ((by rw [hg]; exact (below_size (by repeat (first | (with_reducible first | exact HB.out | apply below_alloc | apply pw_below_drewN | apply below_drew1) | exact HB.out))) : w.heap.size ≤ gb243)); have n6_ := Aside0.mk ((by rw [hg]; exact (below_size (by repeat (first | (with_reducible first | exact HB.out | apply below_alloc | apply pw_below_drewN | apply below_drew1) | exact HB.out))) : w.heap.size ≤ gb243)); clear HO_0; clear HL242_4; clear HR242_4; clear HB; have HO_0 := n0_; have HL242_4 := n1_; have HR242_4 := n2_; have HB := n3_; have BK243 := n4_; have GW243 := n5_; have GE243 := n6_; clear n0_ n1_ n2_ n3_ n4_ n5_ n6_; clear hb hbox hg; have hcz80_0 : w79.cell? ⟨gb243, 0, none⟩ = some (.int .i64 0) := (blk_cell BK243.out 0).trans rfl; have hcz80_1 : w79.cell? ⟨gb243, 1, none⟩ = some (.int .i64 0) := (blk_cell BK243.out 1).trans rfl; have hcz80_2 : w79.cell? ⟨gb243, 2, none⟩ = some (.string (⟨#[]⟩ : ByteArray)) := (blk_cell BK243.out 2).trans rfl; have hcz80_3 : w79.cell? ⟨gb243, 3, none⟩ = some (.string (⟨#[]⟩ : ByteArray)) := (blk_cell BK243.out 3).trans rfl; have hcz80_4 : w79.cell? ⟨gb243, 4, none⟩ = some (.slice none 0 0) := (blk_cell BK243.out 4).trans rfl; have hfz80_0 := blk_frozen BK243.out 0; have hfz80_1 := blk_frozen BK243.out 1; have hfz80_2 := blk_frozen BK243.out 2; have hfz80_3 := blk_frozen BK243.out 3; have hfz80_4 := blk_frozen BK243.out 4))
                                  have n0_ : Aside0 (Kd.N k37 37 (((((w79.setCell ⟨gb243, 0, none⟩ (.int .i64 ((rd_T37 t231 (ji28)).f0))).setCell ⟨gb243, 1, none⟩ (.int .i64 ((rd_T37 t231 (ji28)).f1))).setCell ⟨gb243, 2, none⟩ (.string ((rd_T37 t231 (ji28)).f2))).setCell ⟨gb243, 3, none⟩ (.string ((rd_T37 t231 (ji28)).f3))).setCell ⟨gb243, 4, none⟩ (.slice A242_4 ((rd_T37 t231 (ji28)).f4).length c242_4)) w.heap.size (fun k_ => k_ ≠ gb243) (.slice (some ad242) t231.length co21) t231) := ⟨by (with_reducible repeat (first | apply Kd.N_alloc | apply Kd.N_drewN | apply Kd.N_drew)); exact Kd.N_mono (Kd.N_far (p := ⟨gb243, 4, none⟩) (Kd.N_far (p := ⟨gb243, 3, none⟩) (Kd.N_far (p := ⟨gb243, 2, none⟩) (Kd.N_far (p := ⟨gb243, 1, none⟩) (Kd.N_far (p := ⟨gb243, 0, none⟩) (Kd.N_mono HO_0.out (fun k_ hk => (⟨hk, hk.2⟩ : _ ∧ k_ ≠ gb243))) (fun _ hk => hk.2) (.int .i64 ((rd_T37 t231 (ji28)).f0))) (fun _ hk => hk.2) (.int .i64 ((rd_T37 t231 (ji28)).f1))) (fun _ hk => hk.2) (.string ((rd_T37 t231 (ji28)).f2))) (fun _ hk => hk.2) (.string ((rd_T37 t231 (ji28)).f3))) (fun _ hk => hk.2) (.slice A242_4 ((rd_T37 t231 (ji28)).f4).length c242_4)) (fun _ hk => hk.1.2)⟩
                                  have n1_ : Aside0 (Kd.V k30 30 (((((w79.setCell ⟨gb243, 0, none⟩ (.int .i64 ((rd_T37 t231 (ji28)).f0))).setCell ⟨gb243, 1, none⟩ (.int .i64 ((rd_T37 t231 (ji28)).f1))).setCell ⟨gb243, 2, none⟩ (.string ((rd_T37 t231 (ji28)).f2))).setCell ⟨gb243, 3, none⟩ (.string ((rd_T37 t231 (ji28)).f3))).setCell ⟨gb243, 4, none⟩ (.slice A242_4 ((rd_T37 t231 (ji28)).f4).length c242_4)) w.heap.size (fun k_ => some k_ ≠ (.slice (some ad242) t231.length co21 : Value).ownBlock ∧ k_ ≠ gb243) (.slice A242_4 ((rd_T37 t231 (ji28)).f4).length c242_4) ((rd_T37 t231 (ji28)).f4)) := ⟨by (with_reducible repeat (first | apply Kd.V_alloc | apply Kd.V_drewN | apply Kd.V_drew)); exact Kd.V_mono (Kd.V_far (p := ⟨gb243, 4, none⟩) (Kd.V_far (p := ⟨gb243, 3, none⟩) (Kd.V_far (p := ⟨gb243, 2, none⟩) (Kd.V_far (p := ⟨gb243, 1, none⟩) (Kd.V_far (p := ⟨gb243, 0, none⟩) (Kd.V_mono HL242_4.out (fun k_ hk => (⟨hk, hk.2⟩ : _ ∧ k_ ≠ gb243))) (fun _ hk => hk.2) (.int .i64 ((rd_T37 t231 (ji28)).f0))) (fun _ hk => hk.2) (.int .i64 ((rd_T37 t231 (ji28)).f1))) (fun _ hk => hk.2) (.string ((rd_T37 t231 (ji28)).f2))) (fun _ hk => hk.2) (.string ((rd_T37 t231 (ji28)).f3))) (fun _ hk => hk.2) (.slice A242_4 ((rd_T37 t231 (ji28)).f4).length c242_4)) (fun _ hk => ⟨hk.1.1.2, hk.1.2⟩)⟩
                                  have n2_ : Aside0 ((((((w79.setCell ⟨gb243, 0, none⟩ (.int .i64 ((rd_T37 t231 (ji28)).f0))).setCell ⟨gb243, 1, none⟩ (.int .i64 ((rd_T37 t231 (ji28)).f1))).setCell ⟨gb243, 2, none⟩ (.string ((rd_T37 t231 (ji28)).f2))).setCell ⟨gb243, 3, none⟩ (.string ((rd_T37 t231 (ji28)).f3))).setCell ⟨gb243, 4, none⟩ (.slice A242_4 ((rd_T37 t231 (ji28)).f4).length c242_4)).heap[gb243]? = some (.cells #[.int .i64 ((rd_T37 t231 (ji28)).f0), .int .i64 ((rd_T37 t231 (ji28)).f1), .string ((rd_T37 t231 (ji28)).f2), .string ((rd_T37 t231 (ji28)).f3), .slice A242_4 ((rd_T37 t231 (ji28)).f4).length c242_4] 37 (0, 0))) := ⟨by (with_reducible repeat (first | refine blk_drewN ?_ _ | refine blk_drew ?_ | refine blk_alloc ?_ _)); refine blk_put (cs := #[.int .i64 ((rd_T37 t231 (ji28)).f0), .int .i64 ((rd_T37 t231 (ji28)).f1), .string ((rd_T37 t231 (ji28)).f2), .string ((rd_T37 t231 (ji28)).f3), .slice none 0 0]) ?_ 4 _ rfl; (with_reducible repeat (first | refine blk_drewN ?_ _ | refine blk_drew ?_ | refine blk_alloc ?_ _)); refine blk_put (cs := #[.int .i64 ((rd_T37 t231 (ji28)).f0), .int .i64 ((rd_T37 t231 (ji28)).f1), .string ((rd_T37 t231 (ji28)).f2), .string (⟨#[]⟩ : ByteArray), .slice none 0 0]) ?_ 3 _ rfl; (with_reducible repeat (first | refine blk_drewN ?_ _ | refine blk_drew ?_ | refine blk_alloc ?_ _)); refine blk_put (cs := #[.int .i64 ((rd_T37 t231 (ji28)).f0), .int .i64 ((rd_T37 t231 (ji28)).f1), .string (⟨#[]⟩ : ByteArray), .string (⟨#[]⟩ : ByteArray), .slice none 0 0]) ?_ 2 _ rfl; (with_reducible repeat (first | refine blk_drewN ?_ _ | refine blk_drew ?_ | refine blk_alloc ?_ _)); refine blk_put (cs := #[.int .i64 ((rd_T37 t231 (ji28)).f0), .int .i64 0, .string (⟨#[]⟩ : ByteArray), .string (⟨#[]⟩ : ByteArray), .slice none 0 0]) ?_ 1 _ rfl; (with_reducible repeat (first | refine blk_drewN ?_ _ | refine blk_drew ?_ | refine blk_alloc ?_ _)); refine blk_put (cs := #[.int .i64 0, .int .i64 0, .string (⟨#[]⟩ : ByteArray), .string (⟨#[]⟩ : ByteArray), .slice none 0 0]) ?_ 0 _ rfl; (with_reducible repeat (first | refine blk_drewN ?_ _ | refine blk_drew ?_ | refine blk_alloc ?_ _)); exact BK243.out⟩
                                  have n3_ : Aside0 (Below w.heap.size w (((((w79.setCell ⟨gb243, 0, none⟩ (.int .i64 ((rd_T37 t231 (ji28)).f0))).setCell ⟨gb243, 1, none⟩ (.int .i64 ((rd_T37 t231 (ji28)).f1))).setCell ⟨gb243, 2, none⟩ (.string ((rd_T37 t231 (ji28)).f2))).setCell ⟨gb243, 3, none⟩ (.string ((rd_T37 t231 (ji28)).f3))).setCell ⟨gb243, 4, none⟩ (.slice A242_4 ((rd_T37 t231 (ji28)).f4).length c242_4))) := ⟨by repeat (first | (with_reducible first | exact HB.out | apply below_alloc | apply pw_below_drewN | apply below_drew1 | refine below_set ?_ GE243.out) | exact HB.out)⟩
                                  (try clear HO_0)
                                  (try clear HL242_4)
                                  (try clear BK243)
                                  (try clear HB)
                                  generalize (((((w79.setCell ⟨gb243, 0, none⟩ (.int .i64 ((rd_T37 t231 (ji28)).f0))).setCell ⟨gb243, 1, none⟩ (.int .i64 ((rd_T37 t231 (ji28)).f1))).setCell ⟨gb243, 2, none⟩ (.string ((rd_T37 t231 (ji28)).f2))).setCell ⟨gb243, 3, none⟩ (.string ((rd_T37 t231 (ji28)).f3))).setCell ⟨gb243, 4, none⟩ (.slice A242_4 ((rd_T37 t231 (ji28)).f4).length c242_4)) = w81 at n0_ n1_ n2_ n3_ ⊢
                                  have HO_0 := n0_
                                  have HL242_4 := n1_
                                  have BK243 := n2_
                                  have HB := n3_
                                  clear n0_ n1_ n2_ n3_
                                  have n0_ := Aside0.mk (Kd.N_drew HO_0.out)
                                  have n1_ := Aside0.mk (Kd.V_drew HL242_4.out)
                                  have n2_ := Aside0.mk (blk_drew BK243.out)
                                  have n3_ := Aside0.mk (below_drew1 HB.out)
                                  clear HO_0
                                  clear HL242_4
                                  clear BK243
                                  clear HB
                                  have HO_0 := n0_
                                  have HL242_4 := n1_
                                  have BK243 := n2_
                                  have HB := n3_
                                  clear n0_ n1_ n2_ n3_
                                  have q83 : ((ji32) : Int) ≤ ((((rd_T37 t231 (ji28)).f4).length : Int) : Int) := of_decide_eq_true (by first | (with_reducible assumption) | assumption)
                                  obtain ⟨i083, hi083, _, hsz83, _⟩ := info_parts info30
                                  have hroom83 : ((rd_T37 t231 (ji28)).f4).length ≤ c242_4 := HC242_4.out
                                  have hC83 : Kd.F k30 _ _ A242_4 ((rd_T37 t231 (ji28)).f4).length ((rd_T37 t231 (ji28)).f4) := (Kd.V_at (base := w.heap.size) HL242_4.out).2.2
                                  have hcut83 := cut_to (P := Try.prog) 35 30 .i64 Try.underlying35 hi083 A242_4 ((rd_T37 t231 (ji28)).f4).length c242_4 (ji32) (of_decide_eq_true (by first | (with_reducible assumption) | assumption)) q83 hroom83
                                  have hr83 := Kd.F_take (m := ((ji32) : Int).toNat) hC83 (by omega)
                                  have hy83 : y244.length = ((ji32) : Int).toNat := (by rw [Ny244.out, List.length_take]; omega)
                                  rw [← Ny244.out] at hr83
                                  rw [← hy83] at hcut83
                                  have HO248 := Aside0.mk (show Kd.V k30 30 _ w.heap.size _ (.slice A242_4 y244.length c242_4) y244 from Kd.V_mk (by omega) hr83)
                                  have HC248 := Aside0.mk (show y244.length ≤ c242_4 from by omega)
                                  clear hr83 hC83 hroom83 hi083 hsz83
                                  have KY83 := Aside0.mk hy83
                                  clear hy83
                                  replace q83 := eq_true q83
                                  refine start_ (n := 12) (S := fun w' => w'.cell? ⟨gb243, 0, none⟩ = some (.int .i64 ((rd_T37 t231 (ji28)).f0)) ∧ w'.cell? ⟨gb243, 1, none⟩ = some (.int .i64 ((rd_T37 t231 (ji28)).f1)) ∧ w'.cell? ⟨gb243, 2, none⟩ = some (.string ((rd_T37 t231 (ji28)).f2)) ∧ w'.cell? ⟨gb243, 3, none⟩ = some (.string ((rd_T37 t231 (ji28)).f3)) ∧ w'.cell? ⟨gb243, 4, none⟩ = some (.slice A242_4 ((rd_T37 t231 (ji28)).f4).length c242_4)) (ds := [11]) #[false, false, false, false, false, false, false, false, false, false, false, false] (by kernel_rfl) rfl rfl ⟨(blk_cell BK243.out 0).trans rfl, (blk_cell BK243.out 1).trans rfl, (blk_cell BK243.out 2).trans rfl, (blk_cell BK243.out 3).trans rfl, (blk_cell BK243.out 4).trans rfl⟩ (fun hHeld => ?_); refine with_tabW boltinglaw10_RiskParts.tab13 boltinglaw10_RiskParts.bits13 (fun HT_ HW_ => ?_)
                                  generalize w81.drew = w82 at HO_0 HL242_4 BK243 HB HO248 hHeld ⊢
                                  refine pure_ (i := 0) (N := some 49) (v := ?_) (a' := ?_) #[true, false, false, false, false, false, false, false, false, false, false, false] rfl rfl (any_of HT_.out (by kernel_rfl)) (fun _ _ _ h => h) (Or.inl ⟨by rfl, ?_⟩) ?_ ?_
                                  rotate_left
                                  · intro w'
                                    go_simp
                                    with_reducible rfl
                                  rotate_left
                                  · simp only [Act.put, List.setIfInBounds_toArray, List.set_cons_zero, List.set_cons_succ, i64_w, i32_w]
                                    rfl
                                  refine pure_ (i := 2) (N := some 51) (v := ?_) (a' := ?_) #[true, false, true, false, false, false, false, false, false, false, false, false] rfl rfl (any_of HT_.out (by kernel_rfl)) (fun _ _ _ h => h) (Or.inl ⟨by rfl, ?_⟩) ?_ ?_
                                  rotate_left
                                  · intro w'
                                    go_simp
                                    with_reducible rfl
                                  rotate_left
                                  · simp only [Act.put, List.setIfInBounds_toArray, List.set_cons_zero, List.set_cons_succ, i64_w, i32_w]
                                    rfl
                                  refine pure_ (i := 3) (N := some 52) (v := ?_) (a' := ?_) #[true, false, true, true, false, false, false, false, false, false, false, false] rfl rfl (any_of HT_.out (by kernel_rfl)) (fun _ _ _ h => h) (Or.inl ⟨by rfl, ?_⟩) ?_ ?_
                                  rotate_left
                                  · intro w'
                                    go_simp
                                    with_reducible rfl
                                  rotate_left
                                  · simp only [Act.put, List.setIfInBounds_toArray, List.set_cons_zero, List.set_cons_succ, i64_w, i32_w]
                                    rfl
                                  refine pure_ (i := 4) (N := some 53) (v := ?_) (a' := ?_) #[true, false, true, true, true, false, false, false, false, false, false, false] rfl rfl (any_of HT_.out (by kernel_rfl)) (fun _ _ _ h => h) (Or.inl ⟨by rfl, ?_⟩) ?_ ?_
                                  rotate_left
                                  · intro w'
                                    go_simp
                                    with_reducible rfl
                                  rotate_left
                                  · simp only [Act.put, List.setIfInBounds_toArray, List.set_cons_zero, List.set_cons_succ, i64_w, i32_w]
                                    rfl
                                  refine take_ (i := 1) (N := some 50) (v := ?_) (a' := ?_) #[true, true, true, true, true, false, false, false, false, false, false, false] rfl rfl (take_ofW HT_.out HW_.out (by kernel_rfl)) (fun _ _ _ h => h) (Or.inl ⟨by rfl, ?_⟩) hHeld ?_ ?_
                                  rotate_left
                                  · rintro w' ⟨s0, s1, s2, s3, s4⟩
                                    go_simp
                                    with_reducible rfl
                                  rotate_left
                                  · simp only [Act.put, List.setIfInBounds_toArray, List.set_cons_zero, List.set_cons_succ, i64_w, i32_w]
                                    rfl
                                  refine take_ (i := 5) (N := some 54) (v := ?_) (a' := ?_) #[true, true, true, true, true, true, false, false, false, false, false, false] rfl rfl (take_ofW HT_.out HW_.out (by kernel_rfl)) (fun _ _ _ h => h) (Or.inl ⟨by rfl, ?_⟩) hHeld ?_ ?_
                                  rotate_left
                                  · rintro w' ⟨s0, s1, s2, s3, s4⟩
                                    go_simp
                                    with_reducible rfl
                                  rotate_left
                                  · simp only [Act.put, List.setIfInBounds_toArray, List.set_cons_zero, List.set_cons_succ, i64_w, i32_w]
                                    rfl
                                  refine pure_ (i := 6) (N := some 55) (v := ?_) (a' := ?_) #[true, true, true, true, true, true, true, false, false, false, false, false] rfl rfl (any_of HT_.out (by kernel_rfl)) (fun _ _ _ h => h) (Or.inl ⟨by rfl, ?_⟩) ?_ ?_
                                  rotate_left
                                  · intro w'
                                    go_simp
                                    with_reducible rfl
                                  rotate_left
                                  · simp only [Act.put, List.setIfInBounds_toArray, List.set_cons_zero, List.set_cons_succ, i64_w, i32_w]
                                    rfl
                                  refine pure_ (i := 7) (N := some 56) (v := ?_) (a' := ?_) #[true, true, true, true, true, true, true, true, false, false, false, false] rfl rfl (any_of HT_.out (by kernel_rfl)) (fun _ _ _ h => h) (Or.inl ⟨by rfl, ?_⟩) ?_ ?_
                                  rotate_left
                                  · intro w'
                                    go_simp
                                    with_reducible rfl
                                  rotate_left
                                  · simp only [Act.put, List.setIfInBounds_toArray, List.set_cons_zero, List.set_cons_succ, i64_w, i32_w]
                                    rfl
                                  refine pure_ (i := 8) (N := some 57) (v := ?_) (a' := ?_) #[true, true, true, true, true, true, true, true, true, false, false, false] rfl rfl (any_of HT_.out (by kernel_rfl)) (fun _ _ _ h => h) (Or.inl ⟨by rfl, ?_⟩) ?_ ?_
                                  rotate_left
                                  · intro w'
                                    go_simp
                                    with_reducible rfl
                                  rotate_left
                                  · simp only [Act.put, List.setIfInBounds_toArray, List.set_cons_zero, List.set_cons_succ, i64_w, i32_w]
                                    rfl
                                  refine pure_ (i := 9) (N := some 58) (v := ?_) (a' := ?_) #[true, true, true, true, true, true, true, true, true, true, false, false] rfl rfl (any_of HT_.out (by kernel_rfl)) (fun _ _ _ h => h) (Or.inl ⟨by rfl, ?_⟩) ?_ ?_
                                  rotate_left
                                  · intro w'
                                    go_simp
                                    with_reducible rfl
                                  rotate_left
                                  · simp only [Act.put, List.setIfInBounds_toArray, List.set_cons_zero, List.set_cons_succ, i64_w, i32_w]
                                    rfl
                                  refine pure_ (i := 10) (N := some 59) (v := ?_) (a' := ?_) #[true, true, true, true, true, true, true, true, true, true, true, false] rfl rfl (any_of HT_.out (by kernel_rfl)) (fun _ _ _ h => h) (Or.inl ⟨by rfl, ?_⟩) ?_ ?_
                                  rotate_left
                                  · intro w'
                                    go_simp
                                    with_reducible rfl
                                  rotate_left
                                  · simp only [Act.put, List.setIfInBounds_toArray, List.set_cons_zero, List.set_cons_succ, i64_w, i32_w]
                                    rfl
                                  refine last_ (i := 11) (N := none) #[true, true, true, true, true, true, true, true, true, true, true, true] rfl rfl (one_of HT_.out (by kernel_rfl)) (by decide) (fun K hK => ?_)
                                  have hs84 : w82.cell? ⟨gb243, 4, none⟩ = some (.slice A242_4 ((rd_T37 t231 (ji28)).f4).length c242_4) := (blk_cell BK243.out 4).trans rfl
                                  have hfs84 := blk_frozen BK243.out 4
                                  refine skip_ (w1 := ?_) (by rfl) rfl ?_ ?_
                                  rotate_left
                                  · go_simp
                                    rfl
                                  refine hK.out _ _ ?_
                                  clear hK K
                                  refine done_ (done_of HT_.out (by kernel_rfl)) ?_
                                  have n0_ : Aside0 (Kd.N k37 37 (w82.setCell ⟨gb243, 4, none⟩ (.slice A242_4 y244.length c242_4)) w.heap.size (fun k_ => k_ ≠ gb243) (.slice (some ad242) t231.length co21) t231) := ⟨by (with_reducible repeat (first | apply Kd.N_alloc | apply Kd.N_drewN | apply Kd.N_drew)); exact Kd.N_mono (Kd.N_far (p := ⟨gb243, 4, none⟩) (Kd.N_mono HO_0.out (fun k_ hk => (⟨hk, hk⟩ : _ ∧ k_ ≠ gb243))) (fun _ hk => hk.2) (.slice A242_4 y244.length c242_4)) (fun _ hk => hk.1)⟩
                                  have n1_ : Aside0 (Kd.V k30 30 (w82.setCell ⟨gb243, 4, none⟩ (.slice A242_4 y244.length c242_4)) w.heap.size (fun k_ => some k_ ≠ (.slice (some ad242) t231.length co21 : Value).ownBlock ∧ k_ ≠ gb243) (.slice A242_4 ((rd_T37 t231 (ji28)).f4).length c242_4) ((rd_T37 t231 (ji28)).f4)) := ⟨by (with_reducible repeat (first | apply Kd.V_alloc | apply Kd.V_drewN | apply Kd.V_drew)); exact Kd.V_mono (Kd.V_far (p := ⟨gb243, 4, none⟩) (Kd.V_mono HL242_4.out (fun k_ hk => (⟨hk, hk.2⟩ : _ ∧ k_ ≠ gb243))) (fun _ hk => hk.2) (.slice A242_4 y244.length c242_4)) (fun _ hk => ⟨hk.1.1, hk.1.2⟩)⟩
                                  have n2_ : Aside0 (Kd.V k30 30 (w82.setCell ⟨gb243, 4, none⟩ (.slice A242_4 y244.length c242_4)) w.heap.size (fun k_ => some k_ ≠ (.slice (some ad242) t231.length co21 : Value).ownBlock ∧ k_ ≠ gb243) (.slice A242_4 y244.length c242_4) y244) := ⟨by (with_reducible repeat (first | apply Kd.V_alloc | apply Kd.V_drewN | apply Kd.V_drew)); exact Kd.V_mono (Kd.V_far (p := ⟨gb243, 4, none⟩) (Kd.V_mono HO248.out (fun k_ hk => (⟨hk, hk.2⟩ : _ ∧ k_ ≠ gb243))) (fun _ hk => hk.2) (.slice A242_4 y244.length c242_4)) (fun _ hk => ⟨hk.1.1, hk.1.2⟩)⟩
                                  have n3_ : Aside0 ((w82.setCell ⟨gb243, 4, none⟩ (.slice A242_4 y244.length c242_4)).heap[gb243]? = some (.cells #[.int .i64 ((rd_T37 t231 (ji28)).f0), .int .i64 ((rd_T37 t231 (ji28)).f1), .string ((rd_T37 t231 (ji28)).f2), .string ((rd_T37 t231 (ji28)).f3), .slice A242_4 y244.length c242_4] 37 (0, 0))) := ⟨by (with_reducible repeat (first | refine blk_drewN ?_ _ | refine blk_drew ?_ | refine blk_alloc ?_ _)); refine blk_put (cs := #[.int .i64 ((rd_T37 t231 (ji28)).f0), .int .i64 ((rd_T37 t231 (ji28)).f1), .string ((rd_T37 t231 (ji28)).f2), .string ((rd_T37 t231 (ji28)).f3), .slice A242_4 ((rd_T37 t231 (ji28)).f4).length c242_4]) ?_ 4 _ rfl; (with_reducible repeat (first | refine blk_drewN ?_ _ | refine blk_drew ?_ | refine blk_alloc ?_ _)); exact BK243.out⟩
                                  have n4_ : Aside0 (Below w.heap.size w (w82.setCell ⟨gb243, 4, none⟩ (.slice A242_4 y244.length c242_4))) := ⟨by repeat (first | (with_reducible first | exact HB.out | apply below_alloc | apply pw_below_drewN | apply below_drew1 | refine below_set ?_ GE243.out) | exact HB.out)⟩
                                  (try clear HO_0)
                                  (try clear HL242_4)
                                  (try clear HO248)
                                  (try clear BK243)
                                  (try clear HB)
                                  generalize (w82.setCell ⟨gb243, 4, none⟩ (.slice A242_4 y244.length c242_4)) = w85 at n0_ n1_ n2_ n3_ n4_ ⊢
                                  have HO_0 := n0_
                                  have HL242_4 := n1_
                                  have HO248 := n2_
                                  have BK243 := n3_
                                  have HB := n4_
                                  clear n0_ n1_ n2_ n3_ n4_
                                  have q86 : ((ji28) : Int) ≤ ((t231.length : Int) : Int) := of_decide_eq_true (by first | (with_reducible assumption) | assumption)
                                  obtain ⟨i086, hi086, _, hsz86, _⟩ := info_parts info37
                                  have hroom86 : t231.length ≤ co21 := (Kd.N_reads' HO_0.out).2.1
                                  have hC86 : Kd.F k37 _ _ (some ad242) t231.length t231 := (Kd.V_at (base := w.heap.size) (Kd.N_V HO_0.out)).2.2
                                  have hcut86 := cut_to (P := Try.prog) 32 37 .i64 Try.underlying32 hi086 (some ad242) t231.length co21 (ji28) (of_decide_eq_true (by first | (with_reducible assumption) | assumption)) q86 hroom86
                                  have hr86 := Kd.F_take (m := ((ji28) : Int).toNat) hC86 (by omega)
                                  have hy86 : y249.length = ((ji28) : Int).toNat := (by rw [Ny249.out, List.length_take]; omega)
                                  rw [← Ny249.out] at hr86
                                  rw [← hy86] at hcut86
                                  have HO253 := Aside0.mk (show Kd.V k37 37 _ w.heap.size _ (.slice (some ad242) y249.length co21) y249 from Kd.V_mk (by omega) hr86)
                                  have HC253 := Aside0.mk (show y249.length ≤ co21 from by omega)
                                  clear hr86 hC86 hroom86 hi086 hsz86
                                  have KY86 := Aside0.mk hy86
                                  clear hy86
                                  replace q86 := eq_true q86
                                  try go_wp2_with (first | ((with_reducible refine gate_callee (f := 22) rfl ?_); refine goesL_ (some 63) rfl rfl Try.func22 (by kernel_rfl) rfl #[.slice (some ad242) y249.length co21] rfl (by (try simp only [List.map_toArray, List.map_cons, List.map_nil]); first | done | rfl | (simp only [List.length_drop, List.length_take]; rfl)) ?_; (with_reducible refine (risk_Safe.calls kj19 _ _ y249 true _ ?side1 ?side2 A37.out).mono ?_); (case side1 => repeat (first | exact (Kd.V_reads' HO253.out).2.2 | (with_reducible refine Kd.C_alloc ?_ _) | (with_reducible refine Kd.C_drewN ?_ _) | (with_reducible refine Kd.C_drew ?_))); (case side2 => exact (Kd.V_reads' HO253.out).2.1); rintro e w87 ⟨rfl, hb⟩; refine ⟨_, rfl, ?_⟩; have n0_ := Aside0.mk (Kd.N_below (by (with_reducible repeat (first | apply Kd.N_alloc | apply Kd.N_drewN | apply Kd.N_drew)); exact HO_0.out) hb); have n1_ := Aside0.mk (Kd.V_below (by (with_reducible repeat (first | apply Kd.V_alloc | apply Kd.V_drewN | apply Kd.V_drew)); exact HL242_4.out) hb); have n2_ := Aside0.mk (Kd.V_below (by (with_reducible repeat (first | apply Kd.V_alloc | apply Kd.V_drewN | apply Kd.V_drew)); exact HO248.out) hb); have n3_ := Aside0.mk (Kd.V_below (by (with_reducible repeat (first | apply Kd.V_alloc | apply Kd.V_drewN | apply Kd.V_drew)); exact HO253.out) hb); have n4_ := Aside0.mk (blk_below (g := gb243) (o := .cells #[.int .i64 ((rd_T37 t231 (ji28)).f0), .int .i64 ((rd_T37 t231 (ji28)).f1), .string ((rd_T37 t231 (ji28)).f2), .string ((rd_T37 t231 (ji28)).f3), .slice A242_4 y244.length c242_4] 37 (0, 0)) (by (with_reducible repeat (first | refine blk_drewN ?_ _ | refine blk_drew ?_ | refine blk_alloc ?_ _)); exact BK243.out) hb); have n5_ := Aside0.mk (below_step (by repeat (first | (with_reducible first | exact HB.out | apply below_alloc | apply pw_below_drewN | apply below_drew1 | refine below_set ?_ GE243.out) | exact HB.out)) hb); clear HO_0; clear HL242_4; clear HO248; clear HO253; clear BK243; clear HB; have HO_0 := n0_; have HL242_4 := n1_; have HO248 := n2_; have HO253 := n3_; have BK243 := n4_; have HB := n5_; clear n0_ n1_ n2_ n3_ n4_ n5_; (try clear hb); (try clear hb2); (try clear hk); (try clear hi); have q88 : ((ji28) : Int) ≤ ((t231.length : Int) : Int) := of_decide_eq_true (by first | (with_reducible assumption) | assumption); obtain ⟨i088, hi088, _, hsz88, _⟩ := info_parts info37; have hroom88 : t231.length ≤ co21 := (Kd.N_reads' HO_0.out).2.1; have hC88 : Kd.F k37 _ _ (some ad242) t231.length t231 := (Kd.V_at (base := w.heap.size) (Kd.N_V HO_0.out)).2.2; have q088 : (0 : Int) ≤ ((ji28) : Int) := of_decide_eq_true (by first | (with_reducible assumption) | assumption); have hcut88 := cut_from (P := Try.prog) 32 37 .i64 Try.underlying32 hi088 5 hsz88 (some ad242) t231.length co21 (ji28) q088 q88; have hr88 := Kd.F_cut (m := ((ji28) : Int).toNat) (c := co21) hC88 (by omega) hroom88; obtain ⟨A88, hA88⟩ : ∃ A1, A1 = (if co21 = ((ji28) : Int).toNat then (some ad242) else ((some ad242) : Option Addr).map (·.add (((ji28) : Int).toNat * 5))) := ⟨_, rfl⟩; obtain ⟨c88, hc88⟩ : ∃ c1, c1 = co21 - ((ji28) : Int).toNat := ⟨_, rfl⟩; have hy88 : y255.length = t231.length - ((ji28) : Int).toNat := (by rw [Ny255.out, List.length_drop] <;> omega); rw [show (t231).drop ((ji28) : Int).toNat = y255 from Ny255.out.symm] at hr88; replace hr88 : Kd.F k37 _ _ A88 y255.length y255 := (by rw [hA88]; exact hr88); rw [← hy88, ← hA88, ← hc88] at hcut88; have HO259 := Aside0.mk (show Kd.V k37 37 _ w.heap.size _ (.slice A88 y255.length c88) y255 from Kd.V_mk (by rw [hy88, hc88]; exact Nat.sub_le_sub_right hroom88 _) hr88); have HC259 := Aside0.mk (show y255.length ≤ c88 from by rw [hy88, hc88]; exact Nat.sub_le_sub_right hroom88 _); clear hr88 hC88 hroom88 hi088 hsz88 hc88; have KY88 := Aside0.mk hy88; have KA88 := Aside0.mk hA88; clear hy88 hA88; replace q88 := eq_true q88) | (go_at_call 22; (with_reducible refine (risk_Safe.calls kj19 _ _ y255 false _ ?side1 ?side2 A41.out).mono ?_); (case side1 => repeat (first | exact (Kd.V_reads' HO259.out).2.2 | (with_reducible refine Kd.C_alloc ?_ _) | (with_reducible refine Kd.C_drewN ?_ _) | (with_reducible refine Kd.C_drew ?_))); (case side2 => exact (Kd.V_reads' HO259.out).2.1); rintro e w89 ⟨rfl, hb⟩; have n0_ := Aside0.mk (Kd.N_below (by (with_reducible repeat (first | apply Kd.N_alloc | apply Kd.N_drewN | apply Kd.N_drew)); exact HO_0.out) hb); have n1_ := Aside0.mk (Kd.V_below (by (with_reducible repeat (first | apply Kd.V_alloc | apply Kd.V_drewN | apply Kd.V_drew)); exact HL242_4.out) hb); have n2_ := Aside0.mk (Kd.V_below (by (with_reducible repeat (first | apply Kd.V_alloc | apply Kd.V_drewN | apply Kd.V_drew)); exact HO248.out) hb); have n3_ := Aside0.mk (Kd.V_below (by (with_reducible repeat (first | apply Kd.V_alloc | apply Kd.V_drewN | apply Kd.V_drew)); exact HO253.out) hb); have n4_ := Aside0.mk (Kd.V_below (by (with_reducible repeat (first | apply Kd.V_alloc | apply Kd.V_drewN | apply Kd.V_drew)); exact HO259.out) hb); have n5_ := Aside0.mk (blk_below (g := gb243) (o := .cells #[.int .i64 ((rd_T37 t231 (ji28)).f0), .int .i64 ((rd_T37 t231 (ji28)).f1), .string ((rd_T37 t231 (ji28)).f2), .string ((rd_T37 t231 (ji28)).f3), .slice A242_4 y244.length c242_4] 37 (0, 0)) (by (with_reducible repeat (first | refine blk_drewN ?_ _ | refine blk_drew ?_ | refine blk_alloc ?_ _)); exact BK243.out) hb); have n6_ := Aside0.mk (below_step (by repeat (first | (with_reducible first | exact HB.out | apply below_alloc | apply pw_below_drewN | apply below_drew1 | refine below_set ?_ GE243.out) | exact HB.out)) hb); clear HO_0; clear HL242_4; clear HO248; clear HO253; clear HO259; clear BK243; clear HB; have HO_0 := n0_; have HL242_4 := n1_; have HO248 := n2_; have HO253 := n3_; have HO259 := n4_; have BK243 := n5_; have HB := n6_; clear n0_ n1_ n2_ n3_ n4_ n5_ n6_; (try clear hb); (try clear hb2); (try clear hk); (try clear hi)))
                                  go_ret
                                  exact ⟨by first | rfl | (simp [errW_none, errW_some] <;> rfl) | (simp only [← hji28, ← hji32]; first | rfl | (simp [errW_none, errW_some] <;> rfl)) | (simp [*, errW_none, errW_some] <;> rfl), by repeat (first | (with_reducible first | exact HB.out | apply below_alloc | apply pw_below_drewN | apply below_drew1 | refine below_set ?_ GE243.out) | exact HB.out)⟩
                              · replace c38 := Bool.eq_false_iff.mpr c38
                                subst c38
                                have H1 : (some false) = some r := by rw [if_neg (show ¬ (false = true) by decide)] at H; exact H
                                clear H
                                have H := H1
                                clear H1
                                obtain rfl := Option.some.inj H
                                have p242 : 0 ≤ ((ji28) : Int) := of_decide_eq_true (by first | (with_reducible assumption) | assumption)
                                have q242 : (ji28) < (t231.length : Int) := of_decide_eq_true (by first | (with_reducible assumption) | assumption)
                                obtain ⟨ad242, A242_4, c242_4, e242, hx242_0, hx242_1, hx242_2, hx242_3, hx242_4, hl242_4, hi242_4⟩ := at_T37 (Kd.N_reads' HO_0.out).2.2 (ji28) p242 q242
                                cases e242
                                obtain ⟨ce242, hce242, hMe242, hcc242⟩ := Kd.N_get HO_0.out z37 (ji28) p242 (by first | exact q242 | exact of_decide_eq_true (by first | (with_reducible assumption) | assumption) | (have e_ := (Kd.N_reads' HO_0.out).1; omega))
                                obtain ⟨ua242_4, uc242_4, rfl, ul242_4, ge242_4⟩ := k37_openF hMe242
                                have hv242_4 := hcc242 4 _ rfl
                                rw [add_field _ _ 4 (by omega)] at hv242_4
                                replace hv242_4 := Option.some.inj (hv242_4.symm.trans hx242_4)
                                injection hv242_4 with hva_ hvn_ hvc_
                                rw [hva_] at ge242_4
                                rw [hvc_] at ul242_4
                                have HL242_4 := Aside0.mk (show Kd.V k30 30 _ w.heap.size _ _ ((rd_T37 t231 (ji28)).f4) from Kd.V_mk ul242_4 ge242_4)
                                clear hva_ hvn_ hvc_ ge242_4 ul242_4
                                clear hcc242 hce242
                                have HR242_4 := Aside0.mk hi242_4
                                have HC242_4 := Aside0.mk hl242_4
                                clear hi242_4 hl242_4
                                replace p242 := eq_true p242
                                replace q242 := eq_true q242
                                try go_wp2_with (first | ((with_reducible refine gate_dst (N := 10) rfl ?_); (try (refine gate_guard (by rfl) ?_; dsimp only)); refine box_event ?hg (N := 10) ?hd (cs := #[.int .i64 0, .int .i64 0, .string (⟨#[]⟩ : ByteArray), .string (⟨#[]⟩ : ByteArray), .slice none 0 0]) (t := 37) ?hr ?_; (case hd => rfl); (case hg => rfl); (case hr => first | (go_simp; done) | (go_simp; rfl)); intro gb243 hg w90 hbox hb; have n0_ := Aside0.mk (Kd.N_below (Kd.N_elderB (by (with_reducible repeat (first | apply Kd.N_alloc | apply Kd.N_drewN | apply Kd.N_drew)); exact HO_0.out) gb243 (Nat.le_of_eq hg.symm)) hb); have n1_ := Aside0.mk (Kd.V_below (Kd.V_elderB (by (with_reducible repeat (first | apply Kd.V_alloc | apply Kd.V_drewN | apply Kd.V_drew)); exact HL242_4.out) gb243 (Nat.le_of_eq hg.symm)) hb); have n2_ := Aside0.mk (Kd.C_below (by repeat (first | (with_reducible exact HR242_4.out) | (with_reducible refine Kd.C_alloc ?_ _) | (with_reducible refine Kd.C_drewN ?_ _) | (with_reducible refine Kd.C_drew ?_) | exact HR242_4.out)) hb); have n3_ := Aside0.mk (below_step (by repeat (first | (with_reducible first | exact HB.out | apply below_alloc | apply pw_below_drewN | apply below_drew1) | exact HB.out)) hb); have n4_ := Aside0.mk (hbox); have n5_ := Aside0.mk ((by rw [hg]; exact (below_size (by repeat (first | (with_reducible first | exact HB.out | apply below_alloc | apply pw_below_drewN | apply below_drew1) | exact HB.out))) : w.heap.size ≤ gb243)); have n6_ := Aside0.mk ((by rw [hg]; exact (below_size (by repeat (first | (with_reducible first | exact HB.out | apply below_alloc | apply pw_below_drewN | apply below_drew1) | exact HB.out))) : w.heap.size ≤ gb243)); clear HO_0; clear HL242_4; clear HR242_4; clear HB; have HO_0 := n0_; have HL242_4 := n1_; have HR242_4 := n2_; have HB := n3_; have BK243 := n4_; have GW243 := n5_; have GE243 := n6_; clear n0_ n1_ n2_ n3_ n4_ n5_ n6_; clear hb hbox hg; have hcz91_0 : w90.cell? ⟨gb243, 0, none⟩ = some (.int .i64 0) := (blk_cell BK243.out 0).trans rfl; have hcz91_1 : w90.cell? ⟨gb243, 1, none⟩ = some (.int .i64 0) := (blk_cell BK243.out 1).trans rfl; have hcz91_2 : w90.cell? ⟨gb243, 2, none⟩ = some (.string (⟨#[]⟩ : ByteArray)) := (blk_cell BK243.out 2).trans rfl; have hcz91_3 : w90.cell? ⟨gb243, 3, none⟩ = some (.string (⟨#[]⟩ : ByteArray)) := (blk_cell BK243.out 3).trans rfl; have hcz91_4 : w90.cell? ⟨gb243, 4, none⟩ = some (.slice none 0 0) := (blk_cell BK243.out 4).trans rfl; have hfz91_0 := blk_frozen BK243.out 0; have hfz91_1 := blk_frozen BK243.out 1; have hfz91_2 := blk_frozen BK243.out 2; have hfz91_3 := blk_frozen BK243.out 3; have hfz91_4 := blk_frozen BK243.out 4))
                                have n0_ : Aside0 (Kd.N k37 37 (((((w90.setCell ⟨gb243, 0, none⟩ (.int .i64 ((rd_T37 t231 (ji28)).f0))).setCell ⟨gb243, 1, none⟩ (.int .i64 ((rd_T37 t231 (ji28)).f1))).setCell ⟨gb243, 2, none⟩ (.string ((rd_T37 t231 (ji28)).f2))).setCell ⟨gb243, 3, none⟩ (.string ((rd_T37 t231 (ji28)).f3))).setCell ⟨gb243, 4, none⟩ (.slice A242_4 ((rd_T37 t231 (ji28)).f4).length c242_4)) w.heap.size (fun k_ => k_ ≠ gb243) (.slice (some ad242) t231.length co21) t231) := ⟨by (with_reducible repeat (first | apply Kd.N_alloc | apply Kd.N_drewN | apply Kd.N_drew)); exact Kd.N_mono (Kd.N_far (p := ⟨gb243, 4, none⟩) (Kd.N_far (p := ⟨gb243, 3, none⟩) (Kd.N_far (p := ⟨gb243, 2, none⟩) (Kd.N_far (p := ⟨gb243, 1, none⟩) (Kd.N_far (p := ⟨gb243, 0, none⟩) (Kd.N_mono HO_0.out (fun k_ hk => (⟨hk, hk.2⟩ : _ ∧ k_ ≠ gb243))) (fun _ hk => hk.2) (.int .i64 ((rd_T37 t231 (ji28)).f0))) (fun _ hk => hk.2) (.int .i64 ((rd_T37 t231 (ji28)).f1))) (fun _ hk => hk.2) (.string ((rd_T37 t231 (ji28)).f2))) (fun _ hk => hk.2) (.string ((rd_T37 t231 (ji28)).f3))) (fun _ hk => hk.2) (.slice A242_4 ((rd_T37 t231 (ji28)).f4).length c242_4)) (fun _ hk => hk.1.2)⟩
                                have n1_ : Aside0 (Kd.V k30 30 (((((w90.setCell ⟨gb243, 0, none⟩ (.int .i64 ((rd_T37 t231 (ji28)).f0))).setCell ⟨gb243, 1, none⟩ (.int .i64 ((rd_T37 t231 (ji28)).f1))).setCell ⟨gb243, 2, none⟩ (.string ((rd_T37 t231 (ji28)).f2))).setCell ⟨gb243, 3, none⟩ (.string ((rd_T37 t231 (ji28)).f3))).setCell ⟨gb243, 4, none⟩ (.slice A242_4 ((rd_T37 t231 (ji28)).f4).length c242_4)) w.heap.size (fun k_ => some k_ ≠ (.slice (some ad242) t231.length co21 : Value).ownBlock ∧ k_ ≠ gb243) (.slice A242_4 ((rd_T37 t231 (ji28)).f4).length c242_4) ((rd_T37 t231 (ji28)).f4)) := ⟨by (with_reducible repeat (first | apply Kd.V_alloc | apply Kd.V_drewN | apply Kd.V_drew)); exact Kd.V_mono (Kd.V_far (p := ⟨gb243, 4, none⟩) (Kd.V_far (p := ⟨gb243, 3, none⟩) (Kd.V_far (p := ⟨gb243, 2, none⟩) (Kd.V_far (p := ⟨gb243, 1, none⟩) (Kd.V_far (p := ⟨gb243, 0, none⟩) (Kd.V_mono HL242_4.out (fun k_ hk => (⟨hk, hk.2⟩ : _ ∧ k_ ≠ gb243))) (fun _ hk => hk.2) (.int .i64 ((rd_T37 t231 (ji28)).f0))) (fun _ hk => hk.2) (.int .i64 ((rd_T37 t231 (ji28)).f1))) (fun _ hk => hk.2) (.string ((rd_T37 t231 (ji28)).f2))) (fun _ hk => hk.2) (.string ((rd_T37 t231 (ji28)).f3))) (fun _ hk => hk.2) (.slice A242_4 ((rd_T37 t231 (ji28)).f4).length c242_4)) (fun _ hk => ⟨hk.1.1.2, hk.1.2⟩)⟩
                                have n2_ : Aside0 ((((((w90.setCell ⟨gb243, 0, none⟩ (.int .i64 ((rd_T37 t231 (ji28)).f0))).setCell ⟨gb243, 1, none⟩ (.int .i64 ((rd_T37 t231 (ji28)).f1))).setCell ⟨gb243, 2, none⟩ (.string ((rd_T37 t231 (ji28)).f2))).setCell ⟨gb243, 3, none⟩ (.string ((rd_T37 t231 (ji28)).f3))).setCell ⟨gb243, 4, none⟩ (.slice A242_4 ((rd_T37 t231 (ji28)).f4).length c242_4)).heap[gb243]? = some (.cells #[.int .i64 ((rd_T37 t231 (ji28)).f0), .int .i64 ((rd_T37 t231 (ji28)).f1), .string ((rd_T37 t231 (ji28)).f2), .string ((rd_T37 t231 (ji28)).f3), .slice A242_4 ((rd_T37 t231 (ji28)).f4).length c242_4] 37 (0, 0))) := ⟨by (with_reducible repeat (first | refine blk_drewN ?_ _ | refine blk_drew ?_ | refine blk_alloc ?_ _)); refine blk_put (cs := #[.int .i64 ((rd_T37 t231 (ji28)).f0), .int .i64 ((rd_T37 t231 (ji28)).f1), .string ((rd_T37 t231 (ji28)).f2), .string ((rd_T37 t231 (ji28)).f3), .slice none 0 0]) ?_ 4 _ rfl; (with_reducible repeat (first | refine blk_drewN ?_ _ | refine blk_drew ?_ | refine blk_alloc ?_ _)); refine blk_put (cs := #[.int .i64 ((rd_T37 t231 (ji28)).f0), .int .i64 ((rd_T37 t231 (ji28)).f1), .string ((rd_T37 t231 (ji28)).f2), .string (⟨#[]⟩ : ByteArray), .slice none 0 0]) ?_ 3 _ rfl; (with_reducible repeat (first | refine blk_drewN ?_ _ | refine blk_drew ?_ | refine blk_alloc ?_ _)); refine blk_put (cs := #[.int .i64 ((rd_T37 t231 (ji28)).f0), .int .i64 ((rd_T37 t231 (ji28)).f1), .string (⟨#[]⟩ : ByteArray), .string (⟨#[]⟩ : ByteArray), .slice none 0 0]) ?_ 2 _ rfl; (with_reducible repeat (first | refine blk_drewN ?_ _ | refine blk_drew ?_ | refine blk_alloc ?_ _)); refine blk_put (cs := #[.int .i64 ((rd_T37 t231 (ji28)).f0), .int .i64 0, .string (⟨#[]⟩ : ByteArray), .string (⟨#[]⟩ : ByteArray), .slice none 0 0]) ?_ 1 _ rfl; (with_reducible repeat (first | refine blk_drewN ?_ _ | refine blk_drew ?_ | refine blk_alloc ?_ _)); refine blk_put (cs := #[.int .i64 0, .int .i64 0, .string (⟨#[]⟩ : ByteArray), .string (⟨#[]⟩ : ByteArray), .slice none 0 0]) ?_ 0 _ rfl; (with_reducible repeat (first | refine blk_drewN ?_ _ | refine blk_drew ?_ | refine blk_alloc ?_ _)); exact BK243.out⟩
                                have n3_ : Aside0 (Below w.heap.size w (((((w90.setCell ⟨gb243, 0, none⟩ (.int .i64 ((rd_T37 t231 (ji28)).f0))).setCell ⟨gb243, 1, none⟩ (.int .i64 ((rd_T37 t231 (ji28)).f1))).setCell ⟨gb243, 2, none⟩ (.string ((rd_T37 t231 (ji28)).f2))).setCell ⟨gb243, 3, none⟩ (.string ((rd_T37 t231 (ji28)).f3))).setCell ⟨gb243, 4, none⟩ (.slice A242_4 ((rd_T37 t231 (ji28)).f4).length c242_4))) := ⟨by repeat (first | (with_reducible first | exact HB.out | apply below_alloc | apply pw_below_drewN | apply below_drew1 | refine below_set ?_ GE243.out) | exact HB.out)⟩
                                (try clear HO_0)
                                (try clear HL242_4)
                                (try clear BK243)
                                (try clear HB)
                                generalize (((((w90.setCell ⟨gb243, 0, none⟩ (.int .i64 ((rd_T37 t231 (ji28)).f0))).setCell ⟨gb243, 1, none⟩ (.int .i64 ((rd_T37 t231 (ji28)).f1))).setCell ⟨gb243, 2, none⟩ (.string ((rd_T37 t231 (ji28)).f2))).setCell ⟨gb243, 3, none⟩ (.string ((rd_T37 t231 (ji28)).f3))).setCell ⟨gb243, 4, none⟩ (.slice A242_4 ((rd_T37 t231 (ji28)).f4).length c242_4)) = w92 at n0_ n1_ n2_ n3_ ⊢
                                have HO_0 := n0_
                                have HL242_4 := n1_
                                have BK243 := n2_
                                have HB := n3_
                                clear n0_ n1_ n2_ n3_
                                have n0_ := Aside0.mk (Kd.N_drew HO_0.out)
                                have n1_ := Aside0.mk (Kd.V_drew HL242_4.out)
                                have n2_ := Aside0.mk (blk_drew BK243.out)
                                have n3_ := Aside0.mk (below_drew1 HB.out)
                                clear HO_0
                                clear HL242_4
                                clear BK243
                                clear HB
                                have HO_0 := n0_
                                have HL242_4 := n1_
                                have BK243 := n2_
                                have HB := n3_
                                clear n0_ n1_ n2_ n3_
                                have q94 : ((ji32) : Int) ≤ ((((rd_T37 t231 (ji28)).f4).length : Int) : Int) := of_decide_eq_true (by first | (with_reducible assumption) | assumption)
                                obtain ⟨i094, hi094, _, hsz94, _⟩ := info_parts info30
                                have hroom94 : ((rd_T37 t231 (ji28)).f4).length ≤ c242_4 := HC242_4.out
                                have hC94 : Kd.F k30 _ _ A242_4 ((rd_T37 t231 (ji28)).f4).length ((rd_T37 t231 (ji28)).f4) := (Kd.V_at (base := w.heap.size) HL242_4.out).2.2
                                have hcut94 := cut_to (P := Try.prog) 35 30 .i64 Try.underlying35 hi094 A242_4 ((rd_T37 t231 (ji28)).f4).length c242_4 (ji32) (of_decide_eq_true (by first | (with_reducible assumption) | assumption)) q94 hroom94
                                have hr94 := Kd.F_take (m := ((ji32) : Int).toNat) hC94 (by omega)
                                have hy94 : y244.length = ((ji32) : Int).toNat := (by rw [Ny244.out, List.length_take]; omega)
                                rw [← Ny244.out] at hr94
                                rw [← hy94] at hcut94
                                have HO248 := Aside0.mk (show Kd.V k30 30 _ w.heap.size _ (.slice A242_4 y244.length c242_4) y244 from Kd.V_mk (by omega) hr94)
                                have HC248 := Aside0.mk (show y244.length ≤ c242_4 from by omega)
                                clear hr94 hC94 hroom94 hi094 hsz94
                                have KY94 := Aside0.mk hy94
                                clear hy94
                                replace q94 := eq_true q94
                                refine start_ (n := 12) (S := fun w' => w'.cell? ⟨gb243, 0, none⟩ = some (.int .i64 ((rd_T37 t231 (ji28)).f0)) ∧ w'.cell? ⟨gb243, 1, none⟩ = some (.int .i64 ((rd_T37 t231 (ji28)).f1)) ∧ w'.cell? ⟨gb243, 2, none⟩ = some (.string ((rd_T37 t231 (ji28)).f2)) ∧ w'.cell? ⟨gb243, 3, none⟩ = some (.string ((rd_T37 t231 (ji28)).f3)) ∧ w'.cell? ⟨gb243, 4, none⟩ = some (.slice A242_4 ((rd_T37 t231 (ji28)).f4).length c242_4)) (ds := [11]) #[false, false, false, false, false, false, false, false, false, false, false, false] (by kernel_rfl) rfl rfl ⟨(blk_cell BK243.out 0).trans rfl, (blk_cell BK243.out 1).trans rfl, (blk_cell BK243.out 2).trans rfl, (blk_cell BK243.out 3).trans rfl, (blk_cell BK243.out 4).trans rfl⟩ (fun hHeld => ?_); refine with_tabW boltinglaw10_RiskParts.tab13 boltinglaw10_RiskParts.bits13 (fun HT_ HW_ => ?_)
                                generalize w92.drew = w93 at HO_0 HL242_4 BK243 HB HO248 hHeld ⊢
                                refine pure_ (i := 0) (N := some 49) (v := ?_) (a' := ?_) #[true, false, false, false, false, false, false, false, false, false, false, false] rfl rfl (any_of HT_.out (by kernel_rfl)) (fun _ _ _ h => h) (Or.inl ⟨by rfl, ?_⟩) ?_ ?_
                                rotate_left
                                · intro w'
                                  go_simp
                                  with_reducible rfl
                                rotate_left
                                · simp only [Act.put, List.setIfInBounds_toArray, List.set_cons_zero, List.set_cons_succ, i64_w, i32_w]
                                  rfl
                                refine pure_ (i := 2) (N := some 51) (v := ?_) (a' := ?_) #[true, false, true, false, false, false, false, false, false, false, false, false] rfl rfl (any_of HT_.out (by kernel_rfl)) (fun _ _ _ h => h) (Or.inl ⟨by rfl, ?_⟩) ?_ ?_
                                rotate_left
                                · intro w'
                                  go_simp
                                  with_reducible rfl
                                rotate_left
                                · simp only [Act.put, List.setIfInBounds_toArray, List.set_cons_zero, List.set_cons_succ, i64_w, i32_w]
                                  rfl
                                refine pure_ (i := 3) (N := some 52) (v := ?_) (a' := ?_) #[true, false, true, true, false, false, false, false, false, false, false, false] rfl rfl (any_of HT_.out (by kernel_rfl)) (fun _ _ _ h => h) (Or.inl ⟨by rfl, ?_⟩) ?_ ?_
                                rotate_left
                                · intro w'
                                  go_simp
                                  with_reducible rfl
                                rotate_left
                                · simp only [Act.put, List.setIfInBounds_toArray, List.set_cons_zero, List.set_cons_succ, i64_w, i32_w]
                                  rfl
                                refine pure_ (i := 4) (N := some 53) (v := ?_) (a' := ?_) #[true, false, true, true, true, false, false, false, false, false, false, false] rfl rfl (any_of HT_.out (by kernel_rfl)) (fun _ _ _ h => h) (Or.inl ⟨by rfl, ?_⟩) ?_ ?_
                                rotate_left
                                · intro w'
                                  go_simp
                                  with_reducible rfl
                                rotate_left
                                · simp only [Act.put, List.setIfInBounds_toArray, List.set_cons_zero, List.set_cons_succ, i64_w, i32_w]
                                  rfl
                                refine take_ (i := 1) (N := some 50) (v := ?_) (a' := ?_) #[true, true, true, true, true, false, false, false, false, false, false, false] rfl rfl (take_ofW HT_.out HW_.out (by kernel_rfl)) (fun _ _ _ h => h) (Or.inl ⟨by rfl, ?_⟩) hHeld ?_ ?_
                                rotate_left
                                · rintro w' ⟨s0, s1, s2, s3, s4⟩
                                  go_simp
                                  with_reducible rfl
                                rotate_left
                                · simp only [Act.put, List.setIfInBounds_toArray, List.set_cons_zero, List.set_cons_succ, i64_w, i32_w]
                                  rfl
                                refine take_ (i := 5) (N := some 54) (v := ?_) (a' := ?_) #[true, true, true, true, true, true, false, false, false, false, false, false] rfl rfl (take_ofW HT_.out HW_.out (by kernel_rfl)) (fun _ _ _ h => h) (Or.inl ⟨by rfl, ?_⟩) hHeld ?_ ?_
                                rotate_left
                                · rintro w' ⟨s0, s1, s2, s3, s4⟩
                                  go_simp
                                  with_reducible rfl
                                rotate_left
                                · simp only [Act.put, List.setIfInBounds_toArray, List.set_cons_zero, List.set_cons_succ, i64_w, i32_w]
                                  rfl
                                refine pure_ (i := 6) (N := some 55) (v := ?_) (a' := ?_) #[true, true, true, true, true, true, true, false, false, false, false, false] rfl rfl (any_of HT_.out (by kernel_rfl)) (fun _ _ _ h => h) (Or.inl ⟨by rfl, ?_⟩) ?_ ?_
                                rotate_left
                                · intro w'
                                  go_simp
                                  with_reducible rfl
                                rotate_left
                                · simp only [Act.put, List.setIfInBounds_toArray, List.set_cons_zero, List.set_cons_succ, i64_w, i32_w]
                                  rfl
                                refine pure_ (i := 7) (N := some 56) (v := ?_) (a' := ?_) #[true, true, true, true, true, true, true, true, false, false, false, false] rfl rfl (any_of HT_.out (by kernel_rfl)) (fun _ _ _ h => h) (Or.inl ⟨by rfl, ?_⟩) ?_ ?_
                                rotate_left
                                · intro w'
                                  go_simp
                                  with_reducible rfl
                                rotate_left
                                · simp only [Act.put, List.setIfInBounds_toArray, List.set_cons_zero, List.set_cons_succ, i64_w, i32_w]
                                  rfl
                                refine pure_ (i := 8) (N := some 57) (v := ?_) (a' := ?_) #[true, true, true, true, true, true, true, true, true, false, false, false] rfl rfl (any_of HT_.out (by kernel_rfl)) (fun _ _ _ h => h) (Or.inl ⟨by rfl, ?_⟩) ?_ ?_
                                rotate_left
                                · intro w'
                                  go_simp
                                  with_reducible rfl
                                rotate_left
                                · simp only [Act.put, List.setIfInBounds_toArray, List.set_cons_zero, List.set_cons_succ, i64_w, i32_w]
                                  rfl
                                refine pure_ (i := 9) (N := some 58) (v := ?_) (a' := ?_) #[true, true, true, true, true, true, true, true, true, true, false, false] rfl rfl (any_of HT_.out (by kernel_rfl)) (fun _ _ _ h => h) (Or.inl ⟨by rfl, ?_⟩) ?_ ?_
                                rotate_left
                                · intro w'
                                  go_simp
                                  with_reducible rfl
                                rotate_left
                                · simp only [Act.put, List.setIfInBounds_toArray, List.set_cons_zero, List.set_cons_succ, i64_w, i32_w]
                                  rfl
                                refine pure_ (i := 10) (N := some 59) (v := ?_) (a' := ?_) #[true, true, true, true, true, true, true, true, true, true, true, false] rfl rfl (any_of HT_.out (by kernel_rfl)) (fun _ _ _ h => h) (Or.inl ⟨by rfl, ?_⟩) ?_ ?_
                                rotate_left
                                · intro w'
                                  go_simp
                                  with_reducible rfl
                                rotate_left
                                · simp only [Act.put, List.setIfInBounds_toArray, List.set_cons_zero, List.set_cons_succ, i64_w, i32_w]
                                  rfl
                                refine last_ (i := 11) (N := none) #[true, true, true, true, true, true, true, true, true, true, true, true] rfl rfl (one_of HT_.out (by kernel_rfl)) (by decide) (fun K hK => ?_)
                                have hs95 : w93.cell? ⟨gb243, 4, none⟩ = some (.slice A242_4 ((rd_T37 t231 (ji28)).f4).length c242_4) := (blk_cell BK243.out 4).trans rfl
                                have hfs95 := blk_frozen BK243.out 4
                                refine skip_ (w1 := ?_) (by rfl) rfl ?_ ?_
                                rotate_left
                                · go_simp
                                  rfl
                                refine hK.out _ _ ?_
                                clear hK K
                                refine done_ (done_of HT_.out (by kernel_rfl)) ?_
                                have n0_ : Aside0 (Kd.N k37 37 (w93.setCell ⟨gb243, 4, none⟩ (.slice A242_4 y244.length c242_4)) w.heap.size (fun k_ => k_ ≠ gb243) (.slice (some ad242) t231.length co21) t231) := ⟨by (with_reducible repeat (first | apply Kd.N_alloc | apply Kd.N_drewN | apply Kd.N_drew)); exact Kd.N_mono (Kd.N_far (p := ⟨gb243, 4, none⟩) (Kd.N_mono HO_0.out (fun k_ hk => (⟨hk, hk⟩ : _ ∧ k_ ≠ gb243))) (fun _ hk => hk.2) (.slice A242_4 y244.length c242_4)) (fun _ hk => hk.1)⟩
                                have n1_ : Aside0 (Kd.V k30 30 (w93.setCell ⟨gb243, 4, none⟩ (.slice A242_4 y244.length c242_4)) w.heap.size (fun k_ => some k_ ≠ (.slice (some ad242) t231.length co21 : Value).ownBlock ∧ k_ ≠ gb243) (.slice A242_4 ((rd_T37 t231 (ji28)).f4).length c242_4) ((rd_T37 t231 (ji28)).f4)) := ⟨by (with_reducible repeat (first | apply Kd.V_alloc | apply Kd.V_drewN | apply Kd.V_drew)); exact Kd.V_mono (Kd.V_far (p := ⟨gb243, 4, none⟩) (Kd.V_mono HL242_4.out (fun k_ hk => (⟨hk, hk.2⟩ : _ ∧ k_ ≠ gb243))) (fun _ hk => hk.2) (.slice A242_4 y244.length c242_4)) (fun _ hk => ⟨hk.1.1, hk.1.2⟩)⟩
                                have n2_ : Aside0 (Kd.V k30 30 (w93.setCell ⟨gb243, 4, none⟩ (.slice A242_4 y244.length c242_4)) w.heap.size (fun k_ => some k_ ≠ (.slice (some ad242) t231.length co21 : Value).ownBlock ∧ k_ ≠ gb243) (.slice A242_4 y244.length c242_4) y244) := ⟨by (with_reducible repeat (first | apply Kd.V_alloc | apply Kd.V_drewN | apply Kd.V_drew)); exact Kd.V_mono (Kd.V_far (p := ⟨gb243, 4, none⟩) (Kd.V_mono HO248.out (fun k_ hk => (⟨hk, hk.2⟩ : _ ∧ k_ ≠ gb243))) (fun _ hk => hk.2) (.slice A242_4 y244.length c242_4)) (fun _ hk => ⟨hk.1.1, hk.1.2⟩)⟩
                                have n3_ : Aside0 ((w93.setCell ⟨gb243, 4, none⟩ (.slice A242_4 y244.length c242_4)).heap[gb243]? = some (.cells #[.int .i64 ((rd_T37 t231 (ji28)).f0), .int .i64 ((rd_T37 t231 (ji28)).f1), .string ((rd_T37 t231 (ji28)).f2), .string ((rd_T37 t231 (ji28)).f3), .slice A242_4 y244.length c242_4] 37 (0, 0))) := ⟨by (with_reducible repeat (first | refine blk_drewN ?_ _ | refine blk_drew ?_ | refine blk_alloc ?_ _)); refine blk_put (cs := #[.int .i64 ((rd_T37 t231 (ji28)).f0), .int .i64 ((rd_T37 t231 (ji28)).f1), .string ((rd_T37 t231 (ji28)).f2), .string ((rd_T37 t231 (ji28)).f3), .slice A242_4 ((rd_T37 t231 (ji28)).f4).length c242_4]) ?_ 4 _ rfl; (with_reducible repeat (first | refine blk_drewN ?_ _ | refine blk_drew ?_ | refine blk_alloc ?_ _)); exact BK243.out⟩
                                have n4_ : Aside0 (Below w.heap.size w (w93.setCell ⟨gb243, 4, none⟩ (.slice A242_4 y244.length c242_4))) := ⟨by repeat (first | (with_reducible first | exact HB.out | apply below_alloc | apply pw_below_drewN | apply below_drew1 | refine below_set ?_ GE243.out) | exact HB.out)⟩
                                (try clear HO_0)
                                (try clear HL242_4)
                                (try clear HO248)
                                (try clear BK243)
                                (try clear HB)
                                generalize (w93.setCell ⟨gb243, 4, none⟩ (.slice A242_4 y244.length c242_4)) = w96 at n0_ n1_ n2_ n3_ n4_ ⊢
                                have HO_0 := n0_
                                have HL242_4 := n1_
                                have HO248 := n2_
                                have BK243 := n3_
                                have HB := n4_
                                clear n0_ n1_ n2_ n3_ n4_
                                have q97 : ((ji28) : Int) ≤ ((t231.length : Int) : Int) := of_decide_eq_true (by first | (with_reducible assumption) | assumption)
                                obtain ⟨i097, hi097, _, hsz97, _⟩ := info_parts info37
                                have hroom97 : t231.length ≤ co21 := (Kd.N_reads' HO_0.out).2.1
                                have hC97 : Kd.F k37 _ _ (some ad242) t231.length t231 := (Kd.V_at (base := w.heap.size) (Kd.N_V HO_0.out)).2.2
                                have hcut97 := cut_to (P := Try.prog) 32 37 .i64 Try.underlying32 hi097 (some ad242) t231.length co21 (ji28) (of_decide_eq_true (by first | (with_reducible assumption) | assumption)) q97 hroom97
                                have hr97 := Kd.F_take (m := ((ji28) : Int).toNat) hC97 (by omega)
                                have hy97 : y249.length = ((ji28) : Int).toNat := (by rw [Ny249.out, List.length_take]; omega)
                                rw [← Ny249.out] at hr97
                                rw [← hy97] at hcut97
                                have HO253 := Aside0.mk (show Kd.V k37 37 _ w.heap.size _ (.slice (some ad242) y249.length co21) y249 from Kd.V_mk (by omega) hr97)
                                have HC253 := Aside0.mk (show y249.length ≤ co21 from by omega)
                                clear hr97 hC97 hroom97 hi097 hsz97
                                have KY97 := Aside0.mk hy97
                                clear hy97
                                replace q97 := eq_true q97
                                try go_wp2_with (first | ((with_reducible refine gate_callee (f := 22) rfl ?_); refine goesL_ (some 63) rfl rfl Try.func22 (by kernel_rfl) rfl #[.slice (some ad242) y249.length co21] rfl (by (try simp only [List.map_toArray, List.map_cons, List.map_nil]); first | done | rfl | (simp only [List.length_drop, List.length_take]; rfl)) ?_; (with_reducible refine (risk_Safe.calls kj19 _ _ y249 false _ ?side1 ?side2 A37.out).mono ?_); (case side1 => repeat (first | exact (Kd.V_reads' HO253.out).2.2 | (with_reducible refine Kd.C_alloc ?_ _) | (with_reducible refine Kd.C_drewN ?_ _) | (with_reducible refine Kd.C_drew ?_))); (case side2 => exact (Kd.V_reads' HO253.out).2.1); rintro e w98 ⟨rfl, hb⟩; refine ⟨_, rfl, ?_⟩; have n0_ := Aside0.mk (Kd.N_below (by (with_reducible repeat (first | apply Kd.N_alloc | apply Kd.N_drewN | apply Kd.N_drew)); exact HO_0.out) hb); have n1_ := Aside0.mk (Kd.V_below (by (with_reducible repeat (first | apply Kd.V_alloc | apply Kd.V_drewN | apply Kd.V_drew)); exact HL242_4.out) hb); have n2_ := Aside0.mk (Kd.V_below (by (with_reducible repeat (first | apply Kd.V_alloc | apply Kd.V_drewN | apply Kd.V_drew)); exact HO248.out) hb); have n3_ := Aside0.mk (Kd.V_below (by (with_reducible repeat (first | apply Kd.V_alloc | apply Kd.V_drewN | apply Kd.V_drew)); exact HO253.out) hb); have n4_ := Aside0.mk (blk_below (g := gb243) (o := .cells #[.int .i64 ((rd_T37 t231 (ji28)).f0), .int .i64 ((rd_T37 t231 (ji28)).f1), .string ((rd_T37 t231 (ji28)).f2), .string ((rd_T37 t231 (ji28)).f3), .slice A242_4 y244.length c242_4] 37 (0, 0)) (by (with_reducible repeat (first | refine blk_drewN ?_ _ | refine blk_drew ?_ | refine blk_alloc ?_ _)); exact BK243.out) hb); have n5_ := Aside0.mk (below_step (by repeat (first | (with_reducible first | exact HB.out | apply below_alloc | apply pw_below_drewN | apply below_drew1 | refine below_set ?_ GE243.out) | exact HB.out)) hb); clear HO_0; clear HL242_4; clear HO248; clear HO253; clear BK243; clear HB; have HO_0 := n0_; have HL242_4 := n1_; have HO248 := n2_; have HO253 := n3_; have BK243 := n4_; have HB := n5_; clear n0_ n1_ n2_ n3_ n4_ n5_; (try clear hb); (try clear hb2); (try clear hk); (try clear hi)))
                                go_ret
                                exact ⟨by first | rfl | (simp [errW_none, errW_some] <;> rfl) | (simp only [← hji28, ← hji32]; first | rfl | (simp [errW_none, errW_some] <;> rfl)) | (simp [*, errW_none, errW_some] <;> rfl), by repeat (first | (with_reducible first | exact HB.out | apply below_alloc | apply pw_below_drewN | apply below_drew1 | refine below_set ?_ GE243.out) | exact HB.out)⟩
                            · rw [if_neg c36] at H
                              exact absurd H (by simp)
                          · rw [if_neg c34] at H
                            exact absurd H (by simp)
                        · rw [if_neg c33] at H
                          exact absurd H (by simp)
                    · rw [if_neg c30] at H
                      exact absurd H (by simp)
                  · rw [if_neg c29] at H
                    exact absurd H (by simp)

end Go.Proofs.Ytejdfmghcgkojaa.Pr
