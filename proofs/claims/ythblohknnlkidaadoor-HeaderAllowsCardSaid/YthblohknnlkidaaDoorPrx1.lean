-- Written by wip/tools/pr.sh out of Lean's own print of the translation. Not trusted: Lean checks it.
import Derived.Test.YthblohknnlkidaaDoorPrx0
namespace Go.Proofs.YthblohknnlkidaaDoor.Pr
open Go.RowKit Go.Proofs.YthblohknnlkidaaDoorW.PrintWords Go.Proofs.YthblohknnlkidaaDoorW.PrintLast Go.Proofs.YthblohknnlkidaaDoorW.PrintMore
attribute [local go_sem] max2_int min2_int max_two min_two max_three min_three max_four min_four   -- for this text's walks alone
set_option linter.unusedVariables false
set_option linter.unusedSimpArgs false

/-! ### header_Parts: function 12 -/
mutual
def header_Parts.l0 : Nat → List (List ByteArray) → List ByteArray → Int → Int → Option ((List (List ByteArray)))
  | 0, _, _, _, _ => none
  | k + 1, x3, x10, x11, x12 => if x12 < x11 then (if 0 ≤ x12 then (if x12 < (x10.length : Int) then ((fold_Words.f (rdOf ByteArray.empty x10 x12)).bind fun t105 => (if (t105.length : Int) = 0 then (header_Parts.l0 k x3 x10 x11 (wrap64 (x12 + 1))) else (if 0 < (t105.length : Int) then ((fold_Lower.f (rdOf ByteArray.empty t105 0)).bind fun t109 => (header_Parts.l1 k x3 (t105.set (0 : Int).toNat t109) x10 x11 x12 x3 (x3.length : Int) 0)) else (none)))) else (none)) else (none)) else (some x3)
def header_Parts.l1 : Nat → List (List ByteArray) → List ByteArray → List ByteArray → Int → Int → List (List ByteArray) → Int → Int → Option ((List (List ByteArray)))
  | 0, _, _, _, _, _, _, _, _ => none
  | k + 1, x3, x6, x10, x11, x12, x27, x28, x29 => if x29 < x28 then (if 0 ≤ x29 then (if x29 < (x27.length : Int) then (if 0 < ((rd_L1 x27 x29).length : Int) then (if 0 < (x6.length : Int) then (if (rdOf ByteArray.empty (rd_L1 x27 x29) 0).toList = (rdOf ByteArray.empty x6 0).toList then (header_Parts.l0 k x3 x10 x11 (wrap64 (x12 + 1))) else (header_Parts.l1 k x3 x6 x10 x11 x12 x27 x28 (wrap64 (x29 + 1)))) else (none)) else (none)) else (none)) else (none)) else (if x3.length < 5864062014805 then (header_Parts.l0 k (x3 ++ [x6]) x10 x11 (wrap64 (x12 + 1))) else (none))
end
def header_Parts.f (k : Nat) (a0 : ByteArray) : Option ((List (List ByteArray))) := (strings_Split.f a0 (⟨#[59]⟩ : ByteArray)).bind fun t101 => (header_Parts.l0 k ([] : List (List ByteArray)) t101 (t101.length : Int) 0)
theorem header_Parts.mono_l : ∀ k, (∀ y0 y1 y2 y3, LeO (header_Parts.l0 k y0 y1 y2 y3) (header_Parts.l0 (k + 1) y0 y1 y2 y3)) ∧ (∀ y0 y1 y2 y3 y4 y5 y6 y7, LeO (header_Parts.l1 k y0 y1 y2 y3 y4 y5 y6 y7) (header_Parts.l1 (k + 1) y0 y1 y2 y3 y4 y5 y6 y7))
  | 0 => ⟨fun _ _ _ _ r h => by simp [header_Parts.l0] at h, fun _ _ _ _ _ _ _ _ r h => by simp [header_Parts.l1] at h⟩
  | k + 1 => by
    obtain ⟨ih0, ih1⟩ := header_Parts.mono_l k
    refine ⟨?_, ?_⟩
    · intro y0 y1 y2 y3
      unfold header_Parts.l0
      repeat' first
      | (with_reducible exact ih0 _ _ _ _)
      | (with_reducible exact ih1 _ _ _ _ _ _ _ _)
      | (with_reducible exact LeO.refl _)
      | (with_reducible exact LeO.none _)
      | (with_reducible refine LeO.ite ?_ ?_)
      | (with_reducible refine LeO.bind ?_ (fun _ => ?_))
      | exact ih0 _ _ _ _
      | exact ih1 _ _ _ _ _ _ _ _
      | exact LeO.none _
      | refine LeO.ite ?_ ?_
      | refine LeO.bind ?_ (fun _ => ?_)
    · intro y0 y1 y2 y3 y4 y5 y6 y7
      unfold header_Parts.l1
      repeat' first
      | (with_reducible exact ih0 _ _ _ _)
      | (with_reducible exact ih1 _ _ _ _ _ _ _ _)
      | (with_reducible exact LeO.refl _)
      | (with_reducible exact LeO.none _)
      | (with_reducible refine LeO.ite ?_ ?_)
      | (with_reducible refine LeO.bind ?_ (fun _ => ?_))
      | exact ih0 _ _ _ _
      | exact ih1 _ _ _ _ _ _ _ _
      | exact LeO.none _
      | refine LeO.ite ?_ ?_
      | refine LeO.bind ?_ (fun _ => ?_)
theorem header_Parts.mono : ∀ a0 k, LeO (header_Parts.f k a0) (header_Parts.f (k + 1) a0) := by
  intro a0 k
  obtain ⟨ih0, ih1⟩ := header_Parts.mono_l k
  unfold header_Parts.f
  repeat' first
      | (with_reducible exact ih0 _ _ _ _)
      | (with_reducible exact ih1 _ _ _ _ _ _ _ _)
      | (with_reducible exact LeO.refl _)
      | (with_reducible exact LeO.none _)
      | (with_reducible refine LeO.ite ?_ ?_)
      | (with_reducible refine LeO.bind ?_ (fun _ => ?_))
      | exact ih0 _ _ _ _
      | exact ih1 _ _ _ _ _ _ _ _
      | exact LeO.none _
      | refine LeO.ite ?_ ?_
      | refine LeO.bind ?_ (fun _ => ?_)
set_option maxHeartbeats 8000000 in
set_option maxRecDepth 100000 in
theorem header_Parts.calls (k : Nat) (a0 : ByteArray) (r : List (List ByteArray)) (w : World) (h : header_Parts.f k a0 = some r) :
    Calls Tryd.prog 12 #[.string a0] w fun e w' => ∃ v0_ : Value, e = .returned (v0_) ∧ Kd.S (Kd.slice 9 Kd.string) 24 w' w.heap.size (fun _ => True) v0_ r ∧ Below w.heap.size w w' := by
  have HB := Aside0.mk (Below.refl w.heap.size w)
  have H : ((strings_Split.f a0 (⟨#[59]⟩ : ByteArray)).bind fun t101 => (header_Parts.l0 k ([] : List (List ByteArray)) t101 (t101.length : Int) 0)) = some r := h
  clear h
  replace H := Option.bind_eq_some_iff.mp H
  obtain ⟨t101, A20, H⟩ := H
  replace H : (header_Parts.l0 k ([] : List (List ByteArray)) t101 (t101.length : Int) 0) = some r := H
  have A2 := Aside0.mk A20
  clear A20
  have H' := Aside0.mk H
  clear H
  go_enter Tryd.func12, Tryd.ntmps12
  go_wp2_with (first | (go_step3) | (go_at_call 24; (with_reducible refine (strings_Split.calls a0 (⟨#[59]⟩ : ByteArray) t101 _ A2.out).mono ?_); rintro e w3 ⟨v102, rfl, ho0, hb⟩; have n0_ := Aside0.mk (Kd.R_lower ho0 (below_size (by repeat (first | (with_reducible first | exact HB.out | apply below_alloc | apply pw_below_drewN | apply below_drew1) | exact HB.out)))); have n1_ := Aside0.mk (below_step (by repeat (first | (with_reducible first | exact HB.out | apply below_alloc | apply pw_below_drewN | apply below_drew1) | exact HB.out)) hb); clear HB; have HO103 := n0_; have HB := n1_; clear n0_ n1_; (try clear hb); (try clear hb2); (try clear hk); (try clear hi); (try clear ho0); obtain ⟨Ao4, co4, eo4⟩ := Kd.R_slice HO103.out; subst eo4))
  repeat (go_quiet (first | (go_at_call 24; (with_reducible refine (strings_Split.calls a0 (⟨#[59]⟩ : ByteArray) t101 _ A2.out).mono ?_); rintro e w3 ⟨v102, rfl, ho0, hb⟩; have n0_ := Aside0.mk (Kd.R_lower ho0 (below_size (by repeat (first | (with_reducible first | exact HB.out | apply below_alloc | apply pw_below_drewN | apply below_drew1) | exact HB.out)))); have n1_ := Aside0.mk (below_step (by repeat (first | (with_reducible first | exact HB.out | apply below_alloc | apply pw_below_drewN | apply below_drew1) | exact HB.out)) hb); clear HB; have HO103 := n0_; have HB := n1_; clear n0_ n1_; (try clear hb); (try clear hb2); (try clear hk); (try clear hi); (try clear ho0); obtain ⟨Ao4, co4, eo4⟩ := Kd.R_slice HO103.out; subst eo4)); try go_wp2_with (first | (go_step3) | (go_at_call 24; (with_reducible refine (strings_Split.calls a0 (⟨#[59]⟩ : ByteArray) t101 _ A2.out).mono ?_); rintro e w3 ⟨v102, rfl, ho0, hb⟩; have n0_ := Aside0.mk (Kd.R_lower ho0 (below_size (by repeat (first | (with_reducible first | exact HB.out | apply below_alloc | apply pw_below_drewN | apply below_drew1) | exact HB.out)))); have n1_ := Aside0.mk (below_step (by repeat (first | (with_reducible first | exact HB.out | apply below_alloc | apply pw_below_drewN | apply below_drew1) | exact HB.out)) hb); clear HB; have HO103 := n0_; have HB := n1_; clear n0_ n1_; (try clear hb); (try clear hb2); (try clear hk); (try clear hi); (try clear ho0); obtain ⟨Ao4, co4, eo4⟩ := Kd.R_slice HO103.out; subst eo4)))
  go_loopg [3, 12] k (fun kq v3 v12 w' => ∃ (x3_1 : List (List ByteArray)) (x10_1 : List ByteArray) (x12_1 : Int), v12 = .int .i64 x12_1 ∧ Aside0 (header_Parts.l0 kq x3_1 x10_1 (t101.length : Int) x12_1 = some r) ∧ Aside0 (kq ≤ k) ∧ Aside0 (Kd.S (Kd.slice 9 Kd.string) 24 w' w.heap.size (fun k_ => some k_ ≠ ((.slice Ao4 t101.length co4) : Value).ownBlock) v3 x3_1) ∧ Aside0 (Kd.R Kd.string 9 w' w.heap.size (fun _ => True) (.slice Ao4 t101.length co4) x10_1) ∧ Aside0 (Below w.heap.size w w'))
  case atStart => exact ⟨(([] : List (List ByteArray))), (t101), (0), (by first | rfl | (simp; done) | (simp [*]; done)), H', ⟨Nat.le_refl _⟩, ⟨by first | exact Kd.S_nil _ _ _ _ _ | exact Kd.N_nil _ _ _ _ _ | exact Kd.V_nil _ _ _ _ _ | exact Kd.Q_nil _ _ _ _ _ | exact Kd.R_nil _ _ _ _ _⟩, ⟨by (with_reducible repeat (first | apply Kd.R_alloc | apply Kd.R_drewN | apply Kd.R_drew)); exact HO103.out⟩, ⟨by repeat (first | (with_reducible first | exact HB.out | apply below_alloc | apply pw_below_drewN | apply below_drew1) | exact HB.out)⟩⟩
  case round =>
    clear H'
    try clear c1
    try clear p2
    obtain ⟨x3_1, x10_1, x12_1, rfl, HA, HK1, HO_3, HO_10, HB⟩ := hrel
    have hl10_1 := (Kd.R_reads' HO_10.out).1
    rw [hl10_1] at HO_10
    (try simp only [hl10_1])
    (try simp only [hl10_1] at HO_3)
    cases gk with
    | zero => exact absurd HA.out (by simp [header_Parts.l0])
    | succ k1 =>
      have H := HA.out
      clear HA
      simp only [header_Parts.l0] at H
      by_cases c5 : x12_1 < (t101.length : Int)
      · rw [if_pos c5] at H
        have c5b0 : decide (x12_1 < (t101.length : Int)) = true := decide_eq_true c5
        (try (have c5h0 := c5b0; simp only [hl10_1] at c5h0))
        clear c5
        by_cases c6 : 0 ≤ x12_1
        · rw [if_pos c6] at H
          have c6b0 : decide (0 ≤ x12_1) = true := decide_eq_true c6
          clear c6
          by_cases c7 : x12_1 < (x10_1.length : Int)
          · rw [if_pos c7] at H
            have c7b0 : decide (x12_1 < (x10_1.length : Int)) = true := decide_eq_true c7
            (try (have c7h0 := c7b0; simp only [hl10_1] at c7h0))
            clear c7
            replace H := Option.bind_eq_some_iff.mp H
            obtain ⟨t105, A80, H⟩ := H
            replace H : (if (t105.length : Int) = 0 then (header_Parts.l0 k1 x3_1 x10_1 (t101.length : Int) (wrap64 (x12_1 + 1))) else (if 0 < (t105.length : Int) then ((fold_Lower.f (rdOf ByteArray.empty t105 0)).bind fun t109 => (header_Parts.l1 k1 x3_1 (t105.set (0 : Int).toNat t109) x10_1 (t101.length : Int) x12_1 x3_1 (x3_1.length : Int) 0)) else (none))) = some r := H
            have A8 := Aside0.mk A80
            clear A80
            by_cases c9 : (t105.length : Int) = 0
            · rw [if_pos c9] at H
              have c9b0 : ((t105.length : Int) == 0) = true := beq_iff_eq.mpr c9
              have c9b1 : ((t105.length : Int) != 0) = false := bne_eq_false_iff_eq.mpr c9
              (try (have c9h0 := c9b0; simp only [hl10_1] at c9h0))
              clear c9
              have H' := Aside0.mk H
              clear H
              have p104 : 0 ≤ (x12_1 : Int) := of_decide_eq_true (by first | (with_reducible assumption) | assumption)
              have q104 : x12_1 < (x10_1.length : Int) := of_decide_eq_true (by first | (with_reducible assumption) | assumption)
              obtain ⟨ad104, e104, hx104_0⟩ := Kd.at_string (Kd.R_reads' HO_10.out).2.2 x12_1 p104 q104
              cases e104
              replace p104 := eq_true p104
              replace q104 := eq_true q104
              go_wp2_with (first | (go_step3) | (go_at_call 25; (with_reducible refine (fold_Words.calls (rdOf ByteArray.empty x10_1 x12_1) t105 _ A8.out).mono ?_); rintro e w10 ⟨v106, rfl, ho0, hb⟩; have n0_ := Aside0.mk (Kd.S_elder' (by (with_reducible repeat (first | apply Kd.S_alloc | apply Kd.S_drewN | apply Kd.S_drew)); exact HO_3.out) (Kd.R_base ho0) hb); have n1_ := Aside0.mk (Kd.R_elder' (by (with_reducible repeat (first | apply Kd.R_alloc | apply Kd.R_drewN | apply Kd.R_drew)); exact HO_10.out) (Kd.R_base ho0) hb); have n2_ := Aside0.mk (Kd.R_lower (Kd.R_new' ho0 (Kd.R_lt (by (with_reducible repeat (first | apply Kd.R_alloc | apply Kd.R_drewN | apply Kd.R_drew)); exact HO_10.out))) (below_size (by repeat (first | (with_reducible first | exact HB.out | apply below_alloc | apply pw_below_drewN | apply below_drew1) | exact HB.out)))); have n3_ := Aside0.mk (below_step (by repeat (first | (with_reducible first | exact HB.out | apply below_alloc | apply pw_below_drewN | apply below_drew1) | exact HB.out)) hb); clear HO_3; clear HO_10; clear HB; have HO_3 := n0_; have HO_10 := n1_; have HO107 := n2_; have HB := n3_; clear n0_ n1_ n2_ n3_; (try clear hb); (try clear hb2); (try clear hk); (try clear hi); (try clear ho0); obtain ⟨Ao11, co11, eo11⟩ := Kd.R_slice HO107.out; subst eo11))
              repeat (go_quiet (first | (go_at_call 25; (with_reducible refine (fold_Words.calls (rdOf ByteArray.empty x10_1 x12_1) t105 _ A8.out).mono ?_); rintro e w10 ⟨v106, rfl, ho0, hb⟩; have n0_ := Aside0.mk (Kd.S_elder' (by (with_reducible repeat (first | apply Kd.S_alloc | apply Kd.S_drewN | apply Kd.S_drew)); exact HO_3.out) (Kd.R_base ho0) hb); have n1_ := Aside0.mk (Kd.R_elder' (by (with_reducible repeat (first | apply Kd.R_alloc | apply Kd.R_drewN | apply Kd.R_drew)); exact HO_10.out) (Kd.R_base ho0) hb); have n2_ := Aside0.mk (Kd.R_lower (Kd.R_new' ho0 (Kd.R_lt (by (with_reducible repeat (first | apply Kd.R_alloc | apply Kd.R_drewN | apply Kd.R_drew)); exact HO_10.out))) (below_size (by repeat (first | (with_reducible first | exact HB.out | apply below_alloc | apply pw_below_drewN | apply below_drew1) | exact HB.out)))); have n3_ := Aside0.mk (below_step (by repeat (first | (with_reducible first | exact HB.out | apply below_alloc | apply pw_below_drewN | apply below_drew1) | exact HB.out)) hb); clear HO_3; clear HO_10; clear HB; have HO_3 := n0_; have HO_10 := n1_; have HO107 := n2_; have HB := n3_; clear n0_ n1_ n2_ n3_; (try clear hb); (try clear hb2); (try clear hk); (try clear hi); (try clear ho0); obtain ⟨Ao11, co11, eo11⟩ := Kd.R_slice HO107.out; subst eo11)); try go_wp2_with (first | (go_step3) | (go_at_call 25; (with_reducible refine (fold_Words.calls (rdOf ByteArray.empty x10_1 x12_1) t105 _ A8.out).mono ?_); rintro e w10 ⟨v106, rfl, ho0, hb⟩; have n0_ := Aside0.mk (Kd.S_elder' (by (with_reducible repeat (first | apply Kd.S_alloc | apply Kd.S_drewN | apply Kd.S_drew)); exact HO_3.out) (Kd.R_base ho0) hb); have n1_ := Aside0.mk (Kd.R_elder' (by (with_reducible repeat (first | apply Kd.R_alloc | apply Kd.R_drewN | apply Kd.R_drew)); exact HO_10.out) (Kd.R_base ho0) hb); have n2_ := Aside0.mk (Kd.R_lower (Kd.R_new' ho0 (Kd.R_lt (by (with_reducible repeat (first | apply Kd.R_alloc | apply Kd.R_drewN | apply Kd.R_drew)); exact HO_10.out))) (below_size (by repeat (first | (with_reducible first | exact HB.out | apply below_alloc | apply pw_below_drewN | apply below_drew1) | exact HB.out)))); have n3_ := Aside0.mk (below_step (by repeat (first | (with_reducible first | exact HB.out | apply below_alloc | apply pw_below_drewN | apply below_drew1) | exact HB.out)) hb); clear HO_3; clear HO_10; clear HB; have HO_3 := n0_; have HO_10 := n1_; have HO107 := n2_; have HB := n3_; clear n0_ n1_ n2_ n3_; (try clear hb); (try clear hb2); (try clear hk); (try clear hi); (try clear ho0); obtain ⟨Ao11, co11, eo11⟩ := Kd.R_slice HO107.out; subst eo11)))
              (try simp only [← hl10_1])
              go_roundg k1
              case measure => have := HK1.out; omega
              case rel => exact ⟨(x3_1), (x10_1), (wrap64 (x12_1 + 1)), (by first | rfl | (simp; done) | (simp [*]; done)), H', ⟨by have := HK1.out; omega⟩, ⟨by (try simp only [hl10_1]); (with_reducible repeat (first | apply Kd.S_alloc | apply Kd.S_drewN | apply Kd.S_drew)); exact Kd.S_mono HO_3.out (fun _ hk => hk.1)⟩, ⟨by (try simp only [hl10_1]); (with_reducible repeat (first | apply Kd.R_alloc | apply Kd.R_drewN | apply Kd.R_drew)); exact Kd.R_mono HO_10.out (fun _ hk => trivial)⟩, ⟨by repeat (first | (with_reducible first | exact HB.out | apply below_alloc | apply pw_below_drewN | apply below_drew1) | exact HB.out)⟩⟩
            · rw [if_neg c9] at H
              have c9b0 : ((t105.length : Int) == 0) = false := beq_eq_false_iff_ne.mpr c9
              have c9b1 : ((t105.length : Int) != 0) = true := bne_iff_ne.mpr c9
              have c9b2 : ¬ (t105 = []) := fun h_ => c9 (by rw [h_]; rfl)
              (try (have c9h0 := c9b0; simp only [hl10_1] at c9h0))
              by_cases c12 : 0 < (t105.length : Int)
              · rw [if_pos c12] at H
                have c12b0 : decide (0 < (t105.length : Int)) = true := decide_eq_true c12
                have c12b1 : decide (0 < t105.length) = true := decide_eq_true (by omega)
                (try (have c12h0 := c12b0; simp only [hl10_1] at c12h0))
                clear c12
                replace H := Option.bind_eq_some_iff.mp H
                obtain ⟨t109, A130, H⟩ := H
                replace H : (header_Parts.l1 k1 x3_1 (t105.set (0 : Int).toNat t109) x10_1 (t101.length : Int) x12_1 x3_1 (x3_1.length : Int) 0) = some r := H
                have A13 := Aside0.mk A130
                clear A130
                obtain ⟨y110, hy110⟩ : ∃ y_ : List ByteArray, y_ = (t105.set (0 : Int).toNat t109) := ⟨_, rfl⟩
                replace H : (header_Parts.l1 k1 x3_1 y110 x10_1 (t101.length : Int) x12_1 x3_1 (x3_1.length : Int) 0) = some r := by first | (rw [hy110]; with_reducible exact H) | (have H2_ := (Option.bind_some _ _).symm.trans H; rw [hy110]; with_reducible exact H2_) | (have H2_ := (Option.bind_some _ _).symm.trans H; with_reducible exact H2_) | with_reducible exact H | (rw [hy110]; exact H) | exact H
                have Ny110 := Aside0.mk hy110
                clear hy110
                have H' := Aside0.mk H
                clear H
                have p104 : 0 ≤ (x12_1 : Int) := of_decide_eq_true (by first | (with_reducible assumption) | assumption)
                have q104 : x12_1 < (x10_1.length : Int) := of_decide_eq_true (by first | (with_reducible assumption) | assumption)
                obtain ⟨ad104, e104, hx104_0⟩ := Kd.at_string (Kd.R_reads' HO_10.out).2.2 x12_1 p104 q104
                cases e104
                replace p104 := eq_true p104
                replace q104 := eq_true q104
                go_wp2_with (first | (go_step3) | (go_at_call 25; (with_reducible refine (fold_Words.calls (rdOf ByteArray.empty x10_1 x12_1) t105 _ A8.out).mono ?_); rintro e w15 ⟨v106, rfl, ho0, hb⟩; have n0_ := Aside0.mk (Kd.S_elder' (by (with_reducible repeat (first | apply Kd.S_alloc | apply Kd.S_drewN | apply Kd.S_drew)); exact HO_3.out) (Kd.R_base ho0) hb); have n1_ := Aside0.mk (Kd.R_elder' (by (with_reducible repeat (first | apply Kd.R_alloc | apply Kd.R_drewN | apply Kd.R_drew)); exact HO_10.out) (Kd.R_base ho0) hb); have n2_ := Aside0.mk (Kd.R_lower (Kd.R_new' ho0 (Kd.R_lt (by (with_reducible repeat (first | apply Kd.R_alloc | apply Kd.R_drewN | apply Kd.R_drew)); exact HO_10.out))) (below_size (by repeat (first | (with_reducible first | exact HB.out | apply below_alloc | apply pw_below_drewN | apply below_drew1) | exact HB.out)))); have n3_ := Aside0.mk (below_step (by repeat (first | (with_reducible first | exact HB.out | apply below_alloc | apply pw_below_drewN | apply below_drew1) | exact HB.out)) hb); clear HO_3; clear HO_10; clear HB; have HO_3 := n0_; have HO_10 := n1_; have HO107 := n2_; have HB := n3_; clear n0_ n1_ n2_ n3_; (try clear hb); (try clear hb2); (try clear hk); (try clear hi); (try clear ho0); obtain ⟨Ao16, co16, eo16⟩ := Kd.R_slice HO107.out; subst eo16; have p108 : 0 ≤ (0 : Int) := (by omega); have q108 : 0 < (t105.length : Int) := of_decide_eq_true (by first | (with_reducible assumption) | assumption); obtain ⟨ad108, e108, hx108_0⟩ := Kd.at_string (Kd.R_reads' HO107.out).2.2 0 p108 q108; cases e108; have qi108 : (0 < t105.length) = True := eq_true (by omega); (try rw [show ((0 : Int)).toNat = 0 from rfl] at hx108_0); (try rw [Addr.add_zero'] at hx108_0); replace p108 := eq_true p108; replace q108 := eq_true q108) | (go_at_call 26; (with_reducible refine (fold_Lower.calls (rdOf ByteArray.empty t105 0) t109 _ A13.out).mono ?_); rintro e w17 ⟨rfl, hb⟩; have n0_ := Aside0.mk (Kd.S_below (by (with_reducible repeat (first | apply Kd.S_alloc | apply Kd.S_drewN | apply Kd.S_drew)); exact HO_3.out) hb); have n1_ := Aside0.mk (Kd.R_below (by (with_reducible repeat (first | apply Kd.R_alloc | apply Kd.R_drewN | apply Kd.R_drew)); exact HO_10.out) hb); have n2_ := Aside0.mk (Kd.R_below (by (with_reducible repeat (first | apply Kd.R_alloc | apply Kd.R_drewN | apply Kd.R_drew)); exact HO107.out) hb); have n3_ := Aside0.mk (below_step (by repeat (first | (with_reducible first | exact HB.out | apply below_alloc | apply pw_below_drewN | apply below_drew1) | exact HB.out)) hb); clear HO_3; clear HO_10; clear HO107; clear HB; have HO_3 := n0_; have HO_10 := n1_; have HO107 := n2_; have HB := n3_; clear n0_ n1_ n2_ n3_; (try clear hb); (try clear hb2); (try clear hk); (try clear hi); have p14 : 0 ≤ (0 : Int) := (by omega); have q14 : (0 : Int) < ((t105.length : Int) : Int) := of_decide_eq_true (by first | (with_reducible assumption) | assumption); have qi14 : (0 < t105.length) = True := eq_true (by omega); obtain ⟨go14, co14, eo14, gb14, gl14, cl14, HG14⟩ := Kd.R_form HO107.out (by omega); (first | cases eo14 | (injection eo14 with ea_ en_ ec_; (first | subst ea_ | (injection ea_ with ea_; subst ea_)); subst ec_; clear en_)); have GB14 := Aside0.mk gb14; have GG14 := Aside0.mk HG14; clear gb14 gl14 HG14; (first | simp only [add_plain] at hx108_0 | skip); obtain ⟨hx14_0, hf14_0⟩ := Kd.R_celln (⟨#[]⟩ : ByteArray) HO107.out (0 : Int) p14 q14; (try rw [show ((0 : Int)).toNat = 0 from rfl] at hx14_0); (try simp only [Nat.reduceMul, Nat.zero_mul, Nat.zero_add, Nat.reduceAdd] at hx14_0); (try rw [show ((0 : Int)).toNat = 0 from rfl] at hf14_0); (try simp only [Nat.reduceMul, Nat.zero_mul, Nat.zero_add, Nat.reduceAdd] at hf14_0); replace p14 := eq_true p14; replace q14 := eq_true q14; have n_ := Aside0.mk (Kd.R_mono (ok' := (fun k_ => some k_ ≠ (.slice (some ad104) x10_1.length co4 : Value).ownBlock)) HO107.out (fun k_ hk => hk.2)); clear HO107; have HO107 := n_; clear n_; obtain ⟨hy18_, hz18_⟩ := Kd.R_celln (⟨#[]⟩ : ByteArray) HO107.out (0 : Int) (by omega) (of_decide_eq_true (by first | (with_reducible assumption) | assumption)); (try simp only [Int.reduceToNat, Int.toNat_zero, Int.toNat_ofNat, Nat.reduceMul, Nat.zero_mul, Nat.zero_add] at hy18_ hz18_); (try rw [show ((0 : Int)).toNat = 0 from rfl] at hy18_); (try rw [show ((0 : Int)).toNat = 0 from rfl] at hz18_); have HP18 := Kd.R_putg HO107.out (0 : Int) t109) | ((with_reducible refine gate_store (t := 9) (p := 26) rfl ?_); (try (rw [drewN_self w17]; generalize hq_ : World.drewN w17 _ = w17; have n0_ := Aside0.mk (Kd.S_at hq_ HO_3.out); have n1_ := Aside0.mk (Kd.R_at hq_ HO_10.out); have n2_ := Aside0.mk (Kd.R_at hq_ HO107.out); have n3_ := Aside0.mk (below_at hq_ HB.out); clear hq_ HO_3 HO_10 HO107 HB; have HO_3 := n0_; have HO_10 := n1_; have HO107 := n2_; have HB := n3_; clear n0_ n1_ n2_ n3_; (try (have n_ := Aside0.mk (Kd.R_mono (ok' := (fun k_ => some k_ ≠ (.slice (some ad104) x10_1.length co4 : Value).ownBlock)) HO107.out (fun k_ hk => hk.2)); clear HO107; have HO107 := n_; clear n_)); (try (obtain ⟨hy18_, hz18_⟩ := Kd.R_celln (⟨#[]⟩ : ByteArray) HO107.out (0 : Int) (by omega) (of_decide_eq_true (by first | (with_reducible assumption) | assumption)))); (try (try simp only [Int.reduceToNat, Int.toNat_zero, Int.toNat_ofNat, Nat.reduceMul, Nat.zero_mul, Nat.zero_add] at hy18_ hz18_)); (try (try rw [show ((0 : Int)).toNat = 0 from rfl] at hy18_)); (try (try rw [show ((0 : Int)).toNat = 0 from rfl] at hz18_)); (try (have HP18 := Kd.R_putg HO107.out (0 : Int) t109)))); refine store_event (t := 9) (p := 26) (v := ?vo_w19) (w1 := (w17.setCell ⟨go14, (0 : Int).toNat, none⟩ (.string t109))) ?hg ?ho ?hn ?hr ?_; (case ho => rfl); (case hg => rfl); (case hn => rfl); (case hr => first | (go_simp; done) | (go_simp; rfl)); intro w19 hw; have hg : w17.grownBy w19 (some go14) := (by rw [hw]; exact HP18.2); have hp_ : Kd.R Kd.string 9 w19 w.heap.size (fun k_ => some k_ ≠ (.slice (some ad104) x10_1.length co4 : Value).ownBlock) (.slice (some ⟨go14, 0, none⟩) t105.length co16) y110 := (by rw [hw, Ny110.out]; exact HP18.1); clear HP18; have n0_ := Aside0.mk (Kd.S_after (v := (.slice (some ⟨go14, 0, none⟩) t105.length co16)) (v1 := (.slice (some ⟨go14, 0, none⟩) t105.length co16)) (ok := (fun k_ => some k_ ≠ (.slice (some ad104) x10_1.length co4 : Value).ownBlock)) (by (with_reducible repeat (first | apply Kd.S_alloc | apply Kd.S_drewN | apply Kd.S_drew)); exact HO_3.out) hg (.inl rfl)); have n1_ := Aside0.mk (Kd.R_after (v := (.slice (some ⟨go14, 0, none⟩) t105.length co16)) (v1 := (.slice (some ⟨go14, 0, none⟩) t105.length co16)) (ok := (fun _ => True)) (by (with_reducible repeat (first | apply Kd.R_alloc | apply Kd.R_drewN | apply Kd.R_drew)); exact HO_10.out) hg (.inl rfl)); have n2_ := Aside0.mk (hp_); have n3_ := Aside0.mk ((by rw [hw]; exact below_set (HB.out) GB14.out : Below w.heap.size w w19)); clear HO_3; clear HO_10; clear HO107; clear HB; have HO_3 := n0_; have HO_10 := n1_; have HO107 := n2_; have HB := n3_; clear n0_ n1_ n2_ n3_; clear hg hw hp_; obtain ⟨Ao20, co20, eo20⟩ := Kd.S_slice HO_3.out; subst eo20))
                repeat (go_quiet (first | (go_at_call 25; (with_reducible refine (fold_Words.calls (rdOf ByteArray.empty x10_1 x12_1) t105 _ A8.out).mono ?_); rintro e w15 ⟨v106, rfl, ho0, hb⟩; have n0_ := Aside0.mk (Kd.S_elder' (by (with_reducible repeat (first | apply Kd.S_alloc | apply Kd.S_drewN | apply Kd.S_drew)); exact HO_3.out) (Kd.R_base ho0) hb); have n1_ := Aside0.mk (Kd.R_elder' (by (with_reducible repeat (first | apply Kd.R_alloc | apply Kd.R_drewN | apply Kd.R_drew)); exact HO_10.out) (Kd.R_base ho0) hb); have n2_ := Aside0.mk (Kd.R_lower (Kd.R_new' ho0 (Kd.R_lt (by (with_reducible repeat (first | apply Kd.R_alloc | apply Kd.R_drewN | apply Kd.R_drew)); exact HO_10.out))) (below_size (by repeat (first | (with_reducible first | exact HB.out | apply below_alloc | apply pw_below_drewN | apply below_drew1) | exact HB.out)))); have n3_ := Aside0.mk (below_step (by repeat (first | (with_reducible first | exact HB.out | apply below_alloc | apply pw_below_drewN | apply below_drew1) | exact HB.out)) hb); clear HO_3; clear HO_10; clear HB; have HO_3 := n0_; have HO_10 := n1_; have HO107 := n2_; have HB := n3_; clear n0_ n1_ n2_ n3_; (try clear hb); (try clear hb2); (try clear hk); (try clear hi); (try clear ho0); obtain ⟨Ao16, co16, eo16⟩ := Kd.R_slice HO107.out; subst eo16; have p108 : 0 ≤ (0 : Int) := (by omega); have q108 : 0 < (t105.length : Int) := of_decide_eq_true (by first | (with_reducible assumption) | assumption); obtain ⟨ad108, e108, hx108_0⟩ := Kd.at_string (Kd.R_reads' HO107.out).2.2 0 p108 q108; cases e108; have qi108 : (0 < t105.length) = True := eq_true (by omega); (try rw [show ((0 : Int)).toNat = 0 from rfl] at hx108_0); (try rw [Addr.add_zero'] at hx108_0); replace p108 := eq_true p108; replace q108 := eq_true q108) | (go_at_call 26; (with_reducible refine (fold_Lower.calls (rdOf ByteArray.empty t105 0) t109 _ A13.out).mono ?_); rintro e w17 ⟨rfl, hb⟩; have n0_ := Aside0.mk (Kd.S_below (by (with_reducible repeat (first | apply Kd.S_alloc | apply Kd.S_drewN | apply Kd.S_drew)); exact HO_3.out) hb); have n1_ := Aside0.mk (Kd.R_below (by (with_reducible repeat (first | apply Kd.R_alloc | apply Kd.R_drewN | apply Kd.R_drew)); exact HO_10.out) hb); have n2_ := Aside0.mk (Kd.R_below (by (with_reducible repeat (first | apply Kd.R_alloc | apply Kd.R_drewN | apply Kd.R_drew)); exact HO107.out) hb); have n3_ := Aside0.mk (below_step (by repeat (first | (with_reducible first | exact HB.out | apply below_alloc | apply pw_below_drewN | apply below_drew1) | exact HB.out)) hb); clear HO_3; clear HO_10; clear HO107; clear HB; have HO_3 := n0_; have HO_10 := n1_; have HO107 := n2_; have HB := n3_; clear n0_ n1_ n2_ n3_; (try clear hb); (try clear hb2); (try clear hk); (try clear hi); have p14 : 0 ≤ (0 : Int) := (by omega); have q14 : (0 : Int) < ((t105.length : Int) : Int) := of_decide_eq_true (by first | (with_reducible assumption) | assumption); have qi14 : (0 < t105.length) = True := eq_true (by omega); obtain ⟨go14, co14, eo14, gb14, gl14, cl14, HG14⟩ := Kd.R_form HO107.out (by omega); (first | cases eo14 | (injection eo14 with ea_ en_ ec_; (first | subst ea_ | (injection ea_ with ea_; subst ea_)); subst ec_; clear en_)); have GB14 := Aside0.mk gb14; have GG14 := Aside0.mk HG14; clear gb14 gl14 HG14; (first | simp only [add_plain] at hx108_0 | skip); obtain ⟨hx14_0, hf14_0⟩ := Kd.R_celln (⟨#[]⟩ : ByteArray) HO107.out (0 : Int) p14 q14; (try rw [show ((0 : Int)).toNat = 0 from rfl] at hx14_0); (try simp only [Nat.reduceMul, Nat.zero_mul, Nat.zero_add, Nat.reduceAdd] at hx14_0); (try rw [show ((0 : Int)).toNat = 0 from rfl] at hf14_0); (try simp only [Nat.reduceMul, Nat.zero_mul, Nat.zero_add, Nat.reduceAdd] at hf14_0); replace p14 := eq_true p14; replace q14 := eq_true q14; have n_ := Aside0.mk (Kd.R_mono (ok' := (fun k_ => some k_ ≠ (.slice (some ad104) x10_1.length co4 : Value).ownBlock)) HO107.out (fun k_ hk => hk.2)); clear HO107; have HO107 := n_; clear n_; obtain ⟨hy18_, hz18_⟩ := Kd.R_celln (⟨#[]⟩ : ByteArray) HO107.out (0 : Int) (by omega) (of_decide_eq_true (by first | (with_reducible assumption) | assumption)); (try simp only [Int.reduceToNat, Int.toNat_zero, Int.toNat_ofNat, Nat.reduceMul, Nat.zero_mul, Nat.zero_add] at hy18_ hz18_); (try rw [show ((0 : Int)).toNat = 0 from rfl] at hy18_); (try rw [show ((0 : Int)).toNat = 0 from rfl] at hz18_); have HP18 := Kd.R_putg HO107.out (0 : Int) t109) | ((with_reducible refine gate_store (t := 9) (p := 26) rfl ?_); (try (rw [drewN_self w17]; generalize hq_ : World.drewN w17 _ = w17; have n0_ := Aside0.mk (Kd.S_at hq_ HO_3.out); have n1_ := Aside0.mk (Kd.R_at hq_ HO_10.out); have n2_ := Aside0.mk (Kd.R_at hq_ HO107.out); have n3_ := Aside0.mk (below_at hq_ HB.out); clear hq_ HO_3 HO_10 HO107 HB; have HO_3 := n0_; have HO_10 := n1_; have HO107 := n2_; have HB := n3_; clear n0_ n1_ n2_ n3_; (try (have n_ := Aside0.mk (Kd.R_mono (ok' := (fun k_ => some k_ ≠ (.slice (some ad104) x10_1.length co4 : Value).ownBlock)) HO107.out (fun k_ hk => hk.2)); clear HO107; have HO107 := n_; clear n_)); (try (obtain ⟨hy18_, hz18_⟩ := Kd.R_celln (⟨#[]⟩ : ByteArray) HO107.out (0 : Int) (by omega) (of_decide_eq_true (by first | (with_reducible assumption) | assumption)))); (try (try simp only [Int.reduceToNat, Int.toNat_zero, Int.toNat_ofNat, Nat.reduceMul, Nat.zero_mul, Nat.zero_add] at hy18_ hz18_)); (try (try rw [show ((0 : Int)).toNat = 0 from rfl] at hy18_)); (try (try rw [show ((0 : Int)).toNat = 0 from rfl] at hz18_)); (try (have HP18 := Kd.R_putg HO107.out (0 : Int) t109)))); refine store_event (t := 9) (p := 26) (v := ?vo_w19) (w1 := (w17.setCell ⟨go14, (0 : Int).toNat, none⟩ (.string t109))) ?hg ?ho ?hn ?hr ?_; (case ho => rfl); (case hg => rfl); (case hn => rfl); (case hr => first | (go_simp; done) | (go_simp; rfl)); intro w19 hw; have hg : w17.grownBy w19 (some go14) := (by rw [hw]; exact HP18.2); have hp_ : Kd.R Kd.string 9 w19 w.heap.size (fun k_ => some k_ ≠ (.slice (some ad104) x10_1.length co4 : Value).ownBlock) (.slice (some ⟨go14, 0, none⟩) t105.length co16) y110 := (by rw [hw, Ny110.out]; exact HP18.1); clear HP18; have n0_ := Aside0.mk (Kd.S_after (v := (.slice (some ⟨go14, 0, none⟩) t105.length co16)) (v1 := (.slice (some ⟨go14, 0, none⟩) t105.length co16)) (ok := (fun k_ => some k_ ≠ (.slice (some ad104) x10_1.length co4 : Value).ownBlock)) (by (with_reducible repeat (first | apply Kd.S_alloc | apply Kd.S_drewN | apply Kd.S_drew)); exact HO_3.out) hg (.inl rfl)); have n1_ := Aside0.mk (Kd.R_after (v := (.slice (some ⟨go14, 0, none⟩) t105.length co16)) (v1 := (.slice (some ⟨go14, 0, none⟩) t105.length co16)) (ok := (fun _ => True)) (by (with_reducible repeat (first | apply Kd.R_alloc | apply Kd.R_drewN | apply Kd.R_drew)); exact HO_10.out) hg (.inl rfl)); have n2_ := Aside0.mk (hp_); have n3_ := Aside0.mk ((by rw [hw]; exact below_set (HB.out) GB14.out : Below w.heap.size w w19)); clear HO_3; clear HO_10; clear HO107; clear HB; have HO_3 := n0_; have HO_10 := n1_; have HO107 := n2_; have HB := n3_; clear n0_ n1_ n2_ n3_; clear hg hw hp_; obtain ⟨Ao20, co20, eo20⟩ := Kd.S_slice HO_3.out; subst eo20)); try go_wp2_with (first | (go_step3) | (go_at_call 25; (with_reducible refine (fold_Words.calls (rdOf ByteArray.empty x10_1 x12_1) t105 _ A8.out).mono ?_); rintro e w15 ⟨v106, rfl, ho0, hb⟩; have n0_ := Aside0.mk (Kd.S_elder' (by (with_reducible repeat (first | apply Kd.S_alloc | apply Kd.S_drewN | apply Kd.S_drew)); exact HO_3.out) (Kd.R_base ho0) hb); have n1_ := Aside0.mk (Kd.R_elder' (by (with_reducible repeat (first | apply Kd.R_alloc | apply Kd.R_drewN | apply Kd.R_drew)); exact HO_10.out) (Kd.R_base ho0) hb); have n2_ := Aside0.mk (Kd.R_lower (Kd.R_new' ho0 (Kd.R_lt (by (with_reducible repeat (first | apply Kd.R_alloc | apply Kd.R_drewN | apply Kd.R_drew)); exact HO_10.out))) (below_size (by repeat (first | (with_reducible first | exact HB.out | apply below_alloc | apply pw_below_drewN | apply below_drew1) | exact HB.out)))); have n3_ := Aside0.mk (below_step (by repeat (first | (with_reducible first | exact HB.out | apply below_alloc | apply pw_below_drewN | apply below_drew1) | exact HB.out)) hb); clear HO_3; clear HO_10; clear HB; have HO_3 := n0_; have HO_10 := n1_; have HO107 := n2_; have HB := n3_; clear n0_ n1_ n2_ n3_; (try clear hb); (try clear hb2); (try clear hk); (try clear hi); (try clear ho0); obtain ⟨Ao16, co16, eo16⟩ := Kd.R_slice HO107.out; subst eo16; have p108 : 0 ≤ (0 : Int) := (by omega); have q108 : 0 < (t105.length : Int) := of_decide_eq_true (by first | (with_reducible assumption) | assumption); obtain ⟨ad108, e108, hx108_0⟩ := Kd.at_string (Kd.R_reads' HO107.out).2.2 0 p108 q108; cases e108; have qi108 : (0 < t105.length) = True := eq_true (by omega); (try rw [show ((0 : Int)).toNat = 0 from rfl] at hx108_0); (try rw [Addr.add_zero'] at hx108_0); replace p108 := eq_true p108; replace q108 := eq_true q108) | (go_at_call 26; (with_reducible refine (fold_Lower.calls (rdOf ByteArray.empty t105 0) t109 _ A13.out).mono ?_); rintro e w17 ⟨rfl, hb⟩; have n0_ := Aside0.mk (Kd.S_below (by (with_reducible repeat (first | apply Kd.S_alloc | apply Kd.S_drewN | apply Kd.S_drew)); exact HO_3.out) hb); have n1_ := Aside0.mk (Kd.R_below (by (with_reducible repeat (first | apply Kd.R_alloc | apply Kd.R_drewN | apply Kd.R_drew)); exact HO_10.out) hb); have n2_ := Aside0.mk (Kd.R_below (by (with_reducible repeat (first | apply Kd.R_alloc | apply Kd.R_drewN | apply Kd.R_drew)); exact HO107.out) hb); have n3_ := Aside0.mk (below_step (by repeat (first | (with_reducible first | exact HB.out | apply below_alloc | apply pw_below_drewN | apply below_drew1) | exact HB.out)) hb); clear HO_3; clear HO_10; clear HO107; clear HB; have HO_3 := n0_; have HO_10 := n1_; have HO107 := n2_; have HB := n3_; clear n0_ n1_ n2_ n3_; (try clear hb); (try clear hb2); (try clear hk); (try clear hi); have p14 : 0 ≤ (0 : Int) := (by omega); have q14 : (0 : Int) < ((t105.length : Int) : Int) := of_decide_eq_true (by first | (with_reducible assumption) | assumption); have qi14 : (0 < t105.length) = True := eq_true (by omega); obtain ⟨go14, co14, eo14, gb14, gl14, cl14, HG14⟩ := Kd.R_form HO107.out (by omega); (first | cases eo14 | (injection eo14 with ea_ en_ ec_; (first | subst ea_ | (injection ea_ with ea_; subst ea_)); subst ec_; clear en_)); have GB14 := Aside0.mk gb14; have GG14 := Aside0.mk HG14; clear gb14 gl14 HG14; (first | simp only [add_plain] at hx108_0 | skip); obtain ⟨hx14_0, hf14_0⟩ := Kd.R_celln (⟨#[]⟩ : ByteArray) HO107.out (0 : Int) p14 q14; (try rw [show ((0 : Int)).toNat = 0 from rfl] at hx14_0); (try simp only [Nat.reduceMul, Nat.zero_mul, Nat.zero_add, Nat.reduceAdd] at hx14_0); (try rw [show ((0 : Int)).toNat = 0 from rfl] at hf14_0); (try simp only [Nat.reduceMul, Nat.zero_mul, Nat.zero_add, Nat.reduceAdd] at hf14_0); replace p14 := eq_true p14; replace q14 := eq_true q14; have n_ := Aside0.mk (Kd.R_mono (ok' := (fun k_ => some k_ ≠ (.slice (some ad104) x10_1.length co4 : Value).ownBlock)) HO107.out (fun k_ hk => hk.2)); clear HO107; have HO107 := n_; clear n_; obtain ⟨hy18_, hz18_⟩ := Kd.R_celln (⟨#[]⟩ : ByteArray) HO107.out (0 : Int) (by omega) (of_decide_eq_true (by first | (with_reducible assumption) | assumption)); (try simp only [Int.reduceToNat, Int.toNat_zero, Int.toNat_ofNat, Nat.reduceMul, Nat.zero_mul, Nat.zero_add] at hy18_ hz18_); (try rw [show ((0 : Int)).toNat = 0 from rfl] at hy18_); (try rw [show ((0 : Int)).toNat = 0 from rfl] at hz18_); have HP18 := Kd.R_putg HO107.out (0 : Int) t109) | ((with_reducible refine gate_store (t := 9) (p := 26) rfl ?_); (try (rw [drewN_self w17]; generalize hq_ : World.drewN w17 _ = w17; have n0_ := Aside0.mk (Kd.S_at hq_ HO_3.out); have n1_ := Aside0.mk (Kd.R_at hq_ HO_10.out); have n2_ := Aside0.mk (Kd.R_at hq_ HO107.out); have n3_ := Aside0.mk (below_at hq_ HB.out); clear hq_ HO_3 HO_10 HO107 HB; have HO_3 := n0_; have HO_10 := n1_; have HO107 := n2_; have HB := n3_; clear n0_ n1_ n2_ n3_; (try (have n_ := Aside0.mk (Kd.R_mono (ok' := (fun k_ => some k_ ≠ (.slice (some ad104) x10_1.length co4 : Value).ownBlock)) HO107.out (fun k_ hk => hk.2)); clear HO107; have HO107 := n_; clear n_)); (try (obtain ⟨hy18_, hz18_⟩ := Kd.R_celln (⟨#[]⟩ : ByteArray) HO107.out (0 : Int) (by omega) (of_decide_eq_true (by first | (with_reducible assumption) | assumption)))); (try (try simp only [Int.reduceToNat, Int.toNat_zero, Int.toNat_ofNat, Nat.reduceMul, Nat.zero_mul, Nat.zero_add] at hy18_ hz18_)); (try (try rw [show ((0 : Int)).toNat = 0 from rfl] at hy18_)); (try (try rw [show ((0 : Int)).toNat = 0 from rfl] at hz18_)); (try (have HP18 := Kd.R_putg HO107.out (0 : Int) t109)))); refine store_event (t := 9) (p := 26) (v := ?vo_w19) (w1 := (w17.setCell ⟨go14, (0 : Int).toNat, none⟩ (.string t109))) ?hg ?ho ?hn ?hr ?_; (case ho => rfl); (case hg => rfl); (case hn => rfl); (case hr => first | (go_simp; done) | (go_simp; rfl)); intro w19 hw; have hg : w17.grownBy w19 (some go14) := (by rw [hw]; exact HP18.2); have hp_ : Kd.R Kd.string 9 w19 w.heap.size (fun k_ => some k_ ≠ (.slice (some ad104) x10_1.length co4 : Value).ownBlock) (.slice (some ⟨go14, 0, none⟩) t105.length co16) y110 := (by rw [hw, Ny110.out]; exact HP18.1); clear HP18; have n0_ := Aside0.mk (Kd.S_after (v := (.slice (some ⟨go14, 0, none⟩) t105.length co16)) (v1 := (.slice (some ⟨go14, 0, none⟩) t105.length co16)) (ok := (fun k_ => some k_ ≠ (.slice (some ad104) x10_1.length co4 : Value).ownBlock)) (by (with_reducible repeat (first | apply Kd.S_alloc | apply Kd.S_drewN | apply Kd.S_drew)); exact HO_3.out) hg (.inl rfl)); have n1_ := Aside0.mk (Kd.R_after (v := (.slice (some ⟨go14, 0, none⟩) t105.length co16)) (v1 := (.slice (some ⟨go14, 0, none⟩) t105.length co16)) (ok := (fun _ => True)) (by (with_reducible repeat (first | apply Kd.R_alloc | apply Kd.R_drewN | apply Kd.R_drew)); exact HO_10.out) hg (.inl rfl)); have n2_ := Aside0.mk (hp_); have n3_ := Aside0.mk ((by rw [hw]; exact below_set (HB.out) GB14.out : Below w.heap.size w w19)); clear HO_3; clear HO_10; clear HO107; clear HB; have HO_3 := n0_; have HO_10 := n1_; have HO107 := n2_; have HB := n3_; clear n0_ n1_ n2_ n3_; clear hg hw hp_; obtain ⟨Ao20, co20, eo20⟩ := Kd.S_slice HO_3.out; subst eo20)))
                go_loopg [29] k1 (fun kq v29 w' => ∃ (x29_2 : Int), v29 = .int .i64 x29_2 ∧ Aside0 (header_Parts.l1 kq x3_1 y110 x10_1 (t101.length : Int) x12_1 x3_1 (x3_1.length : Int) x29_2 = some r) ∧ Aside0 (kq ≤ k1) ∧ Aside0 (Kd.S (Kd.slice 9 Kd.string) 24 w' w.heap.size (fun k_ => some k_ ≠ ((.slice (some ⟨go14, 0, none⟩) t105.length co16) : Value).ownBlock ∧ some k_ ≠ ((.slice (some ad104) x10_1.length co4) : Value).ownBlock) (.slice Ao20 x3_1.length co20) x3_1) ∧ Aside0 (Kd.R Kd.string 9 w' w.heap.size (fun k_ => some k_ ≠ ((.slice (some ad104) x10_1.length co4) : Value).ownBlock) (.slice (some ⟨go14, 0, none⟩) t105.length co16) y110) ∧ Aside0 (Kd.R Kd.string 9 w' w.heap.size (fun k_ => some k_ ≠ ((.slice (some ⟨go14, 0, none⟩) t105.length co16) : Value).ownBlock) (.slice (some ad104) x10_1.length co4) x10_1) ∧ Aside0 (Kd.S (Kd.slice 9 Kd.string) 24 w' w.heap.size (fun k_ => some k_ ≠ ((.slice (some ⟨go14, 0, none⟩) t105.length co16) : Value).ownBlock ∧ some k_ ≠ ((.slice (some ad104) x10_1.length co4) : Value).ownBlock) (.slice Ao20 x3_1.length co20) x3_1) ∧ Aside0 (Below w.heap.size w w'))
                case atStart => exact ⟨(0), (by first | rfl | (simp; done) | (simp [*]; done)), H', ⟨Nat.le_refl _⟩, ⟨by (try simp only [hl10_1]); (with_reducible repeat (first | apply Kd.S_alloc | apply Kd.S_drewN | apply Kd.S_drew)); exact Kd.S_mono HO_3.out (fun _ hk => ⟨hk.2, hk.1⟩)⟩, ⟨by (try simp only [hl10_1]); (with_reducible repeat (first | apply Kd.R_alloc | apply Kd.R_drewN | apply Kd.R_drew)); exact HO107.out⟩, ⟨by (try simp only [hl10_1]); (with_reducible repeat (first | apply Kd.R_alloc | apply Kd.R_drewN | apply Kd.R_drew)); exact Kd.R_mono HO_10.out (fun _ hk => hk.2)⟩, ⟨by (try simp only [hl10_1]); (with_reducible repeat (first | apply Kd.S_alloc | apply Kd.S_drewN | apply Kd.S_drew)); exact Kd.S_mono HO_3.out (fun _ hk => ⟨hk.2, hk.1⟩)⟩, ⟨by repeat (first | (with_reducible first | exact HB.out | apply below_alloc | apply pw_below_drewN | apply below_drew1) | exact HB.out)⟩⟩
                case round =>
                  clear H'
                  try clear c1
                  try clear p1
                  try clear q1
                  try clear hx1
                  try clear qi1
                  try clear hf1
                  try clear p2
                  try clear c5
                  try clear c5b0
                  try clear c6
                  try clear c6b0
                  try clear p6
                  try clear c7
                  try clear c7b0
                  try clear c9
                  try clear c9b0
                  try clear c9b1
                  try clear c9b2
                  try clear p10
                  try clear q10
                  try clear hx10
                  try clear qi10
                  try clear c12
                  try clear c12b0
                  try clear c12b1
                  try clear p14
                  try clear q14
                  try clear hx14
                  try clear qi14
                  try clear hf14
                  try clear hx104_0
                  try clear hx108_0
                  try clear hx14_0
                  try clear p104
                  try clear p108
                  try clear p14
                  try clear p2
                  try clear q104
                  try clear q108
                  try clear q14
                  obtain ⟨x29_2, rfl, HA, HK2, HO_3, HO_6, HO_10, HO_27, HB⟩ := hrel
                  have hl6_2 := (Kd.R_reads' HO_6.out).1
                  rw [hl6_2] at HO_6
                  (try simp only [hl6_2])
                  (try simp only [hl6_2] at HO_3)
                  (try simp only [hl6_2] at HO_10)
                  (try simp only [hl6_2] at HO_27)
                  cases gk with
                  | zero => exact absurd HA.out (by simp [header_Parts.l1])
                  | succ k2 =>
                    have H := HA.out
                    clear HA
                    simp only [header_Parts.l1] at H
                    by_cases c21 : x29_2 < (x3_1.length : Int)
                    · rw [if_pos c21] at H
                      have c21b0 : decide (x29_2 < (x3_1.length : Int)) = true := decide_eq_true c21
                      (try (have c21h0 := c21b0; simp only [hl10_1, hl6_2] at c21h0))
                      clear c21
                      by_cases c22 : 0 ≤ x29_2
                      · rw [if_pos c22] at H
                        have c22b0 : decide (0 ≤ x29_2) = true := decide_eq_true c22
                        clear c22
                        by_cases c23 : x29_2 < (x3_1.length : Int)
                        · rw [if_pos c23] at H
                          have c23b0 : decide (x29_2 < (x3_1.length : Int)) = true := decide_eq_true c23
                          (try (have c23h0 := c23b0; simp only [hl10_1, hl6_2] at c23h0))
                          clear c23
                          by_cases c24 : 0 < ((rd_L1 x3_1 x29_2).length : Int)
                          · rw [if_pos c24] at H
                            have c24b0 : decide (0 < ((rd_L1 x3_1 x29_2).length : Int)) = true := decide_eq_true c24
                            have c24b1 : decide (0 < (rd_L1 x3_1 x29_2).length) = true := decide_eq_true (by omega)
                            (try (have c24h0 := c24b0; simp only [hl10_1, hl6_2] at c24h0))
                            clear c24
                            by_cases c25 : 0 < (y110.length : Int)
                            · rw [if_pos c25] at H
                              have c25b0 : decide (0 < (y110.length : Int)) = true := decide_eq_true c25
                              have c25b1 : decide (0 < y110.length) = true := decide_eq_true (by omega)
                              (try (have c25h0 := c25b0; simp only [hl10_1, hl6_2] at c25h0))
                              clear c25
                              by_cases c26 : (rdOf ByteArray.empty (rd_L1 x3_1 x29_2) 0).toList = (rdOf ByteArray.empty y110 0).toList
                              · rw [if_pos c26] at H
                                have c26b0 : ((rdOf ByteArray.empty (rd_L1 x3_1 x29_2) 0).toList == (rdOf ByteArray.empty y110 0).toList) = true := beq_iff_eq.mpr c26
                                have c26b1 : ((rdOf ByteArray.empty (rd_L1 x3_1 x29_2) 0).toList != (rdOf ByteArray.empty y110 0).toList) = false := bne_eq_false_iff_eq.mpr c26
                                clear c26
                                have H' := Aside0.mk H
                                clear H
                                have p111 : 0 ≤ (x29_2 : Int) := of_decide_eq_true (by first | (with_reducible assumption) | assumption)
                                have q111 : x29_2 < (x3_1.length : Int) := of_decide_eq_true (by first | (with_reducible assumption) | assumption)
                                obtain ⟨ad111, A111_0, c111_0, e111, hx111_0, hl111_0, hi111_0⟩ := at_L1 (Kd.S_reads' HO_27.out).2.2 x29_2 p111 q111
                                cases e111
                                obtain ⟨ce111, hce111, hMe111, hcc111⟩ := Kd.S_get HO_27.out [] x29_2 p111 (by first | exact q111 | exact of_decide_eq_true (by first | (with_reducible assumption) | assumption) | (have e_ := (Kd.S_reads' HO_27.out).1; omega))
                                obtain ⟨ve111_0, rfl, ge111_0⟩ := hMe111
                                have hv111_0 := hcc111 0 _ rfl
                                rw [Nat.add_zero, show ((Kd.slice 9 Kd.string)).sz = 1 from rfl, Nat.mul_one] at hv111_0
                                replace hv111_0 := Option.some.inj (hv111_0.symm.trans hx111_0)
                                rw [hv111_0] at ge111_0
                                have HL111_0 := Aside0.mk (show Kd.R Kd.string 9 _ _ _ _ (rd_L1 x3_1 x29_2) from ge111_0)
                                clear hv111_0 ge111_0
                                clear hcc111 hce111
                                have HR111_0 := Aside0.mk hi111_0
                                have HC111_0 := Aside0.mk hl111_0
                                clear hi111_0 hl111_0
                                replace p111 := eq_true p111
                                replace q111 := eq_true q111
                                have p112 : 0 ≤ (0 : Int) := (by omega)
                                have q112 : 0 < ((rd_L1 x3_1 x29_2).length : Int) := of_decide_eq_true (by first | (with_reducible assumption) | assumption)
                                obtain ⟨ad112, e112, hx112_0⟩ := Kd.at_string (by repeat (first | (with_reducible exact HR111_0.out) | (with_reducible refine Kd.C_alloc ?_ _) | (with_reducible refine Kd.C_drewN ?_ _) | (with_reducible refine Kd.C_drew ?_) | exact HR111_0.out)) 0 p112 q112
                                cases e112
                                have qi112 : (0 < (rd_L1 x3_1 x29_2).length) = True := eq_true (by omega)
                                (try rw [show ((0 : Int)).toNat = 0 from rfl] at hx112_0)
                                (try rw [Addr.add_zero'] at hx112_0)
                                replace p112 := eq_true p112
                                replace q112 := eq_true q112
                                have p113 : 0 ≤ (0 : Int) := (by omega)
                                have q113 : 0 < (y110.length : Int) := of_decide_eq_true (by first | (with_reducible assumption) | assumption)
                                obtain ⟨ad113, e113, hx113_0⟩ := Kd.at_string (Kd.R_reads' HO_6.out).2.2 0 p113 q113
                                obtain rfl : (⟨go14, 0, none⟩ : Addr) = ad113 := (by injection e113)
                                (first | simp only [add_plain] at hx113_0 | simp only [add_at] at hx113_0 | simp only [Addr.add, Nat.zero_add] at hx113_0 | skip)
                                have qi113 : (0 < y110.length) = True := eq_true (by omega)
                                (try rw [show ((0 : Int)).toNat = 0 from rfl] at hx113_0)
                                (try rw [Addr.add_zero'] at hx113_0)
                                replace p113 := eq_true p113
                                replace q113 := eq_true q113
                                go_wp2_with (go_step3)
                                repeat (go_quiet (fail); try go_wp2_with (go_step3))
                                (try simp only [← hl10_1, ← hl6_2])
                                go_roundg k2
                                case measure => have := HK1.out; have := HK2.out; omega
                                case rel => exact ⟨(x3_1), (x10_1), (wrap64 (x12_1 + 1)), (by first | rfl | (simp; done) | (simp [*]; done)), H', ⟨by have := HK1.out; have := HK2.out; omega⟩, ⟨by (try simp only [hl10_1]); (try simp only [hl6_2]); (with_reducible repeat (first | apply Kd.S_alloc | apply Kd.S_drewN | apply Kd.S_drew)); exact Kd.S_mono HO_3.out (fun _ hk => hk.2)⟩, ⟨by (try simp only [hl10_1]); (try simp only [hl6_2]); (with_reducible repeat (first | apply Kd.R_alloc | apply Kd.R_drewN | apply Kd.R_drew)); exact Kd.R_mono HO_10.out (fun _ hk => trivial)⟩, ⟨by repeat (first | (with_reducible first | exact HB.out | apply below_alloc | apply pw_below_drewN | apply below_drew1) | exact HB.out)⟩⟩
                              · rw [if_neg c26] at H
                                have c26b0 : ((rdOf ByteArray.empty (rd_L1 x3_1 x29_2) 0).toList == (rdOf ByteArray.empty y110 0).toList) = false := beq_eq_false_iff_ne.mpr c26
                                have c26b1 : ((rdOf ByteArray.empty (rd_L1 x3_1 x29_2) 0).toList != (rdOf ByteArray.empty y110 0).toList) = true := bne_iff_ne.mpr c26
                                have H' := Aside0.mk H
                                clear H
                                have p111 : 0 ≤ (x29_2 : Int) := of_decide_eq_true (by first | (with_reducible assumption) | assumption)
                                have q111 : x29_2 < (x3_1.length : Int) := of_decide_eq_true (by first | (with_reducible assumption) | assumption)
                                obtain ⟨ad111, A111_0, c111_0, e111, hx111_0, hl111_0, hi111_0⟩ := at_L1 (Kd.S_reads' HO_27.out).2.2 x29_2 p111 q111
                                cases e111
                                obtain ⟨ce111, hce111, hMe111, hcc111⟩ := Kd.S_get HO_27.out [] x29_2 p111 (by first | exact q111 | exact of_decide_eq_true (by first | (with_reducible assumption) | assumption) | (have e_ := (Kd.S_reads' HO_27.out).1; omega))
                                obtain ⟨ve111_0, rfl, ge111_0⟩ := hMe111
                                have hv111_0 := hcc111 0 _ rfl
                                rw [Nat.add_zero, show ((Kd.slice 9 Kd.string)).sz = 1 from rfl, Nat.mul_one] at hv111_0
                                replace hv111_0 := Option.some.inj (hv111_0.symm.trans hx111_0)
                                rw [hv111_0] at ge111_0
                                have HL111_0 := Aside0.mk (show Kd.R Kd.string 9 _ _ _ _ (rd_L1 x3_1 x29_2) from ge111_0)
                                clear hv111_0 ge111_0
                                clear hcc111 hce111
                                have HR111_0 := Aside0.mk hi111_0
                                have HC111_0 := Aside0.mk hl111_0
                                clear hi111_0 hl111_0
                                replace p111 := eq_true p111
                                replace q111 := eq_true q111
                                have p112 : 0 ≤ (0 : Int) := (by omega)
                                have q112 : 0 < ((rd_L1 x3_1 x29_2).length : Int) := of_decide_eq_true (by first | (with_reducible assumption) | assumption)
                                obtain ⟨ad112, e112, hx112_0⟩ := Kd.at_string (by repeat (first | (with_reducible exact HR111_0.out) | (with_reducible refine Kd.C_alloc ?_ _) | (with_reducible refine Kd.C_drewN ?_ _) | (with_reducible refine Kd.C_drew ?_) | exact HR111_0.out)) 0 p112 q112
                                cases e112
                                have qi112 : (0 < (rd_L1 x3_1 x29_2).length) = True := eq_true (by omega)
                                (try rw [show ((0 : Int)).toNat = 0 from rfl] at hx112_0)
                                (try rw [Addr.add_zero'] at hx112_0)
                                replace p112 := eq_true p112
                                replace q112 := eq_true q112
                                have p113 : 0 ≤ (0 : Int) := (by omega)
                                have q113 : 0 < (y110.length : Int) := of_decide_eq_true (by first | (with_reducible assumption) | assumption)
                                obtain ⟨ad113, e113, hx113_0⟩ := Kd.at_string (Kd.R_reads' HO_6.out).2.2 0 p113 q113
                                obtain rfl : (⟨go14, 0, none⟩ : Addr) = ad113 := (by injection e113)
                                (first | simp only [add_plain] at hx113_0 | simp only [add_at] at hx113_0 | simp only [Addr.add, Nat.zero_add] at hx113_0 | skip)
                                have qi113 : (0 < y110.length) = True := eq_true (by omega)
                                (try rw [show ((0 : Int)).toNat = 0 from rfl] at hx113_0)
                                (try rw [Addr.add_zero'] at hx113_0)
                                replace p113 := eq_true p113
                                replace q113 := eq_true q113
                                go_wp2_with (go_step3)
                                repeat (go_quiet (fail); try go_wp2_with (go_step3))
                                (try simp only [← hl6_2])
                                go_roundg k2
                                case measure => have := HK1.out; have := HK2.out; omega
                                case rel => exact ⟨(wrap64 (x29_2 + 1)), (by first | rfl | (simp; done) | (simp [*]; done)), H', ⟨by have := HK1.out; have := HK2.out; omega⟩, ⟨by (try simp only [hl10_1]); (try simp only [hl6_2]); (with_reducible repeat (first | apply Kd.S_alloc | apply Kd.S_drewN | apply Kd.S_drew)); exact HO_3.out⟩, ⟨by (try simp only [hl10_1]); (try simp only [hl6_2]); (with_reducible repeat (first | apply Kd.R_alloc | apply Kd.R_drewN | apply Kd.R_drew)); exact HO_6.out⟩, ⟨by (try simp only [hl10_1]); (try simp only [hl6_2]); (with_reducible repeat (first | apply Kd.R_alloc | apply Kd.R_drewN | apply Kd.R_drew)); exact HO_10.out⟩, ⟨by (try simp only [hl10_1]); (try simp only [hl6_2]); (with_reducible repeat (first | apply Kd.S_alloc | apply Kd.S_drewN | apply Kd.S_drew)); exact HO_27.out⟩, ⟨by repeat (first | (with_reducible first | exact HB.out | apply below_alloc | apply pw_below_drewN | apply below_drew1) | exact HB.out)⟩⟩
                            · rw [if_neg c25] at H
                              exact absurd H (by simp)
                          · rw [if_neg c24] at H
                            exact absurd H (by simp)
                        · rw [if_neg c23] at H
                          exact absurd H (by simp)
                      · rw [if_neg c22] at H
                        exact absurd H (by simp)
                    · rw [if_neg c21] at H
                      have c21b0 : decide (x29_2 < (x3_1.length : Int)) = false := decide_eq_false c21
                      (try (have c21h0 := c21b0; simp only [hl10_1, hl6_2] at c21h0))
                      clear c21
                      by_cases c27 : x3_1.length < 5864062014805
                      · rw [if_pos c27] at H
                        have LMc27 := Aside0.mk c27
                        clear c27
                        obtain ⟨y114, hy114⟩ : ∃ y_ : List (List ByteArray), y_ = (x3_1 ++ [y110]) := ⟨_, rfl⟩
                        replace H : (header_Parts.l0 k2 y114 x10_1 (t101.length : Int) (wrap64 (x12_1 + 1))) = some r := by first | (rw [hy114]; with_reducible exact H) | (have H2_ := (Option.bind_some _ _).symm.trans H; rw [hy114]; with_reducible exact H2_) | (have H2_ := (Option.bind_some _ _).symm.trans H; with_reducible exact H2_) | with_reducible exact H | (rw [hy114]; exact H) | exact H
                        have Ny114 := Aside0.mk hy114
                        clear hy114
                        have H' := Aside0.mk H
                        clear H
                        go_wp2_with (first | (go_step3) | ((with_reducible refine gate_builtin (b := .append) (xs := #[.tmp 41, .tmp 43]) rfl ?_); at_builtin; refine Kd.S_append (Kd.slice 9 Kd.string) (w0 := w) w.heap.size rfl (.tmp 41) (.tmp 43) 22 24 (.slice none 0 0) 24 rfl Tryd.underlying22 info24 rfl (by decide) (by omega) (.slice Ao20 x3_1.length co20) x3_1 y110 [.slice (some ⟨go14, 0, none⟩) y110.length co16] (fun k_ => some k_ ≠ (.slice (some ad104) x10_1.length co4 : Value).ownBlock) (fun k_ => some k_ = (.slice (some ⟨go14, 0, none⟩) y110.length co16 : Value).ownBlock) rfl rfl ?aP (fun k_ hk_ => ((Kd.R_mono (ok' := fun k_ => ((fun k_ => some k_ ≠ (.slice (some ad104) x10_1.length co4 : Value).ownBlock)) k_ ∧ some k_ ≠ (.slice Ao20 x3_1.length co20 : Value).ownBlock) (Kd.R_apart' (HO_6.out) (Kd.S_typed HO_3.out) (by decide)) (fun k_ hk => ⟨hk.1, hk.2⟩))).1 k_ hk_.symm) ?aF ?aO ?aB ?aS ?aL ?_; (case aP => exact Kd.M_row (Kd.R_mono (Kd.R_tight rfl (Kd.R_mono (ok' := fun k_ => ((fun k_ => some k_ ≠ (.slice (some ad104) x10_1.length co4 : Value).ownBlock)) k_ ∧ some k_ ≠ (.slice Ao20 x3_1.length co20 : Value).ownBlock) (Kd.R_apart' (HO_6.out) (Kd.S_typed HO_3.out) (by decide)) (fun k_ hk => ⟨hk.1, hk.2⟩))) (fun _ h_ => h_))); (case aB => exact (by repeat (first | (with_reducible first | exact HB.out | apply below_alloc | apply pw_below_drewN | apply below_drew1) | exact HB.out))); (case aF => exact (fun k_ hk => Kd.fresh' (Kd.R_lt (by (with_reducible repeat (first | apply Kd.R_alloc | apply Kd.R_drewN | apply Kd.R_drew)); exact HO_10.out)) k_ hk)); (case aO => exact (by (with_reducible repeat (first | apply Kd.S_alloc | apply Kd.S_drewN | apply Kd.S_drew)); exact Kd.S_mono HO_3.out (fun k_ hk => ⟨hk.2, fun e_ => hk.1 e_⟩))); (case aS => exact (below_size (by repeat (first | (with_reducible first | exact HB.out | apply below_alloc | apply pw_below_drewN | apply below_drew1) | exact HB.out)))); (case aL => have := LMc27.out; omega); intro v115 w28 ho hb hg hat; rw [← Ny114.out] at ho; have n0_ := Aside0.mk (Kd.R_over' (by (with_reducible repeat (first | apply Kd.R_alloc | apply Kd.R_drewN | apply Kd.R_drew)); exact HO_10.out) (Kd.S_typed (by (with_reducible repeat (first | apply Kd.S_alloc | apply Kd.S_drewN | apply Kd.S_drew)); exact HO_3.out)) (by decide) hg); have n1_ := Aside0.mk (hb); have n2_ := Aside0.mk (ho); clear HO_10; clear HB; clear HO_3; clear HO_6; have HO_10 := n0_; have HB := n1_; have HO116 := n2_; clear n0_ n1_ n2_; clear ho hb hg hat))
                        repeat (go_quiet (first | ((with_reducible refine gate_builtin (b := .append) (xs := #[.tmp 41, .tmp 43]) rfl ?_); at_builtin; refine Kd.S_append (Kd.slice 9 Kd.string) (w0 := w) w.heap.size rfl (.tmp 41) (.tmp 43) 22 24 (.slice none 0 0) 24 rfl Tryd.underlying22 info24 rfl (by decide) (by omega) (.slice Ao20 x3_1.length co20) x3_1 y110 [.slice (some ⟨go14, 0, none⟩) y110.length co16] (fun k_ => some k_ ≠ (.slice (some ad104) x10_1.length co4 : Value).ownBlock) (fun k_ => some k_ = (.slice (some ⟨go14, 0, none⟩) y110.length co16 : Value).ownBlock) rfl rfl ?aP (fun k_ hk_ => ((Kd.R_mono (ok' := fun k_ => ((fun k_ => some k_ ≠ (.slice (some ad104) x10_1.length co4 : Value).ownBlock)) k_ ∧ some k_ ≠ (.slice Ao20 x3_1.length co20 : Value).ownBlock) (Kd.R_apart' (HO_6.out) (Kd.S_typed HO_3.out) (by decide)) (fun k_ hk => ⟨hk.1, hk.2⟩))).1 k_ hk_.symm) ?aF ?aO ?aB ?aS ?aL ?_; (case aP => exact Kd.M_row (Kd.R_mono (Kd.R_tight rfl (Kd.R_mono (ok' := fun k_ => ((fun k_ => some k_ ≠ (.slice (some ad104) x10_1.length co4 : Value).ownBlock)) k_ ∧ some k_ ≠ (.slice Ao20 x3_1.length co20 : Value).ownBlock) (Kd.R_apart' (HO_6.out) (Kd.S_typed HO_3.out) (by decide)) (fun k_ hk => ⟨hk.1, hk.2⟩))) (fun _ h_ => h_))); (case aB => exact (by repeat (first | (with_reducible first | exact HB.out | apply below_alloc | apply pw_below_drewN | apply below_drew1) | exact HB.out))); (case aF => exact (fun k_ hk => Kd.fresh' (Kd.R_lt (by (with_reducible repeat (first | apply Kd.R_alloc | apply Kd.R_drewN | apply Kd.R_drew)); exact HO_10.out)) k_ hk)); (case aO => exact (by (with_reducible repeat (first | apply Kd.S_alloc | apply Kd.S_drewN | apply Kd.S_drew)); exact Kd.S_mono HO_3.out (fun k_ hk => ⟨hk.2, fun e_ => hk.1 e_⟩))); (case aS => exact (below_size (by repeat (first | (with_reducible first | exact HB.out | apply below_alloc | apply pw_below_drewN | apply below_drew1) | exact HB.out)))); (case aL => have := LMc27.out; omega); intro v115 w28 ho hb hg hat; rw [← Ny114.out] at ho; have n0_ := Aside0.mk (Kd.R_over' (by (with_reducible repeat (first | apply Kd.R_alloc | apply Kd.R_drewN | apply Kd.R_drew)); exact HO_10.out) (Kd.S_typed (by (with_reducible repeat (first | apply Kd.S_alloc | apply Kd.S_drewN | apply Kd.S_drew)); exact HO_3.out)) (by decide) hg); have n1_ := Aside0.mk (hb); have n2_ := Aside0.mk (ho); clear HO_10; clear HB; clear HO_3; clear HO_6; have HO_10 := n0_; have HB := n1_; have HO116 := n2_; clear n0_ n1_ n2_; clear ho hb hg hat)); try go_wp2_with (first | (go_step3) | ((with_reducible refine gate_builtin (b := .append) (xs := #[.tmp 41, .tmp 43]) rfl ?_); at_builtin; refine Kd.S_append (Kd.slice 9 Kd.string) (w0 := w) w.heap.size rfl (.tmp 41) (.tmp 43) 22 24 (.slice none 0 0) 24 rfl Tryd.underlying22 info24 rfl (by decide) (by omega) (.slice Ao20 x3_1.length co20) x3_1 y110 [.slice (some ⟨go14, 0, none⟩) y110.length co16] (fun k_ => some k_ ≠ (.slice (some ad104) x10_1.length co4 : Value).ownBlock) (fun k_ => some k_ = (.slice (some ⟨go14, 0, none⟩) y110.length co16 : Value).ownBlock) rfl rfl ?aP (fun k_ hk_ => ((Kd.R_mono (ok' := fun k_ => ((fun k_ => some k_ ≠ (.slice (some ad104) x10_1.length co4 : Value).ownBlock)) k_ ∧ some k_ ≠ (.slice Ao20 x3_1.length co20 : Value).ownBlock) (Kd.R_apart' (HO_6.out) (Kd.S_typed HO_3.out) (by decide)) (fun k_ hk => ⟨hk.1, hk.2⟩))).1 k_ hk_.symm) ?aF ?aO ?aB ?aS ?aL ?_; (case aP => exact Kd.M_row (Kd.R_mono (Kd.R_tight rfl (Kd.R_mono (ok' := fun k_ => ((fun k_ => some k_ ≠ (.slice (some ad104) x10_1.length co4 : Value).ownBlock)) k_ ∧ some k_ ≠ (.slice Ao20 x3_1.length co20 : Value).ownBlock) (Kd.R_apart' (HO_6.out) (Kd.S_typed HO_3.out) (by decide)) (fun k_ hk => ⟨hk.1, hk.2⟩))) (fun _ h_ => h_))); (case aB => exact (by repeat (first | (with_reducible first | exact HB.out | apply below_alloc | apply pw_below_drewN | apply below_drew1) | exact HB.out))); (case aF => exact (fun k_ hk => Kd.fresh' (Kd.R_lt (by (with_reducible repeat (first | apply Kd.R_alloc | apply Kd.R_drewN | apply Kd.R_drew)); exact HO_10.out)) k_ hk)); (case aO => exact (by (with_reducible repeat (first | apply Kd.S_alloc | apply Kd.S_drewN | apply Kd.S_drew)); exact Kd.S_mono HO_3.out (fun k_ hk => ⟨hk.2, fun e_ => hk.1 e_⟩))); (case aS => exact (below_size (by repeat (first | (with_reducible first | exact HB.out | apply below_alloc | apply pw_below_drewN | apply below_drew1) | exact HB.out)))); (case aL => have := LMc27.out; omega); intro v115 w28 ho hb hg hat; rw [← Ny114.out] at ho; have n0_ := Aside0.mk (Kd.R_over' (by (with_reducible repeat (first | apply Kd.R_alloc | apply Kd.R_drewN | apply Kd.R_drew)); exact HO_10.out) (Kd.S_typed (by (with_reducible repeat (first | apply Kd.S_alloc | apply Kd.S_drewN | apply Kd.S_drew)); exact HO_3.out)) (by decide) hg); have n1_ := Aside0.mk (hb); have n2_ := Aside0.mk (ho); clear HO_10; clear HB; clear HO_3; clear HO_6; have HO_10 := n0_; have HB := n1_; have HO116 := n2_; clear n0_ n1_ n2_; clear ho hb hg hat)))
                        (try simp only [← hl10_1, ← hl6_2])
                        go_roundg k2
                        case measure => have := HK1.out; have := HK2.out; omega
                        case rel => exact ⟨(y114), (x10_1), (wrap64 (x12_1 + 1)), (by first | rfl | (simp; done) | (simp [*]; done)), H', ⟨by have := HK1.out; have := HK2.out; omega⟩, ⟨by (try simp only [hl10_1]); (try simp only [hl6_2]); (with_reducible repeat (first | apply Kd.S_alloc | apply Kd.S_drewN | apply Kd.S_drew)); exact HO116.out⟩, ⟨by (try simp only [hl10_1]); (try simp only [hl6_2]); (with_reducible repeat (first | apply Kd.R_alloc | apply Kd.R_drewN | apply Kd.R_drew)); exact Kd.R_mono HO_10.out (fun _ hk => trivial)⟩, ⟨by repeat (first | (with_reducible first | exact HB.out | apply below_alloc | apply pw_below_drewN | apply below_drew1) | exact HB.out)⟩⟩
                      · rw [if_neg c27] at H
                        exact absurd H (by simp)
              · rw [if_neg c12] at H
                exact absurd H (by simp)
          · rw [if_neg c7] at H
            exact absurd H (by simp)
        · rw [if_neg c6] at H
          exact absurd H (by simp)
      · rw [if_neg c5] at H
        have c5b0 : decide (x12_1 < (t101.length : Int)) = false := decide_eq_false c5
        (try (have c5h0 := c5b0; simp only [hl10_1] at c5h0))
        clear c5
        obtain rfl := Option.some.inj H
        go_wp2_with (go_step3)
        repeat (go_quiet (fail); try go_wp2_with (go_step3))
        (try rw [Exit.noGoto_ret]); go_ret
        exact ⟨_, by first | rfl | (simp [errW_none, errW_some] <;> rfl) | (simp [*, errW_none, errW_some] <;> rfl), by (with_reducible repeat (first | apply Kd.S_alloc | apply Kd.S_drewN | apply Kd.S_drew)); exact Kd.S_mono HO_3.out (fun _ hk => trivial), by repeat (first | (with_reducible first | exact HB.out | apply below_alloc | apply pw_below_drewN | apply below_drew1) | exact HB.out)⟩

/-! ### header_named: function 27 -/
def header_named.l0 : Nat → ByteArray → List (List ByteArray) → Int → Int → Option (List ByteArray × Bool)
  | 0, _, _, _, _ => none
  | k + 1, x1, x8, x9, x10 => if x10 < x9 then (if 0 ≤ x10 then (if x10 < (x8.length : Int) then (if 0 < ((rd_L1 x8 x10).length : Int) then (if (rdOf ByteArray.empty (rd_L1 x8 x10) 0).toList = x1.toList then (if 1 ≤ ((rd_L1 x8 x10).length : Int) then (some (((rd_L1 x8 x10).drop 1), true)) else (none)) else (header_named.l0 k x1 x8 x9 (wrap64 (x10 + 1)))) else (none)) else (none)) else (none)) else (some (([] : List ByteArray), false))
def header_named.f (k : Nat) (l0 : List (List ByteArray)) (a1 : ByteArray) : Option (List ByteArray × Bool) := header_named.l0 k a1 l0 (l0.length : Int) 0
theorem header_named.mono_l : ∀ k, (∀ y0 y1 y2 y3, LeO (header_named.l0 k y0 y1 y2 y3) (header_named.l0 (k + 1) y0 y1 y2 y3))
  | 0 => fun _ _ _ _ r h => by simp [header_named.l0] at h
  | k + 1 => by
    have ih0 := header_named.mono_l k
    · intro y0 y1 y2 y3
      unfold header_named.l0
      repeat' first
      | (with_reducible exact ih0 _ _ _ _)
      | (with_reducible exact LeO.refl _)
      | (with_reducible exact LeO.none _)
      | (with_reducible refine LeO.ite ?_ ?_)
      | (with_reducible refine LeO.bind ?_ (fun _ => ?_))
      | exact ih0 _ _ _ _
      | exact LeO.none _
      | refine LeO.ite ?_ ?_
      | refine LeO.bind ?_ (fun _ => ?_)
theorem header_named.mono : ∀ a0 a1 k, LeO (header_named.f k a0 a1) (header_named.f (k + 1) a0 a1) := by
  intro a0 a1 k
  have ih0 := header_named.mono_l k
  unfold header_named.f
  repeat' first
      | (with_reducible exact ih0 _ _ _ _)
      | (with_reducible exact LeO.refl _)
      | (with_reducible exact LeO.none _)
      | (with_reducible refine LeO.ite ?_ ?_)
      | (with_reducible refine LeO.bind ?_ (fun _ => ?_))
      | exact ih0 _ _ _ _
      | exact LeO.none _
      | refine LeO.ite ?_ ?_
      | refine LeO.bind ?_ (fun _ => ?_)
set_option maxHeartbeats 8000000 in
set_option maxRecDepth 100000 in
theorem header_named.calls (k : Nat) (P0_ : Nat → Prop) (A0 : Option Addr) (c0 : Nat) (l0 : List (List ByteArray)) (a1 : ByteArray) (r1 : List ByteArray) (r2 : Bool) (w : World) (hs0 : Kd.V (Kd.slice 9 Kd.string) 24 w w.heap.size (fun k_ => P0_ k_) (.slice A0 l0.length c0) l0) (h : header_named.f k l0 a1 = some (r1, r2)) :
    Calls Tryd.prog 27 #[.slice A0 l0.length c0, .string a1] w fun e w' => ∃ v0_ : Value, e = .returned (.tuple #[v0_, .bool r2]) ∧ Kd.V Kd.string 9 w' w.heap.size (fun k_ => (P0_ k_ ∨ w.heap.size ≤ k_)) v0_ r1 ∧ Below w.heap.size w w' := by
  have HO0 := Aside0.mk (show Kd.V (Kd.slice 9 Kd.string) 24 w w.heap.size (fun k_ => (P0_ k_ ∨ w.heap.size ≤ k_)) (.slice A0 l0.length c0) l0 from Kd.V_mono hs0 (fun k_ hk => .inl hk))
  have HB := Aside0.mk (Below.refl w.heap.size w)
  have H : (header_named.l0 k a1 l0 (l0.length : Int) 0) = some (r1, r2) := h
  clear h
  have H' := Aside0.mk H
  clear H
  go_enter Tryd.func27, Tryd.ntmps27
  go_wp2
  go_loopg [10] k (fun kq v10 w' => ∃ (x10_1 : Int), v10 = .int .i64 x10_1 ∧ Aside0 (header_named.l0 kq a1 l0 (l0.length : Int) x10_1 = some (r1, r2)) ∧ Aside0 (kq ≤ k) ∧ Aside0 (Kd.V (Kd.slice 9 Kd.string) 24 w' w.heap.size (fun k_ => (P0_ k_ ∨ w.heap.size ≤ k_)) (.slice A0 l0.length c0) l0) ∧ Aside0 (Below w.heap.size w w'))
  case atStart => exact ⟨(0), (by first | rfl | (simp; done) | (simp [*]; done)), H', ⟨Nat.le_refl _⟩, ⟨by (with_reducible repeat (first | apply Kd.V_alloc | apply Kd.V_drewN | apply Kd.V_drew)); exact HO0.out⟩, ⟨by repeat (first | (with_reducible first | exact HB.out | apply below_alloc | apply pw_below_drewN | apply below_drew1) | exact HB.out)⟩⟩
  case round =>
    clear H'
    try clear c2
    try clear p2
    obtain ⟨x10_1, rfl, HA, HK1, HO_8, HB⟩ := hrel
    cases gk with
    | zero => exact absurd HA.out (by simp [header_named.l0])
    | succ k1 =>
      have H := HA.out
      clear HA
      simp only [header_named.l0] at H
      by_cases c3 : x10_1 < (l0.length : Int)
      · rw [if_pos c3] at H
        have c3b0 : decide (x10_1 < (l0.length : Int)) = true := decide_eq_true c3
        clear c3
        by_cases c4 : 0 ≤ x10_1
        · rw [if_pos c4] at H
          have c4b0 : decide (0 ≤ x10_1) = true := decide_eq_true c4
          clear c4
          by_cases c5 : x10_1 < (l0.length : Int)
          · rw [if_pos c5] at H
            have c5b0 : decide (x10_1 < (l0.length : Int)) = true := decide_eq_true c5
            clear c5
            by_cases c6 : 0 < ((rd_L1 l0 x10_1).length : Int)
            · rw [if_pos c6] at H
              have c6b0 : decide (0 < ((rd_L1 l0 x10_1).length : Int)) = true := decide_eq_true c6
              have c6b1 : decide (0 < (rd_L1 l0 x10_1).length) = true := decide_eq_true (by omega)
              clear c6
              by_cases c7 : (rdOf ByteArray.empty (rd_L1 l0 x10_1) 0).toList = a1.toList
              · rw [if_pos c7] at H
                have c7b0 : ((rdOf ByteArray.empty (rd_L1 l0 x10_1) 0).toList == a1.toList) = true := beq_iff_eq.mpr c7
                have c7b1 : ((rdOf ByteArray.empty (rd_L1 l0 x10_1) 0).toList != a1.toList) = false := bne_eq_false_iff_eq.mpr c7
                clear c7
                by_cases c8 : 1 ≤ ((rd_L1 l0 x10_1).length : Int)
                · rw [if_pos c8] at H
                  have c8b0 := eq_true c8
                  have c8b1 : decide (1 ≤ ((rd_L1 l0 x10_1).length : Int)) = true := decide_eq_true c8
                  clear c8
                  obtain ⟨y119, hy119⟩ : ∃ y_ : List ByteArray, y_ = ((rd_L1 l0 x10_1).drop 1) := ⟨_, rfl⟩
                  replace H : (some (y119, true)) = some (r1, r2) := by first | (rw [hy119]; with_reducible exact H) | (have H2_ := (Option.bind_some _ _).symm.trans H; rw [hy119]; with_reducible exact H2_) | (have H2_ := (Option.bind_some _ _).symm.trans H; with_reducible exact H2_) | with_reducible exact H | (rw [hy119]; exact H) | exact H
                  have Ny119 := Aside0.mk hy119
                  clear hy119
                  simp only [Option.some.injEq, Prod.mk.injEq] at H
                  obtain ⟨rfl, rfl⟩ := H
                  have p117 : 0 ≤ (x10_1 : Int) := of_decide_eq_true (by first | (with_reducible assumption) | assumption)
                  have q117 : x10_1 < (l0.length : Int) := of_decide_eq_true (by first | (with_reducible assumption) | assumption)
                  obtain ⟨ad117, A117_0, c117_0, e117, hx117_0, hl117_0, hi117_0⟩ := at_L1 (Kd.V_reads' HO_8.out).2.2 x10_1 p117 q117
                  cases e117
                  obtain ⟨ce117, hce117, hMe117, hcc117⟩ := Kd.V_get HO_8.out [] x10_1 p117 (by first | exact q117 | exact of_decide_eq_true (by first | (with_reducible assumption) | assumption) | (have e_ := (Kd.V_reads' HO_8.out).1; omega))
                  obtain ⟨ua117_0, uc117_0, rfl, ul117_0, ge117_0⟩ := Kd.FK_slice_open hMe117
                  have hv117_0 := hcc117 0 _ rfl
                  rw [Nat.add_zero, show ((Kd.slice 9 Kd.string)).sz = 1 from rfl, Nat.mul_one] at hv117_0
                  replace hv117_0 := Option.some.inj (hv117_0.symm.trans hx117_0)
                  injection hv117_0 with hva_ hvn_ hvc_
                  rw [hva_] at ge117_0
                  rw [hvc_] at ul117_0
                  have HL117_0 := Aside0.mk (show Kd.V Kd.string 9 _ w.heap.size _ _ (rd_L1 l0 x10_1) from Kd.V_mk ul117_0 ge117_0)
                  clear hva_ hvn_ hvc_ ge117_0 ul117_0
                  clear hcc117 hce117
                  have HR117_0 := Aside0.mk hi117_0
                  have HC117_0 := Aside0.mk hl117_0
                  clear hi117_0 hl117_0
                  replace p117 := eq_true p117
                  replace q117 := eq_true q117
                  have p118 : 0 ≤ (0 : Int) := (by omega)
                  have q118 : 0 < ((rd_L1 l0 x10_1).length : Int) := of_decide_eq_true (by first | (with_reducible assumption) | assumption)
                  obtain ⟨ad118, e118, hx118_0⟩ := Kd.at_string (by repeat (first | (with_reducible exact HR117_0.out) | (with_reducible refine Kd.C_alloc ?_ _) | (with_reducible refine Kd.C_drewN ?_ _) | (with_reducible refine Kd.C_drew ?_) | exact HR117_0.out)) 0 p118 q118
                  cases e118
                  have qi118 : (0 < (rd_L1 l0 x10_1).length) = True := eq_true (by omega)
                  (try rw [show ((0 : Int)).toNat = 0 from rfl] at hx118_0)
                  (try rw [Addr.add_zero'] at hx118_0)
                  replace p118 := eq_true p118
                  replace q118 := eq_true q118
                  have q9 : (1 : Int) ≤ (((rd_L1 l0 x10_1).length : Int) : Int) := of_decide_eq_true (by first | (with_reducible assumption) | assumption)
                  obtain ⟨i09, hi09, _, hsz9, _⟩ := info_parts info9
                  have hroom9 : (rd_L1 l0 x10_1).length ≤ c117_0 := HC117_0.out
                  have hC9 : Kd.F Kd.string _ _ (some ad118) (rd_L1 l0 x10_1).length (rd_L1 l0 x10_1) := (Kd.V_at (base := w.heap.size) HL117_0.out).2.2
                  have hcut9 := cut_from (P := Tryd.prog) 24 9 .i64 Tryd.underlying24 hi09 1 hsz9 (some ad118) (rd_L1 l0 x10_1).length c117_0 1 (by omega) q9
                  have hr9 := Kd.F_cut (m := (1 : Int).toNat) (c := c117_0) hC9 (by omega) hroom9
                  obtain ⟨A9, hA9⟩ : ∃ A1, A1 = (if c117_0 = (1 : Int).toNat then (some ad118) else ((some ad118) : Option Addr).map (·.add ((1 : Int).toNat * 1))) := ⟨_, rfl⟩
                  obtain ⟨c9, hc9⟩ : ∃ c1, c1 = c117_0 - (1 : Int).toNat := ⟨_, rfl⟩
                  have hy9 : y119.length = (rd_L1 l0 x10_1).length - (1 : Int).toNat := (by rw [Ny119.out, List.length_drop] <;> omega)
                  rw [show (rd_L1 l0 x10_1).drop (1 : Int).toNat = y119 from Ny119.out.symm] at hr9
                  replace hr9 : Kd.F Kd.string _ _ A9 y119.length y119 := (by rw [hA9]; exact hr9)
                  rw [← hy9, ← hA9, ← hc9] at hcut9
                  have HO123 := Aside0.mk (show Kd.V Kd.string 9 _ w.heap.size _ (.slice A9 y119.length c9) y119 from Kd.V_mk (by rw [hy9, hc9]; exact Nat.sub_le_sub_right hroom9 _) hr9)
                  have HC123 := Aside0.mk (show y119.length ≤ c9 from by rw [hy9, hc9]; exact Nat.sub_le_sub_right hroom9 _)
                  clear hr9 hC9 hroom9 hi09 hsz9 hc9
                  have KY9 := Aside0.mk hy9
                  have KA9 := Aside0.mk hA9
                  clear hy9 hA9
                  replace q9 := eq_true q9
                  go_wp2
                  go_ret2
                  exact ⟨_, by first | rfl | (simp [errW_none, errW_some] <;> rfl) | (simp [*, errW_none, errW_some] <;> rfl), by (with_reducible repeat (first | apply Kd.V_alloc | apply Kd.V_drewN | apply Kd.V_drew)); exact HO123.out, by repeat (first | (with_reducible first | exact HB.out | apply below_alloc | apply pw_below_drewN | apply below_drew1) | exact HB.out)⟩
                · rw [if_neg c8] at H
                  exact absurd H (by simp)
              · rw [if_neg c7] at H
                have c7b0 : ((rdOf ByteArray.empty (rd_L1 l0 x10_1) 0).toList == a1.toList) = false := beq_eq_false_iff_ne.mpr c7
                have c7b1 : ((rdOf ByteArray.empty (rd_L1 l0 x10_1) 0).toList != a1.toList) = true := bne_iff_ne.mpr c7
                have H' := Aside0.mk H
                clear H
                have p117 : 0 ≤ (x10_1 : Int) := of_decide_eq_true (by first | (with_reducible assumption) | assumption)
                have q117 : x10_1 < (l0.length : Int) := of_decide_eq_true (by first | (with_reducible assumption) | assumption)
                obtain ⟨ad117, A117_0, c117_0, e117, hx117_0, hl117_0, hi117_0⟩ := at_L1 (Kd.V_reads' HO_8.out).2.2 x10_1 p117 q117
                cases e117
                obtain ⟨ce117, hce117, hMe117, hcc117⟩ := Kd.V_get HO_8.out [] x10_1 p117 (by first | exact q117 | exact of_decide_eq_true (by first | (with_reducible assumption) | assumption) | (have e_ := (Kd.V_reads' HO_8.out).1; omega))
                obtain ⟨ua117_0, uc117_0, rfl, ul117_0, ge117_0⟩ := Kd.FK_slice_open hMe117
                have hv117_0 := hcc117 0 _ rfl
                rw [Nat.add_zero, show ((Kd.slice 9 Kd.string)).sz = 1 from rfl, Nat.mul_one] at hv117_0
                replace hv117_0 := Option.some.inj (hv117_0.symm.trans hx117_0)
                injection hv117_0 with hva_ hvn_ hvc_
                rw [hva_] at ge117_0
                rw [hvc_] at ul117_0
                have HL117_0 := Aside0.mk (show Kd.V Kd.string 9 _ w.heap.size _ _ (rd_L1 l0 x10_1) from Kd.V_mk ul117_0 ge117_0)
                clear hva_ hvn_ hvc_ ge117_0 ul117_0
                clear hcc117 hce117
                have HR117_0 := Aside0.mk hi117_0
                have HC117_0 := Aside0.mk hl117_0
                clear hi117_0 hl117_0
                replace p117 := eq_true p117
                replace q117 := eq_true q117
                have p118 : 0 ≤ (0 : Int) := (by omega)
                have q118 : 0 < ((rd_L1 l0 x10_1).length : Int) := of_decide_eq_true (by first | (with_reducible assumption) | assumption)
                obtain ⟨ad118, e118, hx118_0⟩ := Kd.at_string (by repeat (first | (with_reducible exact HR117_0.out) | (with_reducible refine Kd.C_alloc ?_ _) | (with_reducible refine Kd.C_drewN ?_ _) | (with_reducible refine Kd.C_drew ?_) | exact HR117_0.out)) 0 p118 q118
                cases e118
                have qi118 : (0 < (rd_L1 l0 x10_1).length) = True := eq_true (by omega)
                (try rw [show ((0 : Int)).toNat = 0 from rfl] at hx118_0)
                (try rw [Addr.add_zero'] at hx118_0)
                replace p118 := eq_true p118
                replace q118 := eq_true q118
                go_wp2
                go_roundg k1
                case measure => have := HK1.out; omega
                case rel => exact ⟨(wrap64 (x10_1 + 1)), (by first | rfl | (simp; done) | (simp [*]; done)), H', ⟨by have := HK1.out; omega⟩, ⟨by (with_reducible repeat (first | apply Kd.V_alloc | apply Kd.V_drewN | apply Kd.V_drew)); exact HO_8.out⟩, ⟨by repeat (first | (with_reducible first | exact HB.out | apply below_alloc | apply pw_below_drewN | apply below_drew1) | exact HB.out)⟩⟩
            · rw [if_neg c6] at H
              exact absurd H (by simp)
          · rw [if_neg c5] at H
            exact absurd H (by simp)
        · rw [if_neg c4] at H
          exact absurd H (by simp)
      · rw [if_neg c3] at H
        have c3b0 : decide (x10_1 < (l0.length : Int)) = false := decide_eq_false c3
        clear c3
        simp only [Option.some.injEq, Prod.mk.injEq] at H
        obtain ⟨rfl, rfl⟩ := H
        go_wp2
        go_ret2
        exact ⟨.slice none 0 0, by first | rfl | (simp [errW_none, errW_some] <;> rfl) | (simp [*, errW_none, errW_some] <;> rfl), (by first | exact Kd.V_nil _ _ _ _ _ | exact Kd.V_mono (Kd.R_V (Kd.R_nil _ _ _ _ _)) (fun k_ hk => by first | exact ⟨(.inr (hk.1)), hk.2⟩ | exact (.inr (hk)))), by repeat (first | (with_reducible first | exact HB.out | apply below_alloc | apply pw_below_drewN | apply below_drew1) | exact HB.out)⟩

/-! ### slices_Index_string_string: function 36 -/
def slices_Index_string_string.l0 : Nat → List ByteArray → ByteArray → Int → Int → Option (Int)
  | 0, _, _, _, _ => none
  | k + 1, x0, x1, x7, x8 => if x8 < x7 then (if 0 ≤ x8 then (if x8 < (x0.length : Int) then (if x1.toList = (rdOf ByteArray.empty x0 x8).toList then (some x8) else (slices_Index_string_string.l0 k x0 x1 x7 (wrap64 (x8 + 1)))) else (none)) else (none)) else (some (-1))
def slices_Index_string_string.f (k : Nat) (l0 : List ByteArray) (a1 : ByteArray) : Option (Int) := slices_Index_string_string.l0 k l0 a1 (l0.length : Int) 0
theorem slices_Index_string_string.mono_l : ∀ k, (∀ y0 y1 y2 y3, LeO (slices_Index_string_string.l0 k y0 y1 y2 y3) (slices_Index_string_string.l0 (k + 1) y0 y1 y2 y3))
  | 0 => fun _ _ _ _ r h => by simp [slices_Index_string_string.l0] at h
  | k + 1 => by
    have ih0 := slices_Index_string_string.mono_l k
    · intro y0 y1 y2 y3
      unfold slices_Index_string_string.l0
      repeat' first
      | (with_reducible exact ih0 _ _ _ _)
      | (with_reducible exact LeO.refl _)
      | (with_reducible exact LeO.none _)
      | (with_reducible refine LeO.ite ?_ ?_)
      | (with_reducible refine LeO.bind ?_ (fun _ => ?_))
      | exact ih0 _ _ _ _
      | exact LeO.none _
      | refine LeO.ite ?_ ?_
      | refine LeO.bind ?_ (fun _ => ?_)
theorem slices_Index_string_string.mono : ∀ a0 a1 k, LeO (slices_Index_string_string.f k a0 a1) (slices_Index_string_string.f (k + 1) a0 a1) := by
  intro a0 a1 k
  have ih0 := slices_Index_string_string.mono_l k
  unfold slices_Index_string_string.f
  repeat' first
      | (with_reducible exact ih0 _ _ _ _)
      | (with_reducible exact LeO.refl _)
      | (with_reducible exact LeO.none _)
      | (with_reducible refine LeO.ite ?_ ?_)
      | (with_reducible refine LeO.bind ?_ (fun _ => ?_))
      | exact ih0 _ _ _ _
      | exact LeO.none _
      | refine LeO.ite ?_ ?_
      | refine LeO.bind ?_ (fun _ => ?_)
set_option maxHeartbeats 8000000 in
set_option maxRecDepth 100000 in
theorem slices_Index_string_string.calls (k : Nat) (A0 : Option Addr) (c0 : Nat) (l0 : List ByteArray) (a1 : ByteArray) (r : Int) (w : World) (hr0 : Kd.C Kd.string w A0 l0.length l0) (hc0 : l0.length ≤ c0) (h : slices_Index_string_string.f k l0 a1 = some r) :
    Calls Tryd.prog 36 #[.slice A0 l0.length c0, .string a1] w fun e w' => e = .returned (.int .i64 r) ∧ Drawn0 w w' := by
  have HR0 := Aside0.mk hr0
  have HC0 := Aside0.mk hc0
  clear hr0 hc0
  have H : (slices_Index_string_string.l0 k l0 a1 (l0.length : Int) 0) = some r := h
  clear h
  have H' := Aside0.mk H
  clear H
  go_enter Tryd.func36, Tryd.ntmps36
  go_wp2
  go_loopg [8] k (fun kq v8 w' => ∃ (x8_1 : Int), v8 = .int .i64 x8_1 ∧ Aside0 (slices_Index_string_string.l0 kq l0 a1 (l0.length : Int) x8_1 = some r) ∧ Aside0 (kq ≤ k) ∧ Drawn0 w w')
  case atStart => exact ⟨(0), (by first | rfl | (simp; done) | (simp [*]; done)), H', ⟨Nat.le_refl _⟩, by repeat (first | exact Drawn0.refl _ | apply Drawn0.step)⟩
  case round =>
    clear H'
    try clear p2
    obtain ⟨x8_1, rfl, HA, HK1, ⟨m1, rfl⟩⟩ := hrel
    cases gk with
    | zero => exact absurd HA.out (by simp [slices_Index_string_string.l0])
    | succ k1 =>
      have H := HA.out
      clear HA
      simp only [slices_Index_string_string.l0] at H
      by_cases c3 : x8_1 < (l0.length : Int)
      · rw [if_pos c3] at H
        have c3b0 : decide (x8_1 < (l0.length : Int)) = true := decide_eq_true c3
        clear c3
        by_cases c4 : 0 ≤ x8_1
        · rw [if_pos c4] at H
          have c4b0 : decide (0 ≤ x8_1) = true := decide_eq_true c4
          clear c4
          by_cases c5 : x8_1 < (l0.length : Int)
          · rw [if_pos c5] at H
            have c5b0 : decide (x8_1 < (l0.length : Int)) = true := decide_eq_true c5
            clear c5
            by_cases c6 : a1.toList = (rdOf ByteArray.empty l0 x8_1).toList
            · rw [if_pos c6] at H
              have c6b0 : (a1.toList == (rdOf ByteArray.empty l0 x8_1).toList) = true := beq_iff_eq.mpr c6
              have c6b1 : (a1.toList != (rdOf ByteArray.empty l0 x8_1).toList) = false := bne_eq_false_iff_eq.mpr c6
              clear c6
              obtain rfl := Option.some.inj H
              have p124 : 0 ≤ (x8_1 : Int) := of_decide_eq_true (by first | (with_reducible assumption) | assumption)
              have q124 : x8_1 < (l0.length : Int) := of_decide_eq_true (by first | (with_reducible assumption) | assumption)
              obtain ⟨ad124, e124, hx124_0⟩ := Kd.at_string HR0.out x8_1 p124 q124
              cases e124
              replace p124 := eq_true p124
              replace q124 := eq_true q124
              go_wp2
              go_ret
              exact ⟨by first | rfl | (simp; done) | (simp [*]; done) | (simp; generalize ByteArray.toList _ = l_; cases l_ <;> rfl), by repeat (first | exact Drawn0.refl _ | apply Drawn0.step)⟩
            · rw [if_neg c6] at H
              have c6b0 : (a1.toList == (rdOf ByteArray.empty l0 x8_1).toList) = false := beq_eq_false_iff_ne.mpr c6
              have c6b1 : (a1.toList != (rdOf ByteArray.empty l0 x8_1).toList) = true := bne_iff_ne.mpr c6
              have H' := Aside0.mk H
              clear H
              have p124 : 0 ≤ (x8_1 : Int) := of_decide_eq_true (by first | (with_reducible assumption) | assumption)
              have q124 : x8_1 < (l0.length : Int) := of_decide_eq_true (by first | (with_reducible assumption) | assumption)
              obtain ⟨ad124, e124, hx124_0⟩ := Kd.at_string HR0.out x8_1 p124 q124
              cases e124
              replace p124 := eq_true p124
              replace q124 := eq_true q124
              go_wp2
              go_roundg k1
              case measure => have := HK1.out; omega
              case rel => exact ⟨(wrap64 (x8_1 + 1)), (by first | rfl | (simp; done) | (simp [*]; done)), H', ⟨by have := HK1.out; omega⟩, by repeat (first | exact Drawn0.refl _ | apply Drawn0.step)⟩
          · rw [if_neg c5] at H
            exact absurd H (by simp)
        · rw [if_neg c4] at H
          exact absurd H (by simp)
      · rw [if_neg c3] at H
        have c3b0 : decide (x8_1 < (l0.length : Int)) = false := decide_eq_false c3
        clear c3
        obtain rfl := Option.some.inj H
        go_wp2
        go_ret
        exact ⟨by first | rfl | (simp; done) | (simp [*]; done) | (simp; generalize ByteArray.toList _ = l_; cases l_ <;> rfl), by repeat (first | exact Drawn0.refl _ | apply Drawn0.step)⟩

/-! ### slices_Contains_string_string: function 28 -/
def slices_Contains_string_string.f (k : Nat) (l0 : List ByteArray) (a1 : ByteArray) : Option (Bool) := (slices_Index_string_string.f k l0 a1).bind fun t125 => (some (decide (t125 ≥ 0)))
theorem slices_Contains_string_string.mono : ∀ a0 a1 k, LeO (slices_Contains_string_string.f k a0 a1) (slices_Contains_string_string.f (k + 1) a0 a1) := by
  intro a0 a1 k
  unfold slices_Contains_string_string.f
  repeat' first
      | (with_reducible exact slices_Index_string_string.mono _ _ _)
      | (with_reducible exact LeO.refl _)
      | (with_reducible exact LeO.none _)
      | (with_reducible refine LeO.ite ?_ ?_)
      | (with_reducible refine LeO.bind ?_ (fun _ => ?_))
      | exact slices_Index_string_string.mono _ _ _
      | exact LeO.none _
      | refine LeO.ite ?_ ?_
      | refine LeO.bind ?_ (fun _ => ?_)
set_option maxHeartbeats 8000000 in
set_option maxRecDepth 100000 in
theorem slices_Contains_string_string.calls (k : Nat) (A0 : Option Addr) (c0 : Nat) (l0 : List ByteArray) (a1 : ByteArray) (r : Bool) (w : World) (hr0 : Kd.C Kd.string w A0 l0.length l0) (hc0 : l0.length ≤ c0) (h : slices_Contains_string_string.f k l0 a1 = some r) :
    Calls Tryd.prog 28 #[.slice A0 l0.length c0, .string a1] w fun e w' => e = .returned (.bool r) ∧ Drawn0 w w' := by
  have HR0 := Aside0.mk hr0
  have HC0 := Aside0.mk hc0
  clear hr0 hc0
  have H : ((slices_Index_string_string.f k l0 a1).bind fun t125 => (some (decide (t125 ≥ 0)))) = some r := h
  clear h
  replace H := Option.bind_eq_some_iff.mp H
  obtain ⟨t125, A30, H⟩ := H
  replace H : (some (decide (t125 ≥ 0))) = some r := H
  have A3 := Aside0.mk A30
  clear A30
  obtain rfl := Option.some.inj H
  go_enter Tryd.func28, Tryd.ntmps28
  go_wp2_with (first | ((with_reducible refine gate_callee (f := 36) rfl ?_); refine goesL_ (some 7) rfl rfl Tryd.func36 (by kernel_rfl) rfl #[.slice A0 l0.length c0, .string a1] rfl (by (try simp only [List.map_toArray, List.map_cons, List.map_nil]); first | done | rfl | (simp only [List.length_drop, List.length_take]; rfl)) ?_; (with_reducible refine (slices_Index_string_string.calls k _ _ l0 a1 t125 _ ?side1 ?side2 A3.out).mono ?_); (case side1 => repeat (first | exact HR0.out | (with_reducible refine Kd.C_alloc ?_ _) | (with_reducible refine Kd.C_drewN ?_ _) | (with_reducible refine Kd.C_drew ?_))); (case side2 => exact HC0.out); rintro e w' ⟨rfl, ⟨nd, rfl⟩⟩; refine ⟨_, rfl, ?_⟩))
  go_ret
  exact ⟨by first | rfl | (simp; done) | (simp [*]; done) | (simp; generalize ByteArray.toList _ = l_; cases l_ <;> rfl), by repeat (first | exact Drawn0.refl _ | apply Drawn0.step)⟩

/-! ### fold_Letter: function 37 -/
def fold_Letter.f (a0 : Int) : Option (Bool) := if a0 ≥ 97 then (if a0 ≤ 122 then (some true) else (if a0 ≥ 65 then (some (decide (a0 ≤ 90))) else (some false))) else (if a0 ≥ 65 then (some (decide (a0 ≤ 90))) else (some false))
set_option maxHeartbeats 8000000 in
set_option maxRecDepth 100000 in
theorem fold_Letter.calls (a0 : Int) (r : Bool) (w : World) (h : fold_Letter.f a0 = some r) :
    Calls Tryd.prog 37 #[.int .u8 a0] w fun e w' => e = .returned (.bool r) ∧ Drawn0 w w' := by
  have H : (if a0 ≥ 97 then (if a0 ≤ 122 then (some true) else (if a0 ≥ 65 then (some (decide (a0 ≤ 90))) else (some false))) else (if a0 ≥ 65 then (some (decide (a0 ≤ 90))) else (some false))) = some r := h
  clear h
  by_cases c2 : a0 ≥ 97
  · rw [if_pos c2] at H
    have c2b0 : decide (97 ≤ a0) = true := decide_eq_true c2
    clear c2
    by_cases c3 : a0 ≤ 122
    · rw [if_pos c3] at H
      have c3b0 : decide (a0 ≤ 122) = true := decide_eq_true c3
      clear c3
      obtain rfl := Option.some.inj H
      go_enter Tryd.func37, Tryd.ntmps37
      go_wp2
      go_ret
      exact ⟨by first | rfl | (simp; done) | (simp [*]; done) | (simp; generalize ByteArray.toList _ = l_; cases l_ <;> rfl), by repeat (first | exact Drawn0.refl _ | apply Drawn0.step)⟩
    · rw [if_neg c3] at H
      have c3b0 : decide (a0 ≤ 122) = false := decide_eq_false c3
      clear c3
      by_cases c4 : a0 ≥ 65
      · rw [if_pos c4] at H
        have c4b0 : decide (65 ≤ a0) = true := decide_eq_true c4
        clear c4
        obtain rfl := Option.some.inj H
        go_enter Tryd.func37, Tryd.ntmps37
        go_wp2
        go_ret
        exact ⟨by first | rfl | (simp; done) | (simp [*]; done) | (simp; generalize ByteArray.toList _ = l_; cases l_ <;> rfl), by repeat (first | exact Drawn0.refl _ | apply Drawn0.step)⟩
      · rw [if_neg c4] at H
        have c4b0 : decide (65 ≤ a0) = false := decide_eq_false c4
        clear c4
        obtain rfl := Option.some.inj H
        go_enter Tryd.func37, Tryd.ntmps37
        go_wp2
        go_ret
        exact ⟨by first | rfl | (simp; done) | (simp [*]; done) | (simp; generalize ByteArray.toList _ = l_; cases l_ <;> rfl), by repeat (first | exact Drawn0.refl _ | apply Drawn0.step)⟩
  · rw [if_neg c2] at H
    have c2b0 : decide (97 ≤ a0) = false := decide_eq_false c2
    clear c2
    by_cases c5 : a0 ≥ 65
    · rw [if_pos c5] at H
      have c5b0 : decide (65 ≤ a0) = true := decide_eq_true c5
      clear c5
      obtain rfl := Option.some.inj H
      go_enter Tryd.func37, Tryd.ntmps37
      go_wp2
      go_ret
      exact ⟨by first | rfl | (simp; done) | (simp [*]; done) | (simp; generalize ByteArray.toList _ = l_; cases l_ <;> rfl), by repeat (first | exact Drawn0.refl _ | apply Drawn0.step)⟩
    · rw [if_neg c5] at H
      have c5b0 : decide (65 ≤ a0) = false := decide_eq_false c5
      clear c5
      obtain rfl := Option.some.inj H
      go_enter Tryd.func37, Tryd.ntmps37
      go_wp2
      go_ret
      exact ⟨by first | rfl | (simp; done) | (simp [*]; done) | (simp; generalize ByteArray.toList _ = l_; cases l_ <;> rfl), by repeat (first | exact Drawn0.refl _ | apply Drawn0.step)⟩

end Go.Proofs.YthblohknnlkidaaDoor.Pr
