/- The row of RiskOrder, with what stands under it.. -/
import Derived.Test.YtejdfmghcgkojaaJRiskOrder2
import Derived.Test.YtejdfmghcgkojaaRows
import Derived.WalkKit
import Derived.ProofKit
import Derived.OpenShut
import Derived.ShutString
import Derived.ChangeOld
import Derived.Below
import Derived.SizedLaws
namespace Go.Proofs.Ytejdfmghcgkojaa.Pr
open Go.RowKit Go.Proofs.YtejdfmghcgkojaaW.PrintWords Go.Proofs.YtejdfmghcgkojaaW.PrintLast Go.Proofs.YtejdfmghcgkojaaW.PrintMore
attribute [local go_sem] max2_int min2_int max_two min_two max_three min_three max_four min_four   -- for this text's walks alone
set_option linter.unusedVariables false
set_option linter.unusedSimpArgs false

/-! ### boltinglaw10_RiskOrder: function 8 -/
mutual
def boltinglaw10_RiskOrder.l0 : Nat → List (S37) → List (S37) → Int → Option (Bool)
  | 0, _, _, _ => none
  | k + 1, x0, x3, x4 => if x4 ≥ 0 then (if 0 ≤ x4 then (if x4 < (x0.length : Int) then (boltinglaw10_RiskOrder.l1 k x0 x3 x4 (([] : List (S30))) (wrap64 ((((rd_T37 x0 x4).f4).length : Int) - 1)) ((rd_T37 x0 x4).f0) ((rd_T37 x0 x4).f1) ((rd_T37 x0 x4).f2) ((rd_T37 x0 x4).f3) ((rd_T37 x0 x4).f4)) else (none)) else (none)) else ((risk_Safe.f k x0).bind fun t162 => (if x3.length + x0.length < 1954687338268 then ((some (x3 ++ x0 : List (S37))).bind fun y163 => ((risk_Safe.f k y163).bind fun t166 => (if (t166 == t162) = true then (if 0 ≤ (x0.length : Int) then (if (x0.length : Int) ≤ (y163.length : Int) then ((risk_Safe.f k (y163.take ((x0.length : Int) : Int).toNat)).bind fun t172 => (if (t172 == t162) = true then ((boltinglaw10_fixed.f k).bind fun t173 => (some t173)) else (some false))) else (none)) else (none)) else (some false)))) else (none)))
def boltinglaw10_RiskOrder.l1 : Nat → List (S37) → List (S37) → Int → List (S30) → Int → Int → Int → ByteArray → ByteArray → List (S30) → Option (Bool)
  | 0, _, _, _, _, _, _, _, _, _, _ => none
  | k + 1, x0, x3, x4, x6, x7, x152000, x152001, x152002, x152003, x152004 => if x7 ≥ 0 then (if 0 ≤ x7 then (if x7 < (x152004.length : Int) then (if x6.length < 4398046511104 then (boltinglaw10_RiskOrder.l1 k x0 x3 x4 (x6 ++ [(⟨(rd_T30 x152004 x7).f0, (rd_T30 x152004 x7).f1⟩ : S30)]) (wrap64 (x7 - 1)) x152000 x152001 x152002 x152003 x152004) else (none)) else (none)) else (none)) else (if x3.length < 1954687338268 then (boltinglaw10_RiskOrder.l0 k x0 (x3 ++ [(⟨x152000, x152001, x152002, x152003, x6⟩ : S37)]) (wrap64 (x4 - 1))) else (none))
end
def boltinglaw10_RiskOrder.f (k : Nat) (l0 : List (S37)) : Option (Bool) := (boltinglaw10_bound.f k l0).bind fun t144 => (boltinglaw10_RiskOrder.l0 k t144 (([] : List (S37))) (wrap64 ((t144.length : Int) - 1)))
set_option maxHeartbeats 8000000 in
set_option maxRecDepth 100000 in
theorem boltinglaw10_RiskOrder.calls (k : Nat) (A0 : Option Addr) (c0 : Nat) (l0 : List (S37)) (r : Bool) (w : World) (hr0 : Kd.C k37 w A0 l0.length l0) (hc0 : l0.length ≤ c0) (h : boltinglaw10_RiskOrder.f k l0 = some r) :
    Calls Try.prog 8 #[.slice A0 l0.length c0] w fun e w' => e = .returned (.bool r) ∧ Below w.heap.size w w' := by
  have hu37 := Try.underlying37
  have hu30 := Try.underlying30
  have HR0 := Aside0.mk hr0
  have HC0 := Aside0.mk hc0
  clear hr0 hc0
  have HB := Aside0.mk (Below.refl w.heap.size w)
  have H : ((boltinglaw10_bound.f k l0).bind fun t144 => (boltinglaw10_RiskOrder.l0 k t144 (([] : List (S37))) (wrap64 ((t144.length : Int) - 1)))) = some r := h
  clear h
  replace H := Option.bind_eq_some_iff.mp H
  obtain ⟨t144, A20, H⟩ := H
  replace H : (boltinglaw10_RiskOrder.l0 k t144 (([] : List (S37))) (wrap64 ((t144.length : Int) - 1))) = some r := H
  have A2 := Aside0.mk A20
  clear A20
  obtain ⟨y147, hy147⟩ : ∃ y_ : List (S37), y_ = (([] : List (S37))) := ⟨_, rfl⟩
  replace H : (boltinglaw10_RiskOrder.l0 k t144 y147 (wrap64 ((t144.length : Int) - 1))) = some r := by first | (rw [hy147]; with_reducible exact H) | (have H2_ := (Option.bind_some _ _).symm.trans H; rw [hy147]; with_reducible exact H2_) | (have H2_ := (Option.bind_some _ _).symm.trans H; with_reducible exact H2_) | with_reducible exact H | (rw [hy147]; exact H) | exact H
  have Ny147 := Aside0.mk hy147
  clear hy147
  have H' := Aside0.mk H
  clear H
  go_enter Try.func8, Try.ntmps8
  go_wp2_with (first | ((fail_if_success (have z_ := HO146)); (with_reducible refine gate_callee (f := 21) rfl ?_); refine goesL_ (some 10) rfl rfl Try.func21 (by kernel_rfl) rfl #[.slice A0 l0.length c0] rfl (by (try simp only [List.map_toArray, List.map_cons, List.map_nil]); first | done | rfl | (simp only [List.length_drop, List.length_take]; rfl)) ?_; (with_reducible refine (boltinglaw10_bound.calls k (fun k_ => k_ < w.heap.size) _ _ l0 t144 _ ?side1 A2.out).mono ?_); (case side1 => exact Kd.V_mk HC0.out (Kd.F_below (Kd.C_F k37_heap HR0.out) (by repeat (first | (with_reducible first | exact HB.out | apply below_alloc | apply pw_below_drewN | apply below_drew1) | exact HB.out)))); rintro e w3 ⟨v145, rfl, ho0, hb⟩; refine ⟨_, rfl, ?_⟩; have n0_ := Aside0.mk (Kd.N_lower (Kd.N_mono (ok' := fun k_ => True) ho0 (fun k_ hk_ => trivial)) (below_size (by repeat (first | (with_reducible first | exact HB.out | apply below_alloc | apply pw_below_drewN | apply below_drew1) | exact HB.out)))); have n1_ := Aside0.mk (below_step (by repeat (first | (with_reducible first | exact HB.out | apply below_alloc | apply pw_below_drewN | apply below_drew1) | exact HB.out)) hb); clear HB; have HO146 := n0_; have HB := n1_; clear n0_ n1_; (try clear hb); (try clear hb2); (try clear hk); (try clear hi); (try clear ho0)) | ((with_reducible refine gate_dst (N := 11) rfl ?_); (try (refine gate_guard (by rfl) ?_; dsimp only)); refine Kd.N_lit k37 _ 37 ?hg (N' := 11) ?hd (xs := ([] : List (S37))) (inner := []) (ok := (fun k_ => some k_ ≠ (v145 : Value).ownBlock)) (okp := (fun k_ => some k_ ≠ (v145 : Value).ownBlock)) ?hr ?hp (fun _ hk => hk) ((show ∀ k_, w3.heap.size ≤ k_ → (fun k_ => some k_ ≠ (v145 : Value).ownBlock) k_ from fun k_ hk => Kd.fresh' (Kd.N_lt (by (with_reducible repeat (first | apply Kd.N_alloc | apply Kd.N_drewN | apply Kd.N_drew)); exact HO146.out)) k_ hk) _ (Nat.le_refl _)) (Below.refl _ _) (Nat.le_refl _) (by simp) ?_; (case hd => rfl); (case hg => rfl); (case hr => first | (go_simp; done) | (go_simp; rfl)); (case hp => exact (Reps.none _ _)); intro v148 w4 ho5 hb hg_ hnew_; clear hg_ hnew_; (first | rw [← Ny147.out] at ho5 | (simp only [Int.reduceToNat] at ho5; rw [← Ny147.out] at ho5)); have n0_ := Aside0.mk (Kd.N_elder' (by (with_reducible repeat (first | apply Kd.N_alloc | apply Kd.N_drewN | apply Kd.N_drew)); exact HO146.out) (Kd.N_base ho5) hb); have n1_ := Aside0.mk (Kd.N_lower ho5 (below_size (by repeat (first | (with_reducible first | exact HB.out | apply below_alloc | apply pw_below_drewN | apply below_drew1) | exact HB.out)))); have n2_ := Aside0.mk (below_step (by repeat (first | (with_reducible first | exact HB.out | apply below_alloc | apply pw_below_drewN | apply below_drew1) | exact HB.out)) hb); clear HO146; clear HB; have HO146 := n0_; have HO149 := n1_; have HB := n2_; clear n0_ n1_ n2_; clear hb ho5; obtain ⟨Ao6, co6, eo6⟩ := Kd.N_slice HO146.out; subst eo6))
  go_loopg [3, 4] k (fun kq v3 v4 w' => ∃ (x3_1 : List (S37)) (x4_1 : Int), v4 = .int .i64 x4_1 ∧ Aside0 (boltinglaw10_RiskOrder.l0 kq t144 x3_1 x4_1 = some r) ∧ Aside0 (kq ≤ k) ∧ Aside0 (Kd.N k37 37 w' w.heap.size (fun k_ => some k_ ≠ (v3 : Value).ownBlock) (.slice Ao6 t144.length co6) t144) ∧ Aside0 (Kd.N k37 37 w' w.heap.size (fun k_ => some k_ ≠ ((.slice Ao6 t144.length co6) : Value).ownBlock) v3 x3_1) ∧ Aside0 (Below w.heap.size w w'))
  case atStart => exact ⟨(y147), (wrap64 ((t144.length : Int) - 1)), (by first | rfl | (simp; done) | (simp [*]; done)), H', ⟨Nat.le_refl _⟩, ⟨by (with_reducible repeat (first | apply Kd.N_alloc | apply Kd.N_drewN | apply Kd.N_drew)); exact Kd.N_mono HO146.out (fun _ hk => hk.2)⟩, ⟨by (with_reducible repeat (first | apply Kd.N_alloc | apply Kd.N_drewN | apply Kd.N_drew)); exact HO149.out⟩, ⟨by repeat (first | (with_reducible first | exact HB.out | apply below_alloc | apply pw_below_drewN | apply below_drew1) | exact HB.out)⟩⟩
  case round =>
    clear H'
    try clear c2
    try clear p2
    try clear p6
    obtain ⟨x3_1, x4_1, rfl, HA, HK1, HO_0, HO_3, HB⟩ := hrel
    cases gk with
    | zero => exact absurd HA.out (by simp [boltinglaw10_RiskOrder.l0])
    | succ k1 =>
      have H := HA.out
      clear HA
      simp only [boltinglaw10_RiskOrder.l0] at H
      by_cases c7 : x4_1 ≥ 0
      · rw [if_pos c7] at H
        have c7b0 : decide (0 ≤ x4_1) = true := decide_eq_true c7
        clear c7
        by_cases c8 : 0 ≤ x4_1
        · rw [if_pos c8] at H
          have c8b0 : decide (0 ≤ x4_1) = true := decide_eq_true c8
          clear c8
          by_cases c9 : x4_1 < (t144.length : Int)
          · rw [if_pos c9] at H
            have c9b0 : decide (x4_1 < (t144.length : Int)) = true := decide_eq_true c9
            clear c9
            obtain ⟨y152, hy152⟩ : ∃ y_ : List (S30), y_ = (([] : List (S30))) := ⟨_, rfl⟩
            replace H : (boltinglaw10_RiskOrder.l1 k1 t144 x3_1 x4_1 y152 (wrap64 ((((rd_T37 t144 x4_1).f4).length : Int) - 1)) ((rd_T37 t144 x4_1).f0) ((rd_T37 t144 x4_1).f1) ((rd_T37 t144 x4_1).f2) ((rd_T37 t144 x4_1).f3) ((rd_T37 t144 x4_1).f4)) = some r := by first | (rw [hy152]; with_reducible exact H) | (have H2_ := (Option.bind_some _ _).symm.trans H; rw [hy152]; with_reducible exact H2_) | (have H2_ := (Option.bind_some _ _).symm.trans H; with_reducible exact H2_) | with_reducible exact H | (rw [hy152]; exact H) | exact H
            have Ny152 := Aside0.mk hy152
            clear hy152
            have H' := Aside0.mk H
            clear H
            have p150 : 0 ≤ (x4_1 : Int) := of_decide_eq_true (by first | (with_reducible assumption) | assumption)
            have q150 : x4_1 < (t144.length : Int) := of_decide_eq_true (by first | (with_reducible assumption) | assumption)
            obtain ⟨ad150, A150_4, c150_4, e150, hx150_0, hx150_1, hx150_2, hx150_3, hx150_4, hl150_4, hi150_4⟩ := at_T37 (Kd.N_reads' HO_0.out).2.2 x4_1 p150 q150
            cases e150
            obtain ⟨ce150, hce150, hMe150, hcc150⟩ := Kd.N_get HO_0.out z37 x4_1 p150 (by first | exact q150 | exact of_decide_eq_true (by first | (with_reducible assumption) | assumption) | (have e_ := (Kd.N_reads' HO_0.out).1; omega))
            obtain ⟨ua150_4, uc150_4, rfl, ul150_4, ge150_4⟩ := k37_openF hMe150
            have hv150_4 := hcc150 4 _ rfl
            rw [add_field _ _ 4 (by omega)] at hv150_4
            replace hv150_4 := Option.some.inj (hv150_4.symm.trans hx150_4)
            injection hv150_4 with hva_ hvn_ hvc_
            rw [hva_] at ge150_4
            rw [hvc_] at ul150_4
            have HL150_4 := Aside0.mk (show Kd.V k30 30 _ w.heap.size _ _ ((rd_T37 t144 x4_1).f4) from Kd.V_mk ul150_4 ge150_4)
            clear hva_ hvn_ hvc_ ge150_4 ul150_4
            clear hcc150 hce150
            have HR150_4 := Aside0.mk hi150_4
            have HC150_4 := Aside0.mk hl150_4
            clear hi150_4 hl150_4
            replace p150 := eq_true p150
            replace q150 := eq_true q150
            go_wp2_with (first | ((with_reducible refine gate_dst (N := 5) rfl ?_); (try (refine gate_guard (by rfl) ?_; dsimp only)); refine box_event ?hg (N := 5) ?hd (cs := #[.int .i64 0, .int .i64 0, .string (⟨#[]⟩ : ByteArray), .string (⟨#[]⟩ : ByteArray), .slice none 0 0]) (t := 37) ?hr ?_; (case hd => rfl); (case hg => rfl); (case hr => first | (go_simp; done) | (go_simp; rfl)); intro gb151 hg w10 hbox hb; have n0_ := Aside0.mk (Kd.N_below (Kd.N_elderB (by (with_reducible repeat (first | apply Kd.N_alloc | apply Kd.N_drewN | apply Kd.N_drew)); exact HO_0.out) gb151 (Nat.le_of_eq hg.symm)) hb); have n1_ := Aside0.mk (Kd.N_below (Kd.N_elderB (by (with_reducible repeat (first | apply Kd.N_alloc | apply Kd.N_drewN | apply Kd.N_drew)); exact HO_3.out) gb151 (Nat.le_of_eq hg.symm)) hb); have n2_ := Aside0.mk (Kd.V_below (Kd.V_elderB (by (with_reducible repeat (first | apply Kd.V_alloc | apply Kd.V_drewN | apply Kd.V_drew)); exact HL150_4.out) gb151 (Nat.le_of_eq hg.symm)) hb); have n3_ := Aside0.mk (Kd.C_below (by repeat (first | (with_reducible exact HR150_4.out) | (with_reducible refine Kd.C_alloc ?_ _) | (with_reducible refine Kd.C_drewN ?_ _) | (with_reducible refine Kd.C_drew ?_) | exact HR150_4.out)) hb); have n4_ := Aside0.mk (below_step (by repeat (first | (with_reducible first | exact HB.out | apply below_alloc | apply pw_below_drewN | apply below_drew1) | exact HB.out)) hb); have n5_ := Aside0.mk (hbox); have n6_ := Aside0.mk ((by rw [hg]; exact (below_size (by repeat (first | (with_reducible first | exact HB.out | apply below_alloc | apply pw_below_drewN | apply below_drew1) | exact HB.out))) : w.heap.size ≤ gb151)); have n7_ := Aside0.mk ((by rw [hg]; exact (below_size (by repeat (first | (with_reducible first | exact HB.out | apply below_alloc | apply pw_below_drewN | apply below_drew1) | exact HB.out))) : w.heap.size ≤ gb151)); clear HO_0; clear HO_3; clear HL150_4; clear HR150_4; clear HB; have HO_0 := n0_; have HO_3 := n1_; have HL150_4 := n2_; have HR150_4 := n3_; have HB := n4_; have BK151 := n5_; have GW151 := n6_; have GE151 := n7_; clear n0_ n1_ n2_ n3_ n4_ n5_ n6_ n7_; clear hb hbox hg; have hcz11_0 : w10.cell? ⟨gb151, 0, none⟩ = some (.int .i64 0) := (blk_cell BK151.out 0).trans rfl; have hcz11_1 : w10.cell? ⟨gb151, 1, none⟩ = some (.int .i64 0) := (blk_cell BK151.out 1).trans rfl; have hcz11_2 : w10.cell? ⟨gb151, 2, none⟩ = some (.string (⟨#[]⟩ : ByteArray)) := (blk_cell BK151.out 2).trans rfl; have hcz11_3 : w10.cell? ⟨gb151, 3, none⟩ = some (.string (⟨#[]⟩ : ByteArray)) := (blk_cell BK151.out 3).trans rfl; have hcz11_4 : w10.cell? ⟨gb151, 4, none⟩ = some (.slice none 0 0) := (blk_cell BK151.out 4).trans rfl; have hfz11_0 := blk_frozen BK151.out 0; have hfz11_1 := blk_frozen BK151.out 1; have hfz11_2 := blk_frozen BK151.out 2; have hfz11_3 := blk_frozen BK151.out 3; have hfz11_4 := blk_frozen BK151.out 4) | ((with_reducible refine gate_dst (N := 23) rfl ?_); (try (refine gate_guard (by rfl) ?_; dsimp only)); refine Kd.R_lit k30 _ 30 ?hg (N := 23) ?hd (xs := ([] : List (S30))) (inner := []) (ok := fun _ => True) (okp := fun _ => True) ?hr ?hp (fun _ hk => hk) trivial (Below.refl _ _) (Nat.le_refl _) (by simp) ?_; (case hd => rfl); (case hg => rfl); (case hr => first | (go_simp; done) | (go_simp; rfl)); (case hp => exact (Reps.none _ _)); intro v153 w12 ho13 hb hg_ hnew_; clear hg_ hnew_; (first | rw [← Ny152.out] at ho13 | (simp only [Int.reduceToNat] at ho13; rw [← Ny152.out] at ho13)); have n0_ := Aside0.mk (Kd.N_elder' (by (with_reducible repeat (first | apply Kd.N_alloc | apply Kd.N_drewN | apply Kd.N_drew)); exact (Kd.N_mono (Kd.N_far (p := ⟨gb151, 4, none⟩) (Kd.N_far (p := ⟨gb151, 3, none⟩) (Kd.N_far (p := ⟨gb151, 2, none⟩) (Kd.N_far (p := ⟨gb151, 1, none⟩) (Kd.N_far (p := ⟨gb151, 0, none⟩) (Kd.N_mono HO_0.out (fun k_ hk => (⟨hk, hk.2⟩ : _ ∧ k_ ≠ gb151))) (fun _ hk => hk.2) (.int .i64 ((rd_T37 t144 x4_1).f0))) (fun _ hk => hk.2) (.int .i64 ((rd_T37 t144 x4_1).f1))) (fun _ hk => hk.2) (.string ((rd_T37 t144 x4_1).f2))) (fun _ hk => hk.2) (.string ((rd_T37 t144 x4_1).f3))) (fun _ hk => hk.2) (.slice A150_4 ((rd_T37 t144 x4_1).f4).length c150_4)) (fun _ h_ => h_.1))) (Kd.R_base ho13) hb); have n1_ := Aside0.mk (Kd.N_elder' (by (with_reducible repeat (first | apply Kd.N_alloc | apply Kd.N_drewN | apply Kd.N_drew)); exact (Kd.N_mono (Kd.N_far (p := ⟨gb151, 4, none⟩) (Kd.N_far (p := ⟨gb151, 3, none⟩) (Kd.N_far (p := ⟨gb151, 2, none⟩) (Kd.N_far (p := ⟨gb151, 1, none⟩) (Kd.N_far (p := ⟨gb151, 0, none⟩) (Kd.N_mono HO_3.out (fun k_ hk => (⟨hk, hk.2⟩ : _ ∧ k_ ≠ gb151))) (fun _ hk => hk.2) (.int .i64 ((rd_T37 t144 x4_1).f0))) (fun _ hk => hk.2) (.int .i64 ((rd_T37 t144 x4_1).f1))) (fun _ hk => hk.2) (.string ((rd_T37 t144 x4_1).f2))) (fun _ hk => hk.2) (.string ((rd_T37 t144 x4_1).f3))) (fun _ hk => hk.2) (.slice A150_4 ((rd_T37 t144 x4_1).f4).length c150_4)) (fun _ h_ => h_.1))) (Kd.R_base ho13) hb); have n2_ := Aside0.mk (Kd.V_elder' (by (with_reducible repeat (first | apply Kd.V_alloc | apply Kd.V_drewN | apply Kd.V_drew)); exact (Kd.V_mono (Kd.V_far (p := ⟨gb151, 4, none⟩) (Kd.V_far (p := ⟨gb151, 3, none⟩) (Kd.V_far (p := ⟨gb151, 2, none⟩) (Kd.V_far (p := ⟨gb151, 1, none⟩) (Kd.V_far (p := ⟨gb151, 0, none⟩) (Kd.V_mono HL150_4.out (fun k_ hk => (⟨hk, hk.2⟩ : _ ∧ k_ ≠ gb151))) (fun _ hk => hk.2) (.int .i64 ((rd_T37 t144 x4_1).f0))) (fun _ hk => hk.2) (.int .i64 ((rd_T37 t144 x4_1).f1))) (fun _ hk => hk.2) (.string ((rd_T37 t144 x4_1).f2))) (fun _ hk => hk.2) (.string ((rd_T37 t144 x4_1).f3))) (fun _ hk => hk.2) (.slice A150_4 ((rd_T37 t144 x4_1).f4).length c150_4)) (fun _ h_ => h_.1))) (Kd.R_base ho13) hb); have n3_ := Aside0.mk (Kd.R_lower ho13 (below_size (by repeat (first | (with_reducible first | exact HB.out | apply below_alloc | apply pw_below_drewN | apply below_drew1 | refine below_set ?_ GE151.out) | exact HB.out)))); have n4_ := Aside0.mk (Kd.C_below ((Kd.V_reads' (by (with_reducible repeat (first | apply Kd.V_alloc | apply Kd.V_drewN | apply Kd.V_drew)); exact (Kd.V_mono (Kd.V_far (p := ⟨gb151, 4, none⟩) (Kd.V_far (p := ⟨gb151, 3, none⟩) (Kd.V_far (p := ⟨gb151, 2, none⟩) (Kd.V_far (p := ⟨gb151, 1, none⟩) (Kd.V_far (p := ⟨gb151, 0, none⟩) (Kd.V_mono HL150_4.out (fun k_ hk => (⟨hk, hk.2⟩ : _ ∧ k_ ≠ gb151))) (fun _ hk => hk.2) (.int .i64 ((rd_T37 t144 x4_1).f0))) (fun _ hk => hk.2) (.int .i64 ((rd_T37 t144 x4_1).f1))) (fun _ hk => hk.2) (.string ((rd_T37 t144 x4_1).f2))) (fun _ hk => hk.2) (.string ((rd_T37 t144 x4_1).f3))) (fun _ hk => hk.2) (.slice A150_4 ((rd_T37 t144 x4_1).f4).length c150_4)) (fun _ h_ => h_.1)))).2.2) hb); have n5_ := Aside0.mk (blk_below (g := gb151) (o := .cells #[.int .i64 ((rd_T37 t144 x4_1).f0), .int .i64 ((rd_T37 t144 x4_1).f1), .string ((rd_T37 t144 x4_1).f2), .string ((rd_T37 t144 x4_1).f3), .slice A150_4 ((rd_T37 t144 x4_1).f4).length c150_4] 37 (0, 0)) (by (with_reducible repeat (first | refine blk_drewN ?_ _ | refine blk_drew ?_ | refine blk_alloc ?_ _)); refine blk_put (cs := #[.int .i64 ((rd_T37 t144 x4_1).f0), .int .i64 ((rd_T37 t144 x4_1).f1), .string ((rd_T37 t144 x4_1).f2), .string ((rd_T37 t144 x4_1).f3), .slice none 0 0]) ?_ 4 _ rfl; (with_reducible repeat (first | refine blk_drewN ?_ _ | refine blk_drew ?_ | refine blk_alloc ?_ _)); refine blk_put (cs := #[.int .i64 ((rd_T37 t144 x4_1).f0), .int .i64 ((rd_T37 t144 x4_1).f1), .string ((rd_T37 t144 x4_1).f2), .string (⟨#[]⟩ : ByteArray), .slice none 0 0]) ?_ 3 _ rfl; (with_reducible repeat (first | refine blk_drewN ?_ _ | refine blk_drew ?_ | refine blk_alloc ?_ _)); refine blk_put (cs := #[.int .i64 ((rd_T37 t144 x4_1).f0), .int .i64 ((rd_T37 t144 x4_1).f1), .string (⟨#[]⟩ : ByteArray), .string (⟨#[]⟩ : ByteArray), .slice none 0 0]) ?_ 2 _ rfl; (with_reducible repeat (first | refine blk_drewN ?_ _ | refine blk_drew ?_ | refine blk_alloc ?_ _)); refine blk_put (cs := #[.int .i64 ((rd_T37 t144 x4_1).f0), .int .i64 0, .string (⟨#[]⟩ : ByteArray), .string (⟨#[]⟩ : ByteArray), .slice none 0 0]) ?_ 1 _ rfl; (with_reducible repeat (first | refine blk_drewN ?_ _ | refine blk_drew ?_ | refine blk_alloc ?_ _)); refine blk_put (cs := #[.int .i64 0, .int .i64 0, .string (⟨#[]⟩ : ByteArray), .string (⟨#[]⟩ : ByteArray), .slice none 0 0]) ?_ 0 _ rfl; (with_reducible repeat (first | refine blk_drewN ?_ _ | refine blk_drew ?_ | refine blk_alloc ?_ _)); exact BK151.out) hb); have n6_ := Aside0.mk (below_step (by repeat (first | (with_reducible first | exact HB.out | apply below_alloc | apply pw_below_drewN | apply below_drew1 | refine below_set ?_ GE151.out) | exact HB.out)) hb); clear HO_0; clear HO_3; clear HL150_4; clear HR150_4; clear BK151; clear HB; have HO_0 := n0_; have HO_3 := n1_; have HL150_4 := n2_; have HO154 := n3_; have HR150_4 := n4_; have BK151 := n5_; have HB := n6_; clear n0_ n1_ n2_ n3_ n4_ n5_ n6_; clear hb ho13; have hcz14_0 : w12.cell? ⟨gb151, 0, none⟩ = some (.int .i64 ((rd_T37 t144 x4_1).f0)) := (blk_cell BK151.out 0).trans rfl; have hcz14_1 : w12.cell? ⟨gb151, 1, none⟩ = some (.int .i64 ((rd_T37 t144 x4_1).f1)) := (blk_cell BK151.out 1).trans rfl; have hcz14_2 : w12.cell? ⟨gb151, 2, none⟩ = some (.string ((rd_T37 t144 x4_1).f2)) := (blk_cell BK151.out 2).trans rfl; have hcz14_3 : w12.cell? ⟨gb151, 3, none⟩ = some (.string ((rd_T37 t144 x4_1).f3)) := (blk_cell BK151.out 3).trans rfl; have hcz14_4 : w12.cell? ⟨gb151, 4, none⟩ = some (.slice A150_4 ((rd_T37 t144 x4_1).f4).length c150_4) := (blk_cell BK151.out 4).trans rfl; have hfz14_0 := blk_frozen BK151.out 0; have hfz14_1 := blk_frozen BK151.out 1; have hfz14_2 := blk_frozen BK151.out 2; have hfz14_3 := blk_frozen BK151.out 3; have hfz14_4 := blk_frozen BK151.out 4))
            go_loopg [6, 7] k1 (fun kq v6 v7 w' => ∃ (x6_2 : List (S30)) (x7_2 : Int), v7 = .int .i64 x7_2 ∧ Aside0 (boltinglaw10_RiskOrder.l1 kq t144 x3_1 x4_1 x6_2 x7_2 ((rd_T37 t144 x4_1).f0) ((rd_T37 t144 x4_1).f1) ((rd_T37 t144 x4_1).f2) ((rd_T37 t144 x4_1).f3) ((rd_T37 t144 x4_1).f4) = some r) ∧ Aside0 (kq ≤ k1) ∧ Aside0 (Kd.N k37 37 w' w.heap.size (fun k_ => some k_ ≠ (u3 : Value).ownBlock ∧ some k_ ≠ (v6 : Value).ownBlock ∧ k_ ≠ gb151) (.slice (some ad150) t144.length co6) t144) ∧ Aside0 (Kd.N k37 37 w' w.heap.size (fun k_ => some k_ ≠ ((.slice (some ad150) t144.length co6) : Value).ownBlock ∧ some k_ ≠ (v6 : Value).ownBlock ∧ k_ ≠ gb151) u3 x3_1) ∧ Aside0 (Kd.V k30 30 w' w.heap.size (fun k_ => some k_ ≠ (v6 : Value).ownBlock ∧ k_ ≠ gb151) (.slice A150_4 ((rd_T37 t144 x4_1).f4).length c150_4) ((rd_T37 t144 x4_1).f4)) ∧ Aside0 (Kd.R k30 30 w' w.heap.size (fun _ => True) v6 x6_2) ∧ Aside0 (w'.heap[gb151]? = some (.cells #[.int .i64 ((rd_T37 t144 x4_1).f0), .int .i64 ((rd_T37 t144 x4_1).f1), .string ((rd_T37 t144 x4_1).f2), .string ((rd_T37 t144 x4_1).f3), (.slice A150_4 ((rd_T37 t144 x4_1).f4).length c150_4)] 37 (0, 0))) ∧ Aside0 (Below w.heap.size w w'))
            case atStart => exact ⟨(y152), (wrap64 ((((rd_T37 t144 x4_1).f4).length : Int) - 1)), (by first | rfl | (simp; done) | (simp [*]; done)), H', ⟨Nat.le_refl _⟩, ⟨by (with_reducible repeat (first | apply Kd.N_alloc | apply Kd.N_drewN | apply Kd.N_drew)); exact Kd.N_mono HO_0.out (fun _ hk => ⟨hk.1.1, ⟨hk.2, hk.1.2⟩⟩)⟩, ⟨by (with_reducible repeat (first | apply Kd.N_alloc | apply Kd.N_drewN | apply Kd.N_drew)); exact Kd.N_mono HO_3.out (fun _ hk => ⟨hk.1.1, ⟨hk.2, hk.1.2⟩⟩)⟩, ⟨by (with_reducible repeat (first | apply Kd.V_alloc | apply Kd.V_drewN | apply Kd.V_drew)); exact Kd.V_mono HL150_4.out (fun _ hk => ⟨hk.2, hk.1.2⟩)⟩, ⟨by (with_reducible repeat (first | apply Kd.R_alloc | apply Kd.R_drewN | apply Kd.R_drew)); exact HO154.out⟩, ⟨by (with_reducible repeat (first | refine blk_drewN ?_ _ | refine blk_drew ?_ | refine blk_alloc ?_ _)); exact BK151.out⟩, ⟨by repeat (first | (with_reducible first | exact HB.out | apply below_alloc | apply pw_below_drewN | apply below_drew1 | refine below_set ?_ GE151.out) | exact HB.out)⟩⟩
            case round =>
              clear H'
              try clear c1
              try clear p1
              try clear q1
              try clear hx1
              try clear c2
              try clear p2
              try clear p6
              try clear c7
              try clear c7b0
              try clear c8
              try clear c8b0
              try clear c9
              try clear c9b0
              try clear hcz11_0
              try clear hcz11_1
              try clear hcz11_2
              try clear hcz11_3
              try clear hcz11_4
              try clear hcz14_0
              try clear hcz14_1
              try clear hcz14_2
              try clear hcz14_3
              try clear hcz14_4
              try clear hfz11_0
              try clear hfz11_1
              try clear hfz11_2
              try clear hfz11_3
              try clear hfz11_4
              try clear hfz14_0
              try clear hfz14_1
              try clear hfz14_2
              try clear hfz14_3
              try clear hfz14_4
              try clear hx150_0
              try clear hx150_1
              try clear hx150_2
              try clear hx150_3
              try clear hx150_4
              try clear p150
              try clear p2
              try clear p6
              try clear q150
              obtain ⟨x6_2, x7_2, rfl, HA, HK2, HO_0, HO_3, HL150_4, HO_6, BK151, HB⟩ := hrel
              have HR150_4 := Aside0.mk (Kd.V_reads' HL150_4.out).2.2
              cases gk with
              | zero => exact absurd HA.out (by simp [boltinglaw10_RiskOrder.l1])
              | succ k2 =>
                have H := HA.out
                clear HA
                simp only [boltinglaw10_RiskOrder.l1] at H
                by_cases c15 : x7_2 ≥ 0
                · rw [if_pos c15] at H
                  have c15b0 : decide (0 ≤ x7_2) = true := decide_eq_true c15
                  clear c15
                  by_cases c16 : 0 ≤ x7_2
                  · rw [if_pos c16] at H
                    have c16b0 : decide (0 ≤ x7_2) = true := decide_eq_true c16
                    clear c16
                    by_cases c17 : x7_2 < (((rd_T37 t144 x4_1).f4).length : Int)
                    · rw [if_pos c17] at H
                      have c17b0 : decide (x7_2 < (((rd_T37 t144 x4_1).f4).length : Int)) = true := decide_eq_true c17
                      clear c17
                      by_cases c18 : x6_2.length < 4398046511104
                      · rw [if_pos c18] at H
                        have LMc18 := Aside0.mk c18
                        clear c18
                        obtain ⟨y156, hy156⟩ : ∃ y_ : List (S30), y_ = (x6_2 ++ [(⟨(rd_T30 ((rd_T37 t144 x4_1).f4) x7_2).f0, (rd_T30 ((rd_T37 t144 x4_1).f4) x7_2).f1⟩ : S30)]) := ⟨_, rfl⟩
                        replace H : (boltinglaw10_RiskOrder.l1 k2 t144 x3_1 x4_1 y156 (wrap64 (x7_2 - 1)) ((rd_T37 t144 x4_1).f0) ((rd_T37 t144 x4_1).f1) ((rd_T37 t144 x4_1).f2) ((rd_T37 t144 x4_1).f3) ((rd_T37 t144 x4_1).f4)) = some r := by first | (rw [hy156]; with_reducible exact H) | (have H2_ := (Option.bind_some _ _).symm.trans H; rw [hy156]; with_reducible exact H2_) | (have H2_ := (Option.bind_some _ _).symm.trans H; with_reducible exact H2_) | with_reducible exact H | (rw [hy156]; exact H) | exact H
                        have Ny156 := Aside0.mk hy156
                        clear hy156
                        have H' := Aside0.mk H
                        clear H
                        have hcz19_0 : wr.cell? ⟨gb151, 0, none⟩ = some (.int .i64 ((rd_T37 t144 x4_1).f0)) := (blk_cell BK151.out 0).trans rfl
                        have hcz19_1 : wr.cell? ⟨gb151, 1, none⟩ = some (.int .i64 ((rd_T37 t144 x4_1).f1)) := (blk_cell BK151.out 1).trans rfl
                        have hcz19_2 : wr.cell? ⟨gb151, 2, none⟩ = some (.string ((rd_T37 t144 x4_1).f2)) := (blk_cell BK151.out 2).trans rfl
                        have hcz19_3 : wr.cell? ⟨gb151, 3, none⟩ = some (.string ((rd_T37 t144 x4_1).f3)) := (blk_cell BK151.out 3).trans rfl
                        have hcz19_4 : wr.cell? ⟨gb151, 4, none⟩ = some (.slice A150_4 ((rd_T37 t144 x4_1).f4).length c150_4) := (blk_cell BK151.out 4).trans rfl
                        have hfz19_0 := blk_frozen BK151.out 0
                        have hfz19_1 := blk_frozen BK151.out 1
                        have hfz19_2 := blk_frozen BK151.out 2
                        have hfz19_3 := blk_frozen BK151.out 3
                        have hfz19_4 := blk_frozen BK151.out 4
                        have p155 : 0 ≤ (x7_2 : Int) := of_decide_eq_true (by first | (with_reducible assumption) | assumption)
                        have q155 : x7_2 < (((rd_T37 t144 x4_1).f4).length : Int) := of_decide_eq_true (by first | (with_reducible assumption) | assumption)
                        obtain ⟨ad155, e155, hx155_0, hx155_1⟩ := at_T30 HR150_4.out x7_2 p155 q155
                        cases e155
                        replace p155 := eq_true p155
                        replace q155 := eq_true q155
                        go_wp2_with (first | ((with_reducible refine gate_builtin (b := .append) (xs := #[.tmp 32, .tmp 38]) rfl ?_); (try (refine gate_guard (by rfl) ?_; dsimp only)); at_builtin; refine Kd.R_append k30 (w0 := w) w.heap.size rfl (.tmp 32) (.tmp 38) 35 30 (.agg #[(.string ⟨#[]⟩), (.string ⟨#[]⟩)]) 32 rfl Try.underlying35 info30 rfl (by decide) (by omega) u6 x6_2 (⟨(rd_T30 ((rd_T37 t144 x4_1).f4) x7_2).f0, (rd_T30 ((rd_T37 t144 x4_1).f4) x7_2).f1⟩ : S30) [.string ((rd_T30 ((rd_T37 t144 x4_1).f4) x7_2).f0), .string ((rd_T30 ((rd_T37 t144 x4_1).f4) x7_2).f1)] (fun _ => True) (fun _ => False) rfl rfl ?aP (fun _ hk => hk.elim) ?aF ?aO ?aB ?aS ?aL ?_; (case aP => exact k30_mkM _ _ _ (⟨(rd_T30 ((rd_T37 t144 x4_1).f4) x7_2).f0, (rd_T30 ((rd_T37 t144 x4_1).f4) x7_2).f1⟩ : S30)); (case aB => exact (by repeat (first | (with_reducible first | exact HB.out | apply below_alloc | apply pw_below_drewN | apply below_drew1 | refine below_set ?_ GE151.out) | exact HB.out))); (case aF => exact (fun _ _ => trivial)); (case aO => exact (by (with_reducible repeat (first | apply Kd.R_alloc | apply Kd.R_drewN | apply Kd.R_drew)); exact HO_6.out)); (case aS => exact (below_size (by repeat (first | (with_reducible first | exact HB.out | apply below_alloc | apply pw_below_drewN | apply below_drew1 | refine below_set ?_ GE151.out) | exact HB.out)))); (case aL => have := LMc18.out; omega); intro v157 w20 ho hb hg hat; rw [← Ny156.out] at ho; have n0_ := Aside0.mk (Kd.N_afterv (ok := (fun k_ => some k_ ≠ (u3 : Value).ownBlock ∧ k_ ≠ gb151)) (by (with_reducible repeat (first | apply Kd.N_alloc | apply Kd.N_drewN | apply Kd.N_drew)); exact Kd.N_mono HO_0.out (fun _ hk => ⟨⟨hk.1, hk.2.2⟩, hk.2.1⟩)) hg hat); have n1_ := Aside0.mk (Kd.N_afterv (ok := (fun k_ => some k_ ≠ (.slice (some ad150) t144.length co6 : Value).ownBlock ∧ k_ ≠ gb151)) (by (with_reducible repeat (first | apply Kd.N_alloc | apply Kd.N_drewN | apply Kd.N_drew)); exact Kd.N_mono HO_3.out (fun _ hk => ⟨⟨hk.1, hk.2.2⟩, hk.2.1⟩)) hg hat); have n9_ := Aside0.mk (Kd.V_afterv (ok := (fun k_ => k_ ≠ gb151)) (by (with_reducible repeat (first | apply Kd.V_alloc | apply Kd.V_drewN | apply Kd.V_drew)); exact Kd.V_mono HL150_4.out (fun _ hk => ⟨hk.2, hk.1⟩)) hg hat); have n2_ := Aside0.mk (blk_grown (g := gb151) (o := .cells #[.int .i64 ((rd_T37 t144 x4_1).f0), .int .i64 ((rd_T37 t144 x4_1).f1), .string ((rd_T37 t144 x4_1).f2), .string ((rd_T37 t144 x4_1).f3), .slice (some ad155) ((rd_T37 t144 x4_1).f4).length c150_4] 37 (0, 0)) (by (with_reducible repeat (first | refine blk_drewN ?_ _ | refine blk_drew ?_ | refine blk_alloc ?_ _)); exact BK151.out) hg (Kd.R_ne HO_6.out BK151.out (by decide))); have n3_ := Aside0.mk (hb); have n4_ := Aside0.mk (ho); clear HO_0; clear HO_3; clear BK151; clear HB; clear HO_6; have HO_0 := n0_; have HO_3 := n1_; have BK151 := n2_; have HB := n3_; have HO158 := n4_; clear HL150_4; have HL150_4 := n9_; clear n9_; clear n0_ n1_ n2_ n3_ n4_; clear ho hb hg hat))
                        go_roundg k2
                        case measure => have := HK1.out; have := HK2.out; omega
                        case rel => exact ⟨(y156), (wrap64 (x7_2 - 1)), (by first | rfl | (simp; done) | (simp [*]; done)), H', ⟨by have := HK1.out; have := HK2.out; omega⟩, ⟨by (with_reducible repeat (first | apply Kd.N_alloc | apply Kd.N_drewN | apply Kd.N_drew)); exact Kd.N_mono HO_0.out (fun _ hk => ⟨hk.1.1, ⟨hk.2, hk.1.2⟩⟩)⟩, ⟨by (with_reducible repeat (first | apply Kd.N_alloc | apply Kd.N_drewN | apply Kd.N_drew)); exact Kd.N_mono HO_3.out (fun _ hk => ⟨hk.1.1, ⟨hk.2, hk.1.2⟩⟩)⟩, ⟨by (with_reducible repeat (first | apply Kd.V_alloc | apply Kd.V_drewN | apply Kd.V_drew)); exact Kd.V_mono HL150_4.out (fun _ hk => ⟨hk.2, hk.1⟩)⟩, ⟨by (with_reducible repeat (first | apply Kd.R_alloc | apply Kd.R_drewN | apply Kd.R_drew)); exact HO158.out⟩, ⟨by (with_reducible repeat (first | refine blk_drewN ?_ _ | refine blk_drew ?_ | refine blk_alloc ?_ _)); exact BK151.out⟩, ⟨by repeat (first | (with_reducible first | exact HB.out | apply below_alloc | apply pw_below_drewN | apply below_drew1 | refine below_set ?_ GE151.out) | exact HB.out)⟩⟩
                      · rw [if_neg c18] at H
                        exact absurd H (by simp)
                    · rw [if_neg c17] at H
                      exact absurd H (by simp)
                  · rw [if_neg c16] at H
                    exact absurd H (by simp)
                · rw [if_neg c15] at H
                  have c15b0 : decide (0 ≤ x7_2) = false := decide_eq_false c15
                  clear c15
                  by_cases c21 : x3_1.length < 1954687338268
                  · rw [if_pos c21] at H
                    have LMc21 := Aside0.mk c21
                    clear c21
                    obtain ⟨y159, hy159⟩ : ∃ y_ : List (S37), y_ = (x3_1 ++ [(⟨((rd_T37 t144 x4_1).f0), ((rd_T37 t144 x4_1).f1), ((rd_T37 t144 x4_1).f2), ((rd_T37 t144 x4_1).f3), x6_2⟩ : S37)]) := ⟨_, rfl⟩
                    replace H : (boltinglaw10_RiskOrder.l0 k2 t144 y159 (wrap64 (x4_1 - 1))) = some r := by first | (rw [hy159]; with_reducible exact H) | (have H2_ := (Option.bind_some _ _).symm.trans H; rw [hy159]; with_reducible exact H2_) | (have H2_ := (Option.bind_some _ _).symm.trans H; with_reducible exact H2_) | with_reducible exact H | (rw [hy159]; exact H) | exact H
                    have Ny159 := Aside0.mk hy159
                    clear hy159
                    have H' := Aside0.mk H
                    clear H
                    obtain ⟨Ao22, co22, eo22⟩ := Kd.R_slice HO_6.out
                    subst eo22
                    have hcz23_0 : wr.cell? ⟨gb151, 0, none⟩ = some (.int .i64 ((rd_T37 t144 x4_1).f0)) := (blk_cell BK151.out 0).trans rfl
                    have hcz23_1 : wr.cell? ⟨gb151, 1, none⟩ = some (.int .i64 ((rd_T37 t144 x4_1).f1)) := (blk_cell BK151.out 1).trans rfl
                    have hcz23_2 : wr.cell? ⟨gb151, 2, none⟩ = some (.string ((rd_T37 t144 x4_1).f2)) := (blk_cell BK151.out 2).trans rfl
                    have hcz23_3 : wr.cell? ⟨gb151, 3, none⟩ = some (.string ((rd_T37 t144 x4_1).f3)) := (blk_cell BK151.out 3).trans rfl
                    have hcz23_4 : wr.cell? ⟨gb151, 4, none⟩ = some (.slice A150_4 ((rd_T37 t144 x4_1).f4).length c150_4) := (blk_cell BK151.out 4).trans rfl
                    have hfz23_0 := blk_frozen BK151.out 0
                    have hfz23_1 := blk_frozen BK151.out 1
                    have hfz23_2 := blk_frozen BK151.out 2
                    have hfz23_3 := blk_frozen BK151.out 3
                    have hfz23_4 := blk_frozen BK151.out 4
                    go_wp2_with (first | ((with_reducible refine gate_store (t := 35) (p := 41) rfl ?_); refine store_event (t := 35) (p := 41) (v := ?vo_w24) (w1 := (wr.setCell ⟨gb151, 4, none⟩ (.slice Ao22 x6_2.length co22))) ?hg ?ho ?hn ?hr ?_; (case ho => rfl); (case hg => rfl); (case hn => rfl); (case hr => first | (go_simp; done) | (go_simp; rfl)); intro w24 hw; have n0_ : Aside0 (Kd.N k37 37 w24 w.heap.size (fun k_ => some k_ ≠ (u3 : Value).ownBlock ∧ some k_ ≠ (.slice Ao22 x6_2.length co22 : Value).ownBlock ∧ k_ ≠ gb151) (.slice (some ad150) t144.length co6) t144) := ⟨(by rw [hw]; exact (by (with_reducible repeat (first | apply Kd.N_alloc | apply Kd.N_drewN | apply Kd.N_drew)); exact Kd.N_mono (Kd.N_far (p := ⟨gb151, 4, none⟩) (Kd.N_mono HO_0.out (fun k_ hk => (⟨hk, hk.2.2⟩ : _ ∧ k_ ≠ gb151))) (fun _ hk => hk.2) (.slice Ao22 x6_2.length co22)) (fun _ hk => ⟨hk.1.1, ⟨hk.1.2.1, hk.1.2.2⟩⟩)))⟩; have n1_ : Aside0 (Kd.N k37 37 w24 w.heap.size (fun k_ => some k_ ≠ (.slice (some ad150) t144.length co6 : Value).ownBlock ∧ some k_ ≠ (.slice Ao22 x6_2.length co22 : Value).ownBlock ∧ k_ ≠ gb151) u3 x3_1) := ⟨(by rw [hw]; exact (by (with_reducible repeat (first | apply Kd.N_alloc | apply Kd.N_drewN | apply Kd.N_drew)); exact Kd.N_mono (Kd.N_far (p := ⟨gb151, 4, none⟩) (Kd.N_mono HO_3.out (fun k_ hk => (⟨hk, hk.2.2⟩ : _ ∧ k_ ≠ gb151))) (fun _ hk => hk.2) (.slice Ao22 x6_2.length co22)) (fun _ hk => ⟨hk.1.1, ⟨hk.1.2.1, hk.1.2.2⟩⟩)))⟩; have n2_ : Aside0 (Kd.R k30 30 w24 w.heap.size (fun _ => True) (.slice Ao22 x6_2.length co22) x6_2) := ⟨(by rw [hw]; exact (by (with_reducible repeat (first | apply Kd.R_alloc | apply Kd.R_drewN | apply Kd.R_drew)); exact Kd.R_mono (Kd.R_far (p := ⟨gb151, 4, none⟩) (Kd.R_types HO_6.out BK151.out (by decide)) (fun _ hk => hk.2) (.slice Ao22 x6_2.length co22)) (fun _ hk => trivial)))⟩; have n3_ : Aside0 (w24.heap[gb151]? = some (.cells #[.int .i64 ((rd_T37 t144 x4_1).f0), .int .i64 ((rd_T37 t144 x4_1).f1), .string ((rd_T37 t144 x4_1).f2), .string ((rd_T37 t144 x4_1).f3), .slice Ao22 x6_2.length co22] 37 (0, 0))) := ⟨(by rw [hw]; exact (by (with_reducible repeat (first | refine blk_drewN ?_ _ | refine blk_drew ?_ | refine blk_alloc ?_ _)); refine blk_put (cs := #[.int .i64 ((rd_T37 t144 x4_1).f0), .int .i64 ((rd_T37 t144 x4_1).f1), .string ((rd_T37 t144 x4_1).f2), .string ((rd_T37 t144 x4_1).f3), .slice A150_4 ((rd_T37 t144 x4_1).f4).length c150_4]) ?_ 4 _ rfl; (with_reducible repeat (first | refine blk_drewN ?_ _ | refine blk_drew ?_ | refine blk_alloc ?_ _)); exact BK151.out))⟩; have n4_ : Aside0 (Below w.heap.size w w24) := ⟨(by rw [hw]; exact (by repeat (first | (with_reducible first | exact HB.out | apply below_alloc | apply pw_below_drewN | apply below_drew1 | refine below_set ?_ GE151.out) | exact HB.out)))⟩; clear hw; clear HO_0; clear HO_3; clear HO_6; clear BK151; clear HB; have HO_0 := n0_; have HO_3 := n1_; have HO_6 := n2_; have BK151 := n3_; have HB := n4_; clear n0_ n1_ n2_ n3_ n4_; have hcz25_0 : w24.cell? ⟨gb151, 0, none⟩ = some (.int .i64 ((rd_T37 t144 x4_1).f0)) := (blk_cell BK151.out 0).trans rfl; have hcz25_1 : w24.cell? ⟨gb151, 1, none⟩ = some (.int .i64 ((rd_T37 t144 x4_1).f1)) := (blk_cell BK151.out 1).trans rfl; have hcz25_2 : w24.cell? ⟨gb151, 2, none⟩ = some (.string ((rd_T37 t144 x4_1).f2)) := (blk_cell BK151.out 2).trans rfl; have hcz25_3 : w24.cell? ⟨gb151, 3, none⟩ = some (.string ((rd_T37 t144 x4_1).f3)) := (blk_cell BK151.out 3).trans rfl; have hcz25_4 : w24.cell? ⟨gb151, 4, none⟩ = some (.slice Ao22 x6_2.length co22) := (blk_cell BK151.out 4).trans rfl; have hfz25_0 := blk_frozen BK151.out 0; have hfz25_1 := blk_frozen BK151.out 1; have hfz25_2 := blk_frozen BK151.out 2; have hfz25_3 := blk_frozen BK151.out 3; have hfz25_4 := blk_frozen BK151.out 4) | ((with_reducible refine gate_builtin (b := .append) (xs := #[.tmp 42, .tmp 44]) rfl ?_); (try (refine gate_guard (by rfl) ?_; dsimp only)); at_builtin; refine Kd.N_append k37 (w0 := w) w.heap.size rfl (.tmp 42) (.tmp 44) 32 37 (.agg #[(.int .i64 0), (.int .i64 0), (.string ⟨#[]⟩), (.string ⟨#[]⟩), (.slice none 0 0)]) 72 rfl Try.underlying32 info37 rfl (by decide) (by omega) u3 x3_1 (⟨((rd_T37 t144 x4_1).f0), ((rd_T37 t144 x4_1).f1), ((rd_T37 t144 x4_1).f2), ((rd_T37 t144 x4_1).f3), x6_2⟩ : S37) [.int .i64 ((rd_T37 t144 x4_1).f0), .int .i64 ((rd_T37 t144 x4_1).f1), .string ((rd_T37 t144 x4_1).f2), .string ((rd_T37 t144 x4_1).f3), .slice Ao22 x6_2.length co22] (fun k_ => some k_ ≠ (.slice (some ad150) t144.length co6 : Value).ownBlock ∧ k_ ≠ gb151) (fun k_ => ((fun k_ => some k_ ≠ (.slice (some ad150) t144.length co6 : Value).ownBlock ∧ k_ ≠ gb151)) k_ ∧ some k_ ≠ (u3 : Value).ownBlock) rfl rfl ?aP (fun _ hk => hk) ?aF ?aO ?aB ?aS ?aL ?_; (case aP => exact (k37_mkF _ _ (⟨((rd_T37 t144 x4_1).f0), ((rd_T37 t144 x4_1).f1), ((rd_T37 t144 x4_1).f2), ((rd_T37 t144 x4_1).f3), x6_2⟩ : S37) (Kd.R_reads' (Kd.R_mono (ok' := (fun k_ => ((fun k_ => some k_ ≠ (.slice (some ad150) t144.length co6 : Value).ownBlock ∧ k_ ≠ gb151)) k_ ∧ some k_ ≠ (u3 : Value).ownBlock)) (Kd.R_types (Kd.R_apart' (Kd.R_apart' (HO_6.out) (Kd.N_typed HO_0.out) (by decide)) (Kd.N_typed HO_3.out) (by decide)) BK151.out (by decide)) (fun k_ hk => ⟨⟨hk.1.1.2, hk.2⟩, hk.1.2⟩))).2.1 (Kd.R_F (Kd.R_mono (ok' := (fun k_ => ((fun k_ => some k_ ≠ (.slice (some ad150) t144.length co6 : Value).ownBlock ∧ k_ ≠ gb151)) k_ ∧ some k_ ≠ (u3 : Value).ownBlock)) (Kd.R_types (Kd.R_apart' (Kd.R_apart' (HO_6.out) (Kd.N_typed HO_0.out) (by decide)) (Kd.N_typed HO_3.out) (by decide)) BK151.out (by decide)) (fun k_ hk => ⟨⟨hk.1.1.2, hk.2⟩, hk.1.2⟩))))); (case aB => exact (by repeat (first | (with_reducible first | exact HB.out | apply below_alloc | apply pw_below_drewN | apply below_drew1 | refine below_set ?_ GE151.out) | exact HB.out))); (case aF => exact (fun k_ hk => ⟨Kd.fresh' (Kd.N_lt (by (with_reducible repeat (first | apply Kd.N_alloc | apply Kd.N_drewN | apply Kd.N_drew)); exact HO_0.out)) k_ hk, Kd.freshB (g := gb151) (o := .cells #[.int .i64 ((rd_T37 t144 x4_1).f0), .int .i64 ((rd_T37 t144 x4_1).f1), .string ((rd_T37 t144 x4_1).f2), .string ((rd_T37 t144 x4_1).f3), .slice Ao22 x6_2.length co22] 37 (0, 0)) (by (with_reducible repeat (first | refine blk_drewN ?_ _ | refine blk_drew ?_ | refine blk_alloc ?_ _)); exact BK151.out) k_ hk⟩)); (case aO => exact (by (with_reducible repeat (first | apply Kd.N_alloc | apply Kd.N_drewN | apply Kd.N_drew)); exact Kd.N_mono HO_3.out (fun _ hk => ⟨hk.1, hk.2.2⟩))); (case aS => exact (below_size (by repeat (first | (with_reducible first | exact HB.out | apply below_alloc | apply pw_below_drewN | apply below_drew1 | refine below_set ?_ GE151.out) | exact HB.out)))); (case aL => have := LMc21.out; omega); intro v160 w26 ho hb hg hat; rw [← Ny159.out] at ho; have n0_ := Aside0.mk (Kd.N_afterv (ok := (fun k_ => some k_ ≠ (.slice Ao22 x6_2.length co22 : Value).ownBlock ∧ k_ ≠ gb151)) (by (with_reducible repeat (first | apply Kd.N_alloc | apply Kd.N_drewN | apply Kd.N_drew)); exact Kd.N_mono HO_0.out (fun _ hk => ⟨⟨hk.2.1, hk.2.2⟩, hk.1⟩)) hg hat); have n1_ := Aside0.mk (blk_grown (g := gb151) (o := .cells #[.int .i64 ((rd_T37 t144 x4_1).f0), .int .i64 ((rd_T37 t144 x4_1).f1), .string ((rd_T37 t144 x4_1).f2), .string ((rd_T37 t144 x4_1).f3), .slice Ao22 x6_2.length co22] 37 (0, 0)) (by (with_reducible repeat (first | refine blk_drewN ?_ _ | refine blk_drew ?_ | refine blk_alloc ?_ _)); exact BK151.out) hg (Kd.N_away HO_3.out (fun _ hk => hk.2.2))); have n2_ := Aside0.mk (hb); have n3_ := Aside0.mk (ho); clear HO_0; clear BK151; clear HB; clear HO_3; clear HO_6; have HO_0 := n0_; have BK151 := n1_; have HB := n2_; have HO161 := n3_; clear n0_ n1_ n2_ n3_; clear ho hb hg hat))
                    go_roundg k2
                    case measure => have := HK1.out; have := HK2.out; omega
                    case rel => exact ⟨(y159), (wrap64 (x4_1 - 1)), (by first | rfl | (simp; done) | (simp [*]; done)), H', ⟨by have := HK1.out; have := HK2.out; omega⟩, ⟨by (with_reducible repeat (first | apply Kd.N_alloc | apply Kd.N_drewN | apply Kd.N_drew)); exact Kd.N_mono HO_0.out (fun _ hk => hk.2)⟩, ⟨by (with_reducible repeat (first | apply Kd.N_alloc | apply Kd.N_drewN | apply Kd.N_drew)); exact Kd.N_mono HO161.out (fun _ hk => hk.1)⟩, ⟨by repeat (first | (with_reducible first | exact HB.out | apply below_alloc | apply pw_below_drewN | apply below_drew1 | refine below_set ?_ GE151.out) | exact HB.out)⟩⟩
                  · rw [if_neg c21] at H
                    exact absurd H (by simp)
          · rw [if_neg c9] at H
            exact absurd H (by simp)
        · rw [if_neg c8] at H
          exact absurd H (by simp)
      · rw [if_neg c7] at H
        have c7b0 : decide (0 ≤ x4_1) = false := decide_eq_false c7
        clear c7
        replace H := Option.bind_eq_some_iff.mp H
        obtain ⟨t162, A270, H⟩ := H
        replace H : (if x3_1.length + t144.length < 1954687338268 then ((some (x3_1 ++ t144 : List (S37))).bind fun y163 => ((risk_Safe.f k1 y163).bind fun t166 => (if (t166 == t162) = true then (if 0 ≤ (t144.length : Int) then (if (t144.length : Int) ≤ (y163.length : Int) then ((risk_Safe.f k1 (y163.take ((t144.length : Int) : Int).toNat)).bind fun t172 => (if (t172 == t162) = true then ((boltinglaw10_fixed.f k1).bind fun t173 => (some t173)) else (some false))) else (none)) else (none)) else (some false)))) else (none)) = some r := H
        have A27 := Aside0.mk A270
        clear A270
        by_cases c28 : x3_1.length + t144.length < 1954687338268
        · rw [if_pos c28] at H
          have LMc28 := Aside0.mk c28
          clear c28
          obtain ⟨y163, hy163⟩ : ∃ y_ : List (S37), y_ = (x3_1 ++ t144) := ⟨_, rfl⟩
          replace H : ((risk_Safe.f k1 y163).bind fun t166 => (if (t166 == t162) = true then (if 0 ≤ (t144.length : Int) then (if (t144.length : Int) ≤ (y163.length : Int) then ((risk_Safe.f k1 (y163.take ((t144.length : Int) : Int).toNat)).bind fun t172 => (if (t172 == t162) = true then ((boltinglaw10_fixed.f k1).bind fun t173 => (some t173)) else (some false))) else (none)) else (none)) else (some false))) = some r := by first | (rw [hy163]; with_reducible exact H) | (have H2_ := (Option.bind_some _ _).symm.trans H; rw [hy163]; with_reducible exact H2_) | (have H2_ := (Option.bind_some _ _).symm.trans H; with_reducible exact H2_) | with_reducible exact H | (rw [hy163]; exact H) | exact H
          have Ny163 := Aside0.mk hy163
          clear hy163
          replace H := Option.bind_eq_some_iff.mp H
          obtain ⟨t166, A290, H⟩ := H
          replace H : (if (t166 == t162) = true then (if 0 ≤ (t144.length : Int) then (if (t144.length : Int) ≤ (y163.length : Int) then ((risk_Safe.f k1 (y163.take ((t144.length : Int) : Int).toNat)).bind fun t172 => (if (t172 == t162) = true then ((boltinglaw10_fixed.f k1).bind fun t173 => (some t173)) else (some false))) else (none)) else (none)) else (some false)) = some r := H
          have A29 := Aside0.mk A290
          clear A290
          by_cases c30 : (t166 == t162) = true
          · rw [if_pos c30] at H
            have c30b0 : (t166 == t162) = true := c30
            (try (have c30b1 : decide (t166 = t162) = true := by simpa using c30))
            (try (have c30b2 : (t166 == t162) = true := by simpa using c30))
            clear c30
            by_cases c31 : 0 ≤ (t144.length : Int)
            · rw [if_pos c31] at H
              have c31b0 := eq_true c31
              have c31b1 : decide (0 ≤ (t144.length : Int)) = true := decide_eq_true c31
              clear c31
              by_cases c32 : (t144.length : Int) ≤ (y163.length : Int)
              · rw [if_pos c32] at H
                have c32b0 := eq_true c32
                have c32b1 : decide ((t144.length : Int) ≤ (y163.length : Int)) = true := decide_eq_true c32
                clear c32
                obtain ⟨y167, hy167⟩ : ∃ y_ : List (S37), y_ = (y163.take ((t144.length : Int) : Int).toNat) := ⟨_, rfl⟩
                replace H : ((risk_Safe.f k1 y167).bind fun t172 => (if (t172 == t162) = true then ((boltinglaw10_fixed.f k1).bind fun t173 => (some t173)) else (some false))) = some r := by first | (rw [hy167]; with_reducible exact H) | (have H2_ := (Option.bind_some _ _).symm.trans H; rw [hy167]; with_reducible exact H2_) | (have H2_ := (Option.bind_some _ _).symm.trans H; with_reducible exact H2_) | with_reducible exact H | (rw [hy167]; exact H) | exact H
                have Ny167 := Aside0.mk hy167
                clear hy167
                replace H := Option.bind_eq_some_iff.mp H
                obtain ⟨t172, A330, H⟩ := H
                replace H : (if (t172 == t162) = true then ((boltinglaw10_fixed.f k1).bind fun t173 => (some t173)) else (some false)) = some r := H
                have A33 := Aside0.mk A330
                clear A330
                by_cases c34 : (t172 == t162) = true
                · rw [if_pos c34] at H
                  have c34b0 : (t172 == t162) = true := c34
                  (try (have c34b1 : decide (t172 = t162) = true := by simpa using c34))
                  (try (have c34b2 : (t172 == t162) = true := by simpa using c34))
                  clear c34
                  replace H := Option.bind_eq_some_iff.mp H
                  obtain ⟨t173, A350, H⟩ := H
                  replace H : (some t173) = some r := H
                  have A35 := Aside0.mk A350
                  clear A350
                  obtain rfl := Option.some.inj H
                  go_wp2_with (first | ((with_reducible refine gate_callee (f := 22) rfl ?_); refine goesL_ (some 47) rfl rfl Try.func22 (by kernel_rfl) rfl #[.slice Ao6 t144.length co6] rfl (by (try simp only [List.map_toArray, List.map_cons, List.map_nil]); first | done | rfl | (simp only [List.length_drop, List.length_take]; rfl)) ?_; (with_reducible refine (risk_Safe.calls k1 _ _ t144 t162 _ ?side1 ?side2 A27.out).mono ?_); (case side1 => repeat (first | exact (Kd.N_reads' HO_0.out).2.2 | (with_reducible refine Kd.C_alloc ?_ _) | (with_reducible refine Kd.C_drewN ?_ _) | (with_reducible refine Kd.C_drew ?_))); (case side2 => exact (Kd.N_reads' HO_0.out).2.1); rintro e w36 ⟨rfl, hb⟩; refine ⟨_, rfl, ?_⟩; have n0_ := Aside0.mk (Kd.N_below (by (with_reducible repeat (first | apply Kd.N_alloc | apply Kd.N_drewN | apply Kd.N_drew)); exact HO_0.out) hb); have n1_ := Aside0.mk (Kd.N_below (by (with_reducible repeat (first | apply Kd.N_alloc | apply Kd.N_drewN | apply Kd.N_drew)); exact HO_3.out) hb); have n2_ := Aside0.mk (below_step (by repeat (first | (with_reducible first | exact HB.out | apply below_alloc | apply pw_below_drewN | apply below_drew1) | exact HB.out)) hb); clear HO_0; clear HO_3; clear HB; have HO_0 := n0_; have HO_3 := n1_; have HB := n2_; clear n0_ n1_ n2_; (try clear hb); (try clear hb2); (try clear hk); (try clear hi)) | ((with_reducible refine gate_builtin (b := .append) (xs := #[.tmp 48, .tmp 49]) rfl ?_); (try (refine gate_guard (by rfl) ?_; dsimp only)); at_builtin; refine Kd.N_append_rows k37 (w0 := w) w.heap.size rfl (.tmp 48) (.tmp 49) 32 37 (.agg #[(.int .i64 0), (.int .i64 0), (.string ⟨#[]⟩), (.string ⟨#[]⟩), (.slice none 0 0)]) 72 rfl Try.underlying32 info37 rfl (by decide) (by omega) u3 x3_1 t144 _ _ _ (fun _ => True) (fun k_ => ((fun _ => True)) k_ ∧ some k_ ≠ (u3 : Value).ownBlock) rfl rfl ?aO ?aR (fun _ hk => hk) ?aF ?aB ?aS ?aL ?_; (case aR => exact (by skip; exact Kd.N_F (Kd.N_mono (ok' := (fun k_ => ((fun _ => True)) k_ ∧ some k_ ≠ (u3 : Value).ownBlock)) (HO_0.out) (fun k_ hk => ⟨trivial, hk⟩)))); (case aB => exact (by repeat (first | (with_reducible first | exact HB.out | apply below_alloc | apply pw_below_drewN | apply below_drew1) | exact HB.out))); (case aF => exact (fun _ _ => trivial)); (case aO => exact (by (with_reducible repeat (first | apply Kd.N_alloc | apply Kd.N_drewN | apply Kd.N_drew)); exact Kd.N_mono HO_3.out (fun _ hk => trivial))); (case aS => exact (below_size (by repeat (first | (with_reducible first | exact HB.out | apply below_alloc | apply pw_below_drewN | apply below_drew1) | exact HB.out)))); (case aL => have := LMc28.out; omega); intro v164 w37 ho hb hg hat; rw [← Ny163.out] at ho; have n0_ := Aside0.mk (Kd.N_afterv (ok := (fun _ => True)) (by (with_reducible repeat (first | apply Kd.N_alloc | apply Kd.N_drewN | apply Kd.N_drew)); exact Kd.N_mono HO_0.out (fun _ hk => ⟨trivial, hk⟩)) hg hat); have n1_ := Aside0.mk (hb); have n2_ := Aside0.mk (ho); clear HO_0; clear HB; clear HO_3; have HO_0 := n0_; have HB := n1_; have HO165 := n2_; clear n0_ n1_ n2_; clear ho hb hg hat; obtain ⟨Ao38, co38, eo38⟩ := Kd.N_slice HO165.out; subst eo38) | ((with_reducible refine gate_callee (f := 22) rfl ?_); refine goesL_ (some 52) rfl rfl Try.func22 (by kernel_rfl) rfl #[.slice Ao38 y163.length co38] rfl (by (try simp only [List.map_toArray, List.map_cons, List.map_nil]); first | done | rfl | (simp only [List.length_drop, List.length_take]; rfl)) ?_; (with_reducible refine (risk_Safe.calls k1 _ _ y163 t166 _ ?side1 ?side2 A29.out).mono ?_); (case side1 => repeat (first | exact (Kd.N_reads' HO165.out).2.2 | (with_reducible refine Kd.C_alloc ?_ _) | (with_reducible refine Kd.C_drewN ?_ _) | (with_reducible refine Kd.C_drew ?_))); (case side2 => exact (Kd.N_reads' HO165.out).2.1); rintro e w39 ⟨rfl, hb⟩; refine ⟨_, rfl, ?_⟩; have n0_ := Aside0.mk (Kd.N_below (by (with_reducible repeat (first | apply Kd.N_alloc | apply Kd.N_drewN | apply Kd.N_drew)); exact HO_0.out) hb); have n1_ := Aside0.mk (Kd.N_below (by (with_reducible repeat (first | apply Kd.N_alloc | apply Kd.N_drewN | apply Kd.N_drew)); exact HO165.out) hb); have n2_ := Aside0.mk (below_step (by repeat (first | (with_reducible first | exact HB.out | apply below_alloc | apply pw_below_drewN | apply below_drew1) | exact HB.out)) hb); clear HO_0; clear HO165; clear HB; have HO_0 := n0_; have HO165 := n1_; have HB := n2_; clear n0_ n1_ n2_; (try clear hb); (try clear hb2); (try clear hk); (try clear hi); have q40 : ((t144.length : Int) : Int) ≤ ((y163.length : Int) : Int) := of_decide_eq_true (by first | (with_reducible assumption) | assumption); obtain ⟨i040, hi040, _, hsz40, _⟩ := info_parts info37; have hroom40 : y163.length ≤ co38 := (Kd.N_reads' HO165.out).2.1; have hC40 : Kd.F k37 _ _ Ao38 y163.length y163 := (Kd.V_at (base := w.heap.size) (Kd.N_V HO165.out)).2.2; have hcut40 := cut_to (P := Try.prog) 32 37 .i64 Try.underlying32 hi040 Ao38 y163.length co38 (t144.length : Int) (of_decide_eq_true (by first | (with_reducible assumption) | assumption)) q40 hroom40; have hr40 := Kd.F_take (m := ((t144.length : Int) : Int).toNat) hC40 (by omega); have hy40 : y167.length = ((t144.length : Int) : Int).toNat := (by rw [Ny167.out, List.length_take]; omega); rw [← Ny167.out] at hr40; rw [← hy40] at hcut40; have HO171 := Aside0.mk (show Kd.V k37 37 _ w.heap.size _ (.slice Ao38 y167.length co38) y167 from Kd.V_mk (by omega) hr40); have HC171 := Aside0.mk (show y167.length ≤ co38 from by omega); clear hr40 hC40 hroom40 hi040 hsz40; have KY40 := Aside0.mk hy40; clear hy40; replace q40 := eq_true q40) | (go_at_call 22; (with_reducible refine (risk_Safe.calls k1 _ _ y167 t172 _ ?side1 ?side2 A33.out).mono ?_); (case side1 => repeat (first | exact (Kd.V_reads' HO171.out).2.2 | (with_reducible refine Kd.C_alloc ?_ _) | (with_reducible refine Kd.C_drewN ?_ _) | (with_reducible refine Kd.C_drew ?_))); (case side2 => exact (Kd.V_reads' HO171.out).2.1); rintro e w41 ⟨rfl, hb⟩; have n0_ := Aside0.mk (Kd.N_below (by (with_reducible repeat (first | apply Kd.N_alloc | apply Kd.N_drewN | apply Kd.N_drew)); exact HO_0.out) hb); have n1_ := Aside0.mk (Kd.N_below (by (with_reducible repeat (first | apply Kd.N_alloc | apply Kd.N_drewN | apply Kd.N_drew)); exact HO165.out) hb); have n2_ := Aside0.mk (Kd.V_below (by (with_reducible repeat (first | apply Kd.V_alloc | apply Kd.V_drewN | apply Kd.V_drew)); exact HO171.out) hb); have n3_ := Aside0.mk (below_step (by repeat (first | (with_reducible first | exact HB.out | apply below_alloc | apply pw_below_drewN | apply below_drew1) | exact HB.out)) hb); clear HO_0; clear HO165; clear HO171; clear HB; have HO_0 := n0_; have HO165 := n1_; have HO171 := n2_; have HB := n3_; clear n0_ n1_ n2_ n3_; (try clear hb); (try clear hb2); (try clear hk); (try clear hi)) | (go_at_call 9; (with_reducible refine (boltinglaw10_fixed.calls k1  t173 _ A35.out).mono ?_); rintro e w42 ⟨rfl, hb⟩; have n0_ := Aside0.mk (Kd.N_below (by (with_reducible repeat (first | apply Kd.N_alloc | apply Kd.N_drewN | apply Kd.N_drew)); exact HO_0.out) hb); have n1_ := Aside0.mk (Kd.N_below (by (with_reducible repeat (first | apply Kd.N_alloc | apply Kd.N_drewN | apply Kd.N_drew)); exact HO165.out) hb); have n2_ := Aside0.mk (Kd.V_below (by (with_reducible repeat (first | apply Kd.V_alloc | apply Kd.V_drewN | apply Kd.V_drew)); exact HO171.out) hb); have n3_ := Aside0.mk (below_step (by repeat (first | (with_reducible first | exact HB.out | apply below_alloc | apply pw_below_drewN | apply below_drew1) | exact HB.out)) hb); clear HO_0; clear HO165; clear HO171; clear HB; have HO_0 := n0_; have HO165 := n1_; have HO171 := n2_; have HB := n3_; clear n0_ n1_ n2_ n3_; (try clear hb); (try clear hb2); (try clear hk); (try clear hi)))
                  go_ret
                  exact ⟨by first | rfl | (simp [errW_none, errW_some] <;> rfl) | (simp [*, errW_none, errW_some] <;> rfl), by repeat (first | (with_reducible first | exact HB.out | apply below_alloc | apply pw_below_drewN | apply below_drew1) | exact HB.out)⟩
                · rw [if_neg c34] at H
                  have c34b0 : (t172 == t162) = false := by simpa using c34
                  (try (have c34b1 : decide (t172 = t162) = false := by simpa using c34))
                  (try (have c34b2 : (t172 == t162) = false := by simpa using c34))
                  (try (have c34b3 : ¬ (t172 = t162) := by simpa using c34))
                  clear c34
                  obtain rfl := Option.some.inj H
                  go_wp2_with (first | ((with_reducible refine gate_callee (f := 22) rfl ?_); refine goesL_ (some 47) rfl rfl Try.func22 (by kernel_rfl) rfl #[.slice Ao6 t144.length co6] rfl (by (try simp only [List.map_toArray, List.map_cons, List.map_nil]); first | done | rfl | (simp only [List.length_drop, List.length_take]; rfl)) ?_; (with_reducible refine (risk_Safe.calls k1 _ _ t144 t162 _ ?side1 ?side2 A27.out).mono ?_); (case side1 => repeat (first | exact (Kd.N_reads' HO_0.out).2.2 | (with_reducible refine Kd.C_alloc ?_ _) | (with_reducible refine Kd.C_drewN ?_ _) | (with_reducible refine Kd.C_drew ?_))); (case side2 => exact (Kd.N_reads' HO_0.out).2.1); rintro e w43 ⟨rfl, hb⟩; refine ⟨_, rfl, ?_⟩; have n0_ := Aside0.mk (Kd.N_below (by (with_reducible repeat (first | apply Kd.N_alloc | apply Kd.N_drewN | apply Kd.N_drew)); exact HO_0.out) hb); have n1_ := Aside0.mk (Kd.N_below (by (with_reducible repeat (first | apply Kd.N_alloc | apply Kd.N_drewN | apply Kd.N_drew)); exact HO_3.out) hb); have n2_ := Aside0.mk (below_step (by repeat (first | (with_reducible first | exact HB.out | apply below_alloc | apply pw_below_drewN | apply below_drew1) | exact HB.out)) hb); clear HO_0; clear HO_3; clear HB; have HO_0 := n0_; have HO_3 := n1_; have HB := n2_; clear n0_ n1_ n2_; (try clear hb); (try clear hb2); (try clear hk); (try clear hi)) | ((with_reducible refine gate_builtin (b := .append) (xs := #[.tmp 48, .tmp 49]) rfl ?_); (try (refine gate_guard (by rfl) ?_; dsimp only)); at_builtin; refine Kd.N_append_rows k37 (w0 := w) w.heap.size rfl (.tmp 48) (.tmp 49) 32 37 (.agg #[(.int .i64 0), (.int .i64 0), (.string ⟨#[]⟩), (.string ⟨#[]⟩), (.slice none 0 0)]) 72 rfl Try.underlying32 info37 rfl (by decide) (by omega) u3 x3_1 t144 _ _ _ (fun _ => True) (fun k_ => ((fun _ => True)) k_ ∧ some k_ ≠ (u3 : Value).ownBlock) rfl rfl ?aO ?aR (fun _ hk => hk) ?aF ?aB ?aS ?aL ?_; (case aR => exact (by skip; exact Kd.N_F (Kd.N_mono (ok' := (fun k_ => ((fun _ => True)) k_ ∧ some k_ ≠ (u3 : Value).ownBlock)) (HO_0.out) (fun k_ hk => ⟨trivial, hk⟩)))); (case aB => exact (by repeat (first | (with_reducible first | exact HB.out | apply below_alloc | apply pw_below_drewN | apply below_drew1) | exact HB.out))); (case aF => exact (fun _ _ => trivial)); (case aO => exact (by (with_reducible repeat (first | apply Kd.N_alloc | apply Kd.N_drewN | apply Kd.N_drew)); exact Kd.N_mono HO_3.out (fun _ hk => trivial))); (case aS => exact (below_size (by repeat (first | (with_reducible first | exact HB.out | apply below_alloc | apply pw_below_drewN | apply below_drew1) | exact HB.out)))); (case aL => have := LMc28.out; omega); intro v164 w44 ho hb hg hat; rw [← Ny163.out] at ho; have n0_ := Aside0.mk (Kd.N_afterv (ok := (fun _ => True)) (by (with_reducible repeat (first | apply Kd.N_alloc | apply Kd.N_drewN | apply Kd.N_drew)); exact Kd.N_mono HO_0.out (fun _ hk => ⟨trivial, hk⟩)) hg hat); have n1_ := Aside0.mk (hb); have n2_ := Aside0.mk (ho); clear HO_0; clear HB; clear HO_3; have HO_0 := n0_; have HB := n1_; have HO165 := n2_; clear n0_ n1_ n2_; clear ho hb hg hat; obtain ⟨Ao45, co45, eo45⟩ := Kd.N_slice HO165.out; subst eo45) | ((with_reducible refine gate_callee (f := 22) rfl ?_); refine goesL_ (some 52) rfl rfl Try.func22 (by kernel_rfl) rfl #[.slice Ao45 y163.length co45] rfl (by (try simp only [List.map_toArray, List.map_cons, List.map_nil]); first | done | rfl | (simp only [List.length_drop, List.length_take]; rfl)) ?_; (with_reducible refine (risk_Safe.calls k1 _ _ y163 t166 _ ?side1 ?side2 A29.out).mono ?_); (case side1 => repeat (first | exact (Kd.N_reads' HO165.out).2.2 | (with_reducible refine Kd.C_alloc ?_ _) | (with_reducible refine Kd.C_drewN ?_ _) | (with_reducible refine Kd.C_drew ?_))); (case side2 => exact (Kd.N_reads' HO165.out).2.1); rintro e w46 ⟨rfl, hb⟩; refine ⟨_, rfl, ?_⟩; have n0_ := Aside0.mk (Kd.N_below (by (with_reducible repeat (first | apply Kd.N_alloc | apply Kd.N_drewN | apply Kd.N_drew)); exact HO_0.out) hb); have n1_ := Aside0.mk (Kd.N_below (by (with_reducible repeat (first | apply Kd.N_alloc | apply Kd.N_drewN | apply Kd.N_drew)); exact HO165.out) hb); have n2_ := Aside0.mk (below_step (by repeat (first | (with_reducible first | exact HB.out | apply below_alloc | apply pw_below_drewN | apply below_drew1) | exact HB.out)) hb); clear HO_0; clear HO165; clear HB; have HO_0 := n0_; have HO165 := n1_; have HB := n2_; clear n0_ n1_ n2_; (try clear hb); (try clear hb2); (try clear hk); (try clear hi); have q47 : ((t144.length : Int) : Int) ≤ ((y163.length : Int) : Int) := of_decide_eq_true (by first | (with_reducible assumption) | assumption); obtain ⟨i047, hi047, _, hsz47, _⟩ := info_parts info37; have hroom47 : y163.length ≤ co45 := (Kd.N_reads' HO165.out).2.1; have hC47 : Kd.F k37 _ _ Ao45 y163.length y163 := (Kd.V_at (base := w.heap.size) (Kd.N_V HO165.out)).2.2; have hcut47 := cut_to (P := Try.prog) 32 37 .i64 Try.underlying32 hi047 Ao45 y163.length co45 (t144.length : Int) (of_decide_eq_true (by first | (with_reducible assumption) | assumption)) q47 hroom47; have hr47 := Kd.F_take (m := ((t144.length : Int) : Int).toNat) hC47 (by omega); have hy47 : y167.length = ((t144.length : Int) : Int).toNat := (by rw [Ny167.out, List.length_take]; omega); rw [← Ny167.out] at hr47; rw [← hy47] at hcut47; have HO171 := Aside0.mk (show Kd.V k37 37 _ w.heap.size _ (.slice Ao45 y167.length co45) y167 from Kd.V_mk (by omega) hr47); have HC171 := Aside0.mk (show y167.length ≤ co45 from by omega); clear hr47 hC47 hroom47 hi047 hsz47; have KY47 := Aside0.mk hy47; clear hy47; replace q47 := eq_true q47) | (go_at_call 22; (with_reducible refine (risk_Safe.calls k1 _ _ y167 t172 _ ?side1 ?side2 A33.out).mono ?_); (case side1 => repeat (first | exact (Kd.V_reads' HO171.out).2.2 | (with_reducible refine Kd.C_alloc ?_ _) | (with_reducible refine Kd.C_drewN ?_ _) | (with_reducible refine Kd.C_drew ?_))); (case side2 => exact (Kd.V_reads' HO171.out).2.1); rintro e w48 ⟨rfl, hb⟩; have n0_ := Aside0.mk (Kd.N_below (by (with_reducible repeat (first | apply Kd.N_alloc | apply Kd.N_drewN | apply Kd.N_drew)); exact HO_0.out) hb); have n1_ := Aside0.mk (Kd.N_below (by (with_reducible repeat (first | apply Kd.N_alloc | apply Kd.N_drewN | apply Kd.N_drew)); exact HO165.out) hb); have n2_ := Aside0.mk (Kd.V_below (by (with_reducible repeat (first | apply Kd.V_alloc | apply Kd.V_drewN | apply Kd.V_drew)); exact HO171.out) hb); have n3_ := Aside0.mk (below_step (by repeat (first | (with_reducible first | exact HB.out | apply below_alloc | apply pw_below_drewN | apply below_drew1) | exact HB.out)) hb); clear HO_0; clear HO165; clear HO171; clear HB; have HO_0 := n0_; have HO165 := n1_; have HO171 := n2_; have HB := n3_; clear n0_ n1_ n2_ n3_; (try clear hb); (try clear hb2); (try clear hk); (try clear hi)))
                  go_ret
                  exact ⟨by first | rfl | (simp [errW_none, errW_some] <;> rfl) | (simp [*, errW_none, errW_some] <;> rfl), by repeat (first | (with_reducible first | exact HB.out | apply below_alloc | apply pw_below_drewN | apply below_drew1) | exact HB.out)⟩
              · rw [if_neg c32] at H
                exact absurd H (by simp)
            · rw [if_neg c31] at H
              exact absurd H (by simp)
          · rw [if_neg c30] at H
            have c30b0 : (t166 == t162) = false := by simpa using c30
            (try (have c30b1 : decide (t166 = t162) = false := by simpa using c30))
            (try (have c30b2 : (t166 == t162) = false := by simpa using c30))
            (try (have c30b3 : ¬ (t166 = t162) := by simpa using c30))
            clear c30
            obtain rfl := Option.some.inj H
            go_wp2_with (first | ((with_reducible refine gate_callee (f := 22) rfl ?_); refine goesL_ (some 47) rfl rfl Try.func22 (by kernel_rfl) rfl #[.slice Ao6 t144.length co6] rfl (by (try simp only [List.map_toArray, List.map_cons, List.map_nil]); first | done | rfl | (simp only [List.length_drop, List.length_take]; rfl)) ?_; (with_reducible refine (risk_Safe.calls k1 _ _ t144 t162 _ ?side1 ?side2 A27.out).mono ?_); (case side1 => repeat (first | exact (Kd.N_reads' HO_0.out).2.2 | (with_reducible refine Kd.C_alloc ?_ _) | (with_reducible refine Kd.C_drewN ?_ _) | (with_reducible refine Kd.C_drew ?_))); (case side2 => exact (Kd.N_reads' HO_0.out).2.1); rintro e w49 ⟨rfl, hb⟩; refine ⟨_, rfl, ?_⟩; have n0_ := Aside0.mk (Kd.N_below (by (with_reducible repeat (first | apply Kd.N_alloc | apply Kd.N_drewN | apply Kd.N_drew)); exact HO_0.out) hb); have n1_ := Aside0.mk (Kd.N_below (by (with_reducible repeat (first | apply Kd.N_alloc | apply Kd.N_drewN | apply Kd.N_drew)); exact HO_3.out) hb); have n2_ := Aside0.mk (below_step (by repeat (first | (with_reducible first | exact HB.out | apply below_alloc | apply pw_below_drewN | apply below_drew1) | exact HB.out)) hb); clear HO_0; clear HO_3; clear HB; have HO_0 := n0_; have HO_3 := n1_; have HB := n2_; clear n0_ n1_ n2_; (try clear hb); (try clear hb2); (try clear hk); (try clear hi)) | ((with_reducible refine gate_builtin (b := .append) (xs := #[.tmp 48, .tmp 49]) rfl ?_); (try (refine gate_guard (by rfl) ?_; dsimp only)); at_builtin; refine Kd.N_append_rows k37 (w0 := w) w.heap.size rfl (.tmp 48) (.tmp 49) 32 37 (.agg #[(.int .i64 0), (.int .i64 0), (.string ⟨#[]⟩), (.string ⟨#[]⟩), (.slice none 0 0)]) 72 rfl Try.underlying32 info37 rfl (by decide) (by omega) u3 x3_1 t144 _ _ _ (fun _ => True) (fun k_ => ((fun _ => True)) k_ ∧ some k_ ≠ (u3 : Value).ownBlock) rfl rfl ?aO ?aR (fun _ hk => hk) ?aF ?aB ?aS ?aL ?_; (case aR => exact (by skip; exact Kd.N_F (Kd.N_mono (ok' := (fun k_ => ((fun _ => True)) k_ ∧ some k_ ≠ (u3 : Value).ownBlock)) (HO_0.out) (fun k_ hk => ⟨trivial, hk⟩)))); (case aB => exact (by repeat (first | (with_reducible first | exact HB.out | apply below_alloc | apply pw_below_drewN | apply below_drew1) | exact HB.out))); (case aF => exact (fun _ _ => trivial)); (case aO => exact (by (with_reducible repeat (first | apply Kd.N_alloc | apply Kd.N_drewN | apply Kd.N_drew)); exact Kd.N_mono HO_3.out (fun _ hk => trivial))); (case aS => exact (below_size (by repeat (first | (with_reducible first | exact HB.out | apply below_alloc | apply pw_below_drewN | apply below_drew1) | exact HB.out)))); (case aL => have := LMc28.out; omega); intro v164 w50 ho hb hg hat; rw [← Ny163.out] at ho; have n0_ := Aside0.mk (Kd.N_afterv (ok := (fun _ => True)) (by (with_reducible repeat (first | apply Kd.N_alloc | apply Kd.N_drewN | apply Kd.N_drew)); exact Kd.N_mono HO_0.out (fun _ hk => ⟨trivial, hk⟩)) hg hat); have n1_ := Aside0.mk (hb); have n2_ := Aside0.mk (ho); clear HO_0; clear HB; clear HO_3; have HO_0 := n0_; have HB := n1_; have HO165 := n2_; clear n0_ n1_ n2_; clear ho hb hg hat; obtain ⟨Ao51, co51, eo51⟩ := Kd.N_slice HO165.out; subst eo51) | ((with_reducible refine gate_callee (f := 22) rfl ?_); refine goesL_ (some 52) rfl rfl Try.func22 (by kernel_rfl) rfl #[.slice Ao51 y163.length co51] rfl (by (try simp only [List.map_toArray, List.map_cons, List.map_nil]); first | done | rfl | (simp only [List.length_drop, List.length_take]; rfl)) ?_; (with_reducible refine (risk_Safe.calls k1 _ _ y163 t166 _ ?side1 ?side2 A29.out).mono ?_); (case side1 => repeat (first | exact (Kd.N_reads' HO165.out).2.2 | (with_reducible refine Kd.C_alloc ?_ _) | (with_reducible refine Kd.C_drewN ?_ _) | (with_reducible refine Kd.C_drew ?_))); (case side2 => exact (Kd.N_reads' HO165.out).2.1); rintro e w52 ⟨rfl, hb⟩; refine ⟨_, rfl, ?_⟩; have n0_ := Aside0.mk (Kd.N_below (by (with_reducible repeat (first | apply Kd.N_alloc | apply Kd.N_drewN | apply Kd.N_drew)); exact HO_0.out) hb); have n1_ := Aside0.mk (Kd.N_below (by (with_reducible repeat (first | apply Kd.N_alloc | apply Kd.N_drewN | apply Kd.N_drew)); exact HO165.out) hb); have n2_ := Aside0.mk (below_step (by repeat (first | (with_reducible first | exact HB.out | apply below_alloc | apply pw_below_drewN | apply below_drew1) | exact HB.out)) hb); clear HO_0; clear HO165; clear HB; have HO_0 := n0_; have HO165 := n1_; have HB := n2_; clear n0_ n1_ n2_; (try clear hb); (try clear hb2); (try clear hk); (try clear hi)))
            go_ret
            exact ⟨by first | rfl | (simp [errW_none, errW_some] <;> rfl) | (simp [*, errW_none, errW_some] <;> rfl), by repeat (first | (with_reducible first | exact HB.out | apply below_alloc | apply pw_below_drewN | apply below_drew1) | exact HB.out)⟩
        · rw [if_neg c28] at H
          exact absurd H (by simp)

end Go.Proofs.Ytejdfmghcgkojaa.Pr
/- risk.Safe over rows, in what RiskOrder needs: plain Lean. -/
namespace Go.Proofs.Ytejdfmghcgkojaa.Pure
set_option linter.unusedVariables false
set_option linter.unusedSimpArgs false
open Go.RowKit Go.Proofs.Ytejdfmghcgkojaa.Pr Go.Proofs.YtejdfmghcgkojaaW.PrintWords Go.Proofs.YtejdfmghcgkojaaW.PrintLast

theorem wrap_succ {i : Int} (h0 : -1 ≤ i) (h : i < 9000000000000000000) : wrap64 (i + 1) = i + 1 := by unfold wrap64; omega
theorem mkS_data (s : ByteArray) : mkS s.data.toList = s := Lib.mk_data s
theorem mkS_toList (l : List UInt8) : (mkS l).toList = l := by rw [Lib.toList_data]; rfl
abbrev dat (s : ByteArray) : List UInt8 := s.data.toList
theorem toList_dat (s : ByteArray) : s.toList = dat s := Lib.toList_data s
theorem get_some {α : Type} {l : List α} {i : Nat} (h : i < l.length) : ∃ x, l[i]? = some x := ⟨_, List.getElem?_eq_getElem h⟩
theorem drop_at {α : Type} {l : List α} {i : Nat} {x : α} (h : l[i]? = some x) : l.drop i = x :: l.drop (i + 1) := by
  rw [List.drop_eq_getElem?_toList_append, h]
  simp
/-- Does a text stand in a list? -/
def mem (l : List ByteArray) (s : ByteArray) : Bool := l.any fun x => decide (x = s)
def sinkF (x y : ByteArray) : Int := if handlerB y = true then 2 else sinkI x y
def unsafeL : List ByteArray := [⟨#[98, 97, 115, 101]⟩, ⟨#[101, 109, 98, 101, 100]⟩, ⟨#[102, 114, 97, 109, 101]⟩, ⟨#[105, 102, 114, 97, 109, 101]⟩, ⟨#[108, 105, 110, 107]⟩, ⟨#[109, 101, 116, 97]⟩, ⟨#[111, 98, 106, 101, 99, 116]⟩, ⟨#[115, 99, 114, 105, 112, 116]⟩]
theorem element_f (s : ByteArray) : risk_Element.f s = some (mem unsafeL s) := by
  have e : ∀ (l : List UInt8), (s.toList = l) = (mkS l = s) := fun l => by
    rw [toList_dat]
    exact propext ⟨fun h => by rw [← h]; exact mkS_data s, fun h => by rw [← h]; rfl⟩
  unfold risk_Element.f mem unsafeL
  simp only [e, List.any_cons, List.any_nil, Bool.or_false]
  repeat' split
  all_goals
    refine congrArg some (Eq.symm ?_)
    first
    | (rw [Bool.eq_iff_iff]; simp only [Bool.or_eq_true, decide_eq_true_eq, eq_self, iff_true]; simp_all [mkS]; done)
    | (simp_all [mkS]; done)

/-- Is an address one to be run? -/
def runs (l : List UInt8) : Bool := (scheme l).getD [] == [106, 97, 118, 97, 115, 99, 114, 105, 112, 116]
theorem script_f (s : ByteArray) (hs : s.size ≤ 140737488351232) : link_Script.f s = some (runs (dat s)) := by
  unfold link_Script.f link_Scheme.f
  rw [bnd_of _ hs]
  simp only [Option.bind_some]
  rw [mkS_toList]
  rfl
/-- Is an attribute not safe? -/
def attrB (e n v : ByteArray) : Bool := decide (sinkF e n ≠ 0) || (navB e n && runs (dat v))
theorem attr_f (e n v : ByteArray) (hv : v.size ≤ 140737488351232) : risk_Attr.f e n v = some (attrB e n v) := by
  unfold risk_Attr.f risk_Sink.f risk_Nav.f attrB
  simp only [Option.bind_some]
  show (if sinkF e n = 0 then _ else _) = _
  by_cases h : sinkF e n = 0
  · rw [if_pos h, h]
    cases hb : navB e n with
    | true => rw [if_pos rfl, script_f v hv]; simp
    | false => rw [if_neg (by simp)]; simp
  · rw [if_neg h]; simp [h]
set_option maxRecDepth 100000 in
theorem fixed_f {k : Nat} (hk : 10 ≤ k) : boltinglaw10_fixed.f k = some true := by
  obtain ⟨k, rfl⟩ : ∃ m, k = m + 4 := ⟨k - 4, by omega⟩
  have e1 : risk_Attr.f ⟨#[97]⟩ ⟨#[104, 114, 101, 102]⟩ ⟨#[106, 97, 118, 97, 115, 99, 114, 105, 112, 116, 58, 120]⟩ = some true := by decide +kernel
  have e2 : risk_Attr.f ⟨#[97]⟩ ⟨#[104, 114, 101, 102]⟩ ⟨#[104, 116, 116, 112, 115, 58, 120]⟩ = some false := by decide +kernel
  have e3 : risk_Sink.f ⟨#[100, 105, 118]⟩ ⟨#[111, 110, 99, 108, 105, 99, 107]⟩ = some 2 := by decide +kernel
  have e4 : risk_Handler.f ⟨#[111, 110]⟩ = some false := by decide +kernel
  have e5 : risk_Nav.f ⟨#[102, 111, 114, 109]⟩ ⟨#[97, 99, 116, 105, 111, 110]⟩ = some true := by decide +kernel
  have e6 : risk_Nav.f ⟨#[100, 105, 118]⟩ ⟨#[97, 99, 116, 105, 111, 110]⟩ = some false := by decide +kernel
  have e7 : risk_Sink.f ⟨#[105, 102, 114, 97, 109, 101]⟩ ⟨#[115, 114, 99, 100, 111, 99]⟩ = some 1 := by decide +kernel
  have e8 : risk_Sink.f ⟨#[115, 99, 114, 105, 112, 116]⟩ ⟨#[115, 114, 99]⟩ = some 3 := by decide +kernel
  have e9 : risk_Sink.f ⟨#[105, 109, 103]⟩ ⟨#[115, 114, 99]⟩ = some 0 := by decide +kernel
  have e10 : risk_Element.f ⟨#[115, 99, 114, 105, 112, 116]⟩ = some true := by decide +kernel
  have e11 : risk_Element.f ⟨#[98]⟩ = some false := by decide +kernel
  have e12 : risk_Safe.f (k + 4) [] = some true := by
    unfold risk_Safe.f
    simp only [risk_Safe.l0]
    rfl
  have e13 : risk_Safe.f (k + 4) [⟨0, 0, ⟨#[115, 99, 114, 105, 112, 116]⟩, ⟨#[]⟩, []⟩] = some false := by
    unfold risk_Safe.f
    simp only [risk_Safe.l0]
    rw [if_pos (by decide), if_pos (by decide), if_pos (by decide)]
    show (if (0 : Int) = 0 then _ else _) = _
    rw [if_pos rfl]
    show ((risk_Element.f ⟨#[115, 99, 114, 105, 112, 116]⟩).bind _) = _
    rw [e10]
    rfl
  unfold boltinglaw10_fixed.f
  rw [e1, e2, e3, e4, e5, e6, e7, e8, e9, e10, e11, e12, e13]
  rfl

/-- Is a node safe? -/
def rowB (x : S37) : Bool := if x.f1 = 0 then !mem unsafeL x.f2 && x.f4.all (fun a => !attrB x.f2 a.f0 a.f1) else true
/-- A row whose texts are no longer than texts are. -/
def Fits (x : S37) : Prop := ∀ y ∈ x.f4, y.f1.size ≤ 140737488351232
theorem t37_at {l : List S37} {i : Nat} {x : S37} (h : l[i]? = some x) : rd_T37 l (i : Int) = x := by
  unfold rd_T37
  rw [Int.toNat_natCast, List.getD_eq_getElem?_getD, h]
  rfl
theorem t30_at {l : List S30} {i : Nat} {x : S30} (h : l[i]? = some x) : rd_T30 l (i : Int) = x := by
  unfold rd_T30
  rw [Int.toNat_natCast, List.getD_eq_getElem?_getD, h]
  rfl
/-- The inner loop: the attributes from one on. -/
theorem safe_l1 (l : List S37) (n i : Int) (ats : List S30) (hl : ats.length ≤ 1000000) (e : ByteArray) (f0 f1 : Int) (f3 : ByteArray) (f4 : List S30) (hs : ∀ y ∈ ats, y.f1.size ≤ 140737488351232) (d j : Nat) : j + d = ats.length → ∀ k, d < k →
    risk_Safe.l1 k l n i ats (ats.length : Int) (j : Int) f0 f1 e f3 f4 = if (ats.drop j).all (fun a => !attrB e a.f0 a.f1) = true then risk_Safe.l0 (k - d - 1) l n (wrap64 (i + 1)) else some false := by
  induction d generalizing j with
  | zero =>
    intro h k hk
    obtain ⟨k, rfl⟩ : ∃ m, k = m + 1 := ⟨k - 1, by omega⟩
    simp only [risk_Safe.l1]
    rw [if_neg (by omega), List.drop_of_length_le (by omega)]
    rfl
  | succ d ih =>
    intro h k hk
    obtain ⟨k, rfl⟩ : ∃ m, k = m + 1 := ⟨k - 1, by omega⟩
    obtain ⟨a, ha⟩ := get_some (show j < ats.length by omega)
    simp only [risk_Safe.l1]
    rw [if_pos (by omega), if_pos (by omega), if_pos (by omega), t30_at ha, attr_f e a.f0 a.f1 (hs a (List.mem_of_getElem? ha)), drop_at ha, List.all_cons]
    simp only [Option.bind_some]
    cases hb : attrB e a.f0 a.f1 with
    | true => rw [if_pos rfl]; simp
    | false =>
      rw [if_neg (by simp), wrap_succ (by omega) (by omega)]
      have := ih (j + 1) (by omega) k (by omega)
      rw [show ((j : Int) + 1) = ((j + 1 : Nat) : Int) by omega, this, show k + 1 - (d + 1) - 1 = k - d - 1 by omega]
      simp
theorem safe_l0 (l : List S37) (hl : l.length ≤ 1000) (hf : ∀ x ∈ l, Fits x) (ha : ∀ x ∈ l, x.f4.length ≤ 1000) (M : Nat) (hM : 1002 ≤ M) (d i : Nat) : i + d = l.length → ∀ k, d * M + 1 ≤ k → risk_Safe.l0 k l (l.length : Int) (i : Int) = some ((l.drop i).all rowB) := by
  induction d generalizing i with
  | zero =>
    intro h k hk
    obtain ⟨k, rfl⟩ : ∃ m, k = m + 1 := ⟨k - 1, by omega⟩
    simp only [risk_Safe.l0]
    rw [if_neg (by omega), List.drop_of_length_le (by omega)]
    rfl
  | succ d ih =>
    intro h k hk
    obtain ⟨k, rfl⟩ : ∃ m, k = m + 1 := ⟨k - 1, by omega⟩
    obtain ⟨x, hx⟩ := get_some (show i < l.length by omega)
    have hk' : d * M + M ≤ k := by rw [← Nat.succ_mul]; exact Nat.le_of_succ_le_succ hk
    obtain ⟨D, hD⟩ : ∃ D, d * M = D := ⟨_, rfl⟩
    rw [hD] at hk' ih
    clear hk hD
    have hm : x ∈ l := List.mem_of_getElem? hx
    have hlen := ha x hm
    simp only [risk_Safe.l0]
    rw [if_pos (by omega), if_pos (by omega), if_pos (by omega), t37_at hx, drop_at hx, List.all_cons]
    have hw : wrap64 ((i : Int) + 1) = ((i + 1 : Nat) : Int) := by rw [wrap_succ (by omega) (by omega)]; omega
    by_cases h1 : x.f1 = 0
    · rw [if_pos h1, element_f]
      simp only [Option.bind_some]
      have hr : rowB x = (!mem unsafeL x.f2 && x.f4.all (fun a => !attrB x.f2 a.f0 a.f1)) := by unfold rowB; rw [if_pos h1]
      cases hu : mem unsafeL x.f2 with
      | true => rw [if_pos rfl, hr, hu]; simp
      | false =>
        rw [if_neg (by simp)]
        have := safe_l1 l (l.length : Int) (i : Int) x.f4 (by omega) x.f2 x.f0 x.f1 x.f3 x.f4 (hf x hm) x.f4.length 0 (by omega) k (by omega)
        rw [show ((0 : Nat) : Int) = 0 from rfl, List.drop_zero] at this
        rw [this, hr, hu, hw]
        cases hall : x.f4.all (fun a => !attrB x.f2 a.f0 a.f1) with
        | true =>
          rw [if_pos rfl]
          have := ih (i + 1) (by omega) (k - x.f4.length - 1) (by omega)
          rw [this]
          simp
        | false => rw [if_neg (by simp)]; simp
    · rw [if_neg h1, hw]
      have hr : rowB x = true := by unfold rowB; rw [if_neg h1]
      rw [hr, Bool.true_and]
      exact ih (i + 1) (by omega) k (by omega)
theorem safe_f (l : List S37) (hl : l.length ≤ 1000) (hf : ∀ x ∈ l, Fits x) (ha : ∀ x ∈ l, x.f4.length ≤ 1000) {k : Nat} (hk : 1100000 ≤ k) : risk_Safe.f k l = some (l.all rowB) := by
  have h1 : l.length * 1002 ≤ 1000 * 1002 := Nat.mul_le_mul_right _ hl
  have := safe_l0 l hl hf ha 1002 (Nat.le_refl _) l.length 0 (Nat.zero_add _) k (Nat.le_trans (Nat.succ_le_succ h1) (Nat.le_trans (by decide) hk))
  rw [List.drop_zero] at this
  exact this
/-! ### no more rows than a statement can hold -/
def cut8 (x : S37) : S37 := ⟨x.f0, x.f1, x.f2, x.f3, x.f4.take (mn (x.f4.length : Int) 8).toNat⟩
def bnd40 (l : List S37) : List S37 := (l.take 40).map cut8
theorem bound_l0 (l : List S37) (hl : l.length ≤ 9223372036854775807) (N : Nat) (hN : N = 40) : ∀ (d i : Nat), i + d = N → i ≤ l.length → ∀ k, d < k → boltinglaw10_bound.l0 k l ((l.take i).map cut8) (i : Int) = some ((l.take N).map cut8) := by
  intro d
  induction d with
  | zero =>
    intro i h hi k hk
    obtain ⟨k, rfl⟩ : ∃ m, k = m + 1 := ⟨k - 1, by omega⟩
    obtain rfl : i = N := by omega
    simp only [boltinglaw10_bound.l0]
    split
    · rw [if_neg (by omega)]
    · rfl
  | succ d ih =>
    intro i h hi k hk
    obtain ⟨k, rfl⟩ : ∃ m, k = m + 1 := ⟨k - 1, by omega⟩
    simp only [boltinglaw10_bound.l0]
    by_cases hlt : i < l.length
    · obtain ⟨x, hx⟩ := get_some hlt
      have hmn : 0 ≤ mn (x.f4.length : Int) 8 ∧ mn (x.f4.length : Int) 8 ≤ (x.f4.length : Int) := by unfold mn; split <;> omega
      rw [if_pos (by omega), if_pos (by omega), if_pos (by omega), t37_at hx, if_pos hmn.1, if_pos hmn.2, if_pos (by rw [List.length_map, List.length_take]; omega), wrap_succ (by omega) (by omega)]
      have e : (l.take i).map cut8 ++ [(⟨x.f0, x.f1, x.f2, x.f3, x.f4.take (mn (x.f4.length : Int) 8).toNat⟩ : S37)] = (l.take (i + 1)).map cut8 := by
        rw [List.take_add_one, hx, List.map_append]; rfl
      rw [e]
      exact ih (i + 1) (by omega) (by omega) k (by omega)
    · rw [if_neg (by omega)]
      refine congrArg some ?_
      rw [List.take_of_length_le (show l.length ≤ i by omega), List.take_of_length_le (show l.length ≤ N by omega)]
theorem bound_f (l : List S37) (hl : l.length ≤ 9223372036854775807) {k : Nat} (hk : 50 < k) : boltinglaw10_bound.f k l = some (bnd40 l) := by
  obtain ⟨N, hN⟩ : ∃ N : Nat, N = 40 := ⟨_, rfl⟩
  have := bound_l0 l hl N hN N 0 (by omega) (by omega) k (by omega)
  unfold bnd40
  rw [← hN]
  exact this
theorem bnd_len (l : List S37) : (bnd40 l).length ≤ 40 := by unfold bnd40; rw [List.length_map, List.length_take]; omega
theorem bnd_mem {l : List S37} {x : S37} (h : x ∈ bnd40 l) : ∃ y ∈ l, x = cut8 y := by
  obtain ⟨y, hy, rfl⟩ := List.mem_map.1 h
  exact ⟨y, List.mem_of_mem_take hy, rfl⟩
theorem cut8_len (x : S37) : (cut8 x).f4.length ≤ 8 := by
  unfold cut8
  show (x.f4.take _).length ≤ 8
  rw [List.length_take]
  unfold mn; split <;> omega
theorem cut8_fits {x : S37} (h : Fits x) : Fits (cut8 x) := fun y hy => h y (List.mem_of_mem_take hy)
end Go.Proofs.Ytejdfmghcgkojaa.Pure
/- RiskOrder: the order of rows, and of attributes, makes no difference to whether rows are safe; rows twice neither. Plain Lean. -/
namespace Go.Proofs.Ytejdfmghcgkojaa.Pure
set_option linter.unusedVariables false
set_option linter.unusedSimpArgs false
open Go.RowKit Go.Proofs.Ytejdfmghcgkojaa.Pr Go.Proofs.YtejdfmghcgkojaaW.PrintWords Go.Proofs.YtejdfmghcgkojaaW.PrintLast

/-- A row with its attributes the other way round. -/
def rv (x : S37) : S37 := ⟨x.f0, x.f1, x.f2, x.f3, x.f4.reverse⟩
theorem wrap_pred {i : Int} (h0 : -1000 ≤ i) (h : i < 9000000000000000000) : wrap64 (i - 1) = i - 1 := by unfold wrap64; omega
theorem rev_take {α : Type} {l : List α} {i : Nat} {x : α} (h : l[i]? = some x) : (l.take (i + 1)).reverse = x :: (l.take i).reverse := by
  rw [List.take_add_one, h]; simp
theorem order_l1 (l m : List S37) (i : Nat) (x : S37) (hm : m.length ≤ 1000) (hx : x.f4.length ≤ 1000) (K : Nat)
    (hK : ∀ k, K ≤ k → boltinglaw10_RiskOrder.l0 k l (m ++ [rv x]) (wrap64 ((i : Int) - 1)) = some true) (d : Nat) : ∀ (acc : List S30), acc.length + d = x.f4.length → acc ++ (x.f4.take d).reverse = x.f4.reverse → ∀ k, K + d + 1 ≤ k →
      boltinglaw10_RiskOrder.l1 k l m (i : Int) acc ((d : Int) - 1) x.f0 x.f1 x.f2 x.f3 x.f4 = some true := by
  induction d with
  | zero =>
    intro acc h he k hk
    obtain ⟨k, rfl⟩ : ∃ m, k = m + 1 := ⟨k - 1, by omega⟩
    simp only [boltinglaw10_RiskOrder.l1]
    rw [if_neg (by omega), if_pos (by omega)]
    rw [List.take_zero, List.reverse_nil, List.append_nil] at he
    rw [he]
    exact hK k (by omega)
  | succ d ih =>
    intro acc h he k hk
    obtain ⟨k, rfl⟩ : ∃ m, k = m + 1 := ⟨k - 1, by omega⟩
    obtain ⟨a, ha⟩ := get_some (show d < x.f4.length by omega)
    simp only [boltinglaw10_RiskOrder.l1]
    rw [show ((d + 1 : Nat) : Int) - 1 = (d : Int) by omega, if_pos (by omega), if_pos (by omega), if_pos (by omega), if_pos (by omega), t30_at ha, wrap_pred (by omega) (by omega)]
    refine ih _ (by rw [List.length_append]; simp; omega) ?_ k (by omega)
    rw [← he, rev_take ha]
    simp
theorem order_l0 (l : List S37) (hl : l.length ≤ 40) (ha : ∀ x ∈ l, x.f4.length ≤ 1000) (K : Nat)
    (hK : ∀ k, K ≤ k → boltinglaw10_RiskOrder.l0 k l (l.reverse.map rv) (-1) = some true) (d : Nat) : ∀ (m : List S37), m.length + d = l.length → m ++ ((l.take d).reverse.map rv) = l.reverse.map rv → ∀ k, K + 1100 * d ≤ k →
      boltinglaw10_RiskOrder.l0 k l m ((d : Int) - 1) = some true := by
  induction d with
  | zero =>
    intro m h he k hk
    rw [List.take_zero, List.reverse_nil, List.map_nil, List.append_nil] at he
    rw [he, show ((0 : Nat) : Int) - 1 = -1 by omega]
    exact hK k (by omega)
  | succ d ih =>
    intro m h he k hk
    obtain ⟨k, rfl⟩ : ∃ m, k = m + 1 := ⟨k - 1, by omega⟩
    obtain ⟨x, hx⟩ := get_some (show d < l.length by omega)
    have hxl := ha x (List.mem_of_getElem? hx)
    simp only [boltinglaw10_RiskOrder.l0]
    rw [show ((d + 1 : Nat) : Int) - 1 = (d : Int) by omega, if_pos (by omega), if_pos (by omega), if_pos (by omega), t37_at hx, wrap_pred (by omega) (by omega)]
    refine order_l1 l m d x (by omega) hxl (K + 1100 * d) (fun k hk => ?_) x.f4.length [] (by simp) (by rw [List.take_of_length_le (Nat.le_refl _)]; simp) k (by omega)
    rw [wrap_pred (by omega) (by omega)]
    refine ih _ (by rw [List.length_append]; simp; omega) ?_ k hk
    rw [← he, rev_take hx]
    simp
theorem rowB_rv (x : S37) : rowB (rv x) = rowB x := by
  unfold rowB rv
  simp only [List.all_reverse]
theorem all_rv (l : List S37) : (l.reverse.map rv).all rowB = l.all rowB := by
  rw [List.all_map]
  have e : rowB ∘ rv = rowB := funext rowB_rv
  rw [e, List.all_reverse]
theorem RiskOrder (l0 : List S37)
    (hS : ∀ x ∈ l0, (Lit.int .i64 x.f0).wf = true ∧ (Lit.int .i64 x.f1).wf = true ∧ x.f2.size ≤ 140737488351232 ∧ x.f3.size ≤ 140737488351232 ∧ ∀ y ∈ x.f4, y.f0.size ≤ 140737488351232 ∧ y.f1.size ≤ 140737488351232)
    (hl : l0.length ≤ 9223372036854775807) : ∃ k, boltinglaw10_RiskOrder.f k l0 = some true := by
  obtain ⟨k, hk⟩ : ∃ k, 3000000 ≤ k := ⟨_, Nat.le_refl _⟩
  refine ⟨k, ?_⟩
  unfold boltinglaw10_RiskOrder.f
  rw [bound_f l0 hl (by omega)]
  simp only [Option.bind_some]
  have hlen := bnd_len l0
  have hf : ∀ x ∈ bnd40 l0, Fits x := fun x hx => by
    obtain ⟨y, hy, rfl⟩ := bnd_mem hx
    exact cut8_fits (fun z hz => ((hS y hy).2.2.2.2 z hz).2)
  have ha : ∀ x ∈ bnd40 l0, x.f4.length ≤ 1000 := fun x hx => by
    obtain ⟨y, hy, rfl⟩ := bnd_mem hx
    have := cut8_len y
    omega
  obtain ⟨l, hL⟩ : ∃ l, bnd40 l0 = l := ⟨_, rfl⟩
  rw [hL] at hlen hf ha ⊢
  have hw : wrap64 ((l.length : Int) - 1) = (l.length : Int) - 1 := wrap_pred (by omega) (by omega)
  rw [hw]
  refine order_l0 l hlen ha 2000000 (fun k hk => ?_) l.length [] (by simp) (by rw [List.take_of_length_le (Nat.le_refl _)]; rfl) k (by omega)
  obtain ⟨k, rfl⟩ : ∃ m, k = m + 1 := ⟨k - 1, by omega⟩
  have hrl : (l.reverse.map rv).length = l.length := by simp
  have hr : ∀ x ∈ l.reverse.map rv, Fits x ∧ x.f4.length ≤ 1000 := fun x hx => by
    obtain ⟨y, hy, rfl⟩ := List.mem_map.1 hx
    have hy' : y ∈ l := by simpa using hy
    exact ⟨fun z hz => hf y hy' z (by simpa [rv] using hz), by simpa [rv] using ha y hy'⟩
  simp only [boltinglaw10_RiskOrder.l0]
  rw [if_neg (by omega), safe_f l (by omega) hf ha (by omega)]
  simp only [Option.bind_some]
  rw [if_pos (by rw [hrl]; omega)]
  rw [safe_f (l.reverse.map rv ++ l) (by rw [List.length_append, hrl]; omega) (fun x hx => by rcases List.mem_append.1 hx with h | h; exact (hr x h).1; exact hf x h) (fun x hx => by rcases List.mem_append.1 hx with h | h; exact (hr x h).2; exact ha x h) (by omega)]
  simp only [Option.bind_some]
  rw [List.all_append, all_rv, if_pos (by simp), if_pos (by omega), if_pos (by rw [List.length_append, hrl]; omega), Int.toNat_natCast, List.take_left' hrl, safe_f (l.reverse.map rv) (by rw [hrl]; omega) (fun x hx => (hr x hx).1) (fun x hx => (hr x hx).2) (by omega), all_rv]
  simp only [Option.bind_some]
  rw [if_pos (by simp), fixed_f (by omega)]
  rfl
end Go.Proofs.Ytejdfmghcgkojaa.Pure
/- The row of RiskOrder. -/
namespace Go.Proofs.Ytejdfmghcgkojaa.riskOrder
open Go.ChangeShapes Go.WideShapes Go.ChangeAt Go.RowKit
open Go.ChangeMaps (open_string shut_string)
set_option linter.unusedVariables false
set_option linter.unusedSimpArgs false
theorem own : ownKnob Try.prog.godebug = none := by kernel_rfl
theorem laidOut : laidOutB Try.prog = true := by kernel_rfl
set_option maxRecDepth 100000 in
theorem lifted (os : Os) (started : os.Started) (H : Type) (enc : TypeId × Value → H) :
    ReturnsInHanded {} Try.checked os 8 .any (Rows.riskOrderSpec.pre6 enc Try.prog Try.f8 Rows.riskOrderRow.domain false) (Rows.riskOrderSpec.post enc Try.prog Try.f8 false true false false) := by
  refine returnsInHanded_of_change_sized (C := Try.checked) own started (by kernel_rfl) Try.func8
    (ChangeSpec.witness6 (enc := enc) (C := Try.checked) false ⟨#[], #[.slice none 0 0], []⟩ 8 (by kernel_rfl) (by kernel_rfl) (by kernel_rfl) (by kernel_rfl)) ?_
  intro W base args ds gs before hval0 hW hcnd hsz0 _
  have hsz : (DataW.weightsEach Try.prog (Try.f8.params.toList ++ Rows.riskOrderSpec.plain.varTypes Try.prog) (ds ++ gs)).all (· ≤ reachBytes) = true := hsz0
  have hval : ∀ (j : Nat) t v, Try.f8.params[j]? = some t → args[j]? = some v → Value.okWide Try.prog W .any base t v := hval0
  have hW' := hW
  obtain ⟨p, q, hA0, hV, rfl, hfz, hnd⟩ := hW
  have hA : DataW.TrodAll enc Try.prog W 0 (fun _ => true) true Try.f8.params.toList args.toList ds p := hA0
  rw [Try.params8] at hA hval hsz
  obtain ⟨v0, vs0, d0, ds0, p0, q0, hargs, rfl, rfl, h0, r0⟩ := trodAll_cons hA
  obtain ⟨rfl, rfl, rfl⟩ := trodAll_nil r0
  obtain rfl : args = #[v0] := by cases args; simp_all
  obtain ⟨rfl, rfl⟩ := trodVars_none hV
  have k0 := h0
  have lt0 : ∀ x ∈ p0, x.block < W.heap.size := by obtain ⟨m, hm⟩ := k0; exact DataW.trod_lt m _ _ _ hm
  obtain ⟨sa0, sn0, sc0, rfl⟩ := okWide_slice Try.underlying32 (hval 0 32 v0 rfl rfl)
  obtain ⟨fu0, hf0⟩ := h0
  obtain ⟨A0, c0, l0, hv0, hc0, hm0, hr0, hS0⟩ := opensS_row Try.underlying32 (opensS_struct (fun x : Pr.S37 => (x.f0, x.f1, x.f2, x.f3, x.f4)) Try.underlying37 rfl (by kernel_rfl) (opensTail_cons rfl (opensS_int (by kernel_rfl) Try.underlying3) (opensTail_cons rfl (opensS_int (by kernel_rfl) Try.underlying3) (opensTail_cons rfl (opensS_string (by kernel_rfl) Try.underlying9) (opensTail_cons rfl (opensS_string (by kernel_rfl) Try.underlying9) (opensTail_last rfl (opensS_slice (by kernel_rfl) Try.underlying35 (opensS_struct (fun x : Pr.S30 => (x.f0, x.f1)) Try.underlying30 rfl (by kernel_rfl) (opensTail_cons rfl (opensS_string (by kernel_rfl) Try.underlying9) (opensTail_last rfl (opensS_string (by kernel_rfl) Try.underlying9))) (fun a => ⟨⟨a.1, a.2⟩, rfl⟩)))))))) (fun a => ⟨⟨a.1, a.2.1, a.2.2.1, a.2.2.2.1, a.2.2.2.2⟩, rfl⟩)) hf0 (fun n hn => by simpa using List.all_eq_true.1 hsz n (DataW.weights_mem_each (j := 0) rfl rfl n hn))
  obtain ⟨rfl, rfl, rfl⟩ : sa0 = A0 ∧ sn0 = l0.length ∧ sc0 = c0 := by simpa [Value.cells] using hv0
  clear hA0 hval0 hsz0 hsz
  obtain ⟨k, hk⟩ := Pure.RiskOrder l0 hS0 (Nat.le_trans hc0 (Nat.le_trans hm0 (by decide)))
  refine (Pr.boltinglaw10_RiskOrder.calls k sa0 sc0 l0 true W hr0 hc0 hk).mono fun e W' ⟨he, bel0⟩ => ?_
  have bel : Below W.heap.size W W' := by first | exact bel0 | exact below_of_drawn0 bel0
  subst he
  exact ⟨_, rfl, _, _, _, [], _, [], hW', trodAll_mk1 (shut_bool Try.underlying4 _), (trodAll_cons_mk (Below.trod laidOut (by kernel_rfl) (of_decide_eq_true (by kernel_rfl)) k0 bel lt0) trodAll_mk0), rfl, bel.frame _, fun h => by cases h⟩
theorem over : Rows.riskOrderRow.holds Try.pinned (OpenSpec.ofChange Rows.riskOrderSpec) :=
  OpenClaim.holds_of_wide 8 Try.f8 rfl rfl rfl rfl rfl rfl rfl ⟨rfl, rfl, rfl, rfl, rfl⟩ rfl rfl rfl rfl rfl (by kernel_rfl) Try.func8 (by kernel_rfl)
    (of_decide_eq_true (by kernel_rfl)) (by unfold Func.isWrapper; first | (rw [if_pos (by decide +kernel)]; kernel_rfl) | (rw [if_neg (by decide +kernel)]; exact ⟨rfl, rfl⟩))
    (fun os started H enc _ => lifted os started H enc)
theorem proved : Rows.RiskOrderSaid := over
#print axioms proved
end Go.Proofs.Ytejdfmghcgkojaa.riskOrder
namespace Go.Proofs.Ytejdfmghcgkojaa
/-- The row, under a short name, for the claim. -/
theorem riskOrder_holds : Rows.RiskOrderSaid := riskOrder.proved
end Go.Proofs.Ytejdfmghcgkojaa
