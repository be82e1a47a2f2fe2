/- Texts under the row of ConfigKeeps (part 3).. -/
import Derived.Test.YtjofofpplpmgjaaJConfigKeeps1
import Derived.Test.YtjofofpplpmgjaaJConfigKeeps2
import Derived.Shelf.SlicesE.DeleteFunc
import Derived.Lib.OwnBridge
-- SLIMMED
namespace Go.Proofs.Ytjofofpplpmgjaa.Pr
open Go.RowKit Go.Proofs.YtjofofpplpmgjaaW.PrintWords Go.Proofs.YtjofofpplpmgjaaW.PrintLast Go.Proofs.YtjofofpplpmgjaaW.PrintMore
attribute [local go_sem] max2_int min2_int max_two min_two max_three min_three max_four min_four   -- for this text's walks alone
set_option linter.unusedVariables false
set_option linter.unusedSimpArgs false

/-! ### config_lists: function 40 -/
def config_lists.l0 : Nat → List ByteArray → List (List ByteArray) → List (S35) → Int → Int → Bool → Bool → List ByteArray → List ByteArray → List ByteArray → List (S35) → Bool → Bool → Option ((List (List ByteArray)) × (List (List ByteArray)))
 | 0, _, _, _, _, _, _, _, _, _, _, _, _, _ => none
 | k + 1, x4, x5, x12, x13, x14, x102000, x102001, x102002, x102003, x102004, x102005, x102006, x102007 => if x14 < x13 then (if 0 ≤ x14 then (if x14 < (x12.length : Int) then (if x4.length < 8796093022208 then (if x5.length < 5864062014805 then (config_lists.l0 k (x4 ++ [(rd_T35 x12 x14).f0]) (x5 ++ [(rd_T35 x12 x14).f1]) x12 x13 (wrap64 (x14 + 1)) x102000 x102001 x102002 x102003 x102004 x102005 x102006 x102007) else (none)) else (none)) else (none)) else (none)) else (some ((([x102002, x102003, x4] : List (List ByteArray))), x5))
def config_lists.f (k : Nat) (a0_0 : Bool) (a0_1 : Bool) (l0_2 : List ByteArray) (l0_3 : List ByteArray) (l0_4 : List ByteArray) (l0_5 : List (S35)) (a0_6 : Bool) (a0_7 : Bool) : Option ((List (List ByteArray)) × (List (List ByteArray))) := config_lists.l0 k ([] : List ByteArray) (([l0_4] : List (List ByteArray))) l0_5 (l0_5.length : Int) 0 a0_0 a0_1 l0_2 l0_3 l0_4 l0_5 a0_6 a0_7
set_option maxHeartbeats 8000000 in
set_option maxRecDepth 100000 in
theorem config_lists.calls (k : Nat) (a0_0 : Bool) (a0_1 : Bool) (P0_2_ : Nat → Prop) (A0_2 : Option Addr) (c0_2 : Nat) (l0_2 : List ByteArray) (P0_3_ : Nat → Prop) (A0_3 : Option Addr) (c0_3 : Nat) (l0_3 : List ByteArray) (P0_4_ : Nat → Prop) (A0_4 : Option Addr) (c0_4 : Nat) (l0_4 : List ByteArray) (P0_5_ : Nat → Prop) (A0_5 : Option Addr) (c0_5 : Nat) (l0_5 : List (S35)) (a0_6 : Bool) (a0_7 : Bool) (r1 : List (List ByteArray)) (r2 : List (List ByteArray)) (w : World) (hs0_2 : Kd.V Kd.string 9 w w.heap.size (fun k_ => P0_2_ k_) (.slice A0_2 l0_2.length c0_2) l0_2) (hs0_3 : Kd.V Kd.string 9 w w.heap.size (fun k_ => P0_3_ k_) (.slice A0_3 l0_3.length c0_3) l0_3) (hs0_4 : Kd.V Kd.string 9 w w.heap.size (fun k_ => P0_4_ k_) (.slice A0_4 l0_4.length c0_4) l0_4) (hs0_5 : Kd.V k35 35 w w.heap.size (fun k_ => P0_5_ k_) (.slice A0_5 l0_5.length c0_5) l0_5) (h : config_lists.f k a0_0 a0_1 l0_2 l0_3 l0_4 l0_5 a0_6 a0_7 = some (r1, r2)) :
  Calls Try.prog 40 #[.agg #[.bool a0_0, .bool a0_1, .slice A0_2 l0_2.length c0_2, .slice A0_3 l0_3.length c0_3, .slice A0_4 l0_4.length c0_4, .slice A0_5 l0_5.length c0_5, .bool a0_6, .bool a0_7]] w fun e w' => ∃ v0_ v1_ : Value, e = .returned (.tuple #[v0_, v1_]) ∧ Kd.N (Kd.slice 9 Kd.string) 22 w' w.heap.size (fun k_ => ((P0_2_ k_ ∨ P0_3_ k_ ∨ P0_4_ k_ ∨ P0_5_ k_) ∨ w.heap.size ≤ k_) ∧ some k_ ≠ (v1_ : Value).ownBlock) v0_ r1 ∧ Kd.N (Kd.slice 9 Kd.string) 22 w' w.heap.size (fun k_ => ((P0_2_ k_ ∨ P0_3_ k_ ∨ P0_4_ k_ ∨ P0_5_ k_) ∨ w.heap.size ≤ k_) ∧ some k_ ≠ (v0_ : Value).ownBlock) v1_ r2 ∧ Below w.heap.size w w' := by
 have hu25 := Try.underlying25
 have hu35 := Try.underlying35
 have HO0_2 := Aside0.mk (show Kd.V Kd.string 9 w w.heap.size (fun k_ => ((P0_2_ k_ ∨ P0_3_ k_ ∨ P0_4_ k_ ∨ P0_5_ k_) ∨ w.heap.size ≤ k_)) (.slice A0_2 l0_2.length c0_2) l0_2 from Kd.V_mono hs0_2 (fun k_ hk => .inl (.inl hk)))
 have HO0_3 := Aside0.mk (show Kd.V Kd.string 9 w w.heap.size (fun k_ => ((P0_2_ k_ ∨ P0_3_ k_ ∨ P0_4_ k_ ∨ P0_5_ k_) ∨ w.heap.size ≤ k_)) (.slice A0_3 l0_3.length c0_3) l0_3 from Kd.V_mono hs0_3 (fun k_ hk => .inl (.inr (.inl hk))))
 have HO0_4 := Aside0.mk (show Kd.V Kd.string 9 w w.heap.size (fun k_ => ((P0_2_ k_ ∨ P0_3_ k_ ∨ P0_4_ k_ ∨ P0_5_ k_) ∨ w.heap.size ≤ k_)) (.slice A0_4 l0_4.length c0_4) l0_4 from Kd.V_mono hs0_4 (fun k_ hk => .inl (.inr (.inr (.inl hk)))))
 have HO0_5 := Aside0.mk (show Kd.V k35 35 w w.heap.size (fun k_ => ((P0_2_ k_ ∨ P0_3_ k_ ∨ P0_4_ k_ ∨ P0_5_ k_) ∨ w.heap.size ≤ k_)) (.slice A0_5 l0_5.length c0_5) l0_5 from Kd.V_mono hs0_5 (fun k_ hk => .inl (.inr (.inr (.inr hk)))))
 have HB := Aside0.mk (Below.refl w.heap.size w)
 have H : (config_lists.l0 k ([] : List ByteArray) (([l0_4] : List (List ByteArray))) l0_5 (l0_5.length : Int) 0 a0_0 a0_1 l0_2 l0_3 l0_4 l0_5 a0_6 a0_7) = some (r1, r2) := h
 clear h
 obtain ⟨y102, hy102⟩ : ∃ y_ : List (List ByteArray), y_ = (([l0_4] : List (List ByteArray))) := ⟨_, rfl⟩
 replace H : (config_lists.l0 k ([] : List ByteArray) y102 l0_5 (l0_5.length : Int) 0 a0_0 a0_1 l0_2 l0_3 l0_4 l0_5 a0_6 a0_7) = some (r1, r2) := by first | (rw [hy102]; with_reducible exact H) | (have H2_ := (Option.bind_some _ _).symm.trans H; rw [hy102]; with_reducible exact H2_) | (have H2_ := (Option.bind_some _ _).symm.trans H; with_reducible exact H2_) | with_reducible exact H | (rw [hy102]; exact H) | exact H
 have Ny102 := Aside0.mk hy102
 clear hy102
 have H' := Aside0.mk H
 clear H
 go_enter Try.func40, Try.ntmps40
 go_wp2_with (first | ((with_reducible refine gate_dst (N := 1) rfl ?_); refine box_event ?hg (N := 1) ?hd (cs := #[.bool a0_0, .bool a0_1, .slice A0_2 l0_2.length c0_2, .slice A0_3 l0_3.length c0_3, .slice A0_4 l0_4.length c0_4, .slice A0_5 l0_5.length c0_5, .bool a0_6, .bool a0_7]) (t := 25) ?hr ?_; (case hd => rfl); (case hg => rfl); (case hr => first | (go_simp; done) | (go_simp; rfl)); intro gb101 hg w2 hbox hb; have n0_ := Aside0.mk (Kd.V_below (Kd.V_elderB (by exact HO0_2.out) gb101 (Nat.le_of_eq hg.symm)) hb); have n1_ := Aside0.mk (Kd.V_below (Kd.V_elderB (by exact HO0_3.out) gb101 (Nat.le_of_eq hg.symm)) hb); have n2_ := Aside0.mk (Kd.V_below (Kd.V_elderB (by exact HO0_4.out) gb101 (Nat.le_of_eq hg.symm)) hb); have n3_ := Aside0.mk (Kd.V_below (Kd.V_elderB (by exact HO0_5.out) gb101 (Nat.le_of_eq hg.symm)) hb); have n4_ := Aside0.mk (below_step (by repeat (first | (with_reducible first | exact HB.out | apply below_alloc | apply pw_below_drewN | apply below_drew1) | exact HB.out)) hb); have n5_ := Aside0.mk (hbox); have n6_ := Aside0.mk ((by rw [hg]; exact (below_size (by repeat (first | (with_reducible first | exact HB.out | apply below_alloc | apply pw_below_drewN | apply below_drew1) | exact HB.out))) : w.heap.size ≤ gb101)); have n7_ := Aside0.mk ((by rw [hg]; exact (below_size (by repeat (first | (with_reducible first | exact HB.out | apply below_alloc | apply pw_below_drewN | apply below_drew1) | exact HB.out))) : w.heap.size ≤ gb101)); clear HO0_2; clear HO0_3; clear HO0_4; clear HO0_5; clear HB; have HO0_2 := n0_; have HO0_3 := n1_; have HO0_4 := n2_; have HO0_5 := n3_; have HB := n4_; have BK101 := n5_; have GW101 := n6_; have GE101 := n7_; clear n0_ n1_ n2_ n3_ n4_ n5_ n6_ n7_; clear hb hbox hg; have hcz3_0 : w2.cell? ⟨gb101, 0, none⟩ = some (.bool a0_0) := (blk_cell BK101.out 0).trans rfl; have hcz3_1 : w2.cell? ⟨gb101, 1, none⟩ = some (.bool a0_1) := (blk_cell BK101.out 1).trans rfl; have hcz3_2 : w2.cell? ⟨gb101, 2, none⟩ = some (.slice A0_2 l0_2.length c0_2) := (blk_cell BK101.out 2).trans rfl; have hcz3_3 : w2.cell? ⟨gb101, 3, none⟩ = some (.slice A0_3 l0_3.length c0_3) := (blk_cell BK101.out 3).trans rfl; have hcz3_4 : w2.cell? ⟨gb101, 4, none⟩ = some (.slice A0_4 l0_4.length c0_4) := (blk_cell BK101.out 4).trans rfl; have hcz3_5 : w2.cell? ⟨gb101, 5, none⟩ = some (.slice A0_5 l0_5.length c0_5) := (blk_cell BK101.out 5).trans rfl; have hcz3_6 : w2.cell? ⟨gb101, 6, none⟩ = some (.bool a0_6) := (blk_cell BK101.out 6).trans rfl; have hcz3_7 : w2.cell? ⟨gb101, 7, none⟩ = some (.bool a0_7) := (blk_cell BK101.out 7).trans rfl; have hfz3_0 := blk_frozen BK101.out 0; have hfz3_1 := blk_frozen BK101.out 1; have hfz3_2 := blk_frozen BK101.out 2; have hfz3_3 := blk_frozen BK101.out 3; have hfz3_4 := blk_frozen BK101.out 4; have hfz3_5 := blk_frozen BK101.out 5; have hfz3_6 := blk_frozen BK101.out 6; have hfz3_7 := blk_frozen BK101.out 7) | ((with_reducible refine gate_dst (N := 10) rfl ?_); refine Kd.N_lit (Kd.slice 9 Kd.string) _ 22 ?hg (N' := 10) ?hd (xs := ([l0_4] : List (List ByteArray))) (inner := [.slice A0_4 l0_4.length c0_4]) (ok := (fun k_ => ((P0_2_ k_ ∨ P0_3_ k_ ∨ P0_4_ k_ ∨ P0_5_ k_) ∨ w.heap.size ≤ k_) ∧ k_ ≠ gb101)) (okp := (fun k_ => ((P0_2_ k_ ∨ P0_3_ k_ ∨ P0_4_ k_ ∨ P0_5_ k_) ∨ w.heap.size ≤ k_) ∧ k_ ≠ gb101)) ?hr ?hp (fun _ hk => hk) ((show ∀ k_, w2.heap.size ≤ k_ → (fun k_ => ((P0_2_ k_ ∨ P0_3_ k_ ∨ P0_4_ k_ ∨ P0_5_ k_) ∨ w.heap.size ≤ k_) ∧ k_ ≠ gb101) k_ from fun k_ hk => ⟨(.inr (Nat.le_trans (below_size (by repeat (first | (with_reducible first | exact HB.out | apply below_alloc | apply pw_below_drewN | apply below_drew1 | refine below_set ?_ GE101.out) | exact HB.out))) hk)), Kd.freshB (g := gb101) (o := .cells #[.bool a0_0, .bool a0_1, .slice A0_2 l0_2.length c0_2, .slice A0_3 l0_3.length c0_3, .slice A0_4 l0_4.length c0_4, .slice A0_5 l0_5.length c0_5, .bool a0_6, .bool a0_7] 25 (0, 0)) (by exact BK101.out) k_ hk⟩) _ (Nat.le_refl _)) (Below.refl _ _) (Nat.le_refl _) (by simp) ?_; (case hd => rfl); (case hg => rfl); (case hr => first | (go_simp; done) | (go_simp; rfl)); (case hp => exact (Reps.one (show Kd.FK (Kd.slice 9 Kd.string) _ _ l0_4 [.slice A0_4 l0_4.length c0_4] from (Kd.FK_slice_mk (Kd.V_reads' (Kd.V_mono (ok' := (fun k_ => ((P0_2_ k_ ∨ P0_3_ k_ ∨ P0_4_ k_ ∨ P0_5_ k_) ∨ w.heap.size ≤ k_) ∧ k_ ≠ gb101)) (HO0_4.out) (fun k_ hk => ⟨hk.1, hk.2⟩))).2.1 (Kd.V_F (Kd.V_mono (ok' := (fun k_ => ((P0_2_ k_ ∨ P0_3_ k_ ∨ P0_4_ k_ ∨ P0_5_ k_) ∨ w.heap.size ≤ k_) ∧ k_ ≠ gb101)) (HO0_4.out) (fun k_ hk => ⟨hk.1, hk.2⟩))))) (Reps.none _ _))); intro v103 w4 ho5 hb hg_ hnew_; clear hg_ hnew_; (first | rw [← Ny102.out] at ho5 | (simp only [Int.reduceToNat] at ho5; rw [← Ny102.out] at ho5)); have n0_ := Aside0.mk (Kd.V_elder' (by exact HO0_2.out) (Kd.N_base ho5) hb); have n1_ := Aside0.mk (Kd.V_elder' (by exact HO0_3.out) (Kd.N_base ho5) hb); have n2_ := Aside0.mk (Kd.V_elder' (by exact HO0_4.out) (Kd.N_base ho5) hb); have n3_ := Aside0.mk (Kd.V_elder' (by exact HO0_5.out) (Kd.N_base ho5) hb); have n4_ := Aside0.mk (Kd.N_lower ho5 (below_size (by repeat (first | (with_reducible first | exact HB.out | apply below_alloc | apply pw_below_drewN | apply below_drew1 | refine below_set ?_ GE101.out) | exact HB.out)))); have n5_ := Aside0.mk (blk_below (g := gb101) (o := .cells #[.bool a0_0, .bool a0_1, .slice A0_2 l0_2.length c0_2, .slice A0_3 l0_3.length c0_3, .slice A0_4 l0_4.length c0_4, .slice A0_5 l0_5.length c0_5, .bool a0_6, .bool a0_7] 25 (0, 0)) (by exact BK101.out) hb); have n6_ := Aside0.mk (below_step (by repeat (first | (with_reducible first | exact HB.out | apply below_alloc | apply pw_below_drewN | apply below_drew1 | refine below_set ?_ GE101.out) | exact HB.out)) hb); clear HO0_2; clear HO0_3; clear HO0_4; clear HO0_5; clear BK101; clear HB; have HO0_2 := n0_; have HO0_3 := n1_; have HO0_4 := n2_; have HO0_5 := n3_; have HO104 := n4_; have BK101 := n5_; have HB := n6_; clear n0_ n1_ n2_ n3_ n4_ n5_ n6_; clear hb ho5; have hcz6_0 : w4.cell? ⟨gb101, 0, none⟩ = some (.bool a0_0) := (blk_cell BK101.out 0).trans rfl; have hcz6_1 : w4.cell? ⟨gb101, 1, none⟩ = some (.bool a0_1) := (blk_cell BK101.out 1).trans rfl; have hcz6_2 : w4.cell? ⟨gb101, 2, none⟩ = some (.slice A0_2 l0_2.length c0_2) := (blk_cell BK101.out 2).trans rfl; have hcz6_3 : w4.cell? ⟨gb101, 3, none⟩ = some (.slice A0_3 l0_3.length c0_3) := (blk_cell BK101.out 3).trans rfl; have hcz6_4 : w4.cell? ⟨gb101, 4, none⟩ = some (.slice A0_4 l0_4.length c0_4) := (blk_cell BK101.out 4).trans rfl; have hcz6_5 : w4.cell? ⟨gb101, 5, none⟩ = some (.slice A0_5 l0_5.length c0_5) := (blk_cell BK101.out 5).trans rfl; have hcz6_6 : w4.cell? ⟨gb101, 6, none⟩ = some (.bool a0_6) := (blk_cell BK101.out 6).trans rfl; have hcz6_7 : w4.cell? ⟨gb101, 7, none⟩ = some (.bool a0_7) := (blk_cell BK101.out 7).trans rfl; have hfz6_0 := blk_frozen BK101.out 0; have hfz6_1 := blk_frozen BK101.out 1; have hfz6_2 := blk_frozen BK101.out 2; have hfz6_3 := blk_frozen BK101.out 3; have hfz6_4 := blk_frozen BK101.out 4; have hfz6_5 := blk_frozen BK101.out 5; have hfz6_6 := blk_frozen BK101.out 6; have hfz6_7 := blk_frozen BK101.out 7))
 go_loopg [4, 5, 14] k (fun kq v4 v5 v14 w' => ∃ (x4_1 : List ByteArray) (x5_1 : List (List ByteArray)) (x14_1 : Int), v14 = .int .i64 x14_1 ∧ Aside0 (config_lists.l0 kq x4_1 x5_1 l0_5 (l0_5.length : Int) x14_1 a0_0 a0_1 l0_2 l0_3 l0_4 l0_5 a0_6 a0_7 = some (r1, r2)) ∧ Aside0 (kq ≤ k) ∧ Aside0 (Kd.R Kd.string 9 w' w.heap.size (fun k_ => (w.heap.size ≤ k_)) v4 x4_1) ∧ Aside0 (Kd.N (Kd.slice 9 Kd.string) 22 w' w.heap.size (fun k_ => ((P0_2_ k_ ∨ P0_3_ k_ ∨ P0_4_ k_ ∨ P0_5_ k_) ∨ w.heap.size ≤ k_) ∧ some k_ ≠ (v4 : Value).ownBlock ∧ k_ ≠ gb101) v5 x5_1) ∧ Aside0 (Kd.V k35 35 w' w.heap.size (fun k_ => ((P0_2_ k_ ∨ P0_3_ k_ ∨ P0_4_ k_ ∨ P0_5_ k_) ∨ w.heap.size ≤ k_) ∧ some k_ ≠ (v4 : Value).ownBlock ∧ some k_ ≠ (v5 : Value).ownBlock ∧ k_ ≠ gb101) (.slice A0_5 l0_5.length c0_5) l0_5) ∧ Aside0 (Kd.V Kd.string 9 w' w.heap.size (fun k_ => ((P0_2_ k_ ∨ P0_3_ k_ ∨ P0_4_ k_ ∨ P0_5_ k_) ∨ w.heap.size ≤ k_) ∧ some k_ ≠ (v4 : Value).ownBlock ∧ some k_ ≠ (v5 : Value).ownBlock ∧ k_ ≠ gb101) (.slice A0_2 l0_2.length c0_2) l0_2) ∧ Aside0 (Kd.V Kd.string 9 w' w.heap.size (fun k_ => ((P0_2_ k_ ∨ P0_3_ k_ ∨ P0_4_ k_ ∨ P0_5_ k_) ∨ w.heap.size ≤ k_) ∧ some k_ ≠ (v4 : Value).ownBlock ∧ some k_ ≠ (v5 : Value).ownBlock ∧ k_ ≠ gb101) (.slice A0_3 l0_3.length c0_3) l0_3) ∧ Aside0 (Kd.V Kd.string 9 w' w.heap.size (fun k_ => ((P0_2_ k_ ∨ P0_3_ k_ ∨ P0_4_ k_ ∨ P0_5_ k_) ∨ w.heap.size ≤ k_) ∧ some k_ ≠ (v4 : Value).ownBlock ∧ some k_ ≠ (v5 : Value).ownBlock ∧ k_ ≠ gb101) (.slice A0_4 l0_4.length c0_4) l0_4) ∧ Aside0 (Kd.V k35 35 w' w.heap.size (fun k_ => ((P0_2_ k_ ∨ P0_3_ k_ ∨ P0_4_ k_ ∨ P0_5_ k_) ∨ w.heap.size ≤ k_) ∧ some k_ ≠ (v4 : Value).ownBlock ∧ some k_ ≠ (v5 : Value).ownBlock ∧ k_ ≠ gb101) (.slice A0_5 l0_5.length c0_5) l0_5) ∧ Aside0 (w'.heap[gb101]? = some (.cells #[.bool a0_0, .bool a0_1, (.slice A0_2 l0_2.length c0_2), (.slice A0_3 l0_3.length c0_3), (.slice A0_4 l0_4.length c0_4), (.slice A0_5 l0_5.length c0_5), .bool a0_6, .bool a0_7] 25 (0, 0))) ∧ Aside0 (Below w.heap.size w w'))
 case atStart => exact ⟨(([] : List ByteArray)), (y102), (0), (by first | rfl | (simp; done) | (simp [*]; done)), H', ⟨Nat.le_refl _⟩, ⟨by first | exact Kd.R_nil _ _ _ _ _ | exact Kd.N_nil _ _ _ _ _ | exact Kd.V_nil _ _ _ _ _ | exact Kd.Q_nil _ _ _ _ _ | exact Kd.S_nil _ _ _ _ _⟩, ⟨by exact Kd.N_mono HO104.out (fun _ hk => ⟨hk.1, ⟨(by simp [Value.ownBlock]), hk.2⟩⟩)⟩, ⟨by exact Kd.V_mono HO0_5.out (fun _ hk => ⟨hk.1.1, ⟨(by simp [Value.ownBlock]), ⟨hk.2, hk.1.2⟩⟩⟩)⟩, ⟨by exact Kd.V_mono HO0_2.out (fun _ hk => ⟨hk.1.1, ⟨(by simp [Value.ownBlock]), ⟨hk.2, hk.1.2⟩⟩⟩)⟩, ⟨by exact Kd.V_mono HO0_3.out (fun _ hk => ⟨hk.1.1, ⟨(by simp [Value.ownBlock]), ⟨hk.2, hk.1.2⟩⟩⟩)⟩, ⟨by exact Kd.V_mono HO0_4.out (fun _ hk => ⟨hk.1.1, ⟨(by simp [Value.ownBlock]), ⟨hk.2, hk.1.2⟩⟩⟩)⟩, ⟨by exact Kd.V_mono HO0_5.out (fun _ hk => ⟨hk.1.1, ⟨(by simp [Value.ownBlock]), ⟨hk.2, hk.1.2⟩⟩⟩)⟩, ⟨by exact BK101.out⟩, ⟨by repeat (first | (with_reducible first | exact HB.out | apply below_alloc | apply pw_below_drewN | apply below_drew1 | refine below_set ?_ GE101.out) | exact HB.out)⟩⟩
 case round =>
  clear H'
  try clear p2
  try clear c4
  try clear hcz3_0
  try clear hcz3_1
  try clear hcz3_2
  try clear hcz3_3
  try clear hcz3_4
  try clear hcz3_5
  try clear hcz3_6
  try clear hcz3_7
  try clear hcz6_0
  try clear hcz6_1
  try clear hcz6_2
  try clear hcz6_3
  try clear hcz6_4
  try clear hcz6_5
  try clear hcz6_6
  try clear hcz6_7
  try clear hfz3_0
  try clear hfz3_1
  try clear hfz3_2
  try clear hfz3_3
  try clear hfz3_4
  try clear hfz3_5
  try clear hfz3_6
  try clear hfz3_7
  try clear hfz6_0
  try clear hfz6_1
  try clear hfz6_2
  try clear hfz6_3
  try clear hfz6_4
  try clear hfz6_5
  try clear hfz6_6
  try clear hfz6_7
  obtain ⟨x4_1, x5_1, x14_1, rfl, HA, HK1, HO_4, HO_5, HO_12, HO_102002, HO_102003, HO_102004, HO_102005, BK101, HB⟩ := hrel
  cases gk with
  | zero => exact absurd HA.out (by simp [config_lists.l0])
  | succ k1 =>
   have H := HA.out
   clear HA
   simp only [config_lists.l0] at H
   by_cases c7 : x14_1 < (l0_5.length : Int)
   ·rw [if_pos c7] at H
    have c7b0 : decide (x14_1 < (l0_5.length : Int)) = true := decide_eq_true c7
    clear c7
    by_cases c8 : 0 ≤ x14_1
    ·rw [if_pos c8] at H
     have c8b0 : decide (0 ≤ x14_1) = true := decide_eq_true c8
     clear c8
     by_cases c9 : x14_1 < (l0_5.length : Int)
     ·rw [if_pos c9] at H
      have c9b0 : decide (x14_1 < (l0_5.length : Int)) = true := decide_eq_true c9
      clear c9
      by_cases c10 : x4_1.length < 8796093022208
      ·rw [if_pos c10] at H
       have LMc10 := Aside0.mk c10
       clear c10
       obtain ⟨y107, hy107⟩ : ∃ y_ : List ByteArray, y_ = (x4_1 ++ [(rd_T35 l0_5 x14_1).f0]) := ⟨_, rfl⟩
       replace H : (if x5_1.length < 5864062014805 then (config_lists.l0 k1 y107 (x5_1 ++ [(rd_T35 l0_5 x14_1).f1]) l0_5 (l0_5.length : Int) (wrap64 (x14_1 + 1)) a0_0 a0_1 l0_2 l0_3 l0_4 l0_5 a0_6 a0_7) else (none)) = some (r1, r2) := by first | (rw [hy107]; with_reducible exact H) | (have H2_ := (Option.bind_some _ _).symm.trans H; rw [hy107]; with_reducible exact H2_) | (have H2_ := (Option.bind_some _ _).symm.trans H; with_reducible exact H2_) | with_reducible exact H | (rw [hy107]; exact H) | exact H
       have Ny107 := Aside0.mk hy107
       clear hy107
       by_cases c11 : x5_1.length < 5864062014805
       ·rw [if_pos c11] at H
        have LMc11 := Aside0.mk c11
        clear c11
        obtain ⟨y110, hy110⟩ : ∃ y_ : List (List ByteArray), y_ = (x5_1 ++ [(rd_T35 l0_5 x14_1).f1]) := ⟨_, rfl⟩
        replace H : (config_lists.l0 k1 y107 y110 l0_5 (l0_5.length : Int) (wrap64 (x14_1 + 1)) a0_0 a0_1 l0_2 l0_3 l0_4 l0_5 a0_6 a0_7) = some (r1, r2) := by first | (rw [hy110]; with_reducible exact H) | (have H2_ := (Option.bind_some _ _).symm.trans H; rw [hy110]; with_reducible exact H2_) | (have H2_ := (Option.bind_some _ _).symm.trans H; with_reducible exact H2_) | with_reducible exact H | (rw [hy110]; exact H) | exact H
        have Ny110 := Aside0.mk hy110
        clear hy110
        have H' := Aside0.mk H
        clear H
        have p105 : 0 ≤ (x14_1 : Int) := of_decide_eq_true (by first | (with_reducible assumption) | assumption)
        have q105 : x14_1 < (l0_5.length : Int) := of_decide_eq_true (by first | (with_reducible assumption) | assumption)
        obtain ⟨ad105, A105_1, c105_1, e105, hx105_0, hx105_1, hl105_1, hi105_1⟩ := at_T35 (Kd.V_reads' HO_12.out).2.2 x14_1 p105 q105
        cases e105
        obtain ⟨ce105, hce105, hMe105, hcc105⟩ := Kd.V_get HO_12.out z35 x14_1 p105 (by first | exact q105 | exact of_decide_eq_true (by first | (with_reducible assumption) | assumption) | (have e_ := (Kd.V_reads' HO_12.out).1; omega))
        obtain ⟨ua105_1, uc105_1, rfl, ul105_1, ge105_1⟩ := k35_openF hMe105
        have hv105_1 := hcc105 1 _ rfl
        rw [add_field _ _ 1 (by omega)] at hv105_1
        replace hv105_1 := Option.some.inj (hv105_1.symm.trans hx105_1)
        injection hv105_1 with hva_ hvn_ hvc_
        rw [hva_] at ge105_1
        rw [hvc_] at ul105_1
        have HL105_1 := Aside0.mk (show Kd.V Kd.string 9 _ w.heap.size _ _ ((rd_T35 l0_5 x14_1).f1) from Kd.V_mk ul105_1 ge105_1)
        clear hva_ hvn_ hvc_ ge105_1 ul105_1
        clear hcc105 hce105
        have HR105_1 := Aside0.mk hi105_1
        have HC105_1 := Aside0.mk hl105_1
        clear hi105_1 hl105_1
        replace p105 := eq_true p105
        replace q105 := eq_true q105
        go_wp2_with (first | ((with_reducible refine gate_dst (N := 7) rfl ?_); refine box_event ?hg (N := 7) ?hd (cs := #[.string (⟨#[]⟩ : ByteArray), .slice none 0 0]) (t := 35) ?hr ?_; (case hd => rfl); (case hg => rfl); (case hr => first | (go_simp; done) | (go_simp; rfl)); intro gb106 hg w12 hbox hb; have n0_ := Aside0.mk (Kd.R_below (by exact HO_4.out) hb); have n1_ := Aside0.mk (Kd.N_below (Kd.N_elderB (by exact HO_5.out) gb106 (Nat.le_of_eq hg.symm)) hb); have n2_ := Aside0.mk (Kd.V_below (Kd.V_elderB (by exact HO_12.out) gb106 (Nat.le_of_eq hg.symm)) hb); have n3_ := Aside0.mk (Kd.V_below (Kd.V_elderB (by exact HO_102002.out) gb106 (Nat.le_of_eq hg.symm)) hb); have n4_ := Aside0.mk (Kd.V_below (Kd.V_elderB (by exact HO_102003.out) gb106 (Nat.le_of_eq hg.symm)) hb); have n5_ := Aside0.mk (Kd.V_below (Kd.V_elderB (by exact HO_102004.out) gb106 (Nat.le_of_eq hg.symm)) hb); have n6_ := Aside0.mk (Kd.V_below (Kd.V_elderB (by exact HO_102005.out) gb106 (Nat.le_of_eq hg.symm)) hb); have n7_ := Aside0.mk (Kd.V_below (Kd.V_elderB (by exact HL105_1.out) gb106 (Nat.le_of_eq hg.symm)) hb); have n8_ := Aside0.mk (blk_below (g := gb101) (o := .cells #[.bool a0_0, .bool a0_1, .slice A0_2 l0_2.length c0_2, .slice A0_3 l0_3.length c0_3, .slice A0_4 l0_4.length c0_4, .slice (some ad105) l0_5.length c0_5, .bool a0_6, .bool a0_7] 25 (0, 0)) (by exact BK101.out) hb); have n9_ := Aside0.mk (Kd.C_below (by repeat (first | (with_reducible exact HR105_1.out) | (with_reducible refine Kd.C_alloc ?_ _) | (with_reducible refine Kd.C_drewN ?_ _) | (with_reducible refine Kd.C_drew ?_) | exact HR105_1.out)) hb); have n10_ := Aside0.mk (below_step (by repeat (first | (with_reducible first | exact HB.out | apply below_alloc | apply pw_below_drewN | apply below_drew1 | refine below_set ?_ GE101.out) | exact HB.out)) hb); have n11_ := Aside0.mk (hbox); have n12_ := Aside0.mk ((by rw [hg]; exact (below_size (by repeat (first | (with_reducible first | exact HB.out | apply below_alloc | apply pw_below_drewN | apply below_drew1 | refine below_set ?_ GE101.out) | exact HB.out))) : w.heap.size ≤ gb106)); have n13_ := Aside0.mk ((by rw [hg]; exact (below_size (by repeat (first | (with_reducible first | exact HB.out | apply below_alloc | apply pw_below_drewN | apply below_drew1 | refine below_set ?_ GE101.out) | exact HB.out))) : w.heap.size ≤ gb106)); have n14_ := Aside0.mk ((by rw [hg]; exact Nat.ne_of_lt (blk_lt (g := gb101) (o := .cells #[.bool a0_0, .bool a0_1, .slice A0_2 l0_2.length c0_2, .slice A0_3 l0_3.length c0_3, .slice A0_4 l0_4.length c0_4, .slice (some ad105) l0_5.length c0_5, .bool a0_6, .bool a0_7] 25 (0, 0)) (by exact BK101.out)) : gb101 ≠ gb106)); have n15_ := Aside0.mk ((by rw [hg]; exact Nat.ne_of_gt (blk_lt (g := gb101) (o := .cells #[.bool a0_0, .bool a0_1, .slice A0_2 l0_2.length c0_2, .slice A0_3 l0_3.length c0_3, .slice A0_4 l0_4.length c0_4, .slice (some ad105) l0_5.length c0_5, .bool a0_6, .bool a0_7] 25 (0, 0)) (by exact BK101.out)) : gb106 ≠ gb101)); clear HO_4; clear HO_5; clear HO_12; clear HO_102002; clear HO_102003; clear HO_102004; clear HO_102005; clear HL105_1; clear BK101; clear HR105_1; clear HB; have HO_4 := n0_; have HO_5 := n1_; have HO_12 := n2_; have HO_102002 := n3_; have HO_102003 := n4_; have HO_102004 := n5_; have HO_102005 := n6_; have HL105_1 := n7_; have BK101 := n8_; have HR105_1 := n9_; have HB := n10_; have BK106 := n11_; have GW106 := n12_; have GE106 := n13_; have NB101_106 := n14_; have NB106_101 := n15_; clear n0_ n1_ n2_ n3_ n4_ n5_ n6_ n7_ n8_ n9_ n10_ n11_ n12_ n13_ n14_ n15_; clear hb hbox hg; have hnb13 := NB106_101.out; have hnc13 := NB101_106.out; have hcz14_0 : w12.cell? ⟨gb106, 0, none⟩ = some (.string (⟨#[]⟩ : ByteArray)) := (blk_cell BK106.out 0).trans rfl; have hcz14_1 : w12.cell? ⟨gb106, 1, none⟩ = some (.slice none 0 0) := (blk_cell BK106.out 1).trans rfl; have hfz14_0 := blk_frozen BK106.out 0; have hfz14_1 := blk_frozen BK106.out 1) | ((with_reducible refine gate_builtin (b := .append) (xs := #[.tmp 18, .tmp 21]) rfl ?_); at_builtin; refine Kd.R_append Kd.string (w0 := w) w.heap.size rfl (.tmp 18) (.tmp 21) 22 9 (.string ⟨#[]⟩) 16 rfl Try.underlying22 info9 rfl (by decide) (by omega) u4 x4_1 ((rd_T35 l0_5 x14_1).f0) [.string ((rd_T35 l0_5 x14_1).f0)] (fun k_ => (w.heap.size ≤ k_)) (fun _ => False) rfl (by first | (go_simp; done) | (go_simp; rfl)) ?aP (fun _ hk => hk.elim) ?aF ?aO ?aB ?aS ?aL ?_; (case aP => exact rfl); (case aB => exact (by repeat (first | (with_reducible first | exact HB.out | apply below_alloc | apply pw_below_drewN | apply below_drew1 | refine below_set ?_ GE101.out | refine below_set ?_ GE106.out) | exact HB.out))); (case aF => exact (fun k_ hk => (Nat.le_trans (below_size (by repeat (first | (with_reducible first | exact HB.out | apply below_alloc | apply pw_below_drewN | apply below_drew1 | refine below_set ?_ GE101.out | refine below_set ?_ GE106.out) | exact HB.out))) hk))); (case aO => exact (by exact Kd.R_mono (Kd.R_far (p := ⟨gb106, 1, none⟩) (Kd.R_far (p := ⟨gb106, 0, none⟩) (Kd.R_types HO_4.out BK106.out (by decide)) (fun _ hk => hk.2) (.string ((rd_T35 l0_5 x14_1).f0))) (fun _ hk => hk.2) (.slice A105_1 ((rd_T35 l0_5 x14_1).f1).length c105_1)) (fun _ hk => hk.1))); (case aS => exact (below_size (by repeat (first | (with_reducible first | exact HB.out | apply below_alloc | apply pw_below_drewN | apply below_drew1 | refine below_set ?_ GE101.out | refine below_set ?_ GE106.out) | exact HB.out)))); (case aL => have := LMc10.out; omega); intro v108 w15 ho hb hg hat; rw [← Ny107.out] at ho; have n0_ := Aside0.mk (Kd.N_afterv (ok := (fun k_ => ((P0_2_ k_ ∨ P0_3_ k_ ∨ P0_4_ k_ ∨ P0_5_ k_) ∨ w.heap.size ≤ k_) ∧ k_ ≠ gb101 ∧ k_ ≠ gb106)) (by exact Kd.N_mono (Kd.N_far (p := ⟨gb106, 1, none⟩) (Kd.N_far (p := ⟨gb106, 0, none⟩) (Kd.N_mono HO_5.out (fun k_ hk => (⟨hk, hk.2⟩ : _ ∧ k_ ≠ gb106))) (fun _ hk => hk.2) (.string ((rd_T35 l0_5 x14_1).f0))) (fun _ hk => hk.2) (.slice A105_1 ((rd_T35 l0_5 x14_1).f1).length c105_1)) (fun _ hk => ⟨⟨hk.1.1.1, ⟨hk.1.1.2.2, hk.1.2⟩⟩, hk.1.1.2.1⟩)) hg hat); have n1_ := Aside0.mk (Kd.V_afterv (ok := (fun k_ => ((P0_2_ k_ ∨ P0_3_ k_ ∨ P0_4_ k_ ∨ P0_5_ k_) ∨ w.heap.size ≤ k_) ∧ some k_ ≠ (u5 : Value).ownBlock ∧ k_ ≠ gb101 ∧ k_ ≠ gb106)) (by exact Kd.V_mono (Kd.V_far (p := ⟨gb106, 1, none⟩) (Kd.V_far (p := ⟨gb106, 0, none⟩) (Kd.V_mono HO_12.out (fun k_ hk => (⟨hk, hk.2⟩ : _ ∧ k_ ≠ gb106))) (fun _ hk => hk.2) (.string ((rd_T35 l0_5 x14_1).f0))) (fun _ hk => hk.2) (.slice A105_1 ((rd_T35 l0_5 x14_1).f1).length c105_1)) (fun _ hk => ⟨⟨hk.1.1.1, ⟨hk.1.1.2.2.1, ⟨hk.1.1.2.2.2, hk.1.2⟩⟩⟩, hk.1.1.2.1⟩)) hg hat); have n2_ := Aside0.mk (Kd.V_afterv (ok := (fun k_ => ((P0_2_ k_ ∨ P0_3_ k_ ∨ P0_4_ k_ ∨ P0_5_ k_) ∨ w.heap.size ≤ k_) ∧ some k_ ≠ (u5 : Value).ownBlock ∧ k_ ≠ gb101 ∧ k_ ≠ gb106)) (by exact Kd.V_mono (Kd.V_far (p := ⟨gb106, 1, none⟩) (Kd.V_far (p := ⟨gb106, 0, none⟩) (Kd.V_mono HO_102002.out (fun k_ hk => (⟨hk, hk.2⟩ : _ ∧ k_ ≠ gb106))) (fun _ hk => hk.2) (.string ((rd_T35 l0_5 x14_1).f0))) (fun _ hk => hk.2) (.slice A105_1 ((rd_T35 l0_5 x14_1).f1).length c105_1)) (fun _ hk => ⟨⟨hk.1.1.1, ⟨hk.1.1.2.2.1, ⟨hk.1.1.2.2.2, hk.1.2⟩⟩⟩, hk.1.1.2.1⟩)) hg hat); have n3_ := Aside0.mk (Kd.V_afterv (ok := (fun k_ => ((P0_2_ k_ ∨ P0_3_ k_ ∨ P0_4_ k_ ∨ P0_5_ k_) ∨ w.heap.size ≤ k_) ∧ some k_ ≠ (u5 : Value).ownBlock ∧ k_ ≠ gb101 ∧ k_ ≠ gb106)) (by exact Kd.V_mono (Kd.V_far (p := ⟨gb106, 1, none⟩) (Kd.V_far (p := ⟨gb106, 0, none⟩) (Kd.V_mono HO_102003.out (fun k_ hk => (⟨hk, hk.2⟩ : _ ∧ k_ ≠ gb106))) (fun _ hk => hk.2) (.string ((rd_T35 l0_5 x14_1).f0))) (fun _ hk => hk.2) (.slice A105_1 ((rd_T35 l0_5 x14_1).f1).length c105_1)) (fun _ hk => ⟨⟨hk.1.1.1, ⟨hk.1.1.2.2.1, ⟨hk.1.1.2.2.2, hk.1.2⟩⟩⟩, hk.1.1.2.1⟩)) hg hat); have n4_ := Aside0.mk (Kd.V_afterv (ok := (fun k_ => ((P0_2_ k_ ∨ P0_3_ k_ ∨ P0_4_ k_ ∨ P0_5_ k_) ∨ w.heap.size ≤ k_) ∧ some k_ ≠ (u5 : Value).ownBlock ∧ k_ ≠ gb101 ∧ k_ ≠ gb106)) (by exact Kd.V_mono (Kd.V_far (p := ⟨gb106, 1, none⟩) (Kd.V_far (p := ⟨gb106, 0, none⟩) (Kd.V_mono HO_102004.out (fun k_ hk => (⟨hk, hk.2⟩ : _ ∧ k_ ≠ gb106))) (fun _ hk => hk.2) (.string ((rd_T35 l0_5 x14_1).f0))) (fun _ hk => hk.2) (.slice A105_1 ((rd_T35 l0_5 x14_1).f1).length c105_1)) (fun _ hk => ⟨⟨hk.1.1.1, ⟨hk.1.1.2.2.1, ⟨hk.1.1.2.2.2, hk.1.2⟩⟩⟩, hk.1.1.2.1⟩)) hg hat); have n5_ := Aside0.mk (Kd.V_afterv (ok := (fun k_ => ((P0_2_ k_ ∨ P0_3_ k_ ∨ P0_4_ k_ ∨ P0_5_ k_) ∨ w.heap.size ≤ k_) ∧ some k_ ≠ (u5 : Value).ownBlock ∧ k_ ≠ gb101 ∧ k_ ≠ gb106)) (by exact Kd.V_mono (Kd.V_far (p := ⟨gb106, 1, none⟩) (Kd.V_far (p := ⟨gb106, 0, none⟩) (Kd.V_mono HO_102005.out (fun k_ hk => (⟨hk, hk.2⟩ : _ ∧ k_ ≠ gb106))) (fun _ hk => hk.2) (.string ((rd_T35 l0_5 x14_1).f0))) (fun _ hk => hk.2) (.slice A105_1 ((rd_T35 l0_5 x14_1).f1).length c105_1)) (fun _ hk => ⟨⟨hk.1.1.1, ⟨hk.1.1.2.2.1, ⟨hk.1.1.2.2.2, hk.1.2⟩⟩⟩, hk.1.1.2.1⟩)) hg hat); have n6_ := Aside0.mk (blk_grown (g := gb101) (o := .cells #[.bool a0_0, .bool a0_1, .slice A0_2 l0_2.length c0_2, .slice A0_3 l0_3.length c0_3, .slice A0_4 l0_4.length c0_4, .slice (some ad105) l0_5.length c0_5, .bool a0_6, .bool a0_7] 25 (0, 0)) (by refine blk_far ?_ NB101_106.out _; refine blk_far ?_ NB101_106.out _; exact BK101.out) hg (Kd.R_ne HO_4.out BK101.out (by decide))); have n7_ := Aside0.mk (Kd.V_afterv (ok := (fun k_ => ((P0_2_ k_ ∨ P0_3_ k_ ∨ P0_4_ k_ ∨ P0_5_ k_) ∨ w.heap.size ≤ k_) ∧ some k_ ≠ (u5 : Value).ownBlock ∧ k_ ≠ gb101 ∧ k_ ≠ gb106)) (by exact Kd.V_mono (Kd.V_far (p := ⟨gb106, 1, none⟩) (Kd.V_far (p := ⟨gb106, 0, none⟩) (Kd.V_mono HL105_1.out (fun k_ hk => (⟨hk, hk.2⟩ : _ ∧ k_ ≠ gb106))) (fun _ hk => hk.2) (.string ((rd_T35 l0_5 x14_1).f0))) (fun _ hk => hk.2) (.slice A105_1 ((rd_T35 l0_5 x14_1).f1).length c105_1)) (fun _ hk => ⟨⟨hk.1.1.1, ⟨hk.1.1.2.2.1, ⟨hk.1.1.2.2.2, hk.1.2⟩⟩⟩, hk.1.1.2.1⟩)) hg hat); have n8_ := Aside0.mk (blk_grown (g := gb106) (o := .cells #[.string ((rd_T35 l0_5 x14_1).f0), .slice A105_1 ((rd_T35 l0_5 x14_1).f1).length c105_1] 35 (0, 0)) (by refine blk_put (cs := #[.string ((rd_T35 l0_5 x14_1).f0), .slice none 0 0]) ?_ 1 _ rfl; refine blk_put (cs := #[.string (⟨#[]⟩ : ByteArray), .slice none 0 0]) ?_ 0 _ rfl; exact BK106.out) hg (Kd.R_ne HO_4.out BK106.out (by decide))); have n9_ := Aside0.mk (hb); have n10_ := Aside0.mk (ho); clear HO_5; clear HO_12; clear HO_102002; clear HO_102003; clear HO_102004; clear HO_102005; clear BK101; clear HL105_1; clear BK106; clear HB; clear HO_4; have HO_5 := n0_; have HO_12 := n1_; have HO_102002 := n2_; have HO_102003 := n3_; have HO_102004 := n4_; have HO_102005 := n5_; have BK101 := n6_; have HL105_1 := n7_; have BK106 := n8_; have HB := n9_; have HO109 := n10_; clear n0_ n1_ n2_ n3_ n4_ n5_ n6_ n7_ n8_ n9_ n10_; clear ho hb hg hat; have hcz16_0 : w15.cell? ⟨gb106, 0, none⟩ = some (.string ((rd_T35 l0_5 x14_1).f0)) := (blk_cell BK106.out 0).trans rfl; have hcz16_1 : w15.cell? ⟨gb106, 1, none⟩ = some (.slice A105_1 ((rd_T35 l0_5 x14_1).f1).length c105_1) := (blk_cell BK106.out 1).trans rfl; have hfz16_0 := blk_frozen BK106.out 0; have hfz16_1 := blk_frozen BK106.out 1) | ((with_reducible refine gate_builtin (b := .append) (xs := #[.tmp 23, .tmp 26]) rfl ?_); at_builtin; refine Kd.N_append (Kd.slice 9 Kd.string) (w0 := w) w.heap.size rfl (.tmp 23) (.tmp 26) 47 22 (.slice none 0 0) 24 rfl Try.underlying47 info22 rfl (by decide) (by omega) u5 x5_1 ((rd_T35 l0_5 x14_1).f1) [.slice A105_1 ((rd_T35 l0_5 x14_1).f1).length c105_1] (fun k_ => ((P0_2_ k_ ∨ P0_3_ k_ ∨ P0_4_ k_ ∨ P0_5_ k_) ∨ w.heap.size ≤ k_) ∧ some k_ ≠ (v108 : Value).ownBlock ∧ k_ ≠ gb101 ∧ k_ ≠ gb106) (fun k_ => ((fun k_ => ((P0_2_ k_ ∨ P0_3_ k_ ∨ P0_4_ k_ ∨ P0_5_ k_) ∨ w.heap.size ≤ k_) ∧ some k_ ≠ (v108 : Value).ownBlock ∧ k_ ≠ gb101 ∧ k_ ≠ gb106)) k_ ∧ some k_ ≠ (u5 : Value).ownBlock) rfl rfl ?aP (fun _ hk => hk) ?aF ?aO ?aB ?aS ?aL ?_; (case aP => exact (Kd.FK_slice_mk (Kd.V_reads' (Kd.V_mono (ok' := (fun k_ => ((fun k_ => ((P0_2_ k_ ∨ P0_3_ k_ ∨ P0_4_ k_ ∨ P0_5_ k_) ∨ w.heap.size ≤ k_) ∧ some k_ ≠ (v108 : Value).ownBlock ∧ k_ ≠ gb101 ∧ k_ ≠ gb106)) k_ ∧ some k_ ≠ (u5 : Value).ownBlock)) (HL105_1.out) (fun k_ hk => ⟨⟨hk.1.1, ⟨hk.2, ⟨hk.1.2.2.1, hk.1.2.2.2⟩⟩⟩, hk.1.2.1⟩))).2.1 (Kd.V_F (Kd.V_mono (ok' := (fun k_ => ((fun k_ => ((P0_2_ k_ ∨ P0_3_ k_ ∨ P0_4_ k_ ∨ P0_5_ k_) ∨ w.heap.size ≤ k_) ∧ some k_ ≠ (v108 : Value).ownBlock ∧ k_ ≠ gb101 ∧ k_ ≠ gb106)) k_ ∧ some k_ ≠ (u5 : Value).ownBlock)) (HL105_1.out) (fun k_ hk => ⟨⟨hk.1.1, ⟨hk.2, ⟨hk.1.2.2.1, hk.1.2.2.2⟩⟩⟩, hk.1.2.1⟩))))); (case aB => exact (by repeat (first | (with_reducible first | exact HB.out | apply below_alloc | apply pw_below_drewN | apply below_drew1 | refine below_set ?_ GE101.out | refine below_set ?_ GE106.out) | exact HB.out))); (case aF => exact (fun k_ hk => ⟨(.inr (Nat.le_trans (below_size (by repeat (first | (with_reducible first | exact HB.out | apply below_alloc | apply pw_below_drewN | apply below_drew1 | refine below_set ?_ GE101.out | refine below_set ?_ GE106.out) | exact HB.out))) hk)), Kd.fresh' (Kd.R_lt (by exact HO109.out)) k_ hk, Kd.freshB (g := gb101) (o := .cells #[.bool a0_0, .bool a0_1, .slice A0_2 l0_2.length c0_2, .slice A0_3 l0_3.length c0_3, .slice A0_4 l0_4.length c0_4, .slice (some ad105) l0_5.length c0_5, .bool a0_6, .bool a0_7] 25 (0, 0)) (by exact BK101.out) k_ hk, Kd.freshB (g := gb106) (o := .cells #[.string ((rd_T35 l0_5 x14_1).f0), .slice A105_1 ((rd_T35 l0_5 x14_1).f1).length c105_1] 35 (0, 0)) (by exact BK106.out) k_ hk⟩)); (case aO => exact (by exact Kd.N_mono HO_5.out (fun _ hk => ⟨hk.1.1, ⟨hk.2, ⟨hk.1.2.1, hk.1.2.2⟩⟩⟩))); (case aS => exact (below_size (by repeat (first | (with_reducible first | exact HB.out | apply below_alloc | apply pw_below_drewN | apply below_drew1 | refine below_set ?_ GE101.out | refine below_set ?_ GE106.out) | exact HB.out)))); (case aL => have := LMc11.out; omega); intro v111 w17 ho hb hg hat; rw [← Ny110.out] at ho; have n0_ := Aside0.mk (Kd.V_afterv (ok := (fun k_ => ((P0_2_ k_ ∨ P0_3_ k_ ∨ P0_4_ k_ ∨ P0_5_ k_) ∨ w.heap.size ≤ k_) ∧ some k_ ≠ (v108 : Value).ownBlock ∧ k_ ≠ gb101 ∧ k_ ≠ gb106)) (by exact Kd.V_mono HO_12.out (fun _ hk => ⟨⟨hk.1.1, ⟨hk.2, ⟨hk.1.2.2.1, hk.1.2.2.2⟩⟩⟩, hk.1.2.1⟩)) hg hat); have n1_ := Aside0.mk (Kd.V_afterv (ok := (fun k_ => ((P0_2_ k_ ∨ P0_3_ k_ ∨ P0_4_ k_ ∨ P0_5_ k_) ∨ w.heap.size ≤ k_) ∧ some k_ ≠ (v108 : Value).ownBlock ∧ k_ ≠ gb101 ∧ k_ ≠ gb106)) (by exact Kd.V_mono HO_102002.out (fun _ hk => ⟨⟨hk.1.1, ⟨hk.2, ⟨hk.1.2.2.1, hk.1.2.2.2⟩⟩⟩, hk.1.2.1⟩)) hg hat); have n2_ := Aside0.mk (Kd.V_afterv (ok := (fun k_ => ((P0_2_ k_ ∨ P0_3_ k_ ∨ P0_4_ k_ ∨ P0_5_ k_) ∨ w.heap.size ≤ k_) ∧ some k_ ≠ (v108 : Value).ownBlock ∧ k_ ≠ gb101 ∧ k_ ≠ gb106)) (by exact Kd.V_mono HO_102003.out (fun _ hk => ⟨⟨hk.1.1, ⟨hk.2, ⟨hk.1.2.2.1, hk.1.2.2.2⟩⟩⟩, hk.1.2.1⟩)) hg hat); have n3_ := Aside0.mk (Kd.V_afterv (ok := (fun k_ => ((P0_2_ k_ ∨ P0_3_ k_ ∨ P0_4_ k_ ∨ P0_5_ k_) ∨ w.heap.size ≤ k_) ∧ some k_ ≠ (v108 : Value).ownBlock ∧ k_ ≠ gb101 ∧ k_ ≠ gb106)) (by exact Kd.V_mono HO_102004.out (fun _ hk => ⟨⟨hk.1.1, ⟨hk.2, ⟨hk.1.2.2.1, hk.1.2.2.2⟩⟩⟩, hk.1.2.1⟩)) hg hat); have n4_ := Aside0.mk (Kd.V_afterv (ok := (fun k_ => ((P0_2_ k_ ∨ P0_3_ k_ ∨ P0_4_ k_ ∨ P0_5_ k_) ∨ w.heap.size ≤ k_) ∧ some k_ ≠ (v108 : Value).ownBlock ∧ k_ ≠ gb101 ∧ k_ ≠ gb106)) (by exact Kd.V_mono HO_102005.out (fun _ hk => ⟨⟨hk.1.1, ⟨hk.2, ⟨hk.1.2.2.1, hk.1.2.2.2⟩⟩⟩, hk.1.2.1⟩)) hg hat); have n5_ := Aside0.mk (blk_grown (g := gb101) (o := .cells #[.bool a0_0, .bool a0_1, .slice A0_2 l0_2.length c0_2, .slice A0_3 l0_3.length c0_3, .slice A0_4 l0_4.length c0_4, .slice (some ad105) l0_5.length c0_5, .bool a0_6, .bool a0_7] 25 (0, 0)) (by exact BK101.out) hg (Kd.N_ne HO_5.out BK101.out (by decide))); have n6_ := Aside0.mk (Kd.V_afterv (ok := (fun k_ => ((P0_2_ k_ ∨ P0_3_ k_ ∨ P0_4_ k_ ∨ P0_5_ k_) ∨ w.heap.size ≤ k_) ∧ some k_ ≠ (v108 : Value).ownBlock ∧ k_ ≠ gb101 ∧ k_ ≠ gb106)) (by exact Kd.V_mono HL105_1.out (fun _ hk => ⟨⟨hk.1.1, ⟨hk.2, ⟨hk.1.2.2.1, hk.1.2.2.2⟩⟩⟩, hk.1.2.1⟩)) hg hat); have n7_ := Aside0.mk (blk_grown (g := gb106) (o := .cells #[.string ((rd_T35 l0_5 x14_1).f0), .slice A105_1 ((rd_T35 l0_5 x14_1).f1).length c105_1] 35 (0, 0)) (by exact BK106.out) hg (Kd.N_ne HO_5.out BK106.out (by decide))); have n8_ := Aside0.mk (Kd.R_over' (by exact HO109.out) (Kd.N_typed (by exact HO_5.out)) (by decide) hg); have n9_ := Aside0.mk (hb); have n10_ := Aside0.mk (ho); clear HO_12; clear HO_102002; clear HO_102003; clear HO_102004; clear HO_102005; clear BK101; clear HL105_1; clear BK106; clear HO109; clear HB; clear HO_5; have HO_12 := n0_; have HO_102002 := n1_; have HO_102003 := n2_; have HO_102004 := n3_; have HO_102005 := n4_; have BK101 := n5_; have HL105_1 := n6_; have BK106 := n7_; have HO109 := n8_; have HB := n9_; have HO112 := n10_; clear n0_ n1_ n2_ n3_ n4_ n5_ n6_ n7_ n8_ n9_ n10_; clear ho hb hg hat))
        go_roundg k1
        case measure => have := HK1.out; omega
        case rel => exact ⟨(y107), (y110), (wrap64 (x14_1 + 1)), (by first | rfl | (simp; done) | (simp [*]; done)), H', ⟨by have := HK1.out; omega⟩, ⟨by exact HO109.out⟩, ⟨by exact Kd.N_mono HO112.out (fun _ hk => ⟨hk.1, ⟨hk.2.1, hk.2.2.1⟩⟩)⟩, ⟨by exact Kd.V_mono HO_12.out (fun _ hk => ⟨hk.1.1, ⟨hk.1.2.1, ⟨hk.2, hk.1.2.2.1⟩⟩⟩)⟩, ⟨by exact Kd.V_mono HO_102002.out (fun _ hk => ⟨hk.1.1, ⟨hk.1.2.1, ⟨hk.2, hk.1.2.2.1⟩⟩⟩)⟩, ⟨by exact Kd.V_mono HO_102003.out (fun _ hk => ⟨hk.1.1, ⟨hk.1.2.1, ⟨hk.2, hk.1.2.2.1⟩⟩⟩)⟩, ⟨by exact Kd.V_mono HO_102004.out (fun _ hk => ⟨hk.1.1, ⟨hk.1.2.1, ⟨hk.2, hk.1.2.2.1⟩⟩⟩)⟩, ⟨by exact Kd.V_mono HO_102005.out (fun _ hk => ⟨hk.1.1, ⟨hk.1.2.1, ⟨hk.2, hk.1.2.2.1⟩⟩⟩)⟩, ⟨by exact BK101.out⟩, ⟨by repeat (first | (with_reducible first | exact HB.out | apply below_alloc | apply pw_below_drewN | apply below_drew1 | refine below_set ?_ GE101.out | refine below_set ?_ GE106.out) | exact HB.out)⟩⟩
       ·rw [if_neg c11] at H
        exact absurd H (by simp)
      ·rw [if_neg c10] at H
       exact absurd H (by simp)
     ·rw [if_neg c9] at H
      exact absurd H (by simp)
    ·rw [if_neg c8] at H
     exact absurd H (by simp)
   ·rw [if_neg c7] at H
    have c7b0 : decide (x14_1 < (l0_5.length : Int)) = false := decide_eq_false c7
    clear c7
    obtain ⟨y113, hy113⟩ : ∃ y_ : List (List ByteArray), y_ = (([l0_2, l0_3, x4_1] : List (List ByteArray))) := ⟨_, rfl⟩
    replace H : (some (y113, x5_1)) = some (r1, r2) := by first | (rw [hy113]; with_reducible exact H) | (have H2_ := (Option.bind_some _ _).symm.trans H; rw [hy113]; with_reducible exact H2_) | (have H2_ := (Option.bind_some _ _).symm.trans H; with_reducible exact H2_) | with_reducible exact H | (rw [hy113]; exact H) | exact H
    have Ny113 := Aside0.mk hy113
    clear hy113
    simp only [Option.some.injEq, Prod.mk.injEq] at H
    obtain ⟨rfl, rfl⟩ := H
    have hcz18_0 : wr.cell? ⟨gb101, 0, none⟩ = some (.bool a0_0) := (blk_cell BK101.out 0).trans rfl
    have hcz18_1 : wr.cell? ⟨gb101, 1, none⟩ = some (.bool a0_1) := (blk_cell BK101.out 1).trans rfl
    have hcz18_2 : wr.cell? ⟨gb101, 2, none⟩ = some (.slice A0_2 l0_2.length c0_2) := (blk_cell BK101.out 2).trans rfl
    have hcz18_3 : wr.cell? ⟨gb101, 3, none⟩ = some (.slice A0_3 l0_3.length c0_3) := (blk_cell BK101.out 3).trans rfl
    have hcz18_4 : wr.cell? ⟨gb101, 4, none⟩ = some (.slice A0_4 l0_4.length c0_4) := (blk_cell BK101.out 4).trans rfl
    have hcz18_5 : wr.cell? ⟨gb101, 5, none⟩ = some (.slice A0_5 l0_5.length c0_5) := (blk_cell BK101.out 5).trans rfl
    have hcz18_6 : wr.cell? ⟨gb101, 6, none⟩ = some (.bool a0_6) := (blk_cell BK101.out 6).trans rfl
    have hcz18_7 : wr.cell? ⟨gb101, 7, none⟩ = some (.bool a0_7) := (blk_cell BK101.out 7).trans rfl
    have hfz18_0 := blk_frozen BK101.out 0
    have hfz18_1 := blk_frozen BK101.out 1
    have hfz18_2 := blk_frozen BK101.out 2
    have hfz18_3 := blk_frozen BK101.out 3
    have hfz18_4 := blk_frozen BK101.out 4
    have hfz18_5 := blk_frozen BK101.out 5
    have hfz18_6 := blk_frozen BK101.out 6
    have hfz18_7 := blk_frozen BK101.out 7
    obtain ⟨Ao19, co19, eo19⟩ := Kd.R_slice HO_4.out
    subst eo19
    go_wp2_with (first | ((with_reducible refine gate_dst (N := 34) rfl ?_); refine Kd.N_lit (Kd.slice 9 Kd.string) _ 22 ?hg (N' := 34) ?hd (xs := ([l0_2, l0_3, x4_1] : List (List ByteArray))) (inner := [.slice A0_2 l0_2.length c0_2, .slice A0_3 l0_3.length c0_3, .slice Ao19 x4_1.length co19]) (ok := (fun k_ => ((P0_2_ k_ ∨ P0_3_ k_ ∨ P0_4_ k_ ∨ P0_5_ k_) ∨ w.heap.size ≤ k_) ∧ some k_ ≠ (u5 : Value).ownBlock ∧ k_ ≠ gb101)) (okp := (fun k_ => ((P0_2_ k_ ∨ P0_3_ k_ ∨ P0_4_ k_ ∨ P0_5_ k_) ∨ w.heap.size ≤ k_) ∧ some k_ ≠ (u5 : Value).ownBlock ∧ k_ ≠ gb101)) ?hr ?hp (fun _ hk => hk) ((show ∀ k_, wr.heap.size ≤ k_ → (fun k_ => ((P0_2_ k_ ∨ P0_3_ k_ ∨ P0_4_ k_ ∨ P0_5_ k_) ∨ w.heap.size ≤ k_) ∧ some k_ ≠ (u5 : Value).ownBlock ∧ k_ ≠ gb101) k_ from fun k_ hk => ⟨(.inr (Nat.le_trans (below_size (by repeat (first | (with_reducible first | exact HB.out | apply below_alloc | apply pw_below_drewN | apply below_drew1 | refine below_set ?_ GE101.out) | exact HB.out))) hk)), Kd.fresh' (Kd.N_lt (by exact HO_5.out)) k_ hk, Kd.freshB (g := gb101) (o := .cells #[.bool a0_0, .bool a0_1, .slice A0_2 l0_2.length c0_2, .slice A0_3 l0_3.length c0_3, .slice A0_4 l0_4.length c0_4, .slice A0_5 l0_5.length c0_5, .bool a0_6, .bool a0_7] 25 (0, 0)) (by exact BK101.out) k_ hk⟩) _ (Nat.le_refl _)) (Below.refl _ _) (Nat.le_refl _) (by simp) ?_; (case hd => rfl); (case hg => rfl); (case hr => first | (go_simp; done) | (go_simp; rfl)); (case hp => exact (Reps.one (show Kd.FK (Kd.slice 9 Kd.string) _ _ l0_2 [.slice A0_2 l0_2.length c0_2] from (Kd.FK_slice_mk (Kd.V_reads' (Kd.V_mono (ok' := (fun k_ => ((P0_2_ k_ ∨ P0_3_ k_ ∨ P0_4_ k_ ∨ P0_5_ k_) ∨ w.heap.size ≤ k_) ∧ some k_ ≠ (u5 : Value).ownBlock ∧ k_ ≠ gb101)) (HO_102002.out) (fun k_ hk => ⟨hk.1, ⟨hk.2.2.1, hk.2.2.2⟩⟩))).2.1 (Kd.V_F (Kd.V_mono (ok' := (fun k_ => ((P0_2_ k_ ∨ P0_3_ k_ ∨ P0_4_ k_ ∨ P0_5_ k_) ∨ w.heap.size ≤ k_) ∧ some k_ ≠ (u5 : Value).ownBlock ∧ k_ ≠ gb101)) (HO_102002.out) (fun k_ hk => ⟨hk.1, ⟨hk.2.2.1, hk.2.2.2⟩⟩))))) (Reps.one (show Kd.FK (Kd.slice 9 Kd.string) _ _ l0_3 [.slice A0_3 l0_3.length c0_3] from (Kd.FK_slice_mk (Kd.V_reads' (Kd.V_mono (ok' := (fun k_ => ((P0_2_ k_ ∨ P0_3_ k_ ∨ P0_4_ k_ ∨ P0_5_ k_) ∨ w.heap.size ≤ k_) ∧ some k_ ≠ (u5 : Value).ownBlock ∧ k_ ≠ gb101)) (HO_102003.out) (fun k_ hk => ⟨hk.1, ⟨hk.2.2.1, hk.2.2.2⟩⟩))).2.1 (Kd.V_F (Kd.V_mono (ok' := (fun k_ => ((P0_2_ k_ ∨ P0_3_ k_ ∨ P0_4_ k_ ∨ P0_5_ k_) ∨ w.heap.size ≤ k_) ∧ some k_ ≠ (u5 : Value).ownBlock ∧ k_ ≠ gb101)) (HO_102003.out) (fun k_ hk => ⟨hk.1, ⟨hk.2.2.1, hk.2.2.2⟩⟩))))) (Reps.one (show Kd.FK (Kd.slice 9 Kd.string) _ _ x4_1 [.slice Ao19 x4_1.length co19] from (Kd.FK_slice_mk (Kd.R_reads' (Kd.R_mono (ok' := (fun k_ => ((P0_2_ k_ ∨ P0_3_ k_ ∨ P0_4_ k_ ∨ P0_5_ k_) ∨ w.heap.size ≤ k_) ∧ some k_ ≠ (u5 : Value).ownBlock ∧ k_ ≠ gb101)) (Kd.R_types (Kd.R_apart' (HO_4.out) (Kd.N_typed HO_5.out) (by decide)) BK101.out (by decide)) (fun k_ hk => ⟨(.inr (hk.1.1)), ⟨hk.1.2, hk.2⟩⟩))).2.1 (Kd.R_F (Kd.R_mono (ok' := (fun k_ => ((P0_2_ k_ ∨ P0_3_ k_ ∨ P0_4_ k_ ∨ P0_5_ k_) ∨ w.heap.size ≤ k_) ∧ some k_ ≠ (u5 : Value).ownBlock ∧ k_ ≠ gb101)) (Kd.R_types (Kd.R_apart' (HO_4.out) (Kd.N_typed HO_5.out) (by decide)) BK101.out (by decide)) (fun k_ hk => ⟨(.inr (hk.1.1)), ⟨hk.1.2, hk.2⟩⟩))))) (Reps.none _ _))))); intro v114 w20 ho21 hb hg_ hnew_; clear hg_ hnew_; (first | rw [← Ny113.out] at ho21 | (simp only [Int.reduceToNat] at ho21; rw [← Ny113.out] at ho21)); have n0_ := Aside0.mk (Kd.N_elder' (by exact HO_5.out) (Kd.N_base ho21) hb); have n1_ := Aside0.mk (Kd.V_elder' (by exact HO_12.out) (Kd.N_base ho21) hb); have n2_ := Aside0.mk (Kd.V_elder' (by exact HO_102002.out) (Kd.N_base ho21) hb); have n3_ := Aside0.mk (Kd.V_elder' (by exact HO_102003.out) (Kd.N_base ho21) hb); have n4_ := Aside0.mk (Kd.V_elder' (by exact HO_102004.out) (Kd.N_base ho21) hb); have n5_ := Aside0.mk (Kd.V_elder' (by exact HO_102005.out) (Kd.N_base ho21) hb); have n6_ := Aside0.mk (Kd.N_lower ho21 (below_size (by repeat (first | (with_reducible first | exact HB.out | apply below_alloc | apply pw_below_drewN | apply below_drew1 | refine below_set ?_ GE101.out) | exact HB.out)))); have n7_ := Aside0.mk (blk_below (g := gb101) (o := .cells #[.bool a0_0, .bool a0_1, .slice A0_2 l0_2.length c0_2, .slice A0_3 l0_3.length c0_3, .slice A0_4 l0_4.length c0_4, .slice A0_5 l0_5.length c0_5, .bool a0_6, .bool a0_7] 25 (0, 0)) (by exact BK101.out) hb); have n8_ := Aside0.mk (below_step (by repeat (first | (with_reducible first | exact HB.out | apply below_alloc | apply pw_below_drewN | apply below_drew1 | refine below_set ?_ GE101.out) | exact HB.out)) hb); clear HO_5; clear HO_12; clear HO_102002; clear HO_102003; clear HO_102004; clear HO_102005; clear BK101; clear HB; clear HO_4; have HO_5 := n0_; have HO_12 := n1_; have HO_102002 := n2_; have HO_102003 := n3_; have HO_102004 := n4_; have HO_102005 := n5_; have HO115 := n6_; have BK101 := n7_; have HB := n8_; clear n0_ n1_ n2_ n3_ n4_ n5_ n6_ n7_ n8_; clear hb ho21))
    go_ret2
    exact ⟨_, _, by first | rfl | (simp [errW_none, errW_some] <;> rfl) | (simp [*, errW_none, errW_some] <;> rfl), by exact Kd.N_mono HO115.out (fun _ hk => ⟨hk.1, hk.2.1⟩), by exact Kd.N_mono HO_5.out (fun _ hk => ⟨hk.1.1, hk.2⟩), by repeat (first | (with_reducible first | exact HB.out | apply below_alloc | apply pw_below_drewN | apply below_drew1 | refine below_set ?_ GE101.out) | exact HB.out)⟩

/-! ### config_long: function 42 -/
def config_long.f (l0 : List ByteArray) : Option (Bool) := some (decide ((l0.length : Int) > 64))
set_option maxHeartbeats 8000000 in
set_option maxRecDepth 100000 in
theorem config_long.calls (A0 : Option Addr) (c0 : Nat) (l0 : List ByteArray) (r : Bool) (w : World) (hr0 : Kd.C Kd.string w A0 l0.length l0) (hc0 : l0.length ≤ c0) (h : config_long.f l0 = some r) :
  Calls Try.prog 42 #[.slice A0 l0.length c0] w fun e w' => e = .returned (.bool r) ∧ Drawn0 w w' := by
 have HR0 := Aside0.mk hr0
 have HC0 := Aside0.mk hc0
 clear hr0 hc0
 have H : (some (decide ((l0.length : Int) > 64))) = some r := h
 clear h
 obtain rfl := Option.some.inj H
 go_enter Try.func42, Try.ntmps42
 go_wp2
 go_ret
 exact ⟨by first | rfl | (simp; done) | (simp [*]; done) | (simp; generalize ByteArray.toList _ = l_; cases l_ <;> rfl), by repeat (first | exact Drawn0.refl _ | apply Drawn0.step)⟩

/-! ### config_twice: function 46 -/
def config_twice.f (l0 : List ByteArray) : Option (Bool) := (fold_Sorted.f l0).bind fun t116 => (some ((t116.length : Int) != (l0.length : Int)))
set_option maxHeartbeats 8000000 in
set_option maxRecDepth 100000 in
theorem config_twice.calls (A0 : Option Addr) (c0 : Nat) (l0 : List ByteArray) (r : Bool) (w : World) (hr0 : Kd.C Kd.string w A0 l0.length l0) (hc0 : l0.length ≤ c0) (h : config_twice.f l0 = some r) :
  Calls Try.prog 46 #[.slice A0 l0.length c0] w fun e w' => e = .returned (.bool r) ∧ Below w.heap.size w w' := by
 have HR0 := Aside0.mk hr0
 have HC0 := Aside0.mk hc0
 clear hr0 hc0
 have HB := Aside0.mk (Below.refl w.heap.size w)
 have H : ((fold_Sorted.f l0).bind fun t116 => (some ((t116.length : Int) != (l0.length : Int)))) = some r := h
 clear h
 replace H := Option.bind_eq_some_iff.mp H
 obtain ⟨t116, A20, H⟩ := H
 replace H : (some ((t116.length : Int) != (l0.length : Int))) = some r := H
 have A2 := Aside0.mk A20
 clear A20
 obtain rfl := Option.some.inj H
 go_enter Try.func46, Try.ntmps46
 go_wp2_with (first | ((with_reducible refine gate_callee (f := 52) rfl ?_); refine goesL_ (some 4) rfl rfl Try.func52 (by kernel_rfl) rfl #[.slice A0 l0.length c0] rfl (by (try simp only [List.map_toArray, List.map_cons, List.map_nil]); first | done | rfl | (simp only [List.length_drop, List.length_take]; rfl)) ?_; (with_reducible refine (fold_Sorted.calls _ _ l0 t116 _ ?side1 ?side2 A2.out).mono ?_); (case side1 => repeat (first | exact HR0.out | (with_reducible refine Kd.C_alloc ?_ _) | (with_reducible refine Kd.C_drewN ?_ _) | (with_reducible refine Kd.C_drew ?_))); (case side2 => exact HC0.out); rintro e w3 ⟨v117, rfl, ho0, hb⟩; refine ⟨_, rfl, ?_⟩; have n0_ := Aside0.mk (Kd.R_lower ho0 (below_size (by repeat (first | (with_reducible first | exact HB.out | apply below_alloc | apply pw_below_drewN | apply below_drew1) | exact HB.out)))); have n1_ := Aside0.mk (below_step (by repeat (first | (with_reducible first | exact HB.out | apply below_alloc | apply pw_below_drewN | apply below_drew1) | exact HB.out)) hb); clear HB; have HO118 := n0_; have HB := n1_; clear n0_ n1_; (try clear hb); (try clear hb2); (try clear hk); (try clear hi); (try clear ho0); obtain ⟨Ao4, co4, eo4⟩ := Kd.R_slice HO118.out; subst eo4))
 go_ret
 exact ⟨by first | rfl | (simp [errW_none, errW_some] <;> rfl) | (simp [*, errW_none, errW_some] <;> rfl), by repeat (first | (with_reducible first | exact HB.out | apply below_alloc | apply pw_below_drewN | apply below_drew1) | exact HB.out)⟩

/-! ### fold_Space: function 78 -/
def fold_Space.f (a0 : Int) : Option (Bool) := if a0 = 32 then (some true) else (if a0 = 9 then (some true) else (if a0 = 10 then (some true) else (if a0 = 12 then (some true) else (some (a0 == 13)))))
set_option maxHeartbeats 8000000 in
set_option maxRecDepth 100000 in
theorem fold_Space.calls (a0 : Int) (r : Bool) (w : World) (h : fold_Space.f a0 = some r) :
  Calls Try.prog 78 #[.int .u8 a0] w fun e w' => e = .returned (.bool r) ∧ Drawn0 w w' := by
 have H : (if a0 = 32 then (some true) else (if a0 = 9 then (some true) else (if a0 = 10 then (some true) else (if a0 = 12 then (some true) else (some (a0 == 13)))))) = some r := h
 clear h
 by_cases c2 : a0 = 32
 ·rw [if_pos c2] at H
  have c2b0 : (a0 == 32) = true := beq_iff_eq.mpr c2
  have c2b1 : (a0 != 32) = false := bne_eq_false_iff_eq.mpr c2
  clear c2
  obtain rfl := Option.some.inj H
  go_enter Try.func78, Try.ntmps78
  go_wp2
  go_ret
  exact ⟨by first | rfl | (simp; done) | (simp [*]; done) | (simp; generalize ByteArray.toList _ = l_; cases l_ <;> rfl), by repeat (first | exact Drawn0.refl _ | apply Drawn0.step)⟩
 ·rw [if_neg c2] at H
  have c2b0 : (a0 == 32) = false := beq_eq_false_iff_ne.mpr c2
  have c2b1 : (a0 != 32) = true := bne_iff_ne.mpr c2
  by_cases c3 : a0 = 9
  ·rw [if_pos c3] at H
   have c3b0 : (a0 == 9) = true := beq_iff_eq.mpr c3
   have c3b1 : (a0 != 9) = false := bne_eq_false_iff_eq.mpr c3
   clear c3
   obtain rfl := Option.some.inj H
   go_enter Try.func78, Try.ntmps78
   go_wp2
   go_ret
   exact ⟨by first | rfl | (simp; done) | (simp [*]; done) | (simp; generalize ByteArray.toList _ = l_; cases l_ <;> rfl), by repeat (first | exact Drawn0.refl _ | apply Drawn0.step)⟩
  ·rw [if_neg c3] at H
   have c3b0 : (a0 == 9) = false := beq_eq_false_iff_ne.mpr c3
   have c3b1 : (a0 != 9) = true := bne_iff_ne.mpr c3
   by_cases c4 : a0 = 10
   ·rw [if_pos c4] at H
    have c4b0 : (a0 == 10) = true := beq_iff_eq.mpr c4
    have c4b1 : (a0 != 10) = false := bne_eq_false_iff_eq.mpr c4
    clear c4
    obtain rfl := Option.some.inj H
    go_enter Try.func78, Try.ntmps78
    go_wp2
    go_ret
    exact ⟨by first | rfl | (simp; done) | (simp [*]; done) | (simp; generalize ByteArray.toList _ = l_; cases l_ <;> rfl), by repeat (first | exact Drawn0.refl _ | apply Drawn0.step)⟩
   ·rw [if_neg c4] at H
    have c4b0 : (a0 == 10) = false := beq_eq_false_iff_ne.mpr c4
    have c4b1 : (a0 != 10) = true := bne_iff_ne.mpr c4
    by_cases c5 : a0 = 12
    ·rw [if_pos c5] at H
     have c5b0 : (a0 == 12) = true := beq_iff_eq.mpr c5
     have c5b1 : (a0 != 12) = false := bne_eq_false_iff_eq.mpr c5
     clear c5
     obtain rfl := Option.some.inj H
     go_enter Try.func78, Try.ntmps78
     go_wp2
     go_ret
     exact ⟨by first | rfl | (simp; done) | (simp [*]; done) | (simp; generalize ByteArray.toList _ = l_; cases l_ <;> rfl), by repeat (first | exact Drawn0.refl _ | apply Drawn0.step)⟩
    ·rw [if_neg c5] at H
     have c5b0 : (a0 == 12) = false := beq_eq_false_iff_ne.mpr c5
     have c5b1 : (a0 != 12) = true := bne_iff_ne.mpr c5
     obtain rfl := Option.some.inj H
     go_enter Try.func78, Try.ntmps78
     go_wp2
     go_ret
     exact ⟨by first | rfl | (simp; done) | (simp [*]; done) | (simp; generalize ByteArray.toList _ = l_; cases l_ <;> rfl), by repeat (first | exact Drawn0.refl _ | apply Drawn0.step)⟩

/-! ### names_plain: function 70 -/
mutual
def names_plain.l0 : Nat → ByteArray → ByteArray → Int → Int → Option (Bool)
 | 0, _, _, _, _ => none
 | k + 1, x0, x1, x8, x9 => if x9 < x8 then (if 0 ≤ x9 then (if x9 < (x0.size : Int) then ((fold_Space.f (bt x0 x9)).bind fun t119 => (if t119 = true then (names_plain.j1 k x0 x1 x9 x8 x9 true) else (if (bt x0 x9) ≥ 65 then (if (bt x0 x9) ≤ 90 then (names_plain.j1 k x0 x1 x9 x8 x9 true) else (names_plain.j1 k x0 x1 x9 x8 x9 ((bt x0 x9) == 0))) else (names_plain.j1 k x0 x1 x9 x8 x9 ((bt x0 x9) == 0))))) else (none)) else (none)) else (some (x0.toList != ([] : List UInt8)))
def names_plain.j1 : Nat → ByteArray → ByteArray → Int → Int → Int → Bool → Option (Bool)
 | 0, _, _, _, _, _, _ => none
 | k + 1, x0, x1, x5, x8, x9, x33 => if x33 = true then (some false) else (names_plain.l1 k x0 x1 x5 x8 x9 (x1.size : Int) 0)
def names_plain.l1 : Nat → ByteArray → ByteArray → Int → Int → Int → Int → Int → Option (Bool)
 | 0, _, _, _, _, _, _, _ => none
 | k + 1, x0, x1, x5, x8, x9, x35, x36 => if x36 < x35 then (if 0 ≤ x5 then (if x5 < (x0.size : Int) then (if 0 ≤ x36 then (if x36 < (x1.size : Int) then (if (bt x0 x5) = (bt x1 x36) then (some false) else (names_plain.l1 k x0 x1 x5 x8 x9 x35 (wrap64 (x36 + 1)))) else (none)) else (none)) else (none)) else (none)) else (names_plain.l0 k x0 x1 x8 (wrap64 (x9 + 1)))
end
def names_plain.f (k : Nat) (a0 : ByteArray) (a1 : ByteArray) : Option (Bool) := names_plain.l0 k a0 a1 (a0.size : Int) 0
set_option maxHeartbeats 8000000 in
set_option maxRecDepth 100000 in
theorem names_plain.calls (k : Nat) (a0 : ByteArray) (a1 : ByteArray) (r : Bool) (w : World) (h : names_plain.f k a0 a1 = some r) :
  Calls Try.prog 70 #[.string a0, .string a1] w fun e w' => e = .returned (.bool r) ∧ Drawn0 w w' := by
 have H : (names_plain.l0 k a0 a1 (a0.size : Int) 0) = some r := h
 clear h
 have H' := Aside0.mk H
 clear H
 go_enter Try.func70, Try.ntmps70
 go_wp2
 repeat (go_quiet (fail); try go_wp2)
 go_loopg [9] k (fun kq v9 w' => ∃ (x9_1 : Int), v9 = .int .i64 x9_1 ∧ Aside0 (names_plain.l0 kq a0 a1 (a0.size : Int) x9_1 = some r) ∧ Aside0 (kq ≤ k) ∧ Drawn0 w w')
 case atStart => exact ⟨(0), (by first | rfl | (simp; done) | (simp [*]; done)), H', ⟨Nat.le_refl _⟩, by repeat (first | exact Drawn0.refl _ | apply Drawn0.step)⟩
 case round =>
  clear H'
  try clear p2
  obtain ⟨x9_1, rfl, HA, HK1, ⟨m1, rfl⟩⟩ := hrel
  cases gk with
  | zero => exact absurd HA.out (by simp [names_plain.l0])
  | succ k1 =>
   have H := HA.out
   clear HA
   simp only [names_plain.l0] at H
   by_cases c3 : x9_1 < (a0.size : Int)
   ·rw [if_pos c3] at H
    have c3b0 : decide (x9_1 < (a0.size : Int)) = true := decide_eq_true c3
    clear c3
    have HC4 := Aside0.mk H
    clear H
    go_upto_region 4 with (fail)
    repeat (go_quiet (fail); go_upto_region 4 with (fail))
    go_cut [33] (fun v33 wc => ∃ (kq : Nat) (x33_3 : Bool), v33 = .bool x33_3 ∧ Aside0 (names_plain.j1 kq a0 a1 x9_1 (a0.size : Int) x9_1 x33_3 = some r) ∧ Aside0 (kq ≤ k1) ∧ Drawn0 w wc)
    case first =>
     have H := HC4.out
     clear HC4
     by_cases c5 : 0 ≤ x9_1
     ·rw [if_pos c5] at H
      have c5b0 : decide (0 ≤ x9_1) = true := decide_eq_true c5
      clear c5
      (first | rw [c5b0] | (simp only [i64_w, i32_w]; rw [c5b0]) | skip)
      by_cases c6 : x9_1 < (a0.size : Int)
      ·rw [if_pos c6] at H
       have c6b0 : decide (x9_1 < (a0.size : Int)) = true := decide_eq_true c6
       clear c6
       replace H := Option.bind_eq_some_iff.mp H
       obtain ⟨t119, A80, H⟩ := H
       replace H : (if t119 = true then (names_plain.j1 k1 a0 a1 x9_1 (a0.size : Int) x9_1 true) else (if (bt a0 x9_1) ≥ 65 then (if (bt a0 x9_1) ≤ 90 then (names_plain.j1 k1 a0 a1 x9_1 (a0.size : Int) x9_1 true) else (names_plain.j1 k1 a0 a1 x9_1 (a0.size : Int) x9_1 ((bt a0 x9_1) == 0))) else (names_plain.j1 k1 a0 a1 x9_1 (a0.size : Int) x9_1 ((bt a0 x9_1) == 0)))) = some r := H
       have A8 := Aside0.mk A80
       clear A80
       by_cases c9 : t119 = true
       ·subst c9
        have H1 : (names_plain.j1 k1 a0 a1 x9_1 (a0.size : Int) x9_1 true) = some r := by rw [if_pos rfl] at H; exact H
        clear H
        have H := H1
        clear H1
        have H' := Aside0.mk H
        clear H
        have p7 : 0 ≤ (x9_1 : Int) := of_decide_eq_true (by first | (with_reducible assumption) | assumption)
        have q7 : x9_1 < (a0.size : Int) := of_decide_eq_true (by first | (with_reducible assumption) | assumption)
        have hx7 := bt_at a0 x9_1
        replace p7 := eq_true p7
        replace q7 := eq_true q7
        go_wp2_with (first | (go_at_call 78; (with_reducible refine (fold_Space.calls (bt a0 x9_1) true _ A8.out).mono ?_); rintro e w' ⟨rfl, ⟨nd, rfl⟩⟩; (try first | exact ⟨rfl, _, World.drewN_drewN _ _ _⟩ | exact ⟨rfl, _, Eq.trans (World.drewN_drewN _ _ _) (congrArg (World.drewN _) (Nat.add_assoc _ _ _))⟩)))
        repeat (go_quiet (first | (go_at_call 78; (with_reducible refine (fold_Space.calls (bt a0 x9_1) true _ A8.out).mono ?_); rintro e w' ⟨rfl, ⟨nd, rfl⟩⟩; (try first | exact ⟨rfl, _, World.drewN_drewN _ _ _⟩ | exact ⟨rfl, _, Eq.trans (World.drewN_drewN _ _ _) (congrArg (World.drewN _) (Nat.add_assoc _ _ _))⟩))); try go_wp2_with (first | (go_at_call 78; (with_reducible refine (fold_Space.calls (bt a0 x9_1) true _ A8.out).mono ?_); rintro e w' ⟨rfl, ⟨nd, rfl⟩⟩; (try first | exact ⟨rfl, _, World.drewN_drewN _ _ _⟩ | exact ⟨rfl, _, Eq.trans (World.drewN_drewN _ _ _) (congrArg (World.drewN _) (Nat.add_assoc _ _ _))⟩))))
        go_meet
        case rel => exact ⟨_, (true), (by first | rfl | (simp; done) | (simp [*]; done)), H', ⟨by have := HK1.out; first | omega | exact Nat.le_refl _⟩, by repeat (first | exact Drawn0.refl _ | apply Drawn0.step)⟩
       ·replace c9 := Bool.eq_false_iff.mpr c9
        subst c9
        have H1 : (if (bt a0 x9_1) ≥ 65 then (if (bt a0 x9_1) ≤ 90 then (names_plain.j1 k1 a0 a1 x9_1 (a0.size : Int) x9_1 true) else (names_plain.j1 k1 a0 a1 x9_1 (a0.size : Int) x9_1 ((bt a0 x9_1) == 0))) else (names_plain.j1 k1 a0 a1 x9_1 (a0.size : Int) x9_1 ((bt a0 x9_1) == 0))) = some r := by rw [if_neg (show ¬ (false = true) by decide)] at H; exact H
        clear H
        have H := H1
        clear H1
        by_cases c11 : (bt a0 x9_1) ≥ 65
        ·rw [if_pos c11] at H
         have c11b0 : decide (65 ≤ (bt a0 x9_1)) = true := decide_eq_true c11
         clear c11
         by_cases c13 : (bt a0 x9_1) ≤ 90
         ·rw [if_pos c13] at H
          have c13b0 : decide ((bt a0 x9_1) ≤ 90) = true := decide_eq_true c13
          clear c13
          have H' := Aside0.mk H
          clear H
          have p7 : 0 ≤ (x9_1 : Int) := of_decide_eq_true (by first | (with_reducible assumption) | assumption)
          have q7 : x9_1 < (a0.size : Int) := of_decide_eq_true (by first | (with_reducible assumption) | assumption)
          have hx7 := bt_at a0 x9_1
          replace p7 := eq_true p7
          replace q7 := eq_true q7
          go_wp2_with (first | (go_at_call 78; (with_reducible refine (fold_Space.calls (bt a0 x9_1) false _ A8.out).mono ?_); rintro e w' ⟨rfl, ⟨nd, rfl⟩⟩; (try first | exact ⟨rfl, _, World.drewN_drewN _ _ _⟩ | exact ⟨rfl, _, Eq.trans (World.drewN_drewN _ _ _) (congrArg (World.drewN _) (Nat.add_assoc _ _ _))⟩); have p10 : 0 ≤ (x9_1 : Int) := of_decide_eq_true (by first | (with_reducible assumption) | assumption); have q10 : x9_1 < (a0.size : Int) := of_decide_eq_true (by first | (with_reducible assumption) | assumption); have hx10 := bt_at a0 x9_1; replace p10 := eq_true p10; replace q10 := eq_true q10; have p12 : 0 ≤ (x9_1 : Int) := of_decide_eq_true (by first | (with_reducible assumption) | assumption); have q12 : x9_1 < (a0.size : Int) := of_decide_eq_true (by first | (with_reducible assumption) | assumption); have hx12 := bt_at a0 x9_1; replace p12 := eq_true p12; replace q12 := eq_true q12))
          repeat (go_quiet (first | (go_at_call 78; (with_reducible refine (fold_Space.calls (bt a0 x9_1) false _ A8.out).mono ?_); rintro e w' ⟨rfl, ⟨nd, rfl⟩⟩; (try first | exact ⟨rfl, _, World.drewN_drewN _ _ _⟩ | exact ⟨rfl, _, Eq.trans (World.drewN_drewN _ _ _) (congrArg (World.drewN _) (Nat.add_assoc _ _ _))⟩); have p10 : 0 ≤ (x9_1 : Int) := of_decide_eq_true (by first | (with_reducible assumption) | assumption); have q10 : x9_1 < (a0.size : Int) := of_decide_eq_true (by first | (with_reducible assumption) | assumption); have hx10 := bt_at a0 x9_1; replace p10 := eq_true p10; replace q10 := eq_true q10; have p12 : 0 ≤ (x9_1 : Int) := of_decide_eq_true (by first | (with_reducible assumption) | assumption); have q12 : x9_1 < (a0.size : Int) := of_decide_eq_true (by first | (with_reducible assumption) | assumption); have hx12 := bt_at a0 x9_1; replace p12 := eq_true p12; replace q12 := eq_true q12)); try go_wp2_with (first | (go_at_call 78; (with_reducible refine (fold_Space.calls (bt a0 x9_1) false _ A8.out).mono ?_); rintro e w' ⟨rfl, ⟨nd, rfl⟩⟩; (try first | exact ⟨rfl, _, World.drewN_drewN _ _ _⟩ | exact ⟨rfl, _, Eq.trans (World.drewN_drewN _ _ _) (congrArg (World.drewN _) (Nat.add_assoc _ _ _))⟩); have p10 : 0 ≤ (x9_1 : Int) := of_decide_eq_true (by first | (with_reducible assumption) | assumption); have q10 : x9_1 < (a0.size : Int) := of_decide_eq_true (by first | (with_reducible assumption) | assumption); have hx10 := bt_at a0 x9_1; replace p10 := eq_true p10; replace q10 := eq_true q10; have p12 : 0 ≤ (x9_1 : Int) := of_decide_eq_true (by first | (with_reducible assumption) | assumption); have q12 : x9_1 < (a0.size : Int) := of_decide_eq_true (by first | (with_reducible assumption) | assumption); have hx12 := bt_at a0 x9_1; replace p12 := eq_true p12; replace q12 := eq_true q12)))
          go_meet
          case rel => exact ⟨_, (true), (by first | rfl | (simp; done) | (simp [*]; done)), H', ⟨by have := HK1.out; first | omega | exact Nat.le_refl _⟩, by repeat (first | exact Drawn0.refl _ | apply Drawn0.step)⟩
         ·rw [if_neg c13] at H
          have c13b0 : decide ((bt a0 x9_1) ≤ 90) = false := decide_eq_false c13
          clear c13
          have H' := Aside0.mk H
          clear H
          have p7 : 0 ≤ (x9_1 : Int) := of_decide_eq_true (by first | (with_reducible assumption) | assumption)
          have q7 : x9_1 < (a0.size : Int) := of_decide_eq_true (by first | (with_reducible assumption) | assumption)
          have hx7 := bt_at a0 x9_1
          replace p7 := eq_true p7
          replace q7 := eq_true q7
          go_wp2_with (first | (go_at_call 78; (with_reducible refine (fold_Space.calls (bt a0 x9_1) false _ A8.out).mono ?_); rintro e w' ⟨rfl, ⟨nd, rfl⟩⟩; (try first | exact ⟨rfl, _, World.drewN_drewN _ _ _⟩ | exact ⟨rfl, _, Eq.trans (World.drewN_drewN _ _ _) (congrArg (World.drewN _) (Nat.add_assoc _ _ _))⟩); have p10 : 0 ≤ (x9_1 : Int) := of_decide_eq_true (by first | (with_reducible assumption) | assumption); have q10 : x9_1 < (a0.size : Int) := of_decide_eq_true (by first | (with_reducible assumption) | assumption); have hx10 := bt_at a0 x9_1; replace p10 := eq_true p10; replace q10 := eq_true q10; have p12 : 0 ≤ (x9_1 : Int) := of_decide_eq_true (by first | (with_reducible assumption) | assumption); have q12 : x9_1 < (a0.size : Int) := of_decide_eq_true (by first | (with_reducible assumption) | assumption); have hx12 := bt_at a0 x9_1; replace p12 := eq_true p12; replace q12 := eq_true q12; have p14 : 0 ≤ (x9_1 : Int) := of_decide_eq_true (by first | (with_reducible assumption) | assumption); have q14 : x9_1 < (a0.size : Int) := of_decide_eq_true (by first | (with_reducible assumption) | assumption); have hx14 := bt_at a0 x9_1; replace p14 := eq_true p14; replace q14 := eq_true q14))
          repeat (go_quiet (first | (go_at_call 78; (with_reducible refine (fold_Space.calls (bt a0 x9_1) false _ A8.out).mono ?_); rintro e w' ⟨rfl, ⟨nd, rfl⟩⟩; (try first | exact ⟨rfl, _, World.drewN_drewN _ _ _⟩ | exact ⟨rfl, _, Eq.trans (World.drewN_drewN _ _ _) (congrArg (World.drewN _) (Nat.add_assoc _ _ _))⟩); have p10 : 0 ≤ (x9_1 : Int) := of_decide_eq_true (by first | (with_reducible assumption) | assumption); have q10 : x9_1 < (a0.size : Int) := of_decide_eq_true (by first | (with_reducible assumption) | assumption); have hx10 := bt_at a0 x9_1; replace p10 := eq_true p10; replace q10 := eq_true q10; have p12 : 0 ≤ (x9_1 : Int) := of_decide_eq_true (by first | (with_reducible assumption) | assumption); have q12 : x9_1 < (a0.size : Int) := of_decide_eq_true (by first | (with_reducible assumption) | assumption); have hx12 := bt_at a0 x9_1; replace p12 := eq_true p12; replace q12 := eq_true q12; have p14 : 0 ≤ (x9_1 : Int) := of_decide_eq_true (by first | (with_reducible assumption) | assumption); have q14 : x9_1 < (a0.size : Int) := of_decide_eq_true (by first | (with_reducible assumption) | assumption); have hx14 := bt_at a0 x9_1; replace p14 := eq_true p14; replace q14 := eq_true q14)); try go_wp2_with (first | (go_at_call 78; (with_reducible refine (fold_Space.calls (bt a0 x9_1) false _ A8.out).mono ?_); rintro e w' ⟨rfl, ⟨nd, rfl⟩⟩; (try first | exact ⟨rfl, _, World.drewN_drewN _ _ _⟩ | exact ⟨rfl, _, Eq.trans (World.drewN_drewN _ _ _) (congrArg (World.drewN _) (Nat.add_assoc _ _ _))⟩); have p10 : 0 ≤ (x9_1 : Int) := of_decide_eq_true (by first | (with_reducible assumption) | assumption); have q10 : x9_1 < (a0.size : Int) := of_decide_eq_true (by first | (with_reducible assumption) | assumption); have hx10 := bt_at a0 x9_1; replace p10 := eq_true p10; replace q10 := eq_true q10; have p12 : 0 ≤ (x9_1 : Int) := of_decide_eq_true (by first | (with_reducible assumption) | assumption); have q12 : x9_1 < (a0.size : Int) := of_decide_eq_true (by first | (with_reducible assumption) | assumption); have hx12 := bt_at a0 x9_1; replace p12 := eq_true p12; replace q12 := eq_true q12; have p14 : 0 ≤ (x9_1 : Int) := of_decide_eq_true (by first | (with_reducible assumption) | assumption); have q14 : x9_1 < (a0.size : Int) := of_decide_eq_true (by first | (with_reducible assumption) | assumption); have hx14 := bt_at a0 x9_1; replace p14 := eq_true p14; replace q14 := eq_true q14)))
          go_meet
          case rel => exact ⟨_, (((bt a0 x9_1) == 0)), (by first | rfl | (simp; done) | (simp [*]; done)), H', ⟨by have := HK1.out; first | omega | exact Nat.le_refl _⟩, by repeat (first | exact Drawn0.refl _ | apply Drawn0.step)⟩
        ·rw [if_neg c11] at H
         have c11b0 : decide (65 ≤ (bt a0 x9_1)) = false := decide_eq_false c11
         clear c11
         have H' := Aside0.mk H
         clear H
         have p7 : 0 ≤ (x9_1 : Int) := of_decide_eq_true (by first | (with_reducible assumption) | assumption)
         have q7 : x9_1 < (a0.size : Int) := of_decide_eq_true (by first | (with_reducible assumption) | assumption)
         have hx7 := bt_at a0 x9_1
         replace p7 := eq_true p7
         replace q7 := eq_true q7
         go_wp2_with (first | (go_at_call 78; (with_reducible refine (fold_Space.calls (bt a0 x9_1) false _ A8.out).mono ?_); rintro e w' ⟨rfl, ⟨nd, rfl⟩⟩; (try first | exact ⟨rfl, _, World.drewN_drewN _ _ _⟩ | exact ⟨rfl, _, Eq.trans (World.drewN_drewN _ _ _) (congrArg (World.drewN _) (Nat.add_assoc _ _ _))⟩); have p10 : 0 ≤ (x9_1 : Int) := of_decide_eq_true (by first | (with_reducible assumption) | assumption); have q10 : x9_1 < (a0.size : Int) := of_decide_eq_true (by first | (with_reducible assumption) | assumption); have hx10 := bt_at a0 x9_1; replace p10 := eq_true p10; replace q10 := eq_true q10; have p15 : 0 ≤ (x9_1 : Int) := of_decide_eq_true (by first | (with_reducible assumption) | assumption); have q15 : x9_1 < (a0.size : Int) := of_decide_eq_true (by first | (with_reducible assumption) | assumption); have hx15 := bt_at a0 x9_1; replace p15 := eq_true p15; replace q15 := eq_true q15))
         repeat (go_quiet (first | (go_at_call 78; (with_reducible refine (fold_Space.calls (bt a0 x9_1) false _ A8.out).mono ?_); rintro e w' ⟨rfl, ⟨nd, rfl⟩⟩; (try first | exact ⟨rfl, _, World.drewN_drewN _ _ _⟩ | exact ⟨rfl, _, Eq.trans (World.drewN_drewN _ _ _) (congrArg (World.drewN _) (Nat.add_assoc _ _ _))⟩); have p10 : 0 ≤ (x9_1 : Int) := of_decide_eq_true (by first | (with_reducible assumption) | assumption); have q10 : x9_1 < (a0.size : Int) := of_decide_eq_true (by first | (with_reducible assumption) | assumption); have hx10 := bt_at a0 x9_1; replace p10 := eq_true p10; replace q10 := eq_true q10; have p15 : 0 ≤ (x9_1 : Int) := of_decide_eq_true (by first | (with_reducible assumption) | assumption); have q15 : x9_1 < (a0.size : Int) := of_decide_eq_true (by first | (with_reducible assumption) | assumption); have hx15 := bt_at a0 x9_1; replace p15 := eq_true p15; replace q15 := eq_true q15)); try go_wp2_with (first | (go_at_call 78; (with_reducible refine (fold_Space.calls (bt a0 x9_1) false _ A8.out).mono ?_); rintro e w' ⟨rfl, ⟨nd, rfl⟩⟩; (try first | exact ⟨rfl, _, World.drewN_drewN _ _ _⟩ | exact ⟨rfl, _, Eq.trans (World.drewN_drewN _ _ _) (congrArg (World.drewN _) (Nat.add_assoc _ _ _))⟩); have p10 : 0 ≤ (x9_1 : Int) := of_decide_eq_true (by first | (with_reducible assumption) | assumption); have q10 : x9_1 < (a0.size : Int) := of_decide_eq_true (by first | (with_reducible assumption) | assumption); have hx10 := bt_at a0 x9_1; replace p10 := eq_true p10; replace q10 := eq_true q10; have p15 : 0 ≤ (x9_1 : Int) := of_decide_eq_true (by first | (with_reducible assumption) | assumption); have q15 : x9_1 < (a0.size : Int) := of_decide_eq_true (by first | (with_reducible assumption) | assumption); have hx15 := bt_at a0 x9_1; replace p15 := eq_true p15; replace q15 := eq_true q15)))
         go_meet
         case rel => exact ⟨_, (((bt a0 x9_1) == 0)), (by first | rfl | (simp; done) | (simp [*]; done)), H', ⟨by have := HK1.out; first | omega | exact Nat.le_refl _⟩, by repeat (first | exact Drawn0.refl _ | apply Drawn0.step)⟩
      ·rw [if_neg c6] at H
       exact absurd H (by simp)
     ·rw [if_neg c5] at H
      exact absurd H (by simp)
    case rest =>
     clear HC4
     try clear c1
     try clear p1
     try clear q1
     try clear hx1
     try clear p2
     try clear c3
     try clear c3b0
     try clear c5
     try clear c5b0
     try clear c6
     try clear c6b0
     try clear c7
     try clear p7
     try clear q7
     try clear hx7
     try clear c9
     try clear p10
     try clear q10
     try clear hx10
     try clear c11
     try clear c11b0
     try clear p12
     try clear q12
     try clear hx12
     try clear c13
     try clear c13b0
     try clear p14
     try clear q14
     try clear hx14
     try clear p15
     try clear q15
     try clear hx15
     try clear p10
     try clear p12
     try clear p14
     try clear p15
     try clear p2
     try clear p7
     try clear q10
     try clear q12
     try clear q14
     try clear q15
     try clear q7
     obtain ⟨kq, x33_3, rfl, HA, HJ3, ⟨mc3, rfl⟩⟩ := hcut
     cases kq with
     | zero => exact absurd HA.out (by simp [names_plain.j1])
     | succ kj3 =>
      have H := HA.out
      clear HA
      simp only [names_plain.j1] at H
      by_cases c16 : x33_3 = true
      ·subst c16
       have H1 : (some false) = some r := by rw [if_pos rfl] at H; exact H
       clear H
       have H := H1
       clear H1
       obtain rfl := Option.some.inj H
       go_wp2
       repeat (go_quiet (fail); try go_wp2)
       go_ret
       exact ⟨by first | rfl | (simp; done) | (simp [*]; done) | (simp; generalize ByteArray.toList _ = l_; cases l_ <;> rfl), by repeat (first | exact Drawn0.refl _ | apply Drawn0.step)⟩
      ·replace c16 := Bool.eq_false_iff.mpr c16
       subst c16
       have H1 : (names_plain.l1 kj3 a0 a1 x9_1 (a0.size : Int) x9_1 (a1.size : Int) 0) = some r := by rw [if_neg (show ¬ (false = true) by decide)] at H; exact H
       clear H
       have H := H1
       clear H1
       have H' := Aside0.mk H
       clear H
       go_wp2
       repeat (go_quiet (fail); try go_wp2)
       go_loopg [36] kj3 (fun kq v36 w' => ∃ (x36_3 : Int), v36 = .int .i64 x36_3 ∧ Aside0 (names_plain.l1 kq a0 a1 x9_1 (a0.size : Int) x9_1 (a1.size : Int) x36_3 = some r) ∧ Aside0 (kq ≤ kj3) ∧ Drawn0 w w')
       case atStart => exact ⟨(0), (by first | rfl | (simp; done) | (simp [*]; done)), H', ⟨Nat.le_refl _⟩, by repeat (first | exact Drawn0.refl _ | apply Drawn0.step)⟩
       case round =>
        clear H'
        try clear c1
        try clear p1
        try clear q1
        try clear hx1
        try clear p2
        try clear c3
        try clear c3b0
        try clear c5
        try clear c5b0
        try clear c6
        try clear c6b0
        try clear c7
        try clear p7
        try clear q7
        try clear hx7
        try clear c9
        try clear p10
        try clear q10
        try clear hx10
        try clear c11
        try clear c11b0
        try clear p12
        try clear q12
        try clear hx12
        try clear c13
        try clear c13b0
        try clear p14
        try clear q14
        try clear hx14
        try clear p15
        try clear q15
        try clear hx15
        try clear c16
        try clear p1
        try clear p10
        try clear p12
        try clear p14
        try clear p15
        try clear p2
        try clear p7
        try clear q1
        try clear q10
        try clear q12
        try clear q14
        try clear q15
        try clear q7
        obtain ⟨x36_3, rfl, HA, HK3, ⟨m3, rfl⟩⟩ := hrel
        cases gk with
        | zero => exact absurd HA.out (by simp [names_plain.l1])
        | succ k3 =>
         have H := HA.out
         clear HA
         simp only [names_plain.l1] at H
         by_cases c17 : x36_3 < (a1.size : Int)
         ·rw [if_pos c17] at H
          have c17b0 : decide (x36_3 < (a1.size : Int)) = true := decide_eq_true c17
          clear c17
          by_cases c18 : 0 ≤ x9_1
          ·rw [if_pos c18] at H
           have c18b0 : decide (0 ≤ x9_1) = true := decide_eq_true c18
           clear c18
           by_cases c19 : x9_1 < (a0.size : Int)
           ·rw [if_pos c19] at H
            have c19b0 : decide (x9_1 < (a0.size : Int)) = true := decide_eq_true c19
            clear c19
            by_cases c21 : 0 ≤ x36_3
            ·rw [if_pos c21] at H
             have c21b0 : decide (0 ≤ x36_3) = true := decide_eq_true c21
             clear c21
             by_cases c22 : x36_3 < (a1.size : Int)
             ·rw [if_pos c22] at H
              have c22b0 : decide (x36_3 < (a1.size : Int)) = true := decide_eq_true c22
              clear c22
              by_cases c24 : (bt a0 x9_1) = (bt a1 x36_3)
              ·rw [if_pos c24] at H
               have c24b0 : ((bt a0 x9_1) == (bt a1 x36_3)) = true := beq_iff_eq.mpr c24
               have c24b1 : ((bt a0 x9_1) != (bt a1 x36_3)) = false := bne_eq_false_iff_eq.mpr c24
               clear c24
               obtain rfl := Option.some.inj H
               have p20 : 0 ≤ (x9_1 : Int) := of_decide_eq_true (by first | (with_reducible assumption) | assumption)
               have q20 : x9_1 < (a0.size : Int) := of_decide_eq_true (by first | (with_reducible assumption) | assumption)
               have hx20 := bt_at a0 x9_1
               replace p20 := eq_true p20
               replace q20 := eq_true q20
               have p23 : 0 ≤ (x36_3 : Int) := of_decide_eq_true (by first | (with_reducible assumption) | assumption)
               have q23 : x36_3 < (a1.size : Int) := of_decide_eq_true (by first | (with_reducible assumption) | assumption)
               have hx23 := bt_at a1 x36_3
               replace p23 := eq_true p23
               replace q23 := eq_true q23
               go_wp2
               repeat (go_quiet (fail); try go_wp2)
               go_ret
               exact ⟨by first | rfl | (simp; done) | (simp [*]; done) | (simp; generalize ByteArray.toList _ = l_; cases l_ <;> rfl), by repeat (first | exact Drawn0.refl _ | apply Drawn0.step)⟩
              ·rw [if_neg c24] at H
               have c24b0 : ((bt a0 x9_1) == (bt a1 x36_3)) = false := beq_eq_false_iff_ne.mpr c24
               have c24b1 : ((bt a0 x9_1) != (bt a1 x36_3)) = true := bne_iff_ne.mpr c24
               have H' := Aside0.mk H
               clear H
               have p20 : 0 ≤ (x9_1 : Int) := of_decide_eq_true (by first | (with_reducible assumption) | assumption)
               have q20 : x9_1 < (a0.size : Int) := of_decide_eq_true (by first | (with_reducible assumption) | assumption)
               have hx20 := bt_at a0 x9_1
               replace p20 := eq_true p20
               replace q20 := eq_true q20
               have p23 : 0 ≤ (x36_3 : Int) := of_decide_eq_true (by first | (with_reducible assumption) | assumption)
               have q23 : x36_3 < (a1.size : Int) := of_decide_eq_true (by first | (with_reducible assumption) | assumption)
               have hx23 := bt_at a1 x36_3
               replace p23 := eq_true p23
               replace q23 := eq_true q23
               go_wp2
               repeat (go_quiet (fail); try go_wp2)
               go_roundg k3
               case measure => have := HK1.out; have := HJ3.out; have := HK3.out; omega
               case rel => exact ⟨(wrap64 (x36_3 + 1)), (by first | rfl | (simp; done) | (simp [*]; done)), H', ⟨by have := HK1.out; have := HJ3.out; have := HK3.out; omega⟩, by repeat (first | exact Drawn0.refl _ | apply Drawn0.step)⟩
             ·rw [if_neg c22] at H
              exact absurd H (by simp)
            ·rw [if_neg c21] at H
             exact absurd H (by simp)
           ·rw [if_neg c19] at H
            exact absurd H (by simp)
          ·rw [if_neg c18] at H
           exact absurd H (by simp)
         ·rw [if_neg c17] at H
          have c17b0 : decide (x36_3 < (a1.size : Int)) = false := decide_eq_false c17
          clear c17
          have H' := Aside0.mk H
          clear H
          go_wp2
          repeat (go_quiet (fail); try go_wp2)
          go_roundg k3
          case measure => have := HK1.out; have := HJ3.out; have := HK3.out; omega
          case rel => exact ⟨(wrap64 (x9_1 + 1)), (by first | rfl | (simp; done) | (simp [*]; done)), H', ⟨by have := HK1.out; have := HJ3.out; have := HK3.out; omega⟩, by repeat (first | exact Drawn0.refl _ | apply Drawn0.step)⟩
   ·rw [if_neg c3] at H
    have c3b0 : decide (x9_1 < (a0.size : Int)) = false := decide_eq_false c3
    clear c3
    obtain rfl := Option.some.inj H
    go_wp2
    repeat (go_quiet (fail); try go_wp2)
    go_ret
    exact ⟨by first | rfl | (simp; done) | (simp [*]; done) | (simp; generalize ByteArray.toList _ = l_; cases l_ <;> rfl), by repeat (first | exact Drawn0.refl _ | apply Drawn0.step)⟩

/-! ### fold_Letter: function 71 -/
def fold_Letter.f (a0 : Int) : Option (Bool) := if a0 ≥ 97 then (if a0 ≤ 122 then (some true) else (if a0 ≥ 65 then (some (decide (a0 ≤ 90))) else (some false))) else (if a0 ≥ 65 then (some (decide (a0 ≤ 90))) else (some false))
set_option maxHeartbeats 8000000 in
set_option maxRecDepth 100000 in
theorem fold_Letter.calls (a0 : Int) (r : Bool) (w : World) (h : fold_Letter.f a0 = some r) :
  Calls Try.prog 71 #[.int .u8 a0] w fun e w' => e = .returned (.bool r) ∧ Drawn0 w w' := by
 have H : (if a0 ≥ 97 then (if a0 ≤ 122 then (some true) else (if a0 ≥ 65 then (some (decide (a0 ≤ 90))) else (some false))) else (if a0 ≥ 65 then (some (decide (a0 ≤ 90))) else (some false))) = some r := h
 clear h
 by_cases c2 : a0 ≥ 97
 ·rw [if_pos c2] at H
  have c2b0 : decide (97 ≤ a0) = true := decide_eq_true c2
  clear c2
  by_cases c3 : a0 ≤ 122
  ·rw [if_pos c3] at H
   have c3b0 : decide (a0 ≤ 122) = true := decide_eq_true c3
   clear c3
   obtain rfl := Option.some.inj H
   go_enter Try.func71, Try.ntmps71
   go_wp2
   go_ret
   exact ⟨by first | rfl | (simp; done) | (simp [*]; done) | (simp; generalize ByteArray.toList _ = l_; cases l_ <;> rfl), by repeat (first | exact Drawn0.refl _ | apply Drawn0.step)⟩
  ·rw [if_neg c3] at H
   have c3b0 : decide (a0 ≤ 122) = false := decide_eq_false c3
   clear c3
   by_cases c4 : a0 ≥ 65
   ·rw [if_pos c4] at H
    have c4b0 : decide (65 ≤ a0) = true := decide_eq_true c4
    clear c4
    obtain rfl := Option.some.inj H
    go_enter Try.func71, Try.ntmps71
    go_wp2
    go_ret
    exact ⟨by first | rfl | (simp; done) | (simp [*]; done) | (simp; generalize ByteArray.toList _ = l_; cases l_ <;> rfl), by repeat (first | exact Drawn0.refl _ | apply Drawn0.step)⟩
   ·rw [if_neg c4] at H
    have c4b0 : decide (65 ≤ a0) = false := decide_eq_false c4
    clear c4
    obtain rfl := Option.some.inj H
    go_enter Try.func71, Try.ntmps71
    go_wp2
    go_ret
    exact ⟨by first | rfl | (simp; done) | (simp [*]; done) | (simp; generalize ByteArray.toList _ = l_; cases l_ <;> rfl), by repeat (first | exact Drawn0.refl _ | apply Drawn0.step)⟩
 ·rw [if_neg c2] at H
  have c2b0 : decide (97 ≤ a0) = false := decide_eq_false c2
  clear c2
  by_cases c5 : a0 ≥ 65
  ·rw [if_pos c5] at H
   have c5b0 : decide (65 ≤ a0) = true := decide_eq_true c5
   clear c5
   obtain rfl := Option.some.inj H
   go_enter Try.func71, Try.ntmps71
   go_wp2
   go_ret
   exact ⟨by first | rfl | (simp; done) | (simp [*]; done) | (simp; generalize ByteArray.toList _ = l_; cases l_ <;> rfl), by repeat (first | exact Drawn0.refl _ | apply Drawn0.step)⟩
  ·rw [if_neg c5] at H
   have c5b0 : decide (65 ≤ a0) = false := decide_eq_false c5
   clear c5
   obtain rfl := Option.some.inj H
   go_enter Try.func71, Try.ntmps71
   go_wp2
   go_ret
   exact ⟨by first | rfl | (simp; done) | (simp [*]; done) | (simp; generalize ByteArray.toList _ = l_; cases l_ <;> rfl), by repeat (first | exact Drawn0.refl _ | apply Drawn0.step)⟩

/-! ### names_Right: function 44 -/
def names_Right.f (k : Nat) (a0 : ByteArray) : Option (Bool) := (names_plain.f k a0 (⟨#[47, 62]⟩ : ByteArray)).bind fun t120 => (if t120 = true then (if 0 < (a0.size : Int) then ((fold_Letter.f (bt a0 0)).bind fun t121 => (some t121)) else (none)) else (some false))
set_option maxHeartbeats 8000000 in
set_option maxRecDepth 100000 in
theorem names_Right.calls (k : Nat) (a0 : ByteArray) (r : Bool) (w : World) (h : names_Right.f k a0 = some r) :
  Calls Try.prog 44 #[.string a0] w fun e w' => e = .returned (.bool r) ∧ Drawn0 w w' := by
 have H : ((names_plain.f k a0 (⟨#[47, 62]⟩ : ByteArray)).bind fun t120 => (if t120 = true then (if 0 < (a0.size : Int) then ((fold_Letter.f (bt a0 0)).bind fun t121 => (some t121)) else (none)) else (some false))) = some r := h
 clear h
 replace H := Option.bind_eq_some_iff.mp H
 obtain ⟨t120, A20, H⟩ := H
 replace H : (if t120 = true then (if 0 < (a0.size : Int) then ((fold_Letter.f (bt a0 0)).bind fun t121 => (some t121)) else (none)) else (some false)) = some r := H
 have A2 := Aside0.mk A20
 clear A20
 by_cases c3 : t120 = true
 ·subst c3
  have H1 : (if 0 < (a0.size : Int) then ((fold_Letter.f (bt a0 0)).bind fun t121 => (some t121)) else (none)) = some r := by rw [if_pos rfl] at H; exact H
  clear H
  have H := H1
  clear H1
  by_cases c4 : 0 < (a0.size : Int)
  ·rw [if_pos c4] at H
   have c4b0 : decide (0 < (a0.size : Int)) = true := decide_eq_true c4
   have c4b1 : decide (0 < a0.size) = true := decide_eq_true (by omega)
   clear c4
   replace H := Option.bind_eq_some_iff.mp H
   obtain ⟨t121, A60, H⟩ := H
   replace H : (some t121) = some r := H
   have A6 := Aside0.mk A60
   clear A60
   obtain rfl := Option.some.inj H
   go_enter Try.func44, Try.ntmps44
   go_wp2_with (first | ((with_reducible refine gate_callee (f := 70) rfl ?_); refine goesL_ (some 4) rfl rfl Try.func70 (by kernel_rfl) rfl #[.string a0, .string (⟨#[47, 62]⟩ : ByteArray)] rfl (by (try simp only [List.map_toArray, List.map_cons, List.map_nil]); first | done | rfl | (simp only [List.length_drop, List.length_take]; rfl)) ?_; (with_reducible refine (names_plain.calls k a0 (⟨#[47, 62]⟩ : ByteArray) true _ A2.out).mono ?_); rintro e w' ⟨rfl, ⟨nd, rfl⟩⟩; refine ⟨_, rfl, ?_⟩; have p5 : 0 ≤ (0 : Int) := (by omega); have q5 : 0 < a0.size := (by have : (0 : Int) < (a0.size : Int) := of_decide_eq_true (by first | (with_reducible assumption) | assumption); omega); have hx5 : ∀ h : 0 < a0.size, ((a0[0]'h).toNat : Int) = bt a0 0 := bt_at a0 0; clear p5; have qi5 : (0 < (a0.size : Int)) = True := eq_true (of_decide_eq_true (by first | (with_reducible assumption) | assumption)); replace q5 := eq_true q5) | (go_at_call 71; (with_reducible refine (fold_Letter.calls (bt a0 0) t121 _ A6.out).mono ?_); rintro e w' ⟨rfl, ⟨nd, rfl⟩⟩))
   go_ret
   exact ⟨by first | rfl | (simp; done) | (simp [*]; done) | (simp; generalize ByteArray.toList _ = l_; cases l_ <;> rfl), by repeat (first | exact Drawn0.refl _ | apply Drawn0.step)⟩
  ·rw [if_neg c4] at H
   exact absurd H (by simp)
 ·replace c3 := Bool.eq_false_iff.mpr c3
  subst c3
  have H1 : (some false) = some r := by rw [if_neg (show ¬ (false = true) by decide)] at H; exact H
  clear H
  have H := H1
  clear H1
  obtain rfl := Option.some.inj H
  go_enter Try.func44, Try.ntmps44
  go_wp2_with (first | ((with_reducible refine gate_callee (f := 70) rfl ?_); refine goesL_ (some 4) rfl rfl Try.func70 (by kernel_rfl) rfl #[.string a0, .string (⟨#[47, 62]⟩ : ByteArray)] rfl (by (try simp only [List.map_toArray, List.map_cons, List.map_nil]); first | done | rfl | (simp only [List.length_drop, List.length_take]; rfl)) ?_; (with_reducible refine (names_plain.calls k a0 (⟨#[47, 62]⟩ : ByteArray) false _ A2.out).mono ?_); rintro e w' ⟨rfl, ⟨nd, rfl⟩⟩; refine ⟨_, rfl, ?_⟩))
  go_ret
  exact ⟨by first | rfl | (simp; done) | (simp [*]; done) | (simp; generalize ByteArray.toList _ = l_; cases l_ <;> rfl), by repeat (first | exact Drawn0.refl _ | apply Drawn0.step)⟩

/-! ### names_Attr: function 45 -/
def names_Attr.f (k : Nat) (a0 : ByteArray) : Option (Bool) := (names_plain.f k a0 (⟨#[47, 62, 34, 39, 60, 61]⟩ : ByteArray)).bind fun t122 => (some t122)
set_option maxHeartbeats 8000000 in
set_option maxRecDepth 100000 in
theorem names_Attr.calls (k : Nat) (a0 : ByteArray) (r : Bool) (w : World) (h : names_Attr.f k a0 = some r) :
  Calls Try.prog 45 #[.string a0] w fun e w' => e = .returned (.bool r) ∧ Drawn0 w w' := by
 have H : ((names_plain.f k a0 (⟨#[47, 62, 34, 39, 60, 61]⟩ : ByteArray)).bind fun t122 => (some t122)) = some r := h
 clear h
 replace H := Option.bind_eq_some_iff.mp H
 obtain ⟨t122, A20, H⟩ := H
 replace H : (some t122) = some r := H
 have A2 := Aside0.mk A20
 clear A20
 obtain rfl := Option.some.inj H
 go_enter Try.func45, Try.ntmps45
 go_wp2_with (first | ((with_reducible refine gate_callee (f := 70) rfl ?_); refine goesL_ (some 4) rfl rfl Try.func70 (by kernel_rfl) rfl #[.string a0, .string (⟨#[47, 62, 34, 39, 60, 61]⟩ : ByteArray)] rfl (by (try simp only [List.map_toArray, List.map_cons, List.map_nil]); first | done | rfl | (simp only [List.length_drop, List.length_take]; rfl)) ?_; (with_reducible refine (names_plain.calls k a0 (⟨#[47, 62, 34, 39, 60, 61]⟩ : ByteArray) t122 _ A2.out).mono ?_); rintro e w' ⟨rfl, ⟨nd, rfl⟩⟩; refine ⟨_, rfl, ?_⟩))
 go_ret
 exact ⟨by first | rfl | (simp; done) | (simp [*]; done) | (simp; generalize ByteArray.toList _ = l_; cases l_ <;> rfl), by repeat (first | exact Drawn0.refl _ | apply Drawn0.step)⟩

end Go.Proofs.Ytjofofpplpmgjaa.Pr
-- SLIMMED
namespace Go.Proofs.Ytjofofpplpmgjaa.Pr
open Go.RowKit Go.Proofs.YtjofofpplpmgjaaW.PrintWords Go.Proofs.YtjofofpplpmgjaaW.PrintLast Go.Proofs.YtjofofpplpmgjaaW.PrintMore
attribute [local go_sem] max2_int min2_int max_two min_two max_three min_three max_four min_four   -- for this text's walks alone
set_option linter.unusedVariables false
set_option linter.unusedSimpArgs false

/-! ### boltingref02_Space: function 97 -/
def boltingref02_Space.f (a0 : Int) : Option (Bool) := if a0 = 32 then (some true) else (if a0 = 9 then (some true) else (if a0 = 10 then (some true) else (if a0 = 12 then (some true) else (some (a0 == 13)))))
/-! ### boltingref05_bad: function 84 -/
def boltingref05_bad.f (a0 : Int) (a1 : Bool) : Option (Bool) := (boltingref02_Space.f a0).bind fun t328 => (if t328 = true then (some true) else (if a0 ≥ 65 then (if a0 ≤ 90 then (some true) else (if a0 = 0 then (some true) else (if a0 = 47 then (some true) else (if a0 = 62 then (some true) else (if a1 = true then (if a0 = 34 then (some true) else (if a0 = 39 then (some true) else (if a0 = 60 then (some true) else (some (a0 == 61))))) else (some false)))))) else (if a0 = 0 then (some true) else (if a0 = 47 then (some true) else (if a0 = 62 then (some true) else (if a1 = true then (if a0 = 34 then (some true) else (if a0 = 39 then (some true) else (if a0 = 60 then (some true) else (some (a0 == 61))))) else (some false)))))))
/-! ### boltingref05_May: function 77 -/
def boltingref05_May.l0 : Nat → ByteArray → Bool → Int → Option (Bool)
 | 0, _, _, _ => none
 | k + 1, x0, x1, x5 => if x5 < (x0.size : Int) then (if 0 ≤ x5 then ((boltingref05_bad.f (bt x0 x5) x1).bind fun t329 => (if t329 = true then (some false) else (boltingref05_May.l0 k x0 x1 (wrap64 (x5 + 1))))) else (none)) else (if (x0.size : Int) > 0 then (if x1 = true then (some true) else (if 0 < (x0.size : Int) then (if (bt x0 0) ≥ 97 then (some (decide ((bt x0 0) ≤ 122))) else (some false)) else (none))) else (some false))
def boltingref05_May.f (k : Nat) (a0 : ByteArray) (a1 : Bool) : Option (Bool) := boltingref05_May.l0 k a0 a1 0
/-! ### boltingref12_may: function 57 -/
def boltingref12_may.l0 : Nat → List ByteArray → Bool → Int → Option (Bool)
 | 0, _, _, _ => none
 | k + 1, x0, x1, x5 => if x5 < (x0.length : Int) then (if 0 ≤ x5 then ((boltingref05_May.f k (rdOf ByteArray.empty x0 x5) x1).bind fun t331 => (if t331 = true then (boltingref12_may.l0 k x0 x1 (wrap64 (x5 + 1))) else (some false))) else (none)) else (some true)
def boltingref12_may.f (k : Nat) (l0 : List ByteArray) (a1 : Bool) : Option (Bool) := boltingref12_may.l0 k l0 a1 0
/-! ### boltingref12_once: function 58 -/
def boltingref12_once.l0 : Nat → List ByteArray → Int → Option (Bool)
 | 0, _, _ => none
 | k + 1, x0, x3 => if x3 < (x0.length : Int) then (if 0 ≤ x3 then (if x3 ≤ (x0.length : Int) then ((boltingref02_Has.f k (x0.take (x3 : Int).toNat) (rdOf ByteArray.empty x0 x3)).bind fun t334 => (if t334 = true then (some false) else (boltingref12_once.l0 k x0 (wrap64 (x3 + 1))))) else (none)) else (none)) else (some true)
def boltingref12_once.f (k : Nat) (l0 : List ByteArray) : Option (Bool) := boltingref12_once.l0 k l0 0
/-! ### boltingref12_meet: function 59 -/
def boltingref12_meet.l0 : Nat → List ByteArray → List ByteArray → Int → Option (Bool)
 | 0, _, _, _ => none
 | k + 1, x0, x1, x5 => if x5 < (x0.length : Int) then (if 0 ≤ x5 then ((boltingref02_Has.f k x1 (rdOf ByteArray.empty x0 x5)).bind fun t336 => (if t336 = true then (some true) else (boltingref12_meet.l0 k x0 x1 (wrap64 (x5 + 1))))) else (none)) else (some false)
def boltingref12_meet.f (k : Nat) (l0 : List ByteArray) (l1 : List ByteArray) : Option (Bool) := boltingref12_meet.l0 k l0 l1 0
end Go.Proofs.Ytjofofpplpmgjaa.Pr
/- names.Right, names.Attr, boltingref05.May: which texts may be names. -/
namespace Go.Proofs.Ytjofofpplpmgjaa.Pure
set_option linter.unusedVariables false
set_option linter.unusedSimpArgs false
open Go.RowKit Go.Lib Go.Shelf Go.Proofs.YtjofofpplpmgjaaW.PrintWords Go.Proofs.YtjofofpplpmgjaaW.PrintLast Go.Proofs.YtjofofpplpmgjaaW.PrintMore Go.Proofs.Ytjofofpplpmgjaa.Pr

def spI (c : Int) : Bool := c == 32 || c == 9 || c == 10 || c == 12 || c == 13
def upI (c : Int) : Bool := decide (65 ≤ c) && decide (c ≤ 90)
/-- May a byte not stand in a name? -/
def badI (attr : Bool) (c : Int) : Bool := spI c || upI c || c == 0 || c == 47 || c == 62 || attr && (c == 34 || c == 39 || c == 60 || c == 61)
theorem space_f (c : Int) : fold_Space.f c = some (spI c) := by
  unfold fold_Space.f spI
  repeat' split
  all_goals
    refine congrArg some ?_
    rw [Bool.eq_iff_iff]
    simp only [Bool.or_eq_true, Bool.false_eq_true, eq_self, true_iff, false_iff, beq_iff_eq]
    omega
/-- May a text be a name (of an attribute, of an element)? -/
def mayB (attr : Bool) (s : ByteArray) : Bool := (dat s).all (fun c => !badI attr (c.toNat : Int)) && (match dat s with | [] => false | c :: _ => attr || (decide (97 ≤ c.toNat) && decide (c.toNat ≤ 122)))
def headB (attr : Bool) (s : ByteArray) : Bool := match dat s with | [] => false | c :: _ => attr || (decide (97 ≤ c.toNat) && decide (c.toNat ≤ 122))
/-! ### names.plain -/
theorem plain_l1 (s but : ByteArray) (hb : but.size ≤ 1000) (i : Nat) (c : UInt8) (hc : (dat s)[i]? = some c) (x8 x9 : Int) : ∀ (d j : Nat), j + d = but.size → ∀ m k, k = m + d + 1 →
    names_plain.l1 k s but (i : Int) x8 x9 (but.size : Int) (j : Int) = if ((dat but).drop j).any (fun b => decide (c.toNat = b.toNat)) = true then some false else names_plain.l0 m s but x8 (wrap64 (x9 + 1))
  | 0, j, h, m, k, hk => by
    obtain rfl : k = m + 1 := hk
    simp only [names_plain.l1]
    rw [if_neg (by omega), List.drop_of_length_le (by rw [show (dat but).length = but.size from (Lib.size_eq but).symm]; omega)]
    rw [if_neg (by simp)]
  | d + 1, j, h, m, k, hk => by
    obtain ⟨k, rfl⟩ : ∃ q, k = q + 1 := ⟨k - 1, by omega⟩
    obtain ⟨b, hb0⟩ := at_some but (k := j) (by omega)
    have hi := at_lt hc
    simp only [names_plain.l1]
    rw [if_pos (by omega), if_pos (by omega), if_pos (by omega), if_pos (by omega), if_pos (by omega), bt_c hc, bt_c hb0, drop_at hb0, List.any_cons]
    by_cases e : c.toNat = b.toNat
    · rw [if_pos (by omega), decide_eq_true e, Bool.true_or, if_pos rfl]
    · rw [if_neg (by omega), decide_eq_false e, Bool.false_or, wrap_succ (by omega) (by omega)]
      exact plain_l1 s but hb i c hc x8 x9 d (j + 1) (by omega) m k (by omega)
def plainB (but : List UInt8) (c : UInt8) : Bool := !(spI (c.toNat : Int) || upI (c.toNat : Int) || ((c.toNat : Int) == 0) || but.any (fun b => decide (c.toNat = b.toNat)))
theorem plain_l0 (s but : ByteArray) (hb : but.size ≤ 1000) (hs : s.size ≤ 4000000000000000000) : ∀ (d i : Nat), i + d = s.size → ∀ k, d * (but.size + 3) < k →
    names_plain.l0 k s but (s.size : Int) (i : Int) = some (((dat s).drop i).all (plainB (dat but)) && (s.toList != ([] : List UInt8)))
  | 0, i, h, k, hk => by
    obtain ⟨k, rfl⟩ : ∃ m, k = m + 1 := ⟨k - 1, by omega⟩
    simp only [names_plain.l0]
    rw [if_neg (by omega), List.drop_of_length_le (by rw [show (dat s).length = s.size from (Lib.size_eq s).symm]; omega)]
    simp
  | d + 1, i, h, k, hk => by
    have he : (d + 1) * (but.size + 3) = d * (but.size + 3) + (but.size + 3) := by rw [Nat.succ_mul]
    obtain ⟨m, rfl⟩ : ∃ m, k = m + but.size + 3 := ⟨k - but.size - 3, by omega⟩
    obtain ⟨c, hc⟩ := at_some s (k := i) (by omega)
    have ih := plain_l0 s but hb hs d (i + 1) (by omega) m (by omega)
    have e1 : names_plain.l0 (m + but.size + 3) s but (s.size : Int) (i : Int) = names_plain.j1 (m + but.size + 2) s but (i : Int) (s.size : Int) (i : Int) (spI (c.toNat : Int) || upI (c.toNat : Int) || ((c.toNat : Int) == 0)) := by
      simp only [names_plain.l0]
      rw [if_pos (by omega), if_pos (by omega), if_pos (by omega), bt_c hc, space_f, Option.bind_some]
      cases spI (c.toNat : Int) with
      | true => rw [if_pos rfl]; rfl
      | false =>
        rw [if_neg (by decide), Bool.false_or]
        unfold upI
        by_cases h1 : (65 : Int) ≤ (c.toNat : Int)
        · rw [if_pos (by omega), decide_eq_true h1, Bool.true_and]
          by_cases h2 : (c.toNat : Int) ≤ 90
          · rw [if_pos h2, decide_eq_true h2, Bool.true_or]
          · rw [if_neg h2, decide_eq_false h2, Bool.false_or]
        · rw [if_neg (by omega), decide_eq_false h1, Bool.false_and, Bool.false_or]
    rw [e1, drop_at hc, List.all_cons]
    have e2 : plainB (dat but) c = !((spI (c.toNat : Int) || upI (c.toNat : Int) || ((c.toNat : Int) == 0)) || (dat but).any (fun b => decide (c.toNat = b.toNat))) := rfl
    rw [e2]
    cases (spI (c.toNat : Int) || upI (c.toNat : Int) || ((c.toNat : Int) == 0)) with
    | true => simp only [names_plain.j1]; rw [if_pos trivial]; simp
    | false =>
      simp only [names_plain.j1]
      rw [if_neg (by decide)]
      have := plain_l1 s but hb i c hc (s.size : Int) (i : Int) but.size 0 (by omega) m _ rfl
      rw [List.drop_zero, show ((0 : Nat) : Int) = 0 from rfl] at this
      rw [this, Bool.false_or]
      cases (dat but).any (fun b => decide (c.toNat = b.toNat)) with
      | true => rw [if_pos rfl]; simp
      | false =>
        rw [if_neg (by decide), wrap_succ (by omega) (by omega)]
        rw [Bool.not_false, Bool.true_and]
        exact ih
theorem plain_f (s but : ByteArray) (hb : but.size ≤ 1000) (hs : s.size ≤ 4000000000000000000) {k : Nat} (hk : s.size * (but.size + 3) < k) : names_plain.f k s but = some ((dat s).all (plainB (dat but)) && (s.toList != ([] : List UInt8))) :=
  plain_l0 s but hb hs s.size 0 (by omega) k hk
theorem plain_el (c : UInt8) : plainB [47, 62] c = !badI false (c.toNat : Int) := by
  unfold plainB badI
  simp only [List.any_cons, List.any_nil, Bool.or_false, Bool.false_and, Bool.true_and]
  have hn : ∀ b : UInt8, decide (c.toNat = b.toNat) = ((c.toNat : Int) == (b.toNat : Int)) := fun b => by rw [Bool.eq_iff_iff, decide_eq_true_eq, beq_iff_eq]; omega
  simp only [hn]
  congr 1
  simp only [Bool.or_assoc]
  rfl
theorem plain_at (c : UInt8) : plainB [47, 62, 34, 39, 60, 61] c = !badI true (c.toNat : Int) := by
  unfold plainB badI
  simp only [List.any_cons, List.any_nil, Bool.or_false, Bool.false_and, Bool.true_and]
  have hn : ∀ b : UInt8, decide (c.toNat = b.toNat) = ((c.toNat : Int) == (b.toNat : Int)) := fun b => by rw [Bool.eq_iff_iff, decide_eq_true_eq, beq_iff_eq]; omega
  simp only [hn]
  congr 1
  simp only [Bool.or_assoc]
  rfl
theorem mayB_eq (attr : Bool) (s : ByteArray) : mayB attr s = ((dat s).all (fun c => !badI attr (c.toNat : Int)) && headB attr s) := rfl
theorem nattr_f (s : ByteArray) (hs : s.size ≤ 4000000000000000000) {k : Nat} (hk : s.size * 9 < k) : names_Attr.f k s = some (mayB true s) := by
  unfold names_Attr.f
  rw [plain_f s ⟨#[47, 62, 34, 39, 60, 61]⟩ (by decide) hs hk, Option.bind_some, mayB_eq]
  refine congrArg some ?_
  rw [show plainB (dat ⟨#[47, 62, 34, 39, 60, 61]⟩) = fun c => !badI true (c.toNat : Int) from funext plain_at]
  congr 1
  unfold headB
  rw [Lib.toList_data]
  cases h : dat s with
  | nil => rw [show s.data.toList = [] from h]; rfl
  | cons c t => rw [show s.data.toList = c :: t from h]; rfl
theorem letter_f (c : Int) : fold_Letter.f c = some (decide (97 ≤ c) && decide (c ≤ 122) || upI c) := by
  unfold fold_Letter.f upI
  repeat' split
  all_goals
    refine congrArg some ?_
    rw [Bool.eq_iff_iff]
    simp only [Bool.or_eq_true, Bool.and_eq_true, decide_eq_true_eq, Bool.false_eq_true, eq_self, true_iff, false_iff]
    omega
theorem right_f (s : ByteArray) (hs : s.size ≤ 4000000000000000000) {k : Nat} (hk : s.size * 5 < k) : names_Right.f k s = some (mayB false s) := by
  unfold names_Right.f
  rw [plain_f s ⟨#[47, 62]⟩ (by decide) hs hk, Option.bind_some, mayB_eq]
  rw [show plainB (dat ⟨#[47, 62]⟩) = fun c => !badI false (c.toNat : Int) from funext plain_el, Lib.toList_data]
  unfold headB
  cases h : dat s with
  | nil => rw [show s.data.toList = [] from h]; rfl
  | cons c t =>
    rw [show s.data.toList = c :: t from h]
    have h0 : (dat s)[0]? = some c := by rw [h]; rfl
    have hl := at_lt (s := s) h0
    have hb := bt_c (s := s) h0
    rw [show ((0 : Nat) : Int) = 0 from rfl] at hb
    have e : ((c :: t) != ([] : List UInt8)) = true := rfl
    rw [e, Bool.and_true]
    show _ = some ((c :: t).all _ && (false || (decide (97 ≤ c.toNat) && decide (c.toNat ≤ 122))))
    cases ha : (c :: t).all (fun c => !badI false (c.toNat : Int)) with
    | false => rw [if_neg (by decide), Bool.false_and]
    | true =>
      rw [if_pos rfl, if_pos (by omega), hb, letter_f, Option.bind_some, Bool.true_and, Bool.false_or]
      have hu : upI (c.toNat : Int) = false := by
        rw [List.all_cons, Bool.and_eq_true] at ha
        have := ha.1
        unfold badI at this
        cases hq : upI (c.toNat : Int) with
        | false => rfl
        | true => rw [hq] at this; simp at this
      rw [hu, Bool.or_false]
      refine congrArg some ?_
      rw [Bool.eq_iff_iff]
      simp only [Bool.and_eq_true, decide_eq_true_eq]
      omega
end Go.Proofs.Ytjofofpplpmgjaa.Pure
-- SLIMMED
namespace Go.Proofs.Ytjofofpplpmgjaa.Pr
open Go.RowKit Go.Proofs.YtjofofpplpmgjaaW.PrintWords Go.Proofs.YtjofofpplpmgjaaW.PrintLast Go.Proofs.YtjofofpplpmgjaaW.PrintMore
attribute [local go_sem] max2_int min2_int max_two min_two max_three min_three max_four min_four   -- for this text's walks alone
set_option linter.unusedVariables false
set_option linter.unusedSimpArgs false

/-! ### boltingref12_Check: function 26 -/
mutual
def boltingref12_Check.j0 : Nat → Bool → Bool → Bool → List ByteArray → List ByteArray → List ByteArray → List (S35) → Bool → Bool → Option (Int)
 | 0, _, _, _, _, _, _, _, _, _ => none
 | k + 1, x3, x338000, x338001, x338002, x338003, x338004, x338005, x338006, x338007 => (boltingref12_may.f k x338002 false).bind fun t338 => (if t338 = true then ((boltingref12_may.f k x338003 false).bind fun t339 => (if t339 = true then ((boltingref12_of.f k x338000 x338001 x338002 x338003 x338004 x338005 x338006 x338007).bind fun t340 => ((boltingref12_may.f k t340 false).bind fun t343 => (if t343 = true then ((boltingref12_may.f k x338004 true).bind fun t344 => (boltingref12_Check.j1 k x3 t344 x338000 x338001 x338002 x338003 x338004 x338005 x338006 x338007)) else (boltingref12_Check.j1 k x3 false x338000 x338001 x338002 x338003 x338004 x338005 x338006 x338007)))) else (boltingref12_Check.j1 k x3 false x338000 x338001 x338002 x338003 x338004 x338005 x338006 x338007))) else (boltingref12_Check.j1 k x3 false x338000 x338001 x338002 x338003 x338004 x338005 x338006 x338007))
def boltingref12_Check.j1 : Nat → Bool → Bool → Bool → Bool → List ByteArray → List ByteArray → List ByteArray → List (S35) → Bool → Bool → Option (Int)
 | 0, _, _, _, _, _, _, _, _, _, _ => none
 | k + 1, x3, x4, x338000, x338001, x338002, x338003, x338004, x338005, x338006, x338007 => (boltingref12_once.f k x338002).bind fun t345 => (if t345 = true then ((boltingref12_once.f k x338003).bind fun t346 => (if t346 = true then ((boltingref12_of.f k x338000 x338001 x338002 x338003 x338004 x338005 x338006 x338007).bind fun t347 => ((boltingref12_once.f k t347).bind fun t350 => (if t350 = true then ((boltingref12_once.f k x338004).bind fun t351 => (boltingref12_Check.j2 k x3 x4 t351 x338000 x338001 x338002 x338003 x338004 x338005 x338006 x338007)) else (boltingref12_Check.j2 k x3 x4 false x338000 x338001 x338002 x338003 x338004 x338005 x338006 x338007)))) else (boltingref12_Check.j2 k x3 x4 false x338000 x338001 x338002 x338003 x338004 x338005 x338006 x338007))) else (boltingref12_Check.j2 k x3 x4 false x338000 x338001 x338002 x338003 x338004 x338005 x338006 x338007))
def boltingref12_Check.j2 : Nat → Bool → Bool → Bool → Bool → Bool → List ByteArray → List ByteArray → List ByteArray → List (S35) → Bool → Bool → Option (Int)
 | 0, _, _, _, _, _, _, _, _, _, _, _ => none
 | k + 1, x3, x4, x5, x338000, x338001, x338002, x338003, x338004, x338005, x338006, x338007 => (boltingref12_meet.f k x338002 x338003).bind fun t352 => (if t352 = true then (boltingref12_Check.j3 k x3 x4 x5 true x338000 x338001 x338002 x338003 x338004 x338005 x338006 x338007) else (if x338007 = true then (boltingref12_Check.j3 k x3 x4 x5 (!x338001) x338000 x338001 x338002 x338003 x338004 x338005 x338006 x338007) else (boltingref12_Check.j3 k x3 x4 x5 false x338000 x338001 x338002 x338003 x338004 x338005 x338006 x338007)))
def boltingref12_Check.j3 : Nat → Bool → Bool → Bool → Bool → Bool → Bool → List ByteArray → List ByteArray → List ByteArray → List (S35) → Bool → Bool → Option (Int)
 | 0, _, _, _, _, _, _, _, _, _, _, _, _ => none
 | k + 1, x3, x4, x5, x6, x338000, x338001, x338002, x338003, x338004, x338005, x338006, x338007 => boltingref12_Check.l0 k x3 x4 x5 x6 0 x338000 x338001 x338002 x338003 x338004 x338005 x338006 x338007
def boltingref12_Check.l0 : Nat → Bool → Bool → Bool → Bool → Int → Bool → Bool → List ByteArray → List ByteArray → List ByteArray → List (S35) → Bool → Bool → Option (Int)
 | 0, _, _, _, _, _, _, _, _, _, _, _, _, _ => none
 | k + 1, x3, x4, x5, x6, x7, x338000, x338001, x338002, x338003, x338004, x338005, x338006, x338007 => if x7 < (x338005.length : Int) then (if 0 ≤ x7 then (if x3 = true then (if x4 = true then ((boltingref12_may.f k ((rd_T35 x338005 x7).f1) true).bind fun t354 => (if x5 = true then ((boltingref12_once.f k ((rd_T35 x338005 x7).f1)).bind fun t355 => (if x6 = true then (boltingref12_Check.l0 k true t354 t355 true (wrap64 (x7 + 1)) x338000 x338001 x338002 x338003 x338004 x338005 x338006 x338007) else ((boltingref12_meet.f k ((rd_T35 x338005 x7).f1) x338004).bind fun t356 => (boltingref12_Check.l0 k true t354 t355 t356 (wrap64 (x7 + 1)) x338000 x338001 x338002 x338003 x338004 x338005 x338006 x338007)))) else (if x6 = true then (boltingref12_Check.l0 k true t354 false true (wrap64 (x7 + 1)) x338000 x338001 x338002 x338003 x338004 x338005 x338006 x338007) else ((boltingref12_meet.f k ((rd_T35 x338005 x7).f1) x338004).bind fun t357 => (boltingref12_Check.l0 k true t354 false t357 (wrap64 (x7 + 1)) x338000 x338001 x338002 x338003 x338004 x338005 x338006 x338007))))) else (if x5 = true then ((boltingref12_once.f k ((rd_T35 x338005 x7).f1)).bind fun t358 => (if x6 = true then (boltingref12_Check.l0 k true false t358 true (wrap64 (x7 + 1)) x338000 x338001 x338002 x338003 x338004 x338005 x338006 x338007) else ((boltingref12_meet.f k ((rd_T35 x338005 x7).f1) x338004).bind fun t359 => (boltingref12_Check.l0 k true false t358 t359 (wrap64 (x7 + 1)) x338000 x338001 x338002 x338003 x338004 x338005 x338006 x338007)))) else (if x6 = true then (boltingref12_Check.l0 k true false false true (wrap64 (x7 + 1)) x338000 x338001 x338002 x338003 x338004 x338005 x338006 x338007) else ((boltingref12_meet.f k ((rd_T35 x338005 x7).f1) x338004).bind fun t360 => (boltingref12_Check.l0 k true false false t360 (wrap64 (x7 + 1)) x338000 x338001 x338002 x338003 x338004 x338005 x338006 x338007))))) else (if x4 = true then ((boltingref12_may.f k ((rd_T35 x338005 x7).f1) true).bind fun t361 => (if x5 = true then ((boltingref12_once.f k ((rd_T35 x338005 x7).f1)).bind fun t362 => (if x6 = true then (boltingref12_Check.l0 k (decide ((((rd_T35 x338005 x7).f1).length : Int) > 64)) t361 t362 true (wrap64 (x7 + 1)) x338000 x338001 x338002 x338003 x338004 x338005 x338006 x338007) else ((boltingref12_meet.f k ((rd_T35 x338005 x7).f1) x338004).bind fun t363 => (boltingref12_Check.l0 k (decide ((((rd_T35 x338005 x7).f1).length : Int) > 64)) t361 t362 t363 (wrap64 (x7 + 1)) x338000 x338001 x338002 x338003 x338004 x338005 x338006 x338007)))) else (if x6 = true then (boltingref12_Check.l0 k (decide ((((rd_T35 x338005 x7).f1).length : Int) > 64)) t361 false true (wrap64 (x7 + 1)) x338000 x338001 x338002 x338003 x338004 x338005 x338006 x338007) else ((boltingref12_meet.f k ((rd_T35 x338005 x7).f1) x338004).bind fun t364 => (boltingref12_Check.l0 k (decide ((((rd_T35 x338005 x7).f1).length : Int) > 64)) t361 false t364 (wrap64 (x7 + 1)) x338000 x338001 x338002 x338003 x338004 x338005 x338006 x338007))))) else (if x5 = true then ((boltingref12_once.f k ((rd_T35 x338005 x7).f1)).bind fun t365 => (if x6 = true then (boltingref12_Check.l0 k (decide ((((rd_T35 x338005 x7).f1).length : Int) > 64)) false t365 true (wrap64 (x7 + 1)) x338000 x338001 x338002 x338003 x338004 x338005 x338006 x338007) else ((boltingref12_meet.f k ((rd_T35 x338005 x7).f1) x338004).bind fun t366 => (boltingref12_Check.l0 k (decide ((((rd_T35 x338005 x7).f1).length : Int) > 64)) false t365 t366 (wrap64 (x7 + 1)) x338000 x338001 x338002 x338003 x338004 x338005 x338006 x338007)))) else (if x6 = true then (boltingref12_Check.l0 k (decide ((((rd_T35 x338005 x7).f1).length : Int) > 64)) false false true (wrap64 (x7 + 1)) x338000 x338001 x338002 x338003 x338004 x338005 x338006 x338007) else ((boltingref12_meet.f k ((rd_T35 x338005 x7).f1) x338004).bind fun t367 => (boltingref12_Check.l0 k (decide ((((rd_T35 x338005 x7).f1).length : Int) > 64)) false false t367 (wrap64 (x7 + 1)) x338000 x338001 x338002 x338003 x338004 x338005 x338006 x338007)))))) else (none)) else (if x3 = true then (some 2) else (if x4 = true then (if x5 = true then (if x6 = true then (some 120) else (some 0)) else (some 122)) else (some 121)))
end
def boltingref12_Check.f (k : Nat) (a0_0 : Bool) (a0_1 : Bool) (l0_2 : List ByteArray) (l0_3 : List ByteArray) (l0_4 : List ByteArray) (l0_5 : List (S35)) (a0_6 : Bool) (a0_7 : Bool) : Option (Int) := if (l0_2.length : Int) > 64 then (boltingref12_Check.j0 k true a0_0 a0_1 l0_2 l0_3 l0_4 l0_5 a0_6 a0_7) else (if (l0_3.length : Int) > 64 then (boltingref12_Check.j0 k true a0_0 a0_1 l0_2 l0_3 l0_4 l0_5 a0_6 a0_7) else (if (l0_4.length : Int) > 64 then (boltingref12_Check.j0 k true a0_0 a0_1 l0_2 l0_3 l0_4 l0_5 a0_6 a0_7) else (boltingref12_Check.j0 k (decide ((l0_5.length : Int) > 64)) a0_0 a0_1 l0_2 l0_3 l0_4 l0_5 a0_6 a0_7)))
end Go.Proofs.Ytjofofpplpmgjaa.Pr
/- boltingref12.Check comes to checkI. -/
namespace Go.Proofs.Ytjofofpplpmgjaa.Pure
set_option linter.unusedVariables false
set_option linter.unusedSimpArgs false
open Go.RowKit Go.Lib Go.Shelf Go.Proofs.YtjofofpplpmgjaaW.PrintWords Go.Proofs.YtjofofpplpmgjaaW.PrintLast Go.Proofs.YtjofofpplpmgjaaW.PrintMore Go.Proofs.Ytjofofpplpmgjaa.Pr

/-- Does a name stand twice in a list? -/
def dupB : List ByteArray → Bool
  | [] => false
  | x :: l => mem l x || dupB l
/-- Have two lists a name in common? -/
def meetB (a b : List ByteArray) : Bool := a.any (mem b)
/-! ### the check -/
def finI (big named single both : Bool) : Int := if big = true then 2 else if named = true then (if single = true then (if both = true then 120 else 0) else 122) else 121
def longB (l : List ByteArray) : Bool := decide (64 < l.length)
def allMay (attr : Bool) (l : List ByteArray) : Bool := l.all (mayB attr)
structure Small (c : Cf) (z : Nat) : Prop where
  els : ∀ s ∈ c.els, s.size < z
  rep : ∀ s ∈ c.rep, s.size < z
  ats : ∀ s ∈ c.ats, s.size < z
  per : ∀ p ∈ c.per, p.f0.size < z ∧ ∀ s ∈ p.f1, s.size < z
  le : z ≤ 4000000000000000000
theorem long_i (l : List ByteArray) : decide (((l.length : Nat) : Int) > 64) = longB l := decide_eq_decide.2 (by omega)
def namesOf (c : Cf) : List ByteArray := c.per.map (·.f0)
/-- What config.Check tells. -/
def checkI (c : Cf) : Int := finI ((longB c.els || longB c.rep || longB c.ats || decide (64 < c.per.length)) || c.per.any (fun p => longB p.f1))
  ((allMay false c.els && allMay false c.rep && allMay false (namesOf c) && allMay true c.ats) && c.per.all (fun p => allMay true p.f1))
  ((!dupB c.els && !dupB c.rep && !dupB (namesOf c) && !dupB c.ats) && c.per.all (fun p => !dupB p.f1))
  ((meetB c.els c.rep || (c.dt && !c.aal)) || c.per.any (fun p => meetB p.f1 c.ats))
end Go.Proofs.Ytjofofpplpmgjaa.Pure
/- A list sorted, each once, is as long as the list just if no name stands twice. -/
namespace Go.Proofs.Ytjofofpplpmgjaa.Pure
set_option linter.unusedVariables false
set_option linter.unusedSimpArgs false
open Go.RowKit Go.Lib Go.Shelf Go.Proofs.YtjofofpplpmgjaaW.PrintWords Go.Proofs.Ytjofofpplpmgjaa.Pr

/-- What stands in a list without doubles, and in another one: it is no longer. -/
theorem len_le {α : Type} [DecidableEq α] : ∀ (a b : List α), a.Nodup → (∀ x ∈ a, x ∈ b) → a.length ≤ b.length
  | [], b, _, _ => Nat.zero_le _
  | x :: a, b, hd, hm => by
    rw [List.nodup_cons] at hd
    have hx := hm x List.mem_cons_self
    have := len_le a (b.erase x) hd.2 (fun y hy => (List.mem_erase_of_ne (show y ≠ x from fun e => hd.1 (by rw [← e]; exact hy))).2 (hm y (List.mem_cons_of_mem _ hy)))
    have hl := List.length_erase_of_mem hx
    have hp := List.length_pos_of_mem hx
    simp only [List.length_cons]
    omega
theorem up_nodup {l : List (List UInt8)} (h : Up l) : l.Nodup := by
  have h' : l.Pairwise (· < ·) := h
  exact h'.imp (S := fun a b => a ≠ b) (fun {a b} g e => by subst e; exact lt_irr _ g)
theorem dup_nodup : ∀ l : List ByteArray, dupB l = false ↔ (l.map dat).Nodup
  | [] => by simp [dupB]
  | x :: l => by
    show (mem l x || dupB l) = false ↔ _
    rw [Bool.or_eq_false_iff, dup_nodup l, List.map_cons, List.nodup_cons]
    refine and_congr_left fun _ => ?_
    rw [Bool.eq_false_iff, Ne, mem_iff, List.mem_map]
    constructor
    · rintro h ⟨y, hy, e⟩; exact h (dat_inj e ▸ hy)
    · intro h hx; exact h ⟨x, hx, rfl⟩
theorem sorted_len_le (l : List (List UInt8)) : (sorted l).length ≤ l.length := len_le _ _ (up_nodup (sorted_up l)) (fun x hx => (sorted_mem l x).1 hx)
theorem dup_short : ∀ (l : List (List UInt8)), ¬ l.Nodup → ∃ m : List (List UInt8), m.length < l.length ∧ ∀ x ∈ l, x ∈ m
  | [], h => absurd List.nodup_nil h
  | x :: l, h => by
    by_cases hx : x ∈ l
    · exact ⟨l, by simp, fun y hy => by rcases List.mem_cons.1 hy with rfl | hy; exact hx; exact hy⟩
    · obtain ⟨m, hm, hs⟩ := dup_short l (fun g => h (List.nodup_cons.2 ⟨hx, g⟩))
      exact ⟨x :: m, by simp; omega, fun y hy => by
        rcases List.mem_cons.1 hy with rfl | hy
        · exact List.mem_cons_self
        · exact List.mem_cons_of_mem _ (hs y hy)⟩
theorem sorted_len (l : List ByteArray) : decide ((sorted (l.map dat)).length ≠ l.length) = dupB l := by
  cases h : dupB l with
  | false =>
    have hn := (dup_nodup l).1 h
    have h1 := sorted_len_le (l.map dat)
    have h2 := len_le (l.map dat) (sorted (l.map dat)) hn (fun x hx => (sorted_mem _ x).2 hx)
    rw [List.length_map] at h1 h2
    exact decide_eq_false (fun g => g (by omega))
  | true =>
    have hn : ¬ (l.map dat).Nodup := fun g => by rw [(dup_nodup l).2 g] at h; cases h
    obtain ⟨m, hm, hs⟩ := dup_short _ hn
    have := len_le (sorted (l.map dat)) m (up_nodup (sorted_up _)) (fun x hx => hs x ((sorted_mem _ x).1 hx))
    rw [List.length_map] at hm
    exact decide_eq_true (by omega)
end Go.Proofs.Ytjofofpplpmgjaa.Pure
/- config.Check: its contract. -/
namespace Go.Proofs.Ytjofofpplpmgjaa.Pure
set_option linter.unusedVariables false
set_option linter.unusedSimpArgs false
open Go.RowKit Go.Lib Go.Shelf Go.Proofs.YtjofofpplpmgjaaW.PrintWords Go.Proofs.YtjofofpplpmgjaaW.PrintLast Go.Proofs.YtjofofpplpmgjaaW.PrintMore Go.Proofs.Ytjofofpplpmgjaa.Pr

def rowsE (c : Cf) : List (List ByteArray) := [c.els, c.rep, namesOf c]
def rowsA (c : Cf) : List (List ByteArray) := c.ats :: c.per.map (·.f1)
theorem lists_l0 {c : Cf} (hf : Fit c) : ∀ (d i : Nat) (a : List ByteArray) (b : List (List ByteArray)), i + d = c.per.length → a.length ≤ i → b.length ≤ i + 1 → ∀ k, d < k →
    config_lists.l0 k a b c.per (c.per.length : Int) (i : Int) c.al c.aal c.els c.rep c.ats c.per c.com c.dt = some ([c.els, c.rep, a ++ (c.per.drop i).map (·.f0)], b ++ (c.per.drop i).map (·.f1))
  | 0, i, a, b, h, ha, hb, k, hk => by
    obtain ⟨k, rfl⟩ : ∃ m, k = m + 1 := ⟨k - 1, by omega⟩
    simp only [config_lists.l0]
    rw [if_neg (by omega), List.drop_of_length_le (by omega)]
    simp
  | d + 1, i, a, b, h, ha, hb, k, hk => by
    obtain ⟨k, rfl⟩ : ∃ m, k = m + 1 := ⟨k - 1, by omega⟩
    have hp := hf.per
    obtain ⟨p, hp0⟩ : ∃ p, c.per[i]? = some p := ⟨_, List.getElem?_eq_getElem (by omega)⟩
    simp only [config_lists.l0]
    rw [if_pos (by omega), if_pos (by omega), if_pos (by omega), if_pos (by omega), if_pos (by omega), wrap_succ (by omega) (by omega), rd35_at hp0, drop_at hp0]
    have := lists_l0 hf d (i + 1) (a ++ [p.f0]) (b ++ [p.f1]) (by omega) (by rw [List.length_append]; simp; omega) (by rw [List.length_append]; simp; omega) k (by omega)
    rw [show ((i + 1 : Nat) : Int) = (i : Int) + 1 from rfl] at this
    rw [this, List.append_assoc, List.append_assoc]
    rfl
theorem lists_f {c : Cf} (hf : Fit c) : config_lists.f 2000 c.al c.aal c.els c.rep c.ats c.per c.com c.dt = some (rowsE c, rowsA c) := by
  have := lists_l0 hf c.per.length 0 [] [c.ats] (by omega) (by simp) (by simp) 2000 (by have := hf.per; omega)
  exact this
theorem lists_calls {v : Value} {c : Cf} (hf : Fit c) {w : World} (h : CfV w v c) :
    Calls Try.prog 40 #[v] w fun e w' => ∃ v0 v1, e = .returned (.tuple #[v0, v1]) ∧ Sl (Kd.slice 9 Kd.string) w' v0 (rowsE c) ∧ Sl (Kd.slice 9 Kd.string) w' v1 (rowsA c) ∧ Below w.heap.size w w' := by
  obtain ⟨_, _, _, _, rfl, ⟨A2, c2, rfl, l2, h2⟩, ⟨A3, c3, rfl, l3, h3⟩, ⟨A4, c4, rfl, l4, h4⟩, ⟨A5, c5, rfl, l5, h5⟩⟩ := h
  refine (config_lists.calls 2000 c.al c.aal (fun k => k < w.heap.size) A2 c2 c.els (fun k => k < w.heap.size) A3 c3 c.rep (fun k => k < w.heap.size) A4 c4 c.ats (fun k => k < w.heap.size) A5 c5 c.per c.com c.dt (rowsE c) (rowsA c) w
    (Kd.V_mk l2 (Kd.C_F Kd.heap_string h2)) (Kd.V_mk l3 (Kd.C_F Kd.heap_string h3)) (Kd.V_mk l4 (Kd.C_F Kd.heap_string h4)) (Kd.V_mk l5 (Kd.C_F (Kd.heap_iso _ (Kd.heap_pair Kd.heap_string (Kd.heap_slice _ Kd.heap_string))) h5)) (lists_f hf)).mono ?_
  rintro e w' ⟨v0, v1, rfl, h0, h1, hb⟩
  exact ⟨v0, v1, rfl, Kd.N_reads h0, Kd.N_reads h1, hb⟩
theorem twice_f (l : List ByteArray) (hl : l.length ≤ 1000) : config_twice.f l = some (dupB l) := by
  unfold config_twice.f
  rw [sorted_f l (by omega), Option.bind_some, ← sorted_len l]
  refine congrArg some ?_
  rw [SS_len]
  rw [Bool.eq_iff_iff, bne_iff_ne, decide_eq_true_eq]
  omega
end Go.Proofs.Ytjofofpplpmgjaa.Pure
/- config.meet: its contract. -/
namespace Go.Proofs.Ytjofofpplpmgjaa.Pure
set_option linter.unusedVariables false
set_option linter.unusedSimpArgs false
open Go.RowKit Go.Lib Go.Shelf Go.Proofs.YtjofofpplpmgjaaW.PrintWords Go.Proofs.YtjofofpplpmgjaaW.PrintLast Go.Proofs.YtjofofpplpmgjaaW.PrintMore Go.Proofs.Ytjofofpplpmgjaa.Pr

set_option maxHeartbeats 2000000 in
theorem meet1_calls (b : List ByteArray) (hb : b.length ≤ 1000) (x : ByteArray) {W : World} {g : Nat} {vb : Value} (h1 : W.cell? ⟨g, 0, none⟩ = some vb) (hS : Sl Kd.string W vb b) :
    Calls Try.prog 72 (#[.string x] ++ #[.pointer (some ⟨g, 0, none⟩)]) W fun r w' => r = .returned (.bool (mem b x)) ∧ Below W.heap.size W w' := by
  show Calls Try.prog _ #[.string x, .pointer (some ⟨g, 0, none⟩)] W _
  have HC := hid (contains_calls hb x hS)
  clear hS
  go_enter Try.func72, Try.ntmps72
  go_wp2_with (go_at_call 31; refine HC.out.mono ?_; rintro r w' ⟨rfl, hb'⟩)
  go_ret
  exact ⟨rfl, hb'⟩
set_option maxHeartbeats 2000000 in
theorem meet_calls (a b : List ByteArray) (hb : b.length ≤ 1000) {w : World} {va vb : Value} (hA : Sl Kd.string w va a) (hS : Sl Kd.string w vb b) :
    Calls Try.prog 47 #[va, vb] w fun r w' => r = .returned (.bool (meetB a b)) ∧ Below w.heap.size w w' := by
  obtain ⟨A, c, rfl, hl, hC⟩ := hA
  obtain ⟨B, cb, rfl, hlb, hCb⟩ := hS
  have key : Hid (∀ o W, (∀ v, v = .slice B b.length cb → o = .cells #[v] 22 (0, 0) → W = w.alloc o → Calls Try.prog 68 #[.slice A a.length c, .func (.func 72) #[] #[.pointer (some ⟨w.heap.size, 0, none⟩)]] W fun r w' => r = .returned (.bool (meetB a b)) ∧ Below W.heap.size W w')) := fun o W v hv ho hW => by
    subst hv ho hW
    refine hasStr_calls (c := c) (mem b) 72 _ (fun args w => enters_ Try.func72 (by kernel_rfl) rfl args w) _ (Kd.C_below hC (bl_alloc _ _)) ?_
    rintro W x cs hx hBW rfl
    refine (meet1_calls b hb x (at_old (at_new w _ 22 0 rfl) hBW) (Sl.below (Sl.below ⟨B, cb, rfl, hlb, hCb⟩ (bl_alloc _ _)) hBW)).mono ?_
    rintro r w' ⟨rfl, hb'⟩
    exact ⟨rfl, below_step hBW hb'⟩
  have HB := hid (bl_alloc w)
  clear hl hC hlb hCb hb
  obtain ⟨m, hm⟩ : ∃ m, meetB a b = m := ⟨_, rfl⟩
  rw [hm] at key ⊢
  clear hm
  go_enter Try.func47, Try.ntmps47
  go_wp2_with (go_at_call 68; refine (key.out _ _ _ rfl rfl rfl).mono ?_; rintro r w' ⟨rfl, hb'⟩)
  go_ret
  exact ⟨rfl, below_step (HB.out _) hb'⟩
end Go.Proofs.Ytjofofpplpmgjaa.Pure
/- config.odd: its closures' contracts. -/
namespace Go.Proofs.Ytjofofpplpmgjaa.Pure
set_option linter.unusedVariables false
set_option linter.unusedSimpArgs false
open Go.RowKit Go.Lib Go.Shelf Go.Proofs.YtjofofpplpmgjaaW.PrintWords Go.Proofs.YtjofofpplpmgjaaW.PrintLast Go.Proofs.YtjofofpplpmgjaaW.PrintMore Go.Proofs.Ytjofofpplpmgjaa.Pr

set_option maxHeartbeats 2000000 in
theorem odd11_calls (f : Nat) (ef : ∀ args w, (callFunc f args).run Try.prog w = .ok (.enter f args) w) (m : Bool) (x : ByteArray) {W : World} {g : Nat} (h1 : W.cell? ⟨g, 0, none⟩ = some (.func (.func f) #[] #[])) (hf : Calls Try.prog f #[.string x] W fun r w' => r = .returned (.bool m) ∧ Below W.heap.size W w') :
    Calls Try.prog 69 (#[.string x] ++ #[.pointer (some ⟨g, 0, none⟩)]) W fun r w' => r = .returned (.bool (!m)) ∧ Below W.heap.size W w' := by
  show Calls Try.prog _ #[.string x, .pointer (some ⟨g, 0, none⟩)] W _
  go_enter Try.func69, Try.ntmps69
  go_wp2_with (go_at_fn f; refine hf.mono ?_; rintro r w' ⟨rfl, hb'⟩)
  go_ret
  exact ⟨rfl, hb'⟩
set_option maxHeartbeats 2000000 in
theorem odd1_calls (f : Nat) (ef : ∀ args w, (callFunc f args).run Try.prog w = .ok (.enter f args) w) (p : ByteArray → Bool) (l : List ByteArray) {w : World} {A : Option Addr} {c : Nat} (hC : Kd.string.C w A l.length l) {g : Nat} (h1 : w.cell? ⟨g, 0, none⟩ = some (.func (.func f) #[] #[]))
    (hf : ∀ x, x ∈ l → ∀ W, Calls Try.prog f #[.string x] W fun r w' => r = .returned (.bool (p x)) ∧ Below W.heap.size W w') :
    Calls Try.prog 67 (#[.slice A l.length c] ++ #[.pointer (some ⟨g, 0, none⟩)]) w fun r w' => r = .returned (.bool (l.any fun x => !p x)) ∧ Below w.heap.size w w' := by
  show Calls Try.prog _ #[.slice A l.length c, .pointer (some ⟨g, 0, none⟩)] w _
  have key := hid (hasStr_calls (c := c) (fun x => !p x) 69 #[.pointer (some ⟨g, 0, none⟩)] (fun args w => enters_ Try.func69 (by kernel_rfl) rfl args w) w hC (by
    rintro W x cs hx hBW rfl
    refine (odd11_calls f ef (p x) x (at_old h1 hBW) (hf x hx W)).mono ?_
    rintro r w' ⟨rfl, hb'⟩
    exact ⟨rfl, below_step hBW hb'⟩))
  obtain ⟨m, hm⟩ : ∃ m, (l.any fun x => !p x) = m := ⟨_, rfl⟩
  rw [hm] at key ⊢
  clear hm hC hf
  go_enter Try.func67, Try.ntmps67
  go_wp2_with (go_at_call 68; refine key.out.mono ?_; rintro r w' ⟨rfl, hb'⟩)
  go_ret
  exact ⟨rfl, hb'⟩
set_option maxHeartbeats 2000000 in
theorem odd_calls (f : Nat) (w : World) : Calls Try.prog 43 #[.func (.func f) #[] #[]] w fun r w' => ∃ g, r = .returned (.func (.func 67) #[] #[.pointer (some ⟨g, 0, none⟩)]) ∧ w'.cell? ⟨g, 0, none⟩ = some (.func (.func f) #[] #[]) ∧ Below w.heap.size w w' := by
  have HN := hid (fun t => at_new w #[.func (.func f) #[] #[]] t 0 (v := .func (.func f) #[] #[]) rfl)
  have HB := hid (bl_alloc w)
  go_enter Try.func43, Try.ntmps43
  go_wp2
  go_ret
  exact ⟨w.heap.size, rfl, HN.out _, HB.out _⟩
set_option maxHeartbeats 2000000 in
theorem check1_calls (a b : List ByteArray) (hb : b.length ≤ 1000) {w : World} {va vb : Value} (hA : Sl Kd.string w va a) (hS : Sl Kd.string w vb b) {g : Nat} (h1 : w.cell? ⟨g, 4, none⟩ = some vb) :
    Calls Try.prog 48 (#[va] ++ #[.pointer (some ⟨g, 0, none⟩)]) w fun r w' => r = .returned (.bool (meetB a b)) ∧ Below w.heap.size w w' := by
  show Calls Try.prog _ #[va, .pointer (some ⟨g, 0, none⟩)] w _
  have key := hid (meet_calls a b hb hA hS)
  clear hA hS
  go_enter Try.func48, Try.ntmps48
  go_wp2_with (go_at_call 47; refine key.out.mono ?_; rintro r w' ⟨rfl, hb'⟩)
  go_ret
  exact ⟨rfl, hb'⟩
end Go.Proofs.Ytjofofpplpmgjaa.Pure
/- config.Check: its contract. -/
namespace Go.Proofs.Ytjofofpplpmgjaa.Pure
set_option linter.unusedVariables false
set_option linter.unusedSimpArgs false
open Go.RowKit Go.Lib Go.Shelf Go.Proofs.YtjofofpplpmgjaaW.PrintWords Go.Proofs.YtjofofpplpmgjaaW.PrintLast Go.Proofs.YtjofofpplpmgjaaW.PrintMore Go.Proofs.Ytjofofpplpmgjaa.Pr

def bigB (c : Cf) : Bool := (rowsE c).any longB || (rowsA c).any longB
def oddE (c : Cf) : Bool := (rowsE c).any fun l => l.any fun x => !mayB false x
def oddA (c : Cf) : Bool := (rowsA c).any fun l => l.any fun x => !mayB true x
theorem any_not_all {α : Type} (p : α → Bool) (l : List α) : (l.any fun x => !p x) = !l.all p := by
  induction l with
  | nil => rfl
  | cons x l ih => rw [List.any_cons, List.all_cons, ih, Bool.not_and]
theorem checkI_eq {c : Cf} : checkI c = finI ((rowsE c).any longB || (rowsA c).any longB) (!(oddE c || oddA c)) (!((rowsE c).any dupB || (rowsA c).any dupB)) ((meetB c.els c.rep || (c.per.map (·.f1)).any (fun l => meetB l c.ats)) || (c.dt && !c.aal)) := by
  have e1 : longB (namesOf c) = decide (64 < c.per.length) := by unfold longB namesOf; rw [List.length_map]
  unfold checkI oddE oddA rowsE rowsA
  congr 1
  · simp only [List.any_cons, List.any_nil, Bool.or_false, e1, List.any_map]
    cases longB c.els <;> cases longB c.rep <;> cases longB c.ats <;> cases decide (64 < c.per.length) <;> rfl
  · have e2 : ((c.per.map (·.f1)).all fun l => l.all (mayB true)) = c.per.all (fun p => allMay true p.f1) := by rw [List.all_map]; rfl
    simp only [any_not_all, List.all_cons, List.all_nil, Bool.and_true]
    rw [e2]
    unfold allMay
    cases c.els.all (mayB false) <;> cases c.rep.all (mayB false) <;> cases (namesOf c).all (mayB false) <;> cases c.ats.all (mayB true) <;> cases c.per.all (fun p => p.f1.all (mayB true)) <;> rfl
  · simp only [List.any_cons, List.any_nil, Bool.or_false, List.any_map]
    have e2 : c.per.all (fun p => !dupB p.f1) = !c.per.any (dupB ∘ (·.f1)) := by
      have := any_not_all (fun p : S35 => !dupB p.f1) c.per
      simp only [Bool.not_not] at this
      rw [show c.per.any (dupB ∘ (·.f1)) = c.per.any (fun p => dupB p.f1) from rfl, this, Bool.not_not]
    rw [e2]
    cases dupB c.els <;> cases dupB c.rep <;> cases dupB (namesOf c) <;> cases dupB c.ats <;> cases c.per.any (dupB ∘ (·.f1)) <;> rfl
  · simp only [List.any_map]
    rw [show c.per.any ((fun l => meetB l c.ats) ∘ (·.f1)) = c.per.any (fun p => meetB p.f1 c.ats) from rfl]
    cases meetB c.els c.rep <;> cases c.per.any (fun p => meetB p.f1 c.ats) <;> cases c.dt <;> cases c.aal <;> rfl
/-- slices.ContainsFunc at a list of lists. -/
theorem rows_calls {w : World} {v : Value} {l : List (List ByteArray)} (h : Sl (Kd.slice 9 Kd.string) w v l) (p : List ByteArray → Bool) (g : Nat) (lb : Array Value) (eg : ∀ args w, (callFunc g args).run Try.prog w = .ok (.enter g args) w)
    (hp : ∀ W v x, x ∈ l → Below w.heap.size w W → Sl Kd.string w v x → Calls Try.prog g (#[v] ++ lb) W fun e w' => e = .returned (.bool (p x)) ∧ Below W.heap.size W w') :
    Calls Try.prog 41 #[v, .func (.func g) #[] lb] w fun e w' => e = .returned (.bool (l.any p)) ∧ Below w.heap.size w w' := by
  obtain ⟨A, c, rfl, hl, hC⟩ := h
  refine hasRow_calls (c := c) p g lb eg w hC ?_
  rintro W x cs hx hb ⟨A', c', rfl, hl', hC'⟩
  refine (hp W _ x hx hb ⟨A', c', rfl, hl', hC'⟩).mono ?_
  rintro e w' ⟨rfl, hb'⟩
  exact ⟨rfl, below_step hb hb'⟩
theorem right_calls (x : ByteArray) (hx : x.size ≤ 4000000000000000000) (W : World) : Calls Try.prog 44 #[.string x] W fun r w' => r = .returned (.bool (mayB false x)) ∧ Below W.heap.size W w' := by
  refine (names_Right.calls (x.size * 5 + 1) x _ W (right_f x hx (by omega))).mono ?_
  rintro e w' ⟨rfl, hd⟩
  exact ⟨rfl, drawn_below hd⟩
theorem nattr_calls (x : ByteArray) (hx : x.size ≤ 4000000000000000000) (W : World) : Calls Try.prog 45 #[.string x] W fun r w' => r = .returned (.bool (mayB true x)) ∧ Below W.heap.size W w' := by
  refine (names_Attr.calls (x.size * 9 + 1) x _ W (nattr_f x hx (by omega))).mono ?_
  rintro e w' ⟨rfl, hd⟩
  exact ⟨rfl, drawn_below hd⟩
/-- The sizes of a configuration's texts. -/
def Text (c : Cf) : Prop := (∀ l ∈ rowsE c, ∀ x ∈ l, x.size ≤ 4000000000000000000) ∧ ∀ l ∈ rowsA c, ∀ x ∈ l, x.size ≤ 4000000000000000000
theorem fit_rows {c : Cf} (hf : Fit c) : (∀ l ∈ rowsE c, l.length ≤ 1000) ∧ ∀ l ∈ rowsA c, l.length ≤ 1000 := by
  constructor
  · intro l hl
    simp only [rowsE, List.mem_cons, List.not_mem_nil, or_false] at hl
    rcases hl with rfl | rfl | rfl
    · exact hf.els
    · exact hf.rep
    · unfold namesOf; rw [List.length_map]; exact hf.per
  · intro l hl
    simp only [rowsA, List.mem_cons, List.mem_map] at hl
    rcases hl with rfl | ⟨p, hp, rfl⟩
    · exact hf.ats
    · exact hf.sub p hp
theorem tail_cut {w : World} {A : Option Addr} {c n : Nat} {x : List ByteArray} {l : List (List ByteArray)} (hn : (x :: l).length = n) (hc : n ≤ c) (hC : (Kd.slice 9 Kd.string).C w A (x :: l).length (x :: l)) :
    ∃ v, (∀ W : World, (Instr.slice 47 (.slice A n c) (some (.int .i64 1)) none none).run Try.prog W = .ok v W) ∧ Sl (Kd.slice 9 Kd.string) w v l := by
  subst hn
  obtain ⟨i, hi, hzz⟩ := Option.map_eq_some_iff.1 (show (Try.prog.info? 22).map (fun i => (i.zero, i.size, i.bytes)) = some (some (.slice none 0 0), 1, 24) by kernel_rfl)
  simp only [Prod.mk.injEq] at hzz
  refine ⟨_, cut_from (P := Try.prog) 47 22 .i64 Try.underlying47 hi 1 hzz.2.1 A (x :: l).length c 1 (by omega) (by simp; omega), ?_⟩
  have := Kd.C_drop (m := 1) (c := c) hC (by simp) hc
  have hlc : l.length ≤ c - 1 := by
    simp only [List.length_cons] at hc
    omega
  exact ⟨_, c - 1, rfl, hlc, this⟩
/-- What the calls of config.Check answer behind config.lists. -/
structure CK (g : Nat) (w1 : World) (v0 v1 v2 v3 vt : Value) (e1 e2 o1 o2 t1 t2 m1 m2 : Bool) : Prop where
  k1 : ∀ W, Below w1.heap.size w1 W → Calls Try.prog 41 #[v0, .func (.func 42) #[] #[]] W fun e w' => e = .returned (.bool e1) ∧ Below W.heap.size W w'
  k2 : ∀ W, Below w1.heap.size w1 W → Calls Try.prog 41 #[v1, .func (.func 42) #[] #[]] W fun e w' => e = .returned (.bool e2) ∧ Below W.heap.size W w'
  k3 : ∀ W q, Below w1.heap.size w1 W → W.cell? ⟨q, 0, none⟩ = some (.func (.func 44) #[] #[]) → Calls Try.prog 41 #[v0, .func (.func 67) #[] #[.pointer (some ⟨q, 0, none⟩)]] W fun e w' => e = .returned (.bool o1) ∧ Below W.heap.size W w'
  k4 : ∀ W q, Below w1.heap.size w1 W → W.cell? ⟨q, 0, none⟩ = some (.func (.func 45) #[] #[]) → Calls Try.prog 41 #[v1, .func (.func 67) #[] #[.pointer (some ⟨q, 0, none⟩)]] W fun e w' => e = .returned (.bool o2) ∧ Below W.heap.size W w'
  k5 : ∀ W, Below w1.heap.size w1 W → Calls Try.prog 41 #[v0, .func (.func 46) #[] #[]] W fun e w' => e = .returned (.bool t1) ∧ Below W.heap.size W w'
  k6 : ∀ W, Below w1.heap.size w1 W → Calls Try.prog 41 #[v1, .func (.func 46) #[] #[]] W fun e w' => e = .returned (.bool t2) ∧ Below W.heap.size W w'
  k7 : ∀ W, Below w1.heap.size w1 W → Calls Try.prog 47 #[v2, v3] W fun e w' => e = .returned (.bool m1) ∧ Below W.heap.size W w'
  k8 : ∀ W, Below w1.heap.size w1 W → Calls Try.prog 41 #[vt, .func (.func 48) #[] #[.pointer (some ⟨g, 0, none⟩)]] W fun e w' => e = .returned (.bool m2) ∧ Below W.heap.size W w'
theorem ck_mk {c : Cf} (hf : Fit c) (ht : Text c) {g : Nat} {w1 : World} {v0 v1 v2 v3 v4 vt : Value} (h0 : Sl (Kd.slice 9 Kd.string) w1 v0 (rowsE c)) (h1 : Sl (Kd.slice 9 Kd.string) w1 v1 (rowsA c)) (h2 : Sl Kd.string w1 v2 c.els) (h3 : Sl Kd.string w1 v3 c.rep) (h4 : Sl Kd.string w1 v4 c.ats)
    (ht1 : Sl (Kd.slice 9 Kd.string) w1 vt (c.per.map (·.f1))) (hg : w1.cell? ⟨g, 4, none⟩ = some v4) :
    CK g w1 v0 v1 v2 v3 vt ((rowsE c).any longB) ((rowsA c).any longB) (oddE c) (oddA c) ((rowsE c).any dupB) ((rowsA c).any dupB) (meetB c.els c.rep) ((c.per.map (·.f1)).any fun l => meetB l c.ats) where
  k1 W hb := rows_calls (h0.below hb) longB _ #[] (fun args w => enters_ Try.func42 (by kernel_rfl) rfl args w) (fun W' v x hx hb' hS => by
    obtain ⟨A, k, rfl, hl, hC⟩ := hS
    refine (config_long.calls A k x (longB x) W' (Kd.C_below hC hb') hl ?_).mono ?_
    · show some (decide (((x.length : Nat) : Int) > 64)) = _
      rw [long_i]
    · rintro e w' ⟨rfl, hd⟩
      exact ⟨rfl, drawn_below hd⟩)
  k2 W hb := rows_calls (h1.below hb) longB _ #[] (fun args w => enters_ Try.func42 (by kernel_rfl) rfl args w) (fun W' v x hx hb' hS => by
    obtain ⟨A, k, rfl, hl, hC⟩ := hS
    refine (config_long.calls A k x (longB x) W' (Kd.C_below hC hb') hl ?_).mono ?_
    · show some (decide (((x.length : Nat) : Int) > 64)) = _
      rw [long_i]
    · rintro e w' ⟨rfl, hd⟩
      exact ⟨rfl, drawn_below hd⟩)
  k3 W q hb hq := rows_calls (h0.below hb) (fun l => l.any fun x => !mayB false x) _ _ (fun args w => enters_ Try.func67 (by kernel_rfl) rfl args w) (fun W' v x hx hb' hS => by
    obtain ⟨A, k, rfl, hl, hC⟩ := hS
    exact odd1_calls _ (fun args w => enters_ Try.func44 (by kernel_rfl) rfl args w) (mayB false) x (Kd.C_below hC hb') (at_old hq hb') (fun y hy W2 => right_calls y (ht.1 x hx y hy) W2))
  k4 W q hb hq := rows_calls (h1.below hb) (fun l => l.any fun x => !mayB true x) _ _ (fun args w => enters_ Try.func67 (by kernel_rfl) rfl args w) (fun W' v x hx hb' hS => by
    obtain ⟨A, k, rfl, hl, hC⟩ := hS
    exact odd1_calls _ (fun args w => enters_ Try.func45 (by kernel_rfl) rfl args w) (mayB true) x (Kd.C_below hC hb') (at_old hq hb') (fun y hy W2 => nattr_calls y (ht.2 x hx y hy) W2))
  k5 W hb := rows_calls (h0.below hb) dupB _ #[] (fun args w => enters_ Try.func46 (by kernel_rfl) rfl args w) (fun W' v x hx hb' hS => by
    obtain ⟨A, k, rfl, hl, hC⟩ := hS
    exact config_twice.calls A k x (dupB x) W' (Kd.C_below hC hb') hl (twice_f x ((fit_rows hf).1 x hx)))
  k6 W hb := rows_calls (h1.below hb) dupB _ #[] (fun args w => enters_ Try.func46 (by kernel_rfl) rfl args w) (fun W' v x hx hb' hS => by
    obtain ⟨A, k, rfl, hl, hC⟩ := hS
    exact config_twice.calls A k x (dupB x) W' (Kd.C_below hC hb') hl (twice_f x ((fit_rows hf).2 x hx)))
  k7 W hb := meet_calls c.els c.rep hf.rep (h2.below hb) (h3.below hb)
  k8 W hb := rows_calls (ht1.below hb) (fun l => meetB l c.ats) _ _ (fun args w => enters_ Try.func48 (by kernel_rfl) rfl args w) (fun W' v x hx hb' hS =>
    check1_calls x c.ats hf.ats (hS.below hb') ((h4.below hb).below hb') (at_old (at_old hg hb) hb'))
end Go.Proofs.Ytjofofpplpmgjaa.Pure
/- config.Check: the walk. -/
namespace Go.Proofs.Ytjofofpplpmgjaa.Pure
set_option linter.unusedVariables false
set_option linter.unusedSimpArgs false
open Go.RowKit Go.Lib Go.Shelf Go.Proofs.YtjofofpplpmgjaaW.PrintWords Go.Proofs.YtjofofpplpmgjaaW.PrintLast Go.Proofs.YtjofofpplpmgjaaW.PrintMore Go.Proofs.Ytjofofpplpmgjaa.Pr

/-- What stands behind config.lists. -/
structure CL (w w1 : World) (v0 v1 v2 v3 : Value) (aal dt e1 e2 o1 o2 t1 t2 m1 m2 : Bool) : Prop where
  cut : ∃ vt, (∀ W : World, (Instr.slice 47 v1 (some (.int .i64 1)) none none).run Try.prog W = .ok vt W) ∧ CK w.heap.size w1 v0 v1 v2 v3 vt e1 e2 o1 o2 t1 t2 m1 m2
  below : Below w.heap.size w w1
  c1 : w1.cell? ⟨w.heap.size, 1, none⟩ = some (.bool aal)
  c2 : w1.cell? ⟨w.heap.size, 2, none⟩ = some v2
  c3 : w1.cell? ⟨w.heap.size, 3, none⟩ = some v3
  c7 : w1.cell? ⟨w.heap.size, 7, none⟩ = some (.bool dt)
theorem cl_mk {v2 v3 v4 v5 : Value} {c : Cf} (hf : Fit c) (ht : Text c) {w : World} (h2 : Sl Kd.string w v2 c.els) (h3 : Sl Kd.string w v3 c.rep) (h4 : Sl Kd.string w v4 c.ats) (h5 : Sl k35 w v5 c.per) :
    Calls Try.prog 40 #[.agg #[.bool c.al, .bool c.aal, v2, v3, v4, v5, .bool c.com, .bool c.dt]] (w.alloc (.cells #[.bool c.al, .bool c.aal, v2, v3, v4, v5, .bool c.com, .bool c.dt] 25)) fun e w1 => ∃ v0 v1, e = .returned (.tuple #[v0, v1]) ∧
      CL w w1 v0 v1 v2 v3 c.aal c.dt ((rowsE c).any longB) ((rowsA c).any longB) (oddE c) (oddA c) ((rowsE c).any dupB) ((rowsA c).any dupB) (meetB c.els c.rep) ((c.per.map (·.f1)).any fun l => meetB l c.ats) := by
  have hb0 := bl_alloc w (.cells #[.bool c.al, .bool c.aal, v2, v3, v4, v5, .bool c.com, .bool c.dt] 25)
  refine (lists_calls hf (CfV.below ⟨v2, v3, v4, v5, rfl, h2, h3, h4, h5⟩ hb0)).mono ?_
  rintro e w1 ⟨v0, v1, rfl, s0, s1, hb⟩
  refine ⟨v0, v1, rfl, ?_⟩
  have s1' := s1
  obtain ⟨A, k, rfl, hk, hC⟩ := s1'
  obtain ⟨vt, hcut, hst⟩ := tail_cut (l := c.per.map (·.f1)) (x := c.ats) rfl hk hC
  have hb1 := below_step hb0 hb
  exact ⟨⟨vt, hcut, ck_mk hf ht s0 s1 (h2.below hb1) (h3.below hb1) (h4.below hb1) hst (at_old (at_new w _ _ 4 rfl) hb)⟩, hb1, at_old (at_new w _ _ 1 rfl) hb, at_old (at_new w _ _ 2 rfl) hb, at_old (at_new w _ _ 3 rfl) hb, at_old (at_new w _ _ 7 rfl) hb⟩
set_option maxHeartbeats 8000000 in
theorem check_calls {v : Value} {c : Cf} (hf : Fit c) (ht : Text c) {w : World} (h : CfV w v c) :
    Calls Try.prog 18 #[v] w fun e w' => e = .returned (.int .i64 (checkI c)) ∧ Below w.heap.size w w' := by
  obtain ⟨v2, v3, v4, v5, rfl, h2, h3, h4, h5⟩ := h
  have HL := hid (cl_mk hf ht h2 h3 h4 h5)
  rw [checkI_eq]
  generalize (rowsE c).any longB = e1 at HL ⊢
  generalize (rowsA c).any longB = e2 at HL ⊢
  generalize oddE c = o1 at HL ⊢
  generalize oddA c = o2 at HL ⊢
  generalize (rowsE c).any dupB = t1 at HL ⊢
  generalize (rowsA c).any dupB = t2 at HL ⊢
  generalize meetB c.els c.rep = m1 at HL ⊢
  generalize ((c.per.map (·.f1)).any fun l => meetB l c.ats) = m2 at HL ⊢
  obtain ⟨al, aal, els, rep, ats, per, com, dt⟩ := c
  clear h2 h3 h4 h5 hf ht
  have HW := hid (bl_alloc w)
  cases e1
  cases e2
  cases o1
  cases o2
  cases t1
  cases t2
  cases m1
  cases m2
  cases dt
  rotate_left
  cases aal
  all_goals
    go_enter Try.func18, Try.ntmps18
    go_wp2_with first
      | (go_at_call 40; refine HL.out.mono ?_; rintro e w1 ⟨v0, v1, rfl, hcl⟩; obtain ⟨⟨vt, hcut, hck⟩, hbl, c1, c2, c3, c7⟩ := hcl; have HC := hid hck; have HA := hid hbl; have HB := hid (Below.refl w1.heap.size w1); clear hck hbl HL)
      | (go_at_call 41; first
          | with_reducible refine (HC.out.k1 _ HB.out).mono ?_
          | with_reducible refine (HC.out.k2 _ HB.out).mono ?_
          | with_reducible refine (HC.out.k3 _ _ HB.out (by assumption)).mono ?_
          | with_reducible refine (HC.out.k4 _ _ HB.out (by assumption)).mono ?_
          | with_reducible refine (HC.out.k5 _ HB.out).mono ?_
          | with_reducible refine (HC.out.k6 _ HB.out).mono ?_
          | with_reducible refine (HC.out.k8 _ HB.out).mono ?_
         rintro e w2 ⟨rfl, hb⟩; replace HB := hid (below_step HB.out hb); replace c1 := at_old c1 hb; replace c2 := at_old c2 hb; replace c3 := at_old c3 hb; replace c7 := at_old c7 hb; clear hb)
      | (go_at_call 43; refine (odd_calls _ _).mono ?_; rintro e w2 ⟨g, rfl, hq, hb⟩; replace HB := hid (below_step HB.out hb); replace c1 := at_old c1 hb; replace c2 := at_old c2 hb; replace c3 := at_old c3 hb; replace c7 := at_old c7 hb; clear hb)
      | (go_at_call 47; refine (HC.out.k7 _ HB.out).mono ?_; rintro e w2 ⟨rfl, hb⟩; replace HB := hid (below_step HB.out hb); replace c1 := at_old c1 hb; replace c2 := at_old c2 hb; replace c3 := at_old c3 hb; replace c7 := at_old c7 hb; clear hb)
    go_ret
    exact ⟨by first | rfl | (simp; done), below_step HA.out HB.out⟩
end Go.Proofs.Ytjofofpplpmgjaa.Pure
/- slices.Clone at texts, and at api.Per: their contracts. -/
namespace Go.Proofs.Ytjofofpplpmgjaa.Pr
set_option linter.unusedVariables false
set_option linter.unusedSimpArgs false
open Go.RowKit Go.Lib Go.Shelf Go.Sort Go.Proofs.Ytjofofpplpmgjaa Go.Proofs.YtjofofpplpmgjaaW.PrintWords Go.Proofs.YtjofofpplpmgjaaW.PrintLast Go.Proofs.YtjofofpplpmgjaaW.PrintMore

def slices_Clone_string_string.f (l : List ByteArray) : Option (List ByteArray) := if l.length ≤ 4294967296 then some l else none
def api_Per_64.f (l : List S35) : Option (List S35) := if l.length ≤ 4294967296 then some l else none
theorem own_R {w : World} {base : Nat} {v : Value} {l : List ByteArray} (h : w.ownsRow base 9 1 v l.length (l.map Value.string)) : Kd.R Kd.string 9 w base (fun _ => True) v l :=
  Kd.R_of_own (enc := Value.string) h (fun _ _ => trivial)
theorem slices_Clone_string_string.calls (A0 : Option Addr) (c0 : Nat) (l0 : List ByteArray) (r : List ByteArray) (w : World) (hr0 : Kd.C Kd.string w A0 l0.length l0) (hc0 : l0.length ≤ c0) (h : slices_Clone_string_string.f l0 = some r) :
    Calls Try.prog 63 #[.slice A0 l0.length c0] w fun e w' => ∃ v0_ : Value, e = .returned (v0_) ∧ Kd.R Kd.string 9 w' w.heap.size (fun _ => True) v0_ r ∧ Below w.heap.size w w' := by
  unfold slices_Clone_string_string.f at h
  split at h
  case isFalse => cases h
  rename_i hlen
  obtain rfl := Option.some.inj h
  clear h
  have hrd := Kd.reads_of_C (d := ByteArray.empty) hr0
  clear hr0
  rcases Nat.eq_zero_or_pos l0.length with h0 | h0
  · obtain rfl := List.eq_nil_of_length_eq_zero h0
    cases A0 with
    | none =>
      refine (Try.slices_Clone_string_nil 0 c0 w).mono ?_
      rintro e w1 ⟨rfl, rfl⟩
      exact ⟨_, rfl, Kd.R_nil _ _ _ _ _, Below.refl _ _⟩
    | some a =>
      refine (Try.slices_Clone_string_zero a c0 w).mono ?_
      rintro e w1 ⟨v', rfl, ho, _, hb⟩
      exact ⟨_, rfl, own_R (l := []) ho, hb⟩
  · obtain ⟨ad, rfl, hcell⟩ := hrd.2.2 h0
    obtain ⟨bk, of, sp⟩ := ad
    have hsp := spot_none (by simpa [Addr.add] using hcell 0 h0)
    simp only at hsp
    subst hsp
    have hcl := Try.slices_Clone_string bk of l0.length c0 l0 w (Nat.le_refl _) (by omega) (fun j hj => by
      have := hcell j hj
      unfold Addr.add at this
      split at this
      · rename_i hj0; subst hj0; simpa using this
      · exact this)
    rw [List.take_length] at hcl
    refine hcl.mono ?_
    rintro e w1 ⟨v', rfl, ho, _, hb⟩
    exact ⟨_, rfl, own_R ho, hb⟩
/-- A row that is read, each element's own reads in okp. -/
def Shares (okp : Nat → Prop) (w : World) (A : Option Addr) (n : Nat) (l : List S35) : Prop := ReadsRow (fun x c => Kd.FK k35 w okp x c) 2 w A n l
theorem Shares.below {okp : Nat → Prop} {w w1 : World} {A : Option Addr} {n : Nat} {l : List S35} (h : Shares okp w A n l) (hb : Below w.heap.size w w1) : Shares okp w1 A n l := ReadsRow.imp_ h hb (fun _ _ hk => Kd.FK_below hk hb)
theorem Shares.bound {okp : Nat → Prop} {w : World} {A : Option Addr} {n : Nat} {l : List S35} (h : Shares okp w A n l) : Shares (fun k => okp k ∧ k < w.heap.size) w A n l := ReadsRow.imp_ h (Below.refl _ _) (fun _ _ hf => Kd.FK_bound hf)
/-- A row of the call's own, read so. -/
theorem Shares.of_N {w : World} {A : Option Addr} {n c e base : Nat} {ok : Nat → Prop} {l : List S35} (h : Kd.N k35 e w base ok (.slice A n c) l) : Shares (fun k => ok k ∧ some k ≠ (Value.slice A n c).ownBlock) w A l.length l := by
  obtain ⟨_, rows, hl, hR, hf⟩ := h
  obtain ⟨hn, hc, hC⟩ := Kd.R_reads' hR
  rw [hl] at hC
  refine ⟨rfl, hC.2.1, fun hp => ?_⟩
  obtain ⟨ad, he, hcell⟩ := hC.2.2 hp
  refine ⟨ad, he, fun j p hj => ?_⟩
  have hjl : j < rows.length := by have := (List.getElem?_eq_some_iff.1 hj).1; omega
  obtain ⟨c', hcl, hK, hcc⟩ := hcell j _ (List.getElem?_eq_getElem hjl)
  have hk := hf j p _ hj (List.getElem?_eq_getElem hjl)
  refine ⟨c', hcl, ?_, hcc⟩
  rw [show c' = rows[j] from hK.1]
  exact hk
section
variable {P : Program} {ops : Array Oper} {rest : List Oper} {o : Oper} {a : Act} {Q : Exit → Act → World → Prop}
/-- append(v, ys...): ys is shared. -/
theorem N_append_shares {w0 W : World} (base : Nat) (hgd : o.guard = none) (s x : Operand) (t e : TypeId) (z : Value) (bytes : Nat)
    (ho : o.op = .call { callee := .builtin .append, args := #[s, x], argTypes := #[t, t] })
    (ht : P.underlying t = some (.slice e)) (hinfo : (P.info? e).map (fun i => (i.zero, i.size, i.bytes)) = some (some z, k35.sz, bytes)) (hz : z.cells.size = k35.sz) (hs0 : 0 < k35.sz) (hb0 : 0 < bytes)
    (v : Value) (xs ys : List S35) (A : Option Addr) (m c : Nat) (ok okp : Nat → Prop) (hs : a.eval s = v) (hx : a.eval x = .slice A m c)
    (HO : Kd.N k35 e W base ok v xs) (HR : Shares okp W A m ys) (hokp : ∀ k, okp k → ok k ∧ some k ≠ v.ownBlock) (hfresh : ∀ k, W.heap.size ≤ k → ok k)
    (HB : Below base w0 W) (hbase : base ≤ W.heap.size) (hl : (xs.length + m) * bytes ≤ 140737488355328)
    (h : ∀ v1 w1, Kd.N k35 e w1 base ok v1 (xs ++ ys) → Below base w0 w1 → W.grownBy w1 v.ownBlock → (v1.ownBlock = v.ownBlock ∨ ∃ b, v1.ownBlock = some b ∧ W.heap.size ≤ b) → wpList P ops Q rest (a.put o.dst v1) w1) :
    wpList P ops Q (o :: rest) a W := by
  obtain ⟨h0, rows, hlr, hR, hf⟩ := HO
  obtain ⟨news, hnl, hnr, hnf⟩ := Kd.reads_raw HR (fun y c hk => ⟨k35.K_len (Kd.FK_now hk), k35.K_one (Kd.FK_now hk)⟩)
  refine Kd.R_append_rows (Kd.raw 2) base hgd s x t e z bytes ho ht hinfo hz hs0 hb0 v rows news A m c (fun _ => True) (fun _ => False) hs hx (Kd.raw_any hR) hnr (fun _ _ hk => hk) (fun _ hk => hk.elim) (fun _ _ => trivial) HB hbase (by rw [hlr]; exact hl) ?_
  intro v1 w1 hr hb hg hat
  exact h v1 w1 (Kd.N_appended h0 hlr hf hnl hnf hokp hfresh hr hg hat) hb hg hat
end
set_option maxHeartbeats 2000000 in
theorem api_Per_64.calls (A0 : Option Addr) (c0 : Nat) (l0 : List S35) (r : List S35) (okp : Nat → Prop) (w : World) (hokp : ∀ k, okp k → k < w.heap.size) (hr0 : Shares okp w A0 l0.length l0) (hc0 : l0.length ≤ c0) (h : api_Per_64.f l0 = some r) :
    Calls Try.prog 64 #[.slice A0 l0.length c0] w fun e w' => ∃ v0_ : Value, e = .returned (v0_) ∧ Kd.N k35 35 w' w.heap.size (fun k => okp k ∨ w.heap.size ≤ k) v0_ r ∧ Below w.heap.size w w' := by
  unfold api_Per_64.f at h
  split at h
  case isFalse => cases h
  rename_i hlen
  obtain rfl := Option.some.inj h
  clear h
  have h0 : A0 = none → l0 = [] := fun h => by
    rcases Nat.eq_zero_or_pos l0.length with h0 | h0
    · exact List.eq_nil_of_length_eq_zero h0
    · obtain ⟨ad, h2, _⟩ := hr0.2.2 h0
      rw [h] at h2; cases h2
  have HR := hid hr0
  have HW := hid hokp
  have HB := hid (Below.refl w.heap.size w)
  have HL := hid hlen
  have q23 : ∀ (w : World) (a : Option Addr) (n c n' c' : Nat), (binOp .eql 23 (.slice a n c) (.slice none n' c')).run Try.prog w = .ok (.bool a.isNone) w := fun w a n c n' c' => Lib.run_eql_slice_nil w _ _ a n c n' c' Try.underlying23
  clear hr0 hokp hlen hc0
  cases A0 with
  | none =>
    obtain rfl := h0 rfl
    go_enter Try.func64, Try.ntmps64
    go_wp2
    go_ret
    exact ⟨_, rfl, Kd.N_nil _ _ _ _ _, HB.out⟩
  | some a =>
    clear h0
    go_enter Try.func64, Try.ntmps64
    go_wp2_with first
      | ((with_reducible refine gate_dst (N := 5) rfl ?_); refine Kd.N_lit (w0 := w) k35 w.heap.size 35 ?hg (N' := 5) ?hd (xs := ([] : List S35)) (inner := []) (ok := fun k => okp k ∨ w.heap.size ≤ k) (okp := fun _ => False) ?hr ?hp (fun _ h => h.elim) (.inr (Nat.le_refl _)) HB.out (Nat.le_refl _) (by decide) ?_; (case hg => rfl); (case hd => rfl); (case hr => first | (go_simp; done) | (go_simp; rfl)); (case hp => exact Reps.none _ _); intro v1 w1 hN hb hg hat; have HN := hid hN; have HB1 := hid hb; have HG := hid hg; have HT := hid hat; clear hN hb hg hat)
      | ((with_reducible refine gate_builtin (b := .append) (xs := #[.tmp 5, .tmp 6]) rfl ?_); at_builtin; refine N_append_shares (w0 := w) w.heap.size rfl (.tmp 5) (.tmp 6) 23 35 (.agg #[(.string ⟨#[]⟩), (.slice none 0 0)]) 40 rfl Try.underlying23 info35 rfl (by decide) (by omega) v1 [] l0 (some a) l0.length c0 _ okp rfl rfl HN.out (Shares.below HR.out HB1.out) ?aK ?aF HB1.out (below_size HB1.out) ?aL ?_; (case aK => intro k hk; exact ⟨.inl hk, fun he => by obtain ⟨b, hb, hl⟩ := HT.out; rw [hb] at he; cases he; have := HW.out k hk; omega⟩); (case aF => intro k hk; exact .inr (Nat.le_trans (below_size HB1.out) hk)); (case aL => have := HL.out; simp; omega); intro v2 w2 hN hb hg hat; have HN2 := hid hN; have HB2 := hid hb; clear hN hb hg hat)
    go_ret
    exact ⟨_, rfl, HN2.out, HB2.out⟩
end Go.Proofs.Ytjofofpplpmgjaa.Pr
/- A configuration stored over whole: what lies in other blocks stays. -/
namespace Go.Proofs.Ytjofofpplpmgjaa.Pr
set_option linter.unusedVariables false
open Go.RowKit Go.Proofs.YtjofofpplpmgjaaW.PrintWords Go.Proofs.YtjofofpplpmgjaaW.PrintLast Go.Proofs.YtjofofpplpmgjaaW.PrintMore
/-- Done so many, so many to do. -/
abbrev tf (n m : Nat) : Array Bool := ⟨List.replicate n true ++ List.replicate m false⟩
section
variable {α : Type} {d : Kd α} {e : Nat} {w : World} {base : Nat} {ok : Nat → Prop} {v : Value} {xs : List α}
theorem R_far8 {g : Nat} (h : d.R e w base ok v xs) (hok : ∀ k, ok k → k ≠ g) (u0 u1 u2 u3 u4 u5 u6 u7 : Value) :
    d.R e ((((((((w.setCell ⟨g, 0, none⟩ u0).setCell ⟨g, 1, none⟩ u1).setCell ⟨g, 2, none⟩ u2).setCell ⟨g, 3, none⟩ u3).setCell ⟨g, 4, none⟩ u4).setCell ⟨g, 5, none⟩ u5).setCell ⟨g, 6, none⟩ u6).setCell ⟨g, 7, none⟩ u7) base ok v xs :=
  Kd.R_far (p := ⟨g, 7, none⟩) (Kd.R_far (p := ⟨g, 6, none⟩) (Kd.R_far (p := ⟨g, 5, none⟩) (Kd.R_far (p := ⟨g, 4, none⟩) (Kd.R_far (p := ⟨g, 3, none⟩) (Kd.R_far (p := ⟨g, 2, none⟩) (Kd.R_far (p := ⟨g, 1, none⟩) (Kd.R_far (p := ⟨g, 0, none⟩) h hok u0) hok u1) hok u2) hok u3) hok u4) hok u5) hok u6) hok u7
theorem N_far8 {g : Nat} (h : Kd.N d e w base ok v xs) (hok : ∀ k, ok k → k ≠ g) (u0 u1 u2 u3 u4 u5 u6 u7 : Value) :
    Kd.N d e ((((((((w.setCell ⟨g, 0, none⟩ u0).setCell ⟨g, 1, none⟩ u1).setCell ⟨g, 2, none⟩ u2).setCell ⟨g, 3, none⟩ u3).setCell ⟨g, 4, none⟩ u4).setCell ⟨g, 5, none⟩ u5).setCell ⟨g, 6, none⟩ u6).setCell ⟨g, 7, none⟩ u7) base ok v xs :=
  Kd.N_far (p := ⟨g, 7, none⟩) (Kd.N_far (p := ⟨g, 6, none⟩) (Kd.N_far (p := ⟨g, 5, none⟩) (Kd.N_far (p := ⟨g, 4, none⟩) (Kd.N_far (p := ⟨g, 3, none⟩) (Kd.N_far (p := ⟨g, 2, none⟩) (Kd.N_far (p := ⟨g, 1, none⟩) (Kd.N_far (p := ⟨g, 0, none⟩) h hok u0) hok u1) hok u2) hok u3) hok u4) hok u5) hok u6) hok u7
end
end Go.Proofs.Ytjofofpplpmgjaa.Pr
-- SLIMMED
namespace Go.Proofs.Ytjofofpplpmgjaa.Pr
open Go.RowKit Go.Proofs.YtjofofpplpmgjaaW.PrintWords Go.Proofs.YtjofofpplpmgjaaW.PrintLast Go.Proofs.YtjofofpplpmgjaaW.PrintMore
attribute [local go_sem] max2_int min2_int max_two min_two max_three min_three max_four min_four   -- for this text's walks alone
set_option linter.unusedVariables false
set_option linter.unusedSimpArgs false

/-! ### config_copied: function 35 -/
def config_copied.l0 : Nat → Int → Int → Bool → Bool → List ByteArray → List ByteArray → List ByteArray → List (S35) → Bool → Bool → Option (Bool × Bool × List ByteArray × List ByteArray × List ByteArray × (List (S35)) × Bool × Bool)
 | 0, _, _, _, _, _, _, _, _, _, _ => none
 | k + 1, x22, x23, x189000, x189001, x189002, x189003, x189004, x189005, x189006, x189007 => if x23 < x22 then (if 0 ≤ x23 then (if x23 < (x189005.length : Int) then ((slices_Clone_string_string.f ((rd_T35 x189005 x23).f1)).bind fun t203 => (config_copied.l0 k x22 (wrap64 (x23 + 1)) x189000 x189001 x189002 x189003 x189004 (x189005.set (x23 : Int).toNat (⟨(rd_T35 x189005 x23).f0, t203⟩ : S35)) x189006 x189007)) else (none)) else (none)) else (some (x189000, x189001, x189002, x189003, x189004, x189005, x189006, x189007))
def config_copied.f (k : Nat) (a0_0 : Bool) (a0_1 : Bool) (l0_2 : List ByteArray) (l0_3 : List ByteArray) (l0_4 : List ByteArray) (l0_5 : List (S35)) (a0_6 : Bool) (a0_7 : Bool) : Option (Bool × Bool × List ByteArray × List ByteArray × List ByteArray × (List (S35)) × Bool × Bool) := (slices_Clone_string_string.f l0_2).bind fun t190 => ((slices_Clone_string_string.f l0_3).bind fun t193 => ((slices_Clone_string_string.f l0_4).bind fun t196 => ((api_Per_64.f l0_5).bind fun t199 => (config_copied.l0 k (t199.length : Int) 0 a0_0 a0_1 t190 t193 t196 t199 a0_6 a0_7))))
def config_copied.T1 : Bool × List (List Nat × List Nat) := (true, [([], []), ([0], [0]), ([1], [1]), ([], []), ([3], [3]), ([4, 2], [4]), ([], []), ([6], [6]), ([7, 5], [7]), ([], []), ([9], [9]), ([10, 8], [10]), ([0, 1, 2, 3, 4, 6, 7, 9, 10], []), ([12, 2, 11, 0, 1, 2, 3, 4, 6, 7, 9, 10], [2, 12]), ([0, 1, 2, 3, 4, 5, 6, 7, 9, 10, 12, 13], []), ([14, 5, 13, 0, 1, 2, 3, 4, 5, 6, 7, 9, 10, 12, 13], [5, 14]), ([0, 1, 2, 3, 4, 5, 6, 7, 8, 9, 10, 12, 13, 14, 15], []), ([16, 8, 15, 0, 1, 2, 3, 4, 5, 6, 7, 8, 9, 10, 12, 13, 14, 15], [8, 16]), ([0, 1, 2, 3, 4, 5, 6, 7, 8, 9, 10, 11, 12, 13, 14, 15, 16, 17], []), ([18, 11, 17, 0, 1, 2, 3, 4, 5, 6, 7, 8, 9, 10, 11, 12, 13, 14, 15, 16, 17], [11, 18])])
def config_copied.B1 : List Nat := [0, 1, 3, 0, 8, 31, 0, 64, 255, 0, 512, 2047, 1759, 8191, 16383, 32767, 65535, 131071, 262143, 524287]
theorem config_copied.tab1 : rtab .any (opsOf Try.f35 1) = config_copied.T1 := by kernel_rfl
theorem config_copied.bits1 : waitsOk config_copied.T1.2 config_copied.B1 = true := by kernel_rfl
def config_copied.T5 : Bool × List (List Nat × List Nat) := (true, [([], []), ([0], [0]), ([], []), ([], []), ([3], [3]), ([], []), ([4, 5], [4, 5]), ([6], [6]), ([7], [7]), ([8], [8]), ([1, 2, 0, 1, 2, 3, 4, 5, 6, 7, 8, 9], [1, 2]), ([10, 0, 1, 2, 3, 4, 5, 6, 7, 8, 9], [10]), ([11, 9, 9, 0, 1, 2, 3, 4, 5, 6, 7, 8, 9], [9, 11])])
def config_copied.B5 : List Nat := [0, 1, 0, 0, 8, 0, 56, 120, 248, 504, 1023, 2047, 4095]
theorem config_copied.tab5 : rtab .any (opsOf Try.f35 5) = config_copied.T5 := by kernel_rfl
theorem config_copied.bits5 : waitsOk config_copied.T5.2 config_copied.B5 = true := by kernel_rfl
set_option maxHeartbeats 8000000 in
set_option maxRecDepth 100000 in
theorem config_copied.calls (k : Nat) (a0_0 : Bool) (a0_1 : Bool) (A0_2 : Option Addr) (c0_2 : Nat) (l0_2 : List ByteArray) (A0_3 : Option Addr) (c0_3 : Nat) (l0_3 : List ByteArray) (A0_4 : Option Addr) (c0_4 : Nat) (l0_4 : List ByteArray) (A0_5 : Option Addr) (c0_5 : Nat) (l0_5 : List (S35)) (a0_6 : Bool) (a0_7 : Bool) (r1 : Bool) (r2 : Bool) (r3 : List ByteArray) (r4 : List ByteArray) (r5 : List ByteArray) (r6 : List (S35)) (r7 : Bool) (r8 : Bool) (w : World) (hr0_2 : Kd.C Kd.string w A0_2 l0_2.length l0_2) (hc0_2 : l0_2.length ≤ c0_2) (hr0_3 : Kd.C Kd.string w A0_3 l0_3.length l0_3) (hc0_3 : l0_3.length ≤ c0_3) (hr0_4 : Kd.C Kd.string w A0_4 l0_4.length l0_4) (hc0_4 : l0_4.length ≤ c0_4) (okp : Nat → Prop) (hokp : ∀ k, okp k → k < w.heap.size) (hr0_5 : Shares okp w A0_5 l0_5.length l0_5) (hc0_5 : l0_5.length ≤ c0_5) (h : config_copied.f k a0_0 a0_1 l0_2 l0_3 l0_4 l0_5 a0_6 a0_7 = some (r1, r2, r3, r4, r5, r6, r7, r8)) :
  Calls Try.prog 35 #[.agg #[.bool a0_0, .bool a0_1, .slice A0_2 l0_2.length c0_2, .slice A0_3 l0_3.length c0_3, .slice A0_4 l0_4.length c0_4, .slice A0_5 l0_5.length c0_5, .bool a0_6, .bool a0_7]] w fun e w' => ∃ v2_ v3_ v4_ v5_ : Value, e = .returned (.agg #[.bool r1, .bool r2, v2_, v3_, v4_, v5_, .bool r7, .bool r8]) ∧ Kd.R Kd.string 9 w' w.heap.size (fun k_ => (w.heap.size ≤ k_) ∧ some k_ ≠ (v3_ : Value).ownBlock ∧ some k_ ≠ (v4_ : Value).ownBlock) v2_ r3 ∧ Kd.R Kd.string 9 w' w.heap.size (fun k_ => (w.heap.size ≤ k_) ∧ some k_ ≠ (v2_ : Value).ownBlock ∧ some k_ ≠ (v4_ : Value).ownBlock) v3_ r4 ∧ Kd.R Kd.string 9 w' w.heap.size (fun k_ => (w.heap.size ≤ k_) ∧ some k_ ≠ (v2_ : Value).ownBlock ∧ some k_ ≠ (v3_ : Value).ownBlock) v4_ r5 ∧ Kd.N k35 35 w' w.heap.size (fun k_ => (w.heap.size ≤ k_ ∨ okp k_) ∧ some k_ ≠ (v2_ : Value).ownBlock ∧ some k_ ≠ (v3_ : Value).ownBlock ∧ some k_ ≠ (v4_ : Value).ownBlock) v5_ r6 ∧ Below w.heap.size w w' := by
 have hu25 := Try.underlying25
 have HR0_2 := Aside0.mk hr0_2
 have HC0_2 := Aside0.mk hc0_2
 clear hr0_2 hc0_2
 have HR0_3 := Aside0.mk hr0_3
 have HC0_3 := Aside0.mk hc0_3
 clear hr0_3 hc0_3
 have HR0_4 := Aside0.mk hr0_4
 have HC0_4 := Aside0.mk hc0_4
 clear hr0_4 hc0_4
 have HW0 := Aside0.mk hokp
 clear hokp
 have HR0_5 := Aside0.mk hr0_5
 have HC0_5 := Aside0.mk hc0_5
 clear hr0_5 hc0_5
 have HB := Aside0.mk (Below.refl w.heap.size w)
 have H : ((slices_Clone_string_string.f l0_2).bind fun t190 => ((slices_Clone_string_string.f l0_3).bind fun t193 => ((slices_Clone_string_string.f l0_4).bind fun t196 => ((api_Per_64.f l0_5).bind fun t199 => (config_copied.l0 k (t199.length : Int) 0 a0_0 a0_1 t190 t193 t196 t199 a0_6 a0_7))))) = some (r1, r2, r3, r4, r5, r6, r7, r8) := h
 clear h
 replace H := Option.bind_eq_some_iff.mp H
 obtain ⟨t190, A20, H⟩ := H
 replace H : ((slices_Clone_string_string.f l0_3).bind fun t193 => ((slices_Clone_string_string.f l0_4).bind fun t196 => ((api_Per_64.f l0_5).bind fun t199 => (config_copied.l0 k (t199.length : Int) 0 a0_0 a0_1 t190 t193 t196 t199 a0_6 a0_7)))) = some (r1, r2, r3, r4, r5, r6, r7, r8) := H
 have A2 := Aside0.mk A20
 clear A20
 replace H := Option.bind_eq_some_iff.mp H
 obtain ⟨t193, A30, H⟩ := H
 replace H : ((slices_Clone_string_string.f l0_4).bind fun t196 => ((api_Per_64.f l0_5).bind fun t199 => (config_copied.l0 k (t199.length : Int) 0 a0_0 a0_1 t190 t193 t196 t199 a0_6 a0_7))) = some (r1, r2, r3, r4, r5, r6, r7, r8) := H
 have A3 := Aside0.mk A30
 clear A30
 replace H := Option.bind_eq_some_iff.mp H
 obtain ⟨t196, A40, H⟩ := H
 replace H : ((api_Per_64.f l0_5).bind fun t199 => (config_copied.l0 k (t199.length : Int) 0 a0_0 a0_1 t190 t193 t196 t199 a0_6 a0_7)) = some (r1, r2, r3, r4, r5, r6, r7, r8) := H
 have A4 := Aside0.mk A40
 clear A40
 replace H := Option.bind_eq_some_iff.mp H
 obtain ⟨t199, A50, H⟩ := H
 replace H : (config_copied.l0 k (t199.length : Int) 0 a0_0 a0_1 t190 t193 t196 t199 a0_6 a0_7) = some (r1, r2, r3, r4, r5, r6, r7, r8) := H
 have A5 := Aside0.mk A50
 clear A50
 have H' := Aside0.mk H
 clear H
 go_enter Try.func35, Try.ntmps35
 try go_wp2_with (first | ((with_reducible refine gate_dst (N := 1) rfl ?_); refine box_event ?hg (N := 1) ?hd (cs := #[.bool a0_0, .bool a0_1, .slice A0_2 l0_2.length c0_2, .slice A0_3 l0_3.length c0_3, .slice A0_4 l0_4.length c0_4, .slice A0_5 l0_5.length c0_5, .bool a0_6, .bool a0_7]) (t := 25) ?hr ?_; (case hd => rfl); (case hg => rfl); (case hr => first | (go_simp; done) | (go_simp; rfl)); intro gb188 hg w6 hbox hb; have n0_ := Aside0.mk (below_step (by repeat (first | (with_reducible first | exact HB.out | apply below_alloc | apply pw_below_drewN | apply below_drew1) | exact HB.out)) hb); have n1_ := Aside0.mk (hbox); have n2_ := Aside0.mk ((by rw [hg]; exact (below_size (by repeat (first | (with_reducible first | exact HB.out | apply below_alloc | apply pw_below_drewN | apply below_drew1) | exact HB.out))) : w.heap.size ≤ gb188)); have n3_ := Aside0.mk ((by rw [hg]; exact (below_size (by repeat (first | (with_reducible first | exact HB.out | apply below_alloc | apply pw_below_drewN | apply below_drew1) | exact HB.out))) : w.heap.size ≤ gb188)); clear HB; have HB := n0_; have BK188 := n1_; have GW188 := n2_; have GE188 := n3_; clear n0_ n1_ n2_ n3_; clear hb hbox hg) | ((with_reducible refine gate_dst (N := 2) rfl ?_); refine box_event ?hg (N := 2) ?hd (cs := #[.bool false, .bool false, .slice none 0 0, .slice none 0 0, .slice none 0 0, .slice none 0 0, .bool false, .bool false]) (t := 25) ?hr ?_; (case hd => rfl); (case hg => rfl); (case hr => first | (go_simp; done) | (go_simp; rfl)); intro gb189 hg w7 hbox hb; have n0_ := Aside0.mk (blk_below (g := gb188) (o := .cells #[.bool a0_0, .bool a0_1, .slice A0_2 l0_2.length c0_2, .slice A0_3 l0_3.length c0_3, .slice A0_4 l0_4.length c0_4, .slice A0_5 l0_5.length c0_5, .bool a0_6, .bool a0_7] 25 (0, 0)) (by exact BK188.out) hb); have n1_ := Aside0.mk (below_step (by repeat (first | (with_reducible first | exact HB.out | apply below_alloc | apply pw_below_drewN | apply below_drew1 | refine below_set ?_ GE188.out) | exact HB.out)) hb); have n2_ := Aside0.mk (hbox); have n3_ := Aside0.mk ((by rw [hg]; exact (below_size (by repeat (first | (with_reducible first | exact HB.out | apply below_alloc | apply pw_below_drewN | apply below_drew1 | refine below_set ?_ GE188.out) | exact HB.out))) : w.heap.size ≤ gb189)); have n4_ := Aside0.mk ((by rw [hg]; exact (below_size (by repeat (first | (with_reducible first | exact HB.out | apply below_alloc | apply pw_below_drewN | apply below_drew1 | refine below_set ?_ GE188.out) | exact HB.out))) : w.heap.size ≤ gb189)); have n5_ := Aside0.mk ((by rw [hg]; exact Nat.ne_of_lt (blk_lt (g := gb188) (o := .cells #[.bool a0_0, .bool a0_1, .slice A0_2 l0_2.length c0_2, .slice A0_3 l0_3.length c0_3, .slice A0_4 l0_4.length c0_4, .slice A0_5 l0_5.length c0_5, .bool a0_6, .bool a0_7] 25 (0, 0)) (by exact BK188.out)) : gb188 ≠ gb189)); have n6_ := Aside0.mk ((by rw [hg]; exact Nat.ne_of_gt (blk_lt (g := gb188) (o := .cells #[.bool a0_0, .bool a0_1, .slice A0_2 l0_2.length c0_2, .slice A0_3 l0_3.length c0_3, .slice A0_4 l0_4.length c0_4, .slice A0_5 l0_5.length c0_5, .bool a0_6, .bool a0_7] 25 (0, 0)) (by exact BK188.out)) : gb189 ≠ gb188)); clear BK188; clear HB; have BK188 := n0_; have HB := n1_; have BK189 := n2_; have GW189 := n3_; have GE189 := n4_; have NB188_189 := n5_; have NB189_188 := n6_; clear n0_ n1_ n2_ n3_ n4_ n5_ n6_; clear hb hbox hg))
 have n0_ := Aside0.mk (blk_drew BK188.out)
 have n1_ := Aside0.mk (blk_drew BK189.out)
 have n2_ := Aside0.mk (below_drew1 HB.out)
 clear BK188
 clear BK189
 clear HB
 have BK188 := n0_
 have BK189 := n1_
 have HB := n2_
 clear n0_ n1_ n2_
 refine start_ (n := 20) (S := fun w' => w'.cell? ⟨gb188, 0, none⟩ = some (.bool a0_0) ∧ w'.cell? ⟨gb188, 1, none⟩ = some (.bool a0_1) ∧ w'.cell? ⟨gb188, 2, none⟩ = some (.slice A0_2 l0_2.length c0_2) ∧ w'.cell? ⟨gb188, 3, none⟩ = some (.slice A0_3 l0_3.length c0_3) ∧ w'.cell? ⟨gb188, 4, none⟩ = some (.slice A0_4 l0_4.length c0_4) ∧ w'.cell? ⟨gb188, 5, none⟩ = some (.slice A0_5 l0_5.length c0_5) ∧ w'.cell? ⟨gb188, 6, none⟩ = some (.bool a0_6) ∧ w'.cell? ⟨gb188, 7, none⟩ = some (.bool a0_7)) (ds := [13, 15, 17, 19]) (tf 0 20) (by kernel_rfl) rfl rfl ⟨(blk_cell BK188.out 0).trans rfl, (blk_cell BK188.out 1).trans rfl, (blk_cell BK188.out 2).trans rfl, (blk_cell BK188.out 3).trans rfl, (blk_cell BK188.out 4).trans rfl, (blk_cell BK188.out 5).trans rfl, (blk_cell BK188.out 6).trans rfl, (blk_cell BK188.out 7).trans rfl⟩ (fun hHeld => ?_); refine with_tabW config_copied.tab1 config_copied.bits1 (fun HT_ HW_ => ?_)
 generalize w7.drew = w8 at BK188 BK189 HB hHeld ⊢
 refine pure_ (i := 0) (N := some 4) (v := ?_) (a' := ?_) (tf 1 19) rfl rfl (any_of HT_.out (by kernel_rfl)) (fun _ _ _ h => h) (Or.inl ⟨by rfl, ?_⟩) ?_ ?_
 rotate_left
 ·intro w'
  go_simp
  with_reducible rfl
 rotate_left
 ·simp only [Act.put, List.setIfInBounds_toArray, List.set_cons_zero, List.set_cons_succ, i64_w, i32_w]
  rfl
 refine pure_ (i := 3) (N := some 7) (v := ?_) (a' := ?_) #[true, false, false, true, false, false, false, false, false, false, false, false, false, false, false, false, false, false, false, false] rfl rfl (any_of HT_.out (by kernel_rfl)) (fun _ _ _ h => h) (Or.inl ⟨by rfl, ?_⟩) ?_ ?_
 rotate_left
 ·intro w'
  go_simp
  with_reducible rfl
 rotate_left
 ·simp only [Act.put, List.setIfInBounds_toArray, List.set_cons_zero, List.set_cons_succ, i64_w, i32_w]
  rfl
 refine pure_ (i := 6) (N := some 10) (v := ?_) (a' := ?_) #[true, false, false, true, false, false, true, false, false, false, false, false, false, false, false, false, false, false, false, false] rfl rfl (any_of HT_.out (by kernel_rfl)) (fun _ _ _ h => h) (Or.inl ⟨by rfl, ?_⟩) ?_ ?_
 rotate_left
 ·intro w'
  go_simp
  with_reducible rfl
 rotate_left
 ·simp only [Act.put, List.setIfInBounds_toArray, List.set_cons_zero, List.set_cons_succ, i64_w, i32_w]
  rfl
 refine pure_ (i := 9) (N := some 13) (v := ?_) (a' := ?_) #[true, false, false, true, false, false, true, false, false, true, false, false, false, false, false, false, false, false, false, false] rfl rfl (any_of HT_.out (by kernel_rfl)) (fun _ _ _ h => h) (Or.inl ⟨by rfl, ?_⟩) ?_ ?_
 rotate_left
 ·intro w'
  go_simp
  with_reducible rfl
 rotate_left
 ·simp only [Act.put, List.setIfInBounds_toArray, List.set_cons_zero, List.set_cons_succ, i64_w, i32_w]
  rfl
 refine take_ (i := 1) (N := some 5) (v := ?_) (a' := ?_) #[true, true, false, true, false, false, true, false, false, true, false, false, false, false, false, false, false, false, false, false] rfl rfl (take_ofW HT_.out HW_.out (by kernel_rfl)) (fun _ _ _ h => h) (Or.inl ⟨by rfl, ?_⟩) hHeld ?_ ?_
 rotate_left
 ·rintro w' ⟨s0, s1, s2, s3, s4, s5, s6, s7⟩
  go_simp
  with_reducible rfl
 rotate_left
 ·simp only [Act.put, List.setIfInBounds_toArray, List.set_cons_zero, List.set_cons_succ, i64_w, i32_w]
  rfl
 refine take_ (i := 4) (N := some 8) (v := ?_) (a' := ?_) #[true, true, false, true, true, false, true, false, false, true, false, false, false, false, false, false, false, false, false, false] rfl rfl (take_ofW HT_.out HW_.out (by kernel_rfl)) (fun _ _ _ h => h) (Or.inl ⟨by rfl, ?_⟩) hHeld ?_ ?_
 rotate_left
 ·rintro w' ⟨s0, s1, s2, s3, s4, s5, s6, s7⟩
  go_simp
  with_reducible rfl
 rotate_left
 ·simp only [Act.put, List.setIfInBounds_toArray, List.set_cons_zero, List.set_cons_succ, i64_w, i32_w]
  rfl
 refine take_ (i := 7) (N := some 11) (v := ?_) (a' := ?_) #[true, true, false, true, true, false, true, true, false, true, false, false, false, false, false, false, false, false, false, false] rfl rfl (take_ofW HT_.out HW_.out (by kernel_rfl)) (fun _ _ _ h => h) (Or.inl ⟨by rfl, ?_⟩) hHeld ?_ ?_
 rotate_left
 ·rintro w' ⟨s0, s1, s2, s3, s4, s5, s6, s7⟩
  go_simp
  with_reducible rfl
 rotate_left
 ·simp only [Act.put, List.setIfInBounds_toArray, List.set_cons_zero, List.set_cons_succ, i64_w, i32_w]
  rfl
 refine take_ (i := 10) (N := some 14) (v := ?_) (a' := ?_) #[true, true, false, true, true, false, true, true, false, true, true, false, false, false, false, false, false, false, false, false] rfl rfl (take_ofW HT_.out HW_.out (by kernel_rfl)) (fun _ _ _ h => h) (Or.inl ⟨by rfl, ?_⟩) hHeld ?_ ?_
 rotate_left
 ·rintro w' ⟨s0, s1, s2, s3, s4, s5, s6, s7⟩
  go_simp
  with_reducible rfl
 rotate_left
 ·simp only [Act.put, List.setIfInBounds_toArray, List.set_cons_zero, List.set_cons_succ, i64_w, i32_w]
  rfl
 refine one_ (i := 2) (N := some 6) #[true, true, true, true, true, false, true, true, false, true, true, false, false, false, false, false, false, false, false, false] rfl rfl (one_of HT_.out (by kernel_rfl)) (by decide) (fun K hK => ?_)
 refine goes_ Try.func63 (by kernel_rfl) rfl #[.slice A0_2 l0_2.length c0_2] (by rfl) rfl rfl (by (try simp only [List.map_toArray, List.map_cons, List.map_nil]); first | done | rfl | (simp only [List.length_drop, List.length_take]; rfl)) ?_
 with_reducible refine (slices_Clone_string_string.calls _ _ l0_2 t190 _ ?side1 ?side2 A2.out).mono ?_
 (case side1 => repeat (first | exact (Kd.C_below HR0_2.out HB.out) | (with_reducible refine Kd.C_alloc ?_ _) | (with_reducible refine Kd.C_drewN ?_ _) | (with_reducible refine Kd.C_drew ?_)))
 (case side2 => exact HC0_2.out)
 rintro e w9 ⟨v191, rfl, ho0, hb⟩
 refine ⟨_, rfl, ?_⟩
 have n0_ := Aside0.mk (Kd.R_lower (Kd.R_newM (M := fun k_ => (w.heap.size ≤ k_)) ho0 (below_size (by repeat (first | (with_reducible first | exact HB.out | apply below_alloc | apply pw_below_drewN | apply below_drew1 | refine below_set ?_ GE188.out | refine below_set ?_ GE189.out) | exact HB.out))) (fun k_ h_ => h_)) (below_size (by repeat (first | (with_reducible first | exact HB.out | apply below_alloc | apply pw_below_drewN | apply below_drew1 | refine below_set ?_ GE188.out | refine below_set ?_ GE189.out) | exact HB.out))))
 have n1_ := Aside0.mk (blk_below (g := gb188) (o := .cells #[.bool a0_0, .bool a0_1, .slice A0_2 l0_2.length c0_2, .slice A0_3 l0_3.length c0_3, .slice A0_4 l0_4.length c0_4, .slice A0_5 l0_5.length c0_5, .bool a0_6, .bool a0_7] 25 (0, 0)) (by exact BK188.out) hb)
 have n2_ := Aside0.mk (blk_below (g := gb189) (o := .cells #[.bool false, .bool false, .slice none 0 0, .slice none 0 0, .slice none 0 0, .slice none 0 0, .bool false, .bool false] 25 (0, 0)) (by exact BK189.out) hb)
 have n3_ := Aside0.mk (below_step (by repeat (first | (with_reducible first | exact HB.out | apply below_alloc | apply pw_below_drewN | apply below_drew1 | refine below_set ?_ GE188.out | refine below_set ?_ GE189.out) | exact HB.out)) hb)
 clear BK188
 clear BK189
 clear HB
 have HO192 := n0_
 have BK188 := n1_
 have BK189 := n2_
 have HB := n3_
 clear n0_ n1_ n2_ n3_
 (try clear hb)
 (try clear hb2)
 (try clear hk)
 (try clear hi)
 (try clear ho0)
 refine hK.out _ _ ⟨(blk_cell BK188.out 0).trans rfl, (blk_cell BK188.out 1).trans rfl, (blk_cell BK188.out 2).trans rfl, (blk_cell BK188.out 3).trans rfl, (blk_cell BK188.out 4).trans rfl, (blk_cell BK188.out 5).trans rfl, (blk_cell BK188.out 6).trans rfl, (blk_cell BK188.out 7).trans rfl⟩ (fun hHeld => ?_)
 clear hK K
 refine norm_ (a' := ?_) ?_ ?_
 rotate_left
 ·show Act.put _ (some 6) _ = _
  simp only [Act.put, List.setIfInBounds_toArray, List.set_cons_zero, List.set_cons_succ, i64_w, i32_w]
  rfl
 refine pure_ (i := 12) (N := some 16) (v := ?_) (a' := ?_) #[true, true, true, true, true, false, true, true, false, true, true, false, true, false, false, false, false, false, false, false] rfl rfl (any_of HT_.out (by kernel_rfl)) (fun _ _ _ h => h) (Or.inl ⟨by rfl, ?_⟩) ?_ ?_
 rotate_left
 ·intro w'
  go_simp
  with_reducible rfl
 rotate_left
 ·simp only [Act.put, List.setIfInBounds_toArray, List.set_cons_zero, List.set_cons_succ, i64_w, i32_w]
  rfl
 refine one_ (i := 5) (N := some 9) #[true, true, true, true, true, true, true, true, false, true, true, false, true, false, false, false, false, false, false, false] rfl rfl (one_of HT_.out (by kernel_rfl)) (by decide) (fun K hK => ?_)
 refine goes_ Try.func63 (by kernel_rfl) rfl #[.slice A0_3 l0_3.length c0_3] (by rfl) rfl rfl (by (try simp only [List.map_toArray, List.map_cons, List.map_nil]); first | done | rfl | (simp only [List.length_drop, List.length_take]; rfl)) ?_
 with_reducible refine (slices_Clone_string_string.calls _ _ l0_3 t193 _ ?side1 ?side2 A3.out).mono ?_
 (case side1 => repeat (first | exact (Kd.C_below HR0_3.out HB.out) | (with_reducible refine Kd.C_alloc ?_ _) | (with_reducible refine Kd.C_drewN ?_ _) | (with_reducible refine Kd.C_drew ?_)))
 (case side2 => exact HC0_3.out)
 rintro e w10 ⟨v194, rfl, ho0, hb⟩
 refine ⟨_, rfl, ?_⟩
 have n0_ := Aside0.mk (Kd.R_elder' (by exact HO192.out) (Kd.R_base ho0) hb)
 have n1_ := Aside0.mk (Kd.R_lower (Kd.R_new' (Kd.R_newM (M := fun k_ => (w.heap.size ≤ k_)) ho0 (below_size (by repeat (first | (with_reducible first | exact HB.out | apply below_alloc | apply pw_below_drewN | apply below_drew1 | refine below_set ?_ GE188.out | refine below_set ?_ GE189.out) | exact HB.out))) (fun k_ h_ => h_)) (Kd.R_lt (by exact HO192.out))) (below_size (by repeat (first | (with_reducible first | exact HB.out | apply below_alloc | apply pw_below_drewN | apply below_drew1 | refine below_set ?_ GE188.out | refine below_set ?_ GE189.out) | exact HB.out))))
 have n2_ := Aside0.mk (blk_below (g := gb188) (o := .cells #[.bool a0_0, .bool a0_1, .slice A0_2 l0_2.length c0_2, .slice A0_3 l0_3.length c0_3, .slice A0_4 l0_4.length c0_4, .slice A0_5 l0_5.length c0_5, .bool a0_6, .bool a0_7] 25 (0, 0)) (by exact BK188.out) hb)
 have n3_ := Aside0.mk (blk_below (g := gb189) (o := .cells #[.bool false, .bool false, .slice none 0 0, .slice none 0 0, .slice none 0 0, .slice none 0 0, .bool false, .bool false] 25 (0, 0)) (by exact BK189.out) hb)
 have n4_ := Aside0.mk (below_step (by repeat (first | (with_reducible first | exact HB.out | apply below_alloc | apply pw_below_drewN | apply below_drew1 | refine below_set ?_ GE188.out | refine below_set ?_ GE189.out) | exact HB.out)) hb)
 clear HO192
 clear BK188
 clear BK189
 clear HB
 have HO192 := n0_
 have HO195 := n1_
 have BK188 := n2_
 have BK189 := n3_
 have HB := n4_
 clear n0_ n1_ n2_ n3_ n4_
 (try clear hb)
 (try clear hb2)
 (try clear hk)
 (try clear hi)
 (try clear ho0)
 refine hK.out _ _ ⟨(blk_cell BK188.out 0).trans rfl, (blk_cell BK188.out 1).trans rfl, (blk_cell BK188.out 2).trans rfl, (blk_cell BK188.out 3).trans rfl, (blk_cell BK188.out 4).trans rfl, (blk_cell BK188.out 5).trans rfl, (blk_cell BK188.out 6).trans rfl, (blk_cell BK188.out 7).trans rfl⟩ (fun hHeld => ?_)
 clear hK K
 refine norm_ (a' := ?_) ?_ ?_
 rotate_left
 ·show Act.put _ (some 9) _ = _
  simp only [Act.put, List.setIfInBounds_toArray, List.set_cons_zero, List.set_cons_succ, i64_w, i32_w]
  rfl
 refine one_ (i := 8) (N := some 12) #[true, true, true, true, true, true, true, true, true, true, true, false, true, false, false, false, false, false, false, false] rfl rfl (one_of HT_.out (by kernel_rfl)) (by decide) (fun K hK => ?_)
 refine goes_ Try.func63 (by kernel_rfl) rfl #[.slice A0_4 l0_4.length c0_4] (by rfl) rfl rfl (by (try simp only [List.map_toArray, List.map_cons, List.map_nil]); first | done | rfl | (simp only [List.length_drop, List.length_take]; rfl)) ?_
 with_reducible refine (slices_Clone_string_string.calls _ _ l0_4 t196 _ ?side1 ?side2 A4.out).mono ?_
 (case side1 => repeat (first | exact (Kd.C_below HR0_4.out HB.out) | (with_reducible refine Kd.C_alloc ?_ _) | (with_reducible refine Kd.C_drewN ?_ _) | (with_reducible refine Kd.C_drew ?_)))
 (case side2 => exact HC0_4.out)
 rintro e w11 ⟨v197, rfl, ho0, hb⟩
 refine ⟨_, rfl, ?_⟩
 have n0_ := Aside0.mk (Kd.R_elder' (by exact HO192.out) (Kd.R_base ho0) hb)
 have n1_ := Aside0.mk (Kd.R_elder' (by exact HO195.out) (Kd.R_base ho0) hb)
 have n2_ := Aside0.mk (Kd.R_lower (Kd.R_new' (Kd.R_new' (Kd.R_newM (M := fun k_ => (w.heap.size ≤ k_)) ho0 (below_size (by repeat (first | (with_reducible first | exact HB.out | apply below_alloc | apply pw_below_drewN | apply below_drew1 | refine below_set ?_ GE188.out | refine below_set ?_ GE189.out) | exact HB.out))) (fun k_ h_ => h_)) (Kd.R_lt (by exact HO192.out))) (Kd.R_lt (by exact HO195.out))) (below_size (by repeat (first | (with_reducible first | exact HB.out | apply below_alloc | apply pw_below_drewN | apply below_drew1 | refine below_set ?_ GE188.out | refine below_set ?_ GE189.out) | exact HB.out))))
 have n3_ := Aside0.mk (blk_below (g := gb188) (o := .cells #[.bool a0_0, .bool a0_1, .slice A0_2 l0_2.length c0_2, .slice A0_3 l0_3.length c0_3, .slice A0_4 l0_4.length c0_4, .slice A0_5 l0_5.length c0_5, .bool a0_6, .bool a0_7] 25 (0, 0)) (by exact BK188.out) hb)
 have n4_ := Aside0.mk (blk_below (g := gb189) (o := .cells #[.bool false, .bool false, .slice none 0 0, .slice none 0 0, .slice none 0 0, .slice none 0 0, .bool false, .bool false] 25 (0, 0)) (by exact BK189.out) hb)
 have n5_ := Aside0.mk (below_step (by repeat (first | (with_reducible first | exact HB.out | apply below_alloc | apply pw_below_drewN | apply below_drew1 | refine below_set ?_ GE188.out | refine below_set ?_ GE189.out) | exact HB.out)) hb)
 clear HO192
 clear HO195
 clear BK188
 clear BK189
 clear HB
 have HO192 := n0_
 have HO195 := n1_
 have HO198 := n2_
 have BK188 := n3_
 have BK189 := n4_
 have HB := n5_
 clear n0_ n1_ n2_ n3_ n4_ n5_
 (try clear hb)
 (try clear hb2)
 (try clear hk)
 (try clear hi)
 (try clear ho0)
 refine hK.out _ _ ⟨(blk_cell BK188.out 0).trans rfl, (blk_cell BK188.out 1).trans rfl, (blk_cell BK188.out 2).trans rfl, (blk_cell BK188.out 3).trans rfl, (blk_cell BK188.out 4).trans rfl, (blk_cell BK188.out 5).trans rfl, (blk_cell BK188.out 6).trans rfl, (blk_cell BK188.out 7).trans rfl⟩ (fun hHeld => ?_)
 clear hK K
 refine norm_ (a' := ?_) ?_ ?_
 rotate_left
 ·show Act.put _ (some 12) _ = _
  simp only [Act.put, List.setIfInBounds_toArray, List.set_cons_zero, List.set_cons_succ, i64_w, i32_w]
  rfl
 refine one_ (i := 11) (N := some 15) (tf 13 7) rfl rfl (one_of HT_.out (by kernel_rfl)) (by decide) (fun K hK => ?_)
 refine goes_ Try.func64 (by kernel_rfl) rfl #[.slice A0_5 l0_5.length c0_5] (by rfl) rfl rfl (by (try simp only [List.map_toArray, List.map_cons, List.map_nil]); first | done | rfl | (simp only [List.length_drop, List.length_take]; rfl)) ?_
 with_reducible refine (api_Per_64.calls _ _ l0_5 t199 okp _ ?side0 ?side1 ?side2 A5.out).mono ?_
 (case side0 => exact fun k_ h_ => Nat.lt_of_lt_of_le (HW0.out k_ h_) (below_size (by repeat (first | (with_reducible first | exact HB.out | apply below_alloc | apply pw_below_drewN | apply below_drew1 | refine below_set ?_ GE188.out | refine below_set ?_ GE189.out) | exact HB.out))))
 (case side1 => exact Shares.below HR0_5.out (by repeat (first | (with_reducible first | exact HB.out | apply below_alloc | apply pw_below_drewN | apply below_drew1 | refine below_set ?_ GE188.out | refine below_set ?_ GE189.out) | exact HB.out)))
 (case side2 => exact HC0_5.out)
 rintro e w12 ⟨v200, rfl, ho0, hb⟩
 refine ⟨_, rfl, ?_⟩
 have n0_ := Aside0.mk (Kd.R_below (by exact HO192.out) hb)
 have n1_ := Aside0.mk (Kd.R_below (by exact HO195.out) hb)
 have n2_ := Aside0.mk (Kd.R_below (by exact HO198.out) hb)
 have n3_ := Aside0.mk (Kd.N_lower (Kd.N_mono (ok' := fun k_ => (w.heap.size ≤ k_ ∨ okp k_) ∧ some k_ ≠ (v191 : Value).ownBlock ∧ some k_ ≠ (v194 : Value).ownBlock ∧ some k_ ≠ (v197 : Value).ownBlock ∧ k_ ≠ gb188 ∧ k_ ≠ gb189) ho0 (fun k_ hk_ => ⟨(hk_.elim (fun h_ => .inr h_) (fun h_ => .inl (Nat.le_trans (below_size (by repeat (first | (with_reducible first | exact HB.out | apply below_alloc | apply pw_below_drewN | apply below_drew1 | refine below_set ?_ GE188.out | refine below_set ?_ GE189.out) | exact HB.out))) h_))), (hk_.elim (fun h_ e_ => by have := Kd.R_base HO192.out k_ e_.symm; have := HW0.out k_ h_; omega) (fun h_ => Kd.fresh' (Kd.R_lt (by exact HO192.out)) k_ h_)), (hk_.elim (fun h_ e_ => by have := Kd.R_base HO195.out k_ e_.symm; have := HW0.out k_ h_; omega) (fun h_ => Kd.fresh' (Kd.R_lt (by exact HO195.out)) k_ h_)), (hk_.elim (fun h_ e_ => by have := Kd.R_base HO198.out k_ e_.symm; have := HW0.out k_ h_; omega) (fun h_ => Kd.fresh' (Kd.R_lt (by exact HO198.out)) k_ h_)), (hk_.elim (fun h_ e_ => by have := GE188.out; have := HW0.out k_ h_; omega) (fun h_ => (Kd.freshB (g := gb188) (o := .cells #[.bool a0_0, .bool a0_1, .slice A0_2 l0_2.length c0_2, .slice A0_3 l0_3.length c0_3, .slice A0_4 l0_4.length c0_4, .slice A0_5 l0_5.length c0_5, .bool a0_6, .bool a0_7] 25 (0, 0)) (by exact BK188.out) k_ h_))), (hk_.elim (fun h_ e_ => by have := GE189.out; have := HW0.out k_ h_; omega) (fun h_ => (Kd.freshB (g := gb189) (o := .cells #[.bool false, .bool false, .slice none 0 0, .slice none 0 0, .slice none 0 0, .slice none 0 0, .bool false, .bool false] 25 (0, 0)) (by exact BK189.out) k_ h_)))⟩)) (below_size (by repeat (first | (with_reducible first | exact HB.out | apply below_alloc | apply pw_below_drewN | apply below_drew1 | refine below_set ?_ GE188.out | refine below_set ?_ GE189.out) | exact HB.out))))
 have n4_ := Aside0.mk (blk_below (g := gb188) (o := .cells #[.bool a0_0, .bool a0_1, .slice A0_2 l0_2.length c0_2, .slice A0_3 l0_3.length c0_3, .slice A0_4 l0_4.length c0_4, .slice A0_5 l0_5.length c0_5, .bool a0_6, .bool a0_7] 25 (0, 0)) (by exact BK188.out) hb)
 have n5_ := Aside0.mk (blk_below (g := gb189) (o := .cells #[.bool false, .bool false, .slice none 0 0, .slice none 0 0, .slice none 0 0, .slice none 0 0, .bool false, .bool false] 25 (0, 0)) (by exact BK189.out) hb)
 have n6_ := Aside0.mk (below_step (by repeat (first | (with_reducible first | exact HB.out | apply below_alloc | apply pw_below_drewN | apply below_drew1 | refine below_set ?_ GE188.out | refine below_set ?_ GE189.out) | exact HB.out)) hb)
 clear HO192
 clear HO195
 clear HO198
 clear BK188
 clear BK189
 clear HB
 have HO192 := n0_
 have HO195 := n1_
 have HO198 := n2_
 have HO201 := n3_
 have BK188 := n4_
 have BK189 := n5_
 have HB := n6_
 clear n0_ n1_ n2_ n3_ n4_ n5_ n6_
 (try clear hb)
 (try clear hb2)
 (try clear hk)
 (try clear hi)
 (try clear ho0)
 obtain ⟨Ao13, co13, eo13⟩ := Kd.R_slice HO192.out
 (first | subst eo13 | (injection eo13 with f1_ f2_ f3_; have f4_ := f1_.symm; have f5_ := f3_.symm; clear f1_ f2_ f3_; subst f4_; subst f5_))
 obtain ⟨Ao15, co15, eo15⟩ := Kd.R_slice HO195.out
 (first | subst eo15 | (injection eo15 with f1_ f2_ f3_; have f4_ := f1_.symm; have f5_ := f3_.symm; clear f1_ f2_ f3_; subst f4_; subst f5_))
 obtain ⟨Ao17, co17, eo17⟩ := Kd.R_slice HO198.out
 (first | subst eo17 | (injection eo17 with f1_ f2_ f3_; have f4_ := f1_.symm; have f5_ := f3_.symm; clear f1_ f2_ f3_; subst f4_; subst f5_))
 obtain ⟨Ao19, co19, eo19⟩ := Kd.N_slice HO201.out
 (first | subst eo19 | (injection eo19 with f1_ f2_ f3_; have f4_ := f1_.symm; have f5_ := f3_.symm; clear f1_ f2_ f3_; subst f4_; subst f5_))
 refine hK.out _ _ ⟨(blk_cell BK188.out 0).trans rfl, (blk_cell BK188.out 1).trans rfl, (blk_cell BK188.out 2).trans rfl, (blk_cell BK188.out 3).trans rfl, (blk_cell BK188.out 4).trans rfl, (blk_cell BK188.out 5).trans rfl, (blk_cell BK188.out 6).trans rfl, (blk_cell BK188.out 7).trans rfl⟩ (fun hHeld => ?_)
 clear hK K
 refine norm_ (a' := ?_) ?_ ?_
 rotate_left
 ·show Act.put _ (some 15) _ = _
  simp only [Act.put, List.setIfInBounds_toArray, List.set_cons_zero, List.set_cons_succ, i64_w, i32_w]
  rfl
 refine last_ (i := 13) (N := none) (tf 14 6) rfl rfl (one_of HT_.out (by kernel_rfl)) (by decide) (fun K hK => ?_)
 have hs14 : w12.cell? ⟨gb188, 2, none⟩ = some (.slice A0_2 l0_2.length c0_2) := (blk_cell BK188.out 2).trans rfl
 have hfs14 := blk_frozen BK188.out 2
 have hns14_1 := NB189_188.out
 have hms14_1 := NB188_189.out
 refine skip_ (w1 := ?_) (by rfl) rfl ?_ ?_
 rotate_left
 ·go_simp
  rfl
 refine hK.out _ _ ?_
 clear hK K
 refine pure_ (i := 14) (N := some 17) (v := ?_) (a' := ?_) (tf 15 5) rfl rfl (any_of HT_.out (by kernel_rfl)) (fun _ _ _ h => h) (Or.inl ⟨by rfl, ?_⟩) ?_ ?_
 rotate_left
 ·intro w'
  go_simp
  with_reducible rfl
 rotate_left
 ·simp only [Act.put, List.setIfInBounds_toArray, List.set_cons_zero, List.set_cons_succ, i64_w, i32_w]
  rfl
 refine last_ (i := 15) (N := none) (tf 16 4) rfl rfl (one_of HT_.out (by kernel_rfl)) (by decide) (fun K hK => ?_)
 have hs16 : w12.cell? ⟨gb188, 3, none⟩ = some (.slice A0_3 l0_3.length c0_3) := (blk_cell BK188.out 3).trans rfl
 have hfs16 := blk_frozen BK188.out 3
 have hns16_1 := NB189_188.out
 have hms16_1 := NB188_189.out
 refine skip_ (w1 := ?_) (by rfl) rfl ?_ ?_
 rotate_left
 ·go_simp
  rfl
 refine hK.out _ _ ?_
 clear hK K
 refine pure_ (i := 16) (N := some 18) (v := ?_) (a' := ?_) (tf 17 3) rfl rfl (any_of HT_.out (by kernel_rfl)) (fun _ _ _ h => h) (Or.inl ⟨by rfl, ?_⟩) ?_ ?_
 rotate_left
 ·intro w'
  go_simp
  with_reducible rfl
 rotate_left
 ·simp only [Act.put, List.setIfInBounds_toArray, List.set_cons_zero, List.set_cons_succ, i64_w, i32_w]
  rfl
 refine last_ (i := 17) (N := none) (tf 18 2) rfl rfl (one_of HT_.out (by kernel_rfl)) (by decide) (fun K hK => ?_)
 have hs18 : w12.cell? ⟨gb188, 4, none⟩ = some (.slice A0_4 l0_4.length c0_4) := (blk_cell BK188.out 4).trans rfl
 have hfs18 := blk_frozen BK188.out 4
 have hns18_1 := NB189_188.out
 have hms18_1 := NB188_189.out
 refine skip_ (w1 := ?_) (by rfl) rfl ?_ ?_
 rotate_left
 ·go_simp
  rfl
 refine hK.out _ _ ?_
 clear hK K
 refine pure_ (i := 18) (N := some 19) (v := ?_) (a' := ?_) (tf 19 1) rfl rfl (any_of HT_.out (by kernel_rfl)) (fun _ _ _ h => h) (Or.inl ⟨by rfl, ?_⟩) ?_ ?_
 rotate_left
 ·intro w'
  go_simp
  with_reducible rfl
 rotate_left
 ·simp only [Act.put, List.setIfInBounds_toArray, List.set_cons_zero, List.set_cons_succ, i64_w, i32_w]
  rfl
 refine last_ (i := 19) (N := none) (tf 20 0) rfl rfl (one_of HT_.out (by kernel_rfl)) (by decide) (fun K hK => ?_)
 have hs20 : w12.cell? ⟨gb188, 5, none⟩ = some (.slice A0_5 l0_5.length c0_5) := (blk_cell BK188.out 5).trans rfl
 have hfs20 := blk_frozen BK188.out 5
 have hns20_1 := NB189_188.out
 have hms20_1 := NB188_189.out
 refine skip_ (w1 := ?_) (by rfl) rfl ?_ ?_
 rotate_left
 ·go_simp
  rfl
 refine hK.out _ _ ?_
 clear hK K
 refine done_ (done_of HT_.out (by kernel_rfl)) ?_
 have hnb21 := NB188_189.out
 have hnc21 := NB189_188.out
 have hcz22_0 : w12.cell? ⟨gb188, 0, none⟩ = some (.bool a0_0) := (blk_cell BK188.out 0).trans rfl
 have hcz22_1 : w12.cell? ⟨gb188, 1, none⟩ = some (.bool a0_1) := (blk_cell BK188.out 1).trans rfl
 have hcz22_2 : w12.cell? ⟨gb188, 2, none⟩ = some (.slice A0_2 l0_2.length c0_2) := (blk_cell BK188.out 2).trans rfl
 have hcz22_3 : w12.cell? ⟨gb188, 3, none⟩ = some (.slice A0_3 l0_3.length c0_3) := (blk_cell BK188.out 3).trans rfl
 have hcz22_4 : w12.cell? ⟨gb188, 4, none⟩ = some (.slice A0_4 l0_4.length c0_4) := (blk_cell BK188.out 4).trans rfl
 have hcz22_5 : w12.cell? ⟨gb188, 5, none⟩ = some (.slice A0_5 l0_5.length c0_5) := (blk_cell BK188.out 5).trans rfl
 have hcz22_6 : w12.cell? ⟨gb188, 6, none⟩ = some (.bool a0_6) := (blk_cell BK188.out 6).trans rfl
 have hcz22_7 : w12.cell? ⟨gb188, 7, none⟩ = some (.bool a0_7) := (blk_cell BK188.out 7).trans rfl
 have hfz22_0 := blk_frozen BK188.out 0
 have hfz22_1 := blk_frozen BK188.out 1
 have hfz22_2 := blk_frozen BK188.out 2
 have hfz22_3 := blk_frozen BK188.out 3
 have hfz22_4 := blk_frozen BK188.out 4
 have hfz22_5 := blk_frozen BK188.out 5
 have hfz22_6 := blk_frozen BK188.out 6
 have hfz22_7 := blk_frozen BK188.out 7
 try go_wp2
 go_loopg [23] k (fun kq v23 w' => ∃ (x23_1 : Int) (x189005_1 : List (S35)) (u189005 : Value), v23 = .int .i64 x23_1 ∧ Aside0 (config_copied.l0 kq (t199.length : Int) x23_1 a0_0 a0_1 t190 t193 t196 x189005_1 a0_6 a0_7 = some (r1, r2, r3, r4, r5, r6, r7, r8)) ∧ Aside0 (kq ≤ k) ∧ Aside0 (Kd.R Kd.string 9 w' w.heap.size (fun k_ => (w.heap.size ≤ k_) ∧ some k_ ≠ ((.slice Ao15 t193.length co15) : Value).ownBlock ∧ some k_ ≠ ((.slice Ao17 t196.length co17) : Value).ownBlock) (.slice Ao13 t190.length co13) t190) ∧ Aside0 (Kd.R Kd.string 9 w' w.heap.size (fun k_ => (w.heap.size ≤ k_) ∧ some k_ ≠ ((.slice Ao13 t190.length co13) : Value).ownBlock ∧ some k_ ≠ ((.slice Ao17 t196.length co17) : Value).ownBlock) (.slice Ao15 t193.length co15) t193) ∧ Aside0 (Kd.R Kd.string 9 w' w.heap.size (fun k_ => (w.heap.size ≤ k_) ∧ some k_ ≠ ((.slice Ao13 t190.length co13) : Value).ownBlock ∧ some k_ ≠ ((.slice Ao15 t193.length co15) : Value).ownBlock) (.slice Ao17 t196.length co17) t196) ∧ Aside0 (Kd.N k35 35 w' w.heap.size (fun k_ => (w.heap.size ≤ k_ ∨ okp k_) ∧ some k_ ≠ ((.slice Ao13 t190.length co13) : Value).ownBlock ∧ some k_ ≠ ((.slice Ao15 t193.length co15) : Value).ownBlock ∧ some k_ ≠ ((.slice Ao17 t196.length co17) : Value).ownBlock ∧ k_ ≠ gb188 ∧ k_ ≠ gb189) u189005 x189005_1) ∧ Aside0 (w'.heap[gb188]? = some (.cells #[.bool a0_0, .bool a0_1, (.slice Ao13 t190.length co13), (.slice Ao15 t193.length co15), (.slice Ao17 t196.length co17), u189005, .bool a0_6, .bool a0_7] 25 (0, 0))) ∧ Aside0 (w'.heap[gb189]? = some (.cells #[.bool false, .bool false, (.slice none 0 0), (.slice none 0 0), (.slice none 0 0), (.slice none 0 0), .bool false, .bool false] 25 (0, 0))) ∧ Aside0 (Below w.heap.size w w'))
 case atStart => exact ⟨(0), (t199), (.slice Ao19 t199.length co19), (by first | rfl | (simp; done) | (simp [*]; done)), H', ⟨Nat.le_refl _⟩, ⟨by exact Kd.R_mono (Kd.R_far (p := ⟨gb188, 5, none⟩) (Kd.R_far (p := ⟨gb188, 4, none⟩) (Kd.R_far (p := ⟨gb188, 3, none⟩) (Kd.R_far (p := ⟨gb188, 2, none⟩) (Kd.R_types HO192.out BK188.out (by decide)) (fun _ hk => hk.2) (.slice Ao13 t190.length co13)) (fun _ hk => hk.2) (.slice Ao15 t193.length co15)) (fun _ hk => hk.2) (.slice Ao17 t196.length co17)) (fun _ hk => hk.2) (.slice Ao19 t199.length co19)) (fun _ hk => ⟨hk.1.1.1.1, ⟨hk.1.1.2, hk.1.2⟩⟩)⟩, ⟨by exact Kd.R_mono (Kd.R_far (p := ⟨gb188, 5, none⟩) (Kd.R_far (p := ⟨gb188, 4, none⟩) (Kd.R_far (p := ⟨gb188, 3, none⟩) (Kd.R_far (p := ⟨gb188, 2, none⟩) (Kd.R_types HO195.out BK188.out (by decide)) (fun _ hk => hk.2) (.slice Ao13 t190.length co13)) (fun _ hk => hk.2) (.slice Ao15 t193.length co15)) (fun _ hk => hk.2) (.slice Ao17 t196.length co17)) (fun _ hk => hk.2) (.slice Ao19 t199.length co19)) (fun _ hk => ⟨hk.1.1.1.1, ⟨hk.1.1.2, hk.1.2⟩⟩)⟩, ⟨by exact Kd.R_mono (Kd.R_far (p := ⟨gb188, 5, none⟩) (Kd.R_far (p := ⟨gb188, 4, none⟩) (Kd.R_far (p := ⟨gb188, 3, none⟩) (Kd.R_far (p := ⟨gb188, 2, none⟩) (Kd.R_types HO198.out BK188.out (by decide)) (fun _ hk => hk.2) (.slice Ao13 t190.length co13)) (fun _ hk => hk.2) (.slice Ao15 t193.length co15)) (fun _ hk => hk.2) (.slice Ao17 t196.length co17)) (fun _ hk => hk.2) (.slice Ao19 t199.length co19)) (fun _ hk => ⟨hk.1.1.1.1, ⟨hk.1.1.2, hk.1.2⟩⟩)⟩, ⟨by exact Kd.N_mono (Kd.N_far (p := ⟨gb188, 5, none⟩) (Kd.N_far (p := ⟨gb188, 4, none⟩) (Kd.N_far (p := ⟨gb188, 3, none⟩) (Kd.N_far (p := ⟨gb188, 2, none⟩) (Kd.N_mono HO201.out (fun k_ hk => (⟨hk, hk.2.2.2.2.1⟩ : _ ∧ k_ ≠ gb188))) (fun _ hk => hk.2) (.slice Ao13 t190.length co13)) (fun _ hk => hk.2) (.slice Ao15 t193.length co15)) (fun _ hk => hk.2) (.slice Ao17 t196.length co17)) (fun _ hk => hk.2) (.slice Ao19 t199.length co19)) (fun _ hk => ⟨hk.1.1, ⟨hk.1.2.1, ⟨hk.1.2.2.1, ⟨hk.1.2.2.2.1, ⟨hk.1.2.2.2.2.1, hk.1.2.2.2.2.2⟩⟩⟩⟩⟩)⟩, ⟨by refine blk_put (cs := #[.bool a0_0, .bool a0_1, .slice Ao13 t190.length co13, .slice Ao15 t193.length co15, .slice Ao17 t196.length co17, .slice A0_5 l0_5.length c0_5, .bool a0_6, .bool a0_7]) ?_ 5 _ rfl; refine blk_put (cs := #[.bool a0_0, .bool a0_1, .slice Ao13 t190.length co13, .slice Ao15 t193.length co15, .slice A0_4 l0_4.length c0_4, .slice A0_5 l0_5.length c0_5, .bool a0_6, .bool a0_7]) ?_ 4 _ rfl; refine blk_put (cs := #[.bool a0_0, .bool a0_1, .slice Ao13 t190.length co13, .slice A0_3 l0_3.length c0_3, .slice A0_4 l0_4.length c0_4, .slice A0_5 l0_5.length c0_5, .bool a0_6, .bool a0_7]) ?_ 3 _ rfl; refine blk_put (cs := #[.bool a0_0, .bool a0_1, .slice A0_2 l0_2.length c0_2, .slice A0_3 l0_3.length c0_3, .slice A0_4 l0_4.length c0_4, .slice A0_5 l0_5.length c0_5, .bool a0_6, .bool a0_7]) ?_ 2 _ rfl; exact BK188.out⟩, ⟨by refine blk_far ?_ NB189_188.out _; refine blk_far ?_ NB189_188.out _; refine blk_far ?_ NB189_188.out _; refine blk_far ?_ NB189_188.out _; exact BK189.out⟩, ⟨by repeat (first | (with_reducible first | exact HB.out | apply below_alloc | apply pw_below_drewN | apply below_drew1 | refine below_set ?_ GE188.out | refine below_set ?_ GE189.out) | exact HB.out)⟩⟩
 case round =>
  clear H'
  try clear c2
  try clear p2
  try clear c3
  try clear c6
  try clear c21
  try clear hcz22_0
  try clear hcz22_1
  try clear hcz22_2
  try clear hcz22_3
  try clear hcz22_4
  try clear hcz22_5
  try clear hcz22_6
  try clear hcz22_7
  try clear hfz22_0
  try clear hfz22_1
  try clear hfz22_2
  try clear hfz22_3
  try clear hfz22_4
  try clear hfz22_5
  try clear hfz22_6
  try clear hfz22_7
  obtain ⟨x23_1, x189005_1, u189005, rfl, HA, HK1, HO_189002, HO_189003, HO_189004, HO_189005, BK188, BK189, HB⟩ := hrel
  cases gk with
  | zero => exact absurd HA.out (by simp [config_copied.l0])
  | succ k1 =>
   have H := HA.out
   clear HA
   simp only [config_copied.l0] at H
   by_cases c23 : x23_1 < (t199.length : Int)
   ·rw [if_pos c23] at H
    have c23b0 : decide (x23_1 < (t199.length : Int)) = true := decide_eq_true c23
    clear c23
    by_cases c24 : 0 ≤ x23_1
    ·rw [if_pos c24] at H
     have c24b0 : decide (0 ≤ x23_1) = true := decide_eq_true c24
     clear c24
     by_cases c25 : x23_1 < (x189005_1.length : Int)
     ·rw [if_pos c25] at H
      have c25b0 : decide (x23_1 < (x189005_1.length : Int)) = true := decide_eq_true c25
      clear c25
      replace H := Option.bind_eq_some_iff.mp H
      obtain ⟨t203, A260, H⟩ := H
      replace H : (config_copied.l0 k1 (t199.length : Int) (wrap64 (x23_1 + 1)) a0_0 a0_1 t190 t193 t196 (x189005_1.set (x23_1 : Int).toNat (⟨(rd_T35 x189005_1 x23_1).f0, t203⟩ : S35)) a0_6 a0_7) = some (r1, r2, r3, r4, r5, r6, r7, r8) := H
      have A26 := Aside0.mk A260
      clear A260
      obtain ⟨y206, hy206⟩ : ∃ y_ : List (S35), y_ = (x189005_1.set (x23_1 : Int).toNat (⟨(rd_T35 x189005_1 x23_1).f0, t203⟩ : S35)) := ⟨_, rfl⟩
      replace H : (config_copied.l0 k1 (t199.length : Int) (wrap64 (x23_1 + 1)) a0_0 a0_1 t190 t193 t196 y206 a0_6 a0_7) = some (r1, r2, r3, r4, r5, r6, r7, r8) := by first | (rw [hy206]; with_reducible exact H) | (have H2_ := (Option.bind_some _ _).symm.trans H; rw [hy206]; with_reducible exact H2_) | (have H2_ := (Option.bind_some _ _).symm.trans H; with_reducible exact H2_) | with_reducible exact H | (rw [hy206]; exact H) | exact H
      have Ny206 := Aside0.mk hy206
      clear hy206
      have H' := Aside0.mk H
      clear H
      try go_wp2
      have n0_ := Aside0.mk (Kd.R_drew HO_189002.out)
      have n1_ := Aside0.mk (Kd.R_drew HO_189003.out)
      have n2_ := Aside0.mk (Kd.R_drew HO_189004.out)
      have n3_ := Aside0.mk (Kd.N_drew HO_189005.out)
      have n4_ := Aside0.mk (blk_drew BK188.out)
      have n5_ := Aside0.mk (blk_drew BK189.out)
      have n6_ := Aside0.mk (below_drew1 HB.out)
      clear HO_189002
      clear HO_189003
      clear HO_189004
      clear HO_189005
      clear BK188
      clear BK189
      clear HB
      have HO_189002 := n0_
      have HO_189003 := n1_
      have HO_189004 := n2_
      have HO_189005 := n3_
      have BK188 := n4_
      have BK189 := n5_
      have HB := n6_
      clear n0_ n1_ n2_ n3_ n4_ n5_ n6_
      obtain ⟨Ao29, co29, eo29⟩ := Kd.N_slice HO_189005.out
      (first | subst eo29 | (injection eo29 with f1_ f2_ f3_; have f4_ := f1_.symm; have f5_ := f3_.symm; clear f1_ f2_ f3_; subst f4_; subst f5_))
      have p202 : 0 ≤ (x23_1 : Int) := of_decide_eq_true (by first | (with_reducible assumption) | assumption)
      have q202 : x23_1 < (x189005_1.length : Int) := of_decide_eq_true (by first | (with_reducible assumption) | assumption)
      obtain ⟨ad202, A202_1, c202_1, e202, hx202_0, hx202_1, hl202_1, hi202_1⟩ := at_T35 (Kd.N_reads' HO_189005.out).2.2 x23_1 p202 q202
      cases e202
      obtain ⟨ce202, hce202, hMe202, hcc202⟩ := Kd.N_get HO_189005.out z35 x23_1 p202 (by first | exact q202 | exact of_decide_eq_true (by first | (with_reducible assumption) | assumption) | (have e_ := (Kd.N_reads' HO_189005.out).1; omega))
      obtain ⟨ua202_1, uc202_1, rfl, ul202_1, ge202_1⟩ := k35_openF hMe202
      have hv202_1 := hcc202 1 _ rfl
      rw [add_field _ _ 1 (by omega)] at hv202_1
      replace hv202_1 := Option.some.inj (hv202_1.symm.trans hx202_1)
      injection hv202_1 with hva_ hvn_ hvc_
      rw [hva_] at ge202_1
      rw [hvc_] at ul202_1
      have HL202_1 := Aside0.mk (show Kd.V Kd.string 9 _ w.heap.size _ _ ((rd_T35 x189005_1 x23_1).f1) from Kd.V_mk ul202_1 ge202_1)
      clear hva_ hvn_ hvc_ ge202_1 ul202_1
      clear hcc202 hce202
      have HR202_1 := Aside0.mk hi202_1
      have HC202_1 := Aside0.mk hl202_1
      clear hi202_1 hl202_1
      replace p202 := eq_true p202
      replace q202 := eq_true q202
      refine start_ (n := 13) (S := fun w' => w'.cell? ⟨gb188, 0, none⟩ = some (.bool a0_0) ∧ w'.cell? ⟨gb188, 1, none⟩ = some (.bool a0_1) ∧ w'.cell? ⟨gb188, 2, none⟩ = some (.slice Ao13 t190.length co13) ∧ w'.cell? ⟨gb188, 3, none⟩ = some (.slice Ao15 t193.length co15) ∧ w'.cell? ⟨gb188, 4, none⟩ = some (.slice Ao17 t196.length co17) ∧ w'.cell? ⟨gb188, 5, none⟩ = some (.slice (some ad202) x189005_1.length co29) ∧ w'.cell? ⟨gb188, 6, none⟩ = some (.bool a0_6) ∧ w'.cell? ⟨gb188, 7, none⟩ = some (.bool a0_7) ∧ w'.cell? (ad202.add ((x23_1).toNat * 2)) = some (.string ((rd_T35 x189005_1 x23_1).f0)) ∧ w'.cell? ⟨(ad202.add ((x23_1).toNat * 2)).block, (ad202.add ((x23_1).toNat * 2)).off + 1, none⟩ = some (.slice A202_1 ((rd_T35 x189005_1 x23_1).f1).length c202_1)) (ds := [12]) (tf 0 13) (by kernel_rfl) rfl rfl ⟨(blk_cell BK188.out 0).trans rfl, (blk_cell BK188.out 1).trans rfl, (blk_cell BK188.out 2).trans rfl, (blk_cell BK188.out 3).trans rfl, (blk_cell BK188.out 4).trans rfl, (blk_cell BK188.out 5).trans rfl, (blk_cell BK188.out 6).trans rfl, (blk_cell BK188.out 7).trans rfl, hx202_0, hx202_1⟩ (fun hHeld => ?_); refine with_tabW config_copied.tab5 config_copied.bits5 (fun HT_ HW_ => ?_)
      generalize wr.drew = w28 at HO_189002 HO_189003 HO_189004 HO_189005 BK188 BK189 HB HL202_1 HR202_1 hx202_0 hx202_1 hHeld ⊢
      refine pure_ (i := 0) (N := some 26) (v := ?_) (a' := ?_) (tf 1 12) rfl rfl (any_of HT_.out (by kernel_rfl)) (fun _ _ _ h => h) (Or.inl ⟨by rfl, ?_⟩) ?_ ?_
      rotate_left
      ·intro w'
       go_simp
       with_reducible rfl
      rotate_left
      ·simp only [Act.put, List.setIfInBounds_toArray, List.set_cons_zero, List.set_cons_succ, i64_w, i32_w]
       rfl
      refine pure_ (i := 2) (N := some 28) (v := ?_) (a' := ?_) #[true, false, true, false, false, false, false, false, false, false, false, false, false] rfl rfl (any_of HT_.out (by kernel_rfl)) (fun _ _ _ h => h) (Or.inl ⟨by rfl, ?_⟩) ?_ ?_
      rotate_left
      ·intro w'
       go_simp
       with_reducible rfl
      rotate_left
      ·simp only [Act.put, List.setIfInBounds_toArray, List.set_cons_zero, List.set_cons_succ, i64_w, i32_w]
       rfl
      refine pure_ (i := 3) (N := some 29) (v := ?_) (a' := ?_) #[true, false, true, true, false, false, false, false, false, false, false, false, false] rfl rfl (any_of HT_.out (by kernel_rfl)) (fun _ _ _ h => h) (Or.inl ⟨by rfl, ?_⟩) ?_ ?_
      rotate_left
      ·intro w'
       go_simp
       with_reducible rfl
      rotate_left
      ·simp only [Act.put, List.setIfInBounds_toArray, List.set_cons_zero, List.set_cons_succ, i64_w, i32_w]
       rfl
      refine pure_ (i := 5) (N := some 31) (v := ?_) (a' := ?_) #[true, false, true, true, false, true, false, false, false, false, false, false, false] rfl rfl (any_of HT_.out (by kernel_rfl)) (fun _ _ _ h => h) (Or.inl ⟨by rfl, ?_⟩) ?_ ?_
      rotate_left
      ·intro w'
       go_simp
       with_reducible rfl
      rotate_left
      ·simp only [Act.put, List.setIfInBounds_toArray, List.set_cons_zero, List.set_cons_succ, i64_w, i32_w]
       rfl
      refine take_ (i := 1) (N := some 27) (v := ?_) (a' := ?_) #[true, true, true, true, false, true, false, false, false, false, false, false, false] rfl rfl (take_ofW HT_.out HW_.out (by kernel_rfl)) (fun _ _ _ h => h) (Or.inl ⟨by rfl, ?_⟩) hHeld ?_ ?_
      rotate_left
      ·rintro w' ⟨s0, s1, s2, s3, s4, s5, s6, s7, s8, s9⟩
       go_simp
       with_reducible rfl
      rotate_left
      ·simp only [Act.put, List.setIfInBounds_toArray, List.set_cons_zero, List.set_cons_succ, i64_w, i32_w]
       rfl
      refine take_ (i := 4) (N := some 30) (v := ?_) (a' := ?_) (tf 6 7) rfl rfl (take_ofW HT_.out HW_.out (by kernel_rfl)) (fun _ _ _ h => h) (Or.inl ⟨by rfl, ?_⟩) hHeld ?_ ?_
      rotate_left
      ·rintro w' ⟨s0, s1, s2, s3, s4, s5, s6, s7, s8, s9⟩
       go_simp
       with_reducible rfl
      rotate_left
      ·simp only [Act.put, List.setIfInBounds_toArray, List.set_cons_zero, List.set_cons_succ, i64_w, i32_w]
       rfl
      refine pure_ (i := 6) (N := some 32) (v := ?_) (a' := ?_) (tf 7 6) rfl rfl (any_of HT_.out (by kernel_rfl)) (fun _ _ _ h => h) (Or.inl ⟨by rfl, ?_⟩) ?_ ?_
      rotate_left
      ·intro w'
       go_simp
       with_reducible rfl
      rotate_left
      ·simp only [Act.put, List.setIfInBounds_toArray, List.set_cons_zero, List.set_cons_succ, i64_w, i32_w]
       rfl
      refine pure_ (i := 7) (N := some 33) (v := ?_) (a' := ?_) (tf 8 5) rfl rfl (any_of HT_.out (by kernel_rfl)) (fun _ _ _ h => h) (Or.inl ⟨by rfl, ?_⟩) ?_ ?_
      rotate_left
      ·intro w'
       go_simp
       with_reducible rfl
      rotate_left
      ·simp only [Act.put, List.setIfInBounds_toArray, List.set_cons_zero, List.set_cons_succ, i64_w, i32_w]
       rfl
      refine take_ (i := 8) (N := some 34) (v := ?_) (a' := ?_) (tf 9 4) rfl rfl (take_ofW HT_.out HW_.out (by kernel_rfl)) (fun _ _ _ h => h) (Or.inl ⟨by rfl, ?_⟩) hHeld ?_ ?_
      rotate_left
      ·rintro w' ⟨s0, s1, s2, s3, s4, s5, s6, s7, s8, s9⟩
       go_simp
       with_reducible rfl
      rotate_left
      ·simp only [Act.put, List.setIfInBounds_toArray, List.set_cons_zero, List.set_cons_succ, i64_w, i32_w]
       rfl
      refine one_ (i := 9) (N := some 35) (tf 10 3) rfl rfl (one_of HT_.out (by kernel_rfl)) (by decide) (fun K hK => ?_)
      refine goes_ Try.func63 (by kernel_rfl) rfl #[.slice A202_1 ((rd_T35 x189005_1 x23_1).f1).length c202_1] (by rfl) rfl rfl (by (try simp only [List.map_toArray, List.map_cons, List.map_nil]); first | done | rfl | (simp only [List.length_drop, List.length_take]; rfl)) ?_
      with_reducible refine (slices_Clone_string_string.calls _ _ ((rd_T35 x189005_1 x23_1).f1) t203 _ ?side1 ?side2 A26.out).mono ?_
      (case side1 => repeat (first | exact (by repeat (first | (with_reducible exact HR202_1.out) | (with_reducible refine Kd.C_alloc ?_ _) | (with_reducible refine Kd.C_drewN ?_ _) | (with_reducible refine Kd.C_drew ?_) | exact HR202_1.out)) | (with_reducible refine Kd.C_alloc ?_ _) | (with_reducible refine Kd.C_drewN ?_ _) | (with_reducible refine Kd.C_drew ?_)))
      (case side2 => exact HC202_1.out)
      rintro e w30 ⟨v204, rfl, ho0, hb⟩
      have HS8_ := (hb.cell (World.block_lt_of_cell? _ _ (hHeld.2.2.2.2.2.2.2.2.1))).trans (hHeld.2.2.2.2.2.2.2.2.1)
      have HS9_ := (hb.cell (World.block_lt_of_cell? _ _ (hHeld.2.2.2.2.2.2.2.2.2))).trans (hHeld.2.2.2.2.2.2.2.2.2)
      refine ⟨_, rfl, ?_⟩
      have n0_ := Aside0.mk (Kd.R_elder' (by exact HO_189002.out) (Kd.R_base ho0) hb)
      have n1_ := Aside0.mk (Kd.R_elder' (by exact HO_189003.out) (Kd.R_base ho0) hb)
      have n2_ := Aside0.mk (Kd.R_elder' (by exact HO_189004.out) (Kd.R_base ho0) hb)
      have n3_ := Aside0.mk (Kd.N_elder' (by exact HO_189005.out) (Kd.R_base ho0) hb)
      have n4_ := Aside0.mk (Kd.V_elder' (by exact HL202_1.out) (Kd.R_base ho0) hb)
      have n5_ := Aside0.mk (Kd.R_lower (Kd.R_new' (Kd.R_new' (Kd.R_new' (Kd.R_newM (M := fun k_ => (w.heap.size ≤ k_)) ho0 (below_size (by repeat (first | (with_reducible first | exact HB.out | apply below_alloc | apply pw_below_drewN | apply below_drew1 | refine below_set ?_ GE188.out | refine below_set ?_ GE189.out) | exact HB.out))) (fun k_ h_ => h_)) (Kd.R_lt (by exact HO_189002.out))) (Kd.R_lt (by exact HO_189003.out))) (Kd.R_lt (by exact HO_189004.out))) (below_size (by repeat (first | (with_reducible first | exact HB.out | apply below_alloc | apply pw_below_drewN | apply below_drew1 | refine below_set ?_ GE188.out | refine below_set ?_ GE189.out) | exact HB.out))))
      have n6_ := Aside0.mk (blk_below (g := gb188) (o := .cells #[.bool a0_0, .bool a0_1, .slice Ao13 t190.length co13, .slice Ao15 t193.length co15, .slice Ao17 t196.length co17, .slice (some ad202) x189005_1.length co29, .bool a0_6, .bool a0_7] 25 (0, 0)) (by exact BK188.out) hb)
      have n7_ := Aside0.mk (blk_below (g := gb189) (o := .cells #[.bool false, .bool false, .slice none 0 0, .slice none 0 0, .slice none 0 0, .slice none 0 0, .bool false, .bool false] 25 (0, 0)) (by exact BK189.out) hb)
      have n8_ := Aside0.mk (Kd.C_below (by repeat (first | (with_reducible exact HR202_1.out) | (with_reducible refine Kd.C_alloc ?_ _) | (with_reducible refine Kd.C_drewN ?_ _) | (with_reducible refine Kd.C_drew ?_) | exact HR202_1.out)) hb)
      have n9_ := Aside0.mk (below_step (by repeat (first | (with_reducible first | exact HB.out | apply below_alloc | apply pw_below_drewN | apply below_drew1 | refine below_set ?_ GE188.out | refine below_set ?_ GE189.out) | exact HB.out)) hb)
      clear HO_189002
      clear HO_189003
      clear HO_189004
      clear HO_189005
      clear HL202_1
      clear BK188
      clear BK189
      clear HR202_1
      clear HB
      have HO_189002 := n0_
      have HO_189003 := n1_
      have HO_189004 := n2_
      have HO_189005 := n3_
      have HL202_1 := n4_
      have HO205 := n5_
      have BK188 := n6_
      have BK189 := n7_
      have HR202_1 := n8_
      have HB := n9_
      clear n0_ n1_ n2_ n3_ n4_ n5_ n6_ n7_ n8_ n9_
      (try clear hb)
      (try clear hb2)
      (try clear hk)
      (try clear hi)
      (try clear ho0)
      have p27 : 0 ≤ (x23_1 : Int) := of_decide_eq_true (by first | (with_reducible assumption) | assumption)
      have q27 : (x23_1 : Int) < ((x189005_1.length : Int) : Int) := of_decide_eq_true (by first | (with_reducible assumption) | assumption)
      obtain ⟨go27, co27, eo27, gb27, gl27, cl27, HG27⟩ := Kd.N_form HO_189005.out (by omega)
      (first | cases eo27 | (injection eo27 with ea_ en_ ec_; (first | subst ea_ | (injection ea_ with ea_; subst ea_)); subst ec_; clear en_))
      have GB27 := Aside0.mk gb27
      have GG27 := Aside0.mk HG27
      clear gb27 gl27 HG27
      (first | simp only [add_plain] at hx202_0 | skip)
      (first | simp only [add_plain] at hx202_1 | skip)
      obtain ⟨ce27, hcl27, hM27, hcc27, hfr27⟩ := Kd.N_elem HO_189005.out z35 (x23_1 : Int) p27 q27
      obtain ⟨ua27_1, uc27_1, rfl, ul27_1, ge27_1⟩ := k35_openF hM27
      have hx27_0 : World.cell? _ ⟨go27, (x23_1 : Int).toNat * 2, none⟩ = some (.string ((rd_T35 x189005_1 x23_1).f0)) := hcc27 0 _ rfl
      have hx27_1 : World.cell? _ ⟨go27, (x23_1 : Int).toNat * 2 + 1, none⟩ = some (.slice ua27_1 ((rd_T35 x189005_1 x23_1).f1).length uc27_1) := hcc27 1 _ rfl
      have hf27_0 : World.frozen? _ ⟨go27, (x23_1 : Int).toNat * 2, none⟩ = false := hfr27 0
      have hf27_1 : World.frozen? _ ⟨go27, (x23_1 : Int).toNat * 2 + 1, none⟩ = false := hfr27 1
      clear hcl27 hcc27 hfr27 hM27
      replace p27 := eq_true p27
      replace q27 := eq_true q27
      have HX31 := Aside0.mk (show Kd.N k35 35 _ w.heap.size (fun k_ => (w.heap.size ≤ k_ ∨ okp k_) ∧ some k_ ≠ (.slice Ao13 t190.length co13 : Value).ownBlock ∧ some k_ ≠ (.slice Ao15 t193.length co15 : Value).ownBlock ∧ some k_ ≠ (.slice Ao17 t196.length co17 : Value).ownBlock ∧ some k_ ≠ (v204 : Value).ownBlock ∧ k_ ≠ gb188 ∧ k_ ≠ gb189) (.slice (some ⟨go27, 0, none⟩) x189005_1.length co29) x189005_1 from (Kd.N_mono (HO_189005.out) (fun k_ hk => ⟨hk.1.1, ⟨hk.1.2.1, ⟨hk.1.2.2.1, ⟨hk.1.2.2.2.1, ⟨hk.2, ⟨hk.1.2.2.2.2.1, hk.1.2.2.2.2.2⟩⟩⟩⟩⟩⟩)))
      replace HX31 := Aside0.mk (show Kd.N k35 35 _ w.heap.size (fun k_ => (w.heap.size ≤ k_ ∨ okp k_) ∧ some k_ ≠ (.slice Ao13 t190.length co13 : Value).ownBlock ∧ some k_ ≠ (.slice Ao15 t193.length co15 : Value).ownBlock ∧ some k_ ≠ (.slice Ao17 t196.length co17 : Value).ownBlock ∧ k_ ≠ gb188 ∧ k_ ≠ gb189) (.slice (some ⟨go27, 0, none⟩) x189005_1.length co29) x189005_1 from Kd.N_mono HX31.out (fun k_ hk => ⟨hk.1, ⟨hk.2.1, ⟨hk.2.2.1, ⟨hk.2.2.2.1, ⟨hk.2.2.2.2.2.1, hk.2.2.2.2.2.2⟩⟩⟩⟩⟩))
      obtain ⟨ce31, hcl31, hM31, hcc31, hfr31⟩ := Kd.N_elem HX31.out z35 (x23_1 : Int) (of_decide_eq_true (by first | (with_reducible assumption) | assumption)) (by have h_ : (x23_1 : Int) < ((x189005_1.length : Int) : Int) := of_decide_eq_true (by first | (with_reducible assumption) | assumption); first | exact h_ | (have e_ := (Kd.N_reads' HO_189005.out).1; omega) | simpa using h_)
      obtain ⟨ua31_1, uc31_1, rfl, ul31_1, ge31_1⟩ := k35_openF hM31
      obtain ⟨Ao204, co204, eo204⟩ := Kd.R_slice HO205.out
      subst eo204
      have HP31 := (Kd.N_seg HX31.out (x23_1 : Int) (of_decide_eq_true (by first | (with_reducible assumption) | assumption)) (by have h_ : (x23_1 : Int) < ((x189005_1.length : Int) : Int) := of_decide_eq_true (by first | (with_reducible assumption) | assumption); first | exact h_ | (have e_ := (Kd.N_reads' HO_189005.out).1; omega) | simpa using h_) (seg := [(.slice Ao204 t203.length co204 : Value)]) (j := 1) hcl31 hcc31 (show 2 ≤ 2 from by decide) (x' := (⟨(rd_T35 x189005_1 x23_1).f0, t203⟩ : S35)) (k35_mkF _ _ (⟨(rd_T35 x189005_1 x23_1).f0, t203⟩ : S35) (Kd.R_reads' (Kd.R_mono (ok' := (fun k_ => ((fun k_ => (w.heap.size ≤ k_ ∨ okp k_) ∧ some k_ ≠ (.slice Ao13 t190.length co13 : Value).ownBlock ∧ some k_ ≠ (.slice Ao15 t193.length co15 : Value).ownBlock ∧ some k_ ≠ (.slice Ao17 t196.length co17 : Value).ownBlock ∧ k_ ≠ gb188 ∧ k_ ≠ gb189)) k_ ∧ k_ ≠ go27)) (Kd.R_types (Kd.R_types (Kd.R_apart' (HO205.out) (Kd.N_typed HO_189005.out) (by decide)) BK188.out (by decide)) BK189.out (by decide)) (by intro k_ hk; exact ⟨⟨.inl hk.1.1.1.1.1.1.1, ⟨hk.1.1.1.1.1.2, ⟨hk.1.1.1.1.2, ⟨hk.1.1.1.2, ⟨hk.1.2, hk.2⟩⟩⟩⟩⟩, fun e_ => (hk.1.1.2) (by rw [e_]; rfl)⟩))).2.1 (Kd.R_F (Kd.R_mono (ok' := (fun k_ => ((fun k_ => (w.heap.size ≤ k_ ∨ okp k_) ∧ some k_ ≠ (.slice Ao13 t190.length co13 : Value).ownBlock ∧ some k_ ≠ (.slice Ao15 t193.length co15 : Value).ownBlock ∧ some k_ ≠ (.slice Ao17 t196.length co17 : Value).ownBlock ∧ k_ ≠ gb188 ∧ k_ ≠ gb189)) k_ ∧ k_ ≠ go27)) (Kd.R_types (Kd.R_types (Kd.R_apart' (HO205.out) (Kd.N_typed HO_189005.out) (by decide)) BK188.out (by decide)) BK189.out (by decide)) (by intro k_ hk; exact ⟨⟨.inl hk.1.1.1.1.1.1.1, ⟨hk.1.1.1.1.1.2, ⟨hk.1.1.1.1.2, ⟨hk.1.1.1.2, ⟨hk.1.2, hk.2⟩⟩⟩⟩⟩, fun e_ => (hk.1.1.2) (by rw [e_]; rfl)⟩)))) (fun _ hk => hk)).1
      rw [← Ny206.out] at HP31
      have HQ31 := Aside0.mk HP31
      clear hcl31 hcc31 hfr31 hM31 HP31
      refine hK.out _ _ ⟨(blk_cell BK188.out 0).trans rfl, (blk_cell BK188.out 1).trans rfl, (blk_cell BK188.out 2).trans rfl, (blk_cell BK188.out 3).trans rfl, (blk_cell BK188.out 4).trans rfl, (blk_cell BK188.out 5).trans rfl, (blk_cell BK188.out 6).trans rfl, (blk_cell BK188.out 7).trans rfl, HS8_, HS9_⟩ (fun hHeld => ?_)
      clear hK K
      refine norm_ (a' := ?_) ?_ ?_
      rotate_left
      ·show Act.put _ (some 35) _ = _
       simp only [Act.put, List.setIfInBounds_toArray, List.set_cons_zero, List.set_cons_succ, i64_w, i32_w]
       rfl
      refine pure_ (i := 10) (N := some 36) (v := ?_) (a' := ?_) (tf 11 2) rfl rfl (any_of HT_.out (by kernel_rfl)) (fun _ _ _ h => h) (Or.inl ⟨by rfl, ?_⟩) ?_ ?_
      rotate_left
      ·intro w'
       go_simp
       with_reducible rfl
      rotate_left
      ·simp only [Act.put, List.setIfInBounds_toArray, List.set_cons_zero, List.set_cons_succ, i64_w, i32_w]
       rfl
      refine pure_ (i := 11) (N := some 37) (v := ?_) (a' := ?_) (tf 12 1) rfl rfl (any_of HT_.out (by kernel_rfl)) (fun _ _ _ h => h) (Or.inl ⟨by rfl, ?_⟩) ?_ ?_
      rotate_left
      ·intro w'
       go_simp
       with_reducible rfl
      rotate_left
      ·simp only [Act.put, List.setIfInBounds_toArray, List.set_cons_zero, List.set_cons_succ, i64_w, i32_w]
       rfl
      refine last_ (i := 12) (N := none) (tf 13 0) rfl rfl (one_of HT_.out (by kernel_rfl)) (by decide) (fun K hK => ?_)
      refine skip_ (w1 := ?_) (by rfl) rfl ?_ ?_
      rotate_left
      ·go_simp
       rfl
      refine hK.out _ _ ?_
      clear hK K
      refine done_ (done_of HT_.out (by kernel_rfl)) ?_
      try go_wp2
      go_roundg k1
      case measure => have := HK1.out; omega
      case rel => exact ⟨(wrap64 (x23_1 + 1)), (y206), (.slice (some ⟨go27, 0, none⟩) x189005_1.length co29), (by first | rfl | (simp; done) | (simp [*]; done)), H', ⟨by have := HK1.out; omega⟩, ⟨by exact Kd.R_mono (Kd.R_far (p := ⟨go27, (x23_1 : Int).toNat * 2 + 1, none⟩) (Kd.R_types HO_189002.out GG27.out (by decide)) (fun _ hk => hk.2) ((.slice Ao204 t203.length co204 : Value))) (fun _ hk => ⟨hk.1.1.1, ⟨hk.1.1.2.1, hk.1.1.2.2⟩⟩)⟩, ⟨by exact Kd.R_mono (Kd.R_far (p := ⟨go27, (x23_1 : Int).toNat * 2 + 1, none⟩) (Kd.R_types HO_189003.out GG27.out (by decide)) (fun _ hk => hk.2) ((.slice Ao204 t203.length co204 : Value))) (fun _ hk => ⟨hk.1.1.1, ⟨hk.1.1.2.1, hk.1.1.2.2⟩⟩)⟩, ⟨by exact Kd.R_mono (Kd.R_far (p := ⟨go27, (x23_1 : Int).toNat * 2 + 1, none⟩) (Kd.R_types HO_189004.out GG27.out (by decide)) (fun _ hk => hk.2) ((.slice Ao204 t203.length co204 : Value))) (fun _ hk => ⟨hk.1.1.1, ⟨hk.1.1.2.1, hk.1.1.2.2⟩⟩)⟩, ⟨by exact HQ31.out⟩, ⟨by refine blk_far ?_ (by have h_ := Kd.N_away HO_189005.out (fun _ hk => hk.1.2.2.2.2.1); intro e_; exact h_ (by rw [e_]; rfl)) _; exact BK188.out⟩, ⟨by refine blk_far ?_ (by have h_ := Kd.N_away HO_189005.out (fun _ hk => hk.1.2.2.2.2.2); intro e_; exact h_ (by rw [e_]; rfl)) _; exact BK189.out⟩, ⟨by repeat (first | (with_reducible first | exact HB.out | apply below_alloc | apply pw_below_drewN | apply below_drew1 | refine below_set ?_ GB27.out | refine below_set ?_ GE188.out | refine below_set ?_ GE189.out) | exact HB.out)⟩⟩
     ·rw [if_neg c25] at H
      exact absurd H (by simp)
    ·rw [if_neg c24] at H
     exact absurd H (by simp)
   ·rw [if_neg c23] at H
    have c23b0 : decide (x23_1 < (t199.length : Int)) = false := decide_eq_false c23
    clear c23
    simp only [Option.some.injEq, Prod.mk.injEq] at H
    obtain ⟨rfl, rfl, rfl, rfl, rfl, rfl, rfl, rfl⟩ := H
    have hnb32 := NB188_189.out
    have hnc32 := NB189_188.out
    have hcz33_0 : wr.cell? ⟨gb188, 0, none⟩ = some (.bool a0_0) := (blk_cell BK188.out 0).trans rfl
    have hcz33_1 : wr.cell? ⟨gb188, 1, none⟩ = some (.bool a0_1) := (blk_cell BK188.out 1).trans rfl
    have hcz33_2 : wr.cell? ⟨gb188, 2, none⟩ = some (.slice Ao13 t190.length co13) := (blk_cell BK188.out 2).trans rfl
    have hcz33_3 : wr.cell? ⟨gb188, 3, none⟩ = some (.slice Ao15 t193.length co15) := (blk_cell BK188.out 3).trans rfl
    have hcz33_4 : wr.cell? ⟨gb188, 4, none⟩ = some (.slice Ao17 t196.length co17) := (blk_cell BK188.out 4).trans rfl
    have hcz33_5 : wr.cell? ⟨gb188, 5, none⟩ = some (u189005) := (blk_cell BK188.out 5).trans rfl
    have hcz33_6 : wr.cell? ⟨gb188, 6, none⟩ = some (.bool a0_6) := (blk_cell BK188.out 6).trans rfl
    have hcz33_7 : wr.cell? ⟨gb188, 7, none⟩ = some (.bool a0_7) := (blk_cell BK188.out 7).trans rfl
    have hfz33_0 := blk_frozen BK188.out 0
    have hfz33_1 := blk_frozen BK188.out 1
    have hfz33_2 := blk_frozen BK188.out 2
    have hfz33_3 := blk_frozen BK188.out 3
    have hfz33_4 := blk_frozen BK188.out 4
    have hfz33_5 := blk_frozen BK188.out 5
    have hfz33_6 := blk_frozen BK188.out 6
    have hfz33_7 := blk_frozen BK188.out 7
    have hcz34_0 : wr.cell? ⟨gb189, 0, none⟩ = some (.bool false) := (blk_cell BK189.out 0).trans rfl
    have hcz34_1 : wr.cell? ⟨gb189, 1, none⟩ = some (.bool false) := (blk_cell BK189.out 1).trans rfl
    have hcz34_2 : wr.cell? ⟨gb189, 2, none⟩ = some (.slice none 0 0) := (blk_cell BK189.out 2).trans rfl
    have hcz34_3 : wr.cell? ⟨gb189, 3, none⟩ = some (.slice none 0 0) := (blk_cell BK189.out 3).trans rfl
    have hcz34_4 : wr.cell? ⟨gb189, 4, none⟩ = some (.slice none 0 0) := (blk_cell BK189.out 4).trans rfl
    have hcz34_5 : wr.cell? ⟨gb189, 5, none⟩ = some (.slice none 0 0) := (blk_cell BK189.out 5).trans rfl
    have hcz34_6 : wr.cell? ⟨gb189, 6, none⟩ = some (.bool false) := (blk_cell BK189.out 6).trans rfl
    have hcz34_7 : wr.cell? ⟨gb189, 7, none⟩ = some (.bool false) := (blk_cell BK189.out 7).trans rfl
    have hfz34_0 := blk_frozen BK189.out 0
    have hfz34_1 := blk_frozen BK189.out 1
    have hfz34_2 := blk_frozen BK189.out 2
    have hfz34_3 := blk_frozen BK189.out 3
    have hfz34_4 := blk_frozen BK189.out 4
    have hfz34_5 := blk_frozen BK189.out 5
    have hfz34_6 := blk_frozen BK189.out 6
    have hfz34_7 := blk_frozen BK189.out 7
    obtain ⟨Ao35, co35, eo35⟩ := Kd.N_slice HO_189005.out
    subst eo35
    go_wp2
    refine bodyPost_ret (results_cell_row rfl _ _ gb189 25 #[.bool a0_0, .bool a0_1, .slice Ao13 t190.length co13, .slice Ao15 t193.length co15, .slice Ao17 t196.length co17, .slice Ao35 x189005_1.length co35, .bool a0_6, .bool a0_7] (0, 0) _ rfl (by refine blk_put (cs := #[.bool a0_0, .bool a0_1, .slice Ao13 t190.length co13, .slice Ao15 t193.length co15, .slice Ao17 t196.length co17, .slice Ao35 x189005_1.length co35, .bool a0_6, .bool false]) ?_ 7 _ rfl; refine blk_put (cs := #[.bool a0_0, .bool a0_1, .slice Ao13 t190.length co13, .slice Ao15 t193.length co15, .slice Ao17 t196.length co17, .slice Ao35 x189005_1.length co35, .bool false, .bool false]) ?_ 6 _ rfl; refine blk_put (cs := #[.bool a0_0, .bool a0_1, .slice Ao13 t190.length co13, .slice Ao15 t193.length co15, .slice Ao17 t196.length co17, .slice none 0 0, .bool false, .bool false]) ?_ 5 _ rfl; refine blk_put (cs := #[.bool a0_0, .bool a0_1, .slice Ao13 t190.length co13, .slice Ao15 t193.length co15, .slice none 0 0, .slice none 0 0, .bool false, .bool false]) ?_ 4 _ rfl; refine blk_put (cs := #[.bool a0_0, .bool a0_1, .slice Ao13 t190.length co13, .slice none 0 0, .slice none 0 0, .slice none 0 0, .bool false, .bool false]) ?_ 3 _ rfl; refine blk_put (cs := #[.bool a0_0, .bool a0_1, .slice none 0 0, .slice none 0 0, .slice none 0 0, .slice none 0 0, .bool false, .bool false]) ?_ 2 _ rfl; refine blk_put (cs := #[.bool a0_0, .bool false, .slice none 0 0, .slice none 0 0, .slice none 0 0, .slice none 0 0, .bool false, .bool false]) ?_ 1 _ rfl; refine blk_put (cs := #[.bool false, .bool false, .slice none 0 0, .slice none 0 0, .slice none 0 0, .slice none 0 0, .bool false, .bool false]) ?_ 0 _ rfl; exact BK189.out) Try.underlying25 rfl (by kernel_rfl)) rfl ?_
    exact ⟨_, _, _, _, by first | rfl | (simp [errW_none, errW_some] <;> rfl) | (simp [*, errW_none, errW_some] <;> rfl), by exact Kd.R_mono (Kd.R_far (p := ⟨gb189, 7, none⟩) (Kd.R_far (p := ⟨gb189, 6, none⟩) (Kd.R_far (p := ⟨gb189, 5, none⟩) (Kd.R_far (p := ⟨gb189, 4, none⟩) (Kd.R_far (p := ⟨gb189, 3, none⟩) (Kd.R_far (p := ⟨gb189, 2, none⟩) (Kd.R_far (p := ⟨gb189, 1, none⟩) (Kd.R_far (p := ⟨gb189, 0, none⟩) (Kd.R_types HO_189002.out BK189.out (by decide)) (fun _ hk => hk.2) (.bool a0_0)) (fun _ hk => hk.2) (.bool a0_1)) (fun _ hk => hk.2) (.slice Ao13 t190.length co13)) (fun _ hk => hk.2) (.slice Ao15 t193.length co15)) (fun _ hk => hk.2) (.slice Ao17 t196.length co17)) (fun _ hk => hk.2) (.slice Ao35 x189005_1.length co35)) (fun _ hk => hk.2) (.bool a0_6)) (fun _ hk => hk.2) (.bool a0_7)) (fun _ hk => ⟨hk.1.1, ⟨hk.1.2.1, hk.1.2.2⟩⟩), by exact Kd.R_mono (Kd.R_far (p := ⟨gb189, 7, none⟩) (Kd.R_far (p := ⟨gb189, 6, none⟩) (Kd.R_far (p := ⟨gb189, 5, none⟩) (Kd.R_far (p := ⟨gb189, 4, none⟩) (Kd.R_far (p := ⟨gb189, 3, none⟩) (Kd.R_far (p := ⟨gb189, 2, none⟩) (Kd.R_far (p := ⟨gb189, 1, none⟩) (Kd.R_far (p := ⟨gb189, 0, none⟩) (Kd.R_types HO_189003.out BK189.out (by decide)) (fun _ hk => hk.2) (.bool a0_0)) (fun _ hk => hk.2) (.bool a0_1)) (fun _ hk => hk.2) (.slice Ao13 t190.length co13)) (fun _ hk => hk.2) (.slice Ao15 t193.length co15)) (fun _ hk => hk.2) (.slice Ao17 t196.length co17)) (fun _ hk => hk.2) (.slice Ao35 x189005_1.length co35)) (fun _ hk => hk.2) (.bool a0_6)) (fun _ hk => hk.2) (.bool a0_7)) (fun _ hk => ⟨hk.1.1, ⟨hk.1.2.1, hk.1.2.2⟩⟩), by exact Kd.R_mono (Kd.R_far (p := ⟨gb189, 7, none⟩) (Kd.R_far (p := ⟨gb189, 6, none⟩) (Kd.R_far (p := ⟨gb189, 5, none⟩) (Kd.R_far (p := ⟨gb189, 4, none⟩) (Kd.R_far (p := ⟨gb189, 3, none⟩) (Kd.R_far (p := ⟨gb189, 2, none⟩) (Kd.R_far (p := ⟨gb189, 1, none⟩) (Kd.R_far (p := ⟨gb189, 0, none⟩) (Kd.R_types HO_189004.out BK189.out (by decide)) (fun _ hk => hk.2) (.bool a0_0)) (fun _ hk => hk.2) (.bool a0_1)) (fun _ hk => hk.2) (.slice Ao13 t190.length co13)) (fun _ hk => hk.2) (.slice Ao15 t193.length co15)) (fun _ hk => hk.2) (.slice Ao17 t196.length co17)) (fun _ hk => hk.2) (.slice Ao35 x189005_1.length co35)) (fun _ hk => hk.2) (.bool a0_6)) (fun _ hk => hk.2) (.bool a0_7)) (fun _ hk => ⟨hk.1.1, ⟨hk.1.2.1, hk.1.2.2⟩⟩), by exact Kd.N_mono (Kd.N_far (p := ⟨gb189, 7, none⟩) (Kd.N_far (p := ⟨gb189, 6, none⟩) (Kd.N_far (p := ⟨gb189, 5, none⟩) (Kd.N_far (p := ⟨gb189, 4, none⟩) (Kd.N_far (p := ⟨gb189, 3, none⟩) (Kd.N_far (p := ⟨gb189, 2, none⟩) (Kd.N_far (p := ⟨gb189, 1, none⟩) (Kd.N_far (p := ⟨gb189, 0, none⟩) (Kd.N_mono HO_189005.out (fun k_ hk => (⟨hk, hk.2.2.2.2.2⟩ : _ ∧ k_ ≠ gb189))) (fun _ hk => hk.2) (.bool a0_0)) (fun _ hk => hk.2) (.bool a0_1)) (fun _ hk => hk.2) (.slice Ao13 t190.length co13)) (fun _ hk => hk.2) (.slice Ao15 t193.length co15)) (fun _ hk => hk.2) (.slice Ao17 t196.length co17)) (fun _ hk => hk.2) (.slice Ao35 x189005_1.length co35)) (fun _ hk => hk.2) (.bool a0_6)) (fun _ hk => hk.2) (.bool a0_7)) (fun _ hk => ⟨hk.1.1, ⟨hk.1.2.1, ⟨hk.1.2.2.1, hk.1.2.2.2.1⟩⟩⟩), by repeat (first | (with_reducible first | exact HB.out | apply below_alloc | apply pw_below_drewN | apply below_drew1 | refine below_set ?_ GE188.out | refine below_set ?_ GE189.out) | exact HB.out)⟩

-- NOT PRINTED: function 36 (slices_DeleteFunc_string_string)

-- NOT PRINTED: function 17 (config_Strip)

-- NOT PRINTED: function 53 (api_Per_53)

-- NOT PRINTED: function 23 (config_Canon)

end Go.Proofs.Ytjofofpplpmgjaa.Pr
/- slices.DeleteFunc at a list of texts of the call's own, and risk.Element. -/
namespace Go.Proofs.Ytjofofpplpmgjaa.Pr
set_option linter.unusedVariables false
set_option linter.unusedSimpArgs false
open Go.RowKit Go.Lib Go.Shelf Go.Sort Go.Proofs.Ytjofofpplpmgjaa Go.Proofs.YtjofofpplpmgjaaW.PrintWords Go.Proofs.YtjofofpplpmgjaaW.PrintLast Go.Proofs.YtjofofpplpmgjaaW.PrintMore

def delRen : Go.Shelf.Ren := ⟨fun | 6 => 65 | 10 => 36 | n => n, fun | 23 => 9 | 25 => 45 | n => n, fun n => n⟩
theorem delLay : Go.Proofs.SlLaysH.n10 Try.prog delRen := {
  mixed := by kernel_rfl
  f6 := ⟨"slices.IndexFunc[[]string,string]", by decide, Try.func65.trans (congrArg some (by kernel_rfl))⟩
  f10 := ⟨"slices.DeleteFunc[[]string,string]", by decide, Try.func36.trans (congrArg some (by kernel_rfl))⟩
  t0 := Try.underlying0
  a0 := Try.isAgg0
  z0 := Try.sizeOf0
  v0 := Try.zeroValue0
  t3 := Try.underlying3
  a3 := Try.isAgg3
  z3 := Try.sizeOf3
  v3 := Try.zeroValue3
  t4 := Try.underlying4
  a4 := Try.isAgg4
  z4 := Try.sizeOf4
  v4 := Try.zeroValue4
  t22 := Try.underlying22
  a22 := Try.isAgg22
  z22 := Try.sizeOf22
  v22 := Try.zeroValue22
  a23 := Try.isAgg9
  z23 := Try.sizeOf9
  t25 := Try.underlying45
  a25 := Try.isAgg45
  z25 := Try.sizeOf45
  v25 := Try.zeroValue45 }
def unsafeB (x : ByteArray) : Bool := (risk_Element.f x).getD false
theorem unsafe_f (x : ByteArray) : risk_Element.f x = some (unsafeB x) := by
  unfold unsafeB
  cases h : risk_Element.f x with
  | some b => rfl
  | none => exfalso; revert h; unfold risk_Element.f; (repeat' split) <;> intro h <;> cases h
theorem elem_calls_ (x : ByteArray) (w : World) : FnGives Try.prog 37 #[] #[.string x] (.bool (unsafeB x)) w := by
  refine (risk_Element.calls x _ w (unsafe_f x)).mono ?_
  rintro e w' ⟨rfl, n, rfl⟩
  exact ⟨rfl, n, rfl⟩
theorem eg37 : ∀ args w, (callFunc 37 args).run Try.prog w = .ok (.enter 37 args) w := fun args w => enters_ Try.func37 (by kernel_rfl) rfl args w
def keepB (l : List ByteArray) : List ByteArray := l.filter fun x => !unsafeB x
/-- slices.DeleteFunc(l, risk.Element). -/
theorem del_calls {base : Nat} {ok : Nat → Prop} {w : World} {v : Value} {l : List ByteArray} (h : Kd.R Kd.string 9 w base ok v l) :
    Calls Try.prog 36 #[v, .func (.func 37) #[] #[]] w fun e w' => ∃ v', e = .returned v' ∧ Kd.R Kd.string 9 w' base ok v' (keepB l) ∧ v'.ownBlock = v.ownBlock ∧ w.grownBy w' v.ownBlock := by
  have ho := Kd.own_of_R (enc := Value.string) h
  by_cases hv : v = .slice none 0 0
  · subst hv
    have hl : l = [] := by
      have := ho.1
      rcases ho.2 with ⟨_, h2⟩ | ⟨g, cap, cur, h2, _⟩
      · exact List.eq_nil_of_length_eq_zero h2
      · cases h2
    subst hl
    have key := hid (idxStr_calls (A := none) (c := 0) (l := []) unsafeB 37 #[] eg37 w (Kd.R_reads' h).2.2 (fun _ _ _ h => by cases h))
    have hi : idxI unsafeB [] = -1 := by rfl
    rw [hi] at key
    have HR := hid (Kd.R_nil Kd.string 9 · base ok)
    have HG := hid (fun w' (hb : Below w.heap.size w w') => grown_of_below hb (Value.slice none 0 0).ownBlock)
    clear h ho
    go_enter Try.func36, Try.ntmps36
    go_wp2_with first
      | (go_at_call 65; refine key.out.mono ?_; rintro e w1 ⟨rfl, hb⟩)
    go_ret
    exact ⟨_, rfl, HR.out _, rfl, HG.out _ hb⟩
  · obtain ⟨g, cap, rfl, hb, hlt, hn, hm, hl, hH⟩ := holds_of_ownsRow ho hv
    have key := AnyE.slices_DeleteFunc delLay Value.string (fun _ => rfl) unsafeB 37 #[] eg37 ByteArray.empty Try.zeroValue9 g 0 cap l.toArray w
      (fun W x _ => elem_calls_ x W) (fun n os dk x _ => elem_calls_ x _) hH (by simp; unfold maxLen at hm; omega) (by simpa using hn)
    simp only [List.size_toArray] at key
    refine key.mono ?_
    rintro e w' ⟨rfl, q, rfl⟩
    have hle : (keepB l).length ≤ l.length := List.length_filter_le _ _
    refine ⟨_, rfl, ?_, rfl, ?_⟩
    · have := ownsRow_putRow (q := q) (k := (keepB l).length) (ys := keepB l ++ List.replicate (l.length - (keepB l).length) ByteArray.empty) ho (by simp; omega) hle
      rw [List.take_left' rfl] at this
      exact Kd.R_of_own (enc := Value.string) this (fun k hk => h.1 k hk)
    · refine ⟨rfl, rfl, rfl, by simp [putRow, mapBlock, Sort.ahead], fun k hk hne => ?_⟩
      have : g ≠ k := fun e => hne (by rw [e]; rfl)
      simp [putRow, mapBlock, Sort.ahead, Array.getElem?_modify, this]
/-- The same as a step of a printed walk. -/
theorem del_step {w0 W : World} (base : Nat) (v : Value) (l : List ByteArray) (ok : Nat → Prop) {Q : Ending → World → Prop} (HO : Kd.R Kd.string 9 W base ok v l) (HB : Below base w0 W) (hbase : base ≤ W.heap.size)
    (h : ∀ v1 w1, Kd.R Kd.string 9 w1 base ok v1 (keepB l) → Below base w0 w1 → W.grownBy w1 v.ownBlock → (v1.ownBlock = v.ownBlock ∨ ∃ b, v1.ownBlock = some b ∧ W.heap.size ≤ b) → Q (.returned v1) w1) :
    Calls Try.prog 36 #[v, .func (.func 37) #[] #[]] W Q := by
  refine (del_calls HO).mono ?_
  rintro e w1 ⟨v1, rfl, hR, he, hg⟩
  exact h v1 w1 hR (HB.grown hg hbase (Kd.R_base HO)) hg (.inl he)
end Go.Proofs.Ytjofofpplpmgjaa.Pr
