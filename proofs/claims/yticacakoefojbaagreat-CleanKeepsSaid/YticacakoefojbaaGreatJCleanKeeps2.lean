import Derived.Test.YticacakoefojbaaGreatJCleanKeeps1
import Derived.Outline
set_option linter.unusedSimpArgs false
set_option linter.unusedVariables false
namespace Go.Proofs.YticacakoefojbaaGreat.Pr
open Go.RowKit Go.Proofs.YticacakoefojbaaGreatW.PrintWords Go.Proofs.YticacakoefojbaaGreatW.PrintLast Go.Proofs.YticacakoefojbaaGreatW.PrintMore
attribute [local go_sem] max2_int min2_int max_two min_two max_three min_three max_four min_four   -- for this text's walks alone

def config_lists.l0 : Nat → List ByteArray → List (List ByteArray) → List (S60) → Int → Int → Bool → Bool → List ByteArray → List ByteArray → List ByteArray → List (S60) → Bool → Bool → Option ((List (List ByteArray)) × (List (List ByteArray)))
 | 0, _, _, _, _, _, _, _, _, _, _, _, _, _ => none
 | k + 1, x4, x5, x12, x13, x14, x102000, x102001, x102002, x102003, x102004, x102005, x102006, x102007 => if x14 < x13 then (if 0 ≤ x14 then (if x14 < (x12.length : Int) then (if x4.length < 8796093022208 then (if x5.length < 5864062014805 then (config_lists.l0 k (x4 ++ [(rd_T60 x12 x14).f0]) (x5 ++ [(rd_T60 x12 x14).f1]) x12 x13 (wrap64 (x14 + 1)) x102000 x102001 x102002 x102003 x102004 x102005 x102006 x102007) else (none)) else (none)) else (none)) else (none)) else (some ((([x102002, x102003, x4] : List (List ByteArray))), x5))
def config_lists.f (k : Nat) (a0_0 : Bool) (a0_1 : Bool) (l0_2 : List ByteArray) (l0_3 : List ByteArray) (l0_4 : List ByteArray) (l0_5 : List (S60)) (a0_6 : Bool) (a0_7 : Bool) : Option ((List (List ByteArray)) × (List (List ByteArray))) := config_lists.l0 k ([] : List ByteArray) (([l0_4] : List (List ByteArray))) l0_5 (l0_5.length : Int) 0 a0_0 a0_1 l0_2 l0_3 l0_4 l0_5 a0_6 a0_7
set_option maxHeartbeats 8000000 in
set_option maxRecDepth 100000 in
theorem config_lists.calls (k : Nat) (a0_0 : Bool) (a0_1 : Bool) (P0_2_ : Nat → Prop) (A0_2 : Option Addr) (c0_2 : Nat) (l0_2 : List ByteArray) (P0_3_ : Nat → Prop) (A0_3 : Option Addr) (c0_3 : Nat) (l0_3 : List ByteArray) (P0_4_ : Nat → Prop) (A0_4 : Option Addr) (c0_4 : Nat) (l0_4 : List ByteArray) (P0_5_ : Nat → Prop) (A0_5 : Option Addr) (c0_5 : Nat) (l0_5 : List (S60)) (a0_6 : Bool) (a0_7 : Bool) (r1 : List (List ByteArray)) (r2 : List (List ByteArray)) (w : World) (hs0_2 : Kd.V Kd.string 9 w w.heap.size (fun k_ => P0_2_ k_) (.slice A0_2 l0_2.length c0_2) l0_2) (hs0_3 : Kd.V Kd.string 9 w w.heap.size (fun k_ => P0_3_ k_) (.slice A0_3 l0_3.length c0_3) l0_3) (hs0_4 : Kd.V Kd.string 9 w w.heap.size (fun k_ => P0_4_ k_) (.slice A0_4 l0_4.length c0_4) l0_4) (hs0_5 : Kd.V k60 60 w w.heap.size (fun k_ => P0_5_ k_) (.slice A0_5 l0_5.length c0_5) l0_5) (h : config_lists.f k a0_0 a0_1 l0_2 l0_3 l0_4 l0_5 a0_6 a0_7 = some (r1, r2)) :
  Calls Tryz.prog 51 #[.agg #[.bool a0_0, .bool a0_1, .slice A0_2 l0_2.length c0_2, .slice A0_3 l0_3.length c0_3, .slice A0_4 l0_4.length c0_4, .slice A0_5 l0_5.length c0_5, .bool a0_6, .bool a0_7]] w fun e w' => ∃ v0_ v1_ : Value, e = .returned (.tuple #[v0_, v1_]) ∧ Kd.N (Kd.slice 9 Kd.string) 29 w' w.heap.size (fun k_ => ((P0_2_ k_ ∨ P0_3_ k_ ∨ P0_4_ k_ ∨ P0_5_ k_) ∨ w.heap.size ≤ k_) ∧ some k_ ≠ (v1_ : Value).ownBlock) v0_ r1 ∧ Kd.N (Kd.slice 9 Kd.string) 29 w' w.heap.size (fun k_ => ((P0_2_ k_ ∨ P0_3_ k_ ∨ P0_4_ k_ ∨ P0_5_ k_) ∨ w.heap.size ≤ k_) ∧ some k_ ≠ (v0_ : Value).ownBlock) v1_ r2 ∧ Below w.heap.size w w' := by
 have hu32 := Tryz.underlying32
 have hu60 := Tryz.underlying60
 have HO0_2 := am (show Kd.V Kd.string 9 w w.heap.size (fun k_ => ((P0_2_ k_ ∨ P0_3_ k_ ∨ P0_4_ k_ ∨ P0_5_ k_) ∨ w.heap.size ≤ k_)) (.slice A0_2 l0_2.length c0_2) l0_2 from Kd.V_mono hs0_2 (fun k_ hk => .inl (.inl hk)))
 have HO0_3 := am (show Kd.V Kd.string 9 w w.heap.size (fun k_ => ((P0_2_ k_ ∨ P0_3_ k_ ∨ P0_4_ k_ ∨ P0_5_ k_) ∨ w.heap.size ≤ k_)) (.slice A0_3 l0_3.length c0_3) l0_3 from Kd.V_mono hs0_3 (fun k_ hk => .inl (.inr (.inl hk))))
 have HO0_4 := am (show Kd.V Kd.string 9 w w.heap.size (fun k_ => ((P0_2_ k_ ∨ P0_3_ k_ ∨ P0_4_ k_ ∨ P0_5_ k_) ∨ w.heap.size ≤ k_)) (.slice A0_4 l0_4.length c0_4) l0_4 from Kd.V_mono hs0_4 (fun k_ hk => .inl (.inr (.inr (.inl hk)))))
 have HO0_5 := am (show Kd.V k60 60 w w.heap.size (fun k_ => ((P0_2_ k_ ∨ P0_3_ k_ ∨ P0_4_ k_ ∨ P0_5_ k_) ∨ w.heap.size ≤ k_)) (.slice A0_5 l0_5.length c0_5) l0_5 from Kd.V_mono hs0_5 (fun k_ hk => .inl (.inr (.inr (.inr hk)))))
 have HB := am (Below.refl w.heap.size w)
 have H : (config_lists.l0 k ([] : List ByteArray) (([l0_4] : List (List ByteArray))) l0_5 (l0_5.length : Int) 0 a0_0 a0_1 l0_2 l0_3 l0_4 l0_5 a0_6 a0_7) = some (r1, r2) := h
 clear h
 obtain ⟨y102, hy102⟩ : ∃ y_ : List (List ByteArray), y_ = (([l0_4] : List (List ByteArray))) := ⟨_, rfl⟩
 replace H : (config_lists.l0 k ([] : List ByteArray) y102 l0_5 (l0_5.length : Int) 0 a0_0 a0_1 l0_2 l0_3 l0_4 l0_5 a0_6 a0_7) = some (r1, r2) := by first | (rw [hy102]; with_reducible exact H) | (have H2_ := (Option.bind_some _ _).symm.trans H; rw [hy102]; with_reducible exact H2_) | (have H2_ := (Option.bind_some _ _).symm.trans H; with_reducible exact H2_) | with_reducible exact H | (rw [hy102]; exact H) | exact H
 have Ny102 := am hy102
 clear hy102
 have H' := am H
 clear H
 go_enter Tryz.func51, Tryz.ntmps51
 go_wp2_with (first | ((with_reducible refine gate_dst (N := 1) rfl ?_); refine box_event ?hg (N := 1) ?hd (cs := #[.bool a0_0, .bool a0_1, .slice A0_2 l0_2.length c0_2, .slice A0_3 l0_3.length c0_3, .slice A0_4 l0_4.length c0_4, .slice A0_5 l0_5.length c0_5, .bool a0_6, .bool a0_7]) (t := 32) ?hr ?_; (case hd => rfl); (case hg => rfl); (case hr => first | (go_simp; done) | (go_simp; rfl)); intro gb101 hg w2 hbox hb; have n0_ := am (Kd.V_below (Kd.V_elderB HO0_2.out gb101 (Nat.le_of_eq hg.symm)) hb); have n1_ := am (Kd.V_below (Kd.V_elderB HO0_3.out gb101 (Nat.le_of_eq hg.symm)) hb); have n2_ := am (Kd.V_below (Kd.V_elderB HO0_4.out gb101 (Nat.le_of_eq hg.symm)) hb); have n3_ := am (Kd.V_below (Kd.V_elderB HO0_5.out gb101 (Nat.le_of_eq hg.symm)) hb); have n4_ := am (below_step (zb HB) hb); have n5_ := am (hbox); have n7_ := am ((by rw [hg]; exact (below_size (zb HB)) : w.heap.size ≤ gb101)); clear HO0_2; clear HO0_3; clear HO0_4; clear HO0_5; clear HB; have HO0_2 := n0_; have HO0_3 := n1_; have HO0_4 := n2_; have HO0_5 := n3_; have HB := n4_; have BK101 := n5_; have GE101 := n7_; clear n0_ n1_ n2_ n3_ n4_ n5_ n7_; clear hb hbox hg; obtain ⟨hcz3_0, hcz3_1, hcz3_2, hcz3_3, hcz3_4, hcz3_5, hcz3_6, hcz3_7, hfz3_0, hfz3_1, hfz3_2, hfz3_3, hfz3_4, hfz3_5, hfz3_6, hfz3_7⟩ := cz8 BK101.out) | ((with_reducible refine gate_dst (N := 10) rfl ?_); refine Kd.N_lit (Kd.slice 9 Kd.string) _ 29 ?hg (N' := 10) ?hd (xs := ([l0_4] : List (List ByteArray))) (inner := [.slice A0_4 l0_4.length c0_4]) (ok := (fun k_ => ((P0_2_ k_ ∨ P0_3_ k_ ∨ P0_4_ k_ ∨ P0_5_ k_) ∨ w.heap.size ≤ k_) ∧ k_ ≠ gb101)) (okp := (fun k_ => ((P0_2_ k_ ∨ P0_3_ k_ ∨ P0_4_ k_ ∨ P0_5_ k_) ∨ w.heap.size ≤ k_) ∧ k_ ≠ gb101)) ?hr ?hp (fun _ hk => hk) ((show ∀ k_, w2.heap.size ≤ k_ → (fun k_ => ((P0_2_ k_ ∨ P0_3_ k_ ∨ P0_4_ k_ ∨ P0_5_ k_) ∨ w.heap.size ≤ k_) ∧ k_ ≠ gb101) k_ from fun k_ hk => ⟨(.inr (Nat.le_trans (below_size (zb1 HB GE101)) hk)), Kd.freshB BK101.out k_ hk⟩) _ (Nat.le_refl _)) (Below.refl _ _) (Nat.le_refl _) (by simp) ?_; (case hd => rfl); (case hg => rfl); (case hr => first | (go_simp; done) | (go_simp; rfl)); (case hp => exact (Reps.one (show Kd.FK (Kd.slice 9 Kd.string) _ _ l0_4 [.slice A0_4 l0_4.length c0_4] from (Kd.FK_slice_mk (Kd.V_reads' (Kd.V_mono (ok' := (fun k_ => ((P0_2_ k_ ∨ P0_3_ k_ ∨ P0_4_ k_ ∨ P0_5_ k_) ∨ w.heap.size ≤ k_) ∧ k_ ≠ gb101)) (HO0_4.out) (fun k_ hk => ⟨hk.1, hk.2⟩))).2.1 (Kd.V_F (Kd.V_mono (ok' := (fun k_ => ((P0_2_ k_ ∨ P0_3_ k_ ∨ P0_4_ k_ ∨ P0_5_ k_) ∨ w.heap.size ≤ k_) ∧ k_ ≠ gb101)) (HO0_4.out) (fun k_ hk => ⟨hk.1, hk.2⟩))))) (Reps.none _ _))); intro v103 w4 ho5 hb hg_ hnew_; clear hg_ hnew_; (first | rw [← Ny102.out] at ho5 | (simp only [Int.reduceToNat] at ho5; rw [← Ny102.out] at ho5)); have n0_ := am (Kd.V_elder' HO0_2.out (Kd.N_base ho5) hb); have n1_ := am (Kd.V_elder' HO0_3.out (Kd.N_base ho5) hb); have n2_ := am (Kd.V_elder' HO0_4.out (Kd.N_base ho5) hb); have n3_ := am (Kd.V_elder' HO0_5.out (Kd.N_base ho5) hb); have n4_ := am (Kd.N_lower ho5 (below_size (zb1 HB GE101))); have n5_ := am (blk_below BK101.out hb); have n6_ := am (below_step (zb1 HB GE101) hb); clear HO0_2; clear HO0_3; clear HO0_4; clear HO0_5; clear BK101; clear HB; have HO0_2 := n0_; have HO0_3 := n1_; have HO0_4 := n2_; have HO0_5 := n3_; have HO104 := n4_; have BK101 := n5_; have HB := n6_; clear n0_ n1_ n2_ n3_ n4_ n5_ n6_; clear hb ho5; obtain ⟨hcz6_0, hcz6_1, hcz6_2, hcz6_3, hcz6_4, hcz6_5, hcz6_6, hcz6_7, hfz6_0, hfz6_1, hfz6_2, hfz6_3, hfz6_4, hfz6_5, hfz6_6, hfz6_7⟩ := cz8 BK101.out))
 go_loopg [4, 5, 14] k (fun kq v4 v5 v14 w' => ∃ (x4_1 : List ByteArray) (x5_1 : List (List ByteArray)) (x14_1 : Int), v14 = .int .i64 x14_1 ∧ Aside0 (config_lists.l0 kq x4_1 x5_1 l0_5 (l0_5.length : Int) x14_1 a0_0 a0_1 l0_2 l0_3 l0_4 l0_5 a0_6 a0_7 = some (r1, r2)) ∧ Aside0 (kq ≤ k) ∧ Aside0 (Kd.R Kd.string 9 w' w.heap.size (fun k_ => (w.heap.size ≤ k_)) v4 x4_1) ∧ Aside0 (Kd.N (Kd.slice 9 Kd.string) 29 w' w.heap.size (fun k_ => ((P0_2_ k_ ∨ P0_3_ k_ ∨ P0_4_ k_ ∨ P0_5_ k_) ∨ w.heap.size ≤ k_) ∧ some k_ ≠ (v4 : Value).ownBlock ∧ k_ ≠ gb101) v5 x5_1) ∧ Aside0 (Kd.V k60 60 w' w.heap.size (fun k_ => ((P0_2_ k_ ∨ P0_3_ k_ ∨ P0_4_ k_ ∨ P0_5_ k_) ∨ w.heap.size ≤ k_) ∧ some k_ ≠ (v4 : Value).ownBlock ∧ some k_ ≠ (v5 : Value).ownBlock ∧ k_ ≠ gb101) (.slice A0_5 l0_5.length c0_5) l0_5) ∧ Aside0 (Kd.V Kd.string 9 w' w.heap.size (fun k_ => ((P0_2_ k_ ∨ P0_3_ k_ ∨ P0_4_ k_ ∨ P0_5_ k_) ∨ w.heap.size ≤ k_) ∧ some k_ ≠ (v4 : Value).ownBlock ∧ some k_ ≠ (v5 : Value).ownBlock ∧ k_ ≠ gb101) (.slice A0_2 l0_2.length c0_2) l0_2) ∧ Aside0 (Kd.V Kd.string 9 w' w.heap.size (fun k_ => ((P0_2_ k_ ∨ P0_3_ k_ ∨ P0_4_ k_ ∨ P0_5_ k_) ∨ w.heap.size ≤ k_) ∧ some k_ ≠ (v4 : Value).ownBlock ∧ some k_ ≠ (v5 : Value).ownBlock ∧ k_ ≠ gb101) (.slice A0_3 l0_3.length c0_3) l0_3) ∧ Aside0 (Kd.V Kd.string 9 w' w.heap.size (fun k_ => ((P0_2_ k_ ∨ P0_3_ k_ ∨ P0_4_ k_ ∨ P0_5_ k_) ∨ w.heap.size ≤ k_) ∧ some k_ ≠ (v4 : Value).ownBlock ∧ some k_ ≠ (v5 : Value).ownBlock ∧ k_ ≠ gb101) (.slice A0_4 l0_4.length c0_4) l0_4) ∧ Aside0 (Kd.V k60 60 w' w.heap.size (fun k_ => ((P0_2_ k_ ∨ P0_3_ k_ ∨ P0_4_ k_ ∨ P0_5_ k_) ∨ w.heap.size ≤ k_) ∧ some k_ ≠ (v4 : Value).ownBlock ∧ some k_ ≠ (v5 : Value).ownBlock ∧ k_ ≠ gb101) (.slice A0_5 l0_5.length c0_5) l0_5) ∧ Aside0 (w'.heap[gb101]? = some (.cells #[.bool a0_0, .bool a0_1, (.slice A0_2 l0_2.length c0_2), (.slice A0_3 l0_3.length c0_3), (.slice A0_4 l0_4.length c0_4), (.slice A0_5 l0_5.length c0_5), .bool a0_6, .bool a0_7] 32 (0, 0))) ∧ Aside0 (Below w.heap.size w w'))
 case atStart => exact ⟨(([] : List ByteArray)), (y102), (0), zr, H', ⟨Nat.le_refl _⟩, ⟨by first | exact Kd.R_nil _ _ _ _ _ | exact Kd.N_nil _ _ _ _ _ | exact Kd.V_nil _ _ _ _ _ | exact Kd.Q_nil _ _ _ _ _ | exact Kd.S_nil _ _ _ _ _⟩, ⟨by exact Kd.N_mono HO104.out (fun _ hk => ⟨hk.1, ⟨(by simp [Value.ownBlock]), hk.2⟩⟩)⟩, ⟨by exact Kd.V_mono HO0_5.out (fun _ hk => ⟨hk.1.1, ⟨(by simp [Value.ownBlock]), ⟨hk.2, hk.1.2⟩⟩⟩)⟩, ⟨by exact Kd.V_mono HO0_2.out (fun _ hk => ⟨hk.1.1, ⟨(by simp [Value.ownBlock]), ⟨hk.2, hk.1.2⟩⟩⟩)⟩, ⟨by exact Kd.V_mono HO0_3.out (fun _ hk => ⟨hk.1.1, ⟨(by simp [Value.ownBlock]), ⟨hk.2, hk.1.2⟩⟩⟩)⟩, ⟨by exact Kd.V_mono HO0_4.out (fun _ hk => ⟨hk.1.1, ⟨(by simp [Value.ownBlock]), ⟨hk.2, hk.1.2⟩⟩⟩)⟩, ⟨by exact Kd.V_mono HO0_5.out (fun _ hk => ⟨hk.1.1, ⟨(by simp [Value.ownBlock]), ⟨hk.2, hk.1.2⟩⟩⟩)⟩, ⟨by exact BK101.out⟩, ⟨zb1 HB GE101⟩⟩
 case round =>
  clear H'
  try clear p2
  try clear c5
  try clear hcz3_0
  try clear hcz3_1
  try clear hcz3_2
  try clear hcz3_3
  try clear hcz3_4
  try clear hcz3_5
  try clear hcz3_6
  try clear hcz3_7
  try clear hcz6_0
  try clear hcz6_1
  try clear hcz6_2
  try clear hcz6_3
  try clear hcz6_4
  try clear hcz6_5
  try clear hcz6_6
  try clear hcz6_7
  try clear hfz3_0
  try clear hfz3_1
  try clear hfz3_2
  try clear hfz3_3
  try clear hfz3_4
  try clear hfz3_5
  try clear hfz3_6
  try clear hfz3_7
  try clear hfz6_0
  try clear hfz6_1
  try clear hfz6_2
  try clear hfz6_3
  try clear hfz6_4
  try clear hfz6_5
  try clear hfz6_6
  try clear hfz6_7
  obtain ⟨x4_1, x5_1, x14_1, rfl, HA, HK1, HO_4, HO_5, HO_12, HO_102002, HO_102003, HO_102004, HO_102005, BK101, HB⟩ := hrel
  cases gk with
  | zero => exact absurd HA.out (by simp [config_lists.l0])
  | succ k1 =>
   have H := HA.out
   clear HA
   simp only [config_lists.l0] at H
   by_cases c7 : x14_1 < (l0_5.length : Int)
   ·rw [if_pos c7] at H
    have c7b0 : decide (x14_1 < (l0_5.length : Int)) = true := decide_eq_true c7
    clear c7
    by_cases c8 : 0 ≤ x14_1
    ·rw [if_pos c8] at H
     have c8b0 : decide (0 ≤ x14_1) = true := decide_eq_true c8
     clear c8
     by_cases c9 : x14_1 < (l0_5.length : Int)
     ·rw [if_pos c9] at H
      have c9b0 : decide (x14_1 < (l0_5.length : Int)) = true := decide_eq_true c9
      clear c9
      by_cases c10 : x4_1.length < 8796093022208
      ·rw [if_pos c10] at H
       have LMc10 := am c10
       clear c10
       obtain ⟨y107, hy107⟩ : ∃ y_ : List ByteArray, y_ = (x4_1 ++ [(rd_T60 l0_5 x14_1).f0]) := ⟨_, rfl⟩
       replace H : (if x5_1.length < 5864062014805 then (config_lists.l0 k1 y107 (x5_1 ++ [(rd_T60 l0_5 x14_1).f1]) l0_5 (l0_5.length : Int) (wrap64 (x14_1 + 1)) a0_0 a0_1 l0_2 l0_3 l0_4 l0_5 a0_6 a0_7) else (none)) = some (r1, r2) := by first | (rw [hy107]; with_reducible exact H) | (have H2_ := (Option.bind_some _ _).symm.trans H; rw [hy107]; with_reducible exact H2_) | (have H2_ := (Option.bind_some _ _).symm.trans H; with_reducible exact H2_) | with_reducible exact H | (rw [hy107]; exact H) | exact H
       have Ny107 := am hy107
       clear hy107
       by_cases c11 : x5_1.length < 5864062014805
       ·rw [if_pos c11] at H
        have LMc11 := am c11
        clear c11
        obtain ⟨y110, hy110⟩ : ∃ y_ : List (List ByteArray), y_ = (x5_1 ++ [(rd_T60 l0_5 x14_1).f1]) := ⟨_, rfl⟩
        replace H : (config_lists.l0 k1 y107 y110 l0_5 (l0_5.length : Int) (wrap64 (x14_1 + 1)) a0_0 a0_1 l0_2 l0_3 l0_4 l0_5 a0_6 a0_7) = some (r1, r2) := by first | (rw [hy110]; with_reducible exact H) | (have H2_ := (Option.bind_some _ _).symm.trans H; rw [hy110]; with_reducible exact H2_) | (have H2_ := (Option.bind_some _ _).symm.trans H; with_reducible exact H2_) | with_reducible exact H | (rw [hy110]; exact H) | exact H
        have Ny110 := am hy110
        clear hy110
        have H' := am H
        clear H
        have p105 : 0 ≤ (x14_1 : Int) := of_decide_eq_true za
        have q105 : x14_1 < (l0_5.length : Int) := of_decide_eq_true za
        obtain ⟨ad105, A105_1, c105_1, e105, hx105_0, hx105_1, hl105_1, hi105_1⟩ := at_T60 (Kd.V_reads' HO_12.out).2.2 x14_1 p105 q105
        cases e105
        obtain ⟨ce105, hce105, hMe105, hcc105⟩ := Kd.V_get HO_12.out z60 x14_1 p105 (by first | exact q105 | exact of_decide_eq_true za | (have e_ := (Kd.V_reads' HO_12.out).1; omega))
        obtain ⟨ua105_1, uc105_1, rfl, ul105_1, ge105_1⟩ := k60_openF hMe105
        have hv105_1 := hcc105 1 _ rfl
        rw [add_field _ _ 1 (by omega)] at hv105_1
        replace hv105_1 := Option.some.inj (hv105_1.symm.trans hx105_1)
        injection hv105_1 with hva_ hvn_ hvc_
        rw [hva_] at ge105_1
        rw [hvc_] at ul105_1
        have HL105_1 := am (show Kd.V Kd.string 9 _ w.heap.size _ _ ((rd_T60 l0_5 x14_1).f1) from Kd.V_mk ul105_1 ge105_1)
        clear hva_ hvn_ hvc_ ge105_1 ul105_1
        clear hcc105 hce105
        have HR105_1 := am hi105_1
        have HC105_1 := am hl105_1
        clear hi105_1 hl105_1
        replace p105 := eq_true p105
        replace q105 := eq_true q105
        go_wp2_with (first | ((with_reducible refine gate_dst (N := 7) rfl ?_); refine box_event ?hg (N := 7) ?hd (cs := #[.string (⟨#[]⟩ : ByteArray), .slice none 0 0]) (t := 60) ?hr ?_; (case hd => rfl); (case hg => rfl); (case hr => first | (go_simp; done) | (go_simp; rfl)); intro gb106 hg w12 hbox hb; have n0_ := am (Kd.R_below HO_4.out hb); have n1_ := am (Kd.N_below (Kd.N_elderB HO_5.out gb106 (Nat.le_of_eq hg.symm)) hb); have n2_ := am (Kd.V_below (Kd.V_elderB HO_12.out gb106 (Nat.le_of_eq hg.symm)) hb); have n3_ := am (Kd.V_below (Kd.V_elderB HO_102002.out gb106 (Nat.le_of_eq hg.symm)) hb); have n4_ := am (Kd.V_below (Kd.V_elderB HO_102003.out gb106 (Nat.le_of_eq hg.symm)) hb); have n5_ := am (Kd.V_below (Kd.V_elderB HO_102004.out gb106 (Nat.le_of_eq hg.symm)) hb); have n6_ := am (Kd.V_below (Kd.V_elderB HO_102005.out gb106 (Nat.le_of_eq hg.symm)) hb); have n7_ := am (Kd.V_below (Kd.V_elderB HL105_1.out gb106 (Nat.le_of_eq hg.symm)) hb); have n8_ := am (blk_below BK101.out hb); have n10_ := am (below_step (zb1 HB GE101) hb); have n11_ := am (hbox); have n13_ := am ((by rw [hg]; exact (below_size (zb1 HB GE101)) : w.heap.size ≤ gb106)); have n14_ := am ((by rw [hg]; exact Nat.ne_of_lt (blk_lt BK101.out) : gb101 ≠ gb106)); have n15_ := am ((by rw [hg]; exact Nat.ne_of_gt (blk_lt BK101.out) : gb106 ≠ gb101)); clear HO_4; clear HO_5; clear HO_12; clear HO_102002; clear HO_102003; clear HO_102004; clear HO_102005; clear HL105_1; clear BK101; clear HR105_1; clear HB; have HO_4 := n0_; have HO_5 := n1_; have HO_12 := n2_; have HO_102002 := n3_; have HO_102003 := n4_; have HO_102004 := n5_; have HO_102005 := n6_; have HL105_1 := n7_; have BK101 := n8_; have HB := n10_; have BK106 := n11_; have GE106 := n13_; have NB101_106 := n14_; have NB106_101 := n15_; clear n0_ n1_ n2_ n3_ n4_ n5_ n6_ n7_ n8_ n10_ n11_ n13_ n14_ n15_; clear hb hbox hg; have hnb13 := NB106_101.out; have hnc13 := NB101_106.out; obtain ⟨hcz14_0, hcz14_1, hfz14_0, hfz14_1⟩ := cz2 BK106.out) | ((with_reducible refine gate_builtin (b := .append) (xs := #[.tmp 18, .tmp 21]) rfl ?_); at_builtin; refine Kd.R_append Kd.string (w0 := w) w.heap.size rfl (.tmp 18) (.tmp 21) 29 9 (.string ⟨#[]⟩) 16 rfl Tryz.underlying29 info9 rfl (by decide) (by omega) u4 x4_1 ((rd_T60 l0_5 x14_1).f0) [.string ((rd_T60 l0_5 x14_1).f0)] (fun k_ => (w.heap.size ≤ k_)) (fun _ => False) rfl (by first | (go_simp; done) | (go_simp; rfl)) ?aP (fun _ hk => hk.elim) ?aF ?aO ?aB ?aS ?aL ?_; (case aP => exact rfl); (case aB => exact (zb2 HB GE101 GE106)); (case aF => exact (fun k_ hk => (Nat.le_trans (below_size (zb2 HB GE101 GE106)) hk))); (case aO => exact (by exact Kd.R_mono (Rf2 (g := gb106) (Kd.R_types HO_4.out BK106.out (by decide)) (fun _ hk => hk.2) (.string ((rd_T60 l0_5 x14_1).f0)) (.slice A105_1 ((rd_T60 l0_5 x14_1).f1).length c105_1)) (fun _ hk => hk.1))); (case aS => exact (below_size (zb2 HB GE101 GE106))); (case aL => have := LMc10.out; omega); intro v108 w15 ho hb hg hat; rw [← Ny107.out] at ho; have n0_ := am (Kd.N_afterv (ok := (fun k_ => ((P0_2_ k_ ∨ P0_3_ k_ ∨ P0_4_ k_ ∨ P0_5_ k_) ∨ w.heap.size ≤ k_) ∧ k_ ≠ gb101 ∧ k_ ≠ gb106)) (by exact Kd.N_mono (Nf2 (g := gb106) (Kd.N_mono HO_5.out (fun k_ hk => (⟨hk, hk.2⟩ : _ ∧ k_ ≠ gb106))) (fun _ hk => hk.2) (.string ((rd_T60 l0_5 x14_1).f0)) (.slice A105_1 ((rd_T60 l0_5 x14_1).f1).length c105_1)) (fun _ hk => ⟨⟨hk.1.1.1, ⟨hk.1.1.2.2, hk.1.2⟩⟩, hk.1.1.2.1⟩)) hg hat); have n1_ := am (Kd.V_afterv (ok := (fun k_ => ((P0_2_ k_ ∨ P0_3_ k_ ∨ P0_4_ k_ ∨ P0_5_ k_) ∨ w.heap.size ≤ k_) ∧ some k_ ≠ (u5 : Value).ownBlock ∧ k_ ≠ gb101 ∧ k_ ≠ gb106)) (by exact Kd.V_mono (Vf2 (g := gb106) (Kd.V_mono HO_12.out (fun k_ hk => (⟨hk, hk.2⟩ : _ ∧ k_ ≠ gb106))) (fun _ hk => hk.2) (.string ((rd_T60 l0_5 x14_1).f0)) (.slice A105_1 ((rd_T60 l0_5 x14_1).f1).length c105_1)) (fun _ hk => ⟨⟨hk.1.1.1, ⟨hk.1.1.2.2.1, ⟨hk.1.1.2.2.2, hk.1.2⟩⟩⟩, hk.1.1.2.1⟩)) hg hat); have n2_ := am (Kd.V_afterv (ok := (fun k_ => ((P0_2_ k_ ∨ P0_3_ k_ ∨ P0_4_ k_ ∨ P0_5_ k_) ∨ w.heap.size ≤ k_) ∧ some k_ ≠ (u5 : Value).ownBlock ∧ k_ ≠ gb101 ∧ k_ ≠ gb106)) (by exact Kd.V_mono (Vf2 (g := gb106) (Kd.V_mono HO_102002.out (fun k_ hk => (⟨hk, hk.2⟩ : _ ∧ k_ ≠ gb106))) (fun _ hk => hk.2) (.string ((rd_T60 l0_5 x14_1).f0)) (.slice A105_1 ((rd_T60 l0_5 x14_1).f1).length c105_1)) (fun _ hk => ⟨⟨hk.1.1.1, ⟨hk.1.1.2.2.1, ⟨hk.1.1.2.2.2, hk.1.2⟩⟩⟩, hk.1.1.2.1⟩)) hg hat); have n3_ := am (Kd.V_afterv (ok := (fun k_ => ((P0_2_ k_ ∨ P0_3_ k_ ∨ P0_4_ k_ ∨ P0_5_ k_) ∨ w.heap.size ≤ k_) ∧ some k_ ≠ (u5 : Value).ownBlock ∧ k_ ≠ gb101 ∧ k_ ≠ gb106)) (by exact Kd.V_mono (Vf2 (g := gb106) (Kd.V_mono HO_102003.out (fun k_ hk => (⟨hk, hk.2⟩ : _ ∧ k_ ≠ gb106))) (fun _ hk => hk.2) (.string ((rd_T60 l0_5 x14_1).f0)) (.slice A105_1 ((rd_T60 l0_5 x14_1).f1).length c105_1)) (fun _ hk => ⟨⟨hk.1.1.1, ⟨hk.1.1.2.2.1, ⟨hk.1.1.2.2.2, hk.1.2⟩⟩⟩, hk.1.1.2.1⟩)) hg hat); have n4_ := am (Kd.V_afterv (ok := (fun k_ => ((P0_2_ k_ ∨ P0_3_ k_ ∨ P0_4_ k_ ∨ P0_5_ k_) ∨ w.heap.size ≤ k_) ∧ some k_ ≠ (u5 : Value).ownBlock ∧ k_ ≠ gb101 ∧ k_ ≠ gb106)) (by exact Kd.V_mono (Vf2 (g := gb106) (Kd.V_mono HO_102004.out (fun k_ hk => (⟨hk, hk.2⟩ : _ ∧ k_ ≠ gb106))) (fun _ hk => hk.2) (.string ((rd_T60 l0_5 x14_1).f0)) (.slice A105_1 ((rd_T60 l0_5 x14_1).f1).length c105_1)) (fun _ hk => ⟨⟨hk.1.1.1, ⟨hk.1.1.2.2.1, ⟨hk.1.1.2.2.2, hk.1.2⟩⟩⟩, hk.1.1.2.1⟩)) hg hat); have n5_ := am (Kd.V_afterv (ok := (fun k_ => ((P0_2_ k_ ∨ P0_3_ k_ ∨ P0_4_ k_ ∨ P0_5_ k_) ∨ w.heap.size ≤ k_) ∧ some k_ ≠ (u5 : Value).ownBlock ∧ k_ ≠ gb101 ∧ k_ ≠ gb106)) (by exact Kd.V_mono (Vf2 (g := gb106) (Kd.V_mono HO_102005.out (fun k_ hk => (⟨hk, hk.2⟩ : _ ∧ k_ ≠ gb106))) (fun _ hk => hk.2) (.string ((rd_T60 l0_5 x14_1).f0)) (.slice A105_1 ((rd_T60 l0_5 x14_1).f1).length c105_1)) (fun _ hk => ⟨⟨hk.1.1.1, ⟨hk.1.1.2.2.1, ⟨hk.1.1.2.2.2, hk.1.2⟩⟩⟩, hk.1.1.2.1⟩)) hg hat); have n6_ := am (blk_grown (g := gb101) (o := .cells #[.bool a0_0, .bool a0_1, .slice A0_2 l0_2.length c0_2, .slice A0_3 l0_3.length c0_3, .slice A0_4 l0_4.length c0_4, .slice (some ad105) l0_5.length c0_5, .bool a0_6, .bool a0_7] 32 (0, 0)) (by refine blk_far ?_ NB101_106.out _; refine blk_far ?_ NB101_106.out _; exact BK101.out) hg (Kd.R_ne HO_4.out BK101.out (by decide))); have n7_ := am (Kd.V_afterv (ok := (fun k_ => ((P0_2_ k_ ∨ P0_3_ k_ ∨ P0_4_ k_ ∨ P0_5_ k_) ∨ w.heap.size ≤ k_) ∧ some k_ ≠ (u5 : Value).ownBlock ∧ k_ ≠ gb101 ∧ k_ ≠ gb106)) (by exact Kd.V_mono (Vf2 (g := gb106) (Kd.V_mono HL105_1.out (fun k_ hk => (⟨hk, hk.2⟩ : _ ∧ k_ ≠ gb106))) (fun _ hk => hk.2) (.string ((rd_T60 l0_5 x14_1).f0)) (.slice A105_1 ((rd_T60 l0_5 x14_1).f1).length c105_1)) (fun _ hk => ⟨⟨hk.1.1.1, ⟨hk.1.1.2.2.1, ⟨hk.1.1.2.2.2, hk.1.2⟩⟩⟩, hk.1.1.2.1⟩)) hg hat); have n8_ := am (blk_grown (g := gb106) (o := .cells #[.string ((rd_T60 l0_5 x14_1).f0), .slice A105_1 ((rd_T60 l0_5 x14_1).f1).length c105_1] 60 (0, 0)) (by refine blk_put (cs := #[.string ((rd_T60 l0_5 x14_1).f0), .slice none 0 0]) ?_ 1 _ rfl; refine blk_put (cs := #[.string (⟨#[]⟩ : ByteArray), .slice none 0 0]) ?_ 0 _ rfl; exact BK106.out) hg (Kd.R_ne HO_4.out BK106.out (by decide))); have n9_ := am (hb); have n10_ := am (ho); clear HO_5; clear HO_12; clear HO_102002; clear HO_102003; clear HO_102004; clear HO_102005; clear BK101; clear HL105_1; clear BK106; clear HB; clear HO_4; have HO_5 := n0_; have HO_12 := n1_; have HO_102002 := n2_; have HO_102003 := n3_; have HO_102004 := n4_; have HO_102005 := n5_; have BK101 := n6_; have HL105_1 := n7_; have BK106 := n8_; have HB := n9_; have HO109 := n10_; clear n0_ n1_ n2_ n3_ n4_ n5_ n6_ n7_ n8_ n9_ n10_; clear ho hb hg hat; obtain ⟨hcz16_0, hcz16_1, hfz16_0, hfz16_1⟩ := cz2 BK106.out) | ((with_reducible refine gate_builtin (b := .append) (xs := #[.tmp 23, .tmp 26]) rfl ?_); at_builtin; refine Kd.N_append (Kd.slice 9 Kd.string) (w0 := w) w.heap.size rfl (.tmp 23) (.tmp 26) 68 29 (.slice none 0 0) 24 rfl Tryz.underlying68 info29 rfl (by decide) (by omega) u5 x5_1 ((rd_T60 l0_5 x14_1).f1) [.slice A105_1 ((rd_T60 l0_5 x14_1).f1).length c105_1] (fun k_ => ((P0_2_ k_ ∨ P0_3_ k_ ∨ P0_4_ k_ ∨ P0_5_ k_) ∨ w.heap.size ≤ k_) ∧ some k_ ≠ (v108 : Value).ownBlock ∧ k_ ≠ gb101 ∧ k_ ≠ gb106) (fun k_ => ((fun k_ => ((P0_2_ k_ ∨ P0_3_ k_ ∨ P0_4_ k_ ∨ P0_5_ k_) ∨ w.heap.size ≤ k_) ∧ some k_ ≠ (v108 : Value).ownBlock ∧ k_ ≠ gb101 ∧ k_ ≠ gb106)) k_ ∧ some k_ ≠ (u5 : Value).ownBlock) rfl rfl ?aP (fun _ hk => hk) ?aF ?aO ?aB ?aS ?aL ?_; (case aP => exact (Kd.FK_slice_mk (Kd.V_reads' (Kd.V_mono (ok' := (fun k_ => ((fun k_ => ((P0_2_ k_ ∨ P0_3_ k_ ∨ P0_4_ k_ ∨ P0_5_ k_) ∨ w.heap.size ≤ k_) ∧ some k_ ≠ (v108 : Value).ownBlock ∧ k_ ≠ gb101 ∧ k_ ≠ gb106)) k_ ∧ some k_ ≠ (u5 : Value).ownBlock)) (HL105_1.out) (fun k_ hk => ⟨⟨hk.1.1, ⟨hk.2, ⟨hk.1.2.2.1, hk.1.2.2.2⟩⟩⟩, hk.1.2.1⟩))).2.1 (Kd.V_F (Kd.V_mono (ok' := (fun k_ => ((fun k_ => ((P0_2_ k_ ∨ P0_3_ k_ ∨ P0_4_ k_ ∨ P0_5_ k_) ∨ w.heap.size ≤ k_) ∧ some k_ ≠ (v108 : Value).ownBlock ∧ k_ ≠ gb101 ∧ k_ ≠ gb106)) k_ ∧ some k_ ≠ (u5 : Value).ownBlock)) (HL105_1.out) (fun k_ hk => ⟨⟨hk.1.1, ⟨hk.2, ⟨hk.1.2.2.1, hk.1.2.2.2⟩⟩⟩, hk.1.2.1⟩))))); (case aB => exact (zb2 HB GE101 GE106)); (case aF => exact (fun k_ hk => ⟨(.inr (Nat.le_trans (below_size (zb2 HB GE101 GE106)) hk)), Kd.fresh' (Kd.R_lt HO109.out) k_ hk, Kd.freshB BK101.out k_ hk, Kd.freshB BK106.out k_ hk⟩)); (case aO => exact (by exact Kd.N_mono HO_5.out (fun _ hk => ⟨hk.1.1, ⟨hk.2, ⟨hk.1.2.1, hk.1.2.2⟩⟩⟩))); (case aS => exact (below_size (zb2 HB GE101 GE106))); (case aL => have := LMc11.out; omega); intro v111 w17 ho hb hg hat; rw [← Ny110.out] at ho; have n0_ := am (Kd.V_afterv (ok := (fun k_ => ((P0_2_ k_ ∨ P0_3_ k_ ∨ P0_4_ k_ ∨ P0_5_ k_) ∨ w.heap.size ≤ k_) ∧ some k_ ≠ (v108 : Value).ownBlock ∧ k_ ≠ gb101 ∧ k_ ≠ gb106)) (by exact Kd.V_mono HO_12.out (fun _ hk => ⟨⟨hk.1.1, ⟨hk.2, ⟨hk.1.2.2.1, hk.1.2.2.2⟩⟩⟩, hk.1.2.1⟩)) hg hat); have n1_ := am (Kd.V_afterv (ok := (fun k_ => ((P0_2_ k_ ∨ P0_3_ k_ ∨ P0_4_ k_ ∨ P0_5_ k_) ∨ w.heap.size ≤ k_) ∧ some k_ ≠ (v108 : Value).ownBlock ∧ k_ ≠ gb101 ∧ k_ ≠ gb106)) (by exact Kd.V_mono HO_102002.out (fun _ hk => ⟨⟨hk.1.1, ⟨hk.2, ⟨hk.1.2.2.1, hk.1.2.2.2⟩⟩⟩, hk.1.2.1⟩)) hg hat); have n2_ := am (Kd.V_afterv (ok := (fun k_ => ((P0_2_ k_ ∨ P0_3_ k_ ∨ P0_4_ k_ ∨ P0_5_ k_) ∨ w.heap.size ≤ k_) ∧ some k_ ≠ (v108 : Value).ownBlock ∧ k_ ≠ gb101 ∧ k_ ≠ gb106)) (by exact Kd.V_mono HO_102003.out (fun _ hk => ⟨⟨hk.1.1, ⟨hk.2, ⟨hk.1.2.2.1, hk.1.2.2.2⟩⟩⟩, hk.1.2.1⟩)) hg hat); have n3_ := am (Kd.V_afterv (ok := (fun k_ => ((P0_2_ k_ ∨ P0_3_ k_ ∨ P0_4_ k_ ∨ P0_5_ k_) ∨ w.heap.size ≤ k_) ∧ some k_ ≠ (v108 : Value).ownBlock ∧ k_ ≠ gb101 ∧ k_ ≠ gb106)) (by exact Kd.V_mono HO_102004.out (fun _ hk => ⟨⟨hk.1.1, ⟨hk.2, ⟨hk.1.2.2.1, hk.1.2.2.2⟩⟩⟩, hk.1.2.1⟩)) hg hat); have n4_ := am (Kd.V_afterv (ok := (fun k_ => ((P0_2_ k_ ∨ P0_3_ k_ ∨ P0_4_ k_ ∨ P0_5_ k_) ∨ w.heap.size ≤ k_) ∧ some k_ ≠ (v108 : Value).ownBlock ∧ k_ ≠ gb101 ∧ k_ ≠ gb106)) (by exact Kd.V_mono HO_102005.out (fun _ hk => ⟨⟨hk.1.1, ⟨hk.2, ⟨hk.1.2.2.1, hk.1.2.2.2⟩⟩⟩, hk.1.2.1⟩)) hg hat); have n5_ := am (blk_grown BK101.out hg (Kd.N_ne HO_5.out BK101.out (by decide))); have n8_ := am (Kd.R_over' HO109.out (Kd.N_typed HO_5.out) (by decide) hg); have n9_ := am (hb); have n10_ := am (ho); clear HO_12; clear HO_102002; clear HO_102003; clear HO_102004; clear HO_102005; clear BK101; clear HL105_1; clear BK106; clear HO109; clear HB; clear HO_5; have HO_12 := n0_; have HO_102002 := n1_; have HO_102003 := n2_; have HO_102004 := n3_; have HO_102005 := n4_; have BK101 := n5_; have HO109 := n8_; have HB := n9_; have HO112 := n10_; clear n0_ n1_ n2_ n3_ n4_ n5_ n8_ n9_ n10_; clear ho hb hg hat))
        go_roundg k1
        case measure => have := HK1.out; omega
        case rel => exact ⟨(y107), (y110), (wrap64 (x14_1 + 1)), zr, H', ⟨by have := HK1.out; omega⟩, ⟨by exact HO109.out⟩, ⟨by exact Kd.N_mono HO112.out (fun _ hk => ⟨hk.1, ⟨hk.2.1, hk.2.2.1⟩⟩)⟩, ⟨by exact Kd.V_mono HO_12.out (fun _ hk => ⟨hk.1.1, ⟨hk.1.2.1, ⟨hk.2, hk.1.2.2.1⟩⟩⟩)⟩, ⟨by exact Kd.V_mono HO_102002.out (fun _ hk => ⟨hk.1.1, ⟨hk.1.2.1, ⟨hk.2, hk.1.2.2.1⟩⟩⟩)⟩, ⟨by exact Kd.V_mono HO_102003.out (fun _ hk => ⟨hk.1.1, ⟨hk.1.2.1, ⟨hk.2, hk.1.2.2.1⟩⟩⟩)⟩, ⟨by exact Kd.V_mono HO_102004.out (fun _ hk => ⟨hk.1.1, ⟨hk.1.2.1, ⟨hk.2, hk.1.2.2.1⟩⟩⟩)⟩, ⟨by exact Kd.V_mono HO_102005.out (fun _ hk => ⟨hk.1.1, ⟨hk.1.2.1, ⟨hk.2, hk.1.2.2.1⟩⟩⟩)⟩, ⟨by exact BK101.out⟩, ⟨zb2 HB GE101 GE106⟩⟩
       ·rw [if_neg c11] at H
        exact absurd H (by simp)
      ·rw [if_neg c10] at H
       exact absurd H (by simp)
     ·rw [if_neg c9] at H
      exact absurd H (by simp)
    ·rw [if_neg c8] at H
     exact absurd H (by simp)
   ·rw [if_neg c7] at H
    have c7b0 : decide (x14_1 < (l0_5.length : Int)) = false := decide_eq_false c7
    clear c7
    obtain ⟨y113, hy113⟩ : ∃ y_ : List (List ByteArray), y_ = (([l0_2, l0_3, x4_1] : List (List ByteArray))) := ⟨_, rfl⟩
    replace H : (some (y113, x5_1)) = some (r1, r2) := by first | (rw [hy113]; with_reducible exact H) | (have H2_ := (Option.bind_some _ _).symm.trans H; rw [hy113]; with_reducible exact H2_) | (have H2_ := (Option.bind_some _ _).symm.trans H; with_reducible exact H2_) | with_reducible exact H | (rw [hy113]; exact H) | exact H
    have Ny113 := am hy113
    clear hy113
    simp only [Option.some.injEq, Prod.mk.injEq] at H
    obtain ⟨rfl, rfl⟩ := H
    obtain ⟨hcz18_0, hcz18_1, hcz18_2, hcz18_3, hcz18_4, hcz18_5, hcz18_6, hcz18_7, hfz18_0, hfz18_1, hfz18_2, hfz18_3, hfz18_4, hfz18_5, hfz18_6, hfz18_7⟩ := cz8 BK101.out
    obtain ⟨Ao19, co19, eo19⟩ := Kd.R_slice HO_4.out
    subst eo19
    go_wp2_with (first | ((with_reducible refine gate_dst (N := 34) rfl ?_); refine Kd.N_lit (Kd.slice 9 Kd.string) _ 29 ?hg (N' := 34) ?hd (xs := ([l0_2, l0_3, x4_1] : List (List ByteArray))) (inner := [.slice A0_2 l0_2.length c0_2, .slice A0_3 l0_3.length c0_3, .slice Ao19 x4_1.length co19]) (ok := (fun k_ => ((P0_2_ k_ ∨ P0_3_ k_ ∨ P0_4_ k_ ∨ P0_5_ k_) ∨ w.heap.size ≤ k_) ∧ some k_ ≠ (u5 : Value).ownBlock ∧ k_ ≠ gb101)) (okp := (fun k_ => ((P0_2_ k_ ∨ P0_3_ k_ ∨ P0_4_ k_ ∨ P0_5_ k_) ∨ w.heap.size ≤ k_) ∧ some k_ ≠ (u5 : Value).ownBlock ∧ k_ ≠ gb101)) ?hr ?hp (fun _ hk => hk) ((show ∀ k_, wr.heap.size ≤ k_ → (fun k_ => ((P0_2_ k_ ∨ P0_3_ k_ ∨ P0_4_ k_ ∨ P0_5_ k_) ∨ w.heap.size ≤ k_) ∧ some k_ ≠ (u5 : Value).ownBlock ∧ k_ ≠ gb101) k_ from fun k_ hk => ⟨(.inr (Nat.le_trans (below_size (zb1 HB GE101)) hk)), Kd.fresh' (Kd.N_lt HO_5.out) k_ hk, Kd.freshB BK101.out k_ hk⟩) _ (Nat.le_refl _)) (Below.refl _ _) (Nat.le_refl _) (by simp) ?_; (case hd => rfl); (case hg => rfl); (case hr => first | (go_simp; done) | (go_simp; rfl)); (case hp => exact (Reps.one (show Kd.FK (Kd.slice 9 Kd.string) _ _ l0_2 [.slice A0_2 l0_2.length c0_2] from (Kd.FK_slice_mk (Kd.V_reads' (Kd.V_mono (ok' := (fun k_ => ((P0_2_ k_ ∨ P0_3_ k_ ∨ P0_4_ k_ ∨ P0_5_ k_) ∨ w.heap.size ≤ k_) ∧ some k_ ≠ (u5 : Value).ownBlock ∧ k_ ≠ gb101)) (HO_102002.out) (fun k_ hk => ⟨hk.1, ⟨hk.2.2.1, hk.2.2.2⟩⟩))).2.1 (Kd.V_F (Kd.V_mono (ok' := (fun k_ => ((P0_2_ k_ ∨ P0_3_ k_ ∨ P0_4_ k_ ∨ P0_5_ k_) ∨ w.heap.size ≤ k_) ∧ some k_ ≠ (u5 : Value).ownBlock ∧ k_ ≠ gb101)) (HO_102002.out) (fun k_ hk => ⟨hk.1, ⟨hk.2.2.1, hk.2.2.2⟩⟩))))) (Reps.one (show Kd.FK (Kd.slice 9 Kd.string) _ _ l0_3 [.slice A0_3 l0_3.length c0_3] from (Kd.FK_slice_mk (Kd.V_reads' (Kd.V_mono (ok' := (fun k_ => ((P0_2_ k_ ∨ P0_3_ k_ ∨ P0_4_ k_ ∨ P0_5_ k_) ∨ w.heap.size ≤ k_) ∧ some k_ ≠ (u5 : Value).ownBlock ∧ k_ ≠ gb101)) (HO_102003.out) (fun k_ hk => ⟨hk.1, ⟨hk.2.2.1, hk.2.2.2⟩⟩))).2.1 (Kd.V_F (Kd.V_mono (ok' := (fun k_ => ((P0_2_ k_ ∨ P0_3_ k_ ∨ P0_4_ k_ ∨ P0_5_ k_) ∨ w.heap.size ≤ k_) ∧ some k_ ≠ (u5 : Value).ownBlock ∧ k_ ≠ gb101)) (HO_102003.out) (fun k_ hk => ⟨hk.1, ⟨hk.2.2.1, hk.2.2.2⟩⟩))))) (Reps.one (show Kd.FK (Kd.slice 9 Kd.string) _ _ x4_1 [.slice Ao19 x4_1.length co19] from (Kd.FK_slice_mk (Kd.R_reads' (Kd.R_mono (ok' := (fun k_ => ((P0_2_ k_ ∨ P0_3_ k_ ∨ P0_4_ k_ ∨ P0_5_ k_) ∨ w.heap.size ≤ k_) ∧ some k_ ≠ (u5 : Value).ownBlock ∧ k_ ≠ gb101)) (Kd.R_types (Kd.R_apart' (HO_4.out) (Kd.N_typed HO_5.out) (by decide)) BK101.out (by decide)) (fun k_ hk => ⟨(.inr (hk.1.1)), ⟨hk.1.2, hk.2⟩⟩))).2.1 (Kd.R_F (Kd.R_mono (ok' := (fun k_ => ((P0_2_ k_ ∨ P0_3_ k_ ∨ P0_4_ k_ ∨ P0_5_ k_) ∨ w.heap.size ≤ k_) ∧ some k_ ≠ (u5 : Value).ownBlock ∧ k_ ≠ gb101)) (Kd.R_types (Kd.R_apart' (HO_4.out) (Kd.N_typed HO_5.out) (by decide)) BK101.out (by decide)) (fun k_ hk => ⟨(.inr (hk.1.1)), ⟨hk.1.2, hk.2⟩⟩))))) (Reps.none _ _))))); intro v114 w20 ho21 hb hg_ hnew_; clear hg_ hnew_; (first | rw [← Ny113.out] at ho21 | (simp only [Int.reduceToNat] at ho21; rw [← Ny113.out] at ho21)); have n0_ := am (Kd.N_elder' HO_5.out (Kd.N_base ho21) hb); have n6_ := am (Kd.N_lower ho21 (below_size (zb1 HB GE101))); have n8_ := am (below_step (zb1 HB GE101) hb); clear HO_5; clear HO_12; clear HO_102002; clear HO_102003; clear HO_102004; clear HO_102005; clear BK101; clear HB; clear HO_4; have HO_5 := n0_; have HO115 := n6_; have HB := n8_; clear n0_ n6_ n8_; clear hb ho21))
    go_ret2
    exact ⟨_, _, ze, by exact Kd.N_mono HO115.out (fun _ hk => ⟨hk.1, hk.2.1⟩), by exact Kd.N_mono HO_5.out (fun _ hk => ⟨hk.1.1, hk.2⟩), zb1 HB GE101⟩

def config_long.f (l0 : List ByteArray) : Option (Bool) := some (decide ((l0.length : Int) > 64))
set_option maxHeartbeats 8000000 in
set_option maxRecDepth 100000 in
theorem config_long.calls (A0 : Option Addr) (c0 : Nat) (l0 : List ByteArray) (r : Bool) (w : World) (hr0 : Kd.C Kd.string w A0 l0.length l0) (hc0 : l0.length ≤ c0) (h : config_long.f l0 = some r) :
  Calls Tryz.prog 53 #[.slice A0 l0.length c0] w fun e w' => e = .returned (.bool r) ∧ Drawn0 w w' := by
 have HR0 := am hr0
 have HC0 := am hc0
 clear hr0 hc0
 have H : (some (decide ((l0.length : Int) > 64))) = some r := h
 clear h
 obtain rfl := Option.some.inj H
 go_enter Tryz.func53, Tryz.ntmps53
 go_wp2
 go_ret
 exact ⟨zt, zw⟩

def config_twice.f (l0 : List ByteArray) : Option (Bool) := (fold_Sorted.f l0).bind fun t116 => (some ((t116.length : Int) != (l0.length : Int)))
set_option maxHeartbeats 8000000 in
set_option maxRecDepth 100000 in
theorem config_twice.calls (A0 : Option Addr) (c0 : Nat) (l0 : List ByteArray) (r : Bool) (w : World) (hr0 : Kd.C Kd.string w A0 l0.length l0) (hc0 : l0.length ≤ c0) (h : config_twice.f l0 = some r) :
  Calls Tryz.prog 57 #[.slice A0 l0.length c0] w fun e w' => e = .returned (.bool r) ∧ Below w.heap.size w w' := by
 have HR0 := am hr0
 have HC0 := am hc0
 clear hr0 hc0
 have HB := am (Below.refl w.heap.size w)
 have H : ((fold_Sorted.f l0).bind fun t116 => (some ((t116.length : Int) != (l0.length : Int)))) = some r := h
 clear h
 replace H := Option.bind_eq_some_iff.mp H
 obtain ⟨t116, A20, H⟩ := H
 have A2 := am A20
 clear A20
 obtain rfl := Option.some.inj H
 go_enter Tryz.func57, Tryz.ntmps57
 go_wp2_with (first | ((with_reducible refine gate_callee (f := 39) rfl ?_); refine goesL_ (some 4) rfl rfl Tryz.func39 (by kernel_rfl) rfl #[.slice A0 l0.length c0] rfl zm ?_; (with_reducible refine (fold_Sorted.calls _ _ l0 t116 _ ?side1 ?side2 A2.out).mono ?_); (case side1 => repeat (first | exact HR0.out | (with_reducible refine Kd.C_alloc ?_ _) | (with_reducible refine Kd.C_drewN ?_ _) | (with_reducible refine Kd.C_drew ?_))); (case side2 => exact HC0.out); rintro e w3 ⟨v117, rfl, ho0, hb⟩; refine ⟨_, rfl, ?_⟩; have n0_ := am (Kd.R_lower ho0 (below_size (zb HB))); have n1_ := am (below_step (zb HB) hb); clear HB; have HO118 := n0_; have HB := n1_; clear n0_ n1_; (try clear hb); (try clear ho0); obtain ⟨Ao4, co4, eo4⟩ := Kd.R_slice HO118.out; subst eo4))
 go_ret
 exact ⟨ze, zb HB⟩

def fold_Space.f (a0 : Int) : Option (Bool) := if a0 = 32 then (some true) else (if a0 = 9 then (some true) else (if a0 = 10 then (some true) else (if a0 = 12 then (some true) else (some (a0 == 13)))))
set_option maxHeartbeats 8000000 in
set_option maxRecDepth 100000 in
theorem fold_Space.calls (a0 : Int) (r : Bool) (w : World) (h : fold_Space.f a0 = some r) :
  Calls Tryz.prog 118 #[.int .u8 a0] w fun e w' => e = .returned (.bool r) ∧ Drawn0 w w' := by
 have H : (if a0 = 32 then (some true) else (if a0 = 9 then (some true) else (if a0 = 10 then (some true) else (if a0 = 12 then (some true) else (some (a0 == 13)))))) = some r := h
 clear h
 by_cases c2 : a0 = 32
 ·rw [if_pos c2] at H
  have c2b0 : (a0 == 32) = true := beq_iff_eq.mpr c2
  have c2b1 : (a0 != 32) = false := bne_eq_false_iff_eq.mpr c2
  clear c2
  obtain rfl := Option.some.inj H
  go_enter Tryz.func118, Tryz.ntmps118
  go_wp2
  go_ret
  exact ⟨zt, zw⟩
 ·rw [if_neg c2] at H
  have c2b0 : (a0 == 32) = false := beq_eq_false_iff_ne.mpr c2
  have c2b1 : (a0 != 32) = true := bne_iff_ne.mpr c2
  by_cases c3 : a0 = 9
  ·rw [if_pos c3] at H
   have c3b0 : (a0 == 9) = true := beq_iff_eq.mpr c3
   have c3b1 : (a0 != 9) = false := bne_eq_false_iff_eq.mpr c3
   clear c3
   obtain rfl := Option.some.inj H
   go_enter Tryz.func118, Tryz.ntmps118
   go_wp2
   go_ret
   exact ⟨zt, zw⟩
  ·rw [if_neg c3] at H
   have c3b0 : (a0 == 9) = false := beq_eq_false_iff_ne.mpr c3
   have c3b1 : (a0 != 9) = true := bne_iff_ne.mpr c3
   by_cases c4 : a0 = 10
   ·rw [if_pos c4] at H
    have c4b0 : (a0 == 10) = true := beq_iff_eq.mpr c4
    have c4b1 : (a0 != 10) = false := bne_eq_false_iff_eq.mpr c4
    clear c4
    obtain rfl := Option.some.inj H
    go_enter Tryz.func118, Tryz.ntmps118
    go_wp2
    go_ret
    exact ⟨zt, zw⟩
   ·rw [if_neg c4] at H
    have c4b0 : (a0 == 10) = false := beq_eq_false_iff_ne.mpr c4
    have c4b1 : (a0 != 10) = true := bne_iff_ne.mpr c4
    by_cases c5 : a0 = 12
    ·rw [if_pos c5] at H
     have c5b0 : (a0 == 12) = true := beq_iff_eq.mpr c5
     have c5b1 : (a0 != 12) = false := bne_eq_false_iff_eq.mpr c5
     clear c5
     obtain rfl := Option.some.inj H
     go_enter Tryz.func118, Tryz.ntmps118
     go_wp2
     go_ret
     exact ⟨zt, zw⟩
    ·rw [if_neg c5] at H
     have c5b0 : (a0 == 12) = false := beq_eq_false_iff_ne.mpr c5
     have c5b1 : (a0 != 12) = true := bne_iff_ne.mpr c5
     obtain rfl := Option.some.inj H
     go_enter Tryz.func118, Tryz.ntmps118
     go_wp2
     go_ret
     exact ⟨zt, zw⟩

mutual
def names_plain.l0 : Nat → ByteArray → ByteArray → Int → Int → Option (Bool)
 | 0, _, _, _, _ => none
 | k + 1, x0, x1, x8, x9 => if x9 < x8 then (if 0 ≤ x9 then (if x9 < (x0.size : Int) then ((fold_Space.f (bt x0 x9)).bind fun t119 => (if t119 = true then (names_plain.j1 k x0 x1 x9 x8 x9 true) else (if (bt x0 x9) ≥ 65 then (if (bt x0 x9) ≤ 90 then (names_plain.j1 k x0 x1 x9 x8 x9 true) else (names_plain.j1 k x0 x1 x9 x8 x9 ((bt x0 x9) == 0))) else (names_plain.j1 k x0 x1 x9 x8 x9 ((bt x0 x9) == 0))))) else (none)) else (none)) else (some (x0.toList != ([] : List UInt8)))
def names_plain.j1 : Nat → ByteArray → ByteArray → Int → Int → Int → Bool → Option (Bool)
 | 0, _, _, _, _, _, _ => none
 | k + 1, x0, x1, x5, x8, x9, x33 => if x33 = true then (some false) else (names_plain.l1 k x0 x1 x5 x8 x9 (x1.size : Int) 0)
def names_plain.l1 : Nat → ByteArray → ByteArray → Int → Int → Int → Int → Int → Option (Bool)
 | 0, _, _, _, _, _, _, _ => none
 | k + 1, x0, x1, x5, x8, x9, x35, x36 => if x36 < x35 then (if 0 ≤ x5 then (if x5 < (x0.size : Int) then (if 0 ≤ x36 then (if x36 < (x1.size : Int) then (if (bt x0 x5) = (bt x1 x36) then (some false) else (names_plain.l1 k x0 x1 x5 x8 x9 x35 (wrap64 (x36 + 1)))) else (none)) else (none)) else (none)) else (none)) else (names_plain.l0 k x0 x1 x8 (wrap64 (x9 + 1)))
end
def names_plain.f (k : Nat) (a0 : ByteArray) (a1 : ByteArray) : Option (Bool) := names_plain.l0 k a0 a1 (a0.size : Int) 0
set_option maxHeartbeats 8000000 in
set_option maxRecDepth 100000 in
theorem names_plain.calls (k : Nat) (a0 : ByteArray) (a1 : ByteArray) (r : Bool) (w : World) (h : names_plain.f k a0 a1 = some r) :
  Calls Tryz.prog 91 #[.string a0, .string a1] w fun e w' => e = .returned (.bool r) ∧ Drawn0 w w' := by
 have H : (names_plain.l0 k a0 a1 (a0.size : Int) 0) = some r := h
 clear h
 have H' := am H
 clear H
 go_enter Tryz.func91, Tryz.ntmps91
 go_wp2
 repeat (go_quiet (fail); try go_wp2)
 go_loopg [9] k (fun kq v9 w' => ∃ (x9_1 : Int), v9 = .int .i64 x9_1 ∧ Aside0 (names_plain.l0 kq a0 a1 (a0.size : Int) x9_1 = some r) ∧ Aside0 (kq ≤ k) ∧ Drawn0 w w')
 case atStart => exact ⟨(0), zr, H', ⟨Nat.le_refl _⟩, zw⟩
 case round =>
  clear H'
  try clear p2
  obtain ⟨x9_1, rfl, HA, HK1, ⟨m1, rfl⟩⟩ := hrel
  cases gk with
  | zero => exact absurd HA.out (by simp [names_plain.l0])
  | succ k1 =>
   have H := HA.out
   clear HA
   simp only [names_plain.l0] at H
   by_cases c3 : x9_1 < (a0.size : Int)
   ·rw [if_pos c3] at H
    have c3b0 : decide (x9_1 < (a0.size : Int)) = true := decide_eq_true c3
    clear c3
    have HC4 := am H
    clear H
    go_upto_region 4 with (fail)
    repeat (go_quiet (fail); go_upto_region 4 with (fail))
    go_cut [33] (fun v33 wc => ∃ (kq : Nat) (x33_3 : Bool), v33 = .bool x33_3 ∧ Aside0 (names_plain.j1 kq a0 a1 x9_1 (a0.size : Int) x9_1 x33_3 = some r) ∧ Aside0 (kq ≤ k1) ∧ Drawn0 w wc)
    case first =>
     have H := HC4.out
     clear HC4
     by_cases c5 : 0 ≤ x9_1
     ·rw [if_pos c5] at H
      have c5b0 : decide (0 ≤ x9_1) = true := decide_eq_true c5
      clear c5
      (first | rw [c5b0] | (simp only [i64_w, i32_w]; rw [c5b0]) | skip)
      by_cases c6 : x9_1 < (a0.size : Int)
      ·rw [if_pos c6] at H
       have c6b0 : decide (x9_1 < (a0.size : Int)) = true := decide_eq_true c6
       clear c6
       replace H := Option.bind_eq_some_iff.mp H
       obtain ⟨t119, A80, H⟩ := H
       have A8 := am A80
       clear A80
       by_cases c9 : t119 = true
       ·subst c9
        replace H : (names_plain.j1 k1 a0 a1 x9_1 (a0.size : Int) x9_1 true) = some r := by rw [if_pos rfl] at H; exact H
        have H' := am H
        clear H
        have p7 : 0 ≤ (x9_1 : Int) := of_decide_eq_true za
        have q7 : x9_1 < (a0.size : Int) := of_decide_eq_true za
        have hx7 := bt_at a0 x9_1
        replace p7 := eq_true p7
        replace q7 := eq_true q7
        go_wp2_with (first | (go_at_call 118; (with_reducible refine (fold_Space.calls (bt a0 x9_1) true _ A8.out).mono ?_); rintro e w' ⟨rfl, ⟨nd, rfl⟩⟩; (try exact zu)))
        repeat (go_quiet (first | (go_at_call 118; (with_reducible refine (fold_Space.calls (bt a0 x9_1) true _ A8.out).mono ?_); rintro e w' ⟨rfl, ⟨nd, rfl⟩⟩; (try exact zu))); try go_wp2_with (first | (go_at_call 118; (with_reducible refine (fold_Space.calls (bt a0 x9_1) true _ A8.out).mono ?_); rintro e w' ⟨rfl, ⟨nd, rfl⟩⟩; (try exact zu))))
        go_meet
        case rel => exact ⟨_, (true), zr, H', ⟨by have := HK1.out; first | omega | exact Nat.le_refl _⟩, zw⟩
       ·replace c9 := Bool.eq_false_iff.mpr c9
        subst c9
        replace H : (if (bt a0 x9_1) ≥ 65 then (if (bt a0 x9_1) ≤ 90 then (names_plain.j1 k1 a0 a1 x9_1 (a0.size : Int) x9_1 true) else (names_plain.j1 k1 a0 a1 x9_1 (a0.size : Int) x9_1 ((bt a0 x9_1) == 0))) else (names_plain.j1 k1 a0 a1 x9_1 (a0.size : Int) x9_1 ((bt a0 x9_1) == 0))) = some r := by rw [if_neg (show ¬ (false = true) by decide)] at H; exact H
        by_cases c11 : (bt a0 x9_1) ≥ 65
        ·rw [if_pos c11] at H
         have c11b0 : decide (65 ≤ (bt a0 x9_1)) = true := decide_eq_true c11
         clear c11
         by_cases c13 : (bt a0 x9_1) ≤ 90
         ·rw [if_pos c13] at H
          have c13b0 : decide ((bt a0 x9_1) ≤ 90) = true := decide_eq_true c13
          clear c13
          have H' := am H
          clear H
          have p7 : 0 ≤ (x9_1 : Int) := of_decide_eq_true za
          have q7 : x9_1 < (a0.size : Int) := of_decide_eq_true za
          have hx7 := bt_at a0 x9_1
          replace p7 := eq_true p7
          replace q7 := eq_true q7
          go_wp2_with (first | (go_at_call 118; (with_reducible refine (fold_Space.calls (bt a0 x9_1) false _ A8.out).mono ?_); rintro e w' ⟨rfl, ⟨nd, rfl⟩⟩; (try exact zu); have p10 : 0 ≤ (x9_1 : Int) := of_decide_eq_true za; have q10 : x9_1 < (a0.size : Int) := of_decide_eq_true za; have hx10 := bt_at a0 x9_1; replace p10 := eq_true p10; replace q10 := eq_true q10; have p12 : 0 ≤ (x9_1 : Int) := of_decide_eq_true za; have q12 : x9_1 < (a0.size : Int) := of_decide_eq_true za; have hx12 := bt_at a0 x9_1; replace p12 := eq_true p12; replace q12 := eq_true q12))
          repeat (go_quiet (first | (go_at_call 118; (with_reducible refine (fold_Space.calls (bt a0 x9_1) false _ A8.out).mono ?_); rintro e w' ⟨rfl, ⟨nd, rfl⟩⟩; (try exact zu); have p10 : 0 ≤ (x9_1 : Int) := of_decide_eq_true za; have q10 : x9_1 < (a0.size : Int) := of_decide_eq_true za; have hx10 := bt_at a0 x9_1; replace p10 := eq_true p10; replace q10 := eq_true q10; have p12 : 0 ≤ (x9_1 : Int) := of_decide_eq_true za; have q12 : x9_1 < (a0.size : Int) := of_decide_eq_true za; have hx12 := bt_at a0 x9_1; replace p12 := eq_true p12; replace q12 := eq_true q12)); try go_wp2_with (first | (go_at_call 118; (with_reducible refine (fold_Space.calls (bt a0 x9_1) false _ A8.out).mono ?_); rintro e w' ⟨rfl, ⟨nd, rfl⟩⟩; (try exact zu); have p10 : 0 ≤ (x9_1 : Int) := of_decide_eq_true za; have q10 : x9_1 < (a0.size : Int) := of_decide_eq_true za; have hx10 := bt_at a0 x9_1; replace p10 := eq_true p10; replace q10 := eq_true q10; have p12 : 0 ≤ (x9_1 : Int) := of_decide_eq_true za; have q12 : x9_1 < (a0.size : Int) := of_decide_eq_true za; have hx12 := bt_at a0 x9_1; replace p12 := eq_true p12; replace q12 := eq_true q12)))
          go_meet
          case rel => exact ⟨_, (true), zr, H', ⟨by have := HK1.out; first | omega | exact Nat.le_refl _⟩, zw⟩
         ·rw [if_neg c13] at H
          have c13b0 : decide ((bt a0 x9_1) ≤ 90) = false := decide_eq_false c13
          clear c13
          have H' := am H
          clear H
          have p7 : 0 ≤ (x9_1 : Int) := of_decide_eq_true za
          have q7 : x9_1 < (a0.size : Int) := of_decide_eq_true za
          have hx7 := bt_at a0 x9_1
          replace p7 := eq_true p7
          replace q7 := eq_true q7
          go_wp2_with (first | (go_at_call 118; (with_reducible refine (fold_Space.calls (bt a0 x9_1) false _ A8.out).mono ?_); rintro e w' ⟨rfl, ⟨nd, rfl⟩⟩; (try exact zu); have p10 : 0 ≤ (x9_1 : Int) := of_decide_eq_true za; have q10 : x9_1 < (a0.size : Int) := of_decide_eq_true za; have hx10 := bt_at a0 x9_1; replace p10 := eq_true p10; replace q10 := eq_true q10; have p12 : 0 ≤ (x9_1 : Int) := of_decide_eq_true za; have q12 : x9_1 < (a0.size : Int) := of_decide_eq_true za; have hx12 := bt_at a0 x9_1; replace p12 := eq_true p12; replace q12 := eq_true q12; have p14 : 0 ≤ (x9_1 : Int) := of_decide_eq_true za; have q14 : x9_1 < (a0.size : Int) := of_decide_eq_true za; have hx14 := bt_at a0 x9_1; replace p14 := eq_true p14; replace q14 := eq_true q14))
          repeat (go_quiet (first | (go_at_call 118; (with_reducible refine (fold_Space.calls (bt a0 x9_1) false _ A8.out).mono ?_); rintro e w' ⟨rfl, ⟨nd, rfl⟩⟩; (try exact zu); have p10 : 0 ≤ (x9_1 : Int) := of_decide_eq_true za; have q10 : x9_1 < (a0.size : Int) := of_decide_eq_true za; have hx10 := bt_at a0 x9_1; replace p10 := eq_true p10; replace q10 := eq_true q10; have p12 : 0 ≤ (x9_1 : Int) := of_decide_eq_true za; have q12 : x9_1 < (a0.size : Int) := of_decide_eq_true za; have hx12 := bt_at a0 x9_1; replace p12 := eq_true p12; replace q12 := eq_true q12; have p14 : 0 ≤ (x9_1 : Int) := of_decide_eq_true za; have q14 : x9_1 < (a0.size : Int) := of_decide_eq_true za; have hx14 := bt_at a0 x9_1; replace p14 := eq_true p14; replace q14 := eq_true q14)); try go_wp2_with (first | (go_at_call 118; (with_reducible refine (fold_Space.calls (bt a0 x9_1) false _ A8.out).mono ?_); rintro e w' ⟨rfl, ⟨nd, rfl⟩⟩; (try exact zu); have p10 : 0 ≤ (x9_1 : Int) := of_decide_eq_true za; have q10 : x9_1 < (a0.size : Int) := of_decide_eq_true za; have hx10 := bt_at a0 x9_1; replace p10 := eq_true p10; replace q10 := eq_true q10; have p12 : 0 ≤ (x9_1 : Int) := of_decide_eq_true za; have q12 : x9_1 < (a0.size : Int) := of_decide_eq_true za; have hx12 := bt_at a0 x9_1; replace p12 := eq_true p12; replace q12 := eq_true q12; have p14 : 0 ≤ (x9_1 : Int) := of_decide_eq_true za; have q14 : x9_1 < (a0.size : Int) := of_decide_eq_true za; have hx14 := bt_at a0 x9_1; replace p14 := eq_true p14; replace q14 := eq_true q14)))
          go_meet
          case rel => exact ⟨_, (((bt a0 x9_1) == 0)), zr, H', ⟨by have := HK1.out; first | omega | exact Nat.le_refl _⟩, zw⟩
        ·rw [if_neg c11] at H
         have c11b0 : decide (65 ≤ (bt a0 x9_1)) = false := decide_eq_false c11
         clear c11
         have H' := am H
         clear H
         have p7 : 0 ≤ (x9_1 : Int) := of_decide_eq_true za
         have q7 : x9_1 < (a0.size : Int) := of_decide_eq_true za
         have hx7 := bt_at a0 x9_1
         replace p7 := eq_true p7
         replace q7 := eq_true q7
         go_wp2_with (first | (go_at_call 118; (with_reducible refine (fold_Space.calls (bt a0 x9_1) false _ A8.out).mono ?_); rintro e w' ⟨rfl, ⟨nd, rfl⟩⟩; (try exact zu); have p10 : 0 ≤ (x9_1 : Int) := of_decide_eq_true za; have q10 : x9_1 < (a0.size : Int) := of_decide_eq_true za; have hx10 := bt_at a0 x9_1; replace p10 := eq_true p10; replace q10 := eq_true q10; have p15 : 0 ≤ (x9_1 : Int) := of_decide_eq_true za; have q15 : x9_1 < (a0.size : Int) := of_decide_eq_true za; have hx15 := bt_at a0 x9_1; replace p15 := eq_true p15; replace q15 := eq_true q15))
         repeat (go_quiet (first | (go_at_call 118; (with_reducible refine (fold_Space.calls (bt a0 x9_1) false _ A8.out).mono ?_); rintro e w' ⟨rfl, ⟨nd, rfl⟩⟩; (try exact zu); have p10 : 0 ≤ (x9_1 : Int) := of_decide_eq_true za; have q10 : x9_1 < (a0.size : Int) := of_decide_eq_true za; have hx10 := bt_at a0 x9_1; replace p10 := eq_true p10; replace q10 := eq_true q10; have p15 : 0 ≤ (x9_1 : Int) := of_decide_eq_true za; have q15 : x9_1 < (a0.size : Int) := of_decide_eq_true za; have hx15 := bt_at a0 x9_1; replace p15 := eq_true p15; replace q15 := eq_true q15)); try go_wp2_with (first | (go_at_call 118; (with_reducible refine (fold_Space.calls (bt a0 x9_1) false _ A8.out).mono ?_); rintro e w' ⟨rfl, ⟨nd, rfl⟩⟩; (try exact zu); have p10 : 0 ≤ (x9_1 : Int) := of_decide_eq_true za; have q10 : x9_1 < (a0.size : Int) := of_decide_eq_true za; have hx10 := bt_at a0 x9_1; replace p10 := eq_true p10; replace q10 := eq_true q10; have p15 : 0 ≤ (x9_1 : Int) := of_decide_eq_true za; have q15 : x9_1 < (a0.size : Int) := of_decide_eq_true za; have hx15 := bt_at a0 x9_1; replace p15 := eq_true p15; replace q15 := eq_true q15)))
         go_meet
         case rel => exact ⟨_, (((bt a0 x9_1) == 0)), zr, H', ⟨by have := HK1.out; first | omega | exact Nat.le_refl _⟩, zw⟩
      ·rw [if_neg c6] at H
       exact absurd H (by simp)
     ·rw [if_neg c5] at H
      exact absurd H (by simp)
    case rest =>
     clear HC4
     try clear c1
     try clear p1
     try clear q1
     try clear hx1
     try clear p2
     try clear c3
     try clear c3b0
     try clear c5
     try clear c5b0
     try clear c6
     try clear c6b0
     try clear p7
     try clear q7
     try clear hx7
     try clear c9
     try clear p10
     try clear q10
     try clear hx10
     try clear c11
     try clear c11b0
     try clear p12
     try clear q12
     try clear hx12
     try clear c13
     try clear c13b0
     try clear p14
     try clear q14
     try clear hx14
     try clear p15
     try clear q15
     try clear hx15
     try clear p10
     try clear p12
     try clear p14
     try clear p15
     try clear p2
     try clear p7
     try clear q10
     try clear q12
     try clear q14
     try clear q15
     try clear q7
     obtain ⟨kq, x33_3, rfl, HA, HJ3, ⟨mc3, rfl⟩⟩ := hcut
     cases kq with
     | zero => exact absurd HA.out (by simp [names_plain.j1])
     | succ kj3 =>
      have H := HA.out
      clear HA
      simp only [names_plain.j1] at H
      by_cases c16 : x33_3 = true
      ·subst c16
       replace H : (some false) = some r := by rw [if_pos rfl] at H; exact H
       obtain rfl := Option.some.inj H
       go_wp2
       repeat (go_quiet (fail); try go_wp2)
       go_ret
       exact ⟨zt, zw⟩
      ·replace c16 := Bool.eq_false_iff.mpr c16
       subst c16
       replace H : (names_plain.l1 kj3 a0 a1 x9_1 (a0.size : Int) x9_1 (a1.size : Int) 0) = some r := by rw [if_neg (show ¬ (false = true) by decide)] at H; exact H
       have H' := am H
       clear H
       go_wp2
       repeat (go_quiet (fail); try go_wp2)
       go_loopg [36] kj3 (fun kq v36 w' => ∃ (x36_3 : Int), v36 = .int .i64 x36_3 ∧ Aside0 (names_plain.l1 kq a0 a1 x9_1 (a0.size : Int) x9_1 (a1.size : Int) x36_3 = some r) ∧ Aside0 (kq ≤ kj3) ∧ Drawn0 w w')
       case atStart => exact ⟨(0), zr, H', ⟨Nat.le_refl _⟩, zw⟩
       case round =>
        clear H'
        try clear c1
        try clear p1
        try clear q1
        try clear hx1
        try clear p2
        try clear c3
        try clear c3b0
        try clear c5
        try clear c5b0
        try clear c6
        try clear c6b0
        try clear p7
        try clear q7
        try clear hx7
        try clear c9
        try clear p10
        try clear q10
        try clear hx10
        try clear c11
        try clear c11b0
        try clear p12
        try clear q12
        try clear hx12
        try clear c13
        try clear c13b0
        try clear p14
        try clear q14
        try clear hx14
        try clear p15
        try clear q15
        try clear hx15
        try clear c16
        try clear p1
        try clear p10
        try clear p12
        try clear p14
        try clear p15
        try clear p2
        try clear p7
        try clear q1
        try clear q10
        try clear q12
        try clear q14
        try clear q15
        try clear q7
        obtain ⟨x36_3, rfl, HA, HK3, ⟨m3, rfl⟩⟩ := hrel
        cases gk with
        | zero => exact absurd HA.out (by simp [names_plain.l1])
        | succ k3 =>
         have H := HA.out
         clear HA
         simp only [names_plain.l1] at H
         by_cases c17 : x36_3 < (a1.size : Int)
         ·rw [if_pos c17] at H
          have c17b0 : decide (x36_3 < (a1.size : Int)) = true := decide_eq_true c17
          clear c17
          by_cases c18 : 0 ≤ x9_1
          ·rw [if_pos c18] at H
           have c18b0 : decide (0 ≤ x9_1) = true := decide_eq_true c18
           clear c18
           by_cases c19 : x9_1 < (a0.size : Int)
           ·rw [if_pos c19] at H
            have c19b0 : decide (x9_1 < (a0.size : Int)) = true := decide_eq_true c19
            clear c19
            by_cases c21 : 0 ≤ x36_3
            ·rw [if_pos c21] at H
             have c21b0 : decide (0 ≤ x36_3) = true := decide_eq_true c21
             clear c21
             by_cases c22 : x36_3 < (a1.size : Int)
             ·rw [if_pos c22] at H
              have c22b0 : decide (x36_3 < (a1.size : Int)) = true := decide_eq_true c22
              clear c22
              by_cases c24 : (bt a0 x9_1) = (bt a1 x36_3)
              ·rw [if_pos c24] at H
               have c24b0 : ((bt a0 x9_1) == (bt a1 x36_3)) = true := beq_iff_eq.mpr c24
               have c24b1 : ((bt a0 x9_1) != (bt a1 x36_3)) = false := bne_eq_false_iff_eq.mpr c24
               clear c24
               obtain rfl := Option.some.inj H
               have p20 : 0 ≤ (x9_1 : Int) := of_decide_eq_true za
               have q20 : x9_1 < (a0.size : Int) := of_decide_eq_true za
               have hx20 := bt_at a0 x9_1
               replace p20 := eq_true p20
               replace q20 := eq_true q20
               have p23 : 0 ≤ (x36_3 : Int) := of_decide_eq_true za
               have q23 : x36_3 < (a1.size : Int) := of_decide_eq_true za
               have hx23 := bt_at a1 x36_3
               replace p23 := eq_true p23
               replace q23 := eq_true q23
               go_wp2
               repeat (go_quiet (fail); try go_wp2)
               go_ret
               exact ⟨zt, zw⟩
              ·rw [if_neg c24] at H
               have c24b0 : ((bt a0 x9_1) == (bt a1 x36_3)) = false := beq_eq_false_iff_ne.mpr c24
               have c24b1 : ((bt a0 x9_1) != (bt a1 x36_3)) = true := bne_iff_ne.mpr c24
               have H' := am H
               clear H
               have p20 : 0 ≤ (x9_1 : Int) := of_decide_eq_true za
               have q20 : x9_1 < (a0.size : Int) := of_decide_eq_true za
               have hx20 := bt_at a0 x9_1
               replace p20 := eq_true p20
               replace q20 := eq_true q20
               have p23 : 0 ≤ (x36_3 : Int) := of_decide_eq_true za
               have q23 : x36_3 < (a1.size : Int) := of_decide_eq_true za
               have hx23 := bt_at a1 x36_3
               replace p23 := eq_true p23
               replace q23 := eq_true q23
               go_wp2
               repeat (go_quiet (fail); try go_wp2)
               go_roundg k3
               case measure => have := HK1.out; have := HJ3.out; have := HK3.out; omega
               case rel => exact ⟨(wrap64 (x36_3 + 1)), zr, H', ⟨by have := HK1.out; have := HJ3.out; have := HK3.out; omega⟩, zw⟩
             ·rw [if_neg c22] at H
              exact absurd H (by simp)
            ·rw [if_neg c21] at H
             exact absurd H (by simp)
           ·rw [if_neg c19] at H
            exact absurd H (by simp)
          ·rw [if_neg c18] at H
           exact absurd H (by simp)
         ·rw [if_neg c17] at H
          have c17b0 : decide (x36_3 < (a1.size : Int)) = false := decide_eq_false c17
          clear c17
          have H' := am H
          clear H
          go_wp2
          repeat (go_quiet (fail); try go_wp2)
          go_roundg k3
          case measure => have := HK1.out; have := HJ3.out; have := HK3.out; omega
          case rel => exact ⟨(wrap64 (x9_1 + 1)), zr, H', ⟨by have := HK1.out; have := HJ3.out; have := HK3.out; omega⟩, zw⟩
   ·rw [if_neg c3] at H
    have c3b0 : decide (x9_1 < (a0.size : Int)) = false := decide_eq_false c3
    clear c3
    obtain rfl := Option.some.inj H
    go_wp2
    repeat (go_quiet (fail); try go_wp2)
    go_ret
    exact ⟨zt, zw⟩

def fold_Letter.f (a0 : Int) : Option (Bool) := if a0 ≥ 97 then (if a0 ≤ 122 then (some true) else (if a0 ≥ 65 then (some (decide (a0 ≤ 90))) else (some false))) else (if a0 ≥ 65 then (some (decide (a0 ≤ 90))) else (some false))
set_option maxHeartbeats 8000000 in
set_option maxRecDepth 100000 in
theorem fold_Letter.calls (a0 : Int) (r : Bool) (w : World) (h : fold_Letter.f a0 = some r) :
  Calls Tryz.prog 92 #[.int .u8 a0] w fun e w' => e = .returned (.bool r) ∧ Drawn0 w w' := by
 have H : (if a0 ≥ 97 then (if a0 ≤ 122 then (some true) else (if a0 ≥ 65 then (some (decide (a0 ≤ 90))) else (some false))) else (if a0 ≥ 65 then (some (decide (a0 ≤ 90))) else (some false))) = some r := h
 clear h
 by_cases c2 : a0 ≥ 97
 ·rw [if_pos c2] at H
  have c2b0 : decide (97 ≤ a0) = true := decide_eq_true c2
  clear c2
  by_cases c3 : a0 ≤ 122
  ·rw [if_pos c3] at H
   have c3b0 : decide (a0 ≤ 122) = true := decide_eq_true c3
   clear c3
   obtain rfl := Option.some.inj H
   go_enter Tryz.func92, Tryz.ntmps92
   go_wp2
   go_ret
   exact ⟨zt, zw⟩
  ·rw [if_neg c3] at H
   have c3b0 : decide (a0 ≤ 122) = false := decide_eq_false c3
   clear c3
   by_cases c4 : a0 ≥ 65
   ·rw [if_pos c4] at H
    have c4b0 : decide (65 ≤ a0) = true := decide_eq_true c4
    clear c4
    obtain rfl := Option.some.inj H
    go_enter Tryz.func92, Tryz.ntmps92
    go_wp2
    go_ret
    exact ⟨zt, zw⟩
   ·rw [if_neg c4] at H
    have c4b0 : decide (65 ≤ a0) = false := decide_eq_false c4
    clear c4
    obtain rfl := Option.some.inj H
    go_enter Tryz.func92, Tryz.ntmps92
    go_wp2
    go_ret
    exact ⟨zt, zw⟩
 ·rw [if_neg c2] at H
  have c2b0 : decide (97 ≤ a0) = false := decide_eq_false c2
  clear c2
  by_cases c5 : a0 ≥ 65
  ·rw [if_pos c5] at H
   have c5b0 : decide (65 ≤ a0) = true := decide_eq_true c5
   clear c5
   obtain rfl := Option.some.inj H
   go_enter Tryz.func92, Tryz.ntmps92
   go_wp2
   go_ret
   exact ⟨zt, zw⟩
  ·rw [if_neg c5] at H
   have c5b0 : decide (65 ≤ a0) = false := decide_eq_false c5
   clear c5
   obtain rfl := Option.some.inj H
   go_enter Tryz.func92, Tryz.ntmps92
   go_wp2
   go_ret
   exact ⟨zt, zw⟩

def names_Right.f (k : Nat) (a0 : ByteArray) : Option (Bool) := (names_plain.f k a0 (⟨#[47, 62]⟩ : ByteArray)).bind fun t120 => (if t120 = true then (if 0 < (a0.size : Int) then ((fold_Letter.f (bt a0 0)).bind fun t121 => (some t121)) else (none)) else (some false))
set_option maxHeartbeats 8000000 in
set_option maxRecDepth 100000 in
theorem names_Right.calls (k : Nat) (a0 : ByteArray) (r : Bool) (w : World) (h : names_Right.f k a0 = some r) :
  Calls Tryz.prog 55 #[.string a0] w fun e w' => e = .returned (.bool r) ∧ Drawn0 w w' := by
 have H : ((names_plain.f k a0 (⟨#[47, 62]⟩ : ByteArray)).bind fun t120 => (if t120 = true then (if 0 < (a0.size : Int) then ((fold_Letter.f (bt a0 0)).bind fun t121 => (some t121)) else (none)) else (some false))) = some r := h
 clear h
 replace H := Option.bind_eq_some_iff.mp H
 obtain ⟨t120, A20, H⟩ := H
 have A2 := am A20
 clear A20
 by_cases c3 : t120 = true
 ·subst c3
  replace H : (if 0 < (a0.size : Int) then ((fold_Letter.f (bt a0 0)).bind fun t121 => (some t121)) else (none)) = some r := by rw [if_pos rfl] at H; exact H
  by_cases c4 : 0 < (a0.size : Int)
  ·rw [if_pos c4] at H
   have c4b0 : decide (0 < (a0.size : Int)) = true := decide_eq_true c4
   have c4b1 : decide (0 < a0.size) = true := decide_eq_true (by omega)
   clear c4
   replace H := Option.bind_eq_some_iff.mp H
   obtain ⟨t121, A60, H⟩ := H
   replace H : (some t121) = some r := H
   have A6 := am A60
   clear A60
   obtain rfl := Option.some.inj H
   go_enter Tryz.func55, Tryz.ntmps55
   go_wp2_with (first | ((with_reducible refine gate_callee (f := 91) rfl ?_); refine goesL_ (some 4) rfl rfl Tryz.func91 (by kernel_rfl) rfl #[.string a0, .string (⟨#[47, 62]⟩ : ByteArray)] rfl zm ?_; (with_reducible refine (names_plain.calls k a0 (⟨#[47, 62]⟩ : ByteArray) true _ A2.out).mono ?_); rintro e w' ⟨rfl, ⟨nd, rfl⟩⟩; refine ⟨_, rfl, ?_⟩; have p5 : 0 ≤ (0 : Int) := (by omega); have q5 : 0 < a0.size := (by have : (0 : Int) < (a0.size : Int) := of_decide_eq_true za; omega); have hx5 : ∀ h : 0 < a0.size, ((a0[0]'h).toNat : Int) = bt a0 0 := bt_at a0 0; clear p5; have qi5 : (0 < (a0.size : Int)) = True := eq_true (of_decide_eq_true za); replace q5 := eq_true q5) | (go_at_call 92; (with_reducible refine (fold_Letter.calls (bt a0 0) t121 _ A6.out).mono ?_); rintro e w' ⟨rfl, ⟨nd, rfl⟩⟩))
   go_ret
   exact ⟨zt, zw⟩
  ·rw [if_neg c4] at H
   exact absurd H (by simp)
 ·replace c3 := Bool.eq_false_iff.mpr c3
  subst c3
  replace H : (some false) = some r := by rw [if_neg (show ¬ (false = true) by decide)] at H; exact H
  obtain rfl := Option.some.inj H
  go_enter Tryz.func55, Tryz.ntmps55
  go_wp2_with (first | ((with_reducible refine gate_callee (f := 91) rfl ?_); refine goesL_ (some 4) rfl rfl Tryz.func91 (by kernel_rfl) rfl #[.string a0, .string (⟨#[47, 62]⟩ : ByteArray)] rfl zm ?_; (with_reducible refine (names_plain.calls k a0 (⟨#[47, 62]⟩ : ByteArray) false _ A2.out).mono ?_); rintro e w' ⟨rfl, ⟨nd, rfl⟩⟩; refine ⟨_, rfl, ?_⟩))
  go_ret
  exact ⟨zt, zw⟩

def names_Attr.f (k : Nat) (a0 : ByteArray) : Option (Bool) := (names_plain.f k a0 (⟨#[47, 62, 34, 39, 60, 61]⟩ : ByteArray)).bind fun t122 => (some t122)
set_option maxHeartbeats 8000000 in
set_option maxRecDepth 100000 in
theorem names_Attr.calls (k : Nat) (a0 : ByteArray) (r : Bool) (w : World) (h : names_Attr.f k a0 = some r) :
  Calls Tryz.prog 56 #[.string a0] w fun e w' => e = .returned (.bool r) ∧ Drawn0 w w' := by
 have H : ((names_plain.f k a0 (⟨#[47, 62, 34, 39, 60, 61]⟩ : ByteArray)).bind fun t122 => (some t122)) = some r := h
 clear h
 replace H := Option.bind_eq_some_iff.mp H
 obtain ⟨t122, A20, H⟩ := H
 replace H : (some t122) = some r := H
 have A2 := am A20
 clear A20
 obtain rfl := Option.some.inj H
 go_enter Tryz.func56, Tryz.ntmps56
 go_wp2_with (first | ((with_reducible refine gate_callee (f := 91) rfl ?_); refine goesL_ (some 4) rfl rfl Tryz.func91 (by kernel_rfl) rfl #[.string a0, .string (⟨#[47, 62, 34, 39, 60, 61]⟩ : ByteArray)] rfl zm ?_; (with_reducible refine (names_plain.calls k a0 (⟨#[47, 62, 34, 39, 60, 61]⟩ : ByteArray) t122 _ A2.out).mono ?_); rintro e w' ⟨rfl, ⟨nd, rfl⟩⟩; refine ⟨_, rfl, ?_⟩))
 go_ret
 exact ⟨zt, zw⟩

end Go.Proofs.YticacakoefojbaaGreat.Pr
namespace Go.Proofs.YticacakoefojbaaGreat.Pure
open Go.RowKit Go.Lib Go.Shelf Go.Proofs.YticacakoefojbaaGreatW.PrintWords Go.Proofs.YticacakoefojbaaGreatW.PrintLast Go.Proofs.YticacakoefojbaaGreatW.PrintMore Go.Proofs.YticacakoefojbaaGreat.Pr

def spI (c : Int) : Bool := c == 32 || c == 9 || c == 10 || c == 12 || c == 13
def upI (c : Int) : Bool := decide (65 ≤ c) && decide (c ≤ 90)
def badI (attr : Bool) (c : Int) : Bool := spI c || upI c || c == 0 || c == 47 || c == 62 || attr && (c == 34 || c == 39 || c == 60 || c == 61)
theorem space_f (c : Int) : fold_Space.f c = some (spI c) := by
 unfold fold_Space.f spI
 repeat' split
 all_goals
  refine congrArg some ?_
  rw [Bool.eq_iff_iff]
  simp only [Bool.or_eq_true, Bool.false_eq_true, eq_self, true_iff, false_iff, beq_iff_eq]
  omega
def mayB (attr : Bool) (s : ByteArray) : Bool := (dat s).all (fun c => !badI attr (c.toNat : Int)) && (match dat s with | [] => false | c :: _ => attr || (decide (97 ≤ c.toNat) && decide (c.toNat ≤ 122)))
def headB (attr : Bool) (s : ByteArray) : Bool := match dat s with | [] => false | c :: _ => attr || (decide (97 ≤ c.toNat) && decide (c.toNat ≤ 122))
theorem plain_l1 (s but : ByteArray) (hb : but.size ≤ 1000) (i : Nat) (c : UInt8) (hc : (dat s)[i]? = some c) (x8 x9 : Int) : ∀ (d j : Nat), j + d = but.size → ∀ m k, k = m + d + 1 →
  names_plain.l1 k s but (i : Int) x8 x9 (but.size : Int) (j : Int) = if ((dat but).drop j).any (fun b => decide (c.toNat = b.toNat)) = true then some false else names_plain.l0 m s but x8 (wrap64 (x9 + 1))
 | 0, j, h, m, k, hk => by
  obtain rfl : k = m + 1 := hk
  simp only [names_plain.l1]
  rw [if_neg (by omega), List.drop_of_length_le (by rw [show (dat but).length = but.size from (Lib.size_eq but).symm]; omega)]
  rw [if_neg (by simp)]
 | d + 1, j, h, m, k, hk => by
  obtain ⟨k, rfl⟩ : ∃ q, k = q + 1 := ⟨k - 1, by omega⟩
  obtain ⟨b, hb0⟩ := at_some but (k := j) (by omega)
  have hi := at_lt hc
  simp only [names_plain.l1]
  rw [if_pos (by omega), if_pos (by omega), if_pos (by omega), if_pos (by omega), if_pos (by omega), bt_c hc, bt_c hb0, drop_at hb0, List.any_cons]
  by_cases e : c.toNat = b.toNat
  ·rw [if_pos (by omega), decide_eq_true e, Bool.true_or, if_pos rfl]
  ·rw [if_neg (by omega), decide_eq_false e, Bool.false_or, wrap_succ (by omega) (by omega)]
   exact plain_l1 s but hb i c hc x8 x9 d (j + 1) (by omega) m k (by omega)
def plainB (but : List UInt8) (c : UInt8) : Bool := !(spI (c.toNat : Int) || upI (c.toNat : Int) || ((c.toNat : Int) == 0) || but.any (fun b => decide (c.toNat = b.toNat)))
theorem plain_l0 (s but : ByteArray) (hb : but.size ≤ 1000) (hs : s.size ≤ 4000000000000000000) : ∀ (d i : Nat), i + d = s.size → ∀ k, d * (but.size + 3) < k →
  names_plain.l0 k s but (s.size : Int) (i : Int) = some (((dat s).drop i).all (plainB (dat but)) && (s.toList != ([] : List UInt8)))
 | 0, i, h, k, hk => by
  obtain ⟨k, rfl⟩ : ∃ m, k = m + 1 := ⟨k - 1, by omega⟩
  simp only [names_plain.l0]
  rw [if_neg (by omega), List.drop_of_length_le (by rw [show (dat s).length = s.size from (Lib.size_eq s).symm]; omega)]
  simp
 | d + 1, i, h, k, hk => by
  have he : (d + 1) * (but.size + 3) = d * (but.size + 3) + (but.size + 3) := by rw [Nat.succ_mul]
  obtain ⟨m, rfl⟩ : ∃ m, k = m + but.size + 3 := ⟨k - but.size - 3, by omega⟩
  obtain ⟨c, hc⟩ := at_some s (k := i) (by omega)
  have ih := plain_l0 s but hb hs d (i + 1) (by omega) m (by omega)
  have e1 : names_plain.l0 (m + but.size + 3) s but (s.size : Int) (i : Int) = names_plain.j1 (m + but.size + 2) s but (i : Int) (s.size : Int) (i : Int) (spI (c.toNat : Int) || upI (c.toNat : Int) || ((c.toNat : Int) == 0)) := by
   simp only [names_plain.l0]
   rw [if_pos (by omega), if_pos (by omega), if_pos (by omega), bt_c hc, space_f, Option.bind_some]
   cases spI (c.toNat : Int) with
   | true => rw [if_pos rfl]; rfl
   | false =>
    rw [if_neg (by decide), Bool.false_or]
    unfold upI
    by_cases h1 : (65 : Int) ≤ (c.toNat : Int)
    ·rw [if_pos (by omega), decide_eq_true h1, Bool.true_and]
     by_cases h2 : (c.toNat : Int) ≤ 90
     ·rw [if_pos h2, decide_eq_true h2, Bool.true_or]
     ·rw [if_neg h2, decide_eq_false h2, Bool.false_or]
    ·rw [if_neg (by omega), decide_eq_false h1, Bool.false_and, Bool.false_or]
  rw [e1, drop_at hc, List.all_cons]
  have e2 : plainB (dat but) c = !((spI (c.toNat : Int) || upI (c.toNat : Int) || ((c.toNat : Int) == 0)) || (dat but).any (fun b => decide (c.toNat = b.toNat))) := rfl
  rw [e2]
  cases (spI (c.toNat : Int) || upI (c.toNat : Int) || ((c.toNat : Int) == 0)) with
  | true => simp only [names_plain.j1]; rw [if_pos trivial]; simp
  | false =>
   simp only [names_plain.j1]
   rw [if_neg (by decide)]
   have := plain_l1 s but hb i c hc (s.size : Int) (i : Int) but.size 0 (by omega) m _ rfl
   rw [List.drop_zero, show ((0 : Nat) : Int) = 0 from rfl] at this
   rw [this, Bool.false_or]
   cases (dat but).any (fun b => decide (c.toNat = b.toNat)) with
   | true => rw [if_pos rfl]; simp
   | false =>
    rw [if_neg (by decide), wrap_succ (by omega) (by omega)]
    rw [Bool.not_false, Bool.true_and]
    exact ih
theorem plain_f (s but : ByteArray) (hb : but.size ≤ 1000) (hs : s.size ≤ 4000000000000000000) {k : Nat} (hk : s.size * (but.size + 3) < k) : names_plain.f k s but = some ((dat s).all (plainB (dat but)) && (s.toList != ([] : List UInt8))) :=
 plain_l0 s but hb hs s.size 0 (by omega) k hk
theorem plain_el (c : UInt8) : plainB [47, 62] c = !badI false (c.toNat : Int) := by
 unfold plainB badI
 simp only [List.any_cons, List.any_nil, Bool.or_false, Bool.false_and, Bool.true_and]
 have hn : ∀ b : UInt8, decide (c.toNat = b.toNat) = ((c.toNat : Int) == (b.toNat : Int)) := fun b => by rw [Bool.eq_iff_iff, decide_eq_true_eq, beq_iff_eq]; omega
 simp only [hn]
 congr 1
 simp only [Bool.or_assoc]
 rfl
theorem plain_at (c : UInt8) : plainB [47, 62, 34, 39, 60, 61] c = !badI true (c.toNat : Int) := by
 unfold plainB badI
 simp only [List.any_cons, List.any_nil, Bool.or_false, Bool.false_and, Bool.true_and]
 have hn : ∀ b : UInt8, decide (c.toNat = b.toNat) = ((c.toNat : Int) == (b.toNat : Int)) := fun b => by rw [Bool.eq_iff_iff, decide_eq_true_eq, beq_iff_eq]; omega
 simp only [hn]
 congr 1
 simp only [Bool.or_assoc]
 rfl
theorem mayB_eq (attr : Bool) (s : ByteArray) : mayB attr s = ((dat s).all (fun c => !badI attr (c.toNat : Int)) && headB attr s) := rfl
theorem nattr_f (s : ByteArray) (hs : s.size ≤ 4000000000000000000) {k : Nat} (hk : s.size * 9 < k) : names_Attr.f k s = some (mayB true s) := by
 unfold names_Attr.f
 rw [plain_f s ⟨#[47, 62, 34, 39, 60, 61]⟩ (by decide) hs hk, Option.bind_some, mayB_eq]
 refine congrArg some ?_
 rw [show plainB (dat ⟨#[47, 62, 34, 39, 60, 61]⟩) = fun c => !badI true (c.toNat : Int) from funext plain_at]
 congr 1
 unfold headB
 rw [Lib.toList_data]
 cases h : dat s with
 | nil => rw [show s.data.toList = [] from h]; rfl
 | cons c t => rw [show s.data.toList = c :: t from h]; rfl
theorem letter_f (c : Int) : fold_Letter.f c = some (decide (97 ≤ c) && decide (c ≤ 122) || upI c) := by
 unfold fold_Letter.f upI
 repeat' split
 all_goals
  refine congrArg some ?_
  rw [Bool.eq_iff_iff]
  simp only [Bool.or_eq_true, Bool.and_eq_true, decide_eq_true_eq, Bool.false_eq_true, eq_self, true_iff, false_iff]
  omega
theorem right_f (s : ByteArray) (hs : s.size ≤ 4000000000000000000) {k : Nat} (hk : s.size * 5 < k) : names_Right.f k s = some (mayB false s) := by
 unfold names_Right.f
 rw [plain_f s ⟨#[47, 62]⟩ (by decide) hs hk, Option.bind_some, mayB_eq]
 rw [show plainB (dat ⟨#[47, 62]⟩) = fun c => !badI false (c.toNat : Int) from funext plain_el, Lib.toList_data]
 unfold headB
 cases h : dat s with
 | nil => rw [show s.data.toList = [] from h]; rfl
 | cons c t =>
  rw [show s.data.toList = c :: t from h]
  have h0 : (dat s)[0]? = some c := by rw [h]; rfl
  have hl := at_lt (s := s) h0
  have hb := bt_c (s := s) h0
  rw [show ((0 : Nat) : Int) = 0 from rfl] at hb
  have e : ((c :: t) != ([] : List UInt8)) = true := rfl
  rw [e, Bool.and_true]
  show _ = some ((c :: t).all _ && (false || (decide (97 ≤ c.toNat) && decide (c.toNat ≤ 122))))
  cases ha : (c :: t).all (fun c => !badI false (c.toNat : Int)) with
  | false => rw [if_neg (by decide), Bool.false_and]
  | true =>
   rw [if_pos rfl, if_pos (by omega), hb, letter_f, Option.bind_some, Bool.true_and, Bool.false_or]
   have hu : upI (c.toNat : Int) = false := by
    rw [List.all_cons, Bool.and_eq_true] at ha
    have := ha.1
    unfold badI at this
    cases hq : upI (c.toNat : Int) with
    | false => rfl
    | true => rw [hq] at this; simp at this
   rw [hu, Bool.or_false]
   refine congrArg some ?_
   rw [Bool.eq_iff_iff]
   simp only [Bool.and_eq_true, decide_eq_true_eq]
   omega
end Go.Proofs.YticacakoefojbaaGreat.Pure
namespace Go.Proofs.YticacakoefojbaaGreat.Pr
open Go.RowKit Go.Proofs.YticacakoefojbaaGreatW.PrintWords Go.Proofs.YticacakoefojbaaGreatW.PrintLast Go.Proofs.YticacakoefojbaaGreatW.PrintMore
attribute [local go_sem] max2_int min2_int max_two min_two max_three min_three max_four min_four   -- for this text's walks alone

def boltingref12_may.l0 : Nat → List ByteArray → Bool → Int → Option (Bool)
 | 0, _, _, _ => none
 | k + 1, x0, x1, x5 => if x5 < (x0.length : Int) then (if 0 ≤ x5 then ((boltingref05_May.f k (rdOf ByteArray.empty x0 x5) x1).bind fun t140 => (if t140 = true then (boltingref12_may.l0 k x0 x1 (wrap64 (x5 + 1))) else (some false))) else (none)) else (some true)
def boltingref12_may.f (k : Nat) (l0 : List ByteArray) (a1 : Bool) : Option (Bool) := boltingref12_may.l0 k l0 a1 0
def boltingref12_of.l0 : Nat → List ByteArray → Int → Bool → Bool → List ByteArray → List ByteArray → List ByteArray → List (S60) → Bool → Bool → Option (List ByteArray)
 | 0, _, _, _, _, _, _, _, _, _, _ => none
 | k + 1, x3, x4, x142000, x142001, x142002, x142003, x142004, x142005, x142006, x142007 => if x4 < (x142005.length : Int) then (if 0 ≤ x4 then (if x3.length < 8796093022208 then (boltingref12_of.l0 k (x3 ++ [(rd_T60 x142005 x4).f0]) (wrap64 (x4 + 1)) x142000 x142001 x142002 x142003 x142004 x142005 x142006 x142007) else (none)) else (none)) else (some x3)
def boltingref12_of.f (k : Nat) (a0_0 : Bool) (a0_1 : Bool) (l0_2 : List ByteArray) (l0_3 : List ByteArray) (l0_4 : List ByteArray) (l0_5 : List (S60)) (a0_6 : Bool) (a0_7 : Bool) : Option (List ByteArray) := boltingref12_of.l0 k (([] : List ByteArray)) 0 a0_0 a0_1 l0_2 l0_3 l0_4 l0_5 a0_6 a0_7
def boltingref12_once.l0 : Nat → List ByteArray → Int → Option (Bool)
 | 0, _, _ => none
 | k + 1, x0, x3 => if x3 < (x0.length : Int) then (if 0 ≤ x3 then (if x3 ≤ (x0.length : Int) then ((boltingref02_Has.f k (x0.take (x3 : Int).toNat) (rdOf ByteArray.empty x0 x3)).bind fun t151 => (if t151 = true then (some false) else (boltingref12_once.l0 k x0 (wrap64 (x3 + 1))))) else (none)) else (none)) else (some true)
def boltingref12_once.f (k : Nat) (l0 : List ByteArray) : Option (Bool) := boltingref12_once.l0 k l0 0
def boltingref12_meet.l0 : Nat → List ByteArray → List ByteArray → Int → Option (Bool)
 | 0, _, _, _ => none
 | k + 1, x0, x1, x5 => if x5 < (x0.length : Int) then (if 0 ≤ x5 then ((boltingref02_Has.f k x1 (rdOf ByteArray.empty x0 x5)).bind fun t153 => (if t153 = true then (some true) else (boltingref12_meet.l0 k x0 x1 (wrap64 (x5 + 1))))) else (none)) else (some false)
def boltingref12_meet.f (k : Nat) (l0 : List ByteArray) (l1 : List ByteArray) : Option (Bool) := boltingref12_meet.l0 k l0 l1 0

mutual
def boltingref12_Check.j0 : Nat → Bool → Bool → Bool → List ByteArray → List ByteArray → List ByteArray → List (S60) → Bool → Bool → Option (Int)
 | 0, _, _, _, _, _, _, _, _, _ => none
 | k + 1, x3, x155000, x155001, x155002, x155003, x155004, x155005, x155006, x155007 => (boltingref12_may.f k x155002 false).bind fun t155 => (if t155 = true then ((boltingref12_may.f k x155003 false).bind fun t156 => (if t156 = true then ((boltingref12_of.f k x155000 x155001 x155002 x155003 x155004 x155005 x155006 x155007).bind fun t157 => ((boltingref12_may.f k t157 false).bind fun t160 => (if t160 = true then ((boltingref12_may.f k x155004 true).bind fun t161 => (boltingref12_Check.j1 k x3 t161 x155000 x155001 x155002 x155003 x155004 x155005 x155006 x155007)) else (boltingref12_Check.j1 k x3 false x155000 x155001 x155002 x155003 x155004 x155005 x155006 x155007)))) else (boltingref12_Check.j1 k x3 false x155000 x155001 x155002 x155003 x155004 x155005 x155006 x155007))) else (boltingref12_Check.j1 k x3 false x155000 x155001 x155002 x155003 x155004 x155005 x155006 x155007))
def boltingref12_Check.j1 : Nat → Bool → Bool → Bool → Bool → List ByteArray → List ByteArray → List ByteArray → List (S60) → Bool → Bool → Option (Int)
 | 0, _, _, _, _, _, _, _, _, _, _ => none
 | k + 1, x3, x4, x155000, x155001, x155002, x155003, x155004, x155005, x155006, x155007 => (boltingref12_once.f k x155002).bind fun t162 => (if t162 = true then ((boltingref12_once.f k x155003).bind fun t163 => (if t163 = true then ((boltingref12_of.f k x155000 x155001 x155002 x155003 x155004 x155005 x155006 x155007).bind fun t164 => ((boltingref12_once.f k t164).bind fun t167 => (if t167 = true then ((boltingref12_once.f k x155004).bind fun t168 => (boltingref12_Check.j2 k x3 x4 t168 x155000 x155001 x155002 x155003 x155004 x155005 x155006 x155007)) else (boltingref12_Check.j2 k x3 x4 false x155000 x155001 x155002 x155003 x155004 x155005 x155006 x155007)))) else (boltingref12_Check.j2 k x3 x4 false x155000 x155001 x155002 x155003 x155004 x155005 x155006 x155007))) else (boltingref12_Check.j2 k x3 x4 false x155000 x155001 x155002 x155003 x155004 x155005 x155006 x155007))
def boltingref12_Check.j2 : Nat → Bool → Bool → Bool → Bool → Bool → List ByteArray → List ByteArray → List ByteArray → List (S60) → Bool → Bool → Option (Int)
 | 0, _, _, _, _, _, _, _, _, _, _, _ => none
 | k + 1, x3, x4, x5, x155000, x155001, x155002, x155003, x155004, x155005, x155006, x155007 => (boltingref12_meet.f k x155002 x155003).bind fun t169 => (if t169 = true then (boltingref12_Check.j3 k x3 x4 x5 true x155000 x155001 x155002 x155003 x155004 x155005 x155006 x155007) else (if x155007 = true then (boltingref12_Check.j3 k x3 x4 x5 (!x155001) x155000 x155001 x155002 x155003 x155004 x155005 x155006 x155007) else (boltingref12_Check.j3 k x3 x4 x5 false x155000 x155001 x155002 x155003 x155004 x155005 x155006 x155007)))
def boltingref12_Check.j3 : Nat → Bool → Bool → Bool → Bool → Bool → Bool → List ByteArray → List ByteArray → List ByteArray → List (S60) → Bool → Bool → Option (Int)
 | 0, _, _, _, _, _, _, _, _, _, _, _, _ => none
 | k + 1, x3, x4, x5, x6, x155000, x155001, x155002, x155003, x155004, x155005, x155006, x155007 => boltingref12_Check.l0 k x3 x4 x5 x6 0 x155000 x155001 x155002 x155003 x155004 x155005 x155006 x155007
def boltingref12_Check.l0 : Nat → Bool → Bool → Bool → Bool → Int → Bool → Bool → List ByteArray → List ByteArray → List ByteArray → List (S60) → Bool → Bool → Option (Int)
 | 0, _, _, _, _, _, _, _, _, _, _, _, _, _ => none
 | k + 1, x3, x4, x5, x6, x7, x155000, x155001, x155002, x155003, x155004, x155005, x155006, x155007 => if x7 < (x155005.length : Int) then (if 0 ≤ x7 then (if x3 = true then (if x4 = true then ((boltingref12_may.f k ((rd_T60 x155005 x7).f1) true).bind fun t171 => (if x5 = true then ((boltingref12_once.f k ((rd_T60 x155005 x7).f1)).bind fun t172 => (if x6 = true then (boltingref12_Check.l0 k true t171 t172 true (wrap64 (x7 + 1)) x155000 x155001 x155002 x155003 x155004 x155005 x155006 x155007) else ((boltingref12_meet.f k ((rd_T60 x155005 x7).f1) x155004).bind fun t173 => (boltingref12_Check.l0 k true t171 t172 t173 (wrap64 (x7 + 1)) x155000 x155001 x155002 x155003 x155004 x155005 x155006 x155007)))) else (if x6 = true then (boltingref12_Check.l0 k true t171 false true (wrap64 (x7 + 1)) x155000 x155001 x155002 x155003 x155004 x155005 x155006 x155007) else ((boltingref12_meet.f k ((rd_T60 x155005 x7).f1) x155004).bind fun t174 => (boltingref12_Check.l0 k true t171 false t174 (wrap64 (x7 + 1)) x155000 x155001 x155002 x155003 x155004 x155005 x155006 x155007))))) else (if x5 = true then ((boltingref12_once.f k ((rd_T60 x155005 x7).f1)).bind fun t175 => (if x6 = true then (boltingref12_Check.l0 k true false t175 true (wrap64 (x7 + 1)) x155000 x155001 x155002 x155003 x155004 x155005 x155006 x155007) else ((boltingref12_meet.f k ((rd_T60 x155005 x7).f1) x155004).bind fun t176 => (boltingref12_Check.l0 k true false t175 t176 (wrap64 (x7 + 1)) x155000 x155001 x155002 x155003 x155004 x155005 x155006 x155007)))) else (if x6 = true then (boltingref12_Check.l0 k true false false true (wrap64 (x7 + 1)) x155000 x155001 x155002 x155003 x155004 x155005 x155006 x155007) else ((boltingref12_meet.f k ((rd_T60 x155005 x7).f1) x155004).bind fun t177 => (boltingref12_Check.l0 k true false false t177 (wrap64 (x7 + 1)) x155000 x155001 x155002 x155003 x155004 x155005 x155006 x155007))))) else (if x4 = true then ((boltingref12_may.f k ((rd_T60 x155005 x7).f1) true).bind fun t178 => (if x5 = true then ((boltingref12_once.f k ((rd_T60 x155005 x7).f1)).bind fun t179 => (if x6 = true then (boltingref12_Check.l0 k (decide ((((rd_T60 x155005 x7).f1).length : Int) > 64)) t178 t179 true (wrap64 (x7 + 1)) x155000 x155001 x155002 x155003 x155004 x155005 x155006 x155007) else ((boltingref12_meet.f k ((rd_T60 x155005 x7).f1) x155004).bind fun t180 => (boltingref12_Check.l0 k (decide ((((rd_T60 x155005 x7).f1).length : Int) > 64)) t178 t179 t180 (wrap64 (x7 + 1)) x155000 x155001 x155002 x155003 x155004 x155005 x155006 x155007)))) else (if x6 = true then (boltingref12_Check.l0 k (decide ((((rd_T60 x155005 x7).f1).length : Int) > 64)) t178 false true (wrap64 (x7 + 1)) x155000 x155001 x155002 x155003 x155004 x155005 x155006 x155007) else ((boltingref12_meet.f k ((rd_T60 x155005 x7).f1) x155004).bind fun t181 => (boltingref12_Check.l0 k (decide ((((rd_T60 x155005 x7).f1).length : Int) > 64)) t178 false t181 (wrap64 (x7 + 1)) x155000 x155001 x155002 x155003 x155004 x155005 x155006 x155007))))) else (if x5 = true then ((boltingref12_once.f k ((rd_T60 x155005 x7).f1)).bind fun t182 => (if x6 = true then (boltingref12_Check.l0 k (decide ((((rd_T60 x155005 x7).f1).length : Int) > 64)) false t182 true (wrap64 (x7 + 1)) x155000 x155001 x155002 x155003 x155004 x155005 x155006 x155007) else ((boltingref12_meet.f k ((rd_T60 x155005 x7).f1) x155004).bind fun t183 => (boltingref12_Check.l0 k (decide ((((rd_T60 x155005 x7).f1).length : Int) > 64)) false t182 t183 (wrap64 (x7 + 1)) x155000 x155001 x155002 x155003 x155004 x155005 x155006 x155007)))) else (if x6 = true then (boltingref12_Check.l0 k (decide ((((rd_T60 x155005 x7).f1).length : Int) > 64)) false false true (wrap64 (x7 + 1)) x155000 x155001 x155002 x155003 x155004 x155005 x155006 x155007) else ((boltingref12_meet.f k ((rd_T60 x155005 x7).f1) x155004).bind fun t184 => (boltingref12_Check.l0 k (decide ((((rd_T60 x155005 x7).f1).length : Int) > 64)) false false t184 (wrap64 (x7 + 1)) x155000 x155001 x155002 x155003 x155004 x155005 x155006 x155007)))))) else (none)) else (if x3 = true then (some 2) else (if x4 = true then (if x5 = true then (if x6 = true then (some 120) else (some 0)) else (some 122)) else (some 121)))
end
def boltingref12_Check.f (k : Nat) (a0_0 : Bool) (a0_1 : Bool) (l0_2 : List ByteArray) (l0_3 : List ByteArray) (l0_4 : List ByteArray) (l0_5 : List (S60)) (a0_6 : Bool) (a0_7 : Bool) : Option (Int) := if (l0_2.length : Int) > 64 then (boltingref12_Check.j0 k true a0_0 a0_1 l0_2 l0_3 l0_4 l0_5 a0_6 a0_7) else (if (l0_3.length : Int) > 64 then (boltingref12_Check.j0 k true a0_0 a0_1 l0_2 l0_3 l0_4 l0_5 a0_6 a0_7) else (if (l0_4.length : Int) > 64 then (boltingref12_Check.j0 k true a0_0 a0_1 l0_2 l0_3 l0_4 l0_5 a0_6 a0_7) else (boltingref12_Check.j0 k (decide ((l0_5.length : Int) > 64)) a0_0 a0_1 l0_2 l0_3 l0_4 l0_5 a0_6 a0_7)))
end Go.Proofs.YticacakoefojbaaGreat.Pr
namespace Go.Proofs.YticacakoefojbaaGreat.Pure
open Go.RowKit Go.Lib Go.Shelf Go.Proofs.YticacakoefojbaaGreatW.PrintWords Go.Proofs.YticacakoefojbaaGreatW.PrintLast Go.Proofs.YticacakoefojbaaGreatW.PrintMore Go.Proofs.YticacakoefojbaaGreat.Pr

def dupB : List ByteArray → Bool
 | [] => false
 | x :: l => mem l x || dupB l
def meetB (a b : List ByteArray) : Bool := a.any (mem b)
def finI (big named single both : Bool) : Int := if big = true then 2 else if named = true then (if single = true then (if both = true then 120 else 0) else 122) else 121
def longB (l : List ByteArray) : Bool := decide (64 < l.length)
def allMay (attr : Bool) (l : List ByteArray) : Bool := l.all (mayB attr)
structure Small (c : Cf) (z : Nat) : Prop where
 els : ∀ s ∈ c.els, s.size < z
 rep : ∀ s ∈ c.rep, s.size < z
 ats : ∀ s ∈ c.ats, s.size < z
 per : ∀ p ∈ c.per, p.f0.size < z ∧ ∀ s ∈ p.f1, s.size < z
 le : z ≤ 4000000000000000000
theorem long_i (l : List ByteArray) : decide (((l.length : Nat) : Int) > 64) = longB l := decide_eq_decide.2 (by omega)
def namesOf (c : Cf) : List ByteArray := c.per.map (·.f0)
def checkI (c : Cf) : Int := finI ((longB c.els || longB c.rep || longB c.ats || decide (64 < c.per.length)) || c.per.any (fun p => longB p.f1))
 ((allMay false c.els && allMay false c.rep && allMay false (namesOf c) && allMay true c.ats) && c.per.all (fun p => allMay true p.f1))
 ((!dupB c.els && !dupB c.rep && !dupB (namesOf c) && !dupB c.ats) && c.per.all (fun p => !dupB p.f1))
 ((meetB c.els c.rep || (c.dt && !c.aal)) || c.per.any (fun p => meetB p.f1 c.ats))
end Go.Proofs.YticacakoefojbaaGreat.Pure
namespace Go.Proofs.YticacakoefojbaaGreat.Pure
open Go.RowKit Go.Lib Go.Shelf Go.Proofs.YticacakoefojbaaGreatW.PrintWords Go.Proofs.YticacakoefojbaaGreat.Pr

theorem len_le {α : Type} [DecidableEq α] : ∀ (a b : List α), a.Nodup → (∀ x ∈ a, x ∈ b) → a.length ≤ b.length
 | [], b, _, _ => Nat.zero_le _
 | x :: a, b, hd, hm => by
  rw [List.nodup_cons] at hd
  have hx := hm x List.mem_cons_self
  have := len_le a (b.erase x) hd.2 (fun y hy => (List.mem_erase_of_ne (show y ≠ x from fun e => hd.1 (by rw [← e]; exact hy))).2 (hm y (List.mem_cons_of_mem _ hy)))
  have hl := List.length_erase_of_mem hx
  have hp := List.length_pos_of_mem hx
  simp only [List.length_cons]
  omega
theorem up_nodup {l : List (List UInt8)} (h : Up l) : l.Nodup := by
 have h' : l.Pairwise (· < ·) := h
 exact h'.imp (S := fun a b => a ≠ b) (fun {a b} g e => by subst e; exact lt_irr _ g)
theorem dup_nodup : ∀ l : List ByteArray, dupB l = false ↔ (l.map dat).Nodup
 | [] => by simp [dupB]
 | x :: l => by
  show (mem l x || dupB l) = false ↔ _
  rw [Bool.or_eq_false_iff, dup_nodup l, List.map_cons, List.nodup_cons]
  refine and_congr_left fun _ => ?_
  rw [Bool.eq_false_iff, Ne, mem_iff, List.mem_map]
  constructor
  ·rintro h ⟨y, hy, e⟩; exact h (dat_inj e ▸ hy)
  ·intro h hx; exact h ⟨x, hx, rfl⟩
theorem sorted_len_le (l : List (List UInt8)) : (sorted l).length ≤ l.length := len_le _ _ (up_nodup (sorted_up l)) (fun x hx => (sorted_mem l x).1 hx)
theorem dup_short : ∀ (l : List (List UInt8)), ¬ l.Nodup → ∃ m : List (List UInt8), m.length < l.length ∧ ∀ x ∈ l, x ∈ m
 | [], h => absurd List.nodup_nil h
 | x :: l, h => by
  by_cases hx : x ∈ l
  ·exact ⟨l, by simp, fun y hy => by rcases List.mem_cons.1 hy with rfl | hy; exact hx; exact hy⟩
  ·obtain ⟨m, hm, hs⟩ := dup_short l (fun g => h (List.nodup_cons.2 ⟨hx, g⟩))
   exact ⟨x :: m, by simp; omega, fun y hy => by
    rcases List.mem_cons.1 hy with rfl | hy
    ·exact List.mem_cons_self
    ·exact List.mem_cons_of_mem _ (hs y hy)⟩
theorem sorted_len (l : List ByteArray) : decide ((sorted (l.map dat)).length ≠ l.length) = dupB l := by
 cases h : dupB l with
 | false =>
  have hn := (dup_nodup l).1 h
  have h1 := sorted_len_le (l.map dat)
  have h2 := len_le (l.map dat) (sorted (l.map dat)) hn (fun x hx => (sorted_mem _ x).2 hx)
  rw [List.length_map] at h1 h2
  exact decide_eq_false (fun g => g (by omega))
 | true =>
  have hn : ¬ (l.map dat).Nodup := fun g => by rw [(dup_nodup l).2 g] at h; cases h
  obtain ⟨m, hm, hs⟩ := dup_short _ hn
  have := len_le (sorted (l.map dat)) m (up_nodup (sorted_up _)) (fun x hx => hs x ((sorted_mem _ x).1 hx))
  rw [List.length_map] at hm
  exact decide_eq_true (by omega)
end Go.Proofs.YticacakoefojbaaGreat.Pure
namespace Go.Proofs.YticacakoefojbaaGreat.Pure
open Go.RowKit Go.Lib Go.Shelf Go.Proofs.YticacakoefojbaaGreatW.PrintWords Go.Proofs.YticacakoefojbaaGreatW.PrintLast Go.Proofs.YticacakoefojbaaGreatW.PrintMore Go.Proofs.YticacakoefojbaaGreat.Pr

def rowsE (c : Cf) : List (List ByteArray) := [c.els, c.rep, namesOf c]
def rowsA (c : Cf) : List (List ByteArray) := c.ats :: c.per.map (·.f1)
theorem lists_l0 {c : Cf} (hf : Fit c) : ∀ (d i : Nat) (a : List ByteArray) (b : List (List ByteArray)), i + d = c.per.length → a.length ≤ i → b.length ≤ i + 1 → ∀ k, d < k →
  config_lists.l0 k a b c.per (c.per.length : Int) (i : Int) c.al c.aal c.els c.rep c.ats c.per c.com c.dt = some ([c.els, c.rep, a ++ (c.per.drop i).map (·.f0)], b ++ (c.per.drop i).map (·.f1))
 | 0, i, a, b, h, ha, hb, k, hk => by
  obtain ⟨k, rfl⟩ : ∃ m, k = m + 1 := ⟨k - 1, by omega⟩
  simp only [config_lists.l0]
  rw [if_neg (by omega), List.drop_of_length_le (by omega)]
  simp
 | d + 1, i, a, b, h, ha, hb, k, hk => by
  obtain ⟨k, rfl⟩ : ∃ m, k = m + 1 := ⟨k - 1, by omega⟩
  have hp := hf.per
  obtain ⟨p, hp0⟩ : ∃ p, c.per[i]? = some p := ⟨_, List.getElem?_eq_getElem (by omega)⟩
  simp only [config_lists.l0]
  rw [if_pos (by omega), if_pos (by omega), if_pos (by omega), if_pos (by omega), if_pos (by omega), wrap_succ (by omega) (by omega), rd35_at hp0, drop_at hp0]
  have := lists_l0 hf d (i + 1) (a ++ [p.f0]) (b ++ [p.f1]) (by omega) (by rw [List.length_append]; simp; omega) (by rw [List.length_append]; simp; omega) k (by omega)
  rw [show ((i + 1 : Nat) : Int) = (i : Int) + 1 from rfl] at this
  rw [this, List.append_assoc, List.append_assoc]
  rfl
theorem lists_f {c : Cf} (hf : Fit c) : config_lists.f 2000 c.al c.aal c.els c.rep c.ats c.per c.com c.dt = some (rowsE c, rowsA c) := by
 have := lists_l0 hf c.per.length 0 [] [c.ats] (by omega) (by simp) (by simp) 2000 (by have := hf.per; omega)
 exact this
theorem lists_calls {v : Value} {c : Cf} (hf : Fit c) {w : World} (h : CfV w v c) :
  Calls Tryz.prog 51 #[v] w fun e w' => ∃ v0 v1, e = .returned (.tuple #[v0, v1]) ∧ Sl (Kd.slice 9 Kd.string) w' v0 (rowsE c) ∧ Sl (Kd.slice 9 Kd.string) w' v1 (rowsA c) ∧ Below w.heap.size w w' := by
 obtain ⟨_, _, _, _, rfl, ⟨A2, c2, rfl, l2, h2⟩, ⟨A3, c3, rfl, l3, h3⟩, ⟨A4, c4, rfl, l4, h4⟩, ⟨A5, c5, rfl, l5, h5⟩⟩ := h
 refine (config_lists.calls 2000 c.al c.aal (fun k => k < w.heap.size) A2 c2 c.els (fun k => k < w.heap.size) A3 c3 c.rep (fun k => k < w.heap.size) A4 c4 c.ats (fun k => k < w.heap.size) A5 c5 c.per c.com c.dt (rowsE c) (rowsA c) w
  (Kd.V_mk l2 (Kd.C_F Kd.heap_string h2)) (Kd.V_mk l3 (Kd.C_F Kd.heap_string h3)) (Kd.V_mk l4 (Kd.C_F Kd.heap_string h4)) (Kd.V_mk l5 (Kd.C_F (Kd.heap_iso _ (Kd.heap_pair Kd.heap_string (Kd.heap_slice _ Kd.heap_string))) h5)) (lists_f hf)).mono ?_
 rintro e w' ⟨v0, v1, rfl, h0, h1, hb⟩
 exact ⟨v0, v1, rfl, Kd.N_reads h0, Kd.N_reads h1, hb⟩
theorem twice_f (l : List ByteArray) (hl : l.length ≤ 1000) : config_twice.f l = some (dupB l) := by
 unfold config_twice.f
 rw [sorted_f l (by omega), Option.bind_some, ← sorted_len l]
 refine congrArg some ?_
 rw [SS_len]
 rw [Bool.eq_iff_iff, bne_iff_ne, decide_eq_true_eq]
 omega

set_option maxHeartbeats 2000000 in
theorem meet1_calls (b : List ByteArray) (hb : b.length ≤ 1000) (x : ByteArray) {W : World} {g : Nat} {vb : Value} (h1 : W.cell? ⟨g, 0, none⟩ = some vb) (hS : Sl Kd.string W vb b) :
  Calls Tryz.prog 93 (#[.string x] ++ #[.pointer (some ⟨g, 0, none⟩)]) W fun r w' => r = .returned (.bool (mem b x)) ∧ Below W.heap.size W w' := by
 show Calls Tryz.prog _ #[.string x, .pointer (some ⟨g, 0, none⟩)] W _
 have HC := hid (contains_calls hb x hS)
 clear hS
 go_enter Tryz.func93, Tryz.ntmps93
 go_wp2_with (go_at_call 49; refine HC.out.mono ?_; rintro r w' ⟨rfl, hb'⟩)
 go_ret
 exact ⟨rfl, hb'⟩
set_option maxHeartbeats 2000000 in
theorem meet_calls (a b : List ByteArray) (hb : b.length ≤ 1000) {w : World} {va vb : Value} (hA : Sl Kd.string w va a) (hS : Sl Kd.string w vb b) :
  Calls Tryz.prog 58 #[va, vb] w fun r w' => r = .returned (.bool (meetB a b)) ∧ Below w.heap.size w w' := by
 obtain ⟨A, c, rfl, hl, hC⟩ := hA
 obtain ⟨B, cb, rfl, hlb, hCb⟩ := hS
 have key : Hid (∀ o W, (∀ v, v = .slice B b.length cb → o = .cells #[v] 29 (0, 0) → W = w.alloc o → Calls Tryz.prog 89 #[.slice A a.length c, .func (.func 93) #[] #[.pointer (some ⟨w.heap.size, 0, none⟩)]] W fun r w' => r = .returned (.bool (meetB a b)) ∧ Below W.heap.size W w')) := fun o W v hv ho hW => by
  subst hv ho hW
  refine hasStr_calls (c := c) (mem b) 93 _ (fun args w => enters_ Tryz.func93 (by kernel_rfl) rfl args w) _ (Kd.C_below hC (bl_alloc _ _)) ?_
  rintro W x cs hx hBW rfl
  refine (meet1_calls b hb x (at_old (at_new w _ 29 0 rfl) hBW) (Sl.below (Sl.below ⟨B, cb, rfl, hlb, hCb⟩ (bl_alloc _ _)) hBW)).mono ?_
  rintro r w' ⟨rfl, hb'⟩
  exact ⟨rfl, below_step hBW hb'⟩
 have HB := hid (bl_alloc w)
 clear hl hC hlb hCb hb
 obtain ⟨m, hm⟩ : ∃ m, meetB a b = m := ⟨_, rfl⟩
 rw [hm] at key ⊢
 clear hm
 go_enter Tryz.func58, Tryz.ntmps58
 go_wp2_with (go_at_call 89; refine (key.out _ _ _ rfl rfl rfl).mono ?_; rintro r w' ⟨rfl, hb'⟩)
 go_ret
 exact ⟨rfl, below_step (HB.out _) hb'⟩

set_option maxHeartbeats 2000000 in
theorem odd11_calls (f : Nat) (ef : ∀ args w, (callFunc f args).run Tryz.prog w = .ok (.enter f args) w) (m : Bool) (x : ByteArray) {W : World} {g : Nat} (h1 : W.cell? ⟨g, 0, none⟩ = some (.func (.func f) #[] #[])) (hf : Calls Tryz.prog f #[.string x] W fun r w' => r = .returned (.bool m) ∧ Below W.heap.size W w') :
  Calls Tryz.prog 90 (#[.string x] ++ #[.pointer (some ⟨g, 0, none⟩)]) W fun r w' => r = .returned (.bool (!m)) ∧ Below W.heap.size W w' := by
 show Calls Tryz.prog _ #[.string x, .pointer (some ⟨g, 0, none⟩)] W _
 go_enter Tryz.func90, Tryz.ntmps90
 go_wp2_with (go_at_fn f; refine hf.mono ?_; rintro r w' ⟨rfl, hb'⟩)
 go_ret
 exact ⟨rfl, hb'⟩
set_option maxHeartbeats 2000000 in
theorem odd1_calls (f : Nat) (ef : ∀ args w, (callFunc f args).run Tryz.prog w = .ok (.enter f args) w) (p : ByteArray → Bool) (l : List ByteArray) {w : World} {A : Option Addr} {c : Nat} (hC : Kd.string.C w A l.length l) {g : Nat} (h1 : w.cell? ⟨g, 0, none⟩ = some (.func (.func f) #[] #[]))
  (hf : ∀ x, x ∈ l → ∀ W, Calls Tryz.prog f #[.string x] W fun r w' => r = .returned (.bool (p x)) ∧ Below W.heap.size W w') :
  Calls Tryz.prog 88 (#[.slice A l.length c] ++ #[.pointer (some ⟨g, 0, none⟩)]) w fun r w' => r = .returned (.bool (l.any fun x => !p x)) ∧ Below w.heap.size w w' := by
 show Calls Tryz.prog _ #[.slice A l.length c, .pointer (some ⟨g, 0, none⟩)] w _
 have key := hid (hasStr_calls (c := c) (fun x => !p x) 90 #[.pointer (some ⟨g, 0, none⟩)] (fun args w => enters_ Tryz.func90 (by kernel_rfl) rfl args w) w hC (by
  rintro W x cs hx hBW rfl
  refine (odd11_calls f ef (p x) x (at_old h1 hBW) (hf x hx W)).mono ?_
  rintro r w' ⟨rfl, hb'⟩
  exact ⟨rfl, below_step hBW hb'⟩))
 obtain ⟨m, hm⟩ : ∃ m, (l.any fun x => !p x) = m := ⟨_, rfl⟩
 rw [hm] at key ⊢
 clear hm hC hf
 go_enter Tryz.func88, Tryz.ntmps88
 go_wp2_with (go_at_call 89; refine key.out.mono ?_; rintro r w' ⟨rfl, hb'⟩)
 go_ret
 exact ⟨rfl, hb'⟩
set_option maxHeartbeats 2000000 in
theorem odd_calls (f : Nat) (w : World) : Calls Tryz.prog 54 #[.func (.func f) #[] #[]] w fun r w' => ∃ g, r = .returned (.func (.func 88) #[] #[.pointer (some ⟨g, 0, none⟩)]) ∧ w'.cell? ⟨g, 0, none⟩ = some (.func (.func f) #[] #[]) ∧ Below w.heap.size w w' := by
 have HN := hid (fun t => at_new w #[.func (.func f) #[] #[]] t 0 (v := .func (.func f) #[] #[]) rfl)
 have HB := hid (bl_alloc w)
 go_enter Tryz.func54, Tryz.ntmps54
 go_wp2
 go_ret
 exact ⟨w.heap.size, rfl, HN.out _, HB.out _⟩
set_option maxHeartbeats 2000000 in
theorem check1_calls (a b : List ByteArray) (hb : b.length ≤ 1000) {w : World} {va vb : Value} (hA : Sl Kd.string w va a) (hS : Sl Kd.string w vb b) {g : Nat} (h1 : w.cell? ⟨g, 4, none⟩ = some vb) :
  Calls Tryz.prog 59 (#[va] ++ #[.pointer (some ⟨g, 0, none⟩)]) w fun r w' => r = .returned (.bool (meetB a b)) ∧ Below w.heap.size w w' := by
 show Calls Tryz.prog _ #[va, .pointer (some ⟨g, 0, none⟩)] w _
 have key := hid (meet_calls a b hb hA hS)
 clear hA hS
 go_enter Tryz.func59, Tryz.ntmps59
 go_wp2_with (go_at_call 58; refine key.out.mono ?_; rintro r w' ⟨rfl, hb'⟩)
 go_ret
 exact ⟨rfl, hb'⟩

def bigB (c : Cf) : Bool := (rowsE c).any longB || (rowsA c).any longB
def oddE (c : Cf) : Bool := (rowsE c).any fun l => l.any fun x => !mayB false x
def oddA (c : Cf) : Bool := (rowsA c).any fun l => l.any fun x => !mayB true x
theorem any_not_all {α : Type} (p : α → Bool) (l : List α) : (l.any fun x => !p x) = !l.all p := by
 induction l with
 | nil => rfl
 | cons x l ih => rw [List.any_cons, List.all_cons, ih, Bool.not_and]
theorem checkI_eq {c : Cf} : checkI c = finI ((rowsE c).any longB || (rowsA c).any longB) (!(oddE c || oddA c)) (!((rowsE c).any dupB || (rowsA c).any dupB)) ((meetB c.els c.rep || (c.per.map (·.f1)).any (fun l => meetB l c.ats)) || (c.dt && !c.aal)) := by
 have e1 : longB (namesOf c) = decide (64 < c.per.length) := by unfold longB namesOf; rw [List.length_map]
 unfold checkI oddE oddA rowsE rowsA
 congr 1
 ·simp only [List.any_cons, List.any_nil, Bool.or_false, e1, List.any_map]
  cases longB c.els <;> cases longB c.rep <;> cases longB c.ats <;> cases decide (64 < c.per.length) <;> rfl
 ·have e2 : ((c.per.map (·.f1)).all fun l => l.all (mayB true)) = c.per.all (fun p => allMay true p.f1) := by rw [List.all_map]; rfl
  simp only [any_not_all, List.all_cons, List.all_nil, Bool.and_true]
  rw [e2]
  unfold allMay
  cases c.els.all (mayB false) <;> cases c.rep.all (mayB false) <;> cases (namesOf c).all (mayB false) <;> cases c.ats.all (mayB true) <;> cases c.per.all (fun p => p.f1.all (mayB true)) <;> rfl
 ·simp only [List.any_cons, List.any_nil, Bool.or_false, List.any_map]
  have e2 : c.per.all (fun p => !dupB p.f1) = !c.per.any (dupB ∘ (·.f1)) := by
   have := any_not_all (fun p : S60 => !dupB p.f1) c.per
   simp only [Bool.not_not] at this
   rw [show c.per.any (dupB ∘ (·.f1)) = c.per.any (fun p => dupB p.f1) from rfl, this, Bool.not_not]
  rw [e2]
  cases dupB c.els <;> cases dupB c.rep <;> cases dupB (namesOf c) <;> cases dupB c.ats <;> cases c.per.any (dupB ∘ (·.f1)) <;> rfl
 ·simp only [List.any_map]
  rw [show c.per.any ((fun l => meetB l c.ats) ∘ (·.f1)) = c.per.any (fun p => meetB p.f1 c.ats) from rfl]
  cases meetB c.els c.rep <;> cases c.per.any (fun p => meetB p.f1 c.ats) <;> cases c.dt <;> cases c.aal <;> rfl
theorem rows_calls {w : World} {v : Value} {l : List (List ByteArray)} (h : Sl (Kd.slice 9 Kd.string) w v l) (p : List ByteArray → Bool) (g : Nat) (lb : Array Value) (eg : ∀ args w, (callFunc g args).run Tryz.prog w = .ok (.enter g args) w)
  (hp : ∀ W v x, x ∈ l → Below w.heap.size w W → Sl Kd.string w v x → Calls Tryz.prog g (#[v] ++ lb) W fun e w' => e = .returned (.bool (p x)) ∧ Below W.heap.size W w') :
  Calls Tryz.prog 52 #[v, .func (.func g) #[] lb] w fun e w' => e = .returned (.bool (l.any p)) ∧ Below w.heap.size w w' := by
 obtain ⟨A, c, rfl, hl, hC⟩ := h
 refine hasRow_calls (c := c) p g lb eg w hC ?_
 rintro W x cs hx hb ⟨A', c', rfl, hl', hC'⟩
 refine (hp W _ x hx hb ⟨A', c', rfl, hl', hC'⟩).mono ?_
 rintro e w' ⟨rfl, hb'⟩
 exact ⟨rfl, below_step hb hb'⟩
theorem right_calls (x : ByteArray) (hx : x.size ≤ 4000000000000000000) (W : World) : Calls Tryz.prog 55 #[.string x] W fun r w' => r = .returned (.bool (mayB false x)) ∧ Below W.heap.size W w' := by
 refine (names_Right.calls (x.size * 5 + 1) x _ W (right_f x hx (by omega))).mono ?_
 rintro e w' ⟨rfl, hd⟩
 exact ⟨rfl, drawn_below hd⟩
theorem nattr_calls (x : ByteArray) (hx : x.size ≤ 4000000000000000000) (W : World) : Calls Tryz.prog 56 #[.string x] W fun r w' => r = .returned (.bool (mayB true x)) ∧ Below W.heap.size W w' := by
 refine (names_Attr.calls (x.size * 9 + 1) x _ W (nattr_f x hx (by omega))).mono ?_
 rintro e w' ⟨rfl, hd⟩
 exact ⟨rfl, drawn_below hd⟩
def Text (c : Cf) : Prop := (∀ l ∈ rowsE c, ∀ x ∈ l, x.size ≤ 4000000000000000000) ∧ ∀ l ∈ rowsA c, ∀ x ∈ l, x.size ≤ 4000000000000000000
theorem fit_rows {c : Cf} (hf : Fit c) : (∀ l ∈ rowsE c, l.length ≤ 1000) ∧ ∀ l ∈ rowsA c, l.length ≤ 1000 := by
 constructor
 ·intro l hl
  simp only [rowsE, List.mem_cons, List.not_mem_nil, or_false] at hl
  rcases hl with rfl | rfl | rfl
  ·exact hf.els
  ·exact hf.rep
  ·unfold namesOf; rw [List.length_map]; exact hf.per
 ·intro l hl
  simp only [rowsA, List.mem_cons, List.mem_map] at hl
  rcases hl with rfl | ⟨p, hp, rfl⟩
  ·exact hf.ats
  ·exact hf.sub p hp
theorem tail_cut {w : World} {A : Option Addr} {c n : Nat} {x : List ByteArray} {l : List (List ByteArray)} (hn : (x :: l).length = n) (hc : n ≤ c) (hC : (Kd.slice 9 Kd.string).C w A (x :: l).length (x :: l)) :
  ∃ v, (∀ W : World, (Instr.slice 68 (.slice A n c) (some (.int .i64 1)) none none).run Tryz.prog W = .ok v W) ∧ Sl (Kd.slice 9 Kd.string) w v l := by
 subst hn
 obtain ⟨i, hi, hzz⟩ := Option.map_eq_some_iff.1 (show (Tryz.prog.info? 29).map (fun i => (i.zero, i.size, i.bytes)) = some (some (.slice none 0 0), 1, 24) by kernel_rfl)
 simp only [Prod.mk.injEq] at hzz
 refine ⟨_, cut_from (P := Tryz.prog) 68 29 .i64 Tryz.underlying68 hi 1 hzz.2.1 A (x :: l).length c 1 (by omega) (by simp; omega), ?_⟩
 have := Kd.C_drop (m := 1) (c := c) hC (by simp) hc
 have hlc : l.length ≤ c - 1 := by
  simp only [List.length_cons] at hc
  omega
 exact ⟨_, c - 1, rfl, hlc, this⟩
structure CK (g : Nat) (w1 : World) (v0 v1 v2 v3 vt : Value) (e1 e2 o1 o2 t1 t2 m1 m2 : Bool) : Prop where
 k1 : ∀ W, Below w1.heap.size w1 W → Calls Tryz.prog 52 #[v0, .func (.func 53) #[] #[]] W fun e w' => e = .returned (.bool e1) ∧ Below W.heap.size W w'
 k2 : ∀ W, Below w1.heap.size w1 W → Calls Tryz.prog 52 #[v1, .func (.func 53) #[] #[]] W fun e w' => e = .returned (.bool e2) ∧ Below W.heap.size W w'
 k3 : ∀ W q, Below w1.heap.size w1 W → W.cell? ⟨q, 0, none⟩ = some (.func (.func 55) #[] #[]) → Calls Tryz.prog 52 #[v0, .func (.func 88) #[] #[.pointer (some ⟨q, 0, none⟩)]] W fun e w' => e = .returned (.bool o1) ∧ Below W.heap.size W w'
 k4 : ∀ W q, Below w1.heap.size w1 W → W.cell? ⟨q, 0, none⟩ = some (.func (.func 56) #[] #[]) → Calls Tryz.prog 52 #[v1, .func (.func 88) #[] #[.pointer (some ⟨q, 0, none⟩)]] W fun e w' => e = .returned (.bool o2) ∧ Below W.heap.size W w'
 k5 : ∀ W, Below w1.heap.size w1 W → Calls Tryz.prog 52 #[v0, .func (.func 57) #[] #[]] W fun e w' => e = .returned (.bool t1) ∧ Below W.heap.size W w'
 k6 : ∀ W, Below w1.heap.size w1 W → Calls Tryz.prog 52 #[v1, .func (.func 57) #[] #[]] W fun e w' => e = .returned (.bool t2) ∧ Below W.heap.size W w'
 k7 : ∀ W, Below w1.heap.size w1 W → Calls Tryz.prog 58 #[v2, v3] W fun e w' => e = .returned (.bool m1) ∧ Below W.heap.size W w'
 k8 : ∀ W, Below w1.heap.size w1 W → Calls Tryz.prog 52 #[vt, .func (.func 59) #[] #[.pointer (some ⟨g, 0, none⟩)]] W fun e w' => e = .returned (.bool m2) ∧ Below W.heap.size W w'
theorem ck_mk {c : Cf} (hf : Fit c) (ht : Text c) {g : Nat} {w1 : World} {v0 v1 v2 v3 v4 vt : Value} (h0 : Sl (Kd.slice 9 Kd.string) w1 v0 (rowsE c)) (h1 : Sl (Kd.slice 9 Kd.string) w1 v1 (rowsA c)) (h2 : Sl Kd.string w1 v2 c.els) (h3 : Sl Kd.string w1 v3 c.rep) (h4 : Sl Kd.string w1 v4 c.ats)
  (ht1 : Sl (Kd.slice 9 Kd.string) w1 vt (c.per.map (·.f1))) (hg : w1.cell? ⟨g, 4, none⟩ = some v4) :
  CK g w1 v0 v1 v2 v3 vt ((rowsE c).any longB) ((rowsA c).any longB) (oddE c) (oddA c) ((rowsE c).any dupB) ((rowsA c).any dupB) (meetB c.els c.rep) ((c.per.map (·.f1)).any fun l => meetB l c.ats) where
 k1 W hb := rows_calls (h0.below hb) longB _ #[] (fun args w => enters_ Tryz.func53 (by kernel_rfl) rfl args w) (fun W' v x hx hb' hS => by
  obtain ⟨A, k, rfl, hl, hC⟩ := hS
  refine (config_long.calls A k x (longB x) W' (Kd.C_below hC hb') hl ?_).mono ?_
  ·show some (decide (((x.length : Nat) : Int) > 64)) = _
   rw [long_i]
  ·rintro e w' ⟨rfl, hd⟩
   exact ⟨rfl, drawn_below hd⟩)
 k2 W hb := rows_calls (h1.below hb) longB _ #[] (fun args w => enters_ Tryz.func53 (by kernel_rfl) rfl args w) (fun W' v x hx hb' hS => by
  obtain ⟨A, k, rfl, hl, hC⟩ := hS
  refine (config_long.calls A k x (longB x) W' (Kd.C_below hC hb') hl ?_).mono ?_
  ·show some (decide (((x.length : Nat) : Int) > 64)) = _
   rw [long_i]
  ·rintro e w' ⟨rfl, hd⟩
   exact ⟨rfl, drawn_below hd⟩)
 k3 W q hb hq := rows_calls (h0.below hb) (fun l => l.any fun x => !mayB false x) _ _ (fun args w => enters_ Tryz.func88 (by kernel_rfl) rfl args w) (fun W' v x hx hb' hS => by
  obtain ⟨A, k, rfl, hl, hC⟩ := hS
  exact odd1_calls _ (fun args w => enters_ Tryz.func55 (by kernel_rfl) rfl args w) (mayB false) x (Kd.C_below hC hb') (at_old hq hb') (fun y hy W2 => right_calls y (ht.1 x hx y hy) W2))
 k4 W q hb hq := rows_calls (h1.below hb) (fun l => l.any fun x => !mayB true x) _ _ (fun args w => enters_ Tryz.func88 (by kernel_rfl) rfl args w) (fun W' v x hx hb' hS => by
  obtain ⟨A, k, rfl, hl, hC⟩ := hS
  exact odd1_calls _ (fun args w => enters_ Tryz.func56 (by kernel_rfl) rfl args w) (mayB true) x (Kd.C_below hC hb') (at_old hq hb') (fun y hy W2 => nattr_calls y (ht.2 x hx y hy) W2))
 k5 W hb := rows_calls (h0.below hb) dupB _ #[] (fun args w => enters_ Tryz.func57 (by kernel_rfl) rfl args w) (fun W' v x hx hb' hS => by
  obtain ⟨A, k, rfl, hl, hC⟩ := hS
  exact config_twice.calls A k x (dupB x) W' (Kd.C_below hC hb') hl (twice_f x ((fit_rows hf).1 x hx)))
 k6 W hb := rows_calls (h1.below hb) dupB _ #[] (fun args w => enters_ Tryz.func57 (by kernel_rfl) rfl args w) (fun W' v x hx hb' hS => by
  obtain ⟨A, k, rfl, hl, hC⟩ := hS
  exact config_twice.calls A k x (dupB x) W' (Kd.C_below hC hb') hl (twice_f x ((fit_rows hf).2 x hx)))
 k7 W hb := meet_calls c.els c.rep hf.rep (h2.below hb) (h3.below hb)
 k8 W hb := rows_calls (ht1.below hb) (fun l => meetB l c.ats) _ _ (fun args w => enters_ Tryz.func59 (by kernel_rfl) rfl args w) (fun W' v x hx hb' hS =>
  check1_calls x c.ats hf.ats (hS.below hb') ((h4.below hb).below hb') (at_old (at_old hg hb) hb'))

structure CL (w w1 : World) (v0 v1 v2 v3 : Value) (aal dt e1 e2 o1 o2 t1 t2 m1 m2 : Bool) : Prop where
  cut : ∃ vt, (∀ W : World, (Instr.slice 68 v1 (some (.int .i64 1)) none none).run Tryz.prog W = .ok vt W) ∧ CK w.heap.size w1 v0 v1 v2 v3 vt e1 e2 o1 o2 t1 t2 m1 m2
  below : Below w.heap.size w w1
  c1 : w1.cell? ⟨w.heap.size, 1, none⟩ = some (.bool aal)
  c2 : w1.cell? ⟨w.heap.size, 2, none⟩ = some v2
  c3 : w1.cell? ⟨w.heap.size, 3, none⟩ = some v3
  c7 : w1.cell? ⟨w.heap.size, 7, none⟩ = some (.bool dt)
theorem cl_mk {v2 v3 v4 v5 : Value} {c : Cf} (hf : Fit c) (ht : Text c) {w : World} (h2 : Sl Kd.string w v2 c.els) (h3 : Sl Kd.string w v3 c.rep) (h4 : Sl Kd.string w v4 c.ats) (h5 : Sl k60 w v5 c.per) :
    Calls Tryz.prog 51 #[.agg #[.bool c.al, .bool c.aal, v2, v3, v4, v5, .bool c.com, .bool c.dt]] (w.alloc (.cells #[.bool c.al, .bool c.aal, v2, v3, v4, v5, .bool c.com, .bool c.dt] 32)) fun e w1 => ∃ v0 v1, e = .returned (.tuple #[v0, v1]) ∧
      CL w w1 v0 v1 v2 v3 c.aal c.dt ((rowsE c).any longB) ((rowsA c).any longB) (oddE c) (oddA c) ((rowsE c).any dupB) ((rowsA c).any dupB) (meetB c.els c.rep) ((c.per.map (·.f1)).any fun l => meetB l c.ats) := by
  have hb0 := bl_alloc w (.cells #[.bool c.al, .bool c.aal, v2, v3, v4, v5, .bool c.com, .bool c.dt] 32)
  refine (lists_calls hf (CfV.below ⟨v2, v3, v4, v5, rfl, h2, h3, h4, h5⟩ hb0)).mono ?_
  rintro e w1 ⟨v0, v1, rfl, s0, s1, hb⟩
  refine ⟨v0, v1, rfl, ?_⟩
  have s1' := s1
  obtain ⟨A, k, rfl, hk, hC⟩ := s1'
  obtain ⟨vt, hcut, hst⟩ := tail_cut (l := c.per.map (·.f1)) (x := c.ats) rfl hk hC
  have hb1 := below_step hb0 hb
  exact ⟨⟨vt, hcut, ck_mk hf ht s0 s1 (h2.below hb1) (h3.below hb1) (h4.below hb1) hst (at_old (at_new w _ _ 4 rfl) hb)⟩, hb1, at_old (at_new w _ _ 1 rfl) hb, at_old (at_new w _ _ 2 rfl) hb, at_old (at_new w _ _ 3 rfl) hb, at_old (at_new w _ _ 7 rfl) hb⟩
set_option maxHeartbeats 8000000 in
theorem check_calls {v : Value} {c : Cf} (hf : Fit c) (ht : Text c) {w : World} (h : CfV w v c) :
    Calls Tryz.prog 32 #[v] w fun e w' => e = .returned (.int .i64 (checkI c)) ∧ Below w.heap.size w w' := by
  obtain ⟨v2, v3, v4, v5, rfl, h2, h3, h4, h5⟩ := h
  have HL := hid (cl_mk hf ht h2 h3 h4 h5)
  rw [checkI_eq]
  generalize (rowsE c).any longB = e1 at HL ⊢
  generalize (rowsA c).any longB = e2 at HL ⊢
  generalize oddE c = o1 at HL ⊢
  generalize oddA c = o2 at HL ⊢
  generalize (rowsE c).any dupB = t1 at HL ⊢
  generalize (rowsA c).any dupB = t2 at HL ⊢
  generalize meetB c.els c.rep = m1 at HL ⊢
  generalize ((c.per.map (·.f1)).any fun l => meetB l c.ats) = m2 at HL ⊢
  obtain ⟨al, aal, els, rep, ats, per, com, dt⟩ := c
  clear h2 h3 h4 h5 hf ht
  have HW := hid (bl_alloc w)
  cases e1
  cases e2
  cases o1
  cases o2
  cases t1
  cases t2
  cases m1
  cases m2
  cases dt
  rotate_left
  cases aal
  all_goals
    go_enter Tryz.func32, Tryz.ntmps32
    go_wp2_with first
      | (go_at_call 51; refine HL.out.mono ?_; rintro e w1 ⟨v0, v1, rfl, hcl⟩; obtain ⟨⟨vt, hcut, hck⟩, hbl, c1, c2, c3, c7⟩ := hcl; have HC := hid hck; have HA := hid hbl; have HB := hid (Below.refl w1.heap.size w1); clear hck hbl HL)
      | (go_at_call 52; first
          | with_reducible refine (HC.out.k1 _ HB.out).mono ?_
          | with_reducible refine (HC.out.k2 _ HB.out).mono ?_
          | with_reducible refine (HC.out.k3 _ _ HB.out (by assumption)).mono ?_
          | with_reducible refine (HC.out.k4 _ _ HB.out (by assumption)).mono ?_
          | with_reducible refine (HC.out.k5 _ HB.out).mono ?_
          | with_reducible refine (HC.out.k6 _ HB.out).mono ?_
          | with_reducible refine (HC.out.k8 _ HB.out).mono ?_
         rintro e w2 ⟨rfl, hb⟩; replace HB := hid (below_step HB.out hb); replace c1 := at_old c1 hb; replace c2 := at_old c2 hb; replace c3 := at_old c3 hb; replace c7 := at_old c7 hb; clear hb)
      | (go_at_call 54; refine (odd_calls _ _).mono ?_; rintro e w2 ⟨g, rfl, hq, hb⟩; replace HB := hid (below_step HB.out hb); replace c1 := at_old c1 hb; replace c2 := at_old c2 hb; replace c3 := at_old c3 hb; replace c7 := at_old c7 hb; clear hb)
      | (go_at_call 58; refine (HC.out.k7 _ HB.out).mono ?_; rintro e w2 ⟨rfl, hb⟩; replace HB := hid (below_step HB.out hb); replace c1 := at_old c1 hb; replace c2 := at_old c2 hb; replace c3 := at_old c3 hb; replace c7 := at_old c7 hb; clear hb)
    go_ret
    exact ⟨by first | rfl | (simp; done), below_step HA.out HB.out⟩
end Go.Proofs.YticacakoefojbaaGreat.Pure
namespace Go.Proofs.YticacakoefojbaaGreat.Pr
open Go.RowKit Go.Lib Go.Shelf Go.Proofs.YticacakoefojbaaGreat Go.Proofs.YticacakoefojbaaGreat.Pure Go.Proofs.YticacakoefojbaaGreatW.PrintWords Go.Proofs.YticacakoefojbaaGreatW.PrintLast Go.Proofs.YticacakoefojbaaGreatW.PrintMore

def fitB (c : Cf) : Bool := decide (c.els.length ≤ 1000) && decide (c.rep.length ≤ 1000) && decide (c.ats.length ≤ 1000) && decide (c.per.length ≤ 1000) && c.per.all fun p => decide (p.f1.length ≤ 1000)
theorem fit_of {c : Cf} (h : fitB c = true) : Fit c := by
 unfold fitB at h
 simp only [Bool.and_eq_true, decide_eq_true_eq, List.all_eq_true] at h
 exact ⟨h.1.1.1.1, h.1.1.1.2, h.1.1.2, h.1.2, h.2⟩
theorem of_fit {c : Cf} (h : Fit c) : fitB c = true := by
 unfold fitB
 simp only [Bool.and_eq_true, decide_eq_true_eq, List.all_eq_true]
 exact ⟨⟨⟨⟨h.1, h.2⟩, h.3⟩, h.4⟩, h.5⟩
def shortB (x : ByteArray) : Bool := decide (x.size ≤ 4000000000000000000)
def textB (c : Cf) : Bool := ((rowsE c).all fun l => l.all shortB) && (rowsA c).all fun l => l.all shortB
theorem text_of {c : Cf} (h : textB c = true) : Text c := by
 unfold textB shortB at h
 simp only [Bool.and_eq_true, decide_eq_true_eq, List.all_eq_true] at h
 exact h
theorem of_text {c : Cf} (h : Text c) : textB c = true := by
 unfold textB shortB
 simp only [Bool.and_eq_true, decide_eq_true_eq, List.all_eq_true]
 exact h
def config_Attr.f (a0 a1 : Bool) (l2 l3 l4 : List ByteArray) (l5 : List S60) (a6 a7 : Bool) (e a : ByteArray) : Option Bool :=
 if fitB ⟨a0, a1, l2, l3, l4, l5, a6, a7⟩ = true then some (attrB ⟨a0, a1, l2, l3, l4, l5, a6, a7⟩ e a) else none
theorem config_Attr.calls (a0 a1 : Bool) (A2 : Option Addr) (c2 : Nat) (l2 : List ByteArray) (A3 : Option Addr) (c3 : Nat) (l3 : List ByteArray) (A4 : Option Addr) (c4 : Nat) (l4 : List ByteArray) (A5 : Option Addr) (c5 : Nat) (l5 : List S60) (a6 a7 : Bool) (e a : ByteArray) (r : Bool) (w : World)
  (hr2 : Kd.C Kd.string w A2 l2.length l2) (hc2 : l2.length ≤ c2) (hr3 : Kd.C Kd.string w A3 l3.length l3) (hc3 : l3.length ≤ c3) (hr4 : Kd.C Kd.string w A4 l4.length l4) (hc4 : l4.length ≤ c4) (hr5 : Kd.C k60 w A5 l5.length l5) (hc5 : l5.length ≤ c5) (h : config_Attr.f a0 a1 l2 l3 l4 l5 a6 a7 e a = some r) :
  Calls Tryz.prog 46 #[.agg #[.bool a0, .bool a1, .slice A2 l2.length c2, .slice A3 l3.length c3, .slice A4 l4.length c4, .slice A5 l5.length c5, .bool a6, .bool a7], .string e, .string a] w fun x w' => x = .returned (.bool r) ∧ Below w.heap.size w w' := by
 unfold config_Attr.f at h
 split at h
 case isFalse => cases h
 rename_i hf
 obtain rfl := Option.some.inj h
 exact attr_calls (c := ⟨a0, a1, l2, l3, l4, l5, a6, a7⟩) (fit_of hf) e a ⟨_, _, _, _, rfl, ⟨A2, c2, rfl, hc2, hr2⟩, ⟨A3, c3, rfl, hc3, hr3⟩, ⟨A4, c4, rfl, hc4, hr4⟩, ⟨A5, c5, rfl, hc5, hr5⟩⟩
def config_Check.f (a0 a1 : Bool) (l2 l3 l4 : List ByteArray) (l5 : List S60) (a6 a7 : Bool) : Option Int :=
 if fitB ⟨a0, a1, l2, l3, l4, l5, a6, a7⟩ = true ∧ textB ⟨a0, a1, l2, l3, l4, l5, a6, a7⟩ = true then some (checkI ⟨a0, a1, l2, l3, l4, l5, a6, a7⟩) else none
theorem config_Check.calls (a0 a1 : Bool) (A2 : Option Addr) (c2 : Nat) (l2 : List ByteArray) (A3 : Option Addr) (c3 : Nat) (l3 : List ByteArray) (A4 : Option Addr) (c4 : Nat) (l4 : List ByteArray) (A5 : Option Addr) (c5 : Nat) (l5 : List S60) (a6 a7 : Bool) (r : Int) (w : World)
  (hr2 : Kd.C Kd.string w A2 l2.length l2) (hc2 : l2.length ≤ c2) (hr3 : Kd.C Kd.string w A3 l3.length l3) (hc3 : l3.length ≤ c3) (hr4 : Kd.C Kd.string w A4 l4.length l4) (hc4 : l4.length ≤ c4) (hr5 : Kd.C k60 w A5 l5.length l5) (hc5 : l5.length ≤ c5) (h : config_Check.f a0 a1 l2 l3 l4 l5 a6 a7 = some r) :
  Calls Tryz.prog 32 #[.agg #[.bool a0, .bool a1, .slice A2 l2.length c2, .slice A3 l3.length c3, .slice A4 l4.length c4, .slice A5 l5.length c5, .bool a6, .bool a7]] w fun x w' => x = .returned (.int .i64 r) ∧ Below w.heap.size w w' := by
 unfold config_Check.f at h
 split at h
 case isFalse => cases h
 rename_i hf
 obtain rfl := Option.some.inj h
 exact check_calls (c := ⟨a0, a1, l2, l3, l4, l5, a6, a7⟩) (fit_of hf.1) (text_of hf.2) ⟨_, _, _, _, rfl, ⟨A2, c2, rfl, hc2, hr2⟩, ⟨A3, c3, rfl, hc3, hr3⟩, ⟨A4, c4, rfl, hc4, hr4⟩, ⟨A5, c5, rfl, hc5, hr5⟩⟩
end Go.Proofs.YticacakoefojbaaGreat.Pr
namespace Go.Proofs.YticacakoefojbaaGreat.Pure
open Go.RowKit Go.Lib Go.Shelf Go.Proofs.YticacakoefojbaaGreatW.PrintWords Go.Proofs.YticacakoefojbaaGreatW.PrintLast Go.Proofs.YticacakoefojbaaGreatW.PrintMore Go.Proofs.YticacakoefojbaaGreat.Pr

abbrev cmpV : Value := .func (.func 41) #[] #[]
set_option maxHeartbeats 2000000 in
theorem insert0_calls (w : World) : Calls Tryz.prog 104 #[.slice none 0 0, .int .i64 0, .int .i64 0, cmpV] w fun e w' => e = .returned (.tuple #[]) ∧ w' = w := by
 go_enter Tryz.func104, Tryz.ntmps104
 go_wp2
 go_loopw [8] (fun iv wr => iv = .int .i64 1 ∧ wr = w) (fun _ _ => 0)
 case atStart => exact ⟨rfl, rfl⟩
 case round =>
  obtain ⟨rfl, rfl⟩ := hrel
  go_wp2
  exact bodyPost_end (results_none rfl _ _ _) rfl ⟨rfl, rfl⟩
set_option maxHeartbeats 2000000 in
theorem stable0_calls (w : World) : Calls Tryz.prog 70 #[.slice none 0 0, .int .i64 0, cmpV] w fun e w' => e = .returned (.tuple #[]) ∧ w' = w := by
 go_enter Tryz.func70, Tryz.ntmps70
 go_wp2
 go_loopw [7, 8] (fun a b wr => a = .int .i64 0 ∧ b = .int .i64 20 ∧ wr = w) (fun _ _ _ => 0)
 case atStart => exact ⟨rfl, rfl, rfl⟩
 case round =>
  obtain ⟨rfl, rfl, hw⟩ := hrel
  have HW := hid hw
  clear hw
  go_wp2_with (go_at_call 104; refine (insert0_calls _).mono ?_; rintro e w2 ⟨rfl, hq⟩; have HQ := hid hq; clear hq)
  go_loopw [6] (fun a x => a = .int .i64 20 ∧ x = w2) (fun _ _ => 0)
  case atStart => exact ⟨rfl, rfl⟩
  case round =>
   obtain ⟨rfl, hx⟩ := hrel
   have HX := hid (hx.trans (HQ.out.trans HW.out))
   clear hx
   go_wp2
   exact bodyPost_end (results_none rfl _ _ _) rfl ⟨rfl, HX.out⟩
set_option maxHeartbeats 2000000 in
theorem sort0_calls (w : World) : Calls Tryz.prog 40 #[.slice none 0 0, cmpV] w fun e w' => e = .returned (.tuple #[]) ∧ w' = w := by
 go_enter Tryz.func40, Tryz.ntmps40
 go_wp2_with (go_at_call 70; refine (stable0_calls _).mono ?_; rintro e w' ⟨rfl, rfl⟩)
 exact bodyPost_end (results_none rfl _ _ _) rfl ⟨rfl, rfl⟩
structure CnS (w0 : World) (g0 : Nat) (o : Obj) (cs : Array Value) (w : World) : Prop where
 c1 : w.heap[g0]? = some o
 c2 : w.heap[g0 + 1]? = some (.cells cs 32 (0, 0))
 below : Below w0.heap.size w0 w
theorem CnS.next {w0 w w' : World} {g0 : Nat} {o : Obj} {cs : Array Value} (h : CnS w0 g0 o cs w) (hb : Below w.heap.size w w') : CnS w0 g0 o cs w' :=
 ⟨(hb.block _ (blk_lt h.c1)).trans h.c1, (hb.block _ (blk_lt h.c2)).trans h.c2, h.below.trans (hb.mono h.below.size)⟩
theorem CnS.set {w0 w : World} {g0 : Nat} {cs ds : Array Value} (h : CnS w0 g0 (.cells cs 32 (0, 0)) ds w) (hg : w0.heap.size ≤ g0) (i : Nat) (u : Value) : CnS w0 g0 (.cells (cs.setIfInBounds i u) 32 (0, 0)) ds (w.setCell ⟨g0, i, none⟩ u) :=
 ⟨blk_set h.c1 i u, (Below.heap_setCell w ⟨g0, i, none⟩ u (g0 + 1) (Nat.succ_ne_self g0)).trans h.c2, h.below.setCell hg _⟩
theorem CnS.put {w0 w : World} {g0 : Nat} {o : Obj} {ds : Array Value} (h : CnS w0 g0 o ds w) (hg : w0.heap.size ≤ g0) (i : Nat) (u : Value) : CnS w0 g0 o (ds.setIfInBounds i u) (w.setCell ⟨g0 + 1, i, none⟩ u) :=
 ⟨(Below.heap_setCell w ⟨g0 + 1, i, none⟩ u g0 (Nat.succ_ne_self g0).symm).trans h.c1, blk_set h.c2 i u, h.below.setCell (Nat.le_succ_of_le hg) _⟩
abbrev oB (v2 v3 v4 : Value) : Obj := .cells #[.bool false, .bool false, v2, v3, v4, .slice none 0 0, .bool false, .bool false] 32 (0, 0)
theorem cellsB {w : World} {g : Nat} {v2 v3 v4 : Value} (h : w.heap[g]? = some (oB v2 v3 v4)) : w.cell? ⟨g, 0, none⟩ = some (.bool false) ∧ w.cell? ⟨g, 1, none⟩ = some (.bool false) ∧ w.cell? ⟨g, 2, none⟩ = some v2 ∧ w.cell? ⟨g, 3, none⟩ = some v3 ∧ w.cell? ⟨g, 4, none⟩ = some v4 ∧ w.cell? ⟨g, 5, none⟩ = some (.slice none 0 0) ∧ w.cell? ⟨g, 6, none⟩ = some (.bool false) ∧ w.cell? ⟨g, 7, none⟩ = some (.bool false) :=
 ⟨(blk_cell h 0).trans rfl, (blk_cell h 1).trans rfl, (blk_cell h 2).trans rfl, (blk_cell h 3).trans rfl, (blk_cell h 4).trans rfl, (blk_cell h 5).trans rfl, (blk_cell h 6).trans rfl, (blk_cell h 7).trans rfl⟩
abbrev zB : Array Value := #[.bool false, .bool false, .slice none 0 0, .slice none 0 0, .slice none 0 0, .slice none 0 0, .bool false, .bool false]
theorem sorted_nil_f : fold_Sorted.f ([] : List ByteArray) = some [] := by
 unfold fold_Sorted.f
 rw [if_pos (by simp)]
 simp [sorted, Lib.compact, Lib.compactUpTo]
set_option maxHeartbeats 4000000 in
set_option maxRecDepth 100000 in
theorem canon0_calls {l r : List ByteArray} {A3 : Option Addr} {c3 : Nat} {w : World} (h3 : Kd.string.C w A3 l.length l) (hc3 : l.length ≤ c3) (hr : fold_Sorted.f l = some r) :
  Calls Tryz.prog 18 #[.agg #[.bool false, .bool false, .slice none 0 0, .slice A3 l.length c3, .slice none 0 0, .slice none 0 0, .bool false, .bool false]] w fun e w' => ∃ a2 n2 a3 n3 a4 n4, e = .returned (.agg #[.bool false, .bool false, .slice a2 0 n2, .slice a3 r.length n3, .slice a4 0 n4, .slice none 0 0, .bool false, .bool false]) ∧ Kd.R Kd.string 9 w' w.heap.size (fun _ => True) (.slice a2 0 n2) ([] : List ByteArray) ∧ Kd.R Kd.string 9 w' w.heap.size (fun _ => True) (.slice a3 r.length n3) r ∧ Kd.R Kd.string 9 w' w.heap.size (fun _ => True) (.slice a4 0 n4) ([] : List ByteArray) ∧ Below w.heap.size w w' := by
 have mixed : Tryz.prog.follows Departure.mixedOrders = true := by kernel_rfl
 obtain ⟨g0, hg0⟩ : ∃ g, w.heap.size = g := ⟨_, rfl⟩
 have H3 := hid h3
 clear h3
 go_enter Tryz.func18, Tryz.ntmps18
 go_upto_region 1 with fail
 refine start_ (n := 15) (S := CnS w g0 (oB (.slice none 0 0) (.slice A3 l.length c3) (.slice none 0 0)) zB) (ds := [10, 12, 14]) #[false, false, false, false, false, false, false, false, false, false, false, false, false, false, false] mixed rfl rfl ?_ (fun hHeld => ?_)
 ·rw [← hg0]
  have hb1 := (Below.refl _ w).alloc (Nat.le_refl _) (oB (.slice none 0 0) (.slice A3 l.length c3) (.slice none 0 0))
  refine CnS.next ?_ (below_drew (Below.refl _ _))
  refine ⟨(Below.heap_alloc _ _ _ (by simp)).trans (blk_new w _), ?_, hb1.alloc hb1.size _⟩
  ·have := blk_new (w.alloc (oB (.slice none 0 0) (.slice A3 l.length c3) (.slice none 0 0))) (.cells zB 32)
   simpa using this
 generalize (World.drew _) = w1 at hHeld ⊢
 refine pure_ (i := 0) (N := (some 6)) (v := ?_) (a' := ?_) #[true, false, false, false, false, false, false, false, false, false, false, false, false, false, false] rfl rfl (by kernel_rfl) (fun _ _ _ h => h) (Or.inl ⟨by rfl, ?_⟩) ?_ ?_
 rotate_left
 ·intro w'
  go_simp
  first | done | with_reducible rfl | rfl
 rotate_left
 ·simp only [Act.put, List.setIfInBounds_toArray, List.set_cons_zero, List.set_cons_succ]
  rfl
 refine pure_ (i := 3) (N := (some 9)) (v := ?_) (a' := ?_) #[true, false, false, true, false, false, false, false, false, false, false, false, false, false, false] rfl rfl (by kernel_rfl) (fun _ _ _ h => h) (Or.inl ⟨by rfl, ?_⟩) ?_ ?_
 rotate_left
 ·intro w'
  go_simp
  first | done | with_reducible rfl | rfl
 rotate_left
 ·simp only [Act.put, List.setIfInBounds_toArray, List.set_cons_zero, List.set_cons_succ]
  rfl
 refine pure_ (i := 6) (N := (some 12)) (v := ?_) (a' := ?_) #[true, false, false, true, false, false, true, false, false, false, false, false, false, false, false] rfl rfl (by kernel_rfl) (fun _ _ _ h => h) (Or.inl ⟨by rfl, ?_⟩) ?_ ?_
 rotate_left
 ·intro w'
  go_simp
  first | done | with_reducible rfl | rfl
 rotate_left
 ·simp only [Act.put, List.setIfInBounds_toArray, List.set_cons_zero, List.set_cons_succ]
  rfl
 refine take_ (i := 1) (N := (some 7)) (v := ?_) (a' := ?_) #[true, true, false, true, false, false, true, false, false, false, false, false, false, false, false] rfl rfl (by kernel_rfl) (fun _ _ _ h => h) (Or.inl ⟨by rfl, ?_⟩) hHeld ?_ ?_
 rotate_left
 ·rintro w' hS
  obtain ⟨s0, s1, s2, s3, s4, s5, s6, s7⟩ := cellsB hS.c1
  go_simp
  first | done | with_reducible rfl | rfl
 rotate_left
 ·simp only [Act.put, List.setIfInBounds_toArray, List.set_cons_zero, List.set_cons_succ]
  rfl
 refine take_ (i := 4) (N := (some 10)) (v := ?_) (a' := ?_) #[true, true, false, true, true, false, true, false, false, false, false, false, false, false, false] rfl rfl (by kernel_rfl) (fun _ _ _ h => h) (Or.inl ⟨by rfl, ?_⟩) hHeld ?_ ?_
 rotate_left
 ·rintro w' hS
  obtain ⟨s0, s1, s2, s3, s4, s5, s6, s7⟩ := cellsB hS.c1
  go_simp
  first | done | with_reducible rfl | rfl
 rotate_left
 ·simp only [Act.put, List.setIfInBounds_toArray, List.set_cons_zero, List.set_cons_succ]
  rfl
 refine take_ (i := 7) (N := (some 13)) (v := ?_) (a' := ?_) #[true, true, false, true, true, false, true, true, false, false, false, false, false, false, false] rfl rfl (by kernel_rfl) (fun _ _ _ h => h) (Or.inl ⟨by rfl, ?_⟩) hHeld ?_ ?_
 rotate_left
 ·rintro w' hS
  obtain ⟨s0, s1, s2, s3, s4, s5, s6, s7⟩ := cellsB hS.c1
  go_simp
  first | done | with_reducible rfl | rfl
 rotate_left
 ·simp only [Act.put, List.setIfInBounds_toArray, List.set_cons_zero, List.set_cons_succ]
  rfl
 refine one_ (i := 2) (N := (some 8)) #[true, true, true, true, true, false, true, true, false, false, false, false, false, false, false] rfl rfl (by kernel_rfl) (by decide) (fun K hK => ?_)
 refine goes_ Tryz.func39 (by kernel_rfl) rfl #[.slice none 0 0] (by rfl) rfl rfl (by (try simp only [List.map_toArray, List.map_cons, List.map_nil]); first | done | rfl) ?_
 refine (fold_Sorted.calls none 0 [] [] _ (Kd.C_nil _ _) (Nat.le_refl _) sorted_nil_f).mono ?_
 rintro e w' ⟨v2, rfl, o, hb⟩
 refine ⟨_, rfl, ?_⟩
 have O2 := hid (Kd.R_lower o hHeld.below.size)
 refine hK.out _ _ (hHeld.next hb) (fun hHeld => ?_)
 clear o hb
 clear hK K
 refine norm_ (a' := ?_) ?_ ?_
 rotate_left
 ·show Act.put _ (some 8) _ = _
  simp only [Act.put, List.setIfInBounds_toArray, List.set_cons_zero, List.set_cons_succ]
  rfl
 refine pure_ (i := 9) (N := (some 15)) (v := ?_) (a' := ?_) #[true, true, true, true, true, false, true, true, false, true, false, false, false, false, false] rfl rfl (by kernel_rfl) (fun _ _ _ h => h) (Or.inl ⟨by rfl, ?_⟩) ?_ ?_
 rotate_left
 ·intro w'
  go_simp
  first | done | with_reducible rfl | rfl
 rotate_left
 ·simp only [Act.put, List.setIfInBounds_toArray, List.set_cons_zero, List.set_cons_succ]
  rfl
 refine one_ (i := 5) (N := (some 11)) #[true, true, true, true, true, true, true, true, false, true, false, false, false, false, false] rfl rfl (by kernel_rfl) (by decide) (fun K hK => ?_)
 refine goes_ Tryz.func39 (by kernel_rfl) rfl #[.slice A3 l.length c3] (by rfl) rfl rfl (by (try simp only [List.map_toArray, List.map_cons, List.map_nil]); first | done | rfl) ?_
 refine (fold_Sorted.calls A3 c3 l r _ (Kd.C_below H3.out hHeld.below) hc3 hr).mono ?_
 rintro e w' ⟨v3, rfl, o, hb⟩
 refine ⟨_, rfl, ?_⟩
 have O3 := hid (Kd.R_lower o hHeld.below.size)
 have O2 := hid (Kd.R_below O2.out hb)
 refine hK.out _ _ (hHeld.next hb) (fun hHeld => ?_)
 clear o hb
 clear hK K
 refine norm_ (a' := ?_) ?_ ?_
 rotate_left
 ·show Act.put _ (some 11) _ = _
  simp only [Act.put, List.setIfInBounds_toArray, List.set_cons_zero, List.set_cons_succ]
  rfl
 refine one_ (i := 8) (N := (some 14)) #[true, true, true, true, true, true, true, true, true, true, false, false, false, false, false] rfl rfl (by kernel_rfl) (by decide) (fun K hK => ?_)
 refine goes_ Tryz.func39 (by kernel_rfl) rfl #[.slice none 0 0] (by rfl) rfl rfl (by (try simp only [List.map_toArray, List.map_cons, List.map_nil]); first | done | rfl) ?_
 refine (fold_Sorted.calls none 0 [] [] _ (Kd.C_nil _ _) (Nat.le_refl _) sorted_nil_f).mono ?_
 rintro e w' ⟨v4, rfl, o, hb⟩
 refine ⟨_, rfl, ?_⟩
 have O4 := hid (Kd.R_lower o hHeld.below.size)
 have O2 := hid (Kd.R_below O2.out hb)
 have O3 := hid (Kd.R_below O3.out hb)
 refine hK.out _ _ (hHeld.next hb) (fun hHeld => ?_)
 clear o hb
 clear hK K
 refine norm_ (a' := ?_) ?_ ?_
 rotate_left
 ·show Act.put _ (some 14) _ = _
  simp only [Act.put, List.setIfInBounds_toArray, List.set_cons_zero, List.set_cons_succ]
  rfl
 refine last_ (i := 10) (N := none) #[true, true, true, true, true, true, true, true, true, true, true, false, false, false, false] rfl rfl (by kernel_rfl) (by decide) (fun K hK => ?_)
 have kf := blk_frozen hHeld.c1 2
 have kc := (blk_cell hHeld.c1 2).trans rfl
 obtain ⟨a2, n2, rfl⟩ := Kd.R_slice O2.out
 refine skip_ (w1 := World.setCell _ ⟨g0, 2, none⟩ (.slice a2 ([] : List ByteArray).length n2)) (by rfl) rfl (by go_simp; first | done | rfl) ?_
 refine hK.out _ _ ?_
 have O2 := hid (Kd.R_set O2.out hHeld.c1 (by decide) 2 (.slice a2 ([] : List ByteArray).length n2))
 have O3 := hid (Kd.R_set O3.out hHeld.c1 (by decide) 2 (.slice a2 ([] : List ByteArray).length n2))
 have O4 := hid (Kd.R_set O4.out hHeld.c1 (by decide) 2 (.slice a2 ([] : List ByteArray).length n2))
 have hHeld := hHeld.set (Nat.le_of_eq hg0) 2 (.slice a2 ([] : List ByteArray).length n2)
 simp only [List.setIfInBounds_toArray, List.set_cons_zero, List.set_cons_succ] at hHeld
 generalize World.setCell _ ⟨g0, 2, none⟩ (.slice a2 ([] : List ByteArray).length n2) = wS at hHeld O2 O3 O4 ⊢
 clear kf kc
 clear hK K
 refine pure_ (i := 11) (N := (some 16)) (v := ?_) (a' := ?_) #[true, true, true, true, true, true, true, true, true, true, true, true, false, false, false] rfl rfl (by kernel_rfl) (fun _ _ _ h => h) (Or.inl ⟨by rfl, ?_⟩) ?_ ?_
 rotate_left
 ·intro w'
  go_simp
  first | done | with_reducible rfl | rfl
 rotate_left
 ·simp only [Act.put, List.setIfInBounds_toArray, List.set_cons_zero, List.set_cons_succ]
  rfl
 refine last_ (i := 12) (N := none) #[true, true, true, true, true, true, true, true, true, true, true, true, true, false, false] rfl rfl (by kernel_rfl) (by decide) (fun K hK => ?_)
 have kf := blk_frozen hHeld.c1 3
 have kc := (blk_cell hHeld.c1 3).trans rfl
 obtain ⟨a3, n3, rfl⟩ := Kd.R_slice O3.out
 refine skip_ (w1 := World.setCell _ ⟨g0, 3, none⟩ (.slice a3 r.length n3)) (by rfl) rfl (by go_simp; first | done | rfl) ?_
 refine hK.out _ _ ?_
 have O2 := hid (Kd.R_set O2.out hHeld.c1 (by decide) 3 (.slice a3 r.length n3))
 have O3 := hid (Kd.R_set O3.out hHeld.c1 (by decide) 3 (.slice a3 r.length n3))
 have O4 := hid (Kd.R_set O4.out hHeld.c1 (by decide) 3 (.slice a3 r.length n3))
 have hHeld := hHeld.set (Nat.le_of_eq hg0) 3 (.slice a3 r.length n3)
 simp only [List.setIfInBounds_toArray, List.set_cons_zero, List.set_cons_succ] at hHeld
 generalize World.setCell _ ⟨g0, 3, none⟩ (.slice a3 r.length n3) = wS at hHeld O2 O3 O4 ⊢
 clear kf kc
 clear hK K
 refine pure_ (i := 13) (N := (some 17)) (v := ?_) (a' := ?_) #[true, true, true, true, true, true, true, true, true, true, true, true, true, true, false] rfl rfl (by kernel_rfl) (fun _ _ _ h => h) (Or.inl ⟨by rfl, ?_⟩) ?_ ?_
 rotate_left
 ·intro w'
  go_simp
  first | done | with_reducible rfl | rfl
 rotate_left
 ·simp only [Act.put, List.setIfInBounds_toArray, List.set_cons_zero, List.set_cons_succ]
  rfl
 refine last_ (i := 14) (N := none) #[true, true, true, true, true, true, true, true, true, true, true, true, true, true, true] rfl rfl (by kernel_rfl) (by decide) (fun K hK => ?_)
 have kf := blk_frozen hHeld.c1 4
 have kc := (blk_cell hHeld.c1 4).trans rfl
 obtain ⟨a4, n4, rfl⟩ := Kd.R_slice O4.out
 refine skip_ (w1 := World.setCell _ ⟨g0, 4, none⟩ (.slice a4 ([] : List ByteArray).length n4)) (by rfl) rfl (by go_simp; first | done | rfl) ?_
 refine hK.out _ _ ?_
 have O2 := hid (Kd.R_set O2.out hHeld.c1 (by decide) 4 (.slice a4 ([] : List ByteArray).length n4))
 have O3 := hid (Kd.R_set O3.out hHeld.c1 (by decide) 4 (.slice a4 ([] : List ByteArray).length n4))
 have O4 := hid (Kd.R_set O4.out hHeld.c1 (by decide) 4 (.slice a4 ([] : List ByteArray).length n4))
 have hHeld := hHeld.set (Nat.le_of_eq hg0) 4 (.slice a4 ([] : List ByteArray).length n4)
 simp only [List.setIfInBounds_toArray, List.set_cons_zero, List.set_cons_succ] at hHeld
 generalize World.setCell _ ⟨g0, 4, none⟩ (.slice a4 ([] : List ByteArray).length n4) = wS at hHeld O2 O3 O4 ⊢
 clear kf kc
 clear hK K
 refine done_ (by kernel_rfl) ?_
 have HS := hid hHeld
 have kl : wS.cell? ⟨g0, 5, none⟩ = some (.slice none 0 0) := (blk_cell hHeld.c1 5).trans rfl
 clear hHeld
 go_wp2
 go_loopw [3, 21] (fun pv iv wr => pv = .slice none 0 0 ∧ iv = .int .i64 0 ∧ wr = wS) (fun _ _ _ => 0)
 case atStart => exact ⟨rfl, rfl, rfl⟩
 case round =>
  obtain ⟨rfl, rfl, hw⟩ := hrel
  subst hw
  have kf := blk_frozen HS.out.c1 5
  have HQ := hid ((HS.out.set (Nat.le_of_eq hg0) 5 (.slice none 0 0)))
  go_wp2_with fail
  refine (sort0_calls _).mono ?_
  rintro e w2 ⟨rfl, hw2⟩
  subst hw2
  have P2 := hid (Kd.R_set O2.out HS.out.c1 (by decide) 5 (.slice none 0 0))
  have P3 := hid (Kd.R_set O3.out HS.out.c1 (by decide) 5 (.slice none 0 0))
  have P4 := hid (Kd.R_set O4.out HS.out.c1 (by decide) 5 (.slice none 0 0))
  have HQ : Hid (CnS w g0 (oB (.slice a2 ([] : List ByteArray).length n2) (.slice a3 r.length n3) (.slice a4 ([] : List ByteArray).length n4)) zB (World.setCell w2 ⟨g0, 5, none⟩ (.slice none 0 0))) := hid HQ.out
  clear O2 O3 O4 HS
  go_upto_region 11 with fail
  generalize World.setCell w2 ⟨g0, 5, none⟩ (.slice none 0 0) = W1 at HQ P2 P3 P4 ⊢
  clear kf kl
  obtain ⟨s0, s1, s2, s3, s4, s5, s6, s7⟩ := cellsB HQ.out.c1
  obtain ⟨t0, t1, t2, t3, t4, t5, t6, t7⟩ := cellsB (show W1.heap[g0 + 1]? = some (oB (.slice none 0 0) (.slice none 0 0) (.slice none 0 0)) from HQ.out.c2)
  have f0 := blk_frozen HQ.out.c2 0
  have f1 := blk_frozen HQ.out.c2 1
  have f2 := blk_frozen HQ.out.c2 2
  have f3 := blk_frozen HQ.out.c2 3
  have f4 := blk_frozen HQ.out.c2 4
  have f5 := blk_frozen HQ.out.c2 5
  have f6 := blk_frozen HQ.out.c2 6
  have f7 := blk_frozen HQ.out.c2 7
  go_wp2_with fail
  have step : ∀ (W : World) (cs : Array Value) (i : Nat) (u : Value), (CnS w g0 (oB (.slice a2 ([] : List ByteArray).length n2) (.slice a3 r.length n3) (.slice a4 ([] : List ByteArray).length n4)) cs W ∧ Kd.R Kd.string 9 W w.heap.size (fun _ => True) (.slice a2 ([] : List ByteArray).length n2) [] ∧ Kd.R Kd.string 9 W w.heap.size (fun _ => True) (.slice a3 r.length n3) r ∧ Kd.R Kd.string 9 W w.heap.size (fun _ => True) (.slice a4 ([] : List ByteArray).length n4) []) →
    (CnS w g0 (oB (.slice a2 ([] : List ByteArray).length n2) (.slice a3 r.length n3) (.slice a4 ([] : List ByteArray).length n4)) (cs.setIfInBounds i u) (W.setCell ⟨g0 + 1, i, none⟩ u) ∧ Kd.R Kd.string 9 (W.setCell ⟨g0 + 1, i, none⟩ u) w.heap.size (fun _ => True) (.slice a2 ([] : List ByteArray).length n2) [] ∧ Kd.R Kd.string 9 (W.setCell ⟨g0 + 1, i, none⟩ u) w.heap.size (fun _ => True) (.slice a3 r.length n3) r ∧ Kd.R Kd.string 9 (W.setCell ⟨g0 + 1, i, none⟩ u) w.heap.size (fun _ => True) (.slice a4 ([] : List ByteArray).length n4) []) :=
   fun W cs i u h => ⟨h.1.put (Nat.le_of_eq hg0) i u, Kd.R_set h.2.1 h.1.c2 (by decide) i u, Kd.R_set h.2.2.1 h.1.c2 (by decide) i u, Kd.R_set h.2.2.2 h.1.c2 (by decide) i u⟩
  have T := step _ _ 7 (.bool false) (step _ _ 6 (.bool false) (step _ _ 5 (.slice none 0 0) (step _ _ 4 (.slice a4 0 n4) (step _ _ 3 (.slice a3 r.length n3) (step _ _ 2 (.slice a2 0 n2) (step _ _ 1 (.bool false) (step _ _ 0 (.bool false) ⟨HQ.out, P2.out, P3.out, P4.out⟩)))))))
  have hblk := T.1.c2
  simp only [List.setIfInBounds_toArray, List.set_cons_zero, List.set_cons_succ] at hblk
  refine bodyPost_ret (results_cell_row rfl _ _ (g0 + 1) 32 #[.bool false, .bool false, .slice a2 0 n2, .slice a3 r.length n3, .slice a4 0 n4, .slice none 0 0, .bool false, .bool false] (0, 0) _ rfl hblk Tryz.underlying32 rfl (by kernel_rfl)) rfl ?_
  have hbw := T.1.below
  obtain ⟨_, r2, r3, r4⟩ := T
  exact ⟨_, _, _, _, _, _, rfl, r2, r3, r4, hbw⟩
end Go.Proofs.YticacakoefojbaaGreat.Pure
namespace Go.Proofs.YticacakoefojbaaGreat
open Go.RowKit Go.Lib Go.Shelf Go.Proofs.YticacakoefojbaaGreatW.PrintWords Go.Proofs.YticacakoefojbaaGreatW.PrintLast Go.Proofs.YticacakoefojbaaGreatW.PrintMore Go.Proofs.YticacakoefojbaaGreat.Pr

set_option maxHeartbeats 2000000 in
theorem idxTree_calls {A : Option Addr} {c : Nat} {l : List S38} (p : S38 → Bool) (g : Nat) (lb : Array Value) (eg : ∀ args w, (callFunc g args).run Tryz.prog w = .ok (.enter g args) w) (w : World)
  (hC : k38.C w A l.length l) (hp : Asks k38 (fun cs => .agg cs.toArray) g lb p w l) :
  Calls Tryz.prog 119 #[.slice A l.length c, .func (.func g) #[] lb] w fun e w' => e = .returned (.int .i64 (idxI p l)) ∧ Below w.heap.size w w' := by
 obtain ⟨n, hn⟩ : ∃ n, l.length = n := ⟨_, rfl⟩
 have hbig : n ≤ 9223372036854775807 := by have := hC.2.1; omega
 rcases Nat.eq_zero_or_pos l.length with h0 | h0
 ·obtain rfl := List.eq_nil_of_length_eq_zero h0
  clear hC hp
  subst hn
  show Calls Tryz.prog _ #[.slice A 0 c, _] w _
  go_enter Tryz.func119, Tryz.ntmps119
  go_wp2
  go_loopg [5, 8] 0 (fun gg _ s8 wr => s8 = .int .i64 0 ∧ wr = w)
  case atStart => exact ⟨rfl, rfl⟩
  case round =>
   obtain ⟨rfl, rfl⟩ := hrel
   go_wp2
   go_ret
   exact ⟨by rw [idxI_miss _ _ (fun j y h => by simp at h)]; rfl, Below.refl _ _⟩
 obtain ⟨b, off, rfl, hb, hrow0⟩ := C_block (d := k38) (by decide) hC h0
 have hrow : ∀ (W : World), Below w.heap.size w W → ∀ j x, l[j]? = some x → ∃ v4, k38.K w x [.int .i64 x.f0, .int .i64 x.f1, .string x.f2, .string x.f3, v4] ∧ W.cell? ⟨b, off + j * 5, none⟩ = some (.int .i64 x.f0) ∧ W.cell? ⟨b, off + j * 5 + 1, none⟩ = some (.int .i64 x.f1) ∧ W.cell? ⟨b, off + j * 5 + 2, none⟩ = some (.string x.f2) ∧ W.cell? ⟨b, off + j * 5 + 3, none⟩ = some (.string x.f3) ∧ W.cell? ⟨b, off + j * 5 + 4, none⟩ = some v4 := fun W hW j x hj => by
  obtain ⟨cs, hl, hK, hc⟩ := hrow0 j x hj
  obtain ⟨A4, c4, rfl, _, _⟩ := k38_open hK
  have hq : ∀ q u, [Value.int .i64 x.f0, .int .i64 x.f1, .string x.f2, .string x.f3, .slice A4 x.f4.length c4][q]? = some u → W.cell? ⟨b, off + (j * 5 + q), none⟩ = some u := fun q u hu => by
   rw [hW.cell (p := ⟨b, off + (j * 5 + q), none⟩) hb]
   exact hc q u hu
  exact ⟨_, hK, hq 0 _ rfl, by have := hq 1 _ rfl; rwa [← Nat.add_assoc] at this, by have := hq 2 _ rfl; rwa [← Nat.add_assoc] at this, by have := hq 3 _ rfl; rwa [← Nat.add_assoc] at this, by have := hq 4 _ rfl; rwa [← Nat.add_assoc] at this⟩
 clear hrow0 hC
 have HL := hid hn
 have HX : Hid (∀ j, j < n → ∃ x, l[j]? = some x) := fun j h => ⟨_, List.getElem?_eq_getElem (l := l) (i := j) (by omega)⟩
 rw [hn]
 clear hn h0
 go_enter Tryz.func119, Tryz.ntmps119
 go_wp2
 go_loopg [5, 8] n (fun gg _ s8 wr => ∃ kk : Nat, kk ≤ n ∧ n - kk ≤ gg ∧ s8 = .int .i64 kk ∧ Aside (Below w.heap.size w wr) ∧ Aside (∀ j y, j < kk → l[j]? = some y → p y = false))
 case atStart => exact ⟨0, Nat.zero_le _, by omega, rfl, Below.refl _ w, fun j y hj => absurd hj (Nat.not_lt_zero _)⟩
 case round =>
  obtain ⟨kk, hkk, hg, rfl, BW, HA⟩ := hrel
  by_cases hlt : kk < n
  ·have hltz : (kk : Int) < (n : Int) := by omega
   obtain ⟨y, hy⟩ := HX.out kk hlt
   have HK := hid hy
   obtain ⟨v4, hK, l2, l3, l4, l5, l6⟩ := hrow wr BW.out kk _ HK.out
   have hcall := hp wr _ [.int .i64 y.f0, .int .i64 y.f1, .string y.f2, .string y.f3, v4] (List.mem_of_getElem? HK.out) BW.out hK
   clear hrow hp hK hy
   cases hq : p y with
   | true =>
    rw [hq] at hcall
    have HQ := hid hq
    clear hq
    go_wp2_with (go_at_fn g; refine hcall.mono ?_; rintro e w' ⟨rfl, hb'⟩)
    go_ret
    exact ⟨by rw [idxI_hit p l kk y HK.out HQ.out HA.out]; rfl, hb'⟩
   | false =>
    rw [hq] at hcall
    have HQ := hid hq
    clear hq
    go_wp2_with (go_at_fn g; refine hcall.mono ?_; rintro e w' ⟨rfl, hb'⟩)
    go_roundg (n - (kk + 1))
    case measure => omega
    case rel =>
     refine ⟨kk + 1, by omega, by omega, by go_num, hb', (show Aside _ from fun j z hj hz => ?_)⟩
     by_cases e : j = kk
     ·subst e
      have := hz.symm.trans HK.out
      injection this with this
      subst this
      exact HQ.out
     ·exact HA.out j z (by omega) hz
  ·have hltz : ¬ (kk : Int) < (n : Int) := by omega
   have : kk = n := by omega
   subst this
   go_wp2
   go_ret
   refine ⟨?_, BW.out⟩
   rw [idxI_miss p l (fun j y hj => HA.out j y (by have := (List.getElem?_eq_some_iff.1 hj).1; have := HL.out; omega) hj)]
   rfl
set_option maxHeartbeats 2000000 in
theorem hasTree_calls {A : Option Addr} {c : Nat} {l : List S38} (p : S38 → Bool) (g : Nat) (lb : Array Value) (eg : ∀ args w, (callFunc g args).run Tryz.prog w = .ok (.enter g args) w) (w : World)
  (hC : k38.C w A l.length l) (hp : Asks k38 (fun cs => .agg cs.toArray) g lb p w l) :
  Calls Tryz.prog 94 #[.slice A l.length c, .func (.func g) #[] lb] w fun e w' => e = .returned (.bool (l.any p)) ∧ Below w.heap.size w w' := by
 have key := hid (idxTree_calls (c := c) p g lb eg w hC hp)
 have HN := hid (idxI_nonneg p l)
 obtain ⟨r, hr⟩ : ∃ r, idxI p l = r := ⟨_, rfl⟩
 obtain ⟨q, hq⟩ : ∃ q, l.any p = q := ⟨_, rfl⟩
 rw [hr] at key HN
 rw [hq] at HN ⊢
 clear hr hq hC hp
 go_enter Tryz.func94, Tryz.ntmps94
 go_wp2_with (go_at_call 119; refine key.out.mono ?_; rintro e w' ⟨rfl, hb'⟩)
 go_ret
 exact ⟨by have := HN.out; rw [← this]; rfl, hb'⟩
def deepB (x : S38) : Bool := decide (60 ≤ x.f0)
set_option maxHeartbeats 2000000 in
theorem big1_calls (x : S38) {cs : List Value} {W : World} (hK : k38.K W x cs) :
  Calls Tryz.prog 95 (#[.agg cs.toArray] ++ #[]) W fun r w' => r = .returned (.bool (deepB x)) ∧ Below W.heap.size W w' := by
 obtain ⟨A4, c4, rfl, hl, hC⟩ := k38_open hK
 show Calls Tryz.prog _ #[.agg #[.int .i64 x.f0, .int .i64 x.f1, .string x.f2, .string x.f3, .slice A4 x.f4.length c4]] W _
 have HB := hid (fun o => below_alloc (Below.refl W.heap.size W) o)
 obtain ⟨d, hd⟩ : ∃ d, x.f0 = d := ⟨_, rfl⟩
 have HD : Hid (deepB x = decide (60 ≤ d)) := hid (by unfold deepB; rw [hd])
 rw [hd]
 clear hK hC hd hl
 by_cases h : 60 ≤ d
 ·have e1 : decide (d ≥ 60) = true := decide_eq_true h
  go_enter Tryz.func95, Tryz.ntmps95
  go_wp2
  go_ret
  exact ⟨by rw [HD.out, decide_eq_true (by omega)]; rfl, HB.out _⟩
 ·have e1 : decide (d ≥ 60) = false := decide_eq_false h
  go_enter Tryz.func95, Tryz.ntmps95
  go_wp2
  go_ret
  exact ⟨by rw [HD.out, decide_eq_false (by omega)]; rfl, HB.out _⟩
def bigL (l : List S38) : Bool := decide (4096 < l.length) || l.any deepB
end Go.Proofs.YticacakoefojbaaGreat
namespace Go.Proofs.YticacakoefojbaaGreat.Pr
open Go.RowKit Go.Lib Go.Shelf Go.Proofs.YticacakoefojbaaGreat Go.Proofs.YticacakoefojbaaGreatW.PrintWords Go.Proofs.YticacakoefojbaaGreatW.PrintLast Go.Proofs.YticacakoefojbaaGreatW.PrintMore
def ob (A : Option Addr) : Option Nat := A.map (·.block)
def rows_big.f (l : List S38) : Option Bool := some (bigL l)
set_option maxHeartbeats 2000000 in
theorem rows_big.calls (A0 : Option Addr) (c0 : Nat) (l0 : List S38) (r : Bool) (w : World) (hr0 : Kd.C k38 w A0 l0.length l0) (hc0 : l0.length ≤ c0) (h : rows_big.f l0 = some r) :
  Calls Tryz.prog 60 #[.slice A0 l0.length c0] w fun e w' => e = .returned (.bool r) ∧ Below w.heap.size w w' := by
 obtain rfl := Option.some.inj h
 have key := hid (fun (w1 : World) (hb : Below w.heap.size w w1) => hasTree_calls (c := c0) deepB 95 #[] (fun args w => enters_ Tryz.func95 (by kernel_rfl) rfl args w) w1 (Kd.C_below hr0 hb) (by
  intro W x cs hx hBW hK
  refine (big1_calls x (k38.K_below hBW hK)).mono ?_
  rintro r w' ⟨rfl, hb'⟩
  exact ⟨rfl, below_step hBW hb'⟩))
 have HB := hid (Below.refl w.heap.size w)
 obtain ⟨n, hn⟩ : ∃ n, l0.length = n := ⟨_, rfl⟩
 have hbig : n ≤ 9223372036854775807 := by have := hr0.2.1; omega
 obtain ⟨q, hq⟩ : ∃ q, l0.any deepB = q := ⟨_, rfl⟩
 unfold bigL
 rw [hn, hq] at key ⊢
 clear hr0 hn hq h
 by_cases h : 4096 < n
 ·have e1 : decide ((n : Int) > 4096) = true := decide_eq_true (by omega)
  go_enter Tryz.func60, Tryz.ntmps60
  go_wp2
  go_ret
  exact ⟨by rw [decide_eq_true (by omega)]; rfl, HB.out⟩
 ·have e1 : decide ((n : Int) > 4096) = false := decide_eq_false (by omega)
  go_enter Tryz.func60, Tryz.ntmps60
  go_wp2_with (go_at_call 94; refine (key.out _ HB.out).mono ?_; rintro e w' ⟨rfl, hb'⟩)
  go_ret
  exact ⟨by rw [decide_eq_false (by omega)]; rfl, hb'⟩
def api_Attr.f (l : List S45) : Option (List S45) := if l.length ≤ 4294967296 then some l else none
set_option maxHeartbeats 2000000 in
theorem api_Attr.calls (A0 : Option Addr) (c0 : Nat) (l0 : List S45) (r : List S45) (w : World) (hr0 : Kd.C k45 w A0 l0.length l0) (hc0 : l0.length ≤ c0) (h : api_Attr.f l0 = some r) :
  Calls Tryz.prog 97 #[.slice A0 l0.length c0] w fun e w' => ∃ v0_ : Value, e = .returned (v0_) ∧ Kd.R k45 45 w' w.heap.size (fun _ => True) v0_ r ∧ Below w.heap.size w w' := by
 unfold api_Attr.f at h
 split at h
 case isFalse => cases h
 rename_i hlen
 obtain rfl := Option.some.inj h
 clear h
 have h0 : A0 = none → l0 = [] := fun h => by
  rcases Nat.eq_zero_or_pos l0.length with h0 | h0
  ·exact List.eq_nil_of_length_eq_zero h0
  ·obtain ⟨ad, h2, _⟩ := hr0.2.2 h0
   rw [h] at h2; cases h2
 have HR := hid hr0
 have HB := hid (Below.refl w.heap.size w)
 have HL := hid hlen
 have q23 : ∀ (w : World) (a : Option Addr) (n c n' c' : Nat), (binOp .eql 36 (.slice a n c) (.slice none n' c')).run Tryz.prog w = .ok (.bool a.isNone) w := fun w a n c n' c' => Lib.run_eql_slice_nil w _ _ a n c n' c' Tryz.underlying36
 have hKM : ∀ (W : World) (x : S45) (cs : List Value), k45.K W x cs → ∀ base, k45.M W base (fun _ => False) x cs := fun W x cs hk base => by
  obtain rfl := k45_open hk
  exact k45_mkM _ _ _ _
 have HK := hid hKM
 clear hr0 hlen hc0 hKM
 cases A0 with
 | none =>
  obtain rfl := h0 rfl
  go_enter Tryz.func97, Tryz.ntmps97
  go_wp2
  go_ret
  exact ⟨_, rfl, Kd.R_nil _ _ _ _ _, HB.out⟩
 | some a =>
  clear h0
  go_enter Tryz.func97, Tryz.ntmps97
  go_wp2_with first
   | ((with_reducible refine gate_dst (N := 5) rfl ?_); refine Kd.R_lit (w0 := w) k45 w.heap.size 45 ?hg (N := 5) ?hd (xs := ([] : List S45)) (inner := []) (ok := fun _ => True) (okp := fun _ => False) ?hr ?hp (fun _ h => h.elim) trivial HB.out (Nat.le_refl _) (by decide) ?_; (case hg => rfl); (case hd => rfl); (case hr => first | (go_simp; done) | (go_simp; rfl)); (case hp => exact Reps.none _ _); intro v1 w1 hN hb hg hat; have HN := hid hN; have HB1 := hid hb; clear hN hb hg hat)
   | ((with_reducible refine gate_builtin (b := .append) (xs := #[.tmp 5, .tmp 6]) rfl ?_); at_builtin; refine Kd.R_append_rows (w0 := w) k45 w.heap.size rfl (.tmp 5) (.tmp 6) 36 45 (.agg #[(.string ⟨#[]⟩), (.string ⟨#[]⟩)]) 32 rfl Tryz.underlying36 info45 rfl (by decide) (by omega) v1 [] l0 (some a) l0.length c0 (fun _ => True) (fun _ => False) rfl rfl HN.out (Kd.C_below HR.out HB1.out) (fun x cs hk => HK.out _ x cs hk _) (fun _ hk => hk.elim) (fun _ _ => trivial) HB1.out (below_size HB1.out) ?aL ?_; (case aL => have := HL.out; simp; omega); intro v2 w2 hN hb hg hat; have HN2 := hid hN; have HB2 := hid hb; clear hN hb hg hat)
  go_ret
  exact ⟨_, rfl, HN2.out, HB2.out⟩
end Go.Proofs.YticacakoefojbaaGreat.Pr
namespace Go.Proofs.YticacakoefojbaaGreat.Pr
open Go.RowKit Go.Proofs.YticacakoefojbaaGreatW.PrintWords Go.Proofs.YticacakoefojbaaGreatW.PrintLast Go.Proofs.YticacakoefojbaaGreatW.PrintMore
attribute [local go_sem] max2_int min2_int max_two min_two max_three min_three max_four min_four   -- for this text's walks alone

theorem eqA45 (d : Nat) (w : World) (x0 y0 : ByteArray) (x1 y1 : ByteArray) :
  (Op.equalIn (d + 2) 45 (.agg #[.string x0, .string x1]) (.agg #[.string y0, .string y1])).run Tryz.prog w = .ok (x0.toList == y0.toList && (x1.toList == y1.toList)) w := by
 refine eqA_of Tryz.underlying45 (by kernel_rfl) ?_
 refine eqf_cons (by rfl) (by go_simp; rfl) (by go_simp; rfl) (by go_simp) ?_
 exact eqf_last (by rfl) (by go_simp; rfl) (by go_simp; rfl) (by go_simp)

def link_Script.f (a0 : ByteArray) : Option (Bool) := (link_Scheme.f a0).bind fun bt366 => (some (bt366.1.toList == ([106, 97, 118, 97, 115, 99, 114, 105, 112, 116] : List UInt8)))
set_option maxHeartbeats 8000000 in
set_option maxRecDepth 100000 in
theorem link_Script.calls (a0 : ByteArray) (r : Bool) (w : World) (h : link_Script.f a0 = some r) :
  Calls Tryz.prog 66 #[.string a0] w fun e w' => e = .returned (.bool r) ∧ Below w.heap.size w w' := by
 have HB := am (Below.refl w.heap.size w)
 have H : ((link_Scheme.f a0).bind fun bt366 => (some (bt366.1.toList == ([106, 97, 118, 97, 115, 99, 114, 105, 112, 116] : List UInt8)))) = some r := h
 clear h
 replace H := Option.bind_eq_some_iff.mp H
 obtain ⟨⟨t366, t367⟩, A20, H⟩ := H
 try dsimp only at H
 have A2 := am A20
 clear A20
 obtain rfl := Option.some.inj H
 go_enter Tryz.func66, Tryz.ntmps66
 go_wp2_with (first | ((with_reducible refine gate_callee (f := 101) rfl ?_); refine goesL_ (some 7) rfl rfl Tryz.func101 (by kernel_rfl) rfl #[.string a0] rfl zm ?_; (with_reducible refine (link_Scheme.calls a0 t366 t367 _ A2.out).mono ?_); rintro e w3 ⟨rfl, hb⟩; refine ⟨_, rfl, ?_⟩; have n0_ := am (below_step (zb HB) hb); clear HB; have HB := n0_; clear n0_; (try clear hb)))
 go_ret
 exact ⟨ze, zb HB⟩

def risk_Attr.f (a0 : ByteArray) (a1_0 : ByteArray) (a1_1 : ByteArray) : Option (Bool) := (risk_Sink.f a0 a1_0).bind fun t369 => (if t369 = 0 then ((risk_Nav.f a0 a1_0).bind fun t370 => (if t370 = true then ((link_Script.f a1_1).bind fun t371 => (some t371)) else (some false))) else (some true))
set_option maxHeartbeats 8000000 in
set_option maxRecDepth 100000 in
theorem risk_Attr.calls (a0 : ByteArray) (a1_0 : ByteArray) (a1_1 : ByteArray) (r : Bool) (w : World) (h : risk_Attr.f a0 a1_0 a1_1 = some r) :
  Calls Tryz.prog 38 #[.string a0, .agg #[.string a1_0, .string a1_1]] w fun e w' => e = .returned (.bool r) ∧ Below w.heap.size w w' := by
 have hu45 := Tryz.underlying45
 have HB := am (Below.refl w.heap.size w)
 have H : ((risk_Sink.f a0 a1_0).bind fun t369 => (if t369 = 0 then ((risk_Nav.f a0 a1_0).bind fun t370 => (if t370 = true then ((link_Script.f a1_1).bind fun t371 => (some t371)) else (some false))) else (some true))) = some r := h
 clear h
 replace H := Option.bind_eq_some_iff.mp H
 obtain ⟨t369, A30, H⟩ := H
 have A3 := am A30
 clear A30
 by_cases c4 : t369 = 0
 ·rw [if_pos c4] at H
  have c4b0 : (t369 == 0) = true := beq_iff_eq.mpr c4
  have c4b1 : (t369 != 0) = false := bne_eq_false_iff_eq.mpr c4
  clear c4
  replace H := Option.bind_eq_some_iff.mp H
  obtain ⟨t370, A50, H⟩ := H
  have A5 := am A50
  clear A50
  by_cases c6 : t370 = true
  ·subst c6
   replace H : ((link_Script.f a1_1).bind fun t371 => (some t371)) = some r := by rw [if_pos rfl] at H; exact H
   replace H := Option.bind_eq_some_iff.mp H
   obtain ⟨t371, A70, H⟩ := H
   replace H : (some t371) = some r := H
   have A7 := am A70
   clear A70
   obtain rfl := Option.some.inj H
   go_enter Tryz.func38, Tryz.ntmps38
   go_wp2_with (first | ((with_reducible refine gate_dst (N := 3) rfl ?_); refine box_event ?hg (N := 3) ?hd (cs := #[.string a1_0, .string a1_1]) (t := 45) ?hr ?_; (case hd => rfl); (case hg => rfl); (case hr => first | (go_simp; done) | (go_simp; rfl)); intro gb368 hg w8 hbox hb; have n0_ := am (below_step (zb HB) hb); have n1_ := am (hbox); have n3_ := am ((by rw [hg]; exact (below_size (zb HB)) : w.heap.size ≤ gb368)); clear HB; have HB := n0_; have BK368 := n1_; have GE368 := n3_; clear n0_ n1_ n3_; clear hb hbox hg; obtain ⟨hcz9_0, hcz9_1, hfz9_0, hfz9_1⟩ := cz2 BK368.out) | ((with_reducible refine gate_callee (f := 64) rfl ?_); refine goesL_ (some 8) rfl rfl Tryz.func64 (by kernel_rfl) rfl #[.string a0, .string a1_0] rfl zm ?_; (with_reducible refine (risk_Sink.calls a0 a1_0 t369 _ A3.out).mono ?_); rintro e w10 ⟨rfl, hb⟩; refine ⟨_, rfl, ?_⟩; have n0_ := am (blk_below (by exact BK368.out) hb); have n1_ := am (below_step (zb1 HB GE368) hb); clear BK368; clear HB; have BK368 := n0_; have HB := n1_; clear n0_ n1_; (try clear hb); obtain ⟨hcz11_0, hcz11_1, hfz11_0, hfz11_1⟩ := cz2 BK368.out) | (go_at_call 65; (with_reducible refine (risk_Nav.calls a0 a1_0 true _ A5.out).mono ?_); rintro e w12 ⟨rfl, hb⟩; have n0_ := am (blk_below (by exact BK368.out) hb); have n1_ := am (below_step (zb1 HB GE368) hb); clear BK368; clear HB; have BK368 := n0_; have HB := n1_; clear n0_ n1_; (try clear hb); obtain ⟨hcz13_0, hcz13_1, hfz13_0, hfz13_1⟩ := cz2 BK368.out) | (go_at_call 66; (with_reducible refine (link_Script.calls a1_1 t371 _ A7.out).mono ?_); rintro e w14 ⟨rfl, hb⟩; have n1_ := am (below_step (zb1 HB GE368) hb); clear BK368; clear HB; have HB := n1_; clear n1_; (try clear hb)))
   go_ret
   exact ⟨ze, zb1 HB GE368⟩
  ·replace c6 := Bool.eq_false_iff.mpr c6
   subst c6
   replace H : (some false) = some r := by rw [if_neg (show ¬ (false = true) by decide)] at H; exact H
   obtain rfl := Option.some.inj H
   go_enter Tryz.func38, Tryz.ntmps38
   go_wp2_with (first | ((with_reducible refine gate_dst (N := 3) rfl ?_); refine box_event ?hg (N := 3) ?hd (cs := #[.string a1_0, .string a1_1]) (t := 45) ?hr ?_; (case hd => rfl); (case hg => rfl); (case hr => first | (go_simp; done) | (go_simp; rfl)); intro gb368 hg w15 hbox hb; have n0_ := am (below_step (zb HB) hb); have n1_ := am (hbox); have n3_ := am ((by rw [hg]; exact (below_size (zb HB)) : w.heap.size ≤ gb368)); clear HB; have HB := n0_; have BK368 := n1_; have GE368 := n3_; clear n0_ n1_ n3_; clear hb hbox hg; obtain ⟨hcz16_0, hcz16_1, hfz16_0, hfz16_1⟩ := cz2 BK368.out) | ((with_reducible refine gate_callee (f := 64) rfl ?_); refine goesL_ (some 8) rfl rfl Tryz.func64 (by kernel_rfl) rfl #[.string a0, .string a1_0] rfl zm ?_; (with_reducible refine (risk_Sink.calls a0 a1_0 t369 _ A3.out).mono ?_); rintro e w17 ⟨rfl, hb⟩; refine ⟨_, rfl, ?_⟩; have n0_ := am (blk_below (by exact BK368.out) hb); have n1_ := am (below_step (zb1 HB GE368) hb); clear BK368; clear HB; have BK368 := n0_; have HB := n1_; clear n0_ n1_; (try clear hb); obtain ⟨hcz18_0, hcz18_1, hfz18_0, hfz18_1⟩ := cz2 BK368.out) | (go_at_call 65; (with_reducible refine (risk_Nav.calls a0 a1_0 false _ A5.out).mono ?_); rintro e w19 ⟨rfl, hb⟩; have n1_ := am (below_step (zb1 HB GE368) hb); clear BK368; clear HB; have HB := n1_; clear n1_; (try clear hb)))
   go_ret
   exact ⟨ze, zb1 HB GE368⟩
 ·rw [if_neg c4] at H
  have c4b0 : (t369 == 0) = false := beq_eq_false_iff_ne.mpr c4
  have c4b1 : (t369 != 0) = true := bne_iff_ne.mpr c4
  obtain rfl := Option.some.inj H
  go_enter Tryz.func38, Tryz.ntmps38
  go_wp2_with (first | ((with_reducible refine gate_dst (N := 3) rfl ?_); refine box_event ?hg (N := 3) ?hd (cs := #[.string a1_0, .string a1_1]) (t := 45) ?hr ?_; (case hd => rfl); (case hg => rfl); (case hr => first | (go_simp; done) | (go_simp; rfl)); intro gb368 hg w20 hbox hb; have n0_ := am (below_step (zb HB) hb); have n1_ := am (hbox); have n3_ := am ((by rw [hg]; exact (below_size (zb HB)) : w.heap.size ≤ gb368)); clear HB; have HB := n0_; have BK368 := n1_; have GE368 := n3_; clear n0_ n1_ n3_; clear hb hbox hg; obtain ⟨hcz21_0, hcz21_1, hfz21_0, hfz21_1⟩ := cz2 BK368.out) | ((with_reducible refine gate_callee (f := 64) rfl ?_); refine goesL_ (some 8) rfl rfl Tryz.func64 (by kernel_rfl) rfl #[.string a0, .string a1_0] rfl zm ?_; (with_reducible refine (risk_Sink.calls a0 a1_0 t369 _ A3.out).mono ?_); rintro e w22 ⟨rfl, hb⟩; refine ⟨_, rfl, ?_⟩; have n1_ := am (below_step (zb1 HB GE368) hb); clear BK368; clear HB; have HB := n1_; clear n1_; (try clear hb)))
  go_ret
  exact ⟨ze, zb1 HB GE368⟩

def clean_Attrs.l0 : Nat → Bool → List (S45) → List (S45) → Int → Int → Int → Int → ByteArray → ByteArray → List (S45) → Bool → Bool → List ByteArray → List ByteArray → List ByteArray → List (S60) → Bool → Bool → Option ((List (S45)))
 | 0, _, _, _, _, _, _, _, _, _, _, _, _, _, _, _, _, _, _ => none
 | k + 1, x2, x7, x11, x12, x13, x373000, x373001, x373002, x373003, x373004, x374000, x374001, x374002, x374003, x374004, x374005, x374006, x374007 => if x13 < x12 then (if 0 ≤ x13 then (if x13 < (x11.length : Int) then ((config_Attr.f x374000 x374001 x374002 x374003 x374004 x374005 x374006 x374007 x373002 ((rd_T45 x11 x13).f0)).bind fun t376 => (if t376 = true then (if x2 = true then ((risk_Attr.f x373002 ((rd_T45 x11 x13).f0) ((rd_T45 x11 x13).f1)).bind fun t377 => (if t377 = true then (clean_Attrs.l0 k x2 x7 x11 x12 (wrap64 (x13 + 1)) x373000 x373001 x373002 x373003 x373004 x374000 x374001 x374002 x374003 x374004 x374005 x374006 x374007) else (if x7.length < 4398046511104 then (clean_Attrs.l0 k x2 (x7 ++ [(⟨(rd_T45 x11 x13).f0, (rd_T45 x11 x13).f1⟩ : S45)]) x11 x12 (wrap64 (x13 + 1)) x373000 x373001 x373002 x373003 x373004 x374000 x374001 x374002 x374003 x374004 x374005 x374006 x374007) else (none)))) else (if x7.length < 4398046511104 then (clean_Attrs.l0 k x2 (x7 ++ [(⟨(rd_T45 x11 x13).f0, (rd_T45 x11 x13).f1⟩ : S45)]) x11 x12 (wrap64 (x13 + 1)) x373000 x373001 x373002 x373003 x373004 x374000 x374001 x374002 x374003 x374004 x374005 x374006 x374007) else (none))) else (clean_Attrs.l0 k x2 x7 x11 x12 (wrap64 (x13 + 1)) x373000 x373001 x373002 x373003 x373004 x374000 x374001 x374002 x374003 x374004 x374005 x374006 x374007))) else (none)) else (none)) else (some x7)
def clean_Attrs.f (k : Nat) (a0_0 : Int) (a0_1 : Int) (a0_2 : ByteArray) (a0_3 : ByteArray) (l0_4 : List (S45)) (a1_0 : Bool) (a1_1 : Bool) (l1_2 : List ByteArray) (l1_3 : List ByteArray) (l1_4 : List ByteArray) (l1_5 : List (S60)) (a1_6 : Bool) (a1_7 : Bool) (a2 : Bool) : Option ((List (S45))) := clean_Attrs.l0 k a2 ([] : List (S45)) l0_4 (l0_4.length : Int) 0 a0_0 a0_1 a0_2 a0_3 l0_4 a1_0 a1_1 l1_2 l1_3 l1_4 l1_5 a1_6 a1_7
theorem clean_Attrs.mono_l : ∀ k, (∀ y0 y1 y2 y3 y4 y5 y6 y7 y8 y9 y10 y11 y12 y13 y14 y15 y16 y17, LeO (clean_Attrs.l0 k y0 y1 y2 y3 y4 y5 y6 y7 y8 y9 y10 y11 y12 y13 y14 y15 y16 y17) (clean_Attrs.l0 (k + 1) y0 y1 y2 y3 y4 y5 y6 y7 y8 y9 y10 y11 y12 y13 y14 y15 y16 y17))
 | 0 => fun _ _ _ _ _ _ _ _ _ _ _ _ _ _ _ _ _ _ r h => by simp [clean_Attrs.l0] at h
 | k + 1 => by
  have ih0 := clean_Attrs.mono_l k
  ·intro y0 y1 y2 y3 y4 y5 y6 y7 y8 y9 y10 y11 y12 y13 y14 y15 y16 y17
   unfold clean_Attrs.l0
   repeat' first
   | (with_reducible exact ih0 _ _ _ _ _ _ _ _ _ _ _ _ _ _ _ _ _ _)
   | (with_reducible exact LeO.refl _)
   | (with_reducible exact LeO.none _)
   | (with_reducible refine LeO.ite ?_ ?_)
   | (with_reducible refine LeO.bind ?_ (fun _ => ?_))
   | exact ih0 _ _ _ _ _ _ _ _ _ _ _ _ _ _ _ _ _ _
   | exact LeO.none _
   | refine LeO.ite ?_ ?_
   | refine LeO.bind ?_ (fun _ => ?_)
theorem clean_Attrs.mono : ∀ a0 a1 a2 a3 a4 a5 a6 a7 a8 a9 a10 a11 a12 a13 k, LeO (clean_Attrs.f k a0 a1 a2 a3 a4 a5 a6 a7 a8 a9 a10 a11 a12 a13) (clean_Attrs.f (k + 1) a0 a1 a2 a3 a4 a5 a6 a7 a8 a9 a10 a11 a12 a13) := by
 intro a0 a1 a2 a3 a4 a5 a6 a7 a8 a9 a10 a11 a12 a13 k
 have ih0 := clean_Attrs.mono_l k
 unfold clean_Attrs.f
 repeat' first
   | (with_reducible exact ih0 _ _ _ _ _ _ _ _ _ _ _ _ _ _ _ _ _ _)
   | (with_reducible exact LeO.refl _)
   | (with_reducible exact LeO.none _)
   | (with_reducible refine LeO.ite ?_ ?_)
   | (with_reducible refine LeO.bind ?_ (fun _ => ?_))
   | exact ih0 _ _ _ _ _ _ _ _ _ _ _ _ _ _ _ _ _ _
   | exact LeO.none _
   | refine LeO.ite ?_ ?_
   | refine LeO.bind ?_ (fun _ => ?_)
set_option maxHeartbeats 8000000 in
set_option maxRecDepth 100000 in
theorem clean_Attrs.calls (k : Nat) (a0_0 : Int) (a0_1 : Int) (a0_2 : ByteArray) (a0_3 : ByteArray) (A0_4 : Option Addr) (c0_4 : Nat) (l0_4 : List (S45)) (a1_0 : Bool) (a1_1 : Bool) (A1_2 : Option Addr) (c1_2 : Nat) (l1_2 : List ByteArray) (A1_3 : Option Addr) (c1_3 : Nat) (l1_3 : List ByteArray) (A1_4 : Option Addr) (c1_4 : Nat) (l1_4 : List ByteArray) (A1_5 : Option Addr) (c1_5 : Nat) (l1_5 : List (S60)) (a1_6 : Bool) (a1_7 : Bool) (a2 : Bool) (r : List (S45)) (w : World) (hr0_4 : Kd.C k45 w A0_4 l0_4.length l0_4) (hc0_4 : l0_4.length ≤ c0_4) (hr1_2 : Kd.C Kd.string w A1_2 l1_2.length l1_2) (hc1_2 : l1_2.length ≤ c1_2) (hr1_3 : Kd.C Kd.string w A1_3 l1_3.length l1_3) (hc1_3 : l1_3.length ≤ c1_3) (hr1_4 : Kd.C Kd.string w A1_4 l1_4.length l1_4) (hc1_4 : l1_4.length ≤ c1_4) (hr1_5 : Kd.C k60 w A1_5 l1_5.length l1_5) (hc1_5 : l1_5.length ≤ c1_5) (h : clean_Attrs.f k a0_0 a0_1 a0_2 a0_3 l0_4 a1_0 a1_1 l1_2 l1_3 l1_4 l1_5 a1_6 a1_7 a2 = some r) :
  Calls Tryz.prog 24 #[.agg #[.int .i64 a0_0, .int .i64 a0_1, .string a0_2, .string a0_3, .slice A0_4 l0_4.length c0_4], .agg #[.bool a1_0, .bool a1_1, .slice A1_2 l1_2.length c1_2, .slice A1_3 l1_3.length c1_3, .slice A1_4 l1_4.length c1_4, .slice A1_5 l1_5.length c1_5, .bool a1_6, .bool a1_7], .bool a2] w fun e w' => ∃ v0_ : Value, e = .returned (v0_) ∧ Kd.R k45 45 w' w.heap.size (fun _ => True) v0_ r ∧ Below w.heap.size w w' := by
 have hu38 := Tryz.underlying38
 have hu32 := Tryz.underlying32
 have hu45 := Tryz.underlying45
 have HR0_4 := am hr0_4
 have HC0_4 := am hc0_4
 clear hr0_4 hc0_4
 have HR1_2 := am hr1_2
 have HC1_2 := am hc1_2
 clear hr1_2 hc1_2
 have HR1_3 := am hr1_3
 have HC1_3 := am hc1_3
 clear hr1_3 hc1_3
 have HR1_4 := am hr1_4
 have HC1_4 := am hc1_4
 clear hr1_4 hc1_4
 have HR1_5 := am hr1_5
 have HC1_5 := am hc1_5
 clear hr1_5 hc1_5
 have HB := am (Below.refl w.heap.size w)
 have H : (clean_Attrs.l0 k a2 ([] : List (S45)) l0_4 (l0_4.length : Int) 0 a0_0 a0_1 a0_2 a0_3 l0_4 a1_0 a1_1 l1_2 l1_3 l1_4 l1_5 a1_6 a1_7) = some r := h
 clear h
 have H' := am H
 clear H
 go_enter Tryz.func24, Tryz.ntmps24
 go_wp2_with (first | ((with_reducible refine gate_dst (N := 3) rfl ?_); refine box_event ?hg (N := 3) ?hd (cs := #[.int .i64 a0_0, .int .i64 a0_1, .string a0_2, .string a0_3, .slice A0_4 l0_4.length c0_4]) (t := 38) ?hr ?_; (case hd => rfl); (case hg => rfl); (case hr => first | (go_simp; done) | (go_simp; rfl)); intro gb372 hg w4 hbox hb; have n0_ := am (below_step (zb HB) hb); have n1_ := am (hbox); have n3_ := am ((by rw [hg]; exact (below_size (zb HB)) : w.heap.size ≤ gb372)); clear HB; have HB := n0_; have BK372 := n1_; have GE372 := n3_; clear n0_ n1_ n3_; clear hb hbox hg) | ((with_reducible refine gate_dst (N := 4) rfl ?_); refine box_event ?hg (N := 4) ?hd (cs := #[.bool a1_0, .bool a1_1, .slice A1_2 l1_2.length c1_2, .slice A1_3 l1_3.length c1_3, .slice A1_4 l1_4.length c1_4, .slice A1_5 l1_5.length c1_5, .bool a1_6, .bool a1_7]) (t := 32) ?hr ?_; (case hd => rfl); (case hg => rfl); (case hr => first | (go_simp; done) | (go_simp; rfl)); intro gb373 hg w5 hbox hb; have n0_ := am (blk_below (by exact BK372.out) hb); have n1_ := am (below_step (zb1 HB GE372) hb); have n2_ := am (hbox); have n4_ := am ((by rw [hg]; exact (below_size (zb1 HB GE372)) : w.heap.size ≤ gb373)); have n5_ := am ((by rw [hg]; exact Nat.ne_of_lt (blk_lt (by exact BK372.out)) : gb372 ≠ gb373)); have n6_ := am ((by rw [hg]; exact Nat.ne_of_gt (blk_lt (by exact BK372.out)) : gb373 ≠ gb372)); clear BK372; clear HB; have BK372 := n0_; have HB := n1_; have BK373 := n2_; have GE373 := n4_; have NB372_373 := n5_; have NB373_372 := n6_; clear n0_ n1_ n2_ n4_ n5_ n6_; clear hb hbox hg; have hnb6 := NB372_373.out; have hnc6 := NB373_372.out; obtain ⟨hcz7_0, hcz7_1, hcz7_2, hcz7_3, hcz7_4, hfz7_0, hfz7_1, hfz7_2, hfz7_3, hfz7_4⟩ := cz5 BK372.out))
 go_loopg [7, 13] k (fun kq v7 v13 w' => ∃ (x7_1 : List (S45)) (x13_1 : Int), v13 = .int .i64 x13_1 ∧ Aside0 (clean_Attrs.l0 kq a2 x7_1 l0_4 (l0_4.length : Int) x13_1 a0_0 a0_1 a0_2 a0_3 l0_4 a1_0 a1_1 l1_2 l1_3 l1_4 l1_5 a1_6 a1_7 = some r) ∧ Aside0 (kq ≤ k) ∧ Aside0 (Kd.R k45 45 w' w.heap.size (fun _ => True) v7 x7_1) ∧ Aside0 (w'.heap[gb372]? = some (.cells #[.int .i64 a0_0, .int .i64 a0_1, .string a0_2, .string a0_3, (.slice A0_4 l0_4.length c0_4)] 38 (0, 0))) ∧ Aside0 (w'.heap[gb373]? = some (.cells #[.bool a1_0, .bool a1_1, (.slice A1_2 l1_2.length c1_2), (.slice A1_3 l1_3.length c1_3), (.slice A1_4 l1_4.length c1_4), (.slice A1_5 l1_5.length c1_5), .bool a1_6, .bool a1_7] 32 (0, 0))) ∧ Aside0 (Below w.heap.size w w'))
 case atStart => exact ⟨(([] : List (S45))), (0), zr, H', ⟨Nat.le_refl _⟩, ⟨by first | exact Kd.R_nil _ _ _ _ _ | exact Kd.N_nil _ _ _ _ _ | exact Kd.V_nil _ _ _ _ _ | exact Kd.Q_nil _ _ _ _ _ | exact Kd.S_nil _ _ _ _ _⟩, ⟨by exact BK372.out⟩, ⟨by exact BK373.out⟩, ⟨zb2 HB GE372 GE373⟩⟩
 case round =>
  clear H'
  try clear c1
  try clear c2
  try clear p2
  try clear c6
  try clear hcz7_0
  try clear hcz7_1
  try clear hcz7_2
  try clear hcz7_3
  try clear hcz7_4
  try clear hfz7_0
  try clear hfz7_1
  try clear hfz7_2
  try clear hfz7_3
  try clear hfz7_4
  obtain ⟨x7_1, x13_1, rfl, HA, HK1, HO_7, BK372, BK373, HB⟩ := hrel
  cases gk with
  | zero => exact absurd HA.out (by simp [clean_Attrs.l0])
  | succ k1 =>
   have H := HA.out
   clear HA
   simp only [clean_Attrs.l0] at H
   by_cases c8 : x13_1 < (l0_4.length : Int)
   ·rw [if_pos c8] at H
    have c8b0 : decide (x13_1 < (l0_4.length : Int)) = true := decide_eq_true c8
    clear c8
    by_cases c9 : 0 ≤ x13_1
    ·rw [if_pos c9] at H
     have c9b0 : decide (0 ≤ x13_1) = true := decide_eq_true c9
     clear c9
     by_cases c10 : x13_1 < (l0_4.length : Int)
     ·rw [if_pos c10] at H
      have c10b0 : decide (x13_1 < (l0_4.length : Int)) = true := decide_eq_true c10
      clear c10
      replace H := Option.bind_eq_some_iff.mp H
      obtain ⟨t376, A110, H⟩ := H
      have A11 := am A110
      clear A110
      by_cases c12 : t376 = true
      ·subst c12
       replace H : (if a2 = true then ((risk_Attr.f a0_2 ((rd_T45 l0_4 x13_1).f0) ((rd_T45 l0_4 x13_1).f1)).bind fun t377 => (if t377 = true then (clean_Attrs.l0 k1 a2 x7_1 l0_4 (l0_4.length : Int) (wrap64 (x13_1 + 1)) a0_0 a0_1 a0_2 a0_3 l0_4 a1_0 a1_1 l1_2 l1_3 l1_4 l1_5 a1_6 a1_7) else (if x7_1.length < 4398046511104 then (clean_Attrs.l0 k1 a2 (x7_1 ++ [(⟨(rd_T45 l0_4 x13_1).f0, (rd_T45 l0_4 x13_1).f1⟩ : S45)]) l0_4 (l0_4.length : Int) (wrap64 (x13_1 + 1)) a0_0 a0_1 a0_2 a0_3 l0_4 a1_0 a1_1 l1_2 l1_3 l1_4 l1_5 a1_6 a1_7) else (none)))) else (if x7_1.length < 4398046511104 then (clean_Attrs.l0 k1 a2 (x7_1 ++ [(⟨(rd_T45 l0_4 x13_1).f0, (rd_T45 l0_4 x13_1).f1⟩ : S45)]) l0_4 (l0_4.length : Int) (wrap64 (x13_1 + 1)) a0_0 a0_1 a0_2 a0_3 l0_4 a1_0 a1_1 l1_2 l1_3 l1_4 l1_5 a1_6 a1_7) else (none))) = some r := by rw [if_pos rfl] at H; exact H
       by_cases c13 : a2 = true
       ·subst c13
        replace H : ((risk_Attr.f a0_2 ((rd_T45 l0_4 x13_1).f0) ((rd_T45 l0_4 x13_1).f1)).bind fun t377 => (if t377 = true then (clean_Attrs.l0 k1 true x7_1 l0_4 (l0_4.length : Int) (wrap64 (x13_1 + 1)) a0_0 a0_1 a0_2 a0_3 l0_4 a1_0 a1_1 l1_2 l1_3 l1_4 l1_5 a1_6 a1_7) else (if x7_1.length < 4398046511104 then (clean_Attrs.l0 k1 true (x7_1 ++ [(⟨(rd_T45 l0_4 x13_1).f0, (rd_T45 l0_4 x13_1).f1⟩ : S45)]) l0_4 (l0_4.length : Int) (wrap64 (x13_1 + 1)) a0_0 a0_1 a0_2 a0_3 l0_4 a1_0 a1_1 l1_2 l1_3 l1_4 l1_5 a1_6 a1_7) else (none)))) = some r := by rw [if_pos rfl] at H; exact H
        replace H := Option.bind_eq_some_iff.mp H
        obtain ⟨t377, A140, H⟩ := H
        have A14 := am A140
        clear A140
        by_cases c15 : t377 = true
        ·subst c15
         replace H : (clean_Attrs.l0 k1 true x7_1 l0_4 (l0_4.length : Int) (wrap64 (x13_1 + 1)) a0_0 a0_1 a0_2 a0_3 l0_4 a1_0 a1_1 l1_2 l1_3 l1_4 l1_5 a1_6 a1_7) = some r := by rw [if_pos rfl] at H; exact H
         have H' := am H
         clear H
         have p374 : 0 ≤ (x13_1 : Int) := of_decide_eq_true za
         have q374 : x13_1 < (l0_4.length : Int) := of_decide_eq_true za
         obtain ⟨ad374, e374, hx374_0, hx374_1⟩ := at_T45 HR0_4.out x13_1 p374 q374
         cases e374
         replace hx374_0 := (HB.out.cell (World.block_lt_of_cell? w _ hx374_0)).trans hx374_0
         replace hx374_1 := (HB.out.cell (World.block_lt_of_cell? w _ hx374_1)).trans hx374_1
         replace p374 := eq_true p374
         replace q374 := eq_true q374
         go_wp2_with (first | ((with_reducible refine gate_dst (N := 9) rfl ?_); refine box_event ?hg (N := 9) ?hd (cs := #[.string (⟨#[]⟩ : ByteArray), .string (⟨#[]⟩ : ByteArray)]) (t := 45) ?hr ?_; (case hd => rfl); (case hg => rfl); (case hr => first | (go_simp; done) | (go_simp; rfl)); intro gb375 hg w16 hbox hb; have n0_ := am (Kd.R_below (Kd.R_elderB (by exact HO_7.out) gb375 (Nat.le_of_eq hg.symm)) hb); have n1_ := am (blk_below (by exact BK372.out) hb); have n2_ := am (blk_below (by exact BK373.out) hb); have n3_ := am (below_step (zb2 HB GE372 GE373) hb); have n4_ := am (hbox); have n6_ := am ((by rw [hg]; exact (below_size (zb2 HB GE372 GE373)) : w.heap.size ≤ gb375)); have n7_ := am ((by rw [hg]; exact Nat.ne_of_lt (blk_lt (by exact BK372.out)) : gb372 ≠ gb375)); have n8_ := am ((by rw [hg]; exact Nat.ne_of_gt (blk_lt (by exact BK372.out)) : gb375 ≠ gb372)); have n9_ := am ((by rw [hg]; exact Nat.ne_of_lt (blk_lt (by exact BK373.out)) : gb373 ≠ gb375)); have n10_ := am ((by rw [hg]; exact Nat.ne_of_gt (blk_lt (by exact BK373.out)) : gb375 ≠ gb373)); clear HO_7; clear BK372; clear BK373; clear HB; have HO_7 := n0_; have BK372 := n1_; have BK373 := n2_; have HB := n3_; have BK375 := n4_; have GE375 := n6_; have NB372_375 := n7_; have NB375_372 := n8_; have NB373_375 := n9_; have NB375_373 := n10_; clear n0_ n1_ n2_ n3_ n4_ n6_ n7_ n8_ n9_ n10_; clear hb hbox hg; have hnb17 := NB375_372.out; have hnc17 := NB372_375.out; have hnb18 := NB375_373.out; have hnc18 := NB373_375.out; obtain ⟨hcz19_0, hcz19_1, hfz19_0, hfz19_1⟩ := cz2 BK375.out; have hnb20 := NB373_372.out; have hnc20 := NB372_373.out; obtain ⟨hcz21_0, hcz21_1, hcz21_2, hcz21_3, hcz21_4, hcz21_5, hcz21_6, hcz21_7, hfz21_0, hfz21_1, hfz21_2, hfz21_3, hfz21_4, hfz21_5, hfz21_6, hfz21_7⟩ := cz8 BK373.out; obtain ⟨hcz22_0, hcz22_1, hcz22_2, hcz22_3, hcz22_4, hfz22_0, hfz22_1, hfz22_2, hfz22_3, hfz22_4⟩ := cz5 BK372.out) | ((with_reducible refine gate_callee (f := 46) rfl ?_); refine goesL_ (some 22) rfl rfl Tryz.func46 (by kernel_rfl) rfl #[.agg #[.bool a1_0, .bool a1_1, .slice A1_2 l1_2.length c1_2, .slice A1_3 l1_3.length c1_3, .slice A1_4 l1_4.length c1_4, .slice A1_5 l1_5.length c1_5, .bool a1_6, .bool a1_7], .string a0_2, .string ((rd_T45 l0_4 x13_1).f0)] rfl zm ?_; (with_reducible refine (config_Attr.calls a1_0 a1_1 _ _ l1_2 _ _ l1_3 _ _ l1_4 _ _ l1_5 a1_6 a1_7 a0_2 ((rd_T45 l0_4 x13_1).f0) true _ ?side1 ?side2 ?side3 ?side4 ?side5 ?side6 ?side7 ?side8 A11.out).mono ?_); (case side1 => exact Kd.C_below HR1_2.out (zb3 HB GE372 GE373 GE375)); (case side2 => exact HC1_2.out); (case side3 => exact Kd.C_below HR1_3.out (zb3 HB GE372 GE373 GE375)); (case side4 => exact HC1_3.out); (case side5 => exact Kd.C_below HR1_4.out (zb3 HB GE372 GE373 GE375)); (case side6 => exact HC1_4.out); (case side7 => exact Kd.C_below HR1_5.out (zb3 HB GE372 GE373 GE375)); (case side8 => exact HC1_5.out); rintro e w23 ⟨rfl, hb⟩; refine ⟨_, rfl, ?_⟩; have n0_ := am (Kd.R_below (by exact (Kd.R_mono (Rf2 (g := gb375) (Kd.R_mono HO_7.out (fun k_ hk => (⟨hk, hk.2⟩ : _ ∧ k_ ≠ gb375))) (fun _ hk => hk.2) (.string ((rd_T45 l0_4 x13_1).f0)) (.string ((rd_T45 l0_4 x13_1).f1))) (fun _ h_ => h_.1))) hb); have n1_ := am (blk_below (g := gb372) (o := .cells #[.int .i64 a0_0, .int .i64 a0_1, .string a0_2, .string a0_3, .slice (some ad374) l0_4.length c0_4] 38 (0, 0)) (by refine blk_far ?_ NB372_375.out _; refine blk_far ?_ NB372_375.out _; exact BK372.out) hb); have n2_ := am (blk_below (g := gb373) (o := .cells #[.bool a1_0, .bool a1_1, .slice A1_2 l1_2.length c1_2, .slice A1_3 l1_3.length c1_3, .slice A1_4 l1_4.length c1_4, .slice A1_5 l1_5.length c1_5, .bool a1_6, .bool a1_7] 32 (0, 0)) (by refine blk_far ?_ NB373_375.out _; refine blk_far ?_ NB373_375.out _; exact BK373.out) hb); have n3_ := am (blk_below (g := gb375) (o := .cells #[.string ((rd_T45 l0_4 x13_1).f0), .string ((rd_T45 l0_4 x13_1).f1)] 45 (0, 0)) (by refine blk_put (cs := #[.string ((rd_T45 l0_4 x13_1).f0), .string (⟨#[]⟩ : ByteArray)]) ?_ 1 _ rfl; refine blk_put (cs := #[.string (⟨#[]⟩ : ByteArray), .string (⟨#[]⟩ : ByteArray)]) ?_ 0 _ rfl; exact BK375.out) hb); have n4_ := am (below_step (zb3 HB GE372 GE373 GE375) hb); clear HO_7; clear BK372; clear BK373; clear BK375; clear HB; have HO_7 := n0_; have BK372 := n1_; have BK373 := n2_; have BK375 := n3_; have HB := n4_; clear n0_ n1_ n2_ n3_ n4_; (try clear hb); obtain ⟨hcz24_0, hcz24_1, hcz24_2, hcz24_3, hcz24_4, hfz24_0, hfz24_1, hfz24_2, hfz24_3, hfz24_4⟩ := cz5 BK372.out; obtain ⟨hcz25_0, hcz25_1, hfz25_0, hfz25_1⟩ := cz2 BK375.out) | (go_at_call 38; (with_reducible refine (risk_Attr.calls a0_2 ((rd_T45 l0_4 x13_1).f0) ((rd_T45 l0_4 x13_1).f1) true _ A14.out).mono ?_); rintro e w26 ⟨rfl, hb⟩; have n0_ := am (Kd.R_below (by exact HO_7.out) hb); have n1_ := am (blk_below (by exact BK372.out) hb); have n2_ := am (blk_below (by exact BK373.out) hb); have n4_ := am (below_step (zb3 HB GE372 GE373 GE375) hb); clear HO_7; clear BK372; clear BK373; clear BK375; clear HB; have HO_7 := n0_; have BK372 := n1_; have BK373 := n2_; have HB := n4_; clear n0_ n1_ n2_ n4_; (try clear hb)))
         go_roundg k1
         case measure => have := HK1.out; omega
         case rel => exact ⟨(x7_1), (wrap64 (x13_1 + 1)), zr, H', ⟨by have := HK1.out; omega⟩, ⟨by exact Kd.R_mono HO_7.out (fun _ hk => trivial)⟩, ⟨by exact BK372.out⟩, ⟨by exact BK373.out⟩, ⟨zb3 HB GE372 GE373 GE375⟩⟩
        ·replace c15 := Bool.eq_false_iff.mpr c15
         subst c15
         replace H : (if x7_1.length < 4398046511104 then (clean_Attrs.l0 k1 true (x7_1 ++ [(⟨(rd_T45 l0_4 x13_1).f0, (rd_T45 l0_4 x13_1).f1⟩ : S45)]) l0_4 (l0_4.length : Int) (wrap64 (x13_1 + 1)) a0_0 a0_1 a0_2 a0_3 l0_4 a1_0 a1_1 l1_2 l1_3 l1_4 l1_5 a1_6 a1_7) else (none)) = some r := by rw [if_neg (show ¬ (false = true) by decide)] at H; exact H
         by_cases c27 : x7_1.length < 4398046511104
         ·rw [if_pos c27] at H
          have LMc27 := am c27
          clear c27
          obtain ⟨y378, hy378⟩ : ∃ y_ : List (S45), y_ = (x7_1 ++ [(⟨(rd_T45 l0_4 x13_1).f0, (rd_T45 l0_4 x13_1).f1⟩ : S45)]) := ⟨_, rfl⟩
          replace H : (clean_Attrs.l0 k1 true y378 l0_4 (l0_4.length : Int) (wrap64 (x13_1 + 1)) a0_0 a0_1 a0_2 a0_3 l0_4 a1_0 a1_1 l1_2 l1_3 l1_4 l1_5 a1_6 a1_7) = some r := by first | (rw [hy378]; with_reducible exact H) | (have H2_ := (Option.bind_some _ _).symm.trans H; rw [hy378]; with_reducible exact H2_) | (have H2_ := (Option.bind_some _ _).symm.trans H; with_reducible exact H2_) | with_reducible exact H | (rw [hy378]; exact H) | exact H
          have Ny378 := am hy378
          clear hy378
          have H' := am H
          clear H
          have p374 : 0 ≤ (x13_1 : Int) := of_decide_eq_true za
          have q374 : x13_1 < (l0_4.length : Int) := of_decide_eq_true za
          obtain ⟨ad374, e374, hx374_0, hx374_1⟩ := at_T45 HR0_4.out x13_1 p374 q374
          cases e374
          replace hx374_0 := (HB.out.cell (World.block_lt_of_cell? w _ hx374_0)).trans hx374_0
          replace hx374_1 := (HB.out.cell (World.block_lt_of_cell? w _ hx374_1)).trans hx374_1
          replace p374 := eq_true p374
          replace q374 := eq_true q374
          go_wp2_with (first | ((with_reducible refine gate_dst (N := 9) rfl ?_); refine box_event ?hg (N := 9) ?hd (cs := #[.string (⟨#[]⟩ : ByteArray), .string (⟨#[]⟩ : ByteArray)]) (t := 45) ?hr ?_; (case hd => rfl); (case hg => rfl); (case hr => first | (go_simp; done) | (go_simp; rfl)); intro gb375 hg w28 hbox hb; have n0_ := am (Kd.R_below (Kd.R_elderB (by exact HO_7.out) gb375 (Nat.le_of_eq hg.symm)) hb); have n1_ := am (blk_below (by exact BK372.out) hb); have n2_ := am (blk_below (by exact BK373.out) hb); have n3_ := am (below_step (zb2 HB GE372 GE373) hb); have n4_ := am (hbox); have n6_ := am ((by rw [hg]; exact (below_size (zb2 HB GE372 GE373)) : w.heap.size ≤ gb375)); have n7_ := am ((by rw [hg]; exact Nat.ne_of_lt (blk_lt (by exact BK372.out)) : gb372 ≠ gb375)); have n8_ := am ((by rw [hg]; exact Nat.ne_of_gt (blk_lt (by exact BK372.out)) : gb375 ≠ gb372)); have n9_ := am ((by rw [hg]; exact Nat.ne_of_lt (blk_lt (by exact BK373.out)) : gb373 ≠ gb375)); have n10_ := am ((by rw [hg]; exact Nat.ne_of_gt (blk_lt (by exact BK373.out)) : gb375 ≠ gb373)); clear HO_7; clear BK372; clear BK373; clear HB; have HO_7 := n0_; have BK372 := n1_; have BK373 := n2_; have HB := n3_; have BK375 := n4_; have GE375 := n6_; have NB372_375 := n7_; have NB375_372 := n8_; have NB373_375 := n9_; have NB375_373 := n10_; clear n0_ n1_ n2_ n3_ n4_ n6_ n7_ n8_ n9_ n10_; clear hb hbox hg; have hnb29 := NB375_372.out; have hnc29 := NB372_375.out; have hnb30 := NB375_373.out; have hnc30 := NB373_375.out; obtain ⟨hcz31_0, hcz31_1, hfz31_0, hfz31_1⟩ := cz2 BK375.out; have hnb32 := NB373_372.out; have hnc32 := NB372_373.out; obtain ⟨hcz33_0, hcz33_1, hcz33_2, hcz33_3, hcz33_4, hcz33_5, hcz33_6, hcz33_7, hfz33_0, hfz33_1, hfz33_2, hfz33_3, hfz33_4, hfz33_5, hfz33_6, hfz33_7⟩ := cz8 BK373.out; obtain ⟨hcz34_0, hcz34_1, hcz34_2, hcz34_3, hcz34_4, hfz34_0, hfz34_1, hfz34_2, hfz34_3, hfz34_4⟩ := cz5 BK372.out) | ((with_reducible refine gate_callee (f := 46) rfl ?_); refine goesL_ (some 22) rfl rfl Tryz.func46 (by kernel_rfl) rfl #[.agg #[.bool a1_0, .bool a1_1, .slice A1_2 l1_2.length c1_2, .slice A1_3 l1_3.length c1_3, .slice A1_4 l1_4.length c1_4, .slice A1_5 l1_5.length c1_5, .bool a1_6, .bool a1_7], .string a0_2, .string ((rd_T45 l0_4 x13_1).f0)] rfl zm ?_; (with_reducible refine (config_Attr.calls a1_0 a1_1 _ _ l1_2 _ _ l1_3 _ _ l1_4 _ _ l1_5 a1_6 a1_7 a0_2 ((rd_T45 l0_4 x13_1).f0) true _ ?side1 ?side2 ?side3 ?side4 ?side5 ?side6 ?side7 ?side8 A11.out).mono ?_); (case side1 => exact Kd.C_below HR1_2.out (zb3 HB GE372 GE373 GE375)); (case side2 => exact HC1_2.out); (case side3 => exact Kd.C_below HR1_3.out (zb3 HB GE372 GE373 GE375)); (case side4 => exact HC1_3.out); (case side5 => exact Kd.C_below HR1_4.out (zb3 HB GE372 GE373 GE375)); (case side6 => exact HC1_4.out); (case side7 => exact Kd.C_below HR1_5.out (zb3 HB GE372 GE373 GE375)); (case side8 => exact HC1_5.out); rintro e w35 ⟨rfl, hb⟩; refine ⟨_, rfl, ?_⟩; have n0_ := am (Kd.R_below (by exact (Kd.R_mono (Rf2 (g := gb375) (Kd.R_mono HO_7.out (fun k_ hk => (⟨hk, hk.2⟩ : _ ∧ k_ ≠ gb375))) (fun _ hk => hk.2) (.string ((rd_T45 l0_4 x13_1).f0)) (.string ((rd_T45 l0_4 x13_1).f1))) (fun _ h_ => h_.1))) hb); have n1_ := am (blk_below (g := gb372) (o := .cells #[.int .i64 a0_0, .int .i64 a0_1, .string a0_2, .string a0_3, .slice (some ad374) l0_4.length c0_4] 38 (0, 0)) (by refine blk_far ?_ NB372_375.out _; refine blk_far ?_ NB372_375.out _; exact BK372.out) hb); have n2_ := am (blk_below (g := gb373) (o := .cells #[.bool a1_0, .bool a1_1, .slice A1_2 l1_2.length c1_2, .slice A1_3 l1_3.length c1_3, .slice A1_4 l1_4.length c1_4, .slice A1_5 l1_5.length c1_5, .bool a1_6, .bool a1_7] 32 (0, 0)) (by refine blk_far ?_ NB373_375.out _; refine blk_far ?_ NB373_375.out _; exact BK373.out) hb); have n3_ := am (blk_below (g := gb375) (o := .cells #[.string ((rd_T45 l0_4 x13_1).f0), .string ((rd_T45 l0_4 x13_1).f1)] 45 (0, 0)) (by refine blk_put (cs := #[.string ((rd_T45 l0_4 x13_1).f0), .string (⟨#[]⟩ : ByteArray)]) ?_ 1 _ rfl; refine blk_put (cs := #[.string (⟨#[]⟩ : ByteArray), .string (⟨#[]⟩ : ByteArray)]) ?_ 0 _ rfl; exact BK375.out) hb); have n4_ := am (below_step (zb3 HB GE372 GE373 GE375) hb); clear HO_7; clear BK372; clear BK373; clear BK375; clear HB; have HO_7 := n0_; have BK372 := n1_; have BK373 := n2_; have BK375 := n3_; have HB := n4_; clear n0_ n1_ n2_ n3_ n4_; (try clear hb); obtain ⟨hcz36_0, hcz36_1, hcz36_2, hcz36_3, hcz36_4, hfz36_0, hfz36_1, hfz36_2, hfz36_3, hfz36_4⟩ := cz5 BK372.out; obtain ⟨hcz37_0, hcz37_1, hfz37_0, hfz37_1⟩ := cz2 BK375.out) | (go_at_call 38; (with_reducible refine (risk_Attr.calls a0_2 ((rd_T45 l0_4 x13_1).f0) ((rd_T45 l0_4 x13_1).f1) false _ A14.out).mono ?_); rintro e w38 ⟨rfl, hb⟩; have n0_ := am (Kd.R_below (by exact HO_7.out) hb); have n1_ := am (blk_below (by exact BK372.out) hb); have n2_ := am (blk_below (by exact BK373.out) hb); have n3_ := am (blk_below (by exact BK375.out) hb); have n4_ := am (below_step (zb3 HB GE372 GE373 GE375) hb); clear HO_7; clear BK372; clear BK373; clear BK375; clear HB; have HO_7 := n0_; have BK372 := n1_; have BK373 := n2_; have BK375 := n3_; have HB := n4_; clear n0_ n1_ n2_ n3_ n4_; (try clear hb); obtain ⟨hcz39_0, hcz39_1, hfz39_0, hfz39_1⟩ := cz2 BK375.out) | ((with_reducible refine gate_builtin (b := .append) (xs := #[.tmp 33, .tmp 35]) rfl ?_); at_builtin; refine Kd.R_append k45 (w0 := w) w.heap.size rfl (.tmp 33) (.tmp 35) 36 45 (.agg #[(.string ⟨#[]⟩), (.string ⟨#[]⟩)]) 32 rfl Tryz.underlying36 info45 rfl (by decide) (by omega) u7 x7_1 (⟨(rd_T45 l0_4 x13_1).f0, (rd_T45 l0_4 x13_1).f1⟩ : S45) [.string ((rd_T45 l0_4 x13_1).f0), .string ((rd_T45 l0_4 x13_1).f1)] (fun k_ => k_ ≠ gb375) (fun _ => False) rfl rfl ?aP (fun _ hk => hk.elim) ?aF ?aO ?aB ?aS ?aL ?_; (case aP => exact k45_mkM _ _ _ (⟨(rd_T45 l0_4 x13_1).f0, (rd_T45 l0_4 x13_1).f1⟩ : S45)); (case aB => exact (zb3 HB GE372 GE373 GE375)); (case aF => exact (fun k_ hk => Kd.freshB (by exact BK375.out) k_ hk)); (case aO => exact (by exact Kd.R_mono HO_7.out (fun _ hk => hk.2))); (case aS => exact (below_size (zb3 HB GE372 GE373 GE375))); (case aL => have := LMc27.out; omega); intro v379 w40 ho hb hg hat; rw [← Ny378.out] at ho; have n0_ := am (blk_grown (by exact BK372.out) hg (Kd.R_ne HO_7.out BK372.out (by decide))); have n1_ := am (blk_grown (by exact BK373.out) hg (Kd.R_ne HO_7.out BK373.out (by decide))); have n3_ := am (hb); have n4_ := am (ho); clear BK372; clear BK373; clear BK375; clear HB; clear HO_7; have BK372 := n0_; have BK373 := n1_; have HB := n3_; have HO380 := n4_; clear n0_ n1_ n3_ n4_; clear ho hb hg hat))
          go_roundg k1
          case measure => have := HK1.out; omega
          case rel => exact ⟨(y378), (wrap64 (x13_1 + 1)), zr, H', ⟨by have := HK1.out; omega⟩, ⟨by exact Kd.R_mono HO380.out (fun _ hk => trivial)⟩, ⟨by exact BK372.out⟩, ⟨by exact BK373.out⟩, ⟨zb3 HB GE372 GE373 GE375⟩⟩
         ·rw [if_neg c27] at H
          exact absurd H (by simp)
       ·replace c13 := Bool.eq_false_iff.mpr c13
        subst c13
        replace H : (if x7_1.length < 4398046511104 then (clean_Attrs.l0 k1 false (x7_1 ++ [(⟨(rd_T45 l0_4 x13_1).f0, (rd_T45 l0_4 x13_1).f1⟩ : S45)]) l0_4 (l0_4.length : Int) (wrap64 (x13_1 + 1)) a0_0 a0_1 a0_2 a0_3 l0_4 a1_0 a1_1 l1_2 l1_3 l1_4 l1_5 a1_6 a1_7) else (none)) = some r := by rw [if_neg (show ¬ (false = true) by decide)] at H; exact H
        by_cases c41 : x7_1.length < 4398046511104
        ·rw [if_pos c41] at H
         have LMc41 := am c41
         clear c41
         obtain ⟨y381, hy381⟩ : ∃ y_ : List (S45), y_ = (x7_1 ++ [(⟨(rd_T45 l0_4 x13_1).f0, (rd_T45 l0_4 x13_1).f1⟩ : S45)]) := ⟨_, rfl⟩
         replace H : (clean_Attrs.l0 k1 false y381 l0_4 (l0_4.length : Int) (wrap64 (x13_1 + 1)) a0_0 a0_1 a0_2 a0_3 l0_4 a1_0 a1_1 l1_2 l1_3 l1_4 l1_5 a1_6 a1_7) = some r := by first | (rw [hy381]; with_reducible exact H) | (have H2_ := (Option.bind_some _ _).symm.trans H; rw [hy381]; with_reducible exact H2_) | (have H2_ := (Option.bind_some _ _).symm.trans H; with_reducible exact H2_) | with_reducible exact H | (rw [hy381]; exact H) | exact H
         have Ny381 := am hy381
         clear hy381
         have H' := am H
         clear H
         have p374 : 0 ≤ (x13_1 : Int) := of_decide_eq_true za
         have q374 : x13_1 < (l0_4.length : Int) := of_decide_eq_true za
         obtain ⟨ad374, e374, hx374_0, hx374_1⟩ := at_T45 HR0_4.out x13_1 p374 q374
         cases e374
         replace hx374_0 := (HB.out.cell (World.block_lt_of_cell? w _ hx374_0)).trans hx374_0
         replace hx374_1 := (HB.out.cell (World.block_lt_of_cell? w _ hx374_1)).trans hx374_1
         replace p374 := eq_true p374
         replace q374 := eq_true q374
         go_wp2_with (first | ((with_reducible refine gate_dst (N := 9) rfl ?_); refine box_event ?hg (N := 9) ?hd (cs := #[.string (⟨#[]⟩ : ByteArray), .string (⟨#[]⟩ : ByteArray)]) (t := 45) ?hr ?_; (case hd => rfl); (case hg => rfl); (case hr => first | (go_simp; done) | (go_simp; rfl)); intro gb375 hg w42 hbox hb; have n0_ := am (Kd.R_below (Kd.R_elderB (by exact HO_7.out) gb375 (Nat.le_of_eq hg.symm)) hb); have n1_ := am (blk_below (by exact BK372.out) hb); have n2_ := am (blk_below (by exact BK373.out) hb); have n3_ := am (below_step (zb2 HB GE372 GE373) hb); have n4_ := am (hbox); have n6_ := am ((by rw [hg]; exact (below_size (zb2 HB GE372 GE373)) : w.heap.size ≤ gb375)); have n7_ := am ((by rw [hg]; exact Nat.ne_of_lt (blk_lt (by exact BK372.out)) : gb372 ≠ gb375)); have n8_ := am ((by rw [hg]; exact Nat.ne_of_gt (blk_lt (by exact BK372.out)) : gb375 ≠ gb372)); have n9_ := am ((by rw [hg]; exact Nat.ne_of_lt (blk_lt (by exact BK373.out)) : gb373 ≠ gb375)); have n10_ := am ((by rw [hg]; exact Nat.ne_of_gt (blk_lt (by exact BK373.out)) : gb375 ≠ gb373)); clear HO_7; clear BK372; clear BK373; clear HB; have HO_7 := n0_; have BK372 := n1_; have BK373 := n2_; have HB := n3_; have BK375 := n4_; have GE375 := n6_; have NB372_375 := n7_; have NB375_372 := n8_; have NB373_375 := n9_; have NB375_373 := n10_; clear n0_ n1_ n2_ n3_ n4_ n6_ n7_ n8_ n9_ n10_; clear hb hbox hg; have hnb43 := NB375_372.out; have hnc43 := NB372_375.out; have hnb44 := NB375_373.out; have hnc44 := NB373_375.out; obtain ⟨hcz45_0, hcz45_1, hfz45_0, hfz45_1⟩ := cz2 BK375.out; have hnb46 := NB373_372.out; have hnc46 := NB372_373.out; obtain ⟨hcz47_0, hcz47_1, hcz47_2, hcz47_3, hcz47_4, hcz47_5, hcz47_6, hcz47_7, hfz47_0, hfz47_1, hfz47_2, hfz47_3, hfz47_4, hfz47_5, hfz47_6, hfz47_7⟩ := cz8 BK373.out; obtain ⟨hcz48_0, hcz48_1, hcz48_2, hcz48_3, hcz48_4, hfz48_0, hfz48_1, hfz48_2, hfz48_3, hfz48_4⟩ := cz5 BK372.out) | ((with_reducible refine gate_callee (f := 46) rfl ?_); refine goesL_ (some 22) rfl rfl Tryz.func46 (by kernel_rfl) rfl #[.agg #[.bool a1_0, .bool a1_1, .slice A1_2 l1_2.length c1_2, .slice A1_3 l1_3.length c1_3, .slice A1_4 l1_4.length c1_4, .slice A1_5 l1_5.length c1_5, .bool a1_6, .bool a1_7], .string a0_2, .string ((rd_T45 l0_4 x13_1).f0)] rfl zm ?_; (with_reducible refine (config_Attr.calls a1_0 a1_1 _ _ l1_2 _ _ l1_3 _ _ l1_4 _ _ l1_5 a1_6 a1_7 a0_2 ((rd_T45 l0_4 x13_1).f0) true _ ?side1 ?side2 ?side3 ?side4 ?side5 ?side6 ?side7 ?side8 A11.out).mono ?_); (case side1 => exact Kd.C_below HR1_2.out (zb3 HB GE372 GE373 GE375)); (case side2 => exact HC1_2.out); (case side3 => exact Kd.C_below HR1_3.out (zb3 HB GE372 GE373 GE375)); (case side4 => exact HC1_3.out); (case side5 => exact Kd.C_below HR1_4.out (zb3 HB GE372 GE373 GE375)); (case side6 => exact HC1_4.out); (case side7 => exact Kd.C_below HR1_5.out (zb3 HB GE372 GE373 GE375)); (case side8 => exact HC1_5.out); rintro e w49 ⟨rfl, hb⟩; refine ⟨_, rfl, ?_⟩; have n0_ := am (Kd.R_below (by exact (Kd.R_mono (Rf2 (g := gb375) (Kd.R_mono HO_7.out (fun k_ hk => (⟨hk, hk.2⟩ : _ ∧ k_ ≠ gb375))) (fun _ hk => hk.2) (.string ((rd_T45 l0_4 x13_1).f0)) (.string ((rd_T45 l0_4 x13_1).f1))) (fun _ h_ => h_.1))) hb); have n1_ := am (blk_below (g := gb372) (o := .cells #[.int .i64 a0_0, .int .i64 a0_1, .string a0_2, .string a0_3, .slice (some ad374) l0_4.length c0_4] 38 (0, 0)) (by refine blk_far ?_ NB372_375.out _; refine blk_far ?_ NB372_375.out _; exact BK372.out) hb); have n2_ := am (blk_below (g := gb373) (o := .cells #[.bool a1_0, .bool a1_1, .slice A1_2 l1_2.length c1_2, .slice A1_3 l1_3.length c1_3, .slice A1_4 l1_4.length c1_4, .slice A1_5 l1_5.length c1_5, .bool a1_6, .bool a1_7] 32 (0, 0)) (by refine blk_far ?_ NB373_375.out _; refine blk_far ?_ NB373_375.out _; exact BK373.out) hb); have n3_ := am (blk_below (g := gb375) (o := .cells #[.string ((rd_T45 l0_4 x13_1).f0), .string ((rd_T45 l0_4 x13_1).f1)] 45 (0, 0)) (by refine blk_put (cs := #[.string ((rd_T45 l0_4 x13_1).f0), .string (⟨#[]⟩ : ByteArray)]) ?_ 1 _ rfl; refine blk_put (cs := #[.string (⟨#[]⟩ : ByteArray), .string (⟨#[]⟩ : ByteArray)]) ?_ 0 _ rfl; exact BK375.out) hb); have n4_ := am (below_step (zb3 HB GE372 GE373 GE375) hb); clear HO_7; clear BK372; clear BK373; clear BK375; clear HB; have HO_7 := n0_; have BK372 := n1_; have BK373 := n2_; have BK375 := n3_; have HB := n4_; clear n0_ n1_ n2_ n3_ n4_; (try clear hb); obtain ⟨hcz50_0, hcz50_1, hfz50_0, hfz50_1⟩ := cz2 BK375.out) | ((with_reducible refine gate_builtin (b := .append) (xs := #[.tmp 33, .tmp 35]) rfl ?_); at_builtin; refine Kd.R_append k45 (w0 := w) w.heap.size rfl (.tmp 33) (.tmp 35) 36 45 (.agg #[(.string ⟨#[]⟩), (.string ⟨#[]⟩)]) 32 rfl Tryz.underlying36 info45 rfl (by decide) (by omega) u7 x7_1 (⟨(rd_T45 l0_4 x13_1).f0, (rd_T45 l0_4 x13_1).f1⟩ : S45) [.string ((rd_T45 l0_4 x13_1).f0), .string ((rd_T45 l0_4 x13_1).f1)] (fun k_ => k_ ≠ gb375) (fun _ => False) rfl rfl ?aP (fun _ hk => hk.elim) ?aF ?aO ?aB ?aS ?aL ?_; (case aP => exact k45_mkM _ _ _ (⟨(rd_T45 l0_4 x13_1).f0, (rd_T45 l0_4 x13_1).f1⟩ : S45)); (case aB => exact (zb3 HB GE372 GE373 GE375)); (case aF => exact (fun k_ hk => Kd.freshB (by exact BK375.out) k_ hk)); (case aO => exact (by exact Kd.R_mono HO_7.out (fun _ hk => hk.2))); (case aS => exact (below_size (zb3 HB GE372 GE373 GE375))); (case aL => have := LMc41.out; omega); intro v382 w51 ho hb hg hat; rw [← Ny381.out] at ho; have n0_ := am (blk_grown (by exact BK372.out) hg (Kd.R_ne HO_7.out BK372.out (by decide))); have n1_ := am (blk_grown (by exact BK373.out) hg (Kd.R_ne HO_7.out BK373.out (by decide))); have n3_ := am (hb); have n4_ := am (ho); clear BK372; clear BK373; clear BK375; clear HB; clear HO_7; have BK372 := n0_; have BK373 := n1_; have HB := n3_; have HO383 := n4_; clear n0_ n1_ n3_ n4_; clear ho hb hg hat))
         go_roundg k1
         case measure => have := HK1.out; omega
         case rel => exact ⟨(y381), (wrap64 (x13_1 + 1)), zr, H', ⟨by have := HK1.out; omega⟩, ⟨by exact Kd.R_mono HO383.out (fun _ hk => trivial)⟩, ⟨by exact BK372.out⟩, ⟨by exact BK373.out⟩, ⟨zb3 HB GE372 GE373 GE375⟩⟩
        ·rw [if_neg c41] at H
         exact absurd H (by simp)
      ·replace c12 := Bool.eq_false_iff.mpr c12
       subst c12
       replace H : (clean_Attrs.l0 k1 a2 x7_1 l0_4 (l0_4.length : Int) (wrap64 (x13_1 + 1)) a0_0 a0_1 a0_2 a0_3 l0_4 a1_0 a1_1 l1_2 l1_3 l1_4 l1_5 a1_6 a1_7) = some r := by rw [if_neg (show ¬ (false = true) by decide)] at H; exact H
       have H' := am H
       clear H
       have p374 : 0 ≤ (x13_1 : Int) := of_decide_eq_true za
       have q374 : x13_1 < (l0_4.length : Int) := of_decide_eq_true za
       obtain ⟨ad374, e374, hx374_0, hx374_1⟩ := at_T45 HR0_4.out x13_1 p374 q374
       cases e374
       replace hx374_0 := (HB.out.cell (World.block_lt_of_cell? w _ hx374_0)).trans hx374_0
       replace hx374_1 := (HB.out.cell (World.block_lt_of_cell? w _ hx374_1)).trans hx374_1
       replace p374 := eq_true p374
       replace q374 := eq_true q374
       go_wp2_with (first | ((with_reducible refine gate_dst (N := 9) rfl ?_); refine box_event ?hg (N := 9) ?hd (cs := #[.string (⟨#[]⟩ : ByteArray), .string (⟨#[]⟩ : ByteArray)]) (t := 45) ?hr ?_; (case hd => rfl); (case hg => rfl); (case hr => first | (go_simp; done) | (go_simp; rfl)); intro gb375 hg w52 hbox hb; have n0_ := am (Kd.R_below (Kd.R_elderB (by exact HO_7.out) gb375 (Nat.le_of_eq hg.symm)) hb); have n1_ := am (blk_below (by exact BK372.out) hb); have n2_ := am (blk_below (by exact BK373.out) hb); have n3_ := am (below_step (zb2 HB GE372 GE373) hb); have n4_ := am (hbox); have n6_ := am ((by rw [hg]; exact (below_size (zb2 HB GE372 GE373)) : w.heap.size ≤ gb375)); have n7_ := am ((by rw [hg]; exact Nat.ne_of_lt (blk_lt (by exact BK372.out)) : gb372 ≠ gb375)); have n8_ := am ((by rw [hg]; exact Nat.ne_of_gt (blk_lt (by exact BK372.out)) : gb375 ≠ gb372)); have n9_ := am ((by rw [hg]; exact Nat.ne_of_lt (blk_lt (by exact BK373.out)) : gb373 ≠ gb375)); have n10_ := am ((by rw [hg]; exact Nat.ne_of_gt (blk_lt (by exact BK373.out)) : gb375 ≠ gb373)); clear HO_7; clear BK372; clear BK373; clear HB; have HO_7 := n0_; have BK372 := n1_; have BK373 := n2_; have HB := n3_; have BK375 := n4_; have GE375 := n6_; have NB372_375 := n7_; have NB375_372 := n8_; have NB373_375 := n9_; have NB375_373 := n10_; clear n0_ n1_ n2_ n3_ n4_ n6_ n7_ n8_ n9_ n10_; clear hb hbox hg; have hnb53 := NB375_372.out; have hnc53 := NB372_375.out; have hnb54 := NB375_373.out; have hnc54 := NB373_375.out; obtain ⟨hcz55_0, hcz55_1, hfz55_0, hfz55_1⟩ := cz2 BK375.out; have hnb56 := NB373_372.out; have hnc56 := NB372_373.out; obtain ⟨hcz57_0, hcz57_1, hcz57_2, hcz57_3, hcz57_4, hcz57_5, hcz57_6, hcz57_7, hfz57_0, hfz57_1, hfz57_2, hfz57_3, hfz57_4, hfz57_5, hfz57_6, hfz57_7⟩ := cz8 BK373.out; obtain ⟨hcz58_0, hcz58_1, hcz58_2, hcz58_3, hcz58_4, hfz58_0, hfz58_1, hfz58_2, hfz58_3, hfz58_4⟩ := cz5 BK372.out) | ((with_reducible refine gate_callee (f := 46) rfl ?_); refine goesL_ (some 22) rfl rfl Tryz.func46 (by kernel_rfl) rfl #[.agg #[.bool a1_0, .bool a1_1, .slice A1_2 l1_2.length c1_2, .slice A1_3 l1_3.length c1_3, .slice A1_4 l1_4.length c1_4, .slice A1_5 l1_5.length c1_5, .bool a1_6, .bool a1_7], .string a0_2, .string ((rd_T45 l0_4 x13_1).f0)] rfl zm ?_; (with_reducible refine (config_Attr.calls a1_0 a1_1 _ _ l1_2 _ _ l1_3 _ _ l1_4 _ _ l1_5 a1_6 a1_7 a0_2 ((rd_T45 l0_4 x13_1).f0) false _ ?side1 ?side2 ?side3 ?side4 ?side5 ?side6 ?side7 ?side8 A11.out).mono ?_); (case side1 => exact Kd.C_below HR1_2.out (zb3 HB GE372 GE373 GE375)); (case side2 => exact HC1_2.out); (case side3 => exact Kd.C_below HR1_3.out (zb3 HB GE372 GE373 GE375)); (case side4 => exact HC1_3.out); (case side5 => exact Kd.C_below HR1_4.out (zb3 HB GE372 GE373 GE375)); (case side6 => exact HC1_4.out); (case side7 => exact Kd.C_below HR1_5.out (zb3 HB GE372 GE373 GE375)); (case side8 => exact HC1_5.out); rintro e w59 ⟨rfl, hb⟩; refine ⟨_, rfl, ?_⟩; have n0_ := am (Kd.R_below (by exact (Kd.R_mono (Rf2 (g := gb375) (Kd.R_mono HO_7.out (fun k_ hk => (⟨hk, hk.2⟩ : _ ∧ k_ ≠ gb375))) (fun _ hk => hk.2) (.string ((rd_T45 l0_4 x13_1).f0)) (.string ((rd_T45 l0_4 x13_1).f1))) (fun _ h_ => h_.1))) hb); have n1_ := am (blk_below (g := gb372) (o := .cells #[.int .i64 a0_0, .int .i64 a0_1, .string a0_2, .string a0_3, .slice (some ad374) l0_4.length c0_4] 38 (0, 0)) (by refine blk_far ?_ NB372_375.out _; refine blk_far ?_ NB372_375.out _; exact BK372.out) hb); have n2_ := am (blk_below (g := gb373) (o := .cells #[.bool a1_0, .bool a1_1, .slice A1_2 l1_2.length c1_2, .slice A1_3 l1_3.length c1_3, .slice A1_4 l1_4.length c1_4, .slice A1_5 l1_5.length c1_5, .bool a1_6, .bool a1_7] 32 (0, 0)) (by refine blk_far ?_ NB373_375.out _; refine blk_far ?_ NB373_375.out _; exact BK373.out) hb); have n4_ := am (below_step (zb3 HB GE372 GE373 GE375) hb); clear HO_7; clear BK372; clear BK373; clear BK375; clear HB; have HO_7 := n0_; have BK372 := n1_; have BK373 := n2_; have HB := n4_; clear n0_ n1_ n2_ n4_; (try clear hb)))
       go_roundg k1
       case measure => have := HK1.out; omega
       case rel => exact ⟨(x7_1), (wrap64 (x13_1 + 1)), zr, H', ⟨by have := HK1.out; omega⟩, ⟨by exact Kd.R_mono HO_7.out (fun _ hk => trivial)⟩, ⟨by exact BK372.out⟩, ⟨by exact BK373.out⟩, ⟨zb3 HB GE372 GE373 GE375⟩⟩
     ·rw [if_neg c10] at H
      exact absurd H (by simp)
    ·rw [if_neg c9] at H
     exact absurd H (by simp)
   ·rw [if_neg c8] at H
    have c8b0 : decide (x13_1 < (l0_4.length : Int)) = false := decide_eq_false c8
    clear c8
    obtain rfl := Option.some.inj H
    go_wp2
    go_ret
    exact ⟨_, ze, by exact HO_7.out, zb2 HB GE372 GE373⟩


mutual
def rows_row.j0 : Nat → Bool → Int → Int → ByteArray → ByteArray → List (S45) → Option (Bool)
 | 0, _, _, _, _, _, _ => none
 | k + 1, x14, x385000, x385001, x385002, x385003, x385004 => if x14 = true then (if x385002.toList = ([] : List UInt8) then (some ((x385004.length : Int) == 0)) else (some false)) else (if x385001 = 0 then (if x385002.toList = ([] : List UInt8) then (rows_row.j1 k true x385000 x385001 x385002 x385003 x385004) else (rows_row.j1 k (x385003.toList != ([] : List UInt8)) x385000 x385001 x385002 x385003 x385004)) else (rows_row.j1 k true x385000 x385001 x385002 x385003 x385004))
def rows_row.j1 : Nat → Bool → Int → Int → ByteArray → ByteArray → List (S45) → Option (Bool)
 | 0, _, _, _, _, _, _ => none
 | k + 1, x36, x385000, x385001, x385002, x385003, x385004 => if x36 = true then (some false) else (rows_row.l0 k x385004 (x385004.length : Int) 0 x385000 x385001 x385002 x385003 x385004)
def rows_row.l0 : Nat → List (S45) → Int → Int → Int → Int → ByteArray → ByteArray → List (S45) → Option (Bool)
 | 0, _, _, _, _, _, _, _, _ => none
 | k + 1, x38, x39, x40, x385000, x385001, x385002, x385003, x385004 => if x40 < x39 then (if 0 ≤ x40 then (if x40 < (x38.length : Int) then (if x40 ≤ (x385004.length : Int) then ((some (x385004.take (x40 : Int).toNat : List (S45))).bind fun y387 => (rows_row.l1 k x38 x39 x40 y387 (y387.length : Int) 0 x385000 x385001 x385002 x385003 x385004 ((rd_T45 x38 x40).f0) ((rd_T45 x38 x40).f1))) else (none)) else (none)) else (none)) else (some true)
def rows_row.l1 : Nat → List (S45) → Int → Int → List (S45) → Int → Int → Int → Int → ByteArray → ByteArray → List (S45) → ByteArray → ByteArray → Option (Bool)
 | 0, _, _, _, _, _, _, _, _, _, _, _, _, _ => none
 | k + 1, x38, x39, x40, x48, x49, x50, x385000, x385001, x385002, x385003, x385004, x387000, x387001 => if x50 < x49 then (if 0 ≤ x50 then (if x50 < (x48.length : Int) then (if x387000.toList = ((rd_T45 x48 x50).f0).toList then (some false) else (rows_row.l1 k x38 x39 x40 x48 x49 (wrap64 (x50 + 1)) x385000 x385001 x385002 x385003 x385004 x387000 x387001)) else (none)) else (none)) else (rows_row.l0 k x38 x39 (wrap64 (x40 + 1)) x385000 x385001 x385002 x385003 x385004)
end
def rows_row.f (k : Nat) (a0_0 : Int) (a0_1 : Int) (a0_2 : ByteArray) (a0_3 : ByteArray) (l0_4 : List (S45)) : Option (Bool) := if a0_1 = 1 then (rows_row.j0 k true a0_0 a0_1 a0_2 a0_3 l0_4) else (rows_row.j0 k (a0_1 == 2) a0_0 a0_1 a0_2 a0_3 l0_4)
theorem rows_row.mono_l : ∀ k, (∀ y0 y1 y2 y3 y4 y5, LeO (rows_row.j0 k y0 y1 y2 y3 y4 y5) (rows_row.j0 (k + 1) y0 y1 y2 y3 y4 y5)) ∧ (∀ y0 y1 y2 y3 y4 y5, LeO (rows_row.j1 k y0 y1 y2 y3 y4 y5) (rows_row.j1 (k + 1) y0 y1 y2 y3 y4 y5)) ∧ (∀ y0 y1 y2 y3 y4 y5 y6 y7, LeO (rows_row.l0 k y0 y1 y2 y3 y4 y5 y6 y7) (rows_row.l0 (k + 1) y0 y1 y2 y3 y4 y5 y6 y7)) ∧ (∀ y0 y1 y2 y3 y4 y5 y6 y7 y8 y9 y10 y11 y12, LeO (rows_row.l1 k y0 y1 y2 y3 y4 y5 y6 y7 y8 y9 y10 y11 y12) (rows_row.l1 (k + 1) y0 y1 y2 y3 y4 y5 y6 y7 y8 y9 y10 y11 y12))
 | 0 => ⟨fun _ _ _ _ _ _ r h => by simp [rows_row.j0] at h, fun _ _ _ _ _ _ r h => by simp [rows_row.j1] at h, fun _ _ _ _ _ _ _ _ r h => by simp [rows_row.l0] at h, fun _ _ _ _ _ _ _ _ _ _ _ _ _ r h => by simp [rows_row.l1] at h⟩
 | k + 1 => by
  obtain ⟨ih0, ih1, ih2, ih3⟩ := rows_row.mono_l k
  refine ⟨?_, ?_, ?_, ?_⟩
  ·intro y0 y1 y2 y3 y4 y5
   unfold rows_row.j0
   repeat' first
   | (with_reducible exact ih0 _ _ _ _ _ _)
   | (with_reducible exact ih1 _ _ _ _ _ _)
   | (with_reducible exact ih2 _ _ _ _ _ _ _ _)
   | (with_reducible exact ih3 _ _ _ _ _ _ _ _ _ _ _ _ _)
   | (with_reducible exact LeO.refl _)
   | (with_reducible exact LeO.none _)
   | (with_reducible refine LeO.ite ?_ ?_)
   | (with_reducible refine LeO.bind ?_ (fun _ => ?_))
   | exact ih0 _ _ _ _ _ _
   | exact ih1 _ _ _ _ _ _
   | exact ih2 _ _ _ _ _ _ _ _
   | exact ih3 _ _ _ _ _ _ _ _ _ _ _ _ _
   | exact LeO.none _
   | refine LeO.ite ?_ ?_
   | refine LeO.bind ?_ (fun _ => ?_)
  ·intro y0 y1 y2 y3 y4 y5
   unfold rows_row.j1
   repeat' first
   | (with_reducible exact ih0 _ _ _ _ _ _)
   | (with_reducible exact ih1 _ _ _ _ _ _)
   | (with_reducible exact ih2 _ _ _ _ _ _ _ _)
   | (with_reducible exact ih3 _ _ _ _ _ _ _ _ _ _ _ _ _)
   | (with_reducible exact LeO.refl _)
   | (with_reducible exact LeO.none _)
   | (with_reducible refine LeO.ite ?_ ?_)
   | (with_reducible refine LeO.bind ?_ (fun _ => ?_))
   | exact ih0 _ _ _ _ _ _
   | exact ih1 _ _ _ _ _ _
   | exact ih2 _ _ _ _ _ _ _ _
   | exact ih3 _ _ _ _ _ _ _ _ _ _ _ _ _
   | exact LeO.none _
   | refine LeO.ite ?_ ?_
   | refine LeO.bind ?_ (fun _ => ?_)
  ·intro y0 y1 y2 y3 y4 y5 y6 y7
   unfold rows_row.l0
   repeat' first
   | (with_reducible exact ih0 _ _ _ _ _ _)
   | (with_reducible exact ih1 _ _ _ _ _ _)
   | (with_reducible exact ih2 _ _ _ _ _ _ _ _)
   | (with_reducible exact ih3 _ _ _ _ _ _ _ _ _ _ _ _ _)
   | (with_reducible exact LeO.refl _)
   | (with_reducible exact LeO.none _)
   | (with_reducible refine LeO.ite ?_ ?_)
   | (with_reducible refine LeO.bind ?_ (fun _ => ?_))
   | exact ih0 _ _ _ _ _ _
   | exact ih1 _ _ _ _ _ _
   | exact ih2 _ _ _ _ _ _ _ _
   | exact ih3 _ _ _ _ _ _ _ _ _ _ _ _ _
   | exact LeO.none _
   | refine LeO.ite ?_ ?_
   | refine LeO.bind ?_ (fun _ => ?_)
  ·intro y0 y1 y2 y3 y4 y5 y6 y7 y8 y9 y10 y11 y12
   unfold rows_row.l1
   repeat' first
   | (with_reducible exact ih0 _ _ _ _ _ _)
   | (with_reducible exact ih1 _ _ _ _ _ _)
   | (with_reducible exact ih2 _ _ _ _ _ _ _ _)
   | (with_reducible exact ih3 _ _ _ _ _ _ _ _ _ _ _ _ _)
   | (with_reducible exact LeO.refl _)
   | (with_reducible exact LeO.none _)
   | (with_reducible refine LeO.ite ?_ ?_)
   | (with_reducible refine LeO.bind ?_ (fun _ => ?_))
   | exact ih0 _ _ _ _ _ _
   | exact ih1 _ _ _ _ _ _
   | exact ih2 _ _ _ _ _ _ _ _
   | exact ih3 _ _ _ _ _ _ _ _ _ _ _ _ _
   | exact LeO.none _
   | refine LeO.ite ?_ ?_
   | refine LeO.bind ?_ (fun _ => ?_)
theorem rows_row.mono : ∀ a0 a1 a2 a3 a4 k, LeO (rows_row.f k a0 a1 a2 a3 a4) (rows_row.f (k + 1) a0 a1 a2 a3 a4) := by
 intro a0 a1 a2 a3 a4 k
 obtain ⟨ih0, ih1, ih2, ih3⟩ := rows_row.mono_l k
 unfold rows_row.f
 repeat' first
   | (with_reducible exact ih0 _ _ _ _ _ _)
   | (with_reducible exact ih1 _ _ _ _ _ _)
   | (with_reducible exact ih2 _ _ _ _ _ _ _ _)
   | (with_reducible exact ih3 _ _ _ _ _ _ _ _ _ _ _ _ _)
   | (with_reducible exact LeO.refl _)
   | (with_reducible exact LeO.none _)
   | (with_reducible refine LeO.ite ?_ ?_)
   | (with_reducible refine LeO.bind ?_ (fun _ => ?_))
   | exact ih0 _ _ _ _ _ _
   | exact ih1 _ _ _ _ _ _
   | exact ih2 _ _ _ _ _ _ _ _
   | exact ih3 _ _ _ _ _ _ _ _ _ _ _ _ _
   | exact LeO.none _
   | refine LeO.ite ?_ ?_
   | refine LeO.bind ?_ (fun _ => ?_)
set_option maxHeartbeats 8000000 in
set_option maxRecDepth 100000 in
theorem rows_row.calls (k : Nat) (a0_0 : Int) (a0_1 : Int) (a0_2 : ByteArray) (a0_3 : ByteArray) (A0_4 : Option Addr) (c0_4 : Nat) (l0_4 : List (S45)) (r : Bool) (w : World) (hr0_4 : Kd.C k45 w A0_4 l0_4.length l0_4) (hc0_4 : l0_4.length ≤ c0_4) (h : rows_row.f k a0_0 a0_1 a0_2 a0_3 l0_4 = some r) :
  Calls Tryz.prog 96 #[.agg #[.int .i64 a0_0, .int .i64 a0_1, .string a0_2, .string a0_3, .slice A0_4 l0_4.length c0_4]] w fun e w' => e = .returned (.bool r) ∧ Below w.heap.size w w' := by
 have hu38 := Tryz.underlying38
 have hu45 := Tryz.underlying45
 have HR0_4 := am hr0_4
 have HC0_4 := am hc0_4
 clear hr0_4 hc0_4
 have HB := am (Below.refl w.heap.size w)
 have H : (if a0_1 = 1 then (rows_row.j0 k true a0_0 a0_1 a0_2 a0_3 l0_4) else (rows_row.j0 k (a0_1 == 2) a0_0 a0_1 a0_2 a0_3 l0_4)) = some r := h
 clear h
 have HC2 := am H
 clear H
 go_enter Tryz.func96, Tryz.ntmps96
 go_upto_region 1 with (first | ((with_reducible refine gate_dst (N := 1) rfl ?_); (try (refine gate_guard (by rfl) ?_; dsimp only)); refine box_event ?hg (N := 1) ?hd (cs := #[.int .i64 a0_0, .int .i64 a0_1, .string a0_2, .string a0_3, .slice A0_4 l0_4.length c0_4]) (t := 38) ?hr ?_; (case hd => rfl); (case hg => rfl); (case hr => first | (go_simp; done) | (go_simp; rfl)); intro gb384 hg w3 hbox hb; have n0_ := am (below_step (zb HB) hb); have n1_ := am (hbox); have n2_ := am ((by rw [hg]; exact (below_size (zb HB)) : w.heap.size ≤ gb384)); have n3_ := am ((by rw [hg]; exact (below_size (zb HB)) : w.heap.size ≤ gb384)); clear HB; have HB := n0_; have BK384 := n1_; have GW384 := n2_; have GE384 := n3_; clear n0_ n1_ n2_ n3_; clear hb hbox hg))
 (try simp only [Act.put, List.setIfInBounds_toArray, List.set_cons_zero, List.set_cons_succ])
 go_cut [14] (fun v14 wc => ∃ (kq : Nat) (x14_1 : Bool), v14 = .bool x14_1 ∧ Aside0 (rows_row.j0 kq x14_1 a0_0 a0_1 a0_2 a0_3 l0_4 = some r) ∧ Aside0 (kq ≤ k) ∧ Aside0 (wc.heap[gb384]? = some (.cells #[.int .i64 a0_0, .int .i64 a0_1, .string a0_2, .string a0_3, (.slice A0_4 l0_4.length c0_4)] 38 (0, 0))) ∧ Aside0 (Below w.heap.size w wc))
 case first =>
  have H := HC2.out
  clear HC2
  by_cases c4 : a0_1 = 1
  ·rw [if_pos c4] at H
   have c4b0 : (a0_1 == 1) = true := beq_iff_eq.mpr c4
   have c4b1 : (a0_1 != 1) = false := bne_eq_false_iff_eq.mpr c4
   clear c4
   (first | rw [c4b0] | (simp only [i64_w, i32_w]; rw [c4b0]) | skip)
   have H' := am H
   clear H
   obtain ⟨hcz5_0, hcz5_1, hcz5_2, hcz5_3, hcz5_4, hfz5_0, hfz5_1, hfz5_2, hfz5_3, hfz5_4⟩ := cz5 BK384.out
   go_wp2
   go_meet
   case rel => exact ⟨_, (true), (zt), H', ⟨by first | omega | exact Nat.le_refl _⟩, ⟨by exact BK384.out⟩, ⟨zb1 HB GE384⟩⟩
  ·rw [if_neg c4] at H
   have c4b0 : (a0_1 == 1) = false := beq_eq_false_iff_ne.mpr c4
   have c4b1 : (a0_1 != 1) = true := bne_iff_ne.mpr c4
   (first | rw [c4b0] | (simp only [i64_w, i32_w]; rw [c4b0]) | skip)
   have H' := am H
   clear H
   obtain ⟨hcz6_0, hcz6_1, hcz6_2, hcz6_3, hcz6_4, hfz6_0, hfz6_1, hfz6_2, hfz6_3, hfz6_4⟩ := cz5 BK384.out
   go_wp2
   go_meet
   case rel => exact ⟨_, ((a0_1 == 2)), (zt), H', ⟨by first | omega | exact Nat.le_refl _⟩, ⟨by exact BK384.out⟩, ⟨zb1 HB GE384⟩⟩
 case rest =>
  clear HC2
  try clear p2
  try clear c4
  try clear c4b0
  try clear c4b1
  try clear hcz5_0
  try clear hcz5_1
  try clear hcz5_2
  try clear hcz5_3
  try clear hcz5_4
  try clear hcz6_0
  try clear hcz6_1
  try clear hcz6_2
  try clear hcz6_3
  try clear hcz6_4
  try clear hfz5_0
  try clear hfz5_1
  try clear hfz5_2
  try clear hfz5_3
  try clear hfz5_4
  try clear hfz6_0
  try clear hfz6_1
  try clear hfz6_2
  try clear hfz6_3
  try clear hfz6_4
  obtain ⟨kq, x14_1, rfl, HA, HJ1, BK384, HB⟩ := hcut
  cases kq with
  | zero => exact absurd HA.out (by simp [rows_row.j0])
  | succ kj1 =>
   have H := HA.out
   clear HA
   simp only [rows_row.j0] at H
   by_cases c7 : x14_1 = true
   ·subst c7
    replace H : (if a0_2.toList = ([] : List UInt8) then (some ((l0_4.length : Int) == 0)) else (some false)) = some r := by rw [if_pos rfl] at H; exact H
    by_cases c8 : a0_2.toList = ([] : List UInt8)
    ·rw [if_pos c8] at H
     have c8b0 : (a0_2.toList == ([] : List UInt8)) = true := beq_iff_eq.mpr c8
     have c8b1 : (a0_2.toList != ([] : List UInt8)) = false := bne_eq_false_iff_eq.mpr c8
     clear c8
     obtain rfl := Option.some.inj H
     obtain ⟨hcz9_0, hcz9_1, hcz9_2, hcz9_3, hcz9_4, hfz9_0, hfz9_1, hfz9_2, hfz9_3, hfz9_4⟩ := cz5 BK384.out
     go_wp2
     go_ret
     exact ⟨ze, zb1 HB GE384⟩
    ·rw [if_neg c8] at H
     have c8b0 : (a0_2.toList == ([] : List UInt8)) = false := beq_eq_false_iff_ne.mpr c8
     have c8b1 : (a0_2.toList != ([] : List UInt8)) = true := bne_iff_ne.mpr c8
     obtain rfl := Option.some.inj H
     obtain ⟨hcz10_0, hcz10_1, hcz10_2, hcz10_3, hcz10_4, hfz10_0, hfz10_1, hfz10_2, hfz10_3, hfz10_4⟩ := cz5 BK384.out
     go_wp2
     go_ret
     exact ⟨ze, zb1 HB GE384⟩
   ·replace c7 := Bool.eq_false_iff.mpr c7
    subst c7
    replace H : (if a0_1 = 0 then (if a0_2.toList = ([] : List UInt8) then (rows_row.j1 kj1 true a0_0 a0_1 a0_2 a0_3 l0_4) else (rows_row.j1 kj1 (a0_3.toList != ([] : List UInt8)) a0_0 a0_1 a0_2 a0_3 l0_4)) else (rows_row.j1 kj1 true a0_0 a0_1 a0_2 a0_3 l0_4)) = some r := by rw [if_neg (show ¬ (false = true) by decide)] at H; exact H
    have HC11 := am H
    clear H
    go_upto_region 3 with (fail)
    go_cut [36] (fun v36 wc => ∃ (kq : Nat) (x36_10 : Bool), v36 = .bool x36_10 ∧ Aside0 (rows_row.j1 kq x36_10 a0_0 a0_1 a0_2 a0_3 l0_4 = some r) ∧ Aside0 (kq ≤ kj1) ∧ Aside0 (wc.heap[gb384]? = some (.cells #[.int .i64 a0_0, .int .i64 a0_1, .string a0_2, .string a0_3, (.slice A0_4 l0_4.length c0_4)] 38 (0, 0))) ∧ Aside0 (Below w.heap.size w wc))
    case first =>
     have H := HC11.out
     clear HC11
     by_cases c12 : a0_1 = 0
     ·rw [if_pos c12] at H
      have c12b0 : (a0_1 == 0) = true := beq_iff_eq.mpr c12
      have c12b1 : (a0_1 != 0) = false := bne_eq_false_iff_eq.mpr c12
      clear c12
      (first | rw [c12b0] | (simp only [i64_w, i32_w]; rw [c12b0]) | skip)
      by_cases c13 : a0_2.toList = ([] : List UInt8)
      ·rw [if_pos c13] at H
       have c13b0 : (a0_2.toList == ([] : List UInt8)) = true := beq_iff_eq.mpr c13
       have c13b1 : (a0_2.toList != ([] : List UInt8)) = false := bne_eq_false_iff_eq.mpr c13
       clear c13
       have H' := am H
       clear H
       obtain ⟨hcz14_0, hcz14_1, hcz14_2, hcz14_3, hcz14_4, hfz14_0, hfz14_1, hfz14_2, hfz14_3, hfz14_4⟩ := cz5 BK384.out
       go_wp2
       go_meet
       case rel => exact ⟨_, (true), (zt), H', ⟨by have := HJ1.out; first | omega | exact Nat.le_refl _⟩, ⟨by exact BK384.out⟩, ⟨zb1 HB GE384⟩⟩
      ·rw [if_neg c13] at H
       have c13b0 : (a0_2.toList == ([] : List UInt8)) = false := beq_eq_false_iff_ne.mpr c13
       have c13b1 : (a0_2.toList != ([] : List UInt8)) = true := bne_iff_ne.mpr c13
       have H' := am H
       clear H
       obtain ⟨hcz15_0, hcz15_1, hcz15_2, hcz15_3, hcz15_4, hfz15_0, hfz15_1, hfz15_2, hfz15_3, hfz15_4⟩ := cz5 BK384.out
       go_wp2
       go_meet
       case rel => exact ⟨_, ((a0_3.toList != ([] : List UInt8))), (zt), H', ⟨by have := HJ1.out; first | omega | exact Nat.le_refl _⟩, ⟨by exact BK384.out⟩, ⟨zb1 HB GE384⟩⟩
     ·rw [if_neg c12] at H
      have c12b0 : (a0_1 == 0) = false := beq_eq_false_iff_ne.mpr c12
      have c12b1 : (a0_1 != 0) = true := bne_iff_ne.mpr c12
      (first | rw [c12b0] | (simp only [i64_w, i32_w]; rw [c12b0]) | skip)
      have H' := am H
      clear H
      obtain ⟨hcz16_0, hcz16_1, hcz16_2, hcz16_3, hcz16_4, hfz16_0, hfz16_1, hfz16_2, hfz16_3, hfz16_4⟩ := cz5 BK384.out
      go_wp2
      go_meet
      case rel => exact ⟨_, (true), (zt), H', ⟨by have := HJ1.out; first | omega | exact Nat.le_refl _⟩, ⟨by exact BK384.out⟩, ⟨zb1 HB GE384⟩⟩
    case rest =>
     clear HC11
     try clear c1
     try clear p2
     try clear c4
     try clear c4b0
     try clear c4b1
     try clear c7
     try clear c8
     try clear c8b0
     try clear c8b1
     try clear c9
     try clear c12
     try clear c12b0
     try clear c12b1
     try clear c13
     try clear c13b0
     try clear c13b1
     try clear hcz10_0
     try clear hcz10_1
     try clear hcz10_2
     try clear hcz10_3
     try clear hcz10_4
     try clear hcz14_0
     try clear hcz14_1
     try clear hcz14_2
     try clear hcz14_3
     try clear hcz14_4
     try clear hcz15_0
     try clear hcz15_1
     try clear hcz15_2
     try clear hcz15_3
     try clear hcz15_4
     try clear hcz16_0
     try clear hcz16_1
     try clear hcz16_2
     try clear hcz16_3
     try clear hcz16_4
     try clear hcz5_0
     try clear hcz5_1
     try clear hcz5_2
     try clear hcz5_3
     try clear hcz5_4
     try clear hcz6_0
     try clear hcz6_1
     try clear hcz6_2
     try clear hcz6_3
     try clear hcz6_4
     try clear hcz9_0
     try clear hcz9_1
     try clear hcz9_2
     try clear hcz9_3
     try clear hcz9_4
     try clear hfz10_0
     try clear hfz10_1
     try clear hfz10_2
     try clear hfz10_3
     try clear hfz10_4
     try clear hfz14_0
     try clear hfz14_1
     try clear hfz14_2
     try clear hfz14_3
     try clear hfz14_4
     try clear hfz15_0
     try clear hfz15_1
     try clear hfz15_2
     try clear hfz15_3
     try clear hfz15_4
     try clear hfz16_0
     try clear hfz16_1
     try clear hfz16_2
     try clear hfz16_3
     try clear hfz16_4
     try clear hfz5_0
     try clear hfz5_1
     try clear hfz5_2
     try clear hfz5_3
     try clear hfz5_4
     try clear hfz6_0
     try clear hfz6_1
     try clear hfz6_2
     try clear hfz6_3
     try clear hfz6_4
     try clear hfz9_0
     try clear hfz9_1
     try clear hfz9_2
     try clear hfz9_3
     try clear hfz9_4
     try clear p2
     obtain ⟨kq, x36_10, rfl, HA, HJ10, BK384, HB⟩ := hcut
     cases kq with
     | zero => exact absurd HA.out (by simp [rows_row.j1])
     | succ kj10 =>
      have H := HA.out
      clear HA
      simp only [rows_row.j1] at H
      by_cases c17 : x36_10 = true
      ·subst c17
       replace H : (some false) = some r := by rw [if_pos rfl] at H; exact H
       obtain rfl := Option.some.inj H
       go_wp2
       go_ret
       exact ⟨ze, zb1 HB GE384⟩
      ·replace c17 := Bool.eq_false_iff.mpr c17
       subst c17
       replace H : (rows_row.l0 kj10 l0_4 (l0_4.length : Int) 0 a0_0 a0_1 a0_2 a0_3 l0_4) = some r := by rw [if_neg (show ¬ (false = true) by decide)] at H; exact H
       have H' := am H
       clear H
       obtain ⟨hcz18_0, hcz18_1, hcz18_2, hcz18_3, hcz18_4, hfz18_0, hfz18_1, hfz18_2, hfz18_3, hfz18_4⟩ := cz5 BK384.out
       go_wp2
       go_loopg [40] kj10 (fun kq v40 w' => ∃ (x40_3 : Int), v40 = .int .i64 x40_3 ∧ Aside0 (rows_row.l0 kq l0_4 (l0_4.length : Int) x40_3 a0_0 a0_1 a0_2 a0_3 l0_4 = some r) ∧ Aside0 (kq ≤ kj10) ∧ Aside0 (w'.heap[gb384]? = some (.cells #[.int .i64 a0_0, .int .i64 a0_1, .string a0_2, .string a0_3, (.slice A0_4 l0_4.length c0_4)] 38 (0, 0))) ∧ Aside0 (Below w.heap.size w w'))
       case atStart => exact ⟨(0), (zt), H', ⟨Nat.le_refl _⟩, ⟨by exact BK384.out⟩, ⟨zb1 HB GE384⟩⟩
       case round =>
        clear H'
        try clear c1
        try clear p2
        try clear c4
        try clear c4b0
        try clear c4b1
        try clear c7
        try clear c8
        try clear c8b0
        try clear c8b1
        try clear c9
        try clear c12
        try clear c12b0
        try clear c12b1
        try clear c13
        try clear c13b0
        try clear c13b1
        try clear c17
        try clear hcz10_0
        try clear hcz10_1
        try clear hcz10_2
        try clear hcz10_3
        try clear hcz10_4
        try clear hcz14_0
        try clear hcz14_1
        try clear hcz14_2
        try clear hcz14_3
        try clear hcz14_4
        try clear hcz15_0
        try clear hcz15_1
        try clear hcz15_2
        try clear hcz15_3
        try clear hcz15_4
        try clear hcz16_0
        try clear hcz16_1
        try clear hcz16_2
        try clear hcz16_3
        try clear hcz16_4
        try clear hcz18_0
        try clear hcz18_1
        try clear hcz18_2
        try clear hcz18_3
        try clear hcz18_4
        try clear hcz5_0
        try clear hcz5_1
        try clear hcz5_2
        try clear hcz5_3
        try clear hcz5_4
        try clear hcz6_0
        try clear hcz6_1
        try clear hcz6_2
        try clear hcz6_3
        try clear hcz6_4
        try clear hcz9_0
        try clear hcz9_1
        try clear hcz9_2
        try clear hcz9_3
        try clear hcz9_4
        try clear hfz10_0
        try clear hfz10_1
        try clear hfz10_2
        try clear hfz10_3
        try clear hfz10_4
        try clear hfz14_0
        try clear hfz14_1
        try clear hfz14_2
        try clear hfz14_3
        try clear hfz14_4
        try clear hfz15_0
        try clear hfz15_1
        try clear hfz15_2
        try clear hfz15_3
        try clear hfz15_4
        try clear hfz16_0
        try clear hfz16_1
        try clear hfz16_2
        try clear hfz16_3
        try clear hfz16_4
        try clear hfz18_0
        try clear hfz18_1
        try clear hfz18_2
        try clear hfz18_3
        try clear hfz18_4
        try clear hfz5_0
        try clear hfz5_1
        try clear hfz5_2
        try clear hfz5_3
        try clear hfz5_4
        try clear hfz6_0
        try clear hfz6_1
        try clear hfz6_2
        try clear hfz6_3
        try clear hfz6_4
        try clear hfz9_0
        try clear hfz9_1
        try clear hfz9_2
        try clear hfz9_3
        try clear hfz9_4
        try clear p2
        obtain ⟨x40_3, rfl, HA, HK3, BK384, HB⟩ := hrel
        cases gk with
        | zero => exact absurd HA.out (by simp [rows_row.l0])
        | succ k3 =>
         have H := HA.out
         clear HA
         simp only [rows_row.l0] at H
         by_cases c19 : x40_3 < (l0_4.length : Int)
         ·rw [if_pos c19] at H
          have c19b0 : decide (x40_3 < (l0_4.length : Int)) = true := decide_eq_true c19
          clear c19
          by_cases c20 : 0 ≤ x40_3
          ·rw [if_pos c20] at H
           have c20b0 : decide (0 ≤ x40_3) = true := decide_eq_true c20
           clear c20
           by_cases c21 : x40_3 < (l0_4.length : Int)
           ·rw [if_pos c21] at H
            have c21b0 : decide (x40_3 < (l0_4.length : Int)) = true := decide_eq_true c21
            clear c21
            have c22b0 := eq_true (of_decide_eq_true za : 0 ≤ x40_3)
            by_cases c23 : x40_3 ≤ (l0_4.length : Int)
            ·rw [if_pos c23] at H
             have c23b0 := eq_true c23
             have c23b1 : decide (x40_3 ≤ (l0_4.length : Int)) = true := decide_eq_true c23
             clear c23
             obtain ⟨y387, hy387⟩ : ∃ y_ : List (S45), y_ = (l0_4.take (x40_3 : Int).toNat) := ⟨_, rfl⟩
             replace H : (rows_row.l1 k3 l0_4 (l0_4.length : Int) x40_3 y387 (y387.length : Int) 0 a0_0 a0_1 a0_2 a0_3 l0_4 ((rd_T45 l0_4 x40_3).f0) ((rd_T45 l0_4 x40_3).f1)) = some r := by first | (rw [hy387]; with_reducible exact H) | (have H2_ := (Option.bind_some _ _).symm.trans H; rw [hy387]; with_reducible exact H2_) | (have H2_ := (Option.bind_some _ _).symm.trans H; with_reducible exact H2_) | with_reducible exact H | (rw [hy387]; exact H) | exact H
             have Ny387 := am hy387
             clear hy387
             have H' := am H
             clear H
             have p385 : 0 ≤ (x40_3 : Int) := of_decide_eq_true za
             have q385 : x40_3 < (l0_4.length : Int) := of_decide_eq_true za
             obtain ⟨ad385, e385, hx385_0, hx385_1⟩ := at_T45 HR0_4.out x40_3 p385 q385
             cases e385
             replace hx385_0 := (HB.out.cell (World.block_lt_of_cell? w _ hx385_0)).trans hx385_0
             replace hx385_1 := (HB.out.cell (World.block_lt_of_cell? w _ hx385_1)).trans hx385_1
             replace p385 := eq_true p385
             replace q385 := eq_true q385
             go_wp2_with (first | ((with_reducible refine gate_dst (N := 4) rfl ?_); (try (refine gate_guard (by rfl) ?_; dsimp only)); refine box_event ?hg (N := 4) ?hd (cs := #[.string (⟨#[]⟩ : ByteArray), .string (⟨#[]⟩ : ByteArray)]) (t := 45) ?hr ?_; (case hd => rfl); (case hg => rfl); (case hr => first | (go_simp; done) | (go_simp; rfl)); intro gb386 hg w24 hbox hb; have n0_ := am (blk_below (by exact BK384.out) hb); have n1_ := am (below_step (zb1 HB GE384) hb); have n2_ := am (hbox); have n4_ := am ((by rw [hg]; exact (below_size (zb1 HB GE384)) : w.heap.size ≤ gb386)); have n5_ := am ((by rw [hg]; exact Nat.ne_of_lt (blk_lt (by exact BK384.out)) : gb384 ≠ gb386)); have n6_ := am ((by rw [hg]; exact Nat.ne_of_gt (blk_lt (by exact BK384.out)) : gb386 ≠ gb384)); clear BK384; clear HB; have BK384 := n0_; have HB := n1_; have BK386 := n2_; have GE386 := n4_; have NB384_386 := n5_; have NB386_384 := n6_; clear n0_ n1_ n2_ n4_ n5_ n6_; clear hb hbox hg; have hnb25 := NB386_384.out; have hnc25 := NB384_386.out; obtain ⟨hcz26_0, hcz26_1, hfz26_0, hfz26_1⟩ := cz2 BK386.out) | ((with_reducible refine gate_store (t := 45) (p := 4) rfl ?_); refine store_event (t := 45) (p := 4) (v := ?vo_w27) (w1 := ((w24.setCell ⟨gb386, 0, none⟩ (.string ((rd_T45 l0_4 x40_3).f0))).setCell ⟨gb386, 1, none⟩ (.string ((rd_T45 l0_4 x40_3).f1)))) ?hg ?ho ?hn ?hr ?_; (case ho => rfl); (case hg => rfl); (case hn => rfl); (case hr => first | (go_simp; done) | (go_simp; rfl)); intro w27 hw; have n0_ : Aside0 (w27.heap[gb384]? = some (.cells #[.int .i64 a0_0, .int .i64 a0_1, .string a0_2, .string a0_3, .slice (some ad385) l0_4.length c0_4] 38 (0, 0))) := ⟨(by rw [hw]; exact (by refine blk_far ?_ NB384_386.out _; refine blk_far ?_ NB384_386.out _; exact BK384.out))⟩; have n1_ : Aside0 (w27.heap[gb386]? = some (.cells #[.string ((rd_T45 l0_4 x40_3).f0), .string ((rd_T45 l0_4 x40_3).f1)] 45 (0, 0))) := ⟨(by rw [hw]; exact (by refine blk_put (cs := #[.string ((rd_T45 l0_4 x40_3).f0), .string (⟨#[]⟩ : ByteArray)]) ?_ 1 _ rfl; refine blk_put (cs := #[.string (⟨#[]⟩ : ByteArray), .string (⟨#[]⟩ : ByteArray)]) ?_ 0 _ rfl; exact BK386.out))⟩; have n2_ : Aside0 (Below w.heap.size w w27) := ⟨(by rw [hw]; exact (zb2 HB GE384 GE386))⟩; clear hw; clear BK384; clear BK386; clear HB; have BK384 := n0_; have BK386 := n1_; have HB := n2_; clear n0_ n1_ n2_; obtain ⟨hcz28_0, hcz28_1, hcz28_2, hcz28_3, hcz28_4, hfz28_0, hfz28_1, hfz28_2, hfz28_3, hfz28_4⟩ := cz5 BK384.out; have q29 : (x40_3 : Int) ≤ ((l0_4.length : Int) : Int) := of_decide_eq_true za; obtain ⟨i029, hi029, _, hsz29, _⟩ := info_parts info45; have hroom29 : l0_4.length ≤ c0_4 := HC0_4.out; have hC29 : Kd.C k45 _ (some ad385) l0_4.length l0_4 := HR0_4.out; have hcut29 := cut_to (P := Tryz.prog) 36 45 .i64 Tryz.underlying36 hi029 (some ad385) l0_4.length c0_4 x40_3 (of_decide_eq_true za) q29 hroom29; have hr29 := Kd.C_take (m := (x40_3 : Int).toNat) hC29 (by omega); have hy29 : y387.length = (x40_3 : Int).toNat := (by rw [Ny387.out, List.length_take]; omega); rw [← Ny387.out] at hr29; rw [← hy29] at hcut29; have HR390 := am hr29; have HC390 := am (show y387.length ≤ c0_4 from by omega); clear hr29 hC29 hroom29 hi029 hsz29; have KY29 := am hy29; clear hy29; replace q29 := eq_true q29))
             go_loopg [50] k3 (fun kq v50 w' => ∃ (x50_4 : Int), v50 = .int .i64 x50_4 ∧ Aside0 (rows_row.l1 kq l0_4 (l0_4.length : Int) x40_3 y387 (y387.length : Int) x50_4 a0_0 a0_1 a0_2 a0_3 l0_4 ((rd_T45 l0_4 x40_3).f0) ((rd_T45 l0_4 x40_3).f1) = some r) ∧ Aside0 (kq ≤ k3) ∧ Aside0 (w'.heap[gb384]? = some (.cells #[.int .i64 a0_0, .int .i64 a0_1, .string a0_2, .string a0_3, (.slice (some ad385) l0_4.length c0_4)] 38 (0, 0))) ∧ Aside0 (w'.heap[gb386]? = some (.cells #[.string ((rd_T45 l0_4 x40_3).f0), .string ((rd_T45 l0_4 x40_3).f1)] 45 (0, 0))) ∧ Aside0 (Below w.heap.size w w'))
             case atStart => exact ⟨(0), (zt), H', ⟨Nat.le_refl _⟩, ⟨by exact BK384.out⟩, ⟨by exact BK386.out⟩, ⟨zb2 HB GE384 GE386⟩⟩
             case round =>
              clear H'
              try clear c1
              try clear c2
              try clear p2
              try clear q2
              try clear p3
              try clear q3
              try clear hx3
              try clear c4
              try clear c4b0
              try clear c4b1
              try clear c7
              try clear c8
              try clear c8b0
              try clear c8b1
              try clear c9
              try clear c12
              try clear c12b0
              try clear c12b1
              try clear c13
              try clear c13b0
              try clear c13b1
              try clear c17
              try clear c19
              try clear c19b0
              try clear c20
              try clear c20b0
              try clear c21
              try clear c21b0
              try clear c22
              try clear c22b0
              try clear c23
              try clear c23b0
              try clear c23b1
              try clear c25
              try clear q29
              try clear hcz10_0
              try clear hcz10_1
              try clear hcz10_2
              try clear hcz10_3
              try clear hcz10_4
              try clear hcz14_0
              try clear hcz14_1
              try clear hcz14_2
              try clear hcz14_3
              try clear hcz14_4
              try clear hcz15_0
              try clear hcz15_1
              try clear hcz15_2
              try clear hcz15_3
              try clear hcz15_4
              try clear hcz16_0
              try clear hcz16_1
              try clear hcz16_2
              try clear hcz16_3
              try clear hcz16_4
              try clear hcz18_0
              try clear hcz18_1
              try clear hcz18_2
              try clear hcz18_3
              try clear hcz18_4
              try clear hcz26_0
              try clear hcz26_1
              try clear hcz28_0
              try clear hcz28_1
              try clear hcz28_2
              try clear hcz28_3
              try clear hcz28_4
              try clear hcz5_0
              try clear hcz5_1
              try clear hcz5_2
              try clear hcz5_3
              try clear hcz5_4
              try clear hcz6_0
              try clear hcz6_1
              try clear hcz6_2
              try clear hcz6_3
              try clear hcz6_4
              try clear hcz9_0
              try clear hcz9_1
              try clear hcz9_2
              try clear hcz9_3
              try clear hcz9_4
              try clear hfz10_0
              try clear hfz10_1
              try clear hfz10_2
              try clear hfz10_3
              try clear hfz10_4
              try clear hfz14_0
              try clear hfz14_1
              try clear hfz14_2
              try clear hfz14_3
              try clear hfz14_4
              try clear hfz15_0
              try clear hfz15_1
              try clear hfz15_2
              try clear hfz15_3
              try clear hfz15_4
              try clear hfz16_0
              try clear hfz16_1
              try clear hfz16_2
              try clear hfz16_3
              try clear hfz16_4
              try clear hfz18_0
              try clear hfz18_1
              try clear hfz18_2
              try clear hfz18_3
              try clear hfz18_4
              try clear hfz26_0
              try clear hfz26_1
              try clear hfz28_0
              try clear hfz28_1
              try clear hfz28_2
              try clear hfz28_3
              try clear hfz28_4
              try clear hfz5_0
              try clear hfz5_1
              try clear hfz5_2
              try clear hfz5_3
              try clear hfz5_4
              try clear hfz6_0
              try clear hfz6_1
              try clear hfz6_2
              try clear hfz6_3
              try clear hfz6_4
              try clear hfz9_0
              try clear hfz9_1
              try clear hfz9_2
              try clear hfz9_3
              try clear hfz9_4
              try clear hx385_0
              try clear hx385_1
              try clear p2
              try clear p385
              try clear q29
              try clear q385
              obtain ⟨x50_4, rfl, HA, HK4, BK384, BK386, HB⟩ := hrel
              cases gk with
              | zero => exact absurd HA.out (by simp [rows_row.l1])
              | succ k4 =>
               have H := HA.out
               clear HA
               simp only [rows_row.l1] at H
               by_cases c30 : x50_4 < (y387.length : Int)
               ·rw [if_pos c30] at H
                have c30b0 : decide (x50_4 < (y387.length : Int)) = true := decide_eq_true c30
                clear c30
                by_cases c31 : 0 ≤ x50_4
                ·rw [if_pos c31] at H
                 have c31b0 : decide (0 ≤ x50_4) = true := decide_eq_true c31
                 clear c31
                 by_cases c32 : x50_4 < (y387.length : Int)
                 ·rw [if_pos c32] at H
                  have c32b0 : decide (x50_4 < (y387.length : Int)) = true := decide_eq_true c32
                  clear c32
                  by_cases c33 : ((rd_T45 l0_4 x40_3).f0).toList = ((rd_T45 y387 x50_4).f0).toList
                  ·rw [if_pos c33] at H
                   have c33b0 : (((rd_T45 l0_4 x40_3).f0).toList == ((rd_T45 y387 x50_4).f0).toList) = true := beq_iff_eq.mpr c33
                   have c33b1 : (((rd_T45 l0_4 x40_3).f0).toList != ((rd_T45 y387 x50_4).f0).toList) = false := bne_eq_false_iff_eq.mpr c33
                   clear c33
                   obtain rfl := Option.some.inj H
                   have p391 : 0 ≤ (x50_4 : Int) := of_decide_eq_true za
                   have q391 : x50_4 < (y387.length : Int) := of_decide_eq_true za
                   obtain ⟨ad391, e391, hx391_0, hx391_1⟩ := at_T45 HR390.out x50_4 p391 q391
                   obtain rfl : ad385 = ad391 := (by injection e391)
                   replace hx391_0 := (HB.out.cell (World.block_lt_of_cell? w _ hx391_0)).trans hx391_0
                   replace hx391_1 := (HB.out.cell (World.block_lt_of_cell? w _ hx391_1)).trans hx391_1
                   replace p391 := eq_true p391
                   replace q391 := eq_true q391
                   go_wp2_with (first | ((with_reducible refine gate_dst (N := 6) rfl ?_); (try (refine gate_guard (by rfl) ?_; dsimp only)); refine box_event ?hg (N := 6) ?hd (cs := #[.string (⟨#[]⟩ : ByteArray), .string (⟨#[]⟩ : ByteArray)]) (t := 45) ?hr ?_; (case hd => rfl); (case hg => rfl); (case hr => first | (go_simp; done) | (go_simp; rfl)); intro gb392 hg w34 hbox hb; have n1_ := am (blk_below (by exact BK386.out) hb); have n2_ := am (below_step (zb2 HB GE384 GE386) hb); have n3_ := am (hbox); have n5_ := am ((by rw [hg]; exact (below_size (zb2 HB GE384 GE386)) : w.heap.size ≤ gb392)); have n6_ := am ((by rw [hg]; exact Nat.ne_of_lt (blk_lt (by exact BK384.out)) : gb384 ≠ gb392)); have n7_ := am ((by rw [hg]; exact Nat.ne_of_gt (blk_lt (by exact BK384.out)) : gb392 ≠ gb384)); have n8_ := am ((by rw [hg]; exact Nat.ne_of_lt (blk_lt (by exact BK386.out)) : gb386 ≠ gb392)); have n9_ := am ((by rw [hg]; exact Nat.ne_of_gt (blk_lt (by exact BK386.out)) : gb392 ≠ gb386)); clear BK384; clear BK386; clear HB; have BK386 := n1_; have HB := n2_; have BK392 := n3_; have GE392 := n5_; have NB384_392 := n6_; have NB392_384 := n7_; have NB386_392 := n8_; have NB392_386 := n9_; clear n1_ n2_ n3_ n5_ n6_ n7_ n8_ n9_; clear hb hbox hg; have hnb35 := NB392_384.out; have hnc35 := NB384_392.out; have hnb36 := NB392_386.out; have hnc36 := NB386_392.out; obtain ⟨hcz37_0, hcz37_1, hfz37_0, hfz37_1⟩ := cz2 BK392.out; have hnb38 := NB386_384.out; have hnc38 := NB384_386.out; obtain ⟨hcz39_0, hcz39_1, hfz39_0, hfz39_1⟩ := cz2 BK386.out))
                   go_ret
                   exact ⟨ze, zb3 HB GE384 GE386 GE392⟩
                  ·rw [if_neg c33] at H
                   have c33b0 : (((rd_T45 l0_4 x40_3).f0).toList == ((rd_T45 y387 x50_4).f0).toList) = false := beq_eq_false_iff_ne.mpr c33
                   have c33b1 : (((rd_T45 l0_4 x40_3).f0).toList != ((rd_T45 y387 x50_4).f0).toList) = true := bne_iff_ne.mpr c33
                   have H' := am H
                   clear H
                   have p391 : 0 ≤ (x50_4 : Int) := of_decide_eq_true za
                   have q391 : x50_4 < (y387.length : Int) := of_decide_eq_true za
                   obtain ⟨ad391, e391, hx391_0, hx391_1⟩ := at_T45 HR390.out x50_4 p391 q391
                   obtain rfl : ad385 = ad391 := (by injection e391)
                   replace hx391_0 := (HB.out.cell (World.block_lt_of_cell? w _ hx391_0)).trans hx391_0
                   replace hx391_1 := (HB.out.cell (World.block_lt_of_cell? w _ hx391_1)).trans hx391_1
                   replace p391 := eq_true p391
                   replace q391 := eq_true q391
                   go_wp2_with (first | ((with_reducible refine gate_dst (N := 6) rfl ?_); (try (refine gate_guard (by rfl) ?_; dsimp only)); refine box_event ?hg (N := 6) ?hd (cs := #[.string (⟨#[]⟩ : ByteArray), .string (⟨#[]⟩ : ByteArray)]) (t := 45) ?hr ?_; (case hd => rfl); (case hg => rfl); (case hr => first | (go_simp; done) | (go_simp; rfl)); intro gb392 hg w40 hbox hb; have n0_ := am (blk_below (by exact BK384.out) hb); have n1_ := am (blk_below (by exact BK386.out) hb); have n2_ := am (below_step (zb2 HB GE384 GE386) hb); have n3_ := am (hbox); have n5_ := am ((by rw [hg]; exact (below_size (zb2 HB GE384 GE386)) : w.heap.size ≤ gb392)); have n6_ := am ((by rw [hg]; exact Nat.ne_of_lt (blk_lt (by exact BK384.out)) : gb384 ≠ gb392)); have n7_ := am ((by rw [hg]; exact Nat.ne_of_gt (blk_lt (by exact BK384.out)) : gb392 ≠ gb384)); have n8_ := am ((by rw [hg]; exact Nat.ne_of_lt (blk_lt (by exact BK386.out)) : gb386 ≠ gb392)); have n9_ := am ((by rw [hg]; exact Nat.ne_of_gt (blk_lt (by exact BK386.out)) : gb392 ≠ gb386)); clear BK384; clear BK386; clear HB; have BK384 := n0_; have BK386 := n1_; have HB := n2_; have BK392 := n3_; have GE392 := n5_; have NB384_392 := n6_; have NB392_384 := n7_; have NB386_392 := n8_; have NB392_386 := n9_; clear n0_ n1_ n2_ n3_ n5_ n6_ n7_ n8_ n9_; clear hb hbox hg; have hnb41 := NB392_384.out; have hnc41 := NB384_392.out; have hnb42 := NB392_386.out; have hnc42 := NB386_392.out; obtain ⟨hcz43_0, hcz43_1, hfz43_0, hfz43_1⟩ := cz2 BK392.out; have hnb44 := NB386_384.out; have hnc44 := NB384_386.out; obtain ⟨hcz45_0, hcz45_1, hfz45_0, hfz45_1⟩ := cz2 BK386.out))
                   go_roundg k4
                   case measure => have := HJ1.out; have := HJ10.out; have := HK3.out; have := HK4.out; omega
                   case rel => exact ⟨(wrap64 (x50_4 + 1)), (zt), H', ⟨by have := HJ1.out; have := HJ10.out; have := HK3.out; have := HK4.out; omega⟩, ⟨by refine blk_far ?_ NB384_392.out _; refine blk_far ?_ NB384_392.out _; exact BK384.out⟩, ⟨by refine blk_far ?_ NB386_392.out _; refine blk_far ?_ NB386_392.out _; exact BK386.out⟩, ⟨zb3 HB GE384 GE386 GE392⟩⟩
                 ·rw [if_neg c32] at H
                  exact absurd H (by simp)
                ·rw [if_neg c31] at H
                 exact absurd H (by simp)
               ·rw [if_neg c30] at H
                have c30b0 : decide (x50_4 < (y387.length : Int)) = false := decide_eq_false c30
                clear c30
                have H' := am H
                clear H
                go_wp2
                go_roundg k4
                case measure => have := HJ1.out; have := HJ10.out; have := HK3.out; have := HK4.out; omega
                case rel => exact ⟨(wrap64 (x40_3 + 1)), (zt), H', ⟨by have := HJ1.out; have := HJ10.out; have := HK3.out; have := HK4.out; omega⟩, ⟨by exact BK384.out⟩, ⟨zb2 HB GE384 GE386⟩⟩
            ·rw [if_neg c23] at H
             exact absurd H (by simp)
           ·rw [if_neg c21] at H
            exact absurd H (by simp)
          ·rw [if_neg c20] at H
           exact absurd H (by simp)
         ·rw [if_neg c19] at H
          have c19b0 : decide (x40_3 < (l0_4.length : Int)) = false := decide_eq_false c19
          clear c19
          obtain rfl := Option.some.inj H
          go_wp2
          go_ret
          exact ⟨ze, zb1 HB GE384⟩

end Go.Proofs.YticacakoefojbaaGreat.Pr
