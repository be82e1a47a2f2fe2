import Derived.Test.YticacakoefojbaaGreatJCleanTexts1
import Derived.OpenShut
import Derived.ShutString
import Derived.SizedLaws
import Derived.WalkKit
import Derived.ProofKit
import Derived.ChangeOld
import Derived.Below
namespace Go.Proofs.YticacakoefojbaaGreat.Pr
open Go.RowKit Go.Proofs.YticacakoefojbaaGreatW.PrintWords Go.Proofs.YticacakoefojbaaGreatW.PrintLast Go.Proofs.YticacakoefojbaaGreatW.PrintMore
attribute [local go_sem] max2_int min2_int max_two min_two max_three min_three max_four min_four   -- for this text's walks alone
set_option linter.unusedVariables false
set_option linter.unusedSimpArgs false

def config_lists.l0 : Nat → List ByteArray → List (List ByteArray) → List (S60) → Int → Int → Bool → Bool → List ByteArray → List ByteArray → List ByteArray → List (S60) → Bool → Bool → Option ((List (List ByteArray)) × (List (List ByteArray)))
 | 0, _, _, _, _, _, _, _, _, _, _, _, _, _ => none
 | k + 1, x4, x5, x12, x13, x14, x102000, x102001, x102002, x102003, x102004, x102005, x102006, x102007 => if x14 < x13 then (if 0 ≤ x14 then (if x14 < (x12.length : Int) then (if x4.length < 8796093022208 then (if x5.length < 5864062014805 then (config_lists.l0 k (x4 ++ [(rd_T60 x12 x14).f0]) (x5 ++ [(rd_T60 x12 x14).f1]) x12 x13 (wrap64 (x14 + 1)) x102000 x102001 x102002 x102003 x102004 x102005 x102006 x102007) else (none)) else (none)) else (none)) else (none)) else (some ((([x102002, x102003, x4] : List (List ByteArray))), x5))
def config_lists.f (k : Nat) (a0_0 : Bool) (a0_1 : Bool) (l0_2 : List ByteArray) (l0_3 : List ByteArray) (l0_4 : List ByteArray) (l0_5 : List (S60)) (a0_6 : Bool) (a0_7 : Bool) : Option ((List (List ByteArray)) × (List (List ByteArray))) := config_lists.l0 k ([] : List ByteArray) (([l0_4] : List (List ByteArray))) l0_5 (l0_5.length : Int) 0 a0_0 a0_1 l0_2 l0_3 l0_4 l0_5 a0_6 a0_7
set_option maxHeartbeats 8000000 in
set_option maxRecDepth 100000 in
theorem config_lists.calls (k : Nat) (a0_0 : Bool) (a0_1 : Bool) (P0_2_ : Nat → Prop) (A0_2 : Option Addr) (c0_2 : Nat) (l0_2 : List ByteArray) (P0_3_ : Nat → Prop) (A0_3 : Option Addr) (c0_3 : Nat) (l0_3 : List ByteArray) (P0_4_ : Nat → Prop) (A0_4 : Option Addr) (c0_4 : Nat) (l0_4 : List ByteArray) (P0_5_ : Nat → Prop) (A0_5 : Option Addr) (c0_5 : Nat) (l0_5 : List (S60)) (a0_6 : Bool) (a0_7 : Bool) (r1 : List (List ByteArray)) (r2 : List (List ByteArray)) (w : World) (hs0_2 : Kd.V Kd.string 9 w w.heap.size (fun k_ => P0_2_ k_) (.slice A0_2 l0_2.length c0_2) l0_2) (hs0_3 : Kd.V Kd.string 9 w w.heap.size (fun k_ => P0_3_ k_) (.slice A0_3 l0_3.length c0_3) l0_3) (hs0_4 : Kd.V Kd.string 9 w w.heap.size (fun k_ => P0_4_ k_) (.slice A0_4 l0_4.length c0_4) l0_4) (hs0_5 : Kd.V k60 60 w w.heap.size (fun k_ => P0_5_ k_) (.slice A0_5 l0_5.length c0_5) l0_5) (h : config_lists.f k a0_0 a0_1 l0_2 l0_3 l0_4 l0_5 a0_6 a0_7 = some (r1, r2)) :
  Calls Tryz.prog 51 #[.agg #[.bool a0_0, .bool a0_1, .slice A0_2 l0_2.length c0_2, .slice A0_3 l0_3.length c0_3, .slice A0_4 l0_4.length c0_4, .slice A0_5 l0_5.length c0_5, .bool a0_6, .bool a0_7]] w fun e w' => ∃ v0_ v1_ : Value, e = .returned (.tuple #[v0_, v1_]) ∧ Kd.N (Kd.slice 9 Kd.string) 29 w' w.heap.size (fun k_ => ((P0_2_ k_ ∨ P0_3_ k_ ∨ P0_4_ k_ ∨ P0_5_ k_) ∨ w.heap.size ≤ k_) ∧ some k_ ≠ (v1_ : Value).ownBlock) v0_ r1 ∧ Kd.N (Kd.slice 9 Kd.string) 29 w' w.heap.size (fun k_ => ((P0_2_ k_ ∨ P0_3_ k_ ∨ P0_4_ k_ ∨ P0_5_ k_) ∨ w.heap.size ≤ k_) ∧ some k_ ≠ (v0_ : Value).ownBlock) v1_ r2 ∧ Below w.heap.size w w' := by
 have hu32 := Tryz.underlying32
 have hu60 := Tryz.underlying60
 have HO0_2 := Aside0.mk (show Kd.V Kd.string 9 w w.heap.size (fun k_ => ((P0_2_ k_ ∨ P0_3_ k_ ∨ P0_4_ k_ ∨ P0_5_ k_) ∨ w.heap.size ≤ k_)) (.slice A0_2 l0_2.length c0_2) l0_2 from Kd.V_mono hs0_2 (fun k_ hk => .inl (.inl hk)))
 have HO0_3 := Aside0.mk (show Kd.V Kd.string 9 w w.heap.size (fun k_ => ((P0_2_ k_ ∨ P0_3_ k_ ∨ P0_4_ k_ ∨ P0_5_ k_) ∨ w.heap.size ≤ k_)) (.slice A0_3 l0_3.length c0_3) l0_3 from Kd.V_mono hs0_3 (fun k_ hk => .inl (.inr (.inl hk))))
 have HO0_4 := Aside0.mk (show Kd.V Kd.string 9 w w.heap.size (fun k_ => ((P0_2_ k_ ∨ P0_3_ k_ ∨ P0_4_ k_ ∨ P0_5_ k_) ∨ w.heap.size ≤ k_)) (.slice A0_4 l0_4.length c0_4) l0_4 from Kd.V_mono hs0_4 (fun k_ hk => .inl (.inr (.inr (.inl hk)))))
 have HO0_5 := Aside0.mk (show Kd.V k60 60 w w.heap.size (fun k_ => ((P0_2_ k_ ∨ P0_3_ k_ ∨ P0_4_ k_ ∨ P0_5_ k_) ∨ w.heap.size ≤ k_)) (.slice A0_5 l0_5.length c0_5) l0_5 from Kd.V_mono hs0_5 (fun k_ hk => .inl (.inr (.inr (.inr hk)))))
 have HB := Aside0.mk (Below.refl w.heap.size w)
 have H : (config_lists.l0 k ([] : List ByteArray) (([l0_4] : List (List ByteArray))) l0_5 (l0_5.length : Int) 0 a0_0 a0_1 l0_2 l0_3 l0_4 l0_5 a0_6 a0_7) = some (r1, r2) := h
 clear h
 obtain ⟨y102, hy102⟩ : ∃ y_ : List (List ByteArray), y_ = (([l0_4] : List (List ByteArray))) := ⟨_, rfl⟩
 replace H : (config_lists.l0 k ([] : List ByteArray) y102 l0_5 (l0_5.length : Int) 0 a0_0 a0_1 l0_2 l0_3 l0_4 l0_5 a0_6 a0_7) = some (r1, r2) := by first | (rw [hy102]; with_reducible exact H) | (have H2_ := (Option.bind_some _ _).symm.trans H; rw [hy102]; with_reducible exact H2_) | (have H2_ := (Option.bind_some _ _).symm.trans H; with_reducible exact H2_) | with_reducible exact H | (rw [hy102]; exact H) | exact H
 have Ny102 := Aside0.mk hy102
 clear hy102
 have H' := Aside0.mk H
 clear H
 go_enter Tryz.func51, Tryz.ntmps51
 go_wp2_with (first | ((with_reducible refine gate_dst (N := 1) rfl ?_); refine box_event ?hg (N := 1) ?hd (cs := #[.bool a0_0, .bool a0_1, .slice A0_2 l0_2.length c0_2, .slice A0_3 l0_3.length c0_3, .slice A0_4 l0_4.length c0_4, .slice A0_5 l0_5.length c0_5, .bool a0_6, .bool a0_7]) (t := 32) ?hr ?_; (case hd => rfl); (case hg => rfl); (case hr => first | (go_simp; done) | (go_simp; rfl)); intro gb101 hg w2 hbox hb; have n0_ := Aside0.mk (Kd.V_below (Kd.V_elderB HO0_2.out gb101 (Nat.le_of_eq hg.symm)) hb); have n1_ := Aside0.mk (Kd.V_below (Kd.V_elderB HO0_3.out gb101 (Nat.le_of_eq hg.symm)) hb); have n2_ := Aside0.mk (Kd.V_below (Kd.V_elderB HO0_4.out gb101 (Nat.le_of_eq hg.symm)) hb); have n3_ := Aside0.mk (Kd.V_below (Kd.V_elderB HO0_5.out gb101 (Nat.le_of_eq hg.symm)) hb); have n4_ := Aside0.mk (below_step (zb HB) hb); have n5_ := Aside0.mk (hbox); have n7_ := Aside0.mk ((by rw [hg]; exact (below_size (zb HB)) : w.heap.size ≤ gb101)); clear HO0_2; clear HO0_3; clear HO0_4; clear HO0_5; clear HB; have HO0_2 := n0_; have HO0_3 := n1_; have HO0_4 := n2_; have HO0_5 := n3_; have HB := n4_; have BK101 := n5_; have GE101 := n7_; clear n0_ n1_ n2_ n3_ n4_ n5_ n7_; clear hb hbox hg; obtain ⟨hcz3_0, hcz3_1, hcz3_2, hcz3_3, hcz3_4, hcz3_5, hcz3_6, hcz3_7, hfz3_0, hfz3_1, hfz3_2, hfz3_3, hfz3_4, hfz3_5, hfz3_6, hfz3_7⟩ := cz8 BK101.out) | ((with_reducible refine gate_dst (N := 10) rfl ?_); refine Kd.N_lit (Kd.slice 9 Kd.string) _ 29 ?hg (N' := 10) ?hd (xs := ([l0_4] : List (List ByteArray))) (inner := [.slice A0_4 l0_4.length c0_4]) (ok := (fun k_ => ((P0_2_ k_ ∨ P0_3_ k_ ∨ P0_4_ k_ ∨ P0_5_ k_) ∨ w.heap.size ≤ k_) ∧ k_ ≠ gb101)) (okp := (fun k_ => ((P0_2_ k_ ∨ P0_3_ k_ ∨ P0_4_ k_ ∨ P0_5_ k_) ∨ w.heap.size ≤ k_) ∧ k_ ≠ gb101)) ?hr ?hp (fun _ hk => hk) ((show ∀ k_, w2.heap.size ≤ k_ → (fun k_ => ((P0_2_ k_ ∨ P0_3_ k_ ∨ P0_4_ k_ ∨ P0_5_ k_) ∨ w.heap.size ≤ k_) ∧ k_ ≠ gb101) k_ from fun k_ hk => ⟨(.inr (Nat.le_trans (below_size (zb1 HB GE101)) hk)), Kd.freshB BK101.out k_ hk⟩) _ (Nat.le_refl _)) (Below.refl _ _) (Nat.le_refl _) (by simp) ?_; (case hd => rfl); (case hg => rfl); (case hr => first | (go_simp; done) | (go_simp; rfl)); (case hp => exact (Reps.one (show Kd.FK (Kd.slice 9 Kd.string) _ _ l0_4 [.slice A0_4 l0_4.length c0_4] from (Kd.FK_slice_mk (Kd.V_reads' (Kd.V_mono (ok' := (fun k_ => ((P0_2_ k_ ∨ P0_3_ k_ ∨ P0_4_ k_ ∨ P0_5_ k_) ∨ w.heap.size ≤ k_) ∧ k_ ≠ gb101)) (HO0_4.out) (fun k_ hk => ⟨hk.1, hk.2⟩))).2.1 (Kd.V_F (Kd.V_mono (ok' := (fun k_ => ((P0_2_ k_ ∨ P0_3_ k_ ∨ P0_4_ k_ ∨ P0_5_ k_) ∨ w.heap.size ≤ k_) ∧ k_ ≠ gb101)) (HO0_4.out) (fun k_ hk => ⟨hk.1, hk.2⟩))))) (Reps.none _ _))); intro v103 w4 ho5 hb hg_ hnew_; clear hg_ hnew_; (first | rw [← Ny102.out] at ho5 | (simp only [Int.reduceToNat] at ho5; rw [← Ny102.out] at ho5)); have n0_ := Aside0.mk (Kd.V_elder' HO0_2.out (Kd.N_base ho5) hb); have n1_ := Aside0.mk (Kd.V_elder' HO0_3.out (Kd.N_base ho5) hb); have n2_ := Aside0.mk (Kd.V_elder' HO0_4.out (Kd.N_base ho5) hb); have n3_ := Aside0.mk (Kd.V_elder' HO0_5.out (Kd.N_base ho5) hb); have n4_ := Aside0.mk (Kd.N_lower ho5 (below_size (zb1 HB GE101))); have n5_ := Aside0.mk (blk_below BK101.out hb); have n6_ := Aside0.mk (below_step (zb1 HB GE101) hb); clear HO0_2; clear HO0_3; clear HO0_4; clear HO0_5; clear BK101; clear HB; have HO0_2 := n0_; have HO0_3 := n1_; have HO0_4 := n2_; have HO0_5 := n3_; have HO104 := n4_; have BK101 := n5_; have HB := n6_; clear n0_ n1_ n2_ n3_ n4_ n5_ n6_; clear hb ho5; obtain ⟨hcz6_0, hcz6_1, hcz6_2, hcz6_3, hcz6_4, hcz6_5, hcz6_6, hcz6_7, hfz6_0, hfz6_1, hfz6_2, hfz6_3, hfz6_4, hfz6_5, hfz6_6, hfz6_7⟩ := cz8 BK101.out))
 go_loopg [4, 5, 14] k (fun kq v4 v5 v14 w' => ∃ (x4_1 : List ByteArray) (x5_1 : List (List ByteArray)) (x14_1 : Int), v14 = .int .i64 x14_1 ∧ Aside0 (config_lists.l0 kq x4_1 x5_1 l0_5 (l0_5.length : Int) x14_1 a0_0 a0_1 l0_2 l0_3 l0_4 l0_5 a0_6 a0_7 = some (r1, r2)) ∧ Aside0 (kq ≤ k) ∧ Aside0 (Kd.R Kd.string 9 w' w.heap.size (fun k_ => (w.heap.size ≤ k_)) v4 x4_1) ∧ Aside0 (Kd.N (Kd.slice 9 Kd.string) 29 w' w.heap.size (fun k_ => ((P0_2_ k_ ∨ P0_3_ k_ ∨ P0_4_ k_ ∨ P0_5_ k_) ∨ w.heap.size ≤ k_) ∧ some k_ ≠ (v4 : Value).ownBlock ∧ k_ ≠ gb101) v5 x5_1) ∧ Aside0 (Kd.V k60 60 w' w.heap.size (fun k_ => ((P0_2_ k_ ∨ P0_3_ k_ ∨ P0_4_ k_ ∨ P0_5_ k_) ∨ w.heap.size ≤ k_) ∧ some k_ ≠ (v4 : Value).ownBlock ∧ some k_ ≠ (v5 : Value).ownBlock ∧ k_ ≠ gb101) (.slice A0_5 l0_5.length c0_5) l0_5) ∧ Aside0 (Kd.V Kd.string 9 w' w.heap.size (fun k_ => ((P0_2_ k_ ∨ P0_3_ k_ ∨ P0_4_ k_ ∨ P0_5_ k_) ∨ w.heap.size ≤ k_) ∧ some k_ ≠ (v4 : Value).ownBlock ∧ some k_ ≠ (v5 : Value).ownBlock ∧ k_ ≠ gb101) (.slice A0_2 l0_2.length c0_2) l0_2) ∧ Aside0 (Kd.V Kd.string 9 w' w.heap.size (fun k_ => ((P0_2_ k_ ∨ P0_3_ k_ ∨ P0_4_ k_ ∨ P0_5_ k_) ∨ w.heap.size ≤ k_) ∧ some k_ ≠ (v4 : Value).ownBlock ∧ some k_ ≠ (v5 : Value).ownBlock ∧ k_ ≠ gb101) (.slice A0_3 l0_3.length c0_3) l0_3) ∧ Aside0 (Kd.V Kd.string 9 w' w.heap.size (fun k_ => ((P0_2_ k_ ∨ P0_3_ k_ ∨ P0_4_ k_ ∨ P0_5_ k_) ∨ w.heap.size ≤ k_) ∧ some k_ ≠ (v4 : Value).ownBlock ∧ some k_ ≠ (v5 : Value).ownBlock ∧ k_ ≠ gb101) (.slice A0_4 l0_4.length c0_4) l0_4) ∧ Aside0 (Kd.V k60 60 w' w.heap.size (fun k_ => ((P0_2_ k_ ∨ P0_3_ k_ ∨ P0_4_ k_ ∨ P0_5_ k_) ∨ w.heap.size ≤ k_) ∧ some k_ ≠ (v4 : Value).ownBlock ∧ some k_ ≠ (v5 : Value).ownBlock ∧ k_ ≠ gb101) (.slice A0_5 l0_5.length c0_5) l0_5) ∧ Aside0 (w'.heap[gb101]? = some (.cells #[.bool a0_0, .bool a0_1, (.slice A0_2 l0_2.length c0_2), (.slice A0_3 l0_3.length c0_3), (.slice A0_4 l0_4.length c0_4), (.slice A0_5 l0_5.length c0_5), .bool a0_6, .bool a0_7] 32 (0, 0))) ∧ Aside0 (Below w.heap.size w w'))
 case atStart => exact ⟨(([] : List ByteArray)), (y102), (0), zr, H', ⟨Nat.le_refl _⟩, ⟨by first | exact Kd.R_nil _ _ _ _ _ | exact Kd.N_nil _ _ _ _ _ | exact Kd.V_nil _ _ _ _ _ | exact Kd.Q_nil _ _ _ _ _ | exact Kd.S_nil _ _ _ _ _⟩, ⟨by exact Kd.N_mono HO104.out (fun _ hk => ⟨hk.1, ⟨(by simp [Value.ownBlock]), hk.2⟩⟩)⟩, ⟨by exact Kd.V_mono HO0_5.out (fun _ hk => ⟨hk.1.1, ⟨(by simp [Value.ownBlock]), ⟨hk.2, hk.1.2⟩⟩⟩)⟩, ⟨by exact Kd.V_mono HO0_2.out (fun _ hk => ⟨hk.1.1, ⟨(by simp [Value.ownBlock]), ⟨hk.2, hk.1.2⟩⟩⟩)⟩, ⟨by exact Kd.V_mono HO0_3.out (fun _ hk => ⟨hk.1.1, ⟨(by simp [Value.ownBlock]), ⟨hk.2, hk.1.2⟩⟩⟩)⟩, ⟨by exact Kd.V_mono HO0_4.out (fun _ hk => ⟨hk.1.1, ⟨(by simp [Value.ownBlock]), ⟨hk.2, hk.1.2⟩⟩⟩)⟩, ⟨by exact Kd.V_mono HO0_5.out (fun _ hk => ⟨hk.1.1, ⟨(by simp [Value.ownBlock]), ⟨hk.2, hk.1.2⟩⟩⟩)⟩, ⟨by exact BK101.out⟩, ⟨zb1 HB GE101⟩⟩
 case round =>
  clear H'
  try clear p2
  try clear c5
  try clear hcz3_0
  try clear hcz3_1
  try clear hcz3_2
  try clear hcz3_3
  try clear hcz3_4
  try clear hcz3_5
  try clear hcz3_6
  try clear hcz3_7
  try clear hcz6_0
  try clear hcz6_1
  try clear hcz6_2
  try clear hcz6_3
  try clear hcz6_4
  try clear hcz6_5
  try clear hcz6_6
  try clear hcz6_7
  try clear hfz3_0
  try clear hfz3_1
  try clear hfz3_2
  try clear hfz3_3
  try clear hfz3_4
  try clear hfz3_5
  try clear hfz3_6
  try clear hfz3_7
  try clear hfz6_0
  try clear hfz6_1
  try clear hfz6_2
  try clear hfz6_3
  try clear hfz6_4
  try clear hfz6_5
  try clear hfz6_6
  try clear hfz6_7
  obtain ⟨x4_1, x5_1, x14_1, rfl, HA, HK1, HO_4, HO_5, HO_12, HO_102002, HO_102003, HO_102004, HO_102005, BK101, HB⟩ := hrel
  cases gk with
  | zero => exact absurd HA.out (by simp [config_lists.l0])
  | succ k1 =>
   have H := HA.out
   clear HA
   simp only [config_lists.l0] at H
   by_cases c7 : x14_1 < (l0_5.length : Int)
   ·rw [if_pos c7] at H
    have c7b0 : decide (x14_1 < (l0_5.length : Int)) = true := decide_eq_true c7
    clear c7
    by_cases c8 : 0 ≤ x14_1
    ·rw [if_pos c8] at H
     have c8b0 : decide (0 ≤ x14_1) = true := decide_eq_true c8
     clear c8
     by_cases c9 : x14_1 < (l0_5.length : Int)
     ·rw [if_pos c9] at H
      have c9b0 : decide (x14_1 < (l0_5.length : Int)) = true := decide_eq_true c9
      clear c9
      by_cases c10 : x4_1.length < 8796093022208
      ·rw [if_pos c10] at H
       have LMc10 := Aside0.mk c10
       clear c10
       obtain ⟨y107, hy107⟩ : ∃ y_ : List ByteArray, y_ = (x4_1 ++ [(rd_T60 l0_5 x14_1).f0]) := ⟨_, rfl⟩
       replace H : (if x5_1.length < 5864062014805 then (config_lists.l0 k1 y107 (x5_1 ++ [(rd_T60 l0_5 x14_1).f1]) l0_5 (l0_5.length : Int) (wrap64 (x14_1 + 1)) a0_0 a0_1 l0_2 l0_3 l0_4 l0_5 a0_6 a0_7) else (none)) = some (r1, r2) := by first | (rw [hy107]; with_reducible exact H) | (have H2_ := (Option.bind_some _ _).symm.trans H; rw [hy107]; with_reducible exact H2_) | (have H2_ := (Option.bind_some _ _).symm.trans H; with_reducible exact H2_) | with_reducible exact H | (rw [hy107]; exact H) | exact H
       have Ny107 := Aside0.mk hy107
       clear hy107
       by_cases c11 : x5_1.length < 5864062014805
       ·rw [if_pos c11] at H
        have LMc11 := Aside0.mk c11
        clear c11
        obtain ⟨y110, hy110⟩ : ∃ y_ : List (List ByteArray), y_ = (x5_1 ++ [(rd_T60 l0_5 x14_1).f1]) := ⟨_, rfl⟩
        replace H : (config_lists.l0 k1 y107 y110 l0_5 (l0_5.length : Int) (wrap64 (x14_1 + 1)) a0_0 a0_1 l0_2 l0_3 l0_4 l0_5 a0_6 a0_7) = some (r1, r2) := by first | (rw [hy110]; with_reducible exact H) | (have H2_ := (Option.bind_some _ _).symm.trans H; rw [hy110]; with_reducible exact H2_) | (have H2_ := (Option.bind_some _ _).symm.trans H; with_reducible exact H2_) | with_reducible exact H | (rw [hy110]; exact H) | exact H
        have Ny110 := Aside0.mk hy110
        clear hy110
        have H' := Aside0.mk H
        clear H
        have p105 : 0 ≤ (x14_1 : Int) := of_decide_eq_true za
        have q105 : x14_1 < (l0_5.length : Int) := of_decide_eq_true za
        obtain ⟨ad105, A105_1, c105_1, e105, hx105_0, hx105_1, hl105_1, hi105_1⟩ := at_T60 (Kd.V_reads' HO_12.out).2.2 x14_1 p105 q105
        cases e105
        obtain ⟨ce105, hce105, hMe105, hcc105⟩ := Kd.V_get HO_12.out z60 x14_1 p105 (by first | exact q105 | exact of_decide_eq_true za | (have e_ := (Kd.V_reads' HO_12.out).1; omega))
        obtain ⟨ua105_1, uc105_1, rfl, ul105_1, ge105_1⟩ := k60_openF hMe105
        have hv105_1 := hcc105 1 _ rfl
        rw [add_field _ _ 1 (by omega)] at hv105_1
        replace hv105_1 := Option.some.inj (hv105_1.symm.trans hx105_1)
        injection hv105_1 with hva_ hvn_ hvc_
        rw [hva_] at ge105_1
        rw [hvc_] at ul105_1
        have HL105_1 := Aside0.mk (show Kd.V Kd.string 9 _ w.heap.size _ _ ((rd_T60 l0_5 x14_1).f1) from Kd.V_mk ul105_1 ge105_1)
        clear hva_ hvn_ hvc_ ge105_1 ul105_1
        clear hcc105 hce105
        have HR105_1 := Aside0.mk hi105_1
        have HC105_1 := Aside0.mk hl105_1
        clear hi105_1 hl105_1
        replace p105 := eq_true p105
        replace q105 := eq_true q105
        go_wp2_with (first | ((with_reducible refine gate_dst (N := 7) rfl ?_); refine box_event ?hg (N := 7) ?hd (cs := #[.string (⟨#[]⟩ : ByteArray), .slice none 0 0]) (t := 60) ?hr ?_; (case hd => rfl); (case hg => rfl); (case hr => first | (go_simp; done) | (go_simp; rfl)); intro gb106 hg w12 hbox hb; have n0_ := Aside0.mk (Kd.R_below HO_4.out hb); have n1_ := Aside0.mk (Kd.N_below (Kd.N_elderB HO_5.out gb106 (Nat.le_of_eq hg.symm)) hb); have n2_ := Aside0.mk (Kd.V_below (Kd.V_elderB HO_12.out gb106 (Nat.le_of_eq hg.symm)) hb); have n3_ := Aside0.mk (Kd.V_below (Kd.V_elderB HO_102002.out gb106 (Nat.le_of_eq hg.symm)) hb); have n4_ := Aside0.mk (Kd.V_below (Kd.V_elderB HO_102003.out gb106 (Nat.le_of_eq hg.symm)) hb); have n5_ := Aside0.mk (Kd.V_below (Kd.V_elderB HO_102004.out gb106 (Nat.le_of_eq hg.symm)) hb); have n6_ := Aside0.mk (Kd.V_below (Kd.V_elderB HO_102005.out gb106 (Nat.le_of_eq hg.symm)) hb); have n7_ := Aside0.mk (Kd.V_below (Kd.V_elderB HL105_1.out gb106 (Nat.le_of_eq hg.symm)) hb); have n8_ := Aside0.mk (blk_below BK101.out hb); have n10_ := Aside0.mk (below_step (zb1 HB GE101) hb); have n11_ := Aside0.mk (hbox); have n13_ := Aside0.mk ((by rw [hg]; exact (below_size (zb1 HB GE101)) : w.heap.size ≤ gb106)); have n14_ := Aside0.mk ((by rw [hg]; exact Nat.ne_of_lt (blk_lt BK101.out) : gb101 ≠ gb106)); have n15_ := Aside0.mk ((by rw [hg]; exact Nat.ne_of_gt (blk_lt BK101.out) : gb106 ≠ gb101)); clear HO_4; clear HO_5; clear HO_12; clear HO_102002; clear HO_102003; clear HO_102004; clear HO_102005; clear HL105_1; clear BK101; clear HR105_1; clear HB; have HO_4 := n0_; have HO_5 := n1_; have HO_12 := n2_; have HO_102002 := n3_; have HO_102003 := n4_; have HO_102004 := n5_; have HO_102005 := n6_; have HL105_1 := n7_; have BK101 := n8_; have HB := n10_; have BK106 := n11_; have GE106 := n13_; have NB101_106 := n14_; have NB106_101 := n15_; clear n0_ n1_ n2_ n3_ n4_ n5_ n6_ n7_ n8_ n10_ n11_ n13_ n14_ n15_; clear hb hbox hg; have hnb13 := NB106_101.out; have hnc13 := NB101_106.out; obtain ⟨hcz14_0, hcz14_1, hfz14_0, hfz14_1⟩ := cz2 BK106.out) | ((with_reducible refine gate_builtin (b := .append) (xs := #[.tmp 18, .tmp 21]) rfl ?_); at_builtin; refine Kd.R_append Kd.string (w0 := w) w.heap.size rfl (.tmp 18) (.tmp 21) 29 9 (.string ⟨#[]⟩) 16 rfl Tryz.underlying29 info9 rfl (by decide) (by omega) u4 x4_1 ((rd_T60 l0_5 x14_1).f0) [.string ((rd_T60 l0_5 x14_1).f0)] (fun k_ => (w.heap.size ≤ k_)) (fun _ => False) rfl (by first | (go_simp; done) | (go_simp; rfl)) ?aP (fun _ hk => hk.elim) ?aF ?aO ?aB ?aS ?aL ?_; (case aP => exact rfl); (case aB => exact (zb2 HB GE101 GE106)); (case aF => exact (fun k_ hk => (Nat.le_trans (below_size (zb2 HB GE101 GE106)) hk))); (case aO => exact (by exact Kd.R_mono (Rf2 (g := gb106) (Kd.R_types HO_4.out BK106.out (by decide)) (fun _ hk => hk.2) (.string ((rd_T60 l0_5 x14_1).f0)) (.slice A105_1 ((rd_T60 l0_5 x14_1).f1).length c105_1)) (fun _ hk => hk.1))); (case aS => exact (below_size (zb2 HB GE101 GE106))); (case aL => have := LMc10.out; omega); intro v108 w15 ho hb hg hat; rw [← Ny107.out] at ho; have n0_ := Aside0.mk (Kd.N_afterv (ok := (fun k_ => ((P0_2_ k_ ∨ P0_3_ k_ ∨ P0_4_ k_ ∨ P0_5_ k_) ∨ w.heap.size ≤ k_) ∧ k_ ≠ gb101 ∧ k_ ≠ gb106)) (by exact Kd.N_mono (Nf2 (g := gb106) (Kd.N_mono HO_5.out (fun k_ hk => (⟨hk, hk.2⟩ : _ ∧ k_ ≠ gb106))) (fun _ hk => hk.2) (.string ((rd_T60 l0_5 x14_1).f0)) (.slice A105_1 ((rd_T60 l0_5 x14_1).f1).length c105_1)) (fun _ hk => ⟨⟨hk.1.1.1, ⟨hk.1.1.2.2, hk.1.2⟩⟩, hk.1.1.2.1⟩)) hg hat); have n1_ := Aside0.mk (Kd.V_afterv (ok := (fun k_ => ((P0_2_ k_ ∨ P0_3_ k_ ∨ P0_4_ k_ ∨ P0_5_ k_) ∨ w.heap.size ≤ k_) ∧ some k_ ≠ (u5 : Value).ownBlock ∧ k_ ≠ gb101 ∧ k_ ≠ gb106)) (by exact Kd.V_mono (Vf2 (g := gb106) (Kd.V_mono HO_12.out (fun k_ hk => (⟨hk, hk.2⟩ : _ ∧ k_ ≠ gb106))) (fun _ hk => hk.2) (.string ((rd_T60 l0_5 x14_1).f0)) (.slice A105_1 ((rd_T60 l0_5 x14_1).f1).length c105_1)) (fun _ hk => ⟨⟨hk.1.1.1, ⟨hk.1.1.2.2.1, ⟨hk.1.1.2.2.2, hk.1.2⟩⟩⟩, hk.1.1.2.1⟩)) hg hat); have n2_ := Aside0.mk (Kd.V_afterv (ok := (fun k_ => ((P0_2_ k_ ∨ P0_3_ k_ ∨ P0_4_ k_ ∨ P0_5_ k_) ∨ w.heap.size ≤ k_) ∧ some k_ ≠ (u5 : Value).ownBlock ∧ k_ ≠ gb101 ∧ k_ ≠ gb106)) (by exact Kd.V_mono (Vf2 (g := gb106) (Kd.V_mono HO_102002.out (fun k_ hk => (⟨hk, hk.2⟩ : _ ∧ k_ ≠ gb106))) (fun _ hk => hk.2) (.string ((rd_T60 l0_5 x14_1).f0)) (.slice A105_1 ((rd_T60 l0_5 x14_1).f1).length c105_1)) (fun _ hk => ⟨⟨hk.1.1.1, ⟨hk.1.1.2.2.1, ⟨hk.1.1.2.2.2, hk.1.2⟩⟩⟩, hk.1.1.2.1⟩)) hg hat); have n3_ := Aside0.mk (Kd.V_afterv (ok := (fun k_ => ((P0_2_ k_ ∨ P0_3_ k_ ∨ P0_4_ k_ ∨ P0_5_ k_) ∨ w.heap.size ≤ k_) ∧ some k_ ≠ (u5 : Value).ownBlock ∧ k_ ≠ gb101 ∧ k_ ≠ gb106)) (by exact Kd.V_mono (Vf2 (g := gb106) (Kd.V_mono HO_102003.out (fun k_ hk => (⟨hk, hk.2⟩ : _ ∧ k_ ≠ gb106))) (fun _ hk => hk.2) (.string ((rd_T60 l0_5 x14_1).f0)) (.slice A105_1 ((rd_T60 l0_5 x14_1).f1).length c105_1)) (fun _ hk => ⟨⟨hk.1.1.1, ⟨hk.1.1.2.2.1, ⟨hk.1.1.2.2.2, hk.1.2⟩⟩⟩, hk.1.1.2.1⟩)) hg hat); have n4_ := Aside0.mk (Kd.V_afterv (ok := (fun k_ => ((P0_2_ k_ ∨ P0_3_ k_ ∨ P0_4_ k_ ∨ P0_5_ k_) ∨ w.heap.size ≤ k_) ∧ some k_ ≠ (u5 : Value).ownBlock ∧ k_ ≠ gb101 ∧ k_ ≠ gb106)) (by exact Kd.V_mono (Vf2 (g := gb106) (Kd.V_mono HO_102004.out (fun k_ hk => (⟨hk, hk.2⟩ : _ ∧ k_ ≠ gb106))) (fun _ hk => hk.2) (.string ((rd_T60 l0_5 x14_1).f0)) (.slice A105_1 ((rd_T60 l0_5 x14_1).f1).length c105_1)) (fun _ hk => ⟨⟨hk.1.1.1, ⟨hk.1.1.2.2.1, ⟨hk.1.1.2.2.2, hk.1.2⟩⟩⟩, hk.1.1.2.1⟩)) hg hat); have n5_ := Aside0.mk (Kd.V_afterv (ok := (fun k_ => ((P0_2_ k_ ∨ P0_3_ k_ ∨ P0_4_ k_ ∨ P0_5_ k_) ∨ w.heap.size ≤ k_) ∧ some k_ ≠ (u5 : Value).ownBlock ∧ k_ ≠ gb101 ∧ k_ ≠ gb106)) (by exact Kd.V_mono (Vf2 (g := gb106) (Kd.V_mono HO_102005.out (fun k_ hk => (⟨hk, hk.2⟩ : _ ∧ k_ ≠ gb106))) (fun _ hk => hk.2) (.string ((rd_T60 l0_5 x14_1).f0)) (.slice A105_1 ((rd_T60 l0_5 x14_1).f1).length c105_1)) (fun _ hk => ⟨⟨hk.1.1.1, ⟨hk.1.1.2.2.1, ⟨hk.1.1.2.2.2, hk.1.2⟩⟩⟩, hk.1.1.2.1⟩)) hg hat); have n6_ := Aside0.mk (blk_grown (g := gb101) (o := .cells #[.bool a0_0, .bool a0_1, .slice A0_2 l0_2.length c0_2, .slice A0_3 l0_3.length c0_3, .slice A0_4 l0_4.length c0_4, .slice (some ad105) l0_5.length c0_5, .bool a0_6, .bool a0_7] 32 (0, 0)) (by refine blk_far ?_ NB101_106.out _; refine blk_far ?_ NB101_106.out _; exact BK101.out) hg (Kd.R_ne HO_4.out BK101.out (by decide))); have n7_ := Aside0.mk (Kd.V_afterv (ok := (fun k_ => ((P0_2_ k_ ∨ P0_3_ k_ ∨ P0_4_ k_ ∨ P0_5_ k_) ∨ w.heap.size ≤ k_) ∧ some k_ ≠ (u5 : Value).ownBlock ∧ k_ ≠ gb101 ∧ k_ ≠ gb106)) (by exact Kd.V_mono (Vf2 (g := gb106) (Kd.V_mono HL105_1.out (fun k_ hk => (⟨hk, hk.2⟩ : _ ∧ k_ ≠ gb106))) (fun _ hk => hk.2) (.string ((rd_T60 l0_5 x14_1).f0)) (.slice A105_1 ((rd_T60 l0_5 x14_1).f1).length c105_1)) (fun _ hk => ⟨⟨hk.1.1.1, ⟨hk.1.1.2.2.1, ⟨hk.1.1.2.2.2, hk.1.2⟩⟩⟩, hk.1.1.2.1⟩)) hg hat); have n8_ := Aside0.mk (blk_grown (g := gb106) (o := .cells #[.string ((rd_T60 l0_5 x14_1).f0), .slice A105_1 ((rd_T60 l0_5 x14_1).f1).length c105_1] 60 (0, 0)) (by refine blk_put (cs := #[.string ((rd_T60 l0_5 x14_1).f0), .slice none 0 0]) ?_ 1 _ rfl; refine blk_put (cs := #[.string (⟨#[]⟩ : ByteArray), .slice none 0 0]) ?_ 0 _ rfl; exact BK106.out) hg (Kd.R_ne HO_4.out BK106.out (by decide))); have n9_ := Aside0.mk (hb); have n10_ := Aside0.mk (ho); clear HO_5; clear HO_12; clear HO_102002; clear HO_102003; clear HO_102004; clear HO_102005; clear BK101; clear HL105_1; clear BK106; clear HB; clear HO_4; have HO_5 := n0_; have HO_12 := n1_; have HO_102002 := n2_; have HO_102003 := n3_; have HO_102004 := n4_; have HO_102005 := n5_; have BK101 := n6_; have HL105_1 := n7_; have BK106 := n8_; have HB := n9_; have HO109 := n10_; clear n0_ n1_ n2_ n3_ n4_ n5_ n6_ n7_ n8_ n9_ n10_; clear ho hb hg hat; obtain ⟨hcz16_0, hcz16_1, hfz16_0, hfz16_1⟩ := cz2 BK106.out) | ((with_reducible refine gate_builtin (b := .append) (xs := #[.tmp 23, .tmp 26]) rfl ?_); at_builtin; refine Kd.N_append (Kd.slice 9 Kd.string) (w0 := w) w.heap.size rfl (.tmp 23) (.tmp 26) 68 29 (.slice none 0 0) 24 rfl Tryz.underlying68 info29 rfl (by decide) (by omega) u5 x5_1 ((rd_T60 l0_5 x14_1).f1) [.slice A105_1 ((rd_T60 l0_5 x14_1).f1).length c105_1] (fun k_ => ((P0_2_ k_ ∨ P0_3_ k_ ∨ P0_4_ k_ ∨ P0_5_ k_) ∨ w.heap.size ≤ k_) ∧ some k_ ≠ (v108 : Value).ownBlock ∧ k_ ≠ gb101 ∧ k_ ≠ gb106) (fun k_ => ((fun k_ => ((P0_2_ k_ ∨ P0_3_ k_ ∨ P0_4_ k_ ∨ P0_5_ k_) ∨ w.heap.size ≤ k_) ∧ some k_ ≠ (v108 : Value).ownBlock ∧ k_ ≠ gb101 ∧ k_ ≠ gb106)) k_ ∧ some k_ ≠ (u5 : Value).ownBlock) rfl rfl ?aP (fun _ hk => hk) ?aF ?aO ?aB ?aS ?aL ?_; (case aP => exact (Kd.FK_slice_mk (Kd.V_reads' (Kd.V_mono (ok' := (fun k_ => ((fun k_ => ((P0_2_ k_ ∨ P0_3_ k_ ∨ P0_4_ k_ ∨ P0_5_ k_) ∨ w.heap.size ≤ k_) ∧ some k_ ≠ (v108 : Value).ownBlock ∧ k_ ≠ gb101 ∧ k_ ≠ gb106)) k_ ∧ some k_ ≠ (u5 : Value).ownBlock)) (HL105_1.out) (fun k_ hk => ⟨⟨hk.1.1, ⟨hk.2, ⟨hk.1.2.2.1, hk.1.2.2.2⟩⟩⟩, hk.1.2.1⟩))).2.1 (Kd.V_F (Kd.V_mono (ok' := (fun k_ => ((fun k_ => ((P0_2_ k_ ∨ P0_3_ k_ ∨ P0_4_ k_ ∨ P0_5_ k_) ∨ w.heap.size ≤ k_) ∧ some k_ ≠ (v108 : Value).ownBlock ∧ k_ ≠ gb101 ∧ k_ ≠ gb106)) k_ ∧ some k_ ≠ (u5 : Value).ownBlock)) (HL105_1.out) (fun k_ hk => ⟨⟨hk.1.1, ⟨hk.2, ⟨hk.1.2.2.1, hk.1.2.2.2⟩⟩⟩, hk.1.2.1⟩))))); (case aB => exact (zb2 HB GE101 GE106)); (case aF => exact (fun k_ hk => ⟨(.inr (Nat.le_trans (below_size (zb2 HB GE101 GE106)) hk)), Kd.fresh' (Kd.R_lt HO109.out) k_ hk, Kd.freshB BK101.out k_ hk, Kd.freshB BK106.out k_ hk⟩)); (case aO => exact (by exact Kd.N_mono HO_5.out (fun _ hk => ⟨hk.1.1, ⟨hk.2, ⟨hk.1.2.1, hk.1.2.2⟩⟩⟩))); (case aS => exact (below_size (zb2 HB GE101 GE106))); (case aL => have := LMc11.out; omega); intro v111 w17 ho hb hg hat; rw [← Ny110.out] at ho; have n0_ := Aside0.mk (Kd.V_afterv (ok := (fun k_ => ((P0_2_ k_ ∨ P0_3_ k_ ∨ P0_4_ k_ ∨ P0_5_ k_) ∨ w.heap.size ≤ k_) ∧ some k_ ≠ (v108 : Value).ownBlock ∧ k_ ≠ gb101 ∧ k_ ≠ gb106)) (by exact Kd.V_mono HO_12.out (fun _ hk => ⟨⟨hk.1.1, ⟨hk.2, ⟨hk.1.2.2.1, hk.1.2.2.2⟩⟩⟩, hk.1.2.1⟩)) hg hat); have n1_ := Aside0.mk (Kd.V_afterv (ok := (fun k_ => ((P0_2_ k_ ∨ P0_3_ k_ ∨ P0_4_ k_ ∨ P0_5_ k_) ∨ w.heap.size ≤ k_) ∧ some k_ ≠ (v108 : Value).ownBlock ∧ k_ ≠ gb101 ∧ k_ ≠ gb106)) (by exact Kd.V_mono HO_102002.out (fun _ hk => ⟨⟨hk.1.1, ⟨hk.2, ⟨hk.1.2.2.1, hk.1.2.2.2⟩⟩⟩, hk.1.2.1⟩)) hg hat); have n2_ := Aside0.mk (Kd.V_afterv (ok := (fun k_ => ((P0_2_ k_ ∨ P0_3_ k_ ∨ P0_4_ k_ ∨ P0_5_ k_) ∨ w.heap.size ≤ k_) ∧ some k_ ≠ (v108 : Value).ownBlock ∧ k_ ≠ gb101 ∧ k_ ≠ gb106)) (by exact Kd.V_mono HO_102003.out (fun _ hk => ⟨⟨hk.1.1, ⟨hk.2, ⟨hk.1.2.2.1, hk.1.2.2.2⟩⟩⟩, hk.1.2.1⟩)) hg hat); have n3_ := Aside0.mk (Kd.V_afterv (ok := (fun k_ => ((P0_2_ k_ ∨ P0_3_ k_ ∨ P0_4_ k_ ∨ P0_5_ k_) ∨ w.heap.size ≤ k_) ∧ some k_ ≠ (v108 : Value).ownBlock ∧ k_ ≠ gb101 ∧ k_ ≠ gb106)) (by exact Kd.V_mono HO_102004.out (fun _ hk => ⟨⟨hk.1.1, ⟨hk.2, ⟨hk.1.2.2.1, hk.1.2.2.2⟩⟩⟩, hk.1.2.1⟩)) hg hat); have n4_ := Aside0.mk (Kd.V_afterv (ok := (fun k_ => ((P0_2_ k_ ∨ P0_3_ k_ ∨ P0_4_ k_ ∨ P0_5_ k_) ∨ w.heap.size ≤ k_) ∧ some k_ ≠ (v108 : Value).ownBlock ∧ k_ ≠ gb101 ∧ k_ ≠ gb106)) (by exact Kd.V_mono HO_102005.out (fun _ hk => ⟨⟨hk.1.1, ⟨hk.2, ⟨hk.1.2.2.1, hk.1.2.2.2⟩⟩⟩, hk.1.2.1⟩)) hg hat); have n5_ := Aside0.mk (blk_grown BK101.out hg (Kd.N_ne HO_5.out BK101.out (by decide))); have n8_ := Aside0.mk (Kd.R_over' HO109.out (Kd.N_typed HO_5.out) (by decide) hg); have n9_ := Aside0.mk (hb); have n10_ := Aside0.mk (ho); clear HO_12; clear HO_102002; clear HO_102003; clear HO_102004; clear HO_102005; clear BK101; clear HL105_1; clear BK106; clear HO109; clear HB; clear HO_5; have HO_12 := n0_; have HO_102002 := n1_; have HO_102003 := n2_; have HO_102004 := n3_; have HO_102005 := n4_; have BK101 := n5_; have HO109 := n8_; have HB := n9_; have HO112 := n10_; clear n0_ n1_ n2_ n3_ n4_ n5_ n8_ n9_ n10_; clear ho hb hg hat))
        go_roundg k1
        case measure => have := HK1.out; omega
        case rel => exact ⟨(y107), (y110), (wrap64 (x14_1 + 1)), zr, H', ⟨by have := HK1.out; omega⟩, ⟨by exact HO109.out⟩, ⟨by exact Kd.N_mono HO112.out (fun _ hk => ⟨hk.1, ⟨hk.2.1, hk.2.2.1⟩⟩)⟩, ⟨by exact Kd.V_mono HO_12.out (fun _ hk => ⟨hk.1.1, ⟨hk.1.2.1, ⟨hk.2, hk.1.2.2.1⟩⟩⟩)⟩, ⟨by exact Kd.V_mono HO_102002.out (fun _ hk => ⟨hk.1.1, ⟨hk.1.2.1, ⟨hk.2, hk.1.2.2.1⟩⟩⟩)⟩, ⟨by exact Kd.V_mono HO_102003.out (fun _ hk => ⟨hk.1.1, ⟨hk.1.2.1, ⟨hk.2, hk.1.2.2.1⟩⟩⟩)⟩, ⟨by exact Kd.V_mono HO_102004.out (fun _ hk => ⟨hk.1.1, ⟨hk.1.2.1, ⟨hk.2, hk.1.2.2.1⟩⟩⟩)⟩, ⟨by exact Kd.V_mono HO_102005.out (fun _ hk => ⟨hk.1.1, ⟨hk.1.2.1, ⟨hk.2, hk.1.2.2.1⟩⟩⟩)⟩, ⟨by exact BK101.out⟩, ⟨zb2 HB GE101 GE106⟩⟩
       ·rw [if_neg c11] at H
        exact absurd H (by simp)
      ·rw [if_neg c10] at H
       exact absurd H (by simp)
     ·rw [if_neg c9] at H
      exact absurd H (by simp)
    ·rw [if_neg c8] at H
     exact absurd H (by simp)
   ·rw [if_neg c7] at H
    have c7b0 : decide (x14_1 < (l0_5.length : Int)) = false := decide_eq_false c7
    clear c7
    obtain ⟨y113, hy113⟩ : ∃ y_ : List (List ByteArray), y_ = (([l0_2, l0_3, x4_1] : List (List ByteArray))) := ⟨_, rfl⟩
    replace H : (some (y113, x5_1)) = some (r1, r2) := by first | (rw [hy113]; with_reducible exact H) | (have H2_ := (Option.bind_some _ _).symm.trans H; rw [hy113]; with_reducible exact H2_) | (have H2_ := (Option.bind_some _ _).symm.trans H; with_reducible exact H2_) | with_reducible exact H | (rw [hy113]; exact H) | exact H
    have Ny113 := Aside0.mk hy113
    clear hy113
    simp only [Option.some.injEq, Prod.mk.injEq] at H
    obtain ⟨rfl, rfl⟩ := H
    obtain ⟨hcz18_0, hcz18_1, hcz18_2, hcz18_3, hcz18_4, hcz18_5, hcz18_6, hcz18_7, hfz18_0, hfz18_1, hfz18_2, hfz18_3, hfz18_4, hfz18_5, hfz18_6, hfz18_7⟩ := cz8 BK101.out
    obtain ⟨Ao19, co19, eo19⟩ := Kd.R_slice HO_4.out
    subst eo19
    go_wp2_with (first | ((with_reducible refine gate_dst (N := 34) rfl ?_); refine Kd.N_lit (Kd.slice 9 Kd.string) _ 29 ?hg (N' := 34) ?hd (xs := ([l0_2, l0_3, x4_1] : List (List ByteArray))) (inner := [.slice A0_2 l0_2.length c0_2, .slice A0_3 l0_3.length c0_3, .slice Ao19 x4_1.length co19]) (ok := (fun k_ => ((P0_2_ k_ ∨ P0_3_ k_ ∨ P0_4_ k_ ∨ P0_5_ k_) ∨ w.heap.size ≤ k_) ∧ some k_ ≠ (u5 : Value).ownBlock ∧ k_ ≠ gb101)) (okp := (fun k_ => ((P0_2_ k_ ∨ P0_3_ k_ ∨ P0_4_ k_ ∨ P0_5_ k_) ∨ w.heap.size ≤ k_) ∧ some k_ ≠ (u5 : Value).ownBlock ∧ k_ ≠ gb101)) ?hr ?hp (fun _ hk => hk) ((show ∀ k_, wr.heap.size ≤ k_ → (fun k_ => ((P0_2_ k_ ∨ P0_3_ k_ ∨ P0_4_ k_ ∨ P0_5_ k_) ∨ w.heap.size ≤ k_) ∧ some k_ ≠ (u5 : Value).ownBlock ∧ k_ ≠ gb101) k_ from fun k_ hk => ⟨(.inr (Nat.le_trans (below_size (zb1 HB GE101)) hk)), Kd.fresh' (Kd.N_lt HO_5.out) k_ hk, Kd.freshB BK101.out k_ hk⟩) _ (Nat.le_refl _)) (Below.refl _ _) (Nat.le_refl _) (by simp) ?_; (case hd => rfl); (case hg => rfl); (case hr => first | (go_simp; done) | (go_simp; rfl)); (case hp => exact (Reps.one (show Kd.FK (Kd.slice 9 Kd.string) _ _ l0_2 [.slice A0_2 l0_2.length c0_2] from (Kd.FK_slice_mk (Kd.V_reads' (Kd.V_mono (ok' := (fun k_ => ((P0_2_ k_ ∨ P0_3_ k_ ∨ P0_4_ k_ ∨ P0_5_ k_) ∨ w.heap.size ≤ k_) ∧ some k_ ≠ (u5 : Value).ownBlock ∧ k_ ≠ gb101)) (HO_102002.out) (fun k_ hk => ⟨hk.1, ⟨hk.2.2.1, hk.2.2.2⟩⟩))).2.1 (Kd.V_F (Kd.V_mono (ok' := (fun k_ => ((P0_2_ k_ ∨ P0_3_ k_ ∨ P0_4_ k_ ∨ P0_5_ k_) ∨ w.heap.size ≤ k_) ∧ some k_ ≠ (u5 : Value).ownBlock ∧ k_ ≠ gb101)) (HO_102002.out) (fun k_ hk => ⟨hk.1, ⟨hk.2.2.1, hk.2.2.2⟩⟩))))) (Reps.one (show Kd.FK (Kd.slice 9 Kd.string) _ _ l0_3 [.slice A0_3 l0_3.length c0_3] from (Kd.FK_slice_mk (Kd.V_reads' (Kd.V_mono (ok' := (fun k_ => ((P0_2_ k_ ∨ P0_3_ k_ ∨ P0_4_ k_ ∨ P0_5_ k_) ∨ w.heap.size ≤ k_) ∧ some k_ ≠ (u5 : Value).ownBlock ∧ k_ ≠ gb101)) (HO_102003.out) (fun k_ hk => ⟨hk.1, ⟨hk.2.2.1, hk.2.2.2⟩⟩))).2.1 (Kd.V_F (Kd.V_mono (ok' := (fun k_ => ((P0_2_ k_ ∨ P0_3_ k_ ∨ P0_4_ k_ ∨ P0_5_ k_) ∨ w.heap.size ≤ k_) ∧ some k_ ≠ (u5 : Value).ownBlock ∧ k_ ≠ gb101)) (HO_102003.out) (fun k_ hk => ⟨hk.1, ⟨hk.2.2.1, hk.2.2.2⟩⟩))))) (Reps.one (show Kd.FK (Kd.slice 9 Kd.string) _ _ x4_1 [.slice Ao19 x4_1.length co19] from (Kd.FK_slice_mk (Kd.R_reads' (Kd.R_mono (ok' := (fun k_ => ((P0_2_ k_ ∨ P0_3_ k_ ∨ P0_4_ k_ ∨ P0_5_ k_) ∨ w.heap.size ≤ k_) ∧ some k_ ≠ (u5 : Value).ownBlock ∧ k_ ≠ gb101)) (Kd.R_types (Kd.R_apart' (HO_4.out) (Kd.N_typed HO_5.out) (by decide)) BK101.out (by decide)) (fun k_ hk => ⟨(.inr (hk.1.1)), ⟨hk.1.2, hk.2⟩⟩))).2.1 (Kd.R_F (Kd.R_mono (ok' := (fun k_ => ((P0_2_ k_ ∨ P0_3_ k_ ∨ P0_4_ k_ ∨ P0_5_ k_) ∨ w.heap.size ≤ k_) ∧ some k_ ≠ (u5 : Value).ownBlock ∧ k_ ≠ gb101)) (Kd.R_types (Kd.R_apart' (HO_4.out) (Kd.N_typed HO_5.out) (by decide)) BK101.out (by decide)) (fun k_ hk => ⟨(.inr (hk.1.1)), ⟨hk.1.2, hk.2⟩⟩))))) (Reps.none _ _))))); intro v114 w20 ho21 hb hg_ hnew_; clear hg_ hnew_; (first | rw [← Ny113.out] at ho21 | (simp only [Int.reduceToNat] at ho21; rw [← Ny113.out] at ho21)); have n0_ := Aside0.mk (Kd.N_elder' HO_5.out (Kd.N_base ho21) hb); have n6_ := Aside0.mk (Kd.N_lower ho21 (below_size (zb1 HB GE101))); have n8_ := Aside0.mk (below_step (zb1 HB GE101) hb); clear HO_5; clear HO_12; clear HO_102002; clear HO_102003; clear HO_102004; clear HO_102005; clear BK101; clear HB; clear HO_4; have HO_5 := n0_; have HO115 := n6_; have HB := n8_; clear n0_ n6_ n8_; clear hb ho21))
    go_ret2
    exact ⟨_, _, ze, by exact Kd.N_mono HO115.out (fun _ hk => ⟨hk.1, hk.2.1⟩), by exact Kd.N_mono HO_5.out (fun _ hk => ⟨hk.1.1, hk.2⟩), zb1 HB GE101⟩

def config_long.f (l0 : List ByteArray) : Option (Bool) := some (decide ((l0.length : Int) > 64))
set_option maxHeartbeats 8000000 in
set_option maxRecDepth 100000 in
theorem config_long.calls (A0 : Option Addr) (c0 : Nat) (l0 : List ByteArray) (r : Bool) (w : World) (hr0 : Kd.C Kd.string w A0 l0.length l0) (hc0 : l0.length ≤ c0) (h : config_long.f l0 = some r) :
  Calls Tryz.prog 53 #[.slice A0 l0.length c0] w fun e w' => e = .returned (.bool r) ∧ Drawn0 w w' := by
 have HR0 := Aside0.mk hr0
 have HC0 := Aside0.mk hc0
 clear hr0 hc0
 have H : (some (decide ((l0.length : Int) > 64))) = some r := h
 clear h
 obtain rfl := Option.some.inj H
 go_enter Tryz.func53, Tryz.ntmps53
 go_wp2
 go_ret
 exact ⟨zt, zw⟩

def config_twice.f (l0 : List ByteArray) : Option (Bool) := (fold_Sorted.f l0).bind fun t116 => (some ((t116.length : Int) != (l0.length : Int)))
set_option maxHeartbeats 8000000 in
set_option maxRecDepth 100000 in
theorem config_twice.calls (A0 : Option Addr) (c0 : Nat) (l0 : List ByteArray) (r : Bool) (w : World) (hr0 : Kd.C Kd.string w A0 l0.length l0) (hc0 : l0.length ≤ c0) (h : config_twice.f l0 = some r) :
  Calls Tryz.prog 57 #[.slice A0 l0.length c0] w fun e w' => e = .returned (.bool r) ∧ Below w.heap.size w w' := by
 have HR0 := Aside0.mk hr0
 have HC0 := Aside0.mk hc0
 clear hr0 hc0
 have HB := Aside0.mk (Below.refl w.heap.size w)
 have H : ((fold_Sorted.f l0).bind fun t116 => (some ((t116.length : Int) != (l0.length : Int)))) = some r := h
 clear h
 replace H := Option.bind_eq_some_iff.mp H
 obtain ⟨t116, A20, H⟩ := H
 have A2 := Aside0.mk A20
 clear A20
 obtain rfl := Option.some.inj H
 go_enter Tryz.func57, Tryz.ntmps57
 go_wp2_with (first | ((with_reducible refine gate_callee (f := 39) rfl ?_); refine goesL_ (some 4) rfl rfl Tryz.func39 (by kernel_rfl) rfl #[.slice A0 l0.length c0] rfl zm ?_; (with_reducible refine (fold_Sorted.calls _ _ l0 t116 _ ?side1 ?side2 A2.out).mono ?_); (case side1 => repeat (first | exact HR0.out | (with_reducible refine Kd.C_alloc ?_ _) | (with_reducible refine Kd.C_drewN ?_ _) | (with_reducible refine Kd.C_drew ?_))); (case side2 => exact HC0.out); rintro e w3 ⟨v117, rfl, ho0, hb⟩; refine ⟨_, rfl, ?_⟩; have n0_ := Aside0.mk (Kd.R_lower ho0 (below_size (zb HB))); have n1_ := Aside0.mk (below_step (zb HB) hb); clear HB; have HO118 := n0_; have HB := n1_; clear n0_ n1_; (try clear hb); (try clear ho0); obtain ⟨Ao4, co4, eo4⟩ := Kd.R_slice HO118.out; subst eo4))
 go_ret
 exact ⟨ze, zb HB⟩

def fold_Space.f (a0 : Int) : Option (Bool) := if a0 = 32 then (some true) else (if a0 = 9 then (some true) else (if a0 = 10 then (some true) else (if a0 = 12 then (some true) else (some (a0 == 13)))))
set_option maxHeartbeats 8000000 in
set_option maxRecDepth 100000 in
theorem fold_Space.calls (a0 : Int) (r : Bool) (w : World) (h : fold_Space.f a0 = some r) :
  Calls Tryz.prog 118 #[.int .u8 a0] w fun e w' => e = .returned (.bool r) ∧ Drawn0 w w' := by
 have H : (if a0 = 32 then (some true) else (if a0 = 9 then (some true) else (if a0 = 10 then (some true) else (if a0 = 12 then (some true) else (some (a0 == 13)))))) = some r := h
 clear h
 by_cases c2 : a0 = 32
 ·rw [if_pos c2] at H
  have c2b0 : (a0 == 32) = true := beq_iff_eq.mpr c2
  have c2b1 : (a0 != 32) = false := bne_eq_false_iff_eq.mpr c2
  clear c2
  obtain rfl := Option.some.inj H
  go_enter Tryz.func118, Tryz.ntmps118
  go_wp2
  go_ret
  exact ⟨zt, zw⟩
 ·rw [if_neg c2] at H
  have c2b0 : (a0 == 32) = false := beq_eq_false_iff_ne.mpr c2
  have c2b1 : (a0 != 32) = true := bne_iff_ne.mpr c2
  by_cases c3 : a0 = 9
  ·rw [if_pos c3] at H
   have c3b0 : (a0 == 9) = true := beq_iff_eq.mpr c3
   have c3b1 : (a0 != 9) = false := bne_eq_false_iff_eq.mpr c3
   clear c3
   obtain rfl := Option.some.inj H
   go_enter Tryz.func118, Tryz.ntmps118
   go_wp2
   go_ret
   exact ⟨zt, zw⟩
  ·rw [if_neg c3] at H
   have c3b0 : (a0 == 9) = false := beq_eq_false_iff_ne.mpr c3
   have c3b1 : (a0 != 9) = true := bne_iff_ne.mpr c3
   by_cases c4 : a0 = 10
   ·rw [if_pos c4] at H
    have c4b0 : (a0 == 10) = true := beq_iff_eq.mpr c4
    have c4b1 : (a0 != 10) = false := bne_eq_false_iff_eq.mpr c4
    clear c4
    obtain rfl := Option.some.inj H
    go_enter Tryz.func118, Tryz.ntmps118
    go_wp2
    go_ret
    exact ⟨zt, zw⟩
   ·rw [if_neg c4] at H
    have c4b0 : (a0 == 10) = false := beq_eq_false_iff_ne.mpr c4
    have c4b1 : (a0 != 10) = true := bne_iff_ne.mpr c4
    by_cases c5 : a0 = 12
    ·rw [if_pos c5] at H
     have c5b0 : (a0 == 12) = true := beq_iff_eq.mpr c5
     have c5b1 : (a0 != 12) = false := bne_eq_false_iff_eq.mpr c5
     clear c5
     obtain rfl := Option.some.inj H
     go_enter Tryz.func118, Tryz.ntmps118
     go_wp2
     go_ret
     exact ⟨zt, zw⟩
    ·rw [if_neg c5] at H
     have c5b0 : (a0 == 12) = false := beq_eq_false_iff_ne.mpr c5
     have c5b1 : (a0 != 12) = true := bne_iff_ne.mpr c5
     obtain rfl := Option.some.inj H
     go_enter Tryz.func118, Tryz.ntmps118
     go_wp2
     go_ret
     exact ⟨zt, zw⟩

mutual
def names_plain.l0 : Nat → ByteArray → ByteArray → Int → Int → Option (Bool)
 | 0, _, _, _, _ => none
 | k + 1, x0, x1, x8, x9 => if x9 < x8 then (if 0 ≤ x9 then (if x9 < (x0.size : Int) then ((fold_Space.f (bt x0 x9)).bind fun t119 => (if t119 = true then (names_plain.j1 k x0 x1 x9 x8 x9 true) else (if (bt x0 x9) ≥ 65 then (if (bt x0 x9) ≤ 90 then (names_plain.j1 k x0 x1 x9 x8 x9 true) else (names_plain.j1 k x0 x1 x9 x8 x9 ((bt x0 x9) == 0))) else (names_plain.j1 k x0 x1 x9 x8 x9 ((bt x0 x9) == 0))))) else (none)) else (none)) else (some (x0.toList != ([] : List UInt8)))
def names_plain.j1 : Nat → ByteArray → ByteArray → Int → Int → Int → Bool → Option (Bool)
 | 0, _, _, _, _, _, _ => none
 | k + 1, x0, x1, x5, x8, x9, x33 => if x33 = true then (some false) else (names_plain.l1 k x0 x1 x5 x8 x9 (x1.size : Int) 0)
def names_plain.l1 : Nat → ByteArray → ByteArray → Int → Int → Int → Int → Int → Option (Bool)
 | 0, _, _, _, _, _, _, _ => none
 | k + 1, x0, x1, x5, x8, x9, x35, x36 => if x36 < x35 then (if 0 ≤ x5 then (if x5 < (x0.size : Int) then (if 0 ≤ x36 then (if x36 < (x1.size : Int) then (if (bt x0 x5) = (bt x1 x36) then (some false) else (names_plain.l1 k x0 x1 x5 x8 x9 x35 (wrap64 (x36 + 1)))) else (none)) else (none)) else (none)) else (none)) else (names_plain.l0 k x0 x1 x8 (wrap64 (x9 + 1)))
end
def names_plain.f (k : Nat) (a0 : ByteArray) (a1 : ByteArray) : Option (Bool) := names_plain.l0 k a0 a1 (a0.size : Int) 0
set_option maxHeartbeats 8000000 in
set_option maxRecDepth 100000 in
theorem names_plain.calls (k : Nat) (a0 : ByteArray) (a1 : ByteArray) (r : Bool) (w : World) (h : names_plain.f k a0 a1 = some r) :
  Calls Tryz.prog 91 #[.string a0, .string a1] w fun e w' => e = .returned (.bool r) ∧ Drawn0 w w' := by
 have H : (names_plain.l0 k a0 a1 (a0.size : Int) 0) = some r := h
 clear h
 have H' := Aside0.mk H
 clear H
 go_enter Tryz.func91, Tryz.ntmps91
 go_wp2
 repeat (go_quiet (fail); try go_wp2)
 go_loopg [9] k (fun kq v9 w' => ∃ (x9_1 : Int), v9 = .int .i64 x9_1 ∧ Aside0 (names_plain.l0 kq a0 a1 (a0.size : Int) x9_1 = some r) ∧ Aside0 (kq ≤ k) ∧ Drawn0 w w')
 case atStart => exact ⟨(0), zr, H', ⟨Nat.le_refl _⟩, zw⟩
 case round =>
  clear H'
  try clear p2
  obtain ⟨x9_1, rfl, HA, HK1, ⟨m1, rfl⟩⟩ := hrel
  cases gk with
  | zero => exact absurd HA.out (by simp [names_plain.l0])
  | succ k1 =>
   have H := HA.out
   clear HA
   simp only [names_plain.l0] at H
   by_cases c3 : x9_1 < (a0.size : Int)
   ·rw [if_pos c3] at H
    have c3b0 : decide (x9_1 < (a0.size : Int)) = true := decide_eq_true c3
    clear c3
    have HC4 := Aside0.mk H
    clear H
    go_upto_region 4 with (fail)
    repeat (go_quiet (fail); go_upto_region 4 with (fail))
    go_cut [33] (fun v33 wc => ∃ (kq : Nat) (x33_3 : Bool), v33 = .bool x33_3 ∧ Aside0 (names_plain.j1 kq a0 a1 x9_1 (a0.size : Int) x9_1 x33_3 = some r) ∧ Aside0 (kq ≤ k1) ∧ Drawn0 w wc)
    case first =>
     have H := HC4.out
     clear HC4
     by_cases c5 : 0 ≤ x9_1
     ·rw [if_pos c5] at H
      have c5b0 : decide (0 ≤ x9_1) = true := decide_eq_true c5
      clear c5
      (first | rw [c5b0] | (simp only [i64_w, i32_w]; rw [c5b0]) | skip)
      by_cases c6 : x9_1 < (a0.size : Int)
      ·rw [if_pos c6] at H
       have c6b0 : decide (x9_1 < (a0.size : Int)) = true := decide_eq_true c6
       clear c6
       replace H := Option.bind_eq_some_iff.mp H
       obtain ⟨t119, A80, H⟩ := H
       have A8 := Aside0.mk A80
       clear A80
       by_cases c9 : t119 = true
       ·subst c9
        replace H : (names_plain.j1 k1 a0 a1 x9_1 (a0.size : Int) x9_1 true) = some r := by rw [if_pos rfl] at H; exact H
        have H' := Aside0.mk H
        clear H
        have p7 : 0 ≤ (x9_1 : Int) := of_decide_eq_true za
        have q7 : x9_1 < (a0.size : Int) := of_decide_eq_true za
        have hx7 := bt_at a0 x9_1
        replace p7 := eq_true p7
        replace q7 := eq_true q7
        go_wp2_with (first | (go_at_call 118; (with_reducible refine (fold_Space.calls (bt a0 x9_1) true _ A8.out).mono ?_); rintro e w' ⟨rfl, ⟨nd, rfl⟩⟩; (try exact zu)))
        repeat (go_quiet (first | (go_at_call 118; (with_reducible refine (fold_Space.calls (bt a0 x9_1) true _ A8.out).mono ?_); rintro e w' ⟨rfl, ⟨nd, rfl⟩⟩; (try exact zu))); try go_wp2_with (first | (go_at_call 118; (with_reducible refine (fold_Space.calls (bt a0 x9_1) true _ A8.out).mono ?_); rintro e w' ⟨rfl, ⟨nd, rfl⟩⟩; (try exact zu))))
        go_meet
        case rel => exact ⟨_, (true), zr, H', ⟨by have := HK1.out; first | omega | exact Nat.le_refl _⟩, zw⟩
       ·replace c9 := Bool.eq_false_iff.mpr c9
        subst c9
        replace H : (if (bt a0 x9_1) ≥ 65 then (if (bt a0 x9_1) ≤ 90 then (names_plain.j1 k1 a0 a1 x9_1 (a0.size : Int) x9_1 true) else (names_plain.j1 k1 a0 a1 x9_1 (a0.size : Int) x9_1 ((bt a0 x9_1) == 0))) else (names_plain.j1 k1 a0 a1 x9_1 (a0.size : Int) x9_1 ((bt a0 x9_1) == 0))) = some r := by rw [if_neg (show ¬ (false = true) by decide)] at H; exact H
        by_cases c11 : (bt a0 x9_1) ≥ 65
        ·rw [if_pos c11] at H
         have c11b0 : decide (65 ≤ (bt a0 x9_1)) = true := decide_eq_true c11
         clear c11
         by_cases c13 : (bt a0 x9_1) ≤ 90
         ·rw [if_pos c13] at H
          have c13b0 : decide ((bt a0 x9_1) ≤ 90) = true := decide_eq_true c13
          clear c13
          have H' := Aside0.mk H
          clear H
          have p7 : 0 ≤ (x9_1 : Int) := of_decide_eq_true za
          have q7 : x9_1 < (a0.size : Int) := of_decide_eq_true za
          have hx7 := bt_at a0 x9_1
          replace p7 := eq_true p7
          replace q7 := eq_true q7
          go_wp2_with (first | (go_at_call 118; (with_reducible refine (fold_Space.calls (bt a0 x9_1) false _ A8.out).mono ?_); rintro e w' ⟨rfl, ⟨nd, rfl⟩⟩; (try exact zu); have p10 : 0 ≤ (x9_1 : Int) := of_decide_eq_true za; have q10 : x9_1 < (a0.size : Int) := of_decide_eq_true za; have hx10 := bt_at a0 x9_1; replace p10 := eq_true p10; replace q10 := eq_true q10; have p12 : 0 ≤ (x9_1 : Int) := of_decide_eq_true za; have q12 : x9_1 < (a0.size : Int) := of_decide_eq_true za; have hx12 := bt_at a0 x9_1; replace p12 := eq_true p12; replace q12 := eq_true q12))
          repeat (go_quiet (first | (go_at_call 118; (with_reducible refine (fold_Space.calls (bt a0 x9_1) false _ A8.out).mono ?_); rintro e w' ⟨rfl, ⟨nd, rfl⟩⟩; (try exact zu); have p10 : 0 ≤ (x9_1 : Int) := of_decide_eq_true za; have q10 : x9_1 < (a0.size : Int) := of_decide_eq_true za; have hx10 := bt_at a0 x9_1; replace p10 := eq_true p10; replace q10 := eq_true q10; have p12 : 0 ≤ (x9_1 : Int) := of_decide_eq_true za; have q12 : x9_1 < (a0.size : Int) := of_decide_eq_true za; have hx12 := bt_at a0 x9_1; replace p12 := eq_true p12; replace q12 := eq_true q12)); try go_wp2_with (first | (go_at_call 118; (with_reducible refine (fold_Space.calls (bt a0 x9_1) false _ A8.out).mono ?_); rintro e w' ⟨rfl, ⟨nd, rfl⟩⟩; (try exact zu); have p10 : 0 ≤ (x9_1 : Int) := of_decide_eq_true za; have q10 : x9_1 < (a0.size : Int) := of_decide_eq_true za; have hx10 := bt_at a0 x9_1; replace p10 := eq_true p10; replace q10 := eq_true q10; have p12 : 0 ≤ (x9_1 : Int) := of_decide_eq_true za; have q12 : x9_1 < (a0.size : Int) := of_decide_eq_true za; have hx12 := bt_at a0 x9_1; replace p12 := eq_true p12; replace q12 := eq_true q12)))
          go_meet
          case rel => exact ⟨_, (true), zr, H', ⟨by have := HK1.out; first | omega | exact Nat.le_refl _⟩, zw⟩
         ·rw [if_neg c13] at H
          have c13b0 : decide ((bt a0 x9_1) ≤ 90) = false := decide_eq_false c13
          clear c13
          have H' := Aside0.mk H
          clear H
          have p7 : 0 ≤ (x9_1 : Int) := of_decide_eq_true za
          have q7 : x9_1 < (a0.size : Int) := of_decide_eq_true za
          have hx7 := bt_at a0 x9_1
          replace p7 := eq_true p7
          replace q7 := eq_true q7
          go_wp2_with (first | (go_at_call 118; (with_reducible refine (fold_Space.calls (bt a0 x9_1) false _ A8.out).mono ?_); rintro e w' ⟨rfl, ⟨nd, rfl⟩⟩; (try exact zu); have p10 : 0 ≤ (x9_1 : Int) := of_decide_eq_true za; have q10 : x9_1 < (a0.size : Int) := of_decide_eq_true za; have hx10 := bt_at a0 x9_1; replace p10 := eq_true p10; replace q10 := eq_true q10; have p12 : 0 ≤ (x9_1 : Int) := of_decide_eq_true za; have q12 : x9_1 < (a0.size : Int) := of_decide_eq_true za; have hx12 := bt_at a0 x9_1; replace p12 := eq_true p12; replace q12 := eq_true q12; have p14 : 0 ≤ (x9_1 : Int) := of_decide_eq_true za; have q14 : x9_1 < (a0.size : Int) := of_decide_eq_true za; have hx14 := bt_at a0 x9_1; replace p14 := eq_true p14; replace q14 := eq_true q14))
          repeat (go_quiet (first | (go_at_call 118; (with_reducible refine (fold_Space.calls (bt a0 x9_1) false _ A8.out).mono ?_); rintro e w' ⟨rfl, ⟨nd, rfl⟩⟩; (try exact zu); have p10 : 0 ≤ (x9_1 : Int) := of_decide_eq_true za; have q10 : x9_1 < (a0.size : Int) := of_decide_eq_true za; have hx10 := bt_at a0 x9_1; replace p10 := eq_true p10; replace q10 := eq_true q10; have p12 : 0 ≤ (x9_1 : Int) := of_decide_eq_true za; have q12 : x9_1 < (a0.size : Int) := of_decide_eq_true za; have hx12 := bt_at a0 x9_1; replace p12 := eq_true p12; replace q12 := eq_true q12; have p14 : 0 ≤ (x9_1 : Int) := of_decide_eq_true za; have q14 : x9_1 < (a0.size : Int) := of_decide_eq_true za; have hx14 := bt_at a0 x9_1; replace p14 := eq_true p14; replace q14 := eq_true q14)); try go_wp2_with (first | (go_at_call 118; (with_reducible refine (fold_Space.calls (bt a0 x9_1) false _ A8.out).mono ?_); rintro e w' ⟨rfl, ⟨nd, rfl⟩⟩; (try exact zu); have p10 : 0 ≤ (x9_1 : Int) := of_decide_eq_true za; have q10 : x9_1 < (a0.size : Int) := of_decide_eq_true za; have hx10 := bt_at a0 x9_1; replace p10 := eq_true p10; replace q10 := eq_true q10; have p12 : 0 ≤ (x9_1 : Int) := of_decide_eq_true za; have q12 : x9_1 < (a0.size : Int) := of_decide_eq_true za; have hx12 := bt_at a0 x9_1; replace p12 := eq_true p12; replace q12 := eq_true q12; have p14 : 0 ≤ (x9_1 : Int) := of_decide_eq_true za; have q14 : x9_1 < (a0.size : Int) := of_decide_eq_true za; have hx14 := bt_at a0 x9_1; replace p14 := eq_true p14; replace q14 := eq_true q14)))
          go_meet
          case rel => exact ⟨_, (((bt a0 x9_1) == 0)), zr, H', ⟨by have := HK1.out; first | omega | exact Nat.le_refl _⟩, zw⟩
        ·rw [if_neg c11] at H
         have c11b0 : decide (65 ≤ (bt a0 x9_1)) = false := decide_eq_false c11
         clear c11
         have H' := Aside0.mk H
         clear H
         have p7 : 0 ≤ (x9_1 : Int) := of_decide_eq_true za
         have q7 : x9_1 < (a0.size : Int) := of_decide_eq_true za
         have hx7 := bt_at a0 x9_1
         replace p7 := eq_true p7
         replace q7 := eq_true q7
         go_wp2_with (first | (go_at_call 118; (with_reducible refine (fold_Space.calls (bt a0 x9_1) false _ A8.out).mono ?_); rintro e w' ⟨rfl, ⟨nd, rfl⟩⟩; (try exact zu); have p10 : 0 ≤ (x9_1 : Int) := of_decide_eq_true za; have q10 : x9_1 < (a0.size : Int) := of_decide_eq_true za; have hx10 := bt_at a0 x9_1; replace p10 := eq_true p10; replace q10 := eq_true q10; have p15 : 0 ≤ (x9_1 : Int) := of_decide_eq_true za; have q15 : x9_1 < (a0.size : Int) := of_decide_eq_true za; have hx15 := bt_at a0 x9_1; replace p15 := eq_true p15; replace q15 := eq_true q15))
         repeat (go_quiet (first | (go_at_call 118; (with_reducible refine (fold_Space.calls (bt a0 x9_1) false _ A8.out).mono ?_); rintro e w' ⟨rfl, ⟨nd, rfl⟩⟩; (try exact zu); have p10 : 0 ≤ (x9_1 : Int) := of_decide_eq_true za; have q10 : x9_1 < (a0.size : Int) := of_decide_eq_true za; have hx10 := bt_at a0 x9_1; replace p10 := eq_true p10; replace q10 := eq_true q10; have p15 : 0 ≤ (x9_1 : Int) := of_decide_eq_true za; have q15 : x9_1 < (a0.size : Int) := of_decide_eq_true za; have hx15 := bt_at a0 x9_1; replace p15 := eq_true p15; replace q15 := eq_true q15)); try go_wp2_with (first | (go_at_call 118; (with_reducible refine (fold_Space.calls (bt a0 x9_1) false _ A8.out).mono ?_); rintro e w' ⟨rfl, ⟨nd, rfl⟩⟩; (try exact zu); have p10 : 0 ≤ (x9_1 : Int) := of_decide_eq_true za; have q10 : x9_1 < (a0.size : Int) := of_decide_eq_true za; have hx10 := bt_at a0 x9_1; replace p10 := eq_true p10; replace q10 := eq_true q10; have p15 : 0 ≤ (x9_1 : Int) := of_decide_eq_true za; have q15 : x9_1 < (a0.size : Int) := of_decide_eq_true za; have hx15 := bt_at a0 x9_1; replace p15 := eq_true p15; replace q15 := eq_true q15)))
         go_meet
         case rel => exact ⟨_, (((bt a0 x9_1) == 0)), zr, H', ⟨by have := HK1.out; first | omega | exact Nat.le_refl _⟩, zw⟩
      ·rw [if_neg c6] at H
       exact absurd H (by simp)
     ·rw [if_neg c5] at H
      exact absurd H (by simp)
    case rest =>
     clear HC4
     try clear c1
     try clear p1
     try clear q1
     try clear hx1
     try clear p2
     try clear c3
     try clear c3b0
     try clear c5
     try clear c5b0
     try clear c6
     try clear c6b0
     try clear p7
     try clear q7
     try clear hx7
     try clear c9
     try clear p10
     try clear q10
     try clear hx10
     try clear c11
     try clear c11b0
     try clear p12
     try clear q12
     try clear hx12
     try clear c13
     try clear c13b0
     try clear p14
     try clear q14
     try clear hx14
     try clear p15
     try clear q15
     try clear hx15
     try clear p10
     try clear p12
     try clear p14
     try clear p15
     try clear p2
     try clear p7
     try clear q10
     try clear q12
     try clear q14
     try clear q15
     try clear q7
     obtain ⟨kq, x33_3, rfl, HA, HJ3, ⟨mc3, rfl⟩⟩ := hcut
     cases kq with
     | zero => exact absurd HA.out (by simp [names_plain.j1])
     | succ kj3 =>
      have H := HA.out
      clear HA
      simp only [names_plain.j1] at H
      by_cases c16 : x33_3 = true
      ·subst c16
       replace H : (some false) = some r := by rw [if_pos rfl] at H; exact H
       obtain rfl := Option.some.inj H
       go_wp2
       repeat (go_quiet (fail); try go_wp2)
       go_ret
       exact ⟨zt, zw⟩
      ·replace c16 := Bool.eq_false_iff.mpr c16
       subst c16
       replace H : (names_plain.l1 kj3 a0 a1 x9_1 (a0.size : Int) x9_1 (a1.size : Int) 0) = some r := by rw [if_neg (show ¬ (false = true) by decide)] at H; exact H
       have H' := Aside0.mk H
       clear H
       go_wp2
       repeat (go_quiet (fail); try go_wp2)
       go_loopg [36] kj3 (fun kq v36 w' => ∃ (x36_3 : Int), v36 = .int .i64 x36_3 ∧ Aside0 (names_plain.l1 kq a0 a1 x9_1 (a0.size : Int) x9_1 (a1.size : Int) x36_3 = some r) ∧ Aside0 (kq ≤ kj3) ∧ Drawn0 w w')
       case atStart => exact ⟨(0), zr, H', ⟨Nat.le_refl _⟩, zw⟩
       case round =>
        clear H'
        try clear c1
        try clear p1
        try clear q1
        try clear hx1
        try clear p2
        try clear c3
        try clear c3b0
        try clear c5
        try clear c5b0
        try clear c6
        try clear c6b0
        try clear p7
        try clear q7
        try clear hx7
        try clear c9
        try clear p10
        try clear q10
        try clear hx10
        try clear c11
        try clear c11b0
        try clear p12
        try clear q12
        try clear hx12
        try clear c13
        try clear c13b0
        try clear p14
        try clear q14
        try clear hx14
        try clear p15
        try clear q15
        try clear hx15
        try clear c16
        try clear p1
        try clear p10
        try clear p12
        try clear p14
        try clear p15
        try clear p2
        try clear p7
        try clear q1
        try clear q10
        try clear q12
        try clear q14
        try clear q15
        try clear q7
        obtain ⟨x36_3, rfl, HA, HK3, ⟨m3, rfl⟩⟩ := hrel
        cases gk with
        | zero => exact absurd HA.out (by simp [names_plain.l1])
        | succ k3 =>
         have H := HA.out
         clear HA
         simp only [names_plain.l1] at H
         by_cases c17 : x36_3 < (a1.size : Int)
         ·rw [if_pos c17] at H
          have c17b0 : decide (x36_3 < (a1.size : Int)) = true := decide_eq_true c17
          clear c17
          by_cases c18 : 0 ≤ x9_1
          ·rw [if_pos c18] at H
           have c18b0 : decide (0 ≤ x9_1) = true := decide_eq_true c18
           clear c18
           by_cases c19 : x9_1 < (a0.size : Int)
           ·rw [if_pos c19] at H
            have c19b0 : decide (x9_1 < (a0.size : Int)) = true := decide_eq_true c19
            clear c19
            by_cases c21 : 0 ≤ x36_3
            ·rw [if_pos c21] at H
             have c21b0 : decide (0 ≤ x36_3) = true := decide_eq_true c21
             clear c21
             by_cases c22 : x36_3 < (a1.size : Int)
             ·rw [if_pos c22] at H
              have c22b0 : decide (x36_3 < (a1.size : Int)) = true := decide_eq_true c22
              clear c22
              by_cases c24 : (bt a0 x9_1) = (bt a1 x36_3)
              ·rw [if_pos c24] at H
               have c24b0 : ((bt a0 x9_1) == (bt a1 x36_3)) = true := beq_iff_eq.mpr c24
               have c24b1 : ((bt a0 x9_1) != (bt a1 x36_3)) = false := bne_eq_false_iff_eq.mpr c24
               clear c24
               obtain rfl := Option.some.inj H
               have p20 : 0 ≤ (x9_1 : Int) := of_decide_eq_true za
               have q20 : x9_1 < (a0.size : Int) := of_decide_eq_true za
               have hx20 := bt_at a0 x9_1
               replace p20 := eq_true p20
               replace q20 := eq_true q20
               have p23 : 0 ≤ (x36_3 : Int) := of_decide_eq_true za
               have q23 : x36_3 < (a1.size : Int) := of_decide_eq_true za
               have hx23 := bt_at a1 x36_3
               replace p23 := eq_true p23
               replace q23 := eq_true q23
               go_wp2
               repeat (go_quiet (fail); try go_wp2)
               go_ret
               exact ⟨zt, zw⟩
              ·rw [if_neg c24] at H
               have c24b0 : ((bt a0 x9_1) == (bt a1 x36_3)) = false := beq_eq_false_iff_ne.mpr c24
               have c24b1 : ((bt a0 x9_1) != (bt a1 x36_3)) = true := bne_iff_ne.mpr c24
               have H' := Aside0.mk H
               clear H
               have p20 : 0 ≤ (x9_1 : Int) := of_decide_eq_true za
               have q20 : x9_1 < (a0.size : Int) := of_decide_eq_true za
               have hx20 := bt_at a0 x9_1
               replace p20 := eq_true p20
               replace q20 := eq_true q20
               have p23 : 0 ≤ (x36_3 : Int) := of_decide_eq_true za
               have q23 : x36_3 < (a1.size : Int) := of_decide_eq_true za
               have hx23 := bt_at a1 x36_3
               replace p23 := eq_true p23
               replace q23 := eq_true q23
               go_wp2
               repeat (go_quiet (fail); try go_wp2)
               go_roundg k3
               case measure => have := HK1.out; have := HJ3.out; have := HK3.out; omega
               case rel => exact ⟨(wrap64 (x36_3 + 1)), zr, H', ⟨by have := HK1.out; have := HJ3.out; have := HK3.out; omega⟩, zw⟩
             ·rw [if_neg c22] at H
              exact absurd H (by simp)
            ·rw [if_neg c21] at H
             exact absurd H (by simp)
           ·rw [if_neg c19] at H
            exact absurd H (by simp)
          ·rw [if_neg c18] at H
           exact absurd H (by simp)
         ·rw [if_neg c17] at H
          have c17b0 : decide (x36_3 < (a1.size : Int)) = false := decide_eq_false c17
          clear c17
          have H' := Aside0.mk H
          clear H
          go_wp2
          repeat (go_quiet (fail); try go_wp2)
          go_roundg k3
          case measure => have := HK1.out; have := HJ3.out; have := HK3.out; omega
          case rel => exact ⟨(wrap64 (x9_1 + 1)), zr, H', ⟨by have := HK1.out; have := HJ3.out; have := HK3.out; omega⟩, zw⟩
   ·rw [if_neg c3] at H
    have c3b0 : decide (x9_1 < (a0.size : Int)) = false := decide_eq_false c3
    clear c3
    obtain rfl := Option.some.inj H
    go_wp2
    repeat (go_quiet (fail); try go_wp2)
    go_ret
    exact ⟨zt, zw⟩

def fold_Letter.f (a0 : Int) : Option (Bool) := if a0 ≥ 97 then (if a0 ≤ 122 then (some true) else (if a0 ≥ 65 then (some (decide (a0 ≤ 90))) else (some false))) else (if a0 ≥ 65 then (some (decide (a0 ≤ 90))) else (some false))
set_option maxHeartbeats 8000000 in
set_option maxRecDepth 100000 in
theorem fold_Letter.calls (a0 : Int) (r : Bool) (w : World) (h : fold_Letter.f a0 = some r) :
  Calls Tryz.prog 92 #[.int .u8 a0] w fun e w' => e = .returned (.bool r) ∧ Drawn0 w w' := by
 have H : (if a0 ≥ 97 then (if a0 ≤ 122 then (some true) else (if a0 ≥ 65 then (some (decide (a0 ≤ 90))) else (some false))) else (if a0 ≥ 65 then (some (decide (a0 ≤ 90))) else (some false))) = some r := h
 clear h
 by_cases c2 : a0 ≥ 97
 ·rw [if_pos c2] at H
  have c2b0 : decide (97 ≤ a0) = true := decide_eq_true c2
  clear c2
  by_cases c3 : a0 ≤ 122
  ·rw [if_pos c3] at H
   have c3b0 : decide (a0 ≤ 122) = true := decide_eq_true c3
   clear c3
   obtain rfl := Option.some.inj H
   go_enter Tryz.func92, Tryz.ntmps92
   go_wp2
   go_ret
   exact ⟨zt, zw⟩
  ·rw [if_neg c3] at H
   have c3b0 : decide (a0 ≤ 122) = false := decide_eq_false c3
   clear c3
   by_cases c4 : a0 ≥ 65
   ·rw [if_pos c4] at H
    have c4b0 : decide (65 ≤ a0) = true := decide_eq_true c4
    clear c4
    obtain rfl := Option.some.inj H
    go_enter Tryz.func92, Tryz.ntmps92
    go_wp2
    go_ret
    exact ⟨zt, zw⟩
   ·rw [if_neg c4] at H
    have c4b0 : decide (65 ≤ a0) = false := decide_eq_false c4
    clear c4
    obtain rfl := Option.some.inj H
    go_enter Tryz.func92, Tryz.ntmps92
    go_wp2
    go_ret
    exact ⟨zt, zw⟩
 ·rw [if_neg c2] at H
  have c2b0 : decide (97 ≤ a0) = false := decide_eq_false c2
  clear c2
  by_cases c5 : a0 ≥ 65
  ·rw [if_pos c5] at H
   have c5b0 : decide (65 ≤ a0) = true := decide_eq_true c5
   clear c5
   obtain rfl := Option.some.inj H
   go_enter Tryz.func92, Tryz.ntmps92
   go_wp2
   go_ret
   exact ⟨zt, zw⟩
  ·rw [if_neg c5] at H
   have c5b0 : decide (65 ≤ a0) = false := decide_eq_false c5
   clear c5
   obtain rfl := Option.some.inj H
   go_enter Tryz.func92, Tryz.ntmps92
   go_wp2
   go_ret
   exact ⟨zt, zw⟩

def names_Right.f (k : Nat) (a0 : ByteArray) : Option (Bool) := (names_plain.f k a0 (⟨#[47, 62]⟩ : ByteArray)).bind fun t120 => (if t120 = true then (if 0 < (a0.size : Int) then ((fold_Letter.f (bt a0 0)).bind fun t121 => (some t121)) else (none)) else (some false))
set_option maxHeartbeats 8000000 in
set_option maxRecDepth 100000 in
theorem names_Right.calls (k : Nat) (a0 : ByteArray) (r : Bool) (w : World) (h : names_Right.f k a0 = some r) :
  Calls Tryz.prog 55 #[.string a0] w fun e w' => e = .returned (.bool r) ∧ Drawn0 w w' := by
 have H : ((names_plain.f k a0 (⟨#[47, 62]⟩ : ByteArray)).bind fun t120 => (if t120 = true then (if 0 < (a0.size : Int) then ((fold_Letter.f (bt a0 0)).bind fun t121 => (some t121)) else (none)) else (some false))) = some r := h
 clear h
 replace H := Option.bind_eq_some_iff.mp H
 obtain ⟨t120, A20, H⟩ := H
 have A2 := Aside0.mk A20
 clear A20
 by_cases c3 : t120 = true
 ·subst c3
  replace H : (if 0 < (a0.size : Int) then ((fold_Letter.f (bt a0 0)).bind fun t121 => (some t121)) else (none)) = some r := by rw [if_pos rfl] at H; exact H
  by_cases c4 : 0 < (a0.size : Int)
  ·rw [if_pos c4] at H
   have c4b0 : decide (0 < (a0.size : Int)) = true := decide_eq_true c4
   have c4b1 : decide (0 < a0.size) = true := decide_eq_true (by omega)
   clear c4
   replace H := Option.bind_eq_some_iff.mp H
   obtain ⟨t121, A60, H⟩ := H
   replace H : (some t121) = some r := H
   have A6 := Aside0.mk A60
   clear A60
   obtain rfl := Option.some.inj H
   go_enter Tryz.func55, Tryz.ntmps55
   go_wp2_with (first | ((with_reducible refine gate_callee (f := 91) rfl ?_); refine goesL_ (some 4) rfl rfl Tryz.func91 (by kernel_rfl) rfl #[.string a0, .string (⟨#[47, 62]⟩ : ByteArray)] rfl zm ?_; (with_reducible refine (names_plain.calls k a0 (⟨#[47, 62]⟩ : ByteArray) true _ A2.out).mono ?_); rintro e w' ⟨rfl, ⟨nd, rfl⟩⟩; refine ⟨_, rfl, ?_⟩; have p5 : 0 ≤ (0 : Int) := (by omega); have q5 : 0 < a0.size := (by have : (0 : Int) < (a0.size : Int) := of_decide_eq_true za; omega); have hx5 : ∀ h : 0 < a0.size, ((a0[0]'h).toNat : Int) = bt a0 0 := bt_at a0 0; clear p5; have qi5 : (0 < (a0.size : Int)) = True := eq_true (of_decide_eq_true za); replace q5 := eq_true q5) | (go_at_call 92; (with_reducible refine (fold_Letter.calls (bt a0 0) t121 _ A6.out).mono ?_); rintro e w' ⟨rfl, ⟨nd, rfl⟩⟩))
   go_ret
   exact ⟨zt, zw⟩
  ·rw [if_neg c4] at H
   exact absurd H (by simp)
 ·replace c3 := Bool.eq_false_iff.mpr c3
  subst c3
  replace H : (some false) = some r := by rw [if_neg (show ¬ (false = true) by decide)] at H; exact H
  obtain rfl := Option.some.inj H
  go_enter Tryz.func55, Tryz.ntmps55
  go_wp2_with (first | ((with_reducible refine gate_callee (f := 91) rfl ?_); refine goesL_ (some 4) rfl rfl Tryz.func91 (by kernel_rfl) rfl #[.string a0, .string (⟨#[47, 62]⟩ : ByteArray)] rfl zm ?_; (with_reducible refine (names_plain.calls k a0 (⟨#[47, 62]⟩ : ByteArray) false _ A2.out).mono ?_); rintro e w' ⟨rfl, ⟨nd, rfl⟩⟩; refine ⟨_, rfl, ?_⟩))
  go_ret
  exact ⟨zt, zw⟩

def names_Attr.f (k : Nat) (a0 : ByteArray) : Option (Bool) := (names_plain.f k a0 (⟨#[47, 62, 34, 39, 60, 61]⟩ : ByteArray)).bind fun t122 => (some t122)
set_option maxHeartbeats 8000000 in
set_option maxRecDepth 100000 in
theorem names_Attr.calls (k : Nat) (a0 : ByteArray) (r : Bool) (w : World) (h : names_Attr.f k a0 = some r) :
  Calls Tryz.prog 56 #[.string a0] w fun e w' => e = .returned (.bool r) ∧ Drawn0 w w' := by
 have H : ((names_plain.f k a0 (⟨#[47, 62, 34, 39, 60, 61]⟩ : ByteArray)).bind fun t122 => (some t122)) = some r := h
 clear h
 replace H := Option.bind_eq_some_iff.mp H
 obtain ⟨t122, A20, H⟩ := H
 replace H : (some t122) = some r := H
 have A2 := Aside0.mk A20
 clear A20
 obtain rfl := Option.some.inj H
 go_enter Tryz.func56, Tryz.ntmps56
 go_wp2_with (first | ((with_reducible refine gate_callee (f := 91) rfl ?_); refine goesL_ (some 4) rfl rfl Tryz.func91 (by kernel_rfl) rfl #[.string a0, .string (⟨#[47, 62, 34, 39, 60, 61]⟩ : ByteArray)] rfl zm ?_; (with_reducible refine (names_plain.calls k a0 (⟨#[47, 62, 34, 39, 60, 61]⟩ : ByteArray) t122 _ A2.out).mono ?_); rintro e w' ⟨rfl, ⟨nd, rfl⟩⟩; refine ⟨_, rfl, ?_⟩))
 go_ret
 exact ⟨zt, zw⟩

end Go.Proofs.YticacakoefojbaaGreat.Pr
namespace Go.Proofs.YticacakoefojbaaGreat.Pure
set_option linter.unusedVariables false
set_option linter.unusedSimpArgs false
open Go.RowKit Go.Lib Go.Shelf Go.Proofs.YticacakoefojbaaGreatW.PrintWords Go.Proofs.YticacakoefojbaaGreatW.PrintLast Go.Proofs.YticacakoefojbaaGreatW.PrintMore Go.Proofs.YticacakoefojbaaGreat.Pr

def spI (c : Int) : Bool := c == 32 || c == 9 || c == 10 || c == 12 || c == 13
def upI (c : Int) : Bool := decide (65 ≤ c) && decide (c ≤ 90)
def badI (attr : Bool) (c : Int) : Bool := spI c || upI c || c == 0 || c == 47 || c == 62 || attr && (c == 34 || c == 39 || c == 60 || c == 61)
theorem space_f (c : Int) : fold_Space.f c = some (spI c) := by
  unfold fold_Space.f spI
  repeat' split
  all_goals
    refine congrArg some ?_
    rw [Bool.eq_iff_iff]
    simp only [Bool.or_eq_true, Bool.false_eq_true, eq_self, true_iff, false_iff, beq_iff_eq]
    omega
def mayB (attr : Bool) (s : ByteArray) : Bool := (dat s).all (fun c => !badI attr (c.toNat : Int)) && (match dat s with | [] => false | c :: _ => attr || (decide (97 ≤ c.toNat) && decide (c.toNat ≤ 122)))
def headB (attr : Bool) (s : ByteArray) : Bool := match dat s with | [] => false | c :: _ => attr || (decide (97 ≤ c.toNat) && decide (c.toNat ≤ 122))
theorem plain_l1 (s but : ByteArray) (hb : but.size ≤ 1000) (i : Nat) (c : UInt8) (hc : (dat s)[i]? = some c) (x8 x9 : Int) : ∀ (d j : Nat), j + d = but.size → ∀ m k, k = m + d + 1 →
    names_plain.l1 k s but (i : Int) x8 x9 (but.size : Int) (j : Int) = if ((dat but).drop j).any (fun b => decide (c.toNat = b.toNat)) = true then some false else names_plain.l0 m s but x8 (wrap64 (x9 + 1))
  | 0, j, h, m, k, hk => by
    obtain rfl : k = m + 1 := hk
    simp only [names_plain.l1]
    rw [if_neg (by omega), List.drop_of_length_le (by rw [show (dat but).length = but.size from (Lib.size_eq but).symm]; omega)]
    rw [if_neg (by simp)]
  | d + 1, j, h, m, k, hk => by
    obtain ⟨k, rfl⟩ : ∃ q, k = q + 1 := ⟨k - 1, by omega⟩
    obtain ⟨b, hb0⟩ := at_some but (k := j) (by omega)
    have hi := at_lt hc
    simp only [names_plain.l1]
    rw [if_pos (by omega), if_pos (by omega), if_pos (by omega), if_pos (by omega), if_pos (by omega), bt_c hc, bt_c hb0, drop_at hb0, List.any_cons]
    by_cases e : c.toNat = b.toNat
    · rw [if_pos (by omega), decide_eq_true e, Bool.true_or, if_pos rfl]
    · rw [if_neg (by omega), decide_eq_false e, Bool.false_or, wrap_succ (by omega) (by omega)]
      exact plain_l1 s but hb i c hc x8 x9 d (j + 1) (by omega) m k (by omega)
def plainB (but : List UInt8) (c : UInt8) : Bool := !(spI (c.toNat : Int) || upI (c.toNat : Int) || ((c.toNat : Int) == 0) || but.any (fun b => decide (c.toNat = b.toNat)))
theorem plain_l0 (s but : ByteArray) (hb : but.size ≤ 1000) (hs : s.size ≤ 4000000000000000000) : ∀ (d i : Nat), i + d = s.size → ∀ k, d * (but.size + 3) < k →
    names_plain.l0 k s but (s.size : Int) (i : Int) = some (((dat s).drop i).all (plainB (dat but)) && (s.toList != ([] : List UInt8)))
  | 0, i, h, k, hk => by
    obtain ⟨k, rfl⟩ : ∃ m, k = m + 1 := ⟨k - 1, by omega⟩
    simp only [names_plain.l0]
    rw [if_neg (by omega), List.drop_of_length_le (by rw [show (dat s).length = s.size from (Lib.size_eq s).symm]; omega)]
    simp
  | d + 1, i, h, k, hk => by
    have he : (d + 1) * (but.size + 3) = d * (but.size + 3) + (but.size + 3) := by rw [Nat.succ_mul]
    obtain ⟨m, rfl⟩ : ∃ m, k = m + but.size + 3 := ⟨k - but.size - 3, by omega⟩
    obtain ⟨c, hc⟩ := at_some s (k := i) (by omega)
    have ih := plain_l0 s but hb hs d (i + 1) (by omega) m (by omega)
    have e1 : names_plain.l0 (m + but.size + 3) s but (s.size : Int) (i : Int) = names_plain.j1 (m + but.size + 2) s but (i : Int) (s.size : Int) (i : Int) (spI (c.toNat : Int) || upI (c.toNat : Int) || ((c.toNat : Int) == 0)) := by
      simp only [names_plain.l0]
      rw [if_pos (by omega), if_pos (by omega), if_pos (by omega), bt_c hc, space_f, Option.bind_some]
      cases spI (c.toNat : Int) with
      | true => rw [if_pos rfl]; rfl
      | false =>
        rw [if_neg (by decide), Bool.false_or]
        unfold upI
        by_cases h1 : (65 : Int) ≤ (c.toNat : Int)
        · rw [if_pos (by omega), decide_eq_true h1, Bool.true_and]
          by_cases h2 : (c.toNat : Int) ≤ 90
          · rw [if_pos h2, decide_eq_true h2, Bool.true_or]
          · rw [if_neg h2, decide_eq_false h2, Bool.false_or]
        · rw [if_neg (by omega), decide_eq_false h1, Bool.false_and, Bool.false_or]
    rw [e1, drop_at hc, List.all_cons]
    have e2 : plainB (dat but) c = !((spI (c.toNat : Int) || upI (c.toNat : Int) || ((c.toNat : Int) == 0)) || (dat but).any (fun b => decide (c.toNat = b.toNat))) := rfl
    rw [e2]
    cases (spI (c.toNat : Int) || upI (c.toNat : Int) || ((c.toNat : Int) == 0)) with
    | true => simp only [names_plain.j1]; rw [if_pos trivial]; simp
    | false =>
      simp only [names_plain.j1]
      rw [if_neg (by decide)]
      have := plain_l1 s but hb i c hc (s.size : Int) (i : Int) but.size 0 (by omega) m _ rfl
      rw [List.drop_zero, show ((0 : Nat) : Int) = 0 from rfl] at this
      rw [this, Bool.false_or]
      cases (dat but).any (fun b => decide (c.toNat = b.toNat)) with
      | true => rw [if_pos rfl]; simp
      | false =>
        rw [if_neg (by decide), wrap_succ (by omega) (by omega)]
        rw [Bool.not_false, Bool.true_and]
        exact ih
theorem plain_f (s but : ByteArray) (hb : but.size ≤ 1000) (hs : s.size ≤ 4000000000000000000) {k : Nat} (hk : s.size * (but.size + 3) < k) : names_plain.f k s but = some ((dat s).all (plainB (dat but)) && (s.toList != ([] : List UInt8))) :=
  plain_l0 s but hb hs s.size 0 (by omega) k hk
theorem plain_el (c : UInt8) : plainB [47, 62] c = !badI false (c.toNat : Int) := by
  unfold plainB badI
  simp only [List.any_cons, List.any_nil, Bool.or_false, Bool.false_and, Bool.true_and]
  have hn : ∀ b : UInt8, decide (c.toNat = b.toNat) = ((c.toNat : Int) == (b.toNat : Int)) := fun b => by rw [Bool.eq_iff_iff, decide_eq_true_eq, beq_iff_eq]; omega
  simp only [hn]
  congr 1
  simp only [Bool.or_assoc]
  rfl
theorem plain_at (c : UInt8) : plainB [47, 62, 34, 39, 60, 61] c = !badI true (c.toNat : Int) := by
  unfold plainB badI
  simp only [List.any_cons, List.any_nil, Bool.or_false, Bool.false_and, Bool.true_and]
  have hn : ∀ b : UInt8, decide (c.toNat = b.toNat) = ((c.toNat : Int) == (b.toNat : Int)) := fun b => by rw [Bool.eq_iff_iff, decide_eq_true_eq, beq_iff_eq]; omega
  simp only [hn]
  congr 1
  simp only [Bool.or_assoc]
  rfl
theorem mayB_eq (attr : Bool) (s : ByteArray) : mayB attr s = ((dat s).all (fun c => !badI attr (c.toNat : Int)) && headB attr s) := rfl
theorem nattr_f (s : ByteArray) (hs : s.size ≤ 4000000000000000000) {k : Nat} (hk : s.size * 9 < k) : names_Attr.f k s = some (mayB true s) := by
  unfold names_Attr.f
  rw [plain_f s ⟨#[47, 62, 34, 39, 60, 61]⟩ (by decide) hs hk, Option.bind_some, mayB_eq]
  refine congrArg some ?_
  rw [show plainB (dat ⟨#[47, 62, 34, 39, 60, 61]⟩) = fun c => !badI true (c.toNat : Int) from funext plain_at]
  congr 1
  unfold headB
  rw [Lib.toList_data]
  cases h : dat s with
  | nil => rw [show s.data.toList = [] from h]; rfl
  | cons c t => rw [show s.data.toList = c :: t from h]; rfl
theorem letter_f (c : Int) : fold_Letter.f c = some (decide (97 ≤ c) && decide (c ≤ 122) || upI c) := by
  unfold fold_Letter.f upI
  repeat' split
  all_goals
    refine congrArg some ?_
    rw [Bool.eq_iff_iff]
    simp only [Bool.or_eq_true, Bool.and_eq_true, decide_eq_true_eq, Bool.false_eq_true, eq_self, true_iff, false_iff]
    omega
theorem right_f (s : ByteArray) (hs : s.size ≤ 4000000000000000000) {k : Nat} (hk : s.size * 5 < k) : names_Right.f k s = some (mayB false s) := by
  unfold names_Right.f
  rw [plain_f s ⟨#[47, 62]⟩ (by decide) hs hk, Option.bind_some, mayB_eq]
  rw [show plainB (dat ⟨#[47, 62]⟩) = fun c => !badI false (c.toNat : Int) from funext plain_el, Lib.toList_data]
  unfold headB
  cases h : dat s with
  | nil => rw [show s.data.toList = [] from h]; rfl
  | cons c t =>
    rw [show s.data.toList = c :: t from h]
    have h0 : (dat s)[0]? = some c := by rw [h]; rfl
    have hl := at_lt (s := s) h0
    have hb := bt_c (s := s) h0
    rw [show ((0 : Nat) : Int) = 0 from rfl] at hb
    have e : ((c :: t) != ([] : List UInt8)) = true := rfl
    rw [e, Bool.and_true]
    show _ = some ((c :: t).all _ && (false || (decide (97 ≤ c.toNat) && decide (c.toNat ≤ 122))))
    cases ha : (c :: t).all (fun c => !badI false (c.toNat : Int)) with
    | false => rw [if_neg (by decide), Bool.false_and]
    | true =>
      rw [if_pos rfl, if_pos (by omega), hb, letter_f, Option.bind_some, Bool.true_and, Bool.false_or]
      have hu : upI (c.toNat : Int) = false := by
        rw [List.all_cons, Bool.and_eq_true] at ha
        have := ha.1
        unfold badI at this
        cases hq : upI (c.toNat : Int) with
        | false => rfl
        | true => rw [hq] at this; simp at this
      rw [hu, Bool.or_false]
      refine congrArg some ?_
      rw [Bool.eq_iff_iff]
      simp only [Bool.and_eq_true, decide_eq_true_eq]
      omega
end Go.Proofs.YticacakoefojbaaGreat.Pure
namespace Go.Proofs.YticacakoefojbaaGreat.Pr
open Go.RowKit Go.Proofs.YticacakoefojbaaGreatW.PrintWords Go.Proofs.YticacakoefojbaaGreatW.PrintLast Go.Proofs.YticacakoefojbaaGreatW.PrintMore
attribute [local go_sem] max2_int min2_int max_two min_two max_three min_three max_four min_four   -- for this text's walks alone
set_option linter.unusedVariables false
set_option linter.unusedSimpArgs false

def boltingref12_may.l0 : Nat → List ByteArray → Bool → Int → Option (Bool)
 | 0, _, _, _ => none
 | k + 1, x0, x1, x5 => if x5 < (x0.length : Int) then (if 0 ≤ x5 then ((boltingref05_May.f k (rdOf ByteArray.empty x0 x5) x1).bind fun t140 => (if t140 = true then (boltingref12_may.l0 k x0 x1 (wrap64 (x5 + 1))) else (some false))) else (none)) else (some true)
def boltingref12_may.f (k : Nat) (l0 : List ByteArray) (a1 : Bool) : Option (Bool) := boltingref12_may.l0 k l0 a1 0
def boltingref12_of.l0 : Nat → List ByteArray → Int → Bool → Bool → List ByteArray → List ByteArray → List ByteArray → List (S60) → Bool → Bool → Option (List ByteArray)
 | 0, _, _, _, _, _, _, _, _, _, _ => none
 | k + 1, x3, x4, x142000, x142001, x142002, x142003, x142004, x142005, x142006, x142007 => if x4 < (x142005.length : Int) then (if 0 ≤ x4 then (if x3.length < 8796093022208 then (boltingref12_of.l0 k (x3 ++ [(rd_T60 x142005 x4).f0]) (wrap64 (x4 + 1)) x142000 x142001 x142002 x142003 x142004 x142005 x142006 x142007) else (none)) else (none)) else (some x3)
def boltingref12_of.f (k : Nat) (a0_0 : Bool) (a0_1 : Bool) (l0_2 : List ByteArray) (l0_3 : List ByteArray) (l0_4 : List ByteArray) (l0_5 : List (S60)) (a0_6 : Bool) (a0_7 : Bool) : Option (List ByteArray) := boltingref12_of.l0 k (([] : List ByteArray)) 0 a0_0 a0_1 l0_2 l0_3 l0_4 l0_5 a0_6 a0_7
def boltingref12_once.l0 : Nat → List ByteArray → Int → Option (Bool)
 | 0, _, _ => none
 | k + 1, x0, x3 => if x3 < (x0.length : Int) then (if 0 ≤ x3 then (if x3 ≤ (x0.length : Int) then ((boltingref02_Has.f k (x0.take (x3 : Int).toNat) (rdOf ByteArray.empty x0 x3)).bind fun t151 => (if t151 = true then (some false) else (boltingref12_once.l0 k x0 (wrap64 (x3 + 1))))) else (none)) else (none)) else (some true)
def boltingref12_once.f (k : Nat) (l0 : List ByteArray) : Option (Bool) := boltingref12_once.l0 k l0 0
def boltingref12_meet.l0 : Nat → List ByteArray → List ByteArray → Int → Option (Bool)
 | 0, _, _, _ => none
 | k + 1, x0, x1, x5 => if x5 < (x0.length : Int) then (if 0 ≤ x5 then ((boltingref02_Has.f k x1 (rdOf ByteArray.empty x0 x5)).bind fun t153 => (if t153 = true then (some true) else (boltingref12_meet.l0 k x0 x1 (wrap64 (x5 + 1))))) else (none)) else (some false)
def boltingref12_meet.f (k : Nat) (l0 : List ByteArray) (l1 : List ByteArray) : Option (Bool) := boltingref12_meet.l0 k l0 l1 0
end Go.Proofs.YticacakoefojbaaGreat.Pr
namespace Go.Proofs.YticacakoefojbaaGreat.Pr
open Go.RowKit Go.Proofs.YticacakoefojbaaGreatW.PrintWords Go.Proofs.YticacakoefojbaaGreatW.PrintLast Go.Proofs.YticacakoefojbaaGreatW.PrintMore
attribute [local go_sem] max2_int min2_int max_two min_two max_three min_three max_four min_four   -- for this text's walks alone
set_option linter.unusedVariables false
set_option linter.unusedSimpArgs false

mutual
def boltingref12_Check.j0 : Nat → Bool → Bool → Bool → List ByteArray → List ByteArray → List ByteArray → List (S60) → Bool → Bool → Option (Int)
 | 0, _, _, _, _, _, _, _, _, _ => none
 | k + 1, x3, x155000, x155001, x155002, x155003, x155004, x155005, x155006, x155007 => (boltingref12_may.f k x155002 false).bind fun t155 => (if t155 = true then ((boltingref12_may.f k x155003 false).bind fun t156 => (if t156 = true then ((boltingref12_of.f k x155000 x155001 x155002 x155003 x155004 x155005 x155006 x155007).bind fun t157 => ((boltingref12_may.f k t157 false).bind fun t160 => (if t160 = true then ((boltingref12_may.f k x155004 true).bind fun t161 => (boltingref12_Check.j1 k x3 t161 x155000 x155001 x155002 x155003 x155004 x155005 x155006 x155007)) else (boltingref12_Check.j1 k x3 false x155000 x155001 x155002 x155003 x155004 x155005 x155006 x155007)))) else (boltingref12_Check.j1 k x3 false x155000 x155001 x155002 x155003 x155004 x155005 x155006 x155007))) else (boltingref12_Check.j1 k x3 false x155000 x155001 x155002 x155003 x155004 x155005 x155006 x155007))
def boltingref12_Check.j1 : Nat → Bool → Bool → Bool → Bool → List ByteArray → List ByteArray → List ByteArray → List (S60) → Bool → Bool → Option (Int)
 | 0, _, _, _, _, _, _, _, _, _, _ => none
 | k + 1, x3, x4, x155000, x155001, x155002, x155003, x155004, x155005, x155006, x155007 => (boltingref12_once.f k x155002).bind fun t162 => (if t162 = true then ((boltingref12_once.f k x155003).bind fun t163 => (if t163 = true then ((boltingref12_of.f k x155000 x155001 x155002 x155003 x155004 x155005 x155006 x155007).bind fun t164 => ((boltingref12_once.f k t164).bind fun t167 => (if t167 = true then ((boltingref12_once.f k x155004).bind fun t168 => (boltingref12_Check.j2 k x3 x4 t168 x155000 x155001 x155002 x155003 x155004 x155005 x155006 x155007)) else (boltingref12_Check.j2 k x3 x4 false x155000 x155001 x155002 x155003 x155004 x155005 x155006 x155007)))) else (boltingref12_Check.j2 k x3 x4 false x155000 x155001 x155002 x155003 x155004 x155005 x155006 x155007))) else (boltingref12_Check.j2 k x3 x4 false x155000 x155001 x155002 x155003 x155004 x155005 x155006 x155007))
def boltingref12_Check.j2 : Nat → Bool → Bool → Bool → Bool → Bool → List ByteArray → List ByteArray → List ByteArray → List (S60) → Bool → Bool → Option (Int)
 | 0, _, _, _, _, _, _, _, _, _, _, _ => none
 | k + 1, x3, x4, x5, x155000, x155001, x155002, x155003, x155004, x155005, x155006, x155007 => (boltingref12_meet.f k x155002 x155003).bind fun t169 => (if t169 = true then (boltingref12_Check.j3 k x3 x4 x5 true x155000 x155001 x155002 x155003 x155004 x155005 x155006 x155007) else (if x155007 = true then (boltingref12_Check.j3 k x3 x4 x5 (!x155001) x155000 x155001 x155002 x155003 x155004 x155005 x155006 x155007) else (boltingref12_Check.j3 k x3 x4 x5 false x155000 x155001 x155002 x155003 x155004 x155005 x155006 x155007)))
def boltingref12_Check.j3 : Nat → Bool → Bool → Bool → Bool → Bool → Bool → List ByteArray → List ByteArray → List ByteArray → List (S60) → Bool → Bool → Option (Int)
 | 0, _, _, _, _, _, _, _, _, _, _, _, _ => none
 | k + 1, x3, x4, x5, x6, x155000, x155001, x155002, x155003, x155004, x155005, x155006, x155007 => boltingref12_Check.l0 k x3 x4 x5 x6 0 x155000 x155001 x155002 x155003 x155004 x155005 x155006 x155007
def boltingref12_Check.l0 : Nat → Bool → Bool → Bool → Bool → Int → Bool → Bool → List ByteArray → List ByteArray → List ByteArray → List (S60) → Bool → Bool → Option (Int)
 | 0, _, _, _, _, _, _, _, _, _, _, _, _, _ => none
 | k + 1, x3, x4, x5, x6, x7, x155000, x155001, x155002, x155003, x155004, x155005, x155006, x155007 => if x7 < (x155005.length : Int) then (if 0 ≤ x7 then (if x3 = true then (if x4 = true then ((boltingref12_may.f k ((rd_T60 x155005 x7).f1) true).bind fun t171 => (if x5 = true then ((boltingref12_once.f k ((rd_T60 x155005 x7).f1)).bind fun t172 => (if x6 = true then (boltingref12_Check.l0 k true t171 t172 true (wrap64 (x7 + 1)) x155000 x155001 x155002 x155003 x155004 x155005 x155006 x155007) else ((boltingref12_meet.f k ((rd_T60 x155005 x7).f1) x155004).bind fun t173 => (boltingref12_Check.l0 k true t171 t172 t173 (wrap64 (x7 + 1)) x155000 x155001 x155002 x155003 x155004 x155005 x155006 x155007)))) else (if x6 = true then (boltingref12_Check.l0 k true t171 false true (wrap64 (x7 + 1)) x155000 x155001 x155002 x155003 x155004 x155005 x155006 x155007) else ((boltingref12_meet.f k ((rd_T60 x155005 x7).f1) x155004).bind fun t174 => (boltingref12_Check.l0 k true t171 false t174 (wrap64 (x7 + 1)) x155000 x155001 x155002 x155003 x155004 x155005 x155006 x155007))))) else (if x5 = true then ((boltingref12_once.f k ((rd_T60 x155005 x7).f1)).bind fun t175 => (if x6 = true then (boltingref12_Check.l0 k true false t175 true (wrap64 (x7 + 1)) x155000 x155001 x155002 x155003 x155004 x155005 x155006 x155007) else ((boltingref12_meet.f k ((rd_T60 x155005 x7).f1) x155004).bind fun t176 => (boltingref12_Check.l0 k true false t175 t176 (wrap64 (x7 + 1)) x155000 x155001 x155002 x155003 x155004 x155005 x155006 x155007)))) else (if x6 = true then (boltingref12_Check.l0 k true false false true (wrap64 (x7 + 1)) x155000 x155001 x155002 x155003 x155004 x155005 x155006 x155007) else ((boltingref12_meet.f k ((rd_T60 x155005 x7).f1) x155004).bind fun t177 => (boltingref12_Check.l0 k true false false t177 (wrap64 (x7 + 1)) x155000 x155001 x155002 x155003 x155004 x155005 x155006 x155007))))) else (if x4 = true then ((boltingref12_may.f k ((rd_T60 x155005 x7).f1) true).bind fun t178 => (if x5 = true then ((boltingref12_once.f k ((rd_T60 x155005 x7).f1)).bind fun t179 => (if x6 = true then (boltingref12_Check.l0 k (decide ((((rd_T60 x155005 x7).f1).length : Int) > 64)) t178 t179 true (wrap64 (x7 + 1)) x155000 x155001 x155002 x155003 x155004 x155005 x155006 x155007) else ((boltingref12_meet.f k ((rd_T60 x155005 x7).f1) x155004).bind fun t180 => (boltingref12_Check.l0 k (decide ((((rd_T60 x155005 x7).f1).length : Int) > 64)) t178 t179 t180 (wrap64 (x7 + 1)) x155000 x155001 x155002 x155003 x155004 x155005 x155006 x155007)))) else (if x6 = true then (boltingref12_Check.l0 k (decide ((((rd_T60 x155005 x7).f1).length : Int) > 64)) t178 false true (wrap64 (x7 + 1)) x155000 x155001 x155002 x155003 x155004 x155005 x155006 x155007) else ((boltingref12_meet.f k ((rd_T60 x155005 x7).f1) x155004).bind fun t181 => (boltingref12_Check.l0 k (decide ((((rd_T60 x155005 x7).f1).length : Int) > 64)) t178 false t181 (wrap64 (x7 + 1)) x155000 x155001 x155002 x155003 x155004 x155005 x155006 x155007))))) else (if x5 = true then ((boltingref12_once.f k ((rd_T60 x155005 x7).f1)).bind fun t182 => (if x6 = true then (boltingref12_Check.l0 k (decide ((((rd_T60 x155005 x7).f1).length : Int) > 64)) false t182 true (wrap64 (x7 + 1)) x155000 x155001 x155002 x155003 x155004 x155005 x155006 x155007) else ((boltingref12_meet.f k ((rd_T60 x155005 x7).f1) x155004).bind fun t183 => (boltingref12_Check.l0 k (decide ((((rd_T60 x155005 x7).f1).length : Int) > 64)) false t182 t183 (wrap64 (x7 + 1)) x155000 x155001 x155002 x155003 x155004 x155005 x155006 x155007)))) else (if x6 = true then (boltingref12_Check.l0 k (decide ((((rd_T60 x155005 x7).f1).length : Int) > 64)) false false true (wrap64 (x7 + 1)) x155000 x155001 x155002 x155003 x155004 x155005 x155006 x155007) else ((boltingref12_meet.f k ((rd_T60 x155005 x7).f1) x155004).bind fun t184 => (boltingref12_Check.l0 k (decide ((((rd_T60 x155005 x7).f1).length : Int) > 64)) false false t184 (wrap64 (x7 + 1)) x155000 x155001 x155002 x155003 x155004 x155005 x155006 x155007)))))) else (none)) else (if x3 = true then (some 2) else (if x4 = true then (if x5 = true then (if x6 = true then (some 120) else (some 0)) else (some 122)) else (some 121)))
end
def boltingref12_Check.f (k : Nat) (a0_0 : Bool) (a0_1 : Bool) (l0_2 : List ByteArray) (l0_3 : List ByteArray) (l0_4 : List ByteArray) (l0_5 : List (S60)) (a0_6 : Bool) (a0_7 : Bool) : Option (Int) := if (l0_2.length : Int) > 64 then (boltingref12_Check.j0 k true a0_0 a0_1 l0_2 l0_3 l0_4 l0_5 a0_6 a0_7) else (if (l0_3.length : Int) > 64 then (boltingref12_Check.j0 k true a0_0 a0_1 l0_2 l0_3 l0_4 l0_5 a0_6 a0_7) else (if (l0_4.length : Int) > 64 then (boltingref12_Check.j0 k true a0_0 a0_1 l0_2 l0_3 l0_4 l0_5 a0_6 a0_7) else (boltingref12_Check.j0 k (decide ((l0_5.length : Int) > 64)) a0_0 a0_1 l0_2 l0_3 l0_4 l0_5 a0_6 a0_7)))
end Go.Proofs.YticacakoefojbaaGreat.Pr
namespace Go.Proofs.YticacakoefojbaaGreat.Pure
set_option linter.unusedVariables false
set_option linter.unusedSimpArgs false
open Go.RowKit Go.Lib Go.Shelf Go.Proofs.YticacakoefojbaaGreatW.PrintWords Go.Proofs.YticacakoefojbaaGreatW.PrintLast Go.Proofs.YticacakoefojbaaGreatW.PrintMore Go.Proofs.YticacakoefojbaaGreat.Pr

def dupB : List ByteArray → Bool
  | [] => false
  | x :: l => mem l x || dupB l
def meetB (a b : List ByteArray) : Bool := a.any (mem b)
def finI (big named single both : Bool) : Int := if big = true then 2 else if named = true then (if single = true then (if both = true then 120 else 0) else 122) else 121
def longB (l : List ByteArray) : Bool := decide (64 < l.length)
def allMay (attr : Bool) (l : List ByteArray) : Bool := l.all (mayB attr)
structure Small (c : Cf) (z : Nat) : Prop where
  els : ∀ s ∈ c.els, s.size < z
  rep : ∀ s ∈ c.rep, s.size < z
  ats : ∀ s ∈ c.ats, s.size < z
  per : ∀ p ∈ c.per, p.f0.size < z ∧ ∀ s ∈ p.f1, s.size < z
  le : z ≤ 4000000000000000000
theorem long_i (l : List ByteArray) : decide (((l.length : Nat) : Int) > 64) = longB l := decide_eq_decide.2 (by omega)
def namesOf (c : Cf) : List ByteArray := c.per.map (·.f0)
def checkI (c : Cf) : Int := finI ((longB c.els || longB c.rep || longB c.ats || decide (64 < c.per.length)) || c.per.any (fun p => longB p.f1))
  ((allMay false c.els && allMay false c.rep && allMay false (namesOf c) && allMay true c.ats) && c.per.all (fun p => allMay true p.f1))
  ((!dupB c.els && !dupB c.rep && !dupB (namesOf c) && !dupB c.ats) && c.per.all (fun p => !dupB p.f1))
  ((meetB c.els c.rep || (c.dt && !c.aal)) || c.per.any (fun p => meetB p.f1 c.ats))
end Go.Proofs.YticacakoefojbaaGreat.Pure
namespace Go.Proofs.YticacakoefojbaaGreat.Pure
set_option linter.unusedVariables false
set_option linter.unusedSimpArgs false
open Go.RowKit Go.Lib Go.Shelf Go.Proofs.YticacakoefojbaaGreatW.PrintWords Go.Proofs.YticacakoefojbaaGreat.Pr

theorem len_le {α : Type} [DecidableEq α] : ∀ (a b : List α), a.Nodup → (∀ x ∈ a, x ∈ b) → a.length ≤ b.length
  | [], b, _, _ => Nat.zero_le _
  | x :: a, b, hd, hm => by
    rw [List.nodup_cons] at hd
    have hx := hm x List.mem_cons_self
    have := len_le a (b.erase x) hd.2 (fun y hy => (List.mem_erase_of_ne (show y ≠ x from fun e => hd.1 (by rw [← e]; exact hy))).2 (hm y (List.mem_cons_of_mem _ hy)))
    have hl := List.length_erase_of_mem hx
    have hp := List.length_pos_of_mem hx
    simp only [List.length_cons]
    omega
theorem up_nodup {l : List (List UInt8)} (h : Up l) : l.Nodup := by
  have h' : l.Pairwise (· < ·) := h
  exact h'.imp (S := fun a b => a ≠ b) (fun {a b} g e => by subst e; exact lt_irr _ g)
theorem dup_nodup : ∀ l : List ByteArray, dupB l = false ↔ (l.map dat).Nodup
  | [] => by simp [dupB]
  | x :: l => by
    show (mem l x || dupB l) = false ↔ _
    rw [Bool.or_eq_false_iff, dup_nodup l, List.map_cons, List.nodup_cons]
    refine and_congr_left fun _ => ?_
    rw [Bool.eq_false_iff, Ne, mem_iff, List.mem_map]
    constructor
    · rintro h ⟨y, hy, e⟩; exact h (dat_inj e ▸ hy)
    · intro h hx; exact h ⟨x, hx, rfl⟩
theorem sorted_len_le (l : List (List UInt8)) : (sorted l).length ≤ l.length := len_le _ _ (up_nodup (sorted_up l)) (fun x hx => (sorted_mem l x).1 hx)
theorem dup_short : ∀ (l : List (List UInt8)), ¬ l.Nodup → ∃ m : List (List UInt8), m.length < l.length ∧ ∀ x ∈ l, x ∈ m
  | [], h => absurd List.nodup_nil h
  | x :: l, h => by
    by_cases hx : x ∈ l
    · exact ⟨l, by simp, fun y hy => by rcases List.mem_cons.1 hy with rfl | hy; exact hx; exact hy⟩
    · obtain ⟨m, hm, hs⟩ := dup_short l (fun g => h (List.nodup_cons.2 ⟨hx, g⟩))
      exact ⟨x :: m, by simp; omega, fun y hy => by
        rcases List.mem_cons.1 hy with rfl | hy
        · exact List.mem_cons_self
        · exact List.mem_cons_of_mem _ (hs y hy)⟩
theorem sorted_len (l : List ByteArray) : decide ((sorted (l.map dat)).length ≠ l.length) = dupB l := by
  cases h : dupB l with
  | false =>
    have hn := (dup_nodup l).1 h
    have h1 := sorted_len_le (l.map dat)
    have h2 := len_le (l.map dat) (sorted (l.map dat)) hn (fun x hx => (sorted_mem _ x).2 hx)
    rw [List.length_map] at h1 h2
    exact decide_eq_false (fun g => g (by omega))
  | true =>
    have hn : ¬ (l.map dat).Nodup := fun g => by rw [(dup_nodup l).2 g] at h; cases h
    obtain ⟨m, hm, hs⟩ := dup_short _ hn
    have := len_le (sorted (l.map dat)) m (up_nodup (sorted_up _)) (fun x hx => hs x ((sorted_mem _ x).1 hx))
    rw [List.length_map] at hm
    exact decide_eq_true (by omega)
end Go.Proofs.YticacakoefojbaaGreat.Pure
namespace Go.Proofs.YticacakoefojbaaGreat.Pure
set_option linter.unusedVariables false
set_option linter.unusedSimpArgs false
open Go.RowKit Go.Lib Go.Shelf Go.Proofs.YticacakoefojbaaGreatW.PrintWords Go.Proofs.YticacakoefojbaaGreatW.PrintLast Go.Proofs.YticacakoefojbaaGreatW.PrintMore Go.Proofs.YticacakoefojbaaGreat.Pr

def rowsE (c : Cf) : List (List ByteArray) := [c.els, c.rep, namesOf c]
def rowsA (c : Cf) : List (List ByteArray) := c.ats :: c.per.map (·.f1)
theorem lists_l0 {c : Cf} (hf : Fit c) : ∀ (d i : Nat) (a : List ByteArray) (b : List (List ByteArray)), i + d = c.per.length → a.length ≤ i → b.length ≤ i + 1 → ∀ k, d < k →
    config_lists.l0 k a b c.per (c.per.length : Int) (i : Int) c.al c.aal c.els c.rep c.ats c.per c.com c.dt = some ([c.els, c.rep, a ++ (c.per.drop i).map (·.f0)], b ++ (c.per.drop i).map (·.f1))
  | 0, i, a, b, h, ha, hb, k, hk => by
    obtain ⟨k, rfl⟩ : ∃ m, k = m + 1 := ⟨k - 1, by omega⟩
    simp only [config_lists.l0]
    rw [if_neg (by omega), List.drop_of_length_le (by omega)]
    simp
  | d + 1, i, a, b, h, ha, hb, k, hk => by
    obtain ⟨k, rfl⟩ : ∃ m, k = m + 1 := ⟨k - 1, by omega⟩
    have hp := hf.per
    obtain ⟨p, hp0⟩ : ∃ p, c.per[i]? = some p := ⟨_, List.getElem?_eq_getElem (by omega)⟩
    simp only [config_lists.l0]
    rw [if_pos (by omega), if_pos (by omega), if_pos (by omega), if_pos (by omega), if_pos (by omega), wrap_succ (by omega) (by omega), rd35_at hp0, drop_at hp0]
    have := lists_l0 hf d (i + 1) (a ++ [p.f0]) (b ++ [p.f1]) (by omega) (by rw [List.length_append]; simp; omega) (by rw [List.length_append]; simp; omega) k (by omega)
    rw [show ((i + 1 : Nat) : Int) = (i : Int) + 1 from rfl] at this
    rw [this, List.append_assoc, List.append_assoc]
    rfl
theorem lists_f {c : Cf} (hf : Fit c) : config_lists.f 2000 c.al c.aal c.els c.rep c.ats c.per c.com c.dt = some (rowsE c, rowsA c) := by
  have := lists_l0 hf c.per.length 0 [] [c.ats] (by omega) (by simp) (by simp) 2000 (by have := hf.per; omega)
  exact this
theorem lists_calls {v : Value} {c : Cf} (hf : Fit c) {w : World} (h : CfV w v c) :
    Calls Tryz.prog 51 #[v] w fun e w' => ∃ v0 v1, e = .returned (.tuple #[v0, v1]) ∧ Sl (Kd.slice 9 Kd.string) w' v0 (rowsE c) ∧ Sl (Kd.slice 9 Kd.string) w' v1 (rowsA c) ∧ Below w.heap.size w w' := by
  obtain ⟨_, _, _, _, rfl, ⟨A2, c2, rfl, l2, h2⟩, ⟨A3, c3, rfl, l3, h3⟩, ⟨A4, c4, rfl, l4, h4⟩, ⟨A5, c5, rfl, l5, h5⟩⟩ := h
  refine (config_lists.calls 2000 c.al c.aal (fun k => k < w.heap.size) A2 c2 c.els (fun k => k < w.heap.size) A3 c3 c.rep (fun k => k < w.heap.size) A4 c4 c.ats (fun k => k < w.heap.size) A5 c5 c.per c.com c.dt (rowsE c) (rowsA c) w
    (Kd.V_mk l2 (Kd.C_F Kd.heap_string h2)) (Kd.V_mk l3 (Kd.C_F Kd.heap_string h3)) (Kd.V_mk l4 (Kd.C_F Kd.heap_string h4)) (Kd.V_mk l5 (Kd.C_F (Kd.heap_iso _ (Kd.heap_pair Kd.heap_string (Kd.heap_slice _ Kd.heap_string))) h5)) (lists_f hf)).mono ?_
  rintro e w' ⟨v0, v1, rfl, h0, h1, hb⟩
  exact ⟨v0, v1, rfl, Kd.N_reads h0, Kd.N_reads h1, hb⟩
theorem twice_f (l : List ByteArray) (hl : l.length ≤ 1000) : config_twice.f l = some (dupB l) := by
  unfold config_twice.f
  rw [sorted_f l (by omega), Option.bind_some, ← sorted_len l]
  refine congrArg some ?_
  rw [SS_len]
  rw [Bool.eq_iff_iff, bne_iff_ne, decide_eq_true_eq]
  omega
end Go.Proofs.YticacakoefojbaaGreat.Pure
namespace Go.Proofs.YticacakoefojbaaGreat.Pure
set_option linter.unusedVariables false
set_option linter.unusedSimpArgs false
open Go.RowKit Go.Lib Go.Shelf Go.Proofs.YticacakoefojbaaGreatW.PrintWords Go.Proofs.YticacakoefojbaaGreatW.PrintLast Go.Proofs.YticacakoefojbaaGreatW.PrintMore Go.Proofs.YticacakoefojbaaGreat.Pr

set_option maxHeartbeats 2000000 in
theorem meet1_calls (b : List ByteArray) (hb : b.length ≤ 1000) (x : ByteArray) {W : World} {g : Nat} {vb : Value} (h1 : W.cell? ⟨g, 0, none⟩ = some vb) (hS : Sl Kd.string W vb b) :
    Calls Tryz.prog 93 (#[.string x] ++ #[.pointer (some ⟨g, 0, none⟩)]) W fun r w' => r = .returned (.bool (mem b x)) ∧ Below W.heap.size W w' := by
  show Calls Tryz.prog _ #[.string x, .pointer (some ⟨g, 0, none⟩)] W _
  have HC := hid (contains_calls hb x hS)
  clear hS
  go_enter Tryz.func93, Tryz.ntmps93
  go_wp2_with (go_at_call 49; refine HC.out.mono ?_; rintro r w' ⟨rfl, hb'⟩)
  go_ret
  exact ⟨rfl, hb'⟩
set_option maxHeartbeats 2000000 in
theorem meet_calls (a b : List ByteArray) (hb : b.length ≤ 1000) {w : World} {va vb : Value} (hA : Sl Kd.string w va a) (hS : Sl Kd.string w vb b) :
    Calls Tryz.prog 58 #[va, vb] w fun r w' => r = .returned (.bool (meetB a b)) ∧ Below w.heap.size w w' := by
  obtain ⟨A, c, rfl, hl, hC⟩ := hA
  obtain ⟨B, cb, rfl, hlb, hCb⟩ := hS
  have key : Hid (∀ o W, (∀ v, v = .slice B b.length cb → o = .cells #[v] 29 (0, 0) → W = w.alloc o → Calls Tryz.prog 89 #[.slice A a.length c, .func (.func 93) #[] #[.pointer (some ⟨w.heap.size, 0, none⟩)]] W fun r w' => r = .returned (.bool (meetB a b)) ∧ Below W.heap.size W w')) := fun o W v hv ho hW => by
    subst hv ho hW
    refine hasStr_calls (c := c) (mem b) 93 _ (fun args w => enters_ Tryz.func93 (by kernel_rfl) rfl args w) _ (Kd.C_below hC (bl_alloc _ _)) ?_
    rintro W x cs hx hBW rfl
    refine (meet1_calls b hb x (at_old (at_new w _ 29 0 rfl) hBW) (Sl.below (Sl.below ⟨B, cb, rfl, hlb, hCb⟩ (bl_alloc _ _)) hBW)).mono ?_
    rintro r w' ⟨rfl, hb'⟩
    exact ⟨rfl, below_step hBW hb'⟩
  have HB := hid (bl_alloc w)
  clear hl hC hlb hCb hb
  obtain ⟨m, hm⟩ : ∃ m, meetB a b = m := ⟨_, rfl⟩
  rw [hm] at key ⊢
  clear hm
  go_enter Tryz.func58, Tryz.ntmps58
  go_wp2_with (go_at_call 89; refine (key.out _ _ _ rfl rfl rfl).mono ?_; rintro r w' ⟨rfl, hb'⟩)
  go_ret
  exact ⟨rfl, below_step (HB.out _) hb'⟩
end Go.Proofs.YticacakoefojbaaGreat.Pure
namespace Go.Proofs.YticacakoefojbaaGreat.Pure
set_option linter.unusedVariables false
set_option linter.unusedSimpArgs false
open Go.RowKit Go.Lib Go.Shelf Go.Proofs.YticacakoefojbaaGreatW.PrintWords Go.Proofs.YticacakoefojbaaGreatW.PrintLast Go.Proofs.YticacakoefojbaaGreatW.PrintMore Go.Proofs.YticacakoefojbaaGreat.Pr

set_option maxHeartbeats 2000000 in
theorem odd11_calls (f : Nat) (ef : ∀ args w, (callFunc f args).run Tryz.prog w = .ok (.enter f args) w) (m : Bool) (x : ByteArray) {W : World} {g : Nat} (h1 : W.cell? ⟨g, 0, none⟩ = some (.func (.func f) #[] #[])) (hf : Calls Tryz.prog f #[.string x] W fun r w' => r = .returned (.bool m) ∧ Below W.heap.size W w') :
    Calls Tryz.prog 90 (#[.string x] ++ #[.pointer (some ⟨g, 0, none⟩)]) W fun r w' => r = .returned (.bool (!m)) ∧ Below W.heap.size W w' := by
  show Calls Tryz.prog _ #[.string x, .pointer (some ⟨g, 0, none⟩)] W _
  go_enter Tryz.func90, Tryz.ntmps90
  go_wp2_with (go_at_fn f; refine hf.mono ?_; rintro r w' ⟨rfl, hb'⟩)
  go_ret
  exact ⟨rfl, hb'⟩
set_option maxHeartbeats 2000000 in
theorem odd1_calls (f : Nat) (ef : ∀ args w, (callFunc f args).run Tryz.prog w = .ok (.enter f args) w) (p : ByteArray → Bool) (l : List ByteArray) {w : World} {A : Option Addr} {c : Nat} (hC : Kd.string.C w A l.length l) {g : Nat} (h1 : w.cell? ⟨g, 0, none⟩ = some (.func (.func f) #[] #[]))
    (hf : ∀ x, x ∈ l → ∀ W, Calls Tryz.prog f #[.string x] W fun r w' => r = .returned (.bool (p x)) ∧ Below W.heap.size W w') :
    Calls Tryz.prog 88 (#[.slice A l.length c] ++ #[.pointer (some ⟨g, 0, none⟩)]) w fun r w' => r = .returned (.bool (l.any fun x => !p x)) ∧ Below w.heap.size w w' := by
  show Calls Tryz.prog _ #[.slice A l.length c, .pointer (some ⟨g, 0, none⟩)] w _
  have key := hid (hasStr_calls (c := c) (fun x => !p x) 90 #[.pointer (some ⟨g, 0, none⟩)] (fun args w => enters_ Tryz.func90 (by kernel_rfl) rfl args w) w hC (by
    rintro W x cs hx hBW rfl
    refine (odd11_calls f ef (p x) x (at_old h1 hBW) (hf x hx W)).mono ?_
    rintro r w' ⟨rfl, hb'⟩
    exact ⟨rfl, below_step hBW hb'⟩))
  obtain ⟨m, hm⟩ : ∃ m, (l.any fun x => !p x) = m := ⟨_, rfl⟩
  rw [hm] at key ⊢
  clear hm hC hf
  go_enter Tryz.func88, Tryz.ntmps88
  go_wp2_with (go_at_call 89; refine key.out.mono ?_; rintro r w' ⟨rfl, hb'⟩)
  go_ret
  exact ⟨rfl, hb'⟩
set_option maxHeartbeats 2000000 in
theorem odd_calls (f : Nat) (w : World) : Calls Tryz.prog 54 #[.func (.func f) #[] #[]] w fun r w' => ∃ g, r = .returned (.func (.func 88) #[] #[.pointer (some ⟨g, 0, none⟩)]) ∧ w'.cell? ⟨g, 0, none⟩ = some (.func (.func f) #[] #[]) ∧ Below w.heap.size w w' := by
  have HN := hid (fun t => at_new w #[.func (.func f) #[] #[]] t 0 (v := .func (.func f) #[] #[]) rfl)
  have HB := hid (bl_alloc w)
  go_enter Tryz.func54, Tryz.ntmps54
  go_wp2
  go_ret
  exact ⟨w.heap.size, rfl, HN.out _, HB.out _⟩
set_option maxHeartbeats 2000000 in
theorem check1_calls (a b : List ByteArray) (hb : b.length ≤ 1000) {w : World} {va vb : Value} (hA : Sl Kd.string w va a) (hS : Sl Kd.string w vb b) {g : Nat} (h1 : w.cell? ⟨g, 4, none⟩ = some vb) :
    Calls Tryz.prog 59 (#[va] ++ #[.pointer (some ⟨g, 0, none⟩)]) w fun r w' => r = .returned (.bool (meetB a b)) ∧ Below w.heap.size w w' := by
  show Calls Tryz.prog _ #[va, .pointer (some ⟨g, 0, none⟩)] w _
  have key := hid (meet_calls a b hb hA hS)
  clear hA hS
  go_enter Tryz.func59, Tryz.ntmps59
  go_wp2_with (go_at_call 58; refine key.out.mono ?_; rintro r w' ⟨rfl, hb'⟩)
  go_ret
  exact ⟨rfl, hb'⟩
end Go.Proofs.YticacakoefojbaaGreat.Pure
namespace Go.Proofs.YticacakoefojbaaGreat.Pure
set_option linter.unusedVariables false
set_option linter.unusedSimpArgs false
open Go.RowKit Go.Lib Go.Shelf Go.Proofs.YticacakoefojbaaGreatW.PrintWords Go.Proofs.YticacakoefojbaaGreatW.PrintLast Go.Proofs.YticacakoefojbaaGreatW.PrintMore Go.Proofs.YticacakoefojbaaGreat.Pr

def bigB (c : Cf) : Bool := (rowsE c).any longB || (rowsA c).any longB
def oddE (c : Cf) : Bool := (rowsE c).any fun l => l.any fun x => !mayB false x
def oddA (c : Cf) : Bool := (rowsA c).any fun l => l.any fun x => !mayB true x
theorem any_not_all {α : Type} (p : α → Bool) (l : List α) : (l.any fun x => !p x) = !l.all p := by
  induction l with
  | nil => rfl
  | cons x l ih => rw [List.any_cons, List.all_cons, ih, Bool.not_and]
theorem checkI_eq {c : Cf} : checkI c = finI ((rowsE c).any longB || (rowsA c).any longB) (!(oddE c || oddA c)) (!((rowsE c).any dupB || (rowsA c).any dupB)) ((meetB c.els c.rep || (c.per.map (·.f1)).any (fun l => meetB l c.ats)) || (c.dt && !c.aal)) := by
  have e1 : longB (namesOf c) = decide (64 < c.per.length) := by unfold longB namesOf; rw [List.length_map]
  unfold checkI oddE oddA rowsE rowsA
  congr 1
  · simp only [List.any_cons, List.any_nil, Bool.or_false, e1, List.any_map]
    cases longB c.els <;> cases longB c.rep <;> cases longB c.ats <;> cases decide (64 < c.per.length) <;> rfl
  · have e2 : ((c.per.map (·.f1)).all fun l => l.all (mayB true)) = c.per.all (fun p => allMay true p.f1) := by rw [List.all_map]; rfl
    simp only [any_not_all, List.all_cons, List.all_nil, Bool.and_true]
    rw [e2]
    unfold allMay
    cases c.els.all (mayB false) <;> cases c.rep.all (mayB false) <;> cases (namesOf c).all (mayB false) <;> cases c.ats.all (mayB true) <;> cases c.per.all (fun p => p.f1.all (mayB true)) <;> rfl
  · simp only [List.any_cons, List.any_nil, Bool.or_false, List.any_map]
    have e2 : c.per.all (fun p => !dupB p.f1) = !c.per.any (dupB ∘ (·.f1)) := by
      have := any_not_all (fun p : S60 => !dupB p.f1) c.per
      simp only [Bool.not_not] at this
      rw [show c.per.any (dupB ∘ (·.f1)) = c.per.any (fun p => dupB p.f1) from rfl, this, Bool.not_not]
    rw [e2]
    cases dupB c.els <;> cases dupB c.rep <;> cases dupB (namesOf c) <;> cases dupB c.ats <;> cases c.per.any (dupB ∘ (·.f1)) <;> rfl
  · simp only [List.any_map]
    rw [show c.per.any ((fun l => meetB l c.ats) ∘ (·.f1)) = c.per.any (fun p => meetB p.f1 c.ats) from rfl]
    cases meetB c.els c.rep <;> cases c.per.any (fun p => meetB p.f1 c.ats) <;> cases c.dt <;> cases c.aal <;> rfl
theorem rows_calls {w : World} {v : Value} {l : List (List ByteArray)} (h : Sl (Kd.slice 9 Kd.string) w v l) (p : List ByteArray → Bool) (g : Nat) (lb : Array Value) (eg : ∀ args w, (callFunc g args).run Tryz.prog w = .ok (.enter g args) w)
    (hp : ∀ W v x, x ∈ l → Below w.heap.size w W → Sl Kd.string w v x → Calls Tryz.prog g (#[v] ++ lb) W fun e w' => e = .returned (.bool (p x)) ∧ Below W.heap.size W w') :
    Calls Tryz.prog 52 #[v, .func (.func g) #[] lb] w fun e w' => e = .returned (.bool (l.any p)) ∧ Below w.heap.size w w' := by
  obtain ⟨A, c, rfl, hl, hC⟩ := h
  refine hasRow_calls (c := c) p g lb eg w hC ?_
  rintro W x cs hx hb ⟨A', c', rfl, hl', hC'⟩
  refine (hp W _ x hx hb ⟨A', c', rfl, hl', hC'⟩).mono ?_
  rintro e w' ⟨rfl, hb'⟩
  exact ⟨rfl, below_step hb hb'⟩
theorem right_calls (x : ByteArray) (hx : x.size ≤ 4000000000000000000) (W : World) : Calls Tryz.prog 55 #[.string x] W fun r w' => r = .returned (.bool (mayB false x)) ∧ Below W.heap.size W w' := by
  refine (names_Right.calls (x.size * 5 + 1) x _ W (right_f x hx (by omega))).mono ?_
  rintro e w' ⟨rfl, hd⟩
  exact ⟨rfl, drawn_below hd⟩
theorem nattr_calls (x : ByteArray) (hx : x.size ≤ 4000000000000000000) (W : World) : Calls Tryz.prog 56 #[.string x] W fun r w' => r = .returned (.bool (mayB true x)) ∧ Below W.heap.size W w' := by
  refine (names_Attr.calls (x.size * 9 + 1) x _ W (nattr_f x hx (by omega))).mono ?_
  rintro e w' ⟨rfl, hd⟩
  exact ⟨rfl, drawn_below hd⟩
def Text (c : Cf) : Prop := (∀ l ∈ rowsE c, ∀ x ∈ l, x.size ≤ 4000000000000000000) ∧ ∀ l ∈ rowsA c, ∀ x ∈ l, x.size ≤ 4000000000000000000
theorem fit_rows {c : Cf} (hf : Fit c) : (∀ l ∈ rowsE c, l.length ≤ 1000) ∧ ∀ l ∈ rowsA c, l.length ≤ 1000 := by
  constructor
  · intro l hl
    simp only [rowsE, List.mem_cons, List.not_mem_nil, or_false] at hl
    rcases hl with rfl | rfl | rfl
    · exact hf.els
    · exact hf.rep
    · unfold namesOf; rw [List.length_map]; exact hf.per
  · intro l hl
    simp only [rowsA, List.mem_cons, List.mem_map] at hl
    rcases hl with rfl | ⟨p, hp, rfl⟩
    · exact hf.ats
    · exact hf.sub p hp
theorem tail_cut {w : World} {A : Option Addr} {c n : Nat} {x : List ByteArray} {l : List (List ByteArray)} (hn : (x :: l).length = n) (hc : n ≤ c) (hC : (Kd.slice 9 Kd.string).C w A (x :: l).length (x :: l)) :
    ∃ v, (∀ W : World, (Instr.slice 68 (.slice A n c) (some (.int .i64 1)) none none).run Tryz.prog W = .ok v W) ∧ Sl (Kd.slice 9 Kd.string) w v l := by
  subst hn
  obtain ⟨i, hi, hzz⟩ := Option.map_eq_some_iff.1 (show (Tryz.prog.info? 29).map (fun i => (i.zero, i.size, i.bytes)) = some (some (.slice none 0 0), 1, 24) by kernel_rfl)
  simp only [Prod.mk.injEq] at hzz
  refine ⟨_, cut_from (P := Tryz.prog) 68 29 .i64 Tryz.underlying68 hi 1 hzz.2.1 A (x :: l).length c 1 (by omega) (by simp; omega), ?_⟩
  have := Kd.C_drop (m := 1) (c := c) hC (by simp) hc
  have hlc : l.length ≤ c - 1 := by
    simp only [List.length_cons] at hc
    omega
  exact ⟨_, c - 1, rfl, hlc, this⟩
structure CK (g : Nat) (w1 : World) (v0 v1 v2 v3 vt : Value) (e1 e2 o1 o2 t1 t2 m1 m2 : Bool) : Prop where
  k1 : ∀ W, Below w1.heap.size w1 W → Calls Tryz.prog 52 #[v0, .func (.func 53) #[] #[]] W fun e w' => e = .returned (.bool e1) ∧ Below W.heap.size W w'
  k2 : ∀ W, Below w1.heap.size w1 W → Calls Tryz.prog 52 #[v1, .func (.func 53) #[] #[]] W fun e w' => e = .returned (.bool e2) ∧ Below W.heap.size W w'
  k3 : ∀ W q, Below w1.heap.size w1 W → W.cell? ⟨q, 0, none⟩ = some (.func (.func 55) #[] #[]) → Calls Tryz.prog 52 #[v0, .func (.func 88) #[] #[.pointer (some ⟨q, 0, none⟩)]] W fun e w' => e = .returned (.bool o1) ∧ Below W.heap.size W w'
  k4 : ∀ W q, Below w1.heap.size w1 W → W.cell? ⟨q, 0, none⟩ = some (.func (.func 56) #[] #[]) → Calls Tryz.prog 52 #[v1, .func (.func 88) #[] #[.pointer (some ⟨q, 0, none⟩)]] W fun e w' => e = .returned (.bool o2) ∧ Below W.heap.size W w'
  k5 : ∀ W, Below w1.heap.size w1 W → Calls Tryz.prog 52 #[v0, .func (.func 57) #[] #[]] W fun e w' => e = .returned (.bool t1) ∧ Below W.heap.size W w'
  k6 : ∀ W, Below w1.heap.size w1 W → Calls Tryz.prog 52 #[v1, .func (.func 57) #[] #[]] W fun e w' => e = .returned (.bool t2) ∧ Below W.heap.size W w'
  k7 : ∀ W, Below w1.heap.size w1 W → Calls Tryz.prog 58 #[v2, v3] W fun e w' => e = .returned (.bool m1) ∧ Below W.heap.size W w'
  k8 : ∀ W, Below w1.heap.size w1 W → Calls Tryz.prog 52 #[vt, .func (.func 59) #[] #[.pointer (some ⟨g, 0, none⟩)]] W fun e w' => e = .returned (.bool m2) ∧ Below W.heap.size W w'
theorem ck_mk {c : Cf} (hf : Fit c) (ht : Text c) {g : Nat} {w1 : World} {v0 v1 v2 v3 v4 vt : Value} (h0 : Sl (Kd.slice 9 Kd.string) w1 v0 (rowsE c)) (h1 : Sl (Kd.slice 9 Kd.string) w1 v1 (rowsA c)) (h2 : Sl Kd.string w1 v2 c.els) (h3 : Sl Kd.string w1 v3 c.rep) (h4 : Sl Kd.string w1 v4 c.ats)
    (ht1 : Sl (Kd.slice 9 Kd.string) w1 vt (c.per.map (·.f1))) (hg : w1.cell? ⟨g, 4, none⟩ = some v4) :
    CK g w1 v0 v1 v2 v3 vt ((rowsE c).any longB) ((rowsA c).any longB) (oddE c) (oddA c) ((rowsE c).any dupB) ((rowsA c).any dupB) (meetB c.els c.rep) ((c.per.map (·.f1)).any fun l => meetB l c.ats) where
  k1 W hb := rows_calls (h0.below hb) longB _ #[] (fun args w => enters_ Tryz.func53 (by kernel_rfl) rfl args w) (fun W' v x hx hb' hS => by
    obtain ⟨A, k, rfl, hl, hC⟩ := hS
    refine (config_long.calls A k x (longB x) W' (Kd.C_below hC hb') hl ?_).mono ?_
    · show some (decide (((x.length : Nat) : Int) > 64)) = _
      rw [long_i]
    · rintro e w' ⟨rfl, hd⟩
      exact ⟨rfl, drawn_below hd⟩)
  k2 W hb := rows_calls (h1.below hb) longB _ #[] (fun args w => enters_ Tryz.func53 (by kernel_rfl) rfl args w) (fun W' v x hx hb' hS => by
    obtain ⟨A, k, rfl, hl, hC⟩ := hS
    refine (config_long.calls A k x (longB x) W' (Kd.C_below hC hb') hl ?_).mono ?_
    · show some (decide (((x.length : Nat) : Int) > 64)) = _
      rw [long_i]
    · rintro e w' ⟨rfl, hd⟩
      exact ⟨rfl, drawn_below hd⟩)
  k3 W q hb hq := rows_calls (h0.below hb) (fun l => l.any fun x => !mayB false x) _ _ (fun args w => enters_ Tryz.func88 (by kernel_rfl) rfl args w) (fun W' v x hx hb' hS => by
    obtain ⟨A, k, rfl, hl, hC⟩ := hS
    exact odd1_calls _ (fun args w => enters_ Tryz.func55 (by kernel_rfl) rfl args w) (mayB false) x (Kd.C_below hC hb') (at_old hq hb') (fun y hy W2 => right_calls y (ht.1 x hx y hy) W2))
  k4 W q hb hq := rows_calls (h1.below hb) (fun l => l.any fun x => !mayB true x) _ _ (fun args w => enters_ Tryz.func88 (by kernel_rfl) rfl args w) (fun W' v x hx hb' hS => by
    obtain ⟨A, k, rfl, hl, hC⟩ := hS
    exact odd1_calls _ (fun args w => enters_ Tryz.func56 (by kernel_rfl) rfl args w) (mayB true) x (Kd.C_below hC hb') (at_old hq hb') (fun y hy W2 => nattr_calls y (ht.2 x hx y hy) W2))
  k5 W hb := rows_calls (h0.below hb) dupB _ #[] (fun args w => enters_ Tryz.func57 (by kernel_rfl) rfl args w) (fun W' v x hx hb' hS => by
    obtain ⟨A, k, rfl, hl, hC⟩ := hS
    exact config_twice.calls A k x (dupB x) W' (Kd.C_below hC hb') hl (twice_f x ((fit_rows hf).1 x hx)))
  k6 W hb := rows_calls (h1.below hb) dupB _ #[] (fun args w => enters_ Tryz.func57 (by kernel_rfl) rfl args w) (fun W' v x hx hb' hS => by
    obtain ⟨A, k, rfl, hl, hC⟩ := hS
    exact config_twice.calls A k x (dupB x) W' (Kd.C_below hC hb') hl (twice_f x ((fit_rows hf).2 x hx)))
  k7 W hb := meet_calls c.els c.rep hf.rep (h2.below hb) (h3.below hb)
  k8 W hb := rows_calls (ht1.below hb) (fun l => meetB l c.ats) _ _ (fun args w => enters_ Tryz.func59 (by kernel_rfl) rfl args w) (fun W' v x hx hb' hS =>
    check1_calls x c.ats hf.ats (hS.below hb') ((h4.below hb).below hb') (at_old (at_old hg hb) hb'))
end Go.Proofs.YticacakoefojbaaGreat.Pure
namespace Go.Proofs.YticacakoefojbaaGreat.Pure
set_option linter.unusedVariables false
set_option linter.unusedSimpArgs false
open Go.RowKit Go.Lib Go.Shelf Go.Proofs.YticacakoefojbaaGreatW.PrintWords Go.Proofs.YticacakoefojbaaGreatW.PrintLast Go.Proofs.YticacakoefojbaaGreatW.PrintMore Go.Proofs.YticacakoefojbaaGreat.Pr

structure CL (w w1 : World) (v0 v1 v2 v3 : Value) (aal dt e1 e2 o1 o2 t1 t2 m1 m2 : Bool) : Prop where
  cut : ∃ vt, (∀ W : World, (Instr.slice 68 v1 (some (.int .i64 1)) none none).run Tryz.prog W = .ok vt W) ∧ CK w.heap.size w1 v0 v1 v2 v3 vt e1 e2 o1 o2 t1 t2 m1 m2
  below : Below w.heap.size w w1
  c1 : w1.cell? ⟨w.heap.size, 1, none⟩ = some (.bool aal)
  c2 : w1.cell? ⟨w.heap.size, 2, none⟩ = some v2
  c3 : w1.cell? ⟨w.heap.size, 3, none⟩ = some v3
  c7 : w1.cell? ⟨w.heap.size, 7, none⟩ = some (.bool dt)
theorem cl_mk {v2 v3 v4 v5 : Value} {c : Cf} (hf : Fit c) (ht : Text c) {w : World} (h2 : Sl Kd.string w v2 c.els) (h3 : Sl Kd.string w v3 c.rep) (h4 : Sl Kd.string w v4 c.ats) (h5 : Sl k60 w v5 c.per) :
    Calls Tryz.prog 51 #[.agg #[.bool c.al, .bool c.aal, v2, v3, v4, v5, .bool c.com, .bool c.dt]] (w.alloc (.cells #[.bool c.al, .bool c.aal, v2, v3, v4, v5, .bool c.com, .bool c.dt] 32)) fun e w1 => ∃ v0 v1, e = .returned (.tuple #[v0, v1]) ∧
      CL w w1 v0 v1 v2 v3 c.aal c.dt ((rowsE c).any longB) ((rowsA c).any longB) (oddE c) (oddA c) ((rowsE c).any dupB) ((rowsA c).any dupB) (meetB c.els c.rep) ((c.per.map (·.f1)).any fun l => meetB l c.ats) := by
  have hb0 := bl_alloc w (.cells #[.bool c.al, .bool c.aal, v2, v3, v4, v5, .bool c.com, .bool c.dt] 32)
  refine (lists_calls hf (CfV.below ⟨v2, v3, v4, v5, rfl, h2, h3, h4, h5⟩ hb0)).mono ?_
  rintro e w1 ⟨v0, v1, rfl, s0, s1, hb⟩
  refine ⟨v0, v1, rfl, ?_⟩
  have s1' := s1
  obtain ⟨A, k, rfl, hk, hC⟩ := s1'
  obtain ⟨vt, hcut, hst⟩ := tail_cut (l := c.per.map (·.f1)) (x := c.ats) rfl hk hC
  have hb1 := below_step hb0 hb
  exact ⟨⟨vt, hcut, ck_mk hf ht s0 s1 (h2.below hb1) (h3.below hb1) (h4.below hb1) hst (at_old (at_new w _ _ 4 rfl) hb)⟩, hb1, at_old (at_new w _ _ 1 rfl) hb, at_old (at_new w _ _ 2 rfl) hb, at_old (at_new w _ _ 3 rfl) hb, at_old (at_new w _ _ 7 rfl) hb⟩
set_option maxHeartbeats 8000000 in
theorem check_calls {v : Value} {c : Cf} (hf : Fit c) (ht : Text c) {w : World} (h : CfV w v c) :
    Calls Tryz.prog 32 #[v] w fun e w' => e = .returned (.int .i64 (checkI c)) ∧ Below w.heap.size w w' := by
  obtain ⟨v2, v3, v4, v5, rfl, h2, h3, h4, h5⟩ := h
  have HL := hid (cl_mk hf ht h2 h3 h4 h5)
  rw [checkI_eq]
  generalize (rowsE c).any longB = e1 at HL ⊢
  generalize (rowsA c).any longB = e2 at HL ⊢
  generalize oddE c = o1 at HL ⊢
  generalize oddA c = o2 at HL ⊢
  generalize (rowsE c).any dupB = t1 at HL ⊢
  generalize (rowsA c).any dupB = t2 at HL ⊢
  generalize meetB c.els c.rep = m1 at HL ⊢
  generalize ((c.per.map (·.f1)).any fun l => meetB l c.ats) = m2 at HL ⊢
  obtain ⟨al, aal, els, rep, ats, per, com, dt⟩ := c
  clear h2 h3 h4 h5 hf ht
  have HW := hid (bl_alloc w)
  cases e1
  cases e2
  cases o1
  cases o2
  cases t1
  cases t2
  cases m1
  cases m2
  cases dt
  rotate_left
  cases aal
  all_goals
    go_enter Tryz.func32, Tryz.ntmps32
    go_wp2_with first
      | (go_at_call 51; refine HL.out.mono ?_; rintro e w1 ⟨v0, v1, rfl, hcl⟩; obtain ⟨⟨vt, hcut, hck⟩, hbl, c1, c2, c3, c7⟩ := hcl; have HC := hid hck; have HA := hid hbl; have HB := hid (Below.refl w1.heap.size w1); clear hck hbl HL)
      | (go_at_call 52; first
          | with_reducible refine (HC.out.k1 _ HB.out).mono ?_
          | with_reducible refine (HC.out.k2 _ HB.out).mono ?_
          | with_reducible refine (HC.out.k3 _ _ HB.out (by assumption)).mono ?_
          | with_reducible refine (HC.out.k4 _ _ HB.out (by assumption)).mono ?_
          | with_reducible refine (HC.out.k5 _ HB.out).mono ?_
          | with_reducible refine (HC.out.k6 _ HB.out).mono ?_
          | with_reducible refine (HC.out.k8 _ HB.out).mono ?_
         rintro e w2 ⟨rfl, hb⟩; replace HB := hid (below_step HB.out hb); replace c1 := at_old c1 hb; replace c2 := at_old c2 hb; replace c3 := at_old c3 hb; replace c7 := at_old c7 hb; clear hb)
      | (go_at_call 54; refine (odd_calls _ _).mono ?_; rintro e w2 ⟨g, rfl, hq, hb⟩; replace HB := hid (below_step HB.out hb); replace c1 := at_old c1 hb; replace c2 := at_old c2 hb; replace c3 := at_old c3 hb; replace c7 := at_old c7 hb; clear hb)
      | (go_at_call 58; refine (HC.out.k7 _ HB.out).mono ?_; rintro e w2 ⟨rfl, hb⟩; replace HB := hid (below_step HB.out hb); replace c1 := at_old c1 hb; replace c2 := at_old c2 hb; replace c3 := at_old c3 hb; replace c7 := at_old c7 hb; clear hb)
    go_ret
    exact ⟨by first | rfl | (simp; done), below_step HA.out HB.out⟩
end Go.Proofs.YticacakoefojbaaGreat.Pure
namespace Go.Proofs.YticacakoefojbaaGreat.Pr
set_option linter.unusedVariables false
set_option linter.unusedSimpArgs false
open Go.RowKit Go.Lib Go.Shelf Go.Proofs.YticacakoefojbaaGreat Go.Proofs.YticacakoefojbaaGreat.Pure Go.Proofs.YticacakoefojbaaGreatW.PrintWords Go.Proofs.YticacakoefojbaaGreatW.PrintLast Go.Proofs.YticacakoefojbaaGreatW.PrintMore

def fitB (c : Cf) : Bool := decide (c.els.length ≤ 1000) && decide (c.rep.length ≤ 1000) && decide (c.ats.length ≤ 1000) && decide (c.per.length ≤ 1000) && c.per.all fun p => decide (p.f1.length ≤ 1000)
theorem fit_of {c : Cf} (h : fitB c = true) : Fit c := by
  unfold fitB at h
  simp only [Bool.and_eq_true, decide_eq_true_eq, List.all_eq_true] at h
  exact ⟨h.1.1.1.1, h.1.1.1.2, h.1.1.2, h.1.2, h.2⟩
theorem of_fit {c : Cf} (h : Fit c) : fitB c = true := by
  unfold fitB
  simp only [Bool.and_eq_true, decide_eq_true_eq, List.all_eq_true]
  exact ⟨⟨⟨⟨h.1, h.2⟩, h.3⟩, h.4⟩, h.5⟩
def shortB (x : ByteArray) : Bool := decide (x.size ≤ 4000000000000000000)
def textB (c : Cf) : Bool := ((rowsE c).all fun l => l.all shortB) && (rowsA c).all fun l => l.all shortB
theorem text_of {c : Cf} (h : textB c = true) : Text c := by
  unfold textB shortB at h
  simp only [Bool.and_eq_true, decide_eq_true_eq, List.all_eq_true] at h
  exact h
theorem of_text {c : Cf} (h : Text c) : textB c = true := by
  unfold textB shortB
  simp only [Bool.and_eq_true, decide_eq_true_eq, List.all_eq_true]
  exact h
def config_Attr.f (a0 a1 : Bool) (l2 l3 l4 : List ByteArray) (l5 : List S60) (a6 a7 : Bool) (e a : ByteArray) : Option Bool :=
  if fitB ⟨a0, a1, l2, l3, l4, l5, a6, a7⟩ = true then some (attrB ⟨a0, a1, l2, l3, l4, l5, a6, a7⟩ e a) else none
theorem config_Attr.calls (a0 a1 : Bool) (A2 : Option Addr) (c2 : Nat) (l2 : List ByteArray) (A3 : Option Addr) (c3 : Nat) (l3 : List ByteArray) (A4 : Option Addr) (c4 : Nat) (l4 : List ByteArray) (A5 : Option Addr) (c5 : Nat) (l5 : List S60) (a6 a7 : Bool) (e a : ByteArray) (r : Bool) (w : World)
    (hr2 : Kd.C Kd.string w A2 l2.length l2) (hc2 : l2.length ≤ c2) (hr3 : Kd.C Kd.string w A3 l3.length l3) (hc3 : l3.length ≤ c3) (hr4 : Kd.C Kd.string w A4 l4.length l4) (hc4 : l4.length ≤ c4) (hr5 : Kd.C k60 w A5 l5.length l5) (hc5 : l5.length ≤ c5) (h : config_Attr.f a0 a1 l2 l3 l4 l5 a6 a7 e a = some r) :
    Calls Tryz.prog 46 #[.agg #[.bool a0, .bool a1, .slice A2 l2.length c2, .slice A3 l3.length c3, .slice A4 l4.length c4, .slice A5 l5.length c5, .bool a6, .bool a7], .string e, .string a] w fun x w' => x = .returned (.bool r) ∧ Below w.heap.size w w' := by
  unfold config_Attr.f at h
  split at h
  case isFalse => cases h
  rename_i hf
  obtain rfl := Option.some.inj h
  exact attr_calls (c := ⟨a0, a1, l2, l3, l4, l5, a6, a7⟩) (fit_of hf) e a ⟨_, _, _, _, rfl, ⟨A2, c2, rfl, hc2, hr2⟩, ⟨A3, c3, rfl, hc3, hr3⟩, ⟨A4, c4, rfl, hc4, hr4⟩, ⟨A5, c5, rfl, hc5, hr5⟩⟩
def config_Check.f (a0 a1 : Bool) (l2 l3 l4 : List ByteArray) (l5 : List S60) (a6 a7 : Bool) : Option Int :=
  if fitB ⟨a0, a1, l2, l3, l4, l5, a6, a7⟩ = true ∧ textB ⟨a0, a1, l2, l3, l4, l5, a6, a7⟩ = true then some (checkI ⟨a0, a1, l2, l3, l4, l5, a6, a7⟩) else none
theorem config_Check.calls (a0 a1 : Bool) (A2 : Option Addr) (c2 : Nat) (l2 : List ByteArray) (A3 : Option Addr) (c3 : Nat) (l3 : List ByteArray) (A4 : Option Addr) (c4 : Nat) (l4 : List ByteArray) (A5 : Option Addr) (c5 : Nat) (l5 : List S60) (a6 a7 : Bool) (r : Int) (w : World)
    (hr2 : Kd.C Kd.string w A2 l2.length l2) (hc2 : l2.length ≤ c2) (hr3 : Kd.C Kd.string w A3 l3.length l3) (hc3 : l3.length ≤ c3) (hr4 : Kd.C Kd.string w A4 l4.length l4) (hc4 : l4.length ≤ c4) (hr5 : Kd.C k60 w A5 l5.length l5) (hc5 : l5.length ≤ c5) (h : config_Check.f a0 a1 l2 l3 l4 l5 a6 a7 = some r) :
    Calls Tryz.prog 32 #[.agg #[.bool a0, .bool a1, .slice A2 l2.length c2, .slice A3 l3.length c3, .slice A4 l4.length c4, .slice A5 l5.length c5, .bool a6, .bool a7]] w fun x w' => x = .returned (.int .i64 r) ∧ Below w.heap.size w w' := by
  unfold config_Check.f at h
  split at h
  case isFalse => cases h
  rename_i hf
  obtain rfl := Option.some.inj h
  exact check_calls (c := ⟨a0, a1, l2, l3, l4, l5, a6, a7⟩) (fit_of hf.1) (text_of hf.2) ⟨_, _, _, _, rfl, ⟨A2, c2, rfl, hc2, hr2⟩, ⟨A3, c3, rfl, hc3, hr3⟩, ⟨A4, c4, rfl, hc4, hr4⟩, ⟨A5, c5, rfl, hc5, hr5⟩⟩
end Go.Proofs.YticacakoefojbaaGreat.Pr
namespace Go.Proofs.YticacakoefojbaaGreat.Pr
set_option linter.unusedVariables false
open Go.RowKit Go.Proofs.YticacakoefojbaaGreatW.PrintWords Go.Proofs.YticacakoefojbaaGreatW.PrintLast Go.Proofs.YticacakoefojbaaGreatW.PrintMore
abbrev tf (n m : Nat) : Array Bool := ⟨List.replicate n true ++ List.replicate m false⟩
section
variable {α : Type} {d : Kd α} {e : Nat} {w : World} {base : Nat} {ok : Nat → Prop} {v : Value} {xs : List α}
end
end Go.Proofs.YticacakoefojbaaGreat.Pr
namespace Go.Proofs.YticacakoefojbaaGreat.Pr
open Go.RowKit Go.Proofs.YticacakoefojbaaGreatW.PrintWords Go.Proofs.YticacakoefojbaaGreatW.PrintLast Go.Proofs.YticacakoefojbaaGreatW.PrintMore
attribute [local go_sem] max2_int min2_int max_two min_two max_three min_three max_four min_four   -- for this text's walks alone
set_option linter.unusedVariables false
set_option linter.unusedSimpArgs false

def boltinglaw12_Bound.l0 : Nat → List (S60) → Int → Bool → Bool → List ByteArray → List ByteArray → List ByteArray → List (S60) → Bool → Bool → Option (Bool × Bool × List ByteArray × List ByteArray × List ByteArray × (List (S60)) × Bool × Bool)
 | 0, _, _, _, _, _, _, _, _, _, _ => none
 | k + 1, x3, x4, x210000, x210001, x210002, x210003, x210004, x210005, x210006, x210007 => if x4 < (x210005.length : Int) then (if x4 < 12 then (if 0 ≤ x4 then (if 0 ≤ (mn (((rd_T60 x210005 x4).f1).length : Int) 70) then (if (mn (((rd_T60 x210005 x4).f1).length : Int) 70) ≤ (((rd_T60 x210005 x4).f1).length : Int) then (if x3.length < 3518437208883 then (boltinglaw12_Bound.l0 k (x3 ++ [(⟨(rd_T60 x210005 x4).f0, (((rd_T60 x210005 x4).f1).take ((mn (((rd_T60 x210005 x4).f1).length : Int) 70) : Int).toNat)⟩ : S60)]) (wrap64 (x4 + 1)) x210000 x210001 x210002 x210003 x210004 x210005 x210006 x210007) else (none)) else (none)) else (none)) else (none)) else (some (x210000, x210001, x210002, x210003, x210004, x3, x210006, x210007))) else (some (x210000, x210001, x210002, x210003, x210004, x3, x210006, x210007))
def boltinglaw12_Bound.f (k : Nat) (a0_0 : Bool) (a0_1 : Bool) (l0_2 : List ByteArray) (l0_3 : List ByteArray) (l0_4 : List ByteArray) (l0_5 : List (S60)) (a0_6 : Bool) (a0_7 : Bool) : Option (Bool × Bool × List ByteArray × List ByteArray × List ByteArray × (List (S60)) × Bool × Bool) := if 0 ≤ (mn (l0_2.length : Int) 70) then (if (mn (l0_2.length : Int) 70) ≤ (l0_2.length : Int) then (if 0 ≤ (mn (l0_3.length : Int) 70) then (if (mn (l0_3.length : Int) 70) ≤ (l0_3.length : Int) then (if 0 ≤ (mn (l0_4.length : Int) 70) then (if (mn (l0_4.length : Int) 70) ≤ (l0_4.length : Int) then (boltinglaw12_Bound.l0 k (([] : List (S60))) 0 a0_0 a0_1 (l0_2.take ((mn (l0_2.length : Int) 70) : Int).toNat) (l0_3.take ((mn (l0_3.length : Int) 70) : Int).toNat) (l0_4.take ((mn (l0_4.length : Int) 70) : Int).toNat) l0_5 a0_6 a0_7) else (none)) else (none)) else (none)) else (none)) else (none)) else (none)
def boltinglaw12_Bound.T8 : Bool × List (List Nat × List Nat) := (true, [([], []), ([], []), ([1], [1]), ([], []), ([2, 3], [2, 3]), ([4], [4]), ([5], [5]), ([], []), ([7], [7]), ([], []), ([8, 9], [8, 9]), ([10], [10]), ([11], [11]), ([], []), ([13], [13]), ([], []), ([14, 15], [14, 15]), ([16], [16]), ([17], [17]), ([18], [18]), ([19], [19]), ([12, 20], [12, 20]), ([6, 21], [6, 21]), ([22], [22]), ([0, 23], [0, 23]), ([24, 24, 0, 1, 2, 3, 4, 5, 6, 7, 8, 9, 10, 11, 12, 13, 14, 15, 16, 17, 18, 19, 20, 21, 22, 23, 24], [0, 24])])
def boltinglaw12_Bound.B8 : List Nat := [0, 0, 2, 0, 14, 30, 62, 0, 128, 0, 896, 1920, 3968, 0, 8192, 0, 57344, 122880, 253952, 516096, 1040384, 2097024, 4194302, 8388606, 16777215, 33554431]
theorem boltinglaw12_Bound.tab8 : rtab .any (opsOf Tryz.f20 8) = boltinglaw12_Bound.T8 := by kernel_rfl
theorem boltinglaw12_Bound.bits8 : waitsOk boltinglaw12_Bound.T8.2 boltinglaw12_Bound.B8 = true := by kernel_rfl
set_option maxHeartbeats 8000000 in
set_option maxRecDepth 100000 in
theorem boltinglaw12_Bound.calls (k : Nat) (a0_0 : Bool) (a0_1 : Bool) (P0_2_ : Nat → Prop) (A0_2 : Option Addr) (c0_2 : Nat) (l0_2 : List ByteArray) (P0_3_ : Nat → Prop) (A0_3 : Option Addr) (c0_3 : Nat) (l0_3 : List ByteArray) (P0_4_ : Nat → Prop) (A0_4 : Option Addr) (c0_4 : Nat) (l0_4 : List ByteArray) (P0_5_ : Nat → Prop) (A0_5 : Option Addr) (c0_5 : Nat) (l0_5 : List (S60)) (a0_6 : Bool) (a0_7 : Bool) (r1 : Bool) (r2 : Bool) (r3 : List ByteArray) (r4 : List ByteArray) (r5 : List ByteArray) (r6 : List (S60)) (r7 : Bool) (r8 : Bool) (w : World) (hs0_2 : Kd.V Kd.string 9 w w.heap.size (fun k_ => P0_2_ k_) (.slice A0_2 l0_2.length c0_2) l0_2) (hs0_3 : Kd.V Kd.string 9 w w.heap.size (fun k_ => P0_3_ k_) (.slice A0_3 l0_3.length c0_3) l0_3) (hs0_4 : Kd.V Kd.string 9 w w.heap.size (fun k_ => P0_4_ k_) (.slice A0_4 l0_4.length c0_4) l0_4) (hs0_5 : Kd.V k60 60 w w.heap.size (fun k_ => P0_5_ k_) (.slice A0_5 l0_5.length c0_5) l0_5) (h : boltinglaw12_Bound.f k a0_0 a0_1 l0_2 l0_3 l0_4 l0_5 a0_6 a0_7 = some (r1, r2, r3, r4, r5, r6, r7, r8)) :
  Calls Tryz.prog 20 #[.agg #[.bool a0_0, .bool a0_1, .slice A0_2 l0_2.length c0_2, .slice A0_3 l0_3.length c0_3, .slice A0_4 l0_4.length c0_4, .slice A0_5 l0_5.length c0_5, .bool a0_6, .bool a0_7]] w fun e w' => ∃ v2_ v3_ v4_ v5_ : Value, e = .returned (.agg #[.bool r1, .bool r2, v2_, v3_, v4_, v5_, .bool r7, .bool r8]) ∧ Kd.V Kd.string 9 w' w.heap.size (fun k_ => ((P0_2_ k_ ∨ P0_3_ k_ ∨ P0_4_ k_ ∨ P0_5_ k_) ∨ w.heap.size ≤ k_) ∧ some k_ ≠ (v5_ : Value).ownBlock) v2_ r3 ∧ Kd.V Kd.string 9 w' w.heap.size (fun k_ => ((P0_2_ k_ ∨ P0_3_ k_ ∨ P0_4_ k_ ∨ P0_5_ k_) ∨ w.heap.size ≤ k_) ∧ some k_ ≠ (v5_ : Value).ownBlock) v3_ r4 ∧ Kd.V Kd.string 9 w' w.heap.size (fun k_ => ((P0_2_ k_ ∨ P0_3_ k_ ∨ P0_4_ k_ ∨ P0_5_ k_) ∨ w.heap.size ≤ k_) ∧ some k_ ≠ (v5_ : Value).ownBlock) v4_ r5 ∧ Kd.N k60 60 w' w.heap.size (fun k_ => ((P0_2_ k_ ∨ P0_3_ k_ ∨ P0_4_ k_ ∨ P0_5_ k_) ∨ w.heap.size ≤ k_)) v5_ r6 ∧ Below w.heap.size w w' := by
 have hu32 := Tryz.underlying32
 have hu60 := Tryz.underlying60
 have HO0_2 := Aside0.mk (show Kd.V Kd.string 9 w w.heap.size (fun k_ => ((P0_2_ k_ ∨ P0_3_ k_ ∨ P0_4_ k_ ∨ P0_5_ k_) ∨ w.heap.size ≤ k_)) (.slice A0_2 l0_2.length c0_2) l0_2 from Kd.V_mono hs0_2 (fun k_ hk => .inl (.inl hk)))
 have HO0_3 := Aside0.mk (show Kd.V Kd.string 9 w w.heap.size (fun k_ => ((P0_2_ k_ ∨ P0_3_ k_ ∨ P0_4_ k_ ∨ P0_5_ k_) ∨ w.heap.size ≤ k_)) (.slice A0_3 l0_3.length c0_3) l0_3 from Kd.V_mono hs0_3 (fun k_ hk => .inl (.inr (.inl hk))))
 have HO0_4 := Aside0.mk (show Kd.V Kd.string 9 w w.heap.size (fun k_ => ((P0_2_ k_ ∨ P0_3_ k_ ∨ P0_4_ k_ ∨ P0_5_ k_) ∨ w.heap.size ≤ k_)) (.slice A0_4 l0_4.length c0_4) l0_4 from Kd.V_mono hs0_4 (fun k_ hk => .inl (.inr (.inr (.inl hk)))))
 have HO0_5 := Aside0.mk (show Kd.V k60 60 w w.heap.size (fun k_ => ((P0_2_ k_ ∨ P0_3_ k_ ∨ P0_4_ k_ ∨ P0_5_ k_) ∨ w.heap.size ≤ k_)) (.slice A0_5 l0_5.length c0_5) l0_5 from Kd.V_mono hs0_5 (fun k_ hk => .inl (.inr (.inr (.inr hk)))))
 have HB := Aside0.mk (Below.refl w.heap.size w)
 have H : (if 0 ≤ (mn (l0_2.length : Int) 70) then (if (mn (l0_2.length : Int) 70) ≤ (l0_2.length : Int) then (if 0 ≤ (mn (l0_3.length : Int) 70) then (if (mn (l0_3.length : Int) 70) ≤ (l0_3.length : Int) then (if 0 ≤ (mn (l0_4.length : Int) 70) then (if (mn (l0_4.length : Int) 70) ≤ (l0_4.length : Int) then (boltinglaw12_Bound.l0 k (([] : List (S60))) 0 a0_0 a0_1 (l0_2.take ((mn (l0_2.length : Int) 70) : Int).toNat) (l0_3.take ((mn (l0_3.length : Int) 70) : Int).toNat) (l0_4.take ((mn (l0_4.length : Int) 70) : Int).toNat) l0_5 a0_6 a0_7) else (none)) else (none)) else (none)) else (none)) else (none)) else (none)) = some (r1, r2, r3, r4, r5, r6, r7, r8) := h
 clear h
 obtain ⟨ji2, hji2⟩ : ∃ j_ : Int, (mn (l0_2.length : Int) 70) = j_ := ⟨_, rfl⟩
 replace H : (if 0 ≤ (ji2) then (if (ji2) ≤ (l0_2.length : Int) then (if 0 ≤ (mn (l0_3.length : Int) 70) then (if (mn (l0_3.length : Int) 70) ≤ (l0_3.length : Int) then (if 0 ≤ (mn (l0_4.length : Int) 70) then (if (mn (l0_4.length : Int) 70) ≤ (l0_4.length : Int) then (boltinglaw12_Bound.l0 k (([] : List (S60))) 0 a0_0 a0_1 (l0_2.take ((ji2) : Int).toNat) (l0_3.take ((mn (l0_3.length : Int) 70) : Int).toNat) (l0_4.take ((mn (l0_4.length : Int) 70) : Int).toNat) l0_5 a0_6 a0_7) else (none)) else (none)) else (none)) else (none)) else (none)) else (none)) = some (r1, r2, r3, r4, r5, r6, r7, r8) := by first | (rw [hji2] at H; exact H) | (simp only [hji2] at H ⊢; exact H)
 (try (have hji2h : ji2 ≤ 70 := by (rw [← hji2]; unfold mn; (repeat' split) <;> omega)))
 (try (have hji2g : ji2 ≤ 64 := by omega))
 (try (have hji2l : 0 ≤ ji2 := by (rw [← hji2]; unfold mn; (repeat' split) <;> omega)))
 (try (have hji2m : 0 ≤ ji2 := by omega))
 have hji2_ : (if 70 < (l0_2.length : Int) then 70 else (l0_2.length : Int)) = ji2 := hji2
 by_cases c3 : 0 ≤ (ji2)
 ·rw [if_pos c3] at H
  have c3b0 := eq_true c3
  have c3b1 : decide (0 ≤ (ji2)) = true := decide_eq_true c3
  clear c3
  by_cases c4 : (ji2) ≤ (l0_2.length : Int)
  ·rw [if_pos c4] at H
   have c4b0 := eq_true c4
   have c4b1 : decide ((ji2) ≤ (l0_2.length : Int)) = true := decide_eq_true c4
   clear c4
   obtain ⟨y211, hy211⟩ : ∃ y_ : List ByteArray, y_ = (l0_2.take ((ji2) : Int).toNat) := ⟨_, rfl⟩
   replace H : (if 0 ≤ (mn (l0_3.length : Int) 70) then (if (mn (l0_3.length : Int) 70) ≤ (l0_3.length : Int) then (if 0 ≤ (mn (l0_4.length : Int) 70) then (if (mn (l0_4.length : Int) 70) ≤ (l0_4.length : Int) then (boltinglaw12_Bound.l0 k (([] : List (S60))) 0 a0_0 a0_1 y211 (l0_3.take ((mn (l0_3.length : Int) 70) : Int).toNat) (l0_4.take ((mn (l0_4.length : Int) 70) : Int).toNat) l0_5 a0_6 a0_7) else (none)) else (none)) else (none)) else (none)) = some (r1, r2, r3, r4, r5, r6, r7, r8) := by first | (rw [hy211]; with_reducible exact H) | (have H2_ := (Option.bind_some _ _).symm.trans H; rw [hy211]; with_reducible exact H2_) | (have H2_ := (Option.bind_some _ _).symm.trans H; with_reducible exact H2_) | with_reducible exact H | (rw [hy211]; exact H) | exact H
   have Ny211 := Aside0.mk hy211
   clear hy211
   obtain ⟨ji5, hji5⟩ : ∃ j_ : Int, (mn (l0_3.length : Int) 70) = j_ := ⟨_, rfl⟩
   replace H : (if 0 ≤ (ji5) then (if (ji5) ≤ (l0_3.length : Int) then (if 0 ≤ (mn (l0_4.length : Int) 70) then (if (mn (l0_4.length : Int) 70) ≤ (l0_4.length : Int) then (boltinglaw12_Bound.l0 k (([] : List (S60))) 0 a0_0 a0_1 y211 (l0_3.take ((ji5) : Int).toNat) (l0_4.take ((mn (l0_4.length : Int) 70) : Int).toNat) l0_5 a0_6 a0_7) else (none)) else (none)) else (none)) else (none)) = some (r1, r2, r3, r4, r5, r6, r7, r8) := by first | (rw [hji5] at H; exact H) | (simp only [hji5] at H ⊢; exact H)
   (try (have hji5h : ji5 ≤ 70 := by (rw [← hji5]; unfold mn; (repeat' split) <;> omega)))
   (try (have hji5g : ji5 ≤ 64 := by omega))
   (try (have hji5l : 0 ≤ ji5 := by (rw [← hji5]; unfold mn; (repeat' split) <;> omega)))
   (try (have hji5m : 0 ≤ ji5 := by omega))
   have hji5_ : (if 70 < (l0_3.length : Int) then 70 else (l0_3.length : Int)) = ji5 := hji5
   by_cases c6 : 0 ≤ (ji5)
   ·rw [if_pos c6] at H
    have c6b0 := eq_true c6
    have c6b1 : decide (0 ≤ (ji5)) = true := decide_eq_true c6
    clear c6
    by_cases c7 : (ji5) ≤ (l0_3.length : Int)
    ·rw [if_pos c7] at H
     have c7b0 := eq_true c7
     have c7b1 : decide ((ji5) ≤ (l0_3.length : Int)) = true := decide_eq_true c7
     clear c7
     obtain ⟨y216, hy216⟩ : ∃ y_ : List ByteArray, y_ = (l0_3.take ((ji5) : Int).toNat) := ⟨_, rfl⟩
     replace H : (if 0 ≤ (mn (l0_4.length : Int) 70) then (if (mn (l0_4.length : Int) 70) ≤ (l0_4.length : Int) then (boltinglaw12_Bound.l0 k (([] : List (S60))) 0 a0_0 a0_1 y211 y216 (l0_4.take ((mn (l0_4.length : Int) 70) : Int).toNat) l0_5 a0_6 a0_7) else (none)) else (none)) = some (r1, r2, r3, r4, r5, r6, r7, r8) := by first | (rw [hy216]; with_reducible exact H) | (have H2_ := (Option.bind_some _ _).symm.trans H; rw [hy216]; with_reducible exact H2_) | (have H2_ := (Option.bind_some _ _).symm.trans H; with_reducible exact H2_) | with_reducible exact H | (rw [hy216]; exact H) | exact H
     have Ny216 := Aside0.mk hy216
     clear hy216
     obtain ⟨ji8, hji8⟩ : ∃ j_ : Int, (mn (l0_4.length : Int) 70) = j_ := ⟨_, rfl⟩
     replace H : (if 0 ≤ (ji8) then (if (ji8) ≤ (l0_4.length : Int) then (boltinglaw12_Bound.l0 k (([] : List (S60))) 0 a0_0 a0_1 y211 y216 (l0_4.take ((ji8) : Int).toNat) l0_5 a0_6 a0_7) else (none)) else (none)) = some (r1, r2, r3, r4, r5, r6, r7, r8) := by first | (rw [hji8] at H; exact H) | (simp only [hji8] at H ⊢; exact H)
     (try (have hji8h : ji8 ≤ 70 := by (rw [← hji8]; unfold mn; (repeat' split) <;> omega)))
     (try (have hji8g : ji8 ≤ 64 := by omega))
     (try (have hji8l : 0 ≤ ji8 := by (rw [← hji8]; unfold mn; (repeat' split) <;> omega)))
     (try (have hji8m : 0 ≤ ji8 := by omega))
     have hji8_ : (if 70 < (l0_4.length : Int) then 70 else (l0_4.length : Int)) = ji8 := hji8
     by_cases c9 : 0 ≤ (ji8)
     ·rw [if_pos c9] at H
      have c9b0 := eq_true c9
      have c9b1 : decide (0 ≤ (ji8)) = true := decide_eq_true c9
      clear c9
      by_cases c10 : (ji8) ≤ (l0_4.length : Int)
      ·rw [if_pos c10] at H
       have c10b0 := eq_true c10
       have c10b1 : decide ((ji8) ≤ (l0_4.length : Int)) = true := decide_eq_true c10
       clear c10
       obtain ⟨y221, hy221⟩ : ∃ y_ : List ByteArray, y_ = (l0_4.take ((ji8) : Int).toNat) := ⟨_, rfl⟩
       replace H : (boltinglaw12_Bound.l0 k (([] : List (S60))) 0 a0_0 a0_1 y211 y216 y221 l0_5 a0_6 a0_7) = some (r1, r2, r3, r4, r5, r6, r7, r8) := by first | (rw [hy221]; with_reducible exact H) | (have H2_ := (Option.bind_some _ _).symm.trans H; rw [hy221]; with_reducible exact H2_) | (have H2_ := (Option.bind_some _ _).symm.trans H; with_reducible exact H2_) | with_reducible exact H | (rw [hy221]; exact H) | exact H
       have Ny221 := Aside0.mk hy221
       clear hy221
       obtain ⟨y226, hy226⟩ : ∃ y_ : List (S60), y_ = (([] : List (S60))) := ⟨_, rfl⟩
       replace H : (boltinglaw12_Bound.l0 k y226 0 a0_0 a0_1 y211 y216 y221 l0_5 a0_6 a0_7) = some (r1, r2, r3, r4, r5, r6, r7, r8) := by first | (rw [hy226]; with_reducible exact H) | (have H2_ := (Option.bind_some _ _).symm.trans H; rw [hy226]; with_reducible exact H2_) | (have H2_ := (Option.bind_some _ _).symm.trans H; with_reducible exact H2_) | with_reducible exact H | (rw [hy226]; exact H) | exact H
       have Ny226 := Aside0.mk hy226
       clear hy226
       have H' := Aside0.mk H
       clear H
       go_enter Tryz.func20, Tryz.ntmps20
       go_wp2_with (first | ((with_reducible refine gate_dst (N := 1) rfl ?_); refine box_event ?hg (N := 1) ?hd (cs := #[.bool a0_0, .bool a0_1, .slice A0_2 l0_2.length c0_2, .slice A0_3 l0_3.length c0_3, .slice A0_4 l0_4.length c0_4, .slice A0_5 l0_5.length c0_5, .bool a0_6, .bool a0_7]) (t := 32) ?hr ?_; (case hd => rfl); (case hg => rfl); (case hr => first | (go_simp; done) | (go_simp; rfl)); intro gb209 hg w11 hbox hb; have n0_ := Aside0.mk (Kd.V_below (Kd.V_elderB HO0_2.out gb209 (Nat.le_of_eq hg.symm)) hb); have n1_ := Aside0.mk (Kd.V_below (Kd.V_elderB HO0_3.out gb209 (Nat.le_of_eq hg.symm)) hb); have n2_ := Aside0.mk (Kd.V_below (Kd.V_elderB HO0_4.out gb209 (Nat.le_of_eq hg.symm)) hb); have n3_ := Aside0.mk (Kd.V_below (Kd.V_elderB HO0_5.out gb209 (Nat.le_of_eq hg.symm)) hb); have n4_ := Aside0.mk (below_step (zb HB) hb); have n5_ := Aside0.mk (hbox); have n7_ := Aside0.mk ((by rw [hg]; exact (below_size (zb HB)) : w.heap.size ≤ gb209)); clear HO0_2; clear HO0_3; clear HO0_4; clear HO0_5; clear HB; have HO0_2 := n0_; have HO0_3 := n1_; have HO0_4 := n2_; have HO0_5 := n3_; have HB := n4_; have BK209 := n5_; have GE209 := n7_; clear n0_ n1_ n2_ n3_ n4_ n5_ n7_; clear hb hbox hg) | ((with_reducible refine gate_dst (N := 2) rfl ?_); refine box_event ?hg (N := 2) ?hd (cs := #[.bool false, .bool false, .slice none 0 0, .slice none 0 0, .slice none 0 0, .slice none 0 0, .bool false, .bool false]) (t := 32) ?hr ?_; (case hd => rfl); (case hg => rfl); (case hr => first | (go_simp; done) | (go_simp; rfl)); intro gb210 hg w12 hbox hb; have n0_ := Aside0.mk (Kd.V_below (Kd.V_elderB HO0_2.out gb210 (Nat.le_of_eq hg.symm)) hb); have n1_ := Aside0.mk (Kd.V_below (Kd.V_elderB HO0_3.out gb210 (Nat.le_of_eq hg.symm)) hb); have n2_ := Aside0.mk (Kd.V_below (Kd.V_elderB HO0_4.out gb210 (Nat.le_of_eq hg.symm)) hb); have n3_ := Aside0.mk (Kd.V_below (Kd.V_elderB HO0_5.out gb210 (Nat.le_of_eq hg.symm)) hb); have n4_ := Aside0.mk (blk_below BK209.out hb); have n5_ := Aside0.mk (below_step (zb1 HB GE209) hb); have n6_ := Aside0.mk (hbox); have n8_ := Aside0.mk ((by rw [hg]; exact (below_size (zb1 HB GE209)) : w.heap.size ≤ gb210)); have n9_ := Aside0.mk ((by rw [hg]; exact Nat.ne_of_lt (blk_lt BK209.out) : gb209 ≠ gb210)); have n10_ := Aside0.mk ((by rw [hg]; exact Nat.ne_of_gt (blk_lt BK209.out) : gb210 ≠ gb209)); clear HO0_2; clear HO0_3; clear HO0_4; clear HO0_5; clear BK209; clear HB; have HO0_2 := n0_; have HO0_3 := n1_; have HO0_4 := n2_; have HO0_5 := n3_; have BK209 := n4_; have HB := n5_; have BK210 := n6_; have GE210 := n8_; have NB209_210 := n9_; have NB210_209 := n10_; clear n0_ n1_ n2_ n3_ n4_ n5_ n6_ n8_ n9_ n10_; clear hb hbox hg; have hnb13 := NB209_210.out; have hnc13 := NB210_209.out; obtain ⟨hcz14_0, hcz14_1, hcz14_2, hcz14_3, hcz14_4, hcz14_5, hcz14_6, hcz14_7, hfz14_0, hfz14_1, hfz14_2, hfz14_3, hfz14_4, hfz14_5, hfz14_6, hfz14_7⟩ := cz8 BK209.out; have q15 : ((ji2) : Int) ≤ ((l0_2.length : Int) : Int) := of_decide_eq_true za; obtain ⟨i015, hi015, _, hsz15, _⟩ := info_parts info9; have hroom15 : l0_2.length ≤ c0_2 := (Kd.V_reads' HO0_2.out).2.1; have hC15 : Kd.F Kd.string _ _ A0_2 l0_2.length l0_2 := (Kd.V_at (base := w.heap.size) HO0_2.out).2.2; have hcut15 := cut_to (P := Tryz.prog) 29 9 .i64 Tryz.underlying29 hi015 A0_2 l0_2.length c0_2 (ji2) (of_decide_eq_true za) q15 hroom15; have hr15 := Kd.F_take (m := ((ji2) : Int).toNat) hC15 (by omega); have hy15 : y211.length = ((ji2) : Int).toNat := (by rw [Ny211.out, List.length_take]; omega); rw [← Ny211.out] at hr15; rw [← hy15] at hcut15; have HO215 := Aside0.mk (show Kd.V Kd.string 9 _ w.heap.size _ (.slice A0_2 y211.length c0_2) y211 from Kd.V_mk (by omega) hr15); have HC215 := Aside0.mk (show y211.length ≤ c0_2 from by omega); clear hr15 hC15 hroom15 hi015 hsz15; have KY15 := Aside0.mk hy15; clear hy15; replace q15 := eq_true q15) | ((with_reducible refine gate_store (t := 29) (p := 12) rfl ?_); refine store_event (t := 29) (p := 12) (v := ?vo_w16) (w1 := (w12.setCell ⟨gb209, 2, none⟩ (.slice A0_2 y211.length c0_2))) ?hg ?ho ?hn ?hr ?_; (case ho => rfl); (case hg => rfl); (case hn => rfl); (case hr => first | (go_simp; done) | (go_simp; rfl)); intro w16 hw; have n1_ : Aside0 (Kd.V Kd.string 9 w16 w.heap.size (fun k_ => ((P0_2_ k_ ∨ P0_3_ k_ ∨ P0_4_ k_ ∨ P0_5_ k_) ∨ w.heap.size ≤ k_) ∧ k_ ≠ gb209 ∧ k_ ≠ gb210) (.slice A0_3 l0_3.length c0_3) l0_3) := ⟨(by rw [hw]; exact (by exact Kd.V_mono (Kd.V_far (p := ⟨gb209, 2, none⟩) (Kd.V_mono HO0_3.out (fun k_ hk => (⟨hk, hk.1.2⟩ : _ ∧ k_ ≠ gb209))) (fun _ hk => hk.2) (.slice A0_2 y211.length c0_2)) (fun _ hk => ⟨hk.1.1.1, ⟨hk.1.1.2, hk.1.2⟩⟩)))⟩; have n2_ : Aside0 (Kd.V Kd.string 9 w16 w.heap.size (fun k_ => ((P0_2_ k_ ∨ P0_3_ k_ ∨ P0_4_ k_ ∨ P0_5_ k_) ∨ w.heap.size ≤ k_) ∧ k_ ≠ gb209 ∧ k_ ≠ gb210) (.slice A0_4 l0_4.length c0_4) l0_4) := ⟨(by rw [hw]; exact (by exact Kd.V_mono (Kd.V_far (p := ⟨gb209, 2, none⟩) (Kd.V_mono HO0_4.out (fun k_ hk => (⟨hk, hk.1.2⟩ : _ ∧ k_ ≠ gb209))) (fun _ hk => hk.2) (.slice A0_2 y211.length c0_2)) (fun _ hk => ⟨hk.1.1.1, ⟨hk.1.1.2, hk.1.2⟩⟩)))⟩; have n3_ : Aside0 (Kd.V k60 60 w16 w.heap.size (fun k_ => ((P0_2_ k_ ∨ P0_3_ k_ ∨ P0_4_ k_ ∨ P0_5_ k_) ∨ w.heap.size ≤ k_) ∧ k_ ≠ gb209 ∧ k_ ≠ gb210) (.slice A0_5 l0_5.length c0_5) l0_5) := ⟨(by rw [hw]; exact (by exact Kd.V_mono (Kd.V_far (p := ⟨gb209, 2, none⟩) (Kd.V_mono HO0_5.out (fun k_ hk => (⟨hk, hk.1.2⟩ : _ ∧ k_ ≠ gb209))) (fun _ hk => hk.2) (.slice A0_2 y211.length c0_2)) (fun _ hk => ⟨hk.1.1.1, ⟨hk.1.1.2, hk.1.2⟩⟩)))⟩; have n4_ : Aside0 (Kd.V Kd.string 9 w16 w.heap.size (fun k_ => ((P0_2_ k_ ∨ P0_3_ k_ ∨ P0_4_ k_ ∨ P0_5_ k_) ∨ w.heap.size ≤ k_) ∧ k_ ≠ gb209 ∧ k_ ≠ gb210) (.slice A0_2 y211.length c0_2) y211) := ⟨(by rw [hw]; exact (by exact Kd.V_mono (Kd.V_far (p := ⟨gb209, 2, none⟩) (Kd.V_mono HO215.out (fun k_ hk => (⟨hk, hk.1.2⟩ : _ ∧ k_ ≠ gb209))) (fun _ hk => hk.2) (.slice A0_2 y211.length c0_2)) (fun _ hk => ⟨hk.1.1.1, ⟨hk.1.1.2, hk.1.2⟩⟩)))⟩; have n5_ : Aside0 (w16.heap[gb209]? = some (.cells #[.bool a0_0, .bool a0_1, .slice A0_2 y211.length c0_2, .slice A0_3 l0_3.length c0_3, .slice A0_4 l0_4.length c0_4, .slice A0_5 l0_5.length c0_5, .bool a0_6, .bool a0_7] 32 (0, 0))) := ⟨(by rw [hw]; exact (by refine blk_put (cs := #[.bool a0_0, .bool a0_1, .slice A0_2 l0_2.length c0_2, .slice A0_3 l0_3.length c0_3, .slice A0_4 l0_4.length c0_4, .slice A0_5 l0_5.length c0_5, .bool a0_6, .bool a0_7]) ?_ 2 _ rfl; exact BK209.out))⟩; have n6_ : Aside0 (w16.heap[gb210]? = some (.cells #[.bool false, .bool false, .slice none 0 0, .slice none 0 0, .slice none 0 0, .slice none 0 0, .bool false, .bool false] 32 (0, 0))) := ⟨(by rw [hw]; exact (by refine blk_far ?_ NB210_209.out _; exact BK210.out))⟩; have n7_ : Aside0 (Below w.heap.size w w16) := ⟨(by rw [hw]; exact (zb2 HB GE209 GE210))⟩; clear hw; clear HO0_2; clear HO0_3; clear HO0_4; clear HO0_5; clear HO215; clear BK209; clear BK210; clear HB; have HO0_3 := n1_; have HO0_4 := n2_; have HO0_5 := n3_; have HO215 := n4_; have BK209 := n5_; have BK210 := n6_; have HB := n7_; clear n1_ n2_ n3_ n4_ n5_ n6_ n7_; obtain ⟨hcz17_0, hcz17_1, hcz17_2, hcz17_3, hcz17_4, hcz17_5, hcz17_6, hcz17_7, hfz17_0, hfz17_1, hfz17_2, hfz17_3, hfz17_4, hfz17_5, hfz17_6, hfz17_7⟩ := cz8 BK209.out; have q18 : ((ji5) : Int) ≤ ((l0_3.length : Int) : Int) := of_decide_eq_true za; obtain ⟨i018, hi018, _, hsz18, _⟩ := info_parts info9; have hroom18 : l0_3.length ≤ c0_3 := (Kd.V_reads' HO0_3.out).2.1; have hC18 : Kd.F Kd.string _ _ A0_3 l0_3.length l0_3 := (Kd.V_at (base := w.heap.size) HO0_3.out).2.2; have hcut18 := cut_to (P := Tryz.prog) 29 9 .i64 Tryz.underlying29 hi018 A0_3 l0_3.length c0_3 (ji5) (of_decide_eq_true za) q18 hroom18; have hr18 := Kd.F_take (m := ((ji5) : Int).toNat) hC18 (by omega); have hy18 : y216.length = ((ji5) : Int).toNat := (by rw [Ny216.out, List.length_take]; omega); rw [← Ny216.out] at hr18; rw [← hy18] at hcut18; have HO220 := Aside0.mk (show Kd.V Kd.string 9 _ w.heap.size _ (.slice A0_3 y216.length c0_3) y216 from Kd.V_mk (by omega) hr18); have HC220 := Aside0.mk (show y216.length ≤ c0_3 from by omega); clear hr18 hC18 hroom18 hi018 hsz18; have KY18 := Aside0.mk hy18; clear hy18; replace q18 := eq_true q18) | ((with_reducible refine gate_store (t := 29) (p := 20) rfl ?_); refine store_event (t := 29) (p := 20) (v := ?vo_w19) (w1 := (w16.setCell ⟨gb209, 3, none⟩ (.slice A0_3 y216.length c0_3))) ?hg ?ho ?hn ?hr ?_; (case ho => rfl); (case hg => rfl); (case hn => rfl); (case hr => first | (go_simp; done) | (go_simp; rfl)); intro w19 hw; have n2_ : Aside0 (Kd.V Kd.string 9 w19 w.heap.size (fun k_ => ((P0_2_ k_ ∨ P0_3_ k_ ∨ P0_4_ k_ ∨ P0_5_ k_) ∨ w.heap.size ≤ k_) ∧ k_ ≠ gb209 ∧ k_ ≠ gb210) (.slice A0_4 l0_4.length c0_4) l0_4) := ⟨(by rw [hw]; exact (by exact Kd.V_mono (Kd.V_far (p := ⟨gb209, 3, none⟩) (Kd.V_mono HO0_4.out (fun k_ hk => (⟨hk, hk.2.1⟩ : _ ∧ k_ ≠ gb209))) (fun _ hk => hk.2) (.slice A0_3 y216.length c0_3)) (fun _ hk => ⟨hk.1.1, ⟨hk.1.2.1, hk.1.2.2⟩⟩)))⟩; have n3_ : Aside0 (Kd.V k60 60 w19 w.heap.size (fun k_ => ((P0_2_ k_ ∨ P0_3_ k_ ∨ P0_4_ k_ ∨ P0_5_ k_) ∨ w.heap.size ≤ k_) ∧ k_ ≠ gb209 ∧ k_ ≠ gb210) (.slice A0_5 l0_5.length c0_5) l0_5) := ⟨(by rw [hw]; exact (by exact Kd.V_mono (Kd.V_far (p := ⟨gb209, 3, none⟩) (Kd.V_mono HO0_5.out (fun k_ hk => (⟨hk, hk.2.1⟩ : _ ∧ k_ ≠ gb209))) (fun _ hk => hk.2) (.slice A0_3 y216.length c0_3)) (fun _ hk => ⟨hk.1.1, ⟨hk.1.2.1, hk.1.2.2⟩⟩)))⟩; have n4_ : Aside0 (Kd.V Kd.string 9 w19 w.heap.size (fun k_ => ((P0_2_ k_ ∨ P0_3_ k_ ∨ P0_4_ k_ ∨ P0_5_ k_) ∨ w.heap.size ≤ k_) ∧ k_ ≠ gb209 ∧ k_ ≠ gb210) (.slice A0_2 y211.length c0_2) y211) := ⟨(by rw [hw]; exact (by exact Kd.V_mono (Kd.V_far (p := ⟨gb209, 3, none⟩) (Kd.V_mono HO215.out (fun k_ hk => (⟨hk, hk.2.1⟩ : _ ∧ k_ ≠ gb209))) (fun _ hk => hk.2) (.slice A0_3 y216.length c0_3)) (fun _ hk => ⟨hk.1.1, ⟨hk.1.2.1, hk.1.2.2⟩⟩)))⟩; have n5_ : Aside0 (Kd.V Kd.string 9 w19 w.heap.size (fun k_ => ((P0_2_ k_ ∨ P0_3_ k_ ∨ P0_4_ k_ ∨ P0_5_ k_) ∨ w.heap.size ≤ k_) ∧ k_ ≠ gb209 ∧ k_ ≠ gb210) (.slice A0_3 y216.length c0_3) y216) := ⟨(by rw [hw]; exact (by exact Kd.V_mono (Kd.V_far (p := ⟨gb209, 3, none⟩) (Kd.V_mono HO220.out (fun k_ hk => (⟨hk, hk.2.1⟩ : _ ∧ k_ ≠ gb209))) (fun _ hk => hk.2) (.slice A0_3 y216.length c0_3)) (fun _ hk => ⟨hk.1.1, ⟨hk.1.2.1, hk.1.2.2⟩⟩)))⟩; have n6_ : Aside0 (w19.heap[gb209]? = some (.cells #[.bool a0_0, .bool a0_1, .slice A0_2 y211.length c0_2, .slice A0_3 y216.length c0_3, .slice A0_4 l0_4.length c0_4, .slice A0_5 l0_5.length c0_5, .bool a0_6, .bool a0_7] 32 (0, 0))) := ⟨(by rw [hw]; exact (by refine blk_put (cs := #[.bool a0_0, .bool a0_1, .slice A0_2 y211.length c0_2, .slice A0_3 l0_3.length c0_3, .slice A0_4 l0_4.length c0_4, .slice A0_5 l0_5.length c0_5, .bool a0_6, .bool a0_7]) ?_ 3 _ rfl; exact BK209.out))⟩; have n7_ : Aside0 (w19.heap[gb210]? = some (.cells #[.bool false, .bool false, .slice none 0 0, .slice none 0 0, .slice none 0 0, .slice none 0 0, .bool false, .bool false] 32 (0, 0))) := ⟨(by rw [hw]; exact (by refine blk_far ?_ NB210_209.out _; exact BK210.out))⟩; have n8_ : Aside0 (Below w.heap.size w w19) := ⟨(by rw [hw]; exact (zb2 HB GE209 GE210))⟩; clear hw; clear HO0_3; clear HO0_4; clear HO0_5; clear HO215; clear HO220; clear BK209; clear BK210; clear HB; have HO0_4 := n2_; have HO0_5 := n3_; have HO215 := n4_; have HO220 := n5_; have BK209 := n6_; have BK210 := n7_; have HB := n8_; clear n2_ n3_ n4_ n5_ n6_ n7_ n8_; obtain ⟨hcz20_0, hcz20_1, hcz20_2, hcz20_3, hcz20_4, hcz20_5, hcz20_6, hcz20_7, hfz20_0, hfz20_1, hfz20_2, hfz20_3, hfz20_4, hfz20_5, hfz20_6, hfz20_7⟩ := cz8 BK209.out; have q21 : ((ji8) : Int) ≤ ((l0_4.length : Int) : Int) := of_decide_eq_true za; obtain ⟨i021, hi021, _, hsz21, _⟩ := info_parts info9; have hroom21 : l0_4.length ≤ c0_4 := (Kd.V_reads' HO0_4.out).2.1; have hC21 : Kd.F Kd.string _ _ A0_4 l0_4.length l0_4 := (Kd.V_at (base := w.heap.size) HO0_4.out).2.2; have hcut21 := cut_to (P := Tryz.prog) 29 9 .i64 Tryz.underlying29 hi021 A0_4 l0_4.length c0_4 (ji8) (of_decide_eq_true za) q21 hroom21; have hr21 := Kd.F_take (m := ((ji8) : Int).toNat) hC21 (by omega); have hy21 : y221.length = ((ji8) : Int).toNat := (by rw [Ny221.out, List.length_take]; omega); rw [← Ny221.out] at hr21; rw [← hy21] at hcut21; have HO225 := Aside0.mk (show Kd.V Kd.string 9 _ w.heap.size _ (.slice A0_4 y221.length c0_4) y221 from Kd.V_mk (by omega) hr21); have HC225 := Aside0.mk (show y221.length ≤ c0_4 from by omega); clear hr21 hC21 hroom21 hi021 hsz21; have KY21 := Aside0.mk hy21; clear hy21; replace q21 := eq_true q21) | ((with_reducible refine gate_dst (N := 29) rfl ?_); refine Kd.N_lit k60 _ 60 ?hg (N' := 29) ?hd (xs := ([] : List (S60))) (inner := []) (ok := (fun k_ => ((P0_2_ k_ ∨ P0_3_ k_ ∨ P0_4_ k_ ∨ P0_5_ k_) ∨ w.heap.size ≤ k_) ∧ k_ ≠ gb209 ∧ k_ ≠ gb210)) (okp := (fun k_ => ((P0_2_ k_ ∨ P0_3_ k_ ∨ P0_4_ k_ ∨ P0_5_ k_) ∨ w.heap.size ≤ k_) ∧ k_ ≠ gb209 ∧ k_ ≠ gb210)) ?hr ?hp (fun _ hk => hk) ((show ∀ k_, w19.heap.size ≤ k_ → (fun k_ => ((P0_2_ k_ ∨ P0_3_ k_ ∨ P0_4_ k_ ∨ P0_5_ k_) ∨ w.heap.size ≤ k_) ∧ k_ ≠ gb209 ∧ k_ ≠ gb210) k_ from fun k_ hk => ⟨(.inr (Nat.le_trans (below_size (zb2 HB GE209 GE210)) hk)), Kd.freshB (g := gb209) BK209.out k_ hk, Kd.freshB (g := gb210) BK210.out k_ hk⟩) _ (by first | exact Nat.le_refl _ | exact Nat.le_of_eq (World.size_setCell ..).symm)) (Below.refl _ _) (Nat.le_refl _) (by simp) ?_; (case hd => rfl); (case hg => rfl); (case hr => first | (go_simp; done) | (go_simp; rfl)); (case hp => exact (Reps.none _ _)); intro v227 w22 ho23 hb hg_ hnew_; clear hg_ hnew_; (first | rw [← Ny226.out] at ho23 | (simp only [Int.reduceToNat] at ho23; rw [← Ny226.out] at ho23)); have n3_ := Aside0.mk (Kd.V_elder' (by exact (Kd.V_mono (Kd.V_far (p := ⟨gb209, 4, none⟩) (Kd.V_mono HO0_5.out (fun k_ hk => (⟨hk, hk.2.1⟩ : _ ∧ k_ ≠ gb209))) (fun _ hk => hk.2) (.slice A0_4 y221.length c0_4)) (fun _ h_ => h_.1))) (Kd.N_base ho23) hb); have n4_ := Aside0.mk (Kd.V_elder' (by exact (Kd.V_mono (Kd.V_far (p := ⟨gb209, 4, none⟩) (Kd.V_mono HO215.out (fun k_ hk => (⟨hk, hk.2.1⟩ : _ ∧ k_ ≠ gb209))) (fun _ hk => hk.2) (.slice A0_4 y221.length c0_4)) (fun _ h_ => h_.1))) (Kd.N_base ho23) hb); have n5_ := Aside0.mk (Kd.V_elder' (by exact (Kd.V_mono (Kd.V_far (p := ⟨gb209, 4, none⟩) (Kd.V_mono HO220.out (fun k_ hk => (⟨hk, hk.2.1⟩ : _ ∧ k_ ≠ gb209))) (fun _ hk => hk.2) (.slice A0_4 y221.length c0_4)) (fun _ h_ => h_.1))) (Kd.N_base ho23) hb); have n6_ := Aside0.mk (Kd.V_elder' (by exact (Kd.V_mono (Kd.V_far (p := ⟨gb209, 4, none⟩) (Kd.V_mono HO225.out (fun k_ hk => (⟨hk, hk.2.1⟩ : _ ∧ k_ ≠ gb209))) (fun _ hk => hk.2) (.slice A0_4 y221.length c0_4)) (fun _ h_ => h_.1))) (Kd.N_base ho23) hb); have n7_ := Aside0.mk (Kd.N_lower ho23 (below_size (zb2 HB GE209 GE210))); have n8_ := Aside0.mk (blk_below (g := gb209) (o := .cells #[.bool a0_0, .bool a0_1, .slice A0_2 y211.length c0_2, .slice A0_3 y216.length c0_3, .slice A0_4 y221.length c0_4, .slice A0_5 l0_5.length c0_5, .bool a0_6, .bool a0_7] 32 (0, 0)) (by refine blk_put (cs := #[.bool a0_0, .bool a0_1, .slice A0_2 y211.length c0_2, .slice A0_3 y216.length c0_3, .slice A0_4 l0_4.length c0_4, .slice A0_5 l0_5.length c0_5, .bool a0_6, .bool a0_7]) ?_ 4 _ rfl; exact BK209.out) hb); have n9_ := Aside0.mk (blk_below (g := gb210) (o := .cells #[.bool false, .bool false, .slice none 0 0, .slice none 0 0, .slice none 0 0, .slice none 0 0, .bool false, .bool false] 32 (0, 0)) (by refine blk_far ?_ NB210_209.out _; exact BK210.out) hb); have n10_ := Aside0.mk (below_step (zb2 HB GE209 GE210) hb); clear HO0_4; clear HO0_5; clear HO215; clear HO220; clear HO225; clear BK209; clear BK210; clear HB; have HO0_5 := n3_; have HO215 := n4_; have HO220 := n5_; have HO225 := n6_; have HO228 := n7_; have BK209 := n8_; have BK210 := n9_; have HB := n10_; clear n3_ n4_ n5_ n6_ n7_ n8_ n9_ n10_; clear hb ho23))
       go_loopg [3, 4] k (fun kq v3 v4 w' => ∃ (x3_1 : List (S60)) (x4_1 : Int), v4 = .int .i64 x4_1 ∧ Aside0 (boltinglaw12_Bound.l0 kq x3_1 x4_1 a0_0 a0_1 y211 y216 y221 l0_5 a0_6 a0_7 = some (r1, r2, r3, r4, r5, r6, r7, r8)) ∧ Aside0 (kq ≤ k) ∧ Aside0 (Kd.N k60 60 w' w.heap.size (fun k_ => ((P0_2_ k_ ∨ P0_3_ k_ ∨ P0_4_ k_ ∨ P0_5_ k_) ∨ w.heap.size ≤ k_) ∧ k_ ≠ gb209 ∧ k_ ≠ gb210) v3 x3_1) ∧ Aside0 (Kd.V Kd.string 9 w' w.heap.size (fun k_ => ((P0_2_ k_ ∨ P0_3_ k_ ∨ P0_4_ k_ ∨ P0_5_ k_) ∨ w.heap.size ≤ k_) ∧ some k_ ≠ (v3 : Value).ownBlock ∧ k_ ≠ gb209 ∧ k_ ≠ gb210) (.slice A0_2 y211.length c0_2) y211) ∧ Aside0 (Kd.V Kd.string 9 w' w.heap.size (fun k_ => ((P0_2_ k_ ∨ P0_3_ k_ ∨ P0_4_ k_ ∨ P0_5_ k_) ∨ w.heap.size ≤ k_) ∧ some k_ ≠ (v3 : Value).ownBlock ∧ k_ ≠ gb209 ∧ k_ ≠ gb210) (.slice A0_3 y216.length c0_3) y216) ∧ Aside0 (Kd.V Kd.string 9 w' w.heap.size (fun k_ => ((P0_2_ k_ ∨ P0_3_ k_ ∨ P0_4_ k_ ∨ P0_5_ k_) ∨ w.heap.size ≤ k_) ∧ some k_ ≠ (v3 : Value).ownBlock ∧ k_ ≠ gb209 ∧ k_ ≠ gb210) (.slice A0_4 y221.length c0_4) y221) ∧ Aside0 (Kd.V k60 60 w' w.heap.size (fun k_ => ((P0_2_ k_ ∨ P0_3_ k_ ∨ P0_4_ k_ ∨ P0_5_ k_) ∨ w.heap.size ≤ k_) ∧ some k_ ≠ (v3 : Value).ownBlock ∧ k_ ≠ gb209 ∧ k_ ≠ gb210) (.slice A0_5 l0_5.length c0_5) l0_5) ∧ Aside0 (w'.heap[gb209]? = some (.cells #[.bool a0_0, .bool a0_1, (.slice A0_2 y211.length c0_2), (.slice A0_3 y216.length c0_3), (.slice A0_4 y221.length c0_4), (.slice A0_5 l0_5.length c0_5), .bool a0_6, .bool a0_7] 32 (0, 0))) ∧ Aside0 (w'.heap[gb210]? = some (.cells #[.bool false, .bool false, (.slice none 0 0), (.slice none 0 0), (.slice none 0 0), (.slice none 0 0), .bool false, .bool false] 32 (0, 0))) ∧ Aside0 (Below w.heap.size w w'))
       case atStart => exact ⟨(y226), (0), zr, H', ⟨Nat.le_refl _⟩, ⟨by exact HO228.out⟩, ⟨by exact Kd.V_mono HO215.out (fun _ hk => ⟨hk.1.1, ⟨hk.2, ⟨hk.1.2.1, hk.1.2.2⟩⟩⟩)⟩, ⟨by exact Kd.V_mono HO220.out (fun _ hk => ⟨hk.1.1, ⟨hk.2, ⟨hk.1.2.1, hk.1.2.2⟩⟩⟩)⟩, ⟨by exact Kd.V_mono HO225.out (fun _ hk => ⟨hk.1.1, ⟨hk.2, ⟨hk.1.2.1, hk.1.2.2⟩⟩⟩)⟩, ⟨by exact Kd.V_mono HO0_5.out (fun _ hk => ⟨hk.1.1, ⟨hk.2, ⟨hk.1.2.1, hk.1.2.2⟩⟩⟩)⟩, ⟨by exact BK209.out⟩, ⟨by exact BK210.out⟩, ⟨zb2 HB GE209 GE210⟩⟩
       case round =>
        clear H'
        try clear c1
        try clear q1
        try clear c2
        try clear p2
        try clear q2
        try clear c3
        try clear c3b0
        try clear c3b1
        try clear c4
        try clear c4b0
        try clear c4b1
        try clear c6
        try clear c6b0
        try clear c6b1
        try clear c7
        try clear c7b0
        try clear c7b1
        try clear c9
        try clear c9b0
        try clear c9b1
        try clear c10
        try clear c10b0
        try clear c10b1
        try clear c13
        try clear q15
        try clear q18
        try clear c20
        try clear q21
        try clear hcz14_0
        try clear hcz14_1
        try clear hcz14_2
        try clear hcz14_3
        try clear hcz14_4
        try clear hcz14_5
        try clear hcz14_6
        try clear hcz14_7
        try clear hcz17_0
        try clear hcz17_1
        try clear hcz17_2
        try clear hcz17_3
        try clear hcz17_4
        try clear hcz17_5
        try clear hcz17_6
        try clear hcz17_7
        try clear hcz20_0
        try clear hcz20_1
        try clear hcz20_2
        try clear hcz20_3
        try clear hcz20_4
        try clear hcz20_5
        try clear hcz20_6
        try clear hcz20_7
        try clear hfz14_0
        try clear hfz14_1
        try clear hfz14_2
        try clear hfz14_3
        try clear hfz14_4
        try clear hfz14_5
        try clear hfz14_6
        try clear hfz14_7
        try clear hfz17_0
        try clear hfz17_1
        try clear hfz17_2
        try clear hfz17_3
        try clear hfz17_4
        try clear hfz17_5
        try clear hfz17_6
        try clear hfz17_7
        try clear hfz20_0
        try clear hfz20_1
        try clear hfz20_2
        try clear hfz20_3
        try clear hfz20_4
        try clear hfz20_5
        try clear hfz20_6
        try clear hfz20_7
        try clear q15
        try clear q18
        try clear q21
        obtain ⟨x3_1, x4_1, rfl, HA, HK1, HO_3, HO_210002, HO_210003, HO_210004, HO_210005, BK209, BK210, HB⟩ := hrel
        cases gk with
        | zero => exact absurd HA.out (by simp [boltinglaw12_Bound.l0])
        | succ k1 =>
         have H := HA.out
         clear HA
         simp only [boltinglaw12_Bound.l0] at H
         by_cases c24 : x4_1 < (l0_5.length : Int)
         ·rw [if_pos c24] at H
          have c24b0 : decide (x4_1 < (l0_5.length : Int)) = true := decide_eq_true c24
          clear c24
          by_cases c25 : x4_1 < 12
          ·rw [if_pos c25] at H
           have c25b0 : decide (x4_1 < 12) = true := decide_eq_true c25
           clear c25
           by_cases c26 : 0 ≤ x4_1
           ·rw [if_pos c26] at H
            have c26b0 : decide (0 ≤ x4_1) = true := decide_eq_true c26
            clear c26
            obtain ⟨ji27, hji27⟩ : ∃ j_ : Int, (mn (((rd_T60 l0_5 x4_1).f1).length : Int) 70) = j_ := ⟨_, rfl⟩
            replace H : (if 0 ≤ (ji27) then (if (ji27) ≤ (((rd_T60 l0_5 x4_1).f1).length : Int) then (if x3_1.length < 3518437208883 then (boltinglaw12_Bound.l0 k1 (x3_1 ++ [(⟨(rd_T60 l0_5 x4_1).f0, (((rd_T60 l0_5 x4_1).f1).take ((ji27) : Int).toNat)⟩ : S60)]) (wrap64 (x4_1 + 1)) a0_0 a0_1 y211 y216 y221 l0_5 a0_6 a0_7) else (none)) else (none)) else (none)) = some (r1, r2, r3, r4, r5, r6, r7, r8) := by first | (rw [hji27] at H; exact H) | (simp only [hji27] at H ⊢; exact H)
            have hji27_ : (if 70 < (((rd_T60 l0_5 x4_1).f1).length : Int) then 70 else (((rd_T60 l0_5 x4_1).f1).length : Int)) = ji27 := hji27
            by_cases c28 : 0 ≤ (ji27)
            ·rw [if_pos c28] at H
             have c28b0 := eq_true c28
             have c28b1 : decide (0 ≤ (ji27)) = true := decide_eq_true c28
             clear c28
             by_cases c29 : (ji27) ≤ (((rd_T60 l0_5 x4_1).f1).length : Int)
             ·rw [if_pos c29] at H
              have c29b0 := eq_true c29
              have c29b1 : decide ((ji27) ≤ (((rd_T60 l0_5 x4_1).f1).length : Int)) = true := decide_eq_true c29
              clear c29
              obtain ⟨y232, hy232⟩ : ∃ y_ : List ByteArray, y_ = (((rd_T60 l0_5 x4_1).f1).take ((ji27) : Int).toNat) := ⟨_, rfl⟩
              replace H : (if x3_1.length < 3518437208883 then (boltinglaw12_Bound.l0 k1 (x3_1 ++ [(⟨(rd_T60 l0_5 x4_1).f0, y232⟩ : S60)]) (wrap64 (x4_1 + 1)) a0_0 a0_1 y211 y216 y221 l0_5 a0_6 a0_7) else (none)) = some (r1, r2, r3, r4, r5, r6, r7, r8) := by first | (rw [hy232]; with_reducible exact H) | (have H2_ := (Option.bind_some _ _).symm.trans H; rw [hy232]; with_reducible exact H2_) | (have H2_ := (Option.bind_some _ _).symm.trans H; with_reducible exact H2_) | with_reducible exact H | (rw [hy232]; exact H) | exact H
              have Ny232 := Aside0.mk hy232
              clear hy232
              by_cases c30 : x3_1.length < 3518437208883
              ·rw [if_pos c30] at H
               have LMc30 := Aside0.mk c30
               clear c30
               obtain ⟨y237, hy237⟩ : ∃ y_ : List (S60), y_ = (x3_1 ++ [(⟨(rd_T60 l0_5 x4_1).f0, y232⟩ : S60)]) := ⟨_, rfl⟩
               replace H : (boltinglaw12_Bound.l0 k1 y237 (wrap64 (x4_1 + 1)) a0_0 a0_1 y211 y216 y221 l0_5 a0_6 a0_7) = some (r1, r2, r3, r4, r5, r6, r7, r8) := by first | (rw [hy237]; with_reducible exact H) | (have H2_ := (Option.bind_some _ _).symm.trans H; rw [hy237]; with_reducible exact H2_) | (have H2_ := (Option.bind_some _ _).symm.trans H; with_reducible exact H2_) | with_reducible exact H | (rw [hy237]; exact H) | exact H
               have Ny237 := Aside0.mk hy237
               clear hy237
               have H' := Aside0.mk H
               clear H
               have hnb31 := NB209_210.out
               have hnc31 := NB210_209.out
               obtain ⟨hcz32_0, hcz32_1, hcz32_2, hcz32_3, hcz32_4, hcz32_5, hcz32_6, hcz32_7, hfz32_0, hfz32_1, hfz32_2, hfz32_3, hfz32_4, hfz32_5, hfz32_6, hfz32_7⟩ := cz8 BK209.out
               try go_wp2
               have n0_ := Aside0.mk (Kd.N_drew HO_3.out)
               have n1_ := Aside0.mk (Kd.V_drew HO_210002.out)
               have n2_ := Aside0.mk (Kd.V_drew HO_210003.out)
               have n3_ := Aside0.mk (Kd.V_drew HO_210004.out)
               have n4_ := Aside0.mk (Kd.V_drew HO_210005.out)
               have n5_ := Aside0.mk (blk_drew BK209.out)
               have n6_ := Aside0.mk (blk_drew BK210.out)
               have n7_ := Aside0.mk (below_drew1 HB.out)
               clear HO_3
               clear HO_210002
               clear HO_210003
               clear HO_210004
               clear HO_210005
               clear BK209
               clear BK210
               clear HB
               have HO_3 := n0_
               have HO_210002 := n1_
               have HO_210003 := n2_
               have HO_210004 := n3_
               have HO_210005 := n4_
               have BK209 := n5_
               have BK210 := n6_
               have HB := n7_
               clear n0_ n1_ n2_ n3_ n4_ n5_ n6_ n7_
               have p229 : 0 ≤ (x4_1 : Int) := of_decide_eq_true za
               have q229 : x4_1 < (l0_5.length : Int) := of_decide_eq_true za
               obtain ⟨ad229, A229_1, c229_1, e229, hx229_0, hx229_1, hl229_1, hi229_1⟩ := at_T60 (Kd.V_reads' HO_210005.out).2.2 x4_1 p229 q229
               cases e229
               obtain ⟨ce229, hce229, hMe229, hcc229⟩ := Kd.V_get HO_210005.out z60 x4_1 p229 (by first | exact q229 | exact of_decide_eq_true za | (have e_ := (Kd.V_reads' HO_210005.out).1; omega))
               obtain ⟨ua229_1, uc229_1, rfl, ul229_1, ge229_1⟩ := k60_openF hMe229
               have hv229_1 := hcc229 1 _ rfl
               rw [add_field _ _ 1 (by omega)] at hv229_1
               replace hv229_1 := Option.some.inj (hv229_1.symm.trans hx229_1)
               injection hv229_1 with hva_ hvn_ hvc_
               rw [hva_] at ge229_1
               rw [hvc_] at ul229_1
               have HL229_1 := Aside0.mk (show Kd.V Kd.string 9 _ w.heap.size _ _ ((rd_T60 l0_5 x4_1).f1) from Kd.V_mk ul229_1 ge229_1)
               clear hva_ hvn_ hvc_ ge229_1 ul229_1
               clear hcc229 hce229
               have HR229_1 := Aside0.mk hi229_1
               have HC229_1 := Aside0.mk hl229_1
               clear hi229_1 hl229_1
               replace p229 := eq_true p229
               replace q229 := eq_true q229
               have p230 : 0 ≤ (x4_1 : Int) := of_decide_eq_true za
               have q230 : x4_1 < (l0_5.length : Int) := of_decide_eq_true za
               obtain ⟨ad230, A230_1, c230_1, e230, hx230_0, hx230_1, hl230_1, hi230_1⟩ := at_T60 (Kd.V_reads' HO_210005.out).2.2 x4_1 p230 q230
               obtain rfl : ad229 = ad230 := (by injection e230)
               obtain ⟨ce230, hce230, hMe230, hcc230⟩ := Kd.V_get HO_210005.out z60 x4_1 p230 (by first | exact q230 | exact of_decide_eq_true za | (have e_ := (Kd.V_reads' HO_210005.out).1; omega))
               obtain ⟨ua230_1, uc230_1, rfl, ul230_1, ge230_1⟩ := k60_openF hMe230
               have hv230_1 := hcc230 1 _ rfl
               rw [add_field _ _ 1 (by omega)] at hv230_1
               replace hv230_1 := Option.some.inj (hv230_1.symm.trans hx230_1)
               injection hv230_1 with hva_ hvn_ hvc_
               rw [hva_] at ge230_1
               rw [hvc_] at ul230_1
               have HL230_1 := Aside0.mk (show Kd.V Kd.string 9 _ w.heap.size _ _ ((rd_T60 l0_5 x4_1).f1) from Kd.V_mk ul230_1 ge230_1)
               clear hva_ hvn_ hvc_ ge230_1 ul230_1
               clear hcc230 hce230
               have HR230_1 := Aside0.mk hi230_1
               have HC230_1 := Aside0.mk hl230_1
               clear hi230_1 hl230_1
               replace p230 := eq_true p230
               replace q230 := eq_true q230
               have ea_ := Option.some.inj (hx229_1.symm.trans hx230_1)
               injection ea_ with ea_ en_ ec_
               subst ea_
               subst ec_
               clear en_
               have p231 : 0 ≤ (x4_1 : Int) := of_decide_eq_true za
               have q231 : x4_1 < (l0_5.length : Int) := of_decide_eq_true za
               obtain ⟨ad231, A231_1, c231_1, e231, hx231_0, hx231_1, hl231_1, hi231_1⟩ := at_T60 (Kd.V_reads' HO_210005.out).2.2 x4_1 p231 q231
               obtain rfl : ad229 = ad231 := (by injection e231)
               obtain ⟨ce231, hce231, hMe231, hcc231⟩ := Kd.V_get HO_210005.out z60 x4_1 p231 (by first | exact q231 | exact of_decide_eq_true za | (have e_ := (Kd.V_reads' HO_210005.out).1; omega))
               obtain ⟨ua231_1, uc231_1, rfl, ul231_1, ge231_1⟩ := k60_openF hMe231
               have hv231_1 := hcc231 1 _ rfl
               rw [add_field _ _ 1 (by omega)] at hv231_1
               replace hv231_1 := Option.some.inj (hv231_1.symm.trans hx231_1)
               injection hv231_1 with hva_ hvn_ hvc_
               rw [hva_] at ge231_1
               rw [hvc_] at ul231_1
               have HL231_1 := Aside0.mk (show Kd.V Kd.string 9 _ w.heap.size _ _ ((rd_T60 l0_5 x4_1).f1) from Kd.V_mk ul231_1 ge231_1)
               clear hva_ hvn_ hvc_ ge231_1 ul231_1
               clear hcc231 hce231
               have HR231_1 := Aside0.mk hi231_1
               have HC231_1 := Aside0.mk hl231_1
               clear hi231_1 hl231_1
               replace p231 := eq_true p231
               replace q231 := eq_true q231
               have ea_ := Option.some.inj (hx229_1.symm.trans hx231_1)
               injection ea_ with ea_ en_ ec_
               subst ea_
               subst ec_
               clear en_
               have q34 : ((ji27) : Int) ≤ ((((rd_T60 l0_5 x4_1).f1).length : Int) : Int) := of_decide_eq_true za
               obtain ⟨i034, hi034, _, hsz34, _⟩ := info_parts info9
               have hroom34 : ((rd_T60 l0_5 x4_1).f1).length ≤ c229_1 := HC230_1.out
               have hC34 : Kd.F Kd.string _ _ A229_1 ((rd_T60 l0_5 x4_1).f1).length ((rd_T60 l0_5 x4_1).f1) := (Kd.V_at (base := w.heap.size) HL230_1.out).2.2
               have hcut34 := cut_to (P := Tryz.prog) 29 9 .i64 Tryz.underlying29 hi034 A229_1 ((rd_T60 l0_5 x4_1).f1).length c229_1 (ji27) (of_decide_eq_true za) q34 hroom34
               have hr34 := Kd.F_take (m := ((ji27) : Int).toNat) hC34 (by omega)
               have hy34 : y232.length = ((ji27) : Int).toNat := (by rw [Ny232.out, List.length_take]; omega)
               rw [← Ny232.out] at hr34
               rw [← hy34] at hcut34
               have HO236 := Aside0.mk (show Kd.V Kd.string 9 _ w.heap.size _ (.slice A229_1 y232.length c229_1) y232 from Kd.V_mk (by omega) hr34)
               have HC236 := Aside0.mk (show y232.length ≤ c229_1 from by omega)
               clear hr34 hC34 hroom34 hi034 hsz34
               have KY34 := Aside0.mk hy34
               clear hy34
               replace q34 := eq_true q34
               refine start_ (n := 26) (S := fun w' => w'.cell? ⟨gb209, 0, none⟩ = some (.bool a0_0) ∧ w'.cell? ⟨gb209, 1, none⟩ = some (.bool a0_1) ∧ w'.cell? ⟨gb209, 2, none⟩ = some (.slice A0_2 y211.length c0_2) ∧ w'.cell? ⟨gb209, 3, none⟩ = some (.slice A0_3 y216.length c0_3) ∧ w'.cell? ⟨gb209, 4, none⟩ = some (.slice A0_4 y221.length c0_4) ∧ w'.cell? ⟨gb209, 5, none⟩ = some (.slice (some ad229) l0_5.length c0_5) ∧ w'.cell? ⟨gb209, 6, none⟩ = some (.bool a0_6) ∧ w'.cell? ⟨gb209, 7, none⟩ = some (.bool a0_7) ∧ w'.cell? (ad229.add ((x4_1).toNat * 2)) = some (.string ((rd_T60 l0_5 x4_1).f0)) ∧ w'.cell? ⟨(ad229.add ((x4_1).toNat * 2)).block, (ad229.add ((x4_1).toNat * 2)).off + 1, none⟩ = some (.slice A229_1 ((rd_T60 l0_5 x4_1).f1).length c229_1) ∧ w'.cell? (ad229.add ((x4_1).toNat * 2)) = some (.string ((rd_T60 l0_5 x4_1).f0)) ∧ w'.cell? ⟨(ad229.add ((x4_1).toNat * 2)).block, (ad229.add ((x4_1).toNat * 2)).off + 1, none⟩ = some (.slice A229_1 ((rd_T60 l0_5 x4_1).f1).length c229_1) ∧ w'.cell? (ad229.add ((x4_1).toNat * 2)) = some (.string ((rd_T60 l0_5 x4_1).f0)) ∧ w'.cell? ⟨(ad229.add ((x4_1).toNat * 2)).block, (ad229.add ((x4_1).toNat * 2)).off + 1, none⟩ = some (.slice A229_1 ((rd_T60 l0_5 x4_1).f1).length c229_1)) (ds := [23, 24]) (tf 0 26) (by kernel_rfl) rfl rfl ⟨(blk_cell BK209.out 0).trans rfl, (blk_cell BK209.out 1).trans rfl, (blk_cell BK209.out 2).trans rfl, (blk_cell BK209.out 3).trans rfl, (blk_cell BK209.out 4).trans rfl, (blk_cell BK209.out 5).trans rfl, (blk_cell BK209.out 6).trans rfl, (blk_cell BK209.out 7).trans rfl, hx229_0, hx229_1, hx230_0, hx230_1, hx231_0, hx231_1⟩ (fun hHeld => ?_); refine with_tabW boltinglaw12_Bound.tab8 boltinglaw12_Bound.bits8 (fun HT_ HW_ => ?_)
               generalize wr.drew = w33 at HO_3 HO_210002 HO_210003 HO_210004 HO_210005 BK209 BK210 HB HL229_1 HL230_1 HL231_1 HO236 HR229_1 HR230_1 HR231_1 hx229_0 hx229_1 hx230_0 hx230_1 hx231_0 hx231_1 hHeld ⊢
               refine pure_ (i := 0) (N := some 41) (v := ?_) (a' := ?_) (tf 1 25) rfl rfl (any_of HT_.out (by kernel_rfl)) (fun _ _ _ h => h) (Or.inl ⟨by rfl, ?_⟩) ?_ ?_
               rotate_left
               ·intro w'
                go_simp
                with_reducible rfl
               rotate_left
               ·simp only [Act.put, List.setIfInBounds_toArray, List.set_cons_zero, List.set_cons_succ, i64_w, i32_w]
                rfl
               refine pure_ (i := 1) (N := some 42) (v := ?_) (a' := ?_) (tf 2 24) rfl rfl (any_of HT_.out (by kernel_rfl)) (fun _ _ _ h => h) (Or.inl ⟨by rfl, ?_⟩) ?_ ?_
               rotate_left
               ·intro w'
                go_simp
                with_reducible rfl
               rotate_left
               ·simp only [Act.put, List.setIfInBounds_toArray, List.set_cons_zero, List.set_cons_succ, i64_w, i32_w]
                rfl
               refine pure_ (i := 3) (N := some 44) (v := ?_) (a' := ?_) #[true, true, false, true, false, false, false, false, false, false, false, false, false, false, false, false, false, false, false, false, false, false, false, false, false, false] rfl rfl (any_of HT_.out (by kernel_rfl)) (fun _ _ _ h => h) (Or.inl ⟨by rfl, ?_⟩) ?_ ?_
               rotate_left
               ·intro w'
                go_simp
                with_reducible rfl
               rotate_left
               ·simp only [Act.put, List.setIfInBounds_toArray, List.set_cons_zero, List.set_cons_succ, i64_w, i32_w]
                rfl
               refine pure_ (i := 7) (N := some 48) (v := ?_) (a' := ?_) #[true, true, false, true, false, false, false, true, false, false, false, false, false, false, false, false, false, false, false, false, false, false, false, false, false, false] rfl rfl (any_of HT_.out (by kernel_rfl)) (fun _ _ _ h => h) (Or.inl ⟨by rfl, ?_⟩) ?_ ?_
               rotate_left
               ·intro w'
                go_simp
                with_reducible rfl
               rotate_left
               ·simp only [Act.put, List.setIfInBounds_toArray, List.set_cons_zero, List.set_cons_succ, i64_w, i32_w]
                rfl
               refine pure_ (i := 9) (N := some 50) (v := ?_) (a' := ?_) #[true, true, false, true, false, false, false, true, false, true, false, false, false, false, false, false, false, false, false, false, false, false, false, false, false, false] rfl rfl (any_of HT_.out (by kernel_rfl)) (fun _ _ _ h => h) (Or.inl ⟨by rfl, ?_⟩) ?_ ?_
               rotate_left
               ·intro w'
                go_simp
                with_reducible rfl
               rotate_left
               ·simp only [Act.put, List.setIfInBounds_toArray, List.set_cons_zero, List.set_cons_succ, i64_w, i32_w]
                rfl
               refine pure_ (i := 13) (N := some 54) (v := ?_) (a' := ?_) #[true, true, false, true, false, false, false, true, false, true, false, false, false, true, false, false, false, false, false, false, false, false, false, false, false, false] rfl rfl (any_of HT_.out (by kernel_rfl)) (fun _ _ _ h => h) (Or.inl ⟨by rfl, ?_⟩) ?_ ?_
               rotate_left
               ·intro w'
                go_simp
                with_reducible rfl
               rotate_left
               ·simp only [Act.put, List.setIfInBounds_toArray, List.set_cons_zero, List.set_cons_succ, i64_w, i32_w]
                rfl
               refine pure_ (i := 15) (N := some 56) (v := ?_) (a' := ?_) #[true, true, false, true, false, false, false, true, false, true, false, false, false, true, false, true, false, false, false, false, false, false, false, false, false, false] rfl rfl (any_of HT_.out (by kernel_rfl)) (fun _ _ _ h => h) (Or.inl ⟨by rfl, ?_⟩) ?_ ?_
               rotate_left
               ·intro w'
                go_simp
                with_reducible rfl
               rotate_left
               ·simp only [Act.put, List.setIfInBounds_toArray, List.set_cons_zero, List.set_cons_succ, i64_w, i32_w]
                rfl
               refine take_ (i := 2) (N := some 43) (v := ?_) (a' := ?_) #[true, true, true, true, false, false, false, true, false, true, false, false, false, true, false, true, false, false, false, false, false, false, false, false, false, false] rfl rfl (take_ofW HT_.out HW_.out (by kernel_rfl)) (fun _ _ _ h => h) (Or.inl ⟨by rfl, ?_⟩) hHeld ?_ ?_
               rotate_left
               ·rintro w' ⟨s0, s1, s2, s3, s4, s5, s6, s7, s8, s9, s10, s11, s12, s13⟩
                go_simp
                with_reducible rfl
               rotate_left
               ·simp only [Act.put, List.setIfInBounds_toArray, List.set_cons_zero, List.set_cons_succ, i64_w, i32_w]
                rfl
               refine pure_ (i := 4) (N := some 45) (v := ?_) (a' := ?_) #[true, true, true, true, true, false, false, true, false, true, false, false, false, true, false, true, false, false, false, false, false, false, false, false, false, false] rfl rfl (any_of HT_.out (by kernel_rfl)) (fun _ _ _ h => h) (Or.inl ⟨by rfl, ?_⟩) ?_ ?_
               rotate_left
               ·intro w'
                go_simp
                with_reducible rfl
               rotate_left
               ·simp only [Act.put, List.setIfInBounds_toArray, List.set_cons_zero, List.set_cons_succ, i64_w, i32_w]
                rfl
               refine pure_ (i := 5) (N := some 46) (v := ?_) (a' := ?_) #[true, true, true, true, true, true, false, true, false, true, false, false, false, true, false, true, false, false, false, false, false, false, false, false, false, false] rfl rfl (any_of HT_.out (by kernel_rfl)) (fun _ _ _ h => h) (Or.inl ⟨by rfl, ?_⟩) ?_ ?_
               rotate_left
               ·intro w'
                go_simp
                with_reducible rfl
               rotate_left
               ·simp only [Act.put, List.setIfInBounds_toArray, List.set_cons_zero, List.set_cons_succ, i64_w, i32_w]
                rfl
               refine take_ (i := 6) (N := some 47) (v := ?_) (a' := ?_) #[true, true, true, true, true, true, true, true, false, true, false, false, false, true, false, true, false, false, false, false, false, false, false, false, false, false] rfl rfl (take_ofW HT_.out HW_.out (by kernel_rfl)) (fun _ _ _ h => h) (Or.inl ⟨by rfl, ?_⟩) hHeld ?_ ?_
               rotate_left
               ·rintro w' ⟨s0, s1, s2, s3, s4, s5, s6, s7, s8, s9, s10, s11, s12, s13⟩
                go_simp
                with_reducible rfl
               rotate_left
               ·simp only [Act.put, List.setIfInBounds_toArray, List.set_cons_zero, List.set_cons_succ, i64_w, i32_w]
                rfl
               refine take_ (i := 8) (N := some 49) (v := ?_) (a' := ?_) #[true, true, true, true, true, true, true, true, true, true, false, false, false, true, false, true, false, false, false, false, false, false, false, false, false, false] rfl rfl (take_ofW HT_.out HW_.out (by kernel_rfl)) (fun _ _ _ h => h) (Or.inl ⟨by rfl, ?_⟩) hHeld ?_ ?_
               rotate_left
               ·rintro w' ⟨s0, s1, s2, s3, s4, s5, s6, s7, s8, s9, s10, s11, s12, s13⟩
                go_simp
                with_reducible rfl
               rotate_left
               ·simp only [Act.put, List.setIfInBounds_toArray, List.set_cons_zero, List.set_cons_succ, i64_w, i32_w]
                rfl
               refine pure_ (i := 10) (N := some 51) (v := ?_) (a' := ?_) #[true, true, true, true, true, true, true, true, true, true, true, false, false, true, false, true, false, false, false, false, false, false, false, false, false, false] rfl rfl (any_of HT_.out (by kernel_rfl)) (fun _ _ _ h => h) (Or.inl ⟨by rfl, ?_⟩) ?_ ?_
               rotate_left
               ·intro w'
                go_simp
                with_reducible rfl
               rotate_left
               ·simp only [Act.put, List.setIfInBounds_toArray, List.set_cons_zero, List.set_cons_succ, i64_w, i32_w]
                rfl
               refine pure_ (i := 11) (N := some 52) (v := ?_) (a' := ?_) #[true, true, true, true, true, true, true, true, true, true, true, true, false, true, false, true, false, false, false, false, false, false, false, false, false, false] rfl rfl (any_of HT_.out (by kernel_rfl)) (fun _ _ _ h => h) (Or.inl ⟨by rfl, ?_⟩) ?_ ?_
               rotate_left
               ·intro w'
                go_simp
                with_reducible rfl
               rotate_left
               ·simp only [Act.put, List.setIfInBounds_toArray, List.set_cons_zero, List.set_cons_succ, i64_w, i32_w]
                rfl
               refine take_ (i := 12) (N := some 53) (v := ?_) (a' := ?_) #[true, true, true, true, true, true, true, true, true, true, true, true, true, true, false, true, false, false, false, false, false, false, false, false, false, false] rfl rfl (take_ofW HT_.out HW_.out (by kernel_rfl)) (fun _ _ _ h => h) (Or.inl ⟨by rfl, ?_⟩) hHeld ?_ ?_
               rotate_left
               ·rintro w' ⟨s0, s1, s2, s3, s4, s5, s6, s7, s8, s9, s10, s11, s12, s13⟩
                go_simp
                with_reducible rfl
               rotate_left
               ·simp only [Act.put, List.setIfInBounds_toArray, List.set_cons_zero, List.set_cons_succ, i64_w, i32_w]
                rfl
               refine take_ (i := 14) (N := some 55) (v := ?_) (a' := ?_) (tf 16 10) rfl rfl (take_ofW HT_.out HW_.out (by kernel_rfl)) (fun _ _ _ h => h) (Or.inl ⟨by rfl, ?_⟩) hHeld ?_ ?_
               rotate_left
               ·rintro w' ⟨s0, s1, s2, s3, s4, s5, s6, s7, s8, s9, s10, s11, s12, s13⟩
                go_simp
                with_reducible rfl
               rotate_left
               ·simp only [Act.put, List.setIfInBounds_toArray, List.set_cons_zero, List.set_cons_succ, i64_w, i32_w]
                rfl
               refine pure_ (i := 16) (N := some 57) (v := ?_) (a' := ?_) (tf 17 9) rfl rfl (any_of HT_.out (by kernel_rfl)) (fun _ _ _ h => h) (Or.inl ⟨by rfl, ?_⟩) ?_ ?_
               rotate_left
               ·intro w'
                go_simp
                with_reducible rfl
               rotate_left
               ·simp only [Act.put, List.setIfInBounds_toArray, List.set_cons_zero, List.set_cons_succ, i64_w, i32_w]
                rfl
               refine pure_ (i := 17) (N := some 58) (v := ?_) (a' := ?_) (tf 18 8) rfl rfl (any_of HT_.out (by kernel_rfl)) (fun _ _ _ h => h) (Or.inl ⟨by rfl, ?_⟩) ?_ ?_
               rotate_left
               ·intro w'
                go_simp
                with_reducible rfl
               rotate_left
               ·simp only [Act.put, List.setIfInBounds_toArray, List.set_cons_zero, List.set_cons_succ, i64_w, i32_w]
                rfl
               refine take_ (i := 18) (N := some 59) (v := ?_) (a' := ?_) (tf 19 7) rfl rfl (take_ofW HT_.out HW_.out (by kernel_rfl)) (fun _ _ _ h => h) (Or.inl ⟨by rfl, ?_⟩) hHeld ?_ ?_
               rotate_left
               ·rintro w' ⟨s0, s1, s2, s3, s4, s5, s6, s7, s8, s9, s10, s11, s12, s13⟩
                go_simp
                with_reducible rfl
               rotate_left
               ·simp only [Act.put, List.setIfInBounds_toArray, List.set_cons_zero, List.set_cons_succ, i64_w, i32_w]
                rfl
               refine pure_ (i := 19) (N := some 60) (v := ?_) (a' := ?_) (tf 20 6) rfl rfl (any_of HT_.out (by kernel_rfl)) (fun _ _ _ h => h) (Or.inl ⟨by rfl, ?_⟩) ?_ ?_
               rotate_left
               ·intro w'
                go_simp
                with_reducible rfl
               rotate_left
               ·simp only [Act.put, List.setIfInBounds_toArray, List.set_cons_zero, List.set_cons_succ, i64_w, i32_w]
                rfl
               refine pure_ (i := 20) (N := some 61) (v := ?_) (a' := ?_) (tf 21 5) rfl rfl (any_of HT_.out (by kernel_rfl)) (fun _ _ _ h => h) (Or.inl ⟨by rfl, ?_⟩) ?_ ?_
               rotate_left
               ·intro w'
                go_simp
                with_reducible rfl
               rotate_left
               ·simp only [Act.put, List.setIfInBounds_toArray, List.set_cons_zero, List.set_cons_succ, i64_w, i32_w]
                rfl
               refine pure_ (i := 21) (N := some 62) (v := ?_) (a' := ?_) (tf 22 4) rfl rfl (any_of HT_.out (by kernel_rfl)) (fun _ _ _ h => h) (Or.inl ⟨by rfl, ?_⟩) ?_ ?_
               rotate_left
               ·intro w'
                go_simp
                with_reducible rfl
               rotate_left
               ·simp only [Act.put, List.setIfInBounds_toArray, List.set_cons_zero, List.set_cons_succ, i64_w, i32_w]
                rfl
               refine pure_ (i := 22) (N := some 63) (v := ?_) (a' := ?_) (tf 23 3) rfl rfl (any_of HT_.out (by kernel_rfl)) (fun _ _ _ h => h) (Or.inl ⟨by rfl, ?_⟩) ?_ ?_
               rotate_left
               ·intro w'
                go_simp
                with_reducible rfl
               rotate_left
               ·simp only [Act.put, List.setIfInBounds_toArray, List.set_cons_zero, List.set_cons_succ, i64_w, i32_w]
                rfl
               refine last_ (i := 23) (N := some 64) (tf 24 2) rfl rfl (one_of HT_.out (by kernel_rfl)) (by decide) (fun K hK => ?_)
               refine value_ (w1 := ?_) (v := ?_) (by rfl) rfl ?_ ?_
               rotate_left 2
               ·go_simp
                constructor
                ·rfl
                ·rfl
               refine hK.out _ _ ?_
               clear hK K
               refine norm_ (a' := ?_) ?_ ?_
               rotate_left
               ·show Act.put _ (some 64) _ = _
                simp only [Act.put, List.setIfInBounds_toArray, List.set_cons_zero, List.set_cons_succ, i64_w, i32_w]
                rfl
               refine last_ (i := 24) (N := some 65) (tf 25 1) rfl rfl (one_of HT_.out (by kernel_rfl)) (by decide) (fun K hK => ?_)
               refine Kd.N_append_step k60 (w0 := w) w.heap.size (by rfl) (.tmp 41) (.tmp 64) 30 60 (.agg #[(.string ⟨#[]⟩), (.slice none 0 0)]) 40 rfl Tryz.underlying30 info60 rfl (by decide) (by omega) u3 x3_1 (⟨(rd_T60 l0_5 x4_1).f0, y232⟩ : S60) [.string ((rd_T60 l0_5 x4_1).f0), .slice A229_1 y232.length c229_1] (fun k_ => ((P0_2_ k_ ∨ P0_3_ k_ ∨ P0_4_ k_ ∨ P0_5_ k_) ∨ w.heap.size ≤ k_) ∧ k_ ≠ gb209 ∧ k_ ≠ gb210) (fun k_ => ((fun k_ => ((P0_2_ k_ ∨ P0_3_ k_ ∨ P0_4_ k_ ∨ P0_5_ k_) ∨ w.heap.size ≤ k_) ∧ k_ ≠ gb209 ∧ k_ ≠ gb210)) k_ ∧ some k_ ≠ (u3 : Value).ownBlock) rfl rfl ?aP (fun _ hk => hk) ?aF ?aO ?aB ?aS ?aL ?_
               (case aP => exact (k60_mkF _ _ (⟨(rd_T60 l0_5 x4_1).f0, y232⟩ : S60) (Kd.V_reads' (Kd.V_mono (ok' := (fun k_ => ((fun k_ => ((P0_2_ k_ ∨ P0_3_ k_ ∨ P0_4_ k_ ∨ P0_5_ k_) ∨ w.heap.size ≤ k_) ∧ k_ ≠ gb209 ∧ k_ ≠ gb210)) k_ ∧ some k_ ≠ (u3 : Value).ownBlock)) (HO236.out) (fun k_ hk => ⟨⟨hk.1, ⟨hk.2.2.1, hk.2.2.2⟩⟩, hk.2.1⟩))).2.1 (Kd.V_F (Kd.V_mono (ok' := (fun k_ => ((fun k_ => ((P0_2_ k_ ∨ P0_3_ k_ ∨ P0_4_ k_ ∨ P0_5_ k_) ∨ w.heap.size ≤ k_) ∧ k_ ≠ gb209 ∧ k_ ≠ gb210)) k_ ∧ some k_ ≠ (u3 : Value).ownBlock)) (HO236.out) (fun k_ hk => ⟨⟨hk.1, ⟨hk.2.2.1, hk.2.2.2⟩⟩, hk.2.1⟩)))))
               (case aB => exact (zb2 HB GE209 GE210))
               (case aF => exact (fun k_ hk => ⟨(.inr (Nat.le_trans (below_size (zb2 HB GE209 GE210)) hk)), Kd.freshB BK209.out k_ hk, Kd.freshB BK210.out k_ hk⟩))
               (case aO => exact HO_3.out)
               (case aS => exact (below_size (zb2 HB GE209 GE210)))
               (case aL => have := LMc30.out; omega)
               intro v238 w35 ho hb hg hat
               rw [← Ny237.out] at ho
               have n0_ := Aside0.mk (Kd.V_afterv (ok := (fun k_ => ((P0_2_ k_ ∨ P0_3_ k_ ∨ P0_4_ k_ ∨ P0_5_ k_) ∨ w.heap.size ≤ k_) ∧ k_ ≠ gb209 ∧ k_ ≠ gb210)) (by exact Kd.V_mono HO_210002.out (fun _ hk => ⟨⟨hk.1, ⟨hk.2.2.1, hk.2.2.2⟩⟩, hk.2.1⟩)) hg hat)
               have n1_ := Aside0.mk (Kd.V_afterv (ok := (fun k_ => ((P0_2_ k_ ∨ P0_3_ k_ ∨ P0_4_ k_ ∨ P0_5_ k_) ∨ w.heap.size ≤ k_) ∧ k_ ≠ gb209 ∧ k_ ≠ gb210)) (by exact Kd.V_mono HO_210003.out (fun _ hk => ⟨⟨hk.1, ⟨hk.2.2.1, hk.2.2.2⟩⟩, hk.2.1⟩)) hg hat)
               have n2_ := Aside0.mk (Kd.V_afterv (ok := (fun k_ => ((P0_2_ k_ ∨ P0_3_ k_ ∨ P0_4_ k_ ∨ P0_5_ k_) ∨ w.heap.size ≤ k_) ∧ k_ ≠ gb209 ∧ k_ ≠ gb210)) (by exact Kd.V_mono HO_210004.out (fun _ hk => ⟨⟨hk.1, ⟨hk.2.2.1, hk.2.2.2⟩⟩, hk.2.1⟩)) hg hat)
               have n3_ := Aside0.mk (Kd.V_afterv (ok := (fun k_ => ((P0_2_ k_ ∨ P0_3_ k_ ∨ P0_4_ k_ ∨ P0_5_ k_) ∨ w.heap.size ≤ k_) ∧ k_ ≠ gb209 ∧ k_ ≠ gb210)) (by exact Kd.V_mono HO_210005.out (fun _ hk => ⟨⟨hk.1, ⟨hk.2.2.1, hk.2.2.2⟩⟩, hk.2.1⟩)) hg hat)
               have n4_ := Aside0.mk (blk_grown BK209.out hg (Kd.N_ne HO_3.out BK209.out (by decide)))
               have n5_ := Aside0.mk (blk_grown BK210.out hg (Kd.N_ne HO_3.out BK210.out (by decide)))
               have n10_ := Aside0.mk (hb)
               have n11_ := Aside0.mk (ho)
               clear HO_210002
               clear HO_210003
               clear HO_210004
               clear HO_210005
               clear BK209
               clear BK210
               clear HL229_1
               clear HL230_1
               clear HL231_1
               clear HO236
               clear HB
               clear HO_3
               have HO_210002 := n0_
               have HO_210003 := n1_
               have HO_210004 := n2_
               have HO_210005 := n3_
               have BK209 := n4_
               have BK210 := n5_
               have HB := n10_
               have HO239 := n11_
               clear n0_ n1_ n2_ n3_ n4_ n5_ n10_ n11_
               clear ho hb hg hat
               refine hK.out _ _ ?_
               clear hK K
               refine norm_ (a' := ?_) ?_ ?_
               rotate_left
               ·show Act.put _ (some 65) _ = _
                simp only [Act.put, List.setIfInBounds_toArray, List.set_cons_zero, List.set_cons_succ, i64_w, i32_w]
                rfl
               refine pure_ (i := 25) (N := some 3) (v := ?_) (a' := ?_) (tf 26 0) rfl rfl (any_of HT_.out (by kernel_rfl)) (fun _ _ _ h => h) (Or.inl ⟨by rfl, ?_⟩) ?_ ?_
               rotate_left
               ·intro w'
                go_simp
                with_reducible rfl
               rotate_left
               ·simp only [Act.put, List.setIfInBounds_toArray, List.set_cons_zero, List.set_cons_succ, i64_w, i32_w]
                rfl
               refine done_ (done_of HT_.out (by kernel_rfl)) ?_
               try go_wp2
               go_roundg k1
               case measure => have := HK1.out; omega
               case rel => exact ⟨(y237), (wrap64 (x4_1 + 1)), zr, H', ⟨by have := HK1.out; omega⟩, ⟨by exact HO239.out⟩, ⟨by exact Kd.V_mono HO_210002.out (fun _ hk => ⟨hk.1.1, ⟨hk.2, ⟨hk.1.2.1, hk.1.2.2⟩⟩⟩)⟩, ⟨by exact Kd.V_mono HO_210003.out (fun _ hk => ⟨hk.1.1, ⟨hk.2, ⟨hk.1.2.1, hk.1.2.2⟩⟩⟩)⟩, ⟨by exact Kd.V_mono HO_210004.out (fun _ hk => ⟨hk.1.1, ⟨hk.2, ⟨hk.1.2.1, hk.1.2.2⟩⟩⟩)⟩, ⟨by exact Kd.V_mono HO_210005.out (fun _ hk => ⟨hk.1.1, ⟨hk.2, ⟨hk.1.2.1, hk.1.2.2⟩⟩⟩)⟩, ⟨by exact BK209.out⟩, ⟨by exact BK210.out⟩, ⟨zb2 HB GE209 GE210⟩⟩
              ·rw [if_neg c30] at H
               exact absurd H (by simp)
             ·rw [if_neg c29] at H
              exact absurd H (by simp)
            ·rw [if_neg c28] at H
             exact absurd H (by simp)
           ·rw [if_neg c26] at H
            exact absurd H (by simp)
          ·rw [if_neg c25] at H
           have c25b0 : decide (x4_1 < 12) = false := decide_eq_false c25
           clear c25
           simp only [Option.some.injEq, Prod.mk.injEq] at H
           obtain ⟨rfl, rfl, rfl, rfl, rfl, rfl, rfl, rfl⟩ := H
           have hnb36 := NB209_210.out
           have hnc36 := NB210_209.out
           obtain ⟨hcz37_0, hcz37_1, hcz37_2, hcz37_3, hcz37_4, hcz37_5, hcz37_6, hcz37_7, hfz37_0, hfz37_1, hfz37_2, hfz37_3, hfz37_4, hfz37_5, hfz37_6, hfz37_7⟩ := cz8 BK209.out
           obtain ⟨Ao38, co38, eo38⟩ := Kd.N_slice HO_3.out
           subst eo38
           obtain ⟨hcz39_0, hcz39_1, hcz39_2, hcz39_3, hcz39_4, hcz39_5, hcz39_6, hcz39_7, hfz39_0, hfz39_1, hfz39_2, hfz39_3, hfz39_4, hfz39_5, hfz39_6, hfz39_7⟩ := cz8 BK210.out
           go_wp2
           refine bodyPost_ret (results_cell_row rfl _ _ gb210 32 #[.bool a0_0, .bool a0_1, .slice A0_2 y211.length c0_2, .slice A0_3 y216.length c0_3, .slice A0_4 y221.length c0_4, .slice Ao38 x3_1.length co38, .bool a0_6, .bool a0_7] (0, 0) _ rfl (by refine blk_put (cs := #[.bool a0_0, .bool a0_1, .slice A0_2 y211.length c0_2, .slice A0_3 y216.length c0_3, .slice A0_4 y221.length c0_4, .slice Ao38 x3_1.length co38, .bool a0_6, .bool false]) ?_ 7 _ rfl; refine blk_put (cs := #[.bool a0_0, .bool a0_1, .slice A0_2 y211.length c0_2, .slice A0_3 y216.length c0_3, .slice A0_4 y221.length c0_4, .slice Ao38 x3_1.length co38, .bool false, .bool false]) ?_ 6 _ rfl; refine blk_put (cs := #[.bool a0_0, .bool a0_1, .slice A0_2 y211.length c0_2, .slice A0_3 y216.length c0_3, .slice A0_4 y221.length c0_4, .slice none 0 0, .bool false, .bool false]) ?_ 5 _ rfl; refine blk_put (cs := #[.bool a0_0, .bool a0_1, .slice A0_2 y211.length c0_2, .slice A0_3 y216.length c0_3, .slice none 0 0, .slice none 0 0, .bool false, .bool false]) ?_ 4 _ rfl; refine blk_put (cs := #[.bool a0_0, .bool a0_1, .slice A0_2 y211.length c0_2, .slice none 0 0, .slice none 0 0, .slice none 0 0, .bool false, .bool false]) ?_ 3 _ rfl; refine blk_put (cs := #[.bool a0_0, .bool a0_1, .slice none 0 0, .slice none 0 0, .slice none 0 0, .slice none 0 0, .bool false, .bool false]) ?_ 2 _ rfl; refine blk_put (cs := #[.bool a0_0, .bool false, .slice none 0 0, .slice none 0 0, .slice none 0 0, .slice none 0 0, .bool false, .bool false]) ?_ 1 _ rfl; refine blk_put (cs := #[.bool false, .bool false, .slice none 0 0, .slice none 0 0, .slice none 0 0, .slice none 0 0, .bool false, .bool false]) ?_ 0 _ rfl; refine blk_far ?_ NB210_209.out _; exact BK210.out) Tryz.underlying32 rfl (by kernel_rfl)) rfl ?_
           exact ⟨_, _, _, _, by first | rfl | (simp [errW_none, errW_some] <;> rfl) | (simp only [← hji2, ← hji5, ← hji8]; first | rfl | (simp [errW_none, errW_some] <;> rfl)) | (simp [*, errW_none, errW_some] <;> rfl), by exact Kd.V_mono (Vf8 (g := gb210) (Kd.V_far (p := ⟨gb209, 5, none⟩) (Kd.V_mono (Kd.V_mono HO_210002.out (fun k_ hk => (⟨hk, hk.2.2.1⟩ : _ ∧ k_ ≠ gb209))) (fun k_ hk => (⟨hk, hk.1.2.2.2⟩ : _ ∧ k_ ≠ gb210))) (fun _ hk => hk.1.2) (.slice Ao38 x3_1.length co38)) (fun _ hk => hk.2) (.bool a0_0) (.bool a0_1) (.slice A0_2 y211.length c0_2) (.slice A0_3 y216.length c0_3) (.slice A0_4 y221.length c0_4) (.slice Ao38 x3_1.length co38) (.bool a0_6) (.bool a0_7)) (fun _ hk => ⟨hk.1.1.1, hk.1.1.2.1⟩), by exact Kd.V_mono (Vf8 (g := gb210) (Kd.V_far (p := ⟨gb209, 5, none⟩) (Kd.V_mono (Kd.V_mono HO_210003.out (fun k_ hk => (⟨hk, hk.2.2.1⟩ : _ ∧ k_ ≠ gb209))) (fun k_ hk => (⟨hk, hk.1.2.2.2⟩ : _ ∧ k_ ≠ gb210))) (fun _ hk => hk.1.2) (.slice Ao38 x3_1.length co38)) (fun _ hk => hk.2) (.bool a0_0) (.bool a0_1) (.slice A0_2 y211.length c0_2) (.slice A0_3 y216.length c0_3) (.slice A0_4 y221.length c0_4) (.slice Ao38 x3_1.length co38) (.bool a0_6) (.bool a0_7)) (fun _ hk => ⟨hk.1.1.1, hk.1.1.2.1⟩), by exact Kd.V_mono (Vf8 (g := gb210) (Kd.V_far (p := ⟨gb209, 5, none⟩) (Kd.V_mono (Kd.V_mono HO_210004.out (fun k_ hk => (⟨hk, hk.2.2.1⟩ : _ ∧ k_ ≠ gb209))) (fun k_ hk => (⟨hk, hk.1.2.2.2⟩ : _ ∧ k_ ≠ gb210))) (fun _ hk => hk.1.2) (.slice Ao38 x3_1.length co38)) (fun _ hk => hk.2) (.bool a0_0) (.bool a0_1) (.slice A0_2 y211.length c0_2) (.slice A0_3 y216.length c0_3) (.slice A0_4 y221.length c0_4) (.slice Ao38 x3_1.length co38) (.bool a0_6) (.bool a0_7)) (fun _ hk => ⟨hk.1.1.1, hk.1.1.2.1⟩), by exact Kd.N_mono (Nf8 (g := gb210) (Kd.N_far (p := ⟨gb209, 5, none⟩) (Kd.N_mono (Kd.N_mono HO_3.out (fun k_ hk => (⟨hk, hk.2.1⟩ : _ ∧ k_ ≠ gb209))) (fun k_ hk => (⟨hk, hk.1.2.2⟩ : _ ∧ k_ ≠ gb210))) (fun _ hk => hk.1.2) (.slice Ao38 x3_1.length co38)) (fun _ hk => hk.2) (.bool a0_0) (.bool a0_1) (.slice A0_2 y211.length c0_2) (.slice A0_3 y216.length c0_3) (.slice A0_4 y221.length c0_4) (.slice Ao38 x3_1.length co38) (.bool a0_6) (.bool a0_7)) (fun _ hk => hk.1.1.1), zb2 HB GE209 GE210⟩
         ·rw [if_neg c24] at H
          have c24b0 : decide (x4_1 < (l0_5.length : Int)) = false := decide_eq_false c24
          clear c24
          simp only [Option.some.injEq, Prod.mk.injEq] at H
          obtain ⟨rfl, rfl, rfl, rfl, rfl, rfl, rfl, rfl⟩ := H
          have hnb40 := NB209_210.out
          have hnc40 := NB210_209.out
          obtain ⟨hcz41_0, hcz41_1, hcz41_2, hcz41_3, hcz41_4, hcz41_5, hcz41_6, hcz41_7, hfz41_0, hfz41_1, hfz41_2, hfz41_3, hfz41_4, hfz41_5, hfz41_6, hfz41_7⟩ := cz8 BK209.out
          obtain ⟨Ao42, co42, eo42⟩ := Kd.N_slice HO_3.out
          subst eo42
          obtain ⟨hcz43_0, hcz43_1, hcz43_2, hcz43_3, hcz43_4, hcz43_5, hcz43_6, hcz43_7, hfz43_0, hfz43_1, hfz43_2, hfz43_3, hfz43_4, hfz43_5, hfz43_6, hfz43_7⟩ := cz8 BK210.out
          go_wp2
          refine bodyPost_ret (results_cell_row rfl _ _ gb210 32 #[.bool a0_0, .bool a0_1, .slice A0_2 y211.length c0_2, .slice A0_3 y216.length c0_3, .slice A0_4 y221.length c0_4, .slice Ao42 x3_1.length co42, .bool a0_6, .bool a0_7] (0, 0) _ rfl (by refine blk_put (cs := #[.bool a0_0, .bool a0_1, .slice A0_2 y211.length c0_2, .slice A0_3 y216.length c0_3, .slice A0_4 y221.length c0_4, .slice Ao42 x3_1.length co42, .bool a0_6, .bool false]) ?_ 7 _ rfl; refine blk_put (cs := #[.bool a0_0, .bool a0_1, .slice A0_2 y211.length c0_2, .slice A0_3 y216.length c0_3, .slice A0_4 y221.length c0_4, .slice Ao42 x3_1.length co42, .bool false, .bool false]) ?_ 6 _ rfl; refine blk_put (cs := #[.bool a0_0, .bool a0_1, .slice A0_2 y211.length c0_2, .slice A0_3 y216.length c0_3, .slice A0_4 y221.length c0_4, .slice none 0 0, .bool false, .bool false]) ?_ 5 _ rfl; refine blk_put (cs := #[.bool a0_0, .bool a0_1, .slice A0_2 y211.length c0_2, .slice A0_3 y216.length c0_3, .slice none 0 0, .slice none 0 0, .bool false, .bool false]) ?_ 4 _ rfl; refine blk_put (cs := #[.bool a0_0, .bool a0_1, .slice A0_2 y211.length c0_2, .slice none 0 0, .slice none 0 0, .slice none 0 0, .bool false, .bool false]) ?_ 3 _ rfl; refine blk_put (cs := #[.bool a0_0, .bool a0_1, .slice none 0 0, .slice none 0 0, .slice none 0 0, .slice none 0 0, .bool false, .bool false]) ?_ 2 _ rfl; refine blk_put (cs := #[.bool a0_0, .bool false, .slice none 0 0, .slice none 0 0, .slice none 0 0, .slice none 0 0, .bool false, .bool false]) ?_ 1 _ rfl; refine blk_put (cs := #[.bool false, .bool false, .slice none 0 0, .slice none 0 0, .slice none 0 0, .slice none 0 0, .bool false, .bool false]) ?_ 0 _ rfl; refine blk_far ?_ NB210_209.out _; exact BK210.out) Tryz.underlying32 rfl (by kernel_rfl)) rfl ?_
          exact ⟨_, _, _, _, by first | rfl | (simp [errW_none, errW_some] <;> rfl) | (simp only [← hji2, ← hji5, ← hji8]; first | rfl | (simp [errW_none, errW_some] <;> rfl)) | (simp [*, errW_none, errW_some] <;> rfl), by exact Kd.V_mono (Vf8 (g := gb210) (Kd.V_far (p := ⟨gb209, 5, none⟩) (Kd.V_mono (Kd.V_mono HO_210002.out (fun k_ hk => (⟨hk, hk.2.2.1⟩ : _ ∧ k_ ≠ gb209))) (fun k_ hk => (⟨hk, hk.1.2.2.2⟩ : _ ∧ k_ ≠ gb210))) (fun _ hk => hk.1.2) (.slice Ao42 x3_1.length co42)) (fun _ hk => hk.2) (.bool a0_0) (.bool a0_1) (.slice A0_2 y211.length c0_2) (.slice A0_3 y216.length c0_3) (.slice A0_4 y221.length c0_4) (.slice Ao42 x3_1.length co42) (.bool a0_6) (.bool a0_7)) (fun _ hk => ⟨hk.1.1.1, hk.1.1.2.1⟩), by exact Kd.V_mono (Vf8 (g := gb210) (Kd.V_far (p := ⟨gb209, 5, none⟩) (Kd.V_mono (Kd.V_mono HO_210003.out (fun k_ hk => (⟨hk, hk.2.2.1⟩ : _ ∧ k_ ≠ gb209))) (fun k_ hk => (⟨hk, hk.1.2.2.2⟩ : _ ∧ k_ ≠ gb210))) (fun _ hk => hk.1.2) (.slice Ao42 x3_1.length co42)) (fun _ hk => hk.2) (.bool a0_0) (.bool a0_1) (.slice A0_2 y211.length c0_2) (.slice A0_3 y216.length c0_3) (.slice A0_4 y221.length c0_4) (.slice Ao42 x3_1.length co42) (.bool a0_6) (.bool a0_7)) (fun _ hk => ⟨hk.1.1.1, hk.1.1.2.1⟩), by exact Kd.V_mono (Vf8 (g := gb210) (Kd.V_far (p := ⟨gb209, 5, none⟩) (Kd.V_mono (Kd.V_mono HO_210004.out (fun k_ hk => (⟨hk, hk.2.2.1⟩ : _ ∧ k_ ≠ gb209))) (fun k_ hk => (⟨hk, hk.1.2.2.2⟩ : _ ∧ k_ ≠ gb210))) (fun _ hk => hk.1.2) (.slice Ao42 x3_1.length co42)) (fun _ hk => hk.2) (.bool a0_0) (.bool a0_1) (.slice A0_2 y211.length c0_2) (.slice A0_3 y216.length c0_3) (.slice A0_4 y221.length c0_4) (.slice Ao42 x3_1.length co42) (.bool a0_6) (.bool a0_7)) (fun _ hk => ⟨hk.1.1.1, hk.1.1.2.1⟩), by exact Kd.N_mono (Nf8 (g := gb210) (Kd.N_far (p := ⟨gb209, 5, none⟩) (Kd.N_mono (Kd.N_mono HO_3.out (fun k_ hk => (⟨hk, hk.2.1⟩ : _ ∧ k_ ≠ gb209))) (fun k_ hk => (⟨hk, hk.1.2.2⟩ : _ ∧ k_ ≠ gb210))) (fun _ hk => hk.1.2) (.slice Ao42 x3_1.length co42)) (fun _ hk => hk.2) (.bool a0_0) (.bool a0_1) (.slice A0_2 y211.length c0_2) (.slice A0_3 y216.length c0_3) (.slice A0_4 y221.length c0_4) (.slice Ao42 x3_1.length co42) (.bool a0_6) (.bool a0_7)) (fun _ hk => hk.1.1.1), zb2 HB GE209 GE210⟩
      ·rw [if_neg c10] at H
       exact absurd H (by simp)
     ·rw [if_neg c9] at H
      exact absurd H (by simp)
    ·rw [if_neg c7] at H
     exact absurd H (by simp)
   ·rw [if_neg c6] at H
    exact absurd H (by simp)
  ·rw [if_neg c4] at H
   exact absurd H (by simp)
 ·rw [if_neg c3] at H
  exact absurd H (by simp)

end Go.Proofs.YticacakoefojbaaGreat.Pr
namespace Go.Proofs.YticacakoefojbaaGreat.Pure
set_option linter.unusedVariables false
set_option linter.unusedSimpArgs false
open Go.RowKit Go.Lib Go.Shelf Go.Proofs.YticacakoefojbaaGreatW.PrintWords Go.Proofs.YticacakoefojbaaGreatW.PrintLast Go.Proofs.YticacakoefojbaaGreatW.PrintMore Go.Proofs.YticacakoefojbaaGreat.Pr

def cutP (p : S60) : S60 := ⟨p.f0, p.f1.take 70⟩
def bound (c : Cf) : Cf := { c with els := c.els.take 70, rep := c.rep.take 70, ats := c.ats.take 70, per := (c.per.take 12).map cutP }
theorem mn70 (n : Nat) : 0 ≤ mn (n : Int) 70 ∧ mn (n : Int) 70 ≤ (n : Int) ∧ (mn (n : Int) 70).toNat = min n 70 := by
  unfold mn; split <;> omega
theorem take_min {α : Type} (l : List α) (n : Nat) : l.take (min l.length n) = l.take n := by
  rcases Nat.le_total l.length n with h | h
  · rw [Nat.min_eq_left h, List.take_length, List.take_of_length_le h]
  · rw [Nat.min_eq_right h]
theorem take70 {α : Type} (l : List α) : l.take (mn (l.length : Int) 70).toNat = l.take 70 := by rw [(mn70 _).2.2, take_min]
theorem bound_l0 (c : Cf) (a2 a3 a4 : List ByteArray) : ∀ (d i : Nat) (acc : List S60), i + d = min c.per.length 12 → acc.length = i → ∀ k, d < k →
    boltinglaw12_Bound.l0 k acc (i : Int) c.al c.aal a2 a3 a4 c.per c.com c.dt = some (c.al, c.aal, a2, a3, a4, acc ++ ((c.per.drop i).take d).map cutP, c.com, c.dt)
  | 0, i, acc, h, ha, k, hk => by
    obtain ⟨k, rfl⟩ : ∃ m, k = m + 1 := ⟨k - 1, by omega⟩
    unfold boltinglaw12_Bound.l0
    simp only [List.take_zero, List.map_nil, List.append_nil]
    by_cases h1 : (i : Int) < (c.per.length : Int)
    · rw [if_pos h1, if_neg (by omega)]
    · rw [if_neg h1]
  | d + 1, i, acc, h, ha, k, hk => by
    obtain ⟨k, rfl⟩ : ∃ m, k = m + 1 := ⟨k - 1, by omega⟩
    have hi : i < c.per.length := by omega
    have hx : c.per[i]? = some c.per[i] := List.getElem?_eq_getElem hi
    have hr := rd35_at hx
    unfold boltinglaw12_Bound.l0
    rw [hr, if_pos (by omega), if_pos (by omega), if_pos (by omega), if_pos (mn70 _).1, if_pos (mn70 _).2.1, if_pos (by omega), take70, wrap_succ (by omega) (by omega)]
    rw [show ((i : Int) + 1) = ((i + 1 : Nat) : Int) from by omega, bound_l0 c a2 a3 a4 d (i + 1) _ (by omega) (by simp [ha]) k (by omega)]
    have hd : c.per.drop i = c.per[i] :: c.per.drop (i + 1) := List.drop_eq_getElem_cons hi
    rw [hd, List.take_succ_cons, List.map_cons, List.append_assoc]
    rfl
theorem bound_f (c : Cf) {k : Nat} (hk : 13 < k) : boltinglaw12_Bound.f k c.al c.aal c.els c.rep c.ats c.per c.com c.dt = some (c.al, c.aal, (bound c).els, (bound c).rep, (bound c).ats, (bound c).per, c.com, c.dt) := by
  unfold boltinglaw12_Bound.f
  rw [if_pos (mn70 _).1, if_pos (mn70 _).2.1, if_pos (mn70 _).1, if_pos (mn70 _).2.1, if_pos (mn70 _).1, if_pos (mn70 _).2.1, take70, take70, take70]
  have := bound_l0 c (c.els.take 70) (c.rep.take 70) (c.ats.take 70) (min c.per.length 12) 0 [] (by omega) rfl k (by omega)
  rw [List.drop_zero, take_min, List.nil_append] at this
  exact this
theorem bound_short (c : Cf) : (bound c).els.length ≤ 70 ∧ (bound c).rep.length ≤ 70 ∧ (bound c).ats.length ≤ 70 ∧ (bound c).per.length ≤ 12 ∧ ∀ p ∈ (bound c).per, p.f1.length ≤ 70 := by
  refine ⟨List.length_take_le _ _, List.length_take_le _ _, List.length_take_le _ _, ?_, ?_⟩
  · show ((c.per.take 12).map cutP).length ≤ 12
    rw [List.length_map]; exact List.length_take_le _ _
  · intro p hp
    obtain ⟨q, _, rfl⟩ := List.mem_map.1 (show p ∈ (c.per.take 12).map cutP from hp)
    exact List.length_take_le _ _
theorem bound_fit (c : Cf) : Fit (bound c) := by
  obtain ⟨h1, h2, h3, h4, h5⟩ := bound_short c
  exact ⟨by omega, by omega, by omega, by omega, fun p hp => by have := h5 p hp; omega⟩
end Go.Proofs.YticacakoefojbaaGreat.Pure
namespace Go.Proofs.YticacakoefojbaaGreat
set_option linter.unusedVariables false
set_option maxRecDepth 100000
set_option linter.unusedSimpArgs false
open Go.ChangeShapes Go.WideShapes Go.RowKit Go.Proofs.YticacakoefojbaaGreat.Pr Go.Proofs.YticacakoefojbaaGreat.Pure Go.Proofs.YticacakoefojbaaGreatW.PrintWords
abbrev Short (s : ByteArray) : Prop := s.size ≤ 140737488351232
structure Sized (c : Cf) : Prop where
  els : ∀ x ∈ c.els, Short x
  rep : ∀ x ∈ c.rep, Short x
  ats : ∀ x ∈ c.ats, Short x
  per : ∀ p ∈ c.per, Short p.f0 ∧ ∀ x ∈ p.f1, Short x
abbrev kStr : Kd (List ByteArray) := Kd.slice 9 Kd.string
abbrev kC : Kd (Bool × Bool × List ByteArray × List ByteArray × List ByteArray × List S60 × Bool × Bool) :=
  Kd.pair Kd.bool (Kd.pair Kd.bool (Kd.pair kStr (Kd.pair kStr (Kd.pair kStr (Kd.pair (Kd.slice 60 k60) (Kd.pair Kd.bool Kd.bool))))))
theorem opens_strs : OpensS Tryz.prog 29 kStr (fun l => ∀ x ∈ l, Short x) := opensS_slice (by kernel_rfl) Tryz.underlying29 (opensS_string (by kernel_rfl) Tryz.underlying9)
theorem opens_bool_ : OpensS Tryz.prog 4 Kd.bool (fun _ => True) := opensS_bool (by kernel_rfl) Tryz.underlying4
theorem opens_str_ : OpensS Tryz.prog 9 Kd.string Short := opensS_string (by kernel_rfl) Tryz.underlying9
theorem opens_per : OpensS Tryz.prog 60 k60 (fun x => Short x.f0 ∧ ∀ y ∈ x.f1, Short y) := by
  have h := opensS_struct (P := Tryz.prog) (d := Kd.pair Kd.string kStr) (S := fun x => Short x.1 ∧ ∀ y ∈ x.2, Short y) (fun x : S60 => (x.f0, x.f1)) Tryz.underlying60 rfl (by kernel_rfl)
    (opensTail_cons (S := Short) (T := fun l => ∀ y ∈ l, Short y) rfl opens_str_ (opensTail_last (d := kStr) rfl opens_strs)) (fun a => ⟨⟨a.1, a.2⟩, rfl⟩)
  exact h
theorem opens_pers : OpensS Tryz.prog 30 (Kd.slice 60 k60) (fun l => ∀ p ∈ l, Short p.f0 ∧ ∀ y ∈ p.f1, Short y) := opensS_slice (by kernel_rfl) Tryz.underlying30 opens_per
theorem opens_conf : OpensS Tryz.prog 32 (Kd.iso kC (fun x => x)) (fun x => True ∧ True ∧ (∀ y ∈ x.2.2.1, Short y) ∧ (∀ y ∈ x.2.2.2.1, Short y) ∧ (∀ y ∈ x.2.2.2.2.1, Short y) ∧ (∀ p ∈ x.2.2.2.2.2.1, Short p.f0 ∧ ∀ y ∈ p.f1, Short y) ∧ True ∧ True) := by
  have h7 : OpensTail Tryz.prog [⟨"DataAttrs", 4, 7, false, "", "", 105⟩] 7 Kd.bool (fun _ => True) := opensTail_last rfl opens_bool_
  have h6 : OpensTail Tryz.prog [⟨"Comments", 4, 6, false, "", "", 104⟩, ⟨"DataAttrs", 4, 7, false, "", "", 105⟩] 6 (Kd.pair Kd.bool Kd.bool) (fun (x : Bool × Bool) => (True) ∧ (True)) := opensTail_cons (S := fun (x : Bool) => True) (T := fun (x : Bool) => (True)) rfl opens_bool_ h7
  have h5 : OpensTail Tryz.prog [⟨"Per", 30, 5, false, "", "", 80⟩, ⟨"Comments", 4, 6, false, "", "", 104⟩, ⟨"DataAttrs", 4, 7, false, "", "", 105⟩] 5 (Kd.pair (Kd.slice 60 k60) (Kd.pair Kd.bool Kd.bool)) (fun (x : List S60 × Bool × Bool) => (∀ p ∈ x.1, Short p.f0 ∧ ∀ y ∈ p.f1, Short y) ∧ (True) ∧ (True)) := opensTail_cons (S := fun (x : List S60) => ∀ p ∈ x, Short p.f0 ∧ ∀ y ∈ p.f1, Short y) (T := fun (x : Bool × Bool) => (True) ∧ (True)) rfl opens_pers h6
  have h4 : OpensTail Tryz.prog [⟨"Attrs", 29, 4, false, "", "", 56⟩, ⟨"Per", 30, 5, false, "", "", 80⟩, ⟨"Comments", 4, 6, false, "", "", 104⟩, ⟨"DataAttrs", 4, 7, false, "", "", 105⟩] 4 (Kd.pair kStr (Kd.pair (Kd.slice 60 k60) (Kd.pair Kd.bool Kd.bool))) (fun (x : List ByteArray × List S60 × Bool × Bool) => (∀ y ∈ x.1, Short y) ∧ (∀ p ∈ x.2.1, Short p.f0 ∧ ∀ y ∈ p.f1, Short y) ∧ (True) ∧ (True)) := opensTail_cons (S := fun (x : List ByteArray) => ∀ y ∈ x, Short y) (T := fun (x : List S60 × Bool × Bool) => (∀ p ∈ x.1, Short p.f0 ∧ ∀ y ∈ p.f1, Short y) ∧ (True) ∧ (True)) rfl opens_strs h5
  have h3 : OpensTail Tryz.prog [⟨"Replace", 29, 3, false, "", "", 32⟩, ⟨"Attrs", 29, 4, false, "", "", 56⟩, ⟨"Per", 30, 5, false, "", "", 80⟩, ⟨"Comments", 4, 6, false, "", "", 104⟩, ⟨"DataAttrs", 4, 7, false, "", "", 105⟩] 3 (Kd.pair kStr (Kd.pair kStr (Kd.pair (Kd.slice 60 k60) (Kd.pair Kd.bool Kd.bool)))) (fun (x : List ByteArray × List ByteArray × List S60 × Bool × Bool) => (∀ y ∈ x.1, Short y) ∧ (∀ y ∈ x.2.1, Short y) ∧ (∀ p ∈ x.2.2.1, Short p.f0 ∧ ∀ y ∈ p.f1, Short y) ∧ (True) ∧ (True)) := opensTail_cons (S := fun (x : List ByteArray) => ∀ y ∈ x, Short y) (T := fun (x : List ByteArray × List S60 × Bool × Bool) => (∀ y ∈ x.1, Short y) ∧ (∀ p ∈ x.2.1, Short p.f0 ∧ ∀ y ∈ p.f1, Short y) ∧ (True) ∧ (True)) rfl opens_strs h4
  have h2 : OpensTail Tryz.prog [⟨"Elements", 29, 2, false, "", "", 8⟩, ⟨"Replace", 29, 3, false, "", "", 32⟩, ⟨"Attrs", 29, 4, false, "", "", 56⟩, ⟨"Per", 30, 5, false, "", "", 80⟩, ⟨"Comments", 4, 6, false, "", "", 104⟩, ⟨"DataAttrs", 4, 7, false, "", "", 105⟩] 2 (Kd.pair kStr (Kd.pair kStr (Kd.pair kStr (Kd.pair (Kd.slice 60 k60) (Kd.pair Kd.bool Kd.bool))))) (fun (x : List ByteArray × List ByteArray × List ByteArray × List S60 × Bool × Bool) => (∀ y ∈ x.1, Short y) ∧ (∀ y ∈ x.2.1, Short y) ∧ (∀ y ∈ x.2.2.1, Short y) ∧ (∀ p ∈ x.2.2.2.1, Short p.f0 ∧ ∀ y ∈ p.f1, Short y) ∧ (True) ∧ (True)) := opensTail_cons (S := fun (x : List ByteArray) => ∀ y ∈ x, Short y) (T := fun (x : List ByteArray × List ByteArray × List S60 × Bool × Bool) => (∀ y ∈ x.1, Short y) ∧ (∀ y ∈ x.2.1, Short y) ∧ (∀ p ∈ x.2.2.1, Short p.f0 ∧ ∀ y ∈ p.f1, Short y) ∧ (True) ∧ (True)) rfl opens_strs h3
  have h1 : OpensTail Tryz.prog [⟨"AttrsAllow", 4, 1, false, "", "", 1⟩, ⟨"Elements", 29, 2, false, "", "", 8⟩, ⟨"Replace", 29, 3, false, "", "", 32⟩, ⟨"Attrs", 29, 4, false, "", "", 56⟩, ⟨"Per", 30, 5, false, "", "", 80⟩, ⟨"Comments", 4, 6, false, "", "", 104⟩, ⟨"DataAttrs", 4, 7, false, "", "", 105⟩] 1 (Kd.pair Kd.bool (Kd.pair kStr (Kd.pair kStr (Kd.pair kStr (Kd.pair (Kd.slice 60 k60) (Kd.pair Kd.bool Kd.bool)))))) (fun (x : Bool × List ByteArray × List ByteArray × List ByteArray × List S60 × Bool × Bool) => (True) ∧ (∀ y ∈ x.2.1, Short y) ∧ (∀ y ∈ x.2.2.1, Short y) ∧ (∀ y ∈ x.2.2.2.1, Short y) ∧ (∀ p ∈ x.2.2.2.2.1, Short p.f0 ∧ ∀ y ∈ p.f1, Short y) ∧ (True) ∧ (True)) := opensTail_cons (S := fun (x : Bool) => True) (T := fun (x : List ByteArray × List ByteArray × List ByteArray × List S60 × Bool × Bool) => (∀ y ∈ x.1, Short y) ∧ (∀ y ∈ x.2.1, Short y) ∧ (∀ y ∈ x.2.2.1, Short y) ∧ (∀ p ∈ x.2.2.2.1, Short p.f0 ∧ ∀ y ∈ p.f1, Short y) ∧ (True) ∧ (True)) rfl opens_bool_ h2
  have h0 : OpensTail Tryz.prog [⟨"Allow", 4, 0, false, "", "", 0⟩, ⟨"AttrsAllow", 4, 1, false, "", "", 1⟩, ⟨"Elements", 29, 2, false, "", "", 8⟩, ⟨"Replace", 29, 3, false, "", "", 32⟩, ⟨"Attrs", 29, 4, false, "", "", 56⟩, ⟨"Per", 30, 5, false, "", "", 80⟩, ⟨"Comments", 4, 6, false, "", "", 104⟩, ⟨"DataAttrs", 4, 7, false, "", "", 105⟩] 0 (Kd.pair Kd.bool (Kd.pair Kd.bool (Kd.pair kStr (Kd.pair kStr (Kd.pair kStr (Kd.pair (Kd.slice 60 k60) (Kd.pair Kd.bool Kd.bool))))))) (fun (x : Bool × Bool × List ByteArray × List ByteArray × List ByteArray × List S60 × Bool × Bool) => (True) ∧ (True) ∧ (∀ y ∈ x.2.2.1, Short y) ∧ (∀ y ∈ x.2.2.2.1, Short y) ∧ (∀ y ∈ x.2.2.2.2.1, Short y) ∧ (∀ p ∈ x.2.2.2.2.2.1, Short p.f0 ∧ ∀ y ∈ p.f1, Short y) ∧ (True) ∧ (True)) := opensTail_cons (S := fun (x : Bool) => True) (T := fun (x : Bool × List ByteArray × List ByteArray × List ByteArray × List S60 × Bool × Bool) => (True) ∧ (∀ y ∈ x.2.1, Short y) ∧ (∀ y ∈ x.2.2.1, Short y) ∧ (∀ y ∈ x.2.2.2.1, Short y) ∧ (∀ p ∈ x.2.2.2.2.1, Short p.f0 ∧ ∀ y ∈ p.f1, Short y) ∧ (True) ∧ (True)) rfl opens_bool_ h1
  exact opensS_struct (d := kC) (fun x => x) Tryz.underlying32 rfl (by kernel_rfl) h0 (fun a => ⟨a, rfl⟩)
theorem open_conf {H : Type} {enc : TypeId × Value → H} {w : World} {base : Nat} {spare : Nat → Bool} {held : Bool} {v : Value} {d : DataW H} {p : List MemPlace} {r : Reach} {b0 : Nat}
    (hv : Value.okWide Tryz.prog w r b0 32 v) (h : DataW.Trod enc Tryz.prog w base spare held 32 v d p) (hw : ∀ n ∈ d.weights Tryz.prog 32, n ≤ reachBytes) :
    ∃ (c : Cf) (A2 : Option Addr) (c2 : Nat) (A3 : Option Addr) (c3 : Nat) (A4 : Option Addr) (c4 : Nat) (A5 : Option Addr) (c5 : Nat), v = .agg #[.bool c.al, .bool c.aal, .slice A2 c.els.length c2, .slice A3 c.rep.length c3, .slice A4 c.ats.length c4, .slice A5 c.per.length c5, .bool c.com, .bool c.dt] ∧
      (c.els.length ≤ c2 ∧ Kd.string.C w A2 c.els.length c.els) ∧ (c.rep.length ≤ c3 ∧ Kd.string.C w A3 c.rep.length c.rep) ∧ (c.ats.length ≤ c4 ∧ Kd.string.C w A4 c.ats.length c.ats) ∧ (c.per.length ≤ c5 ∧ k60.C w A5 c.per.length c.per) ∧ Sized c := by
  obtain ⟨cs, rfl, hsz⟩ := okWide_struct Tryz.underlying32 hv
  obtain ⟨fuel, hf⟩ := h
  obtain ⟨⟨a0, a1, l2, l3, l4, l5, a6, a7⟩, hK, hS⟩ := opens_conf.2 enc w base spare held fuel _ _ hf hw
  obtain ⟨_, _, hcs, rfl, ⟨_, _, rfl, rfl, ⟨_, _, rfl, ⟨A2, c2, rfl, k2, g2⟩, ⟨_, _, rfl, ⟨A3, c3, rfl, k3, g3⟩, ⟨_, _, rfl, ⟨A4, c4, rfl, k4, g4⟩, ⟨_, _, rfl, ⟨A5, c5, rfl, k5, g5⟩, ⟨_, _, rfl, rfl, rfl⟩⟩⟩⟩⟩⟩⟩ := hK
  obtain ⟨_, _, s2, s3, s4, s5, _, _⟩ := hS
  refine ⟨⟨a0, a1, l2, l3, l4, l5, a6, a7⟩, A2, c2, A3, c3, A4, c4, A5, c5, ?_, ⟨k2, g2⟩, ⟨k3, g3⟩, ⟨k4, g4⟩, ⟨k5, g5⟩, ⟨s2, s3, s4, s5⟩⟩
  obtain ⟨l⟩ := cs
  simp only [Value.cells] at hcs
  rw [show l = _ from hcs]
  rfl
end Go.Proofs.YticacakoefojbaaGreat
namespace Go.Proofs.YticacakoefojbaaGreat
set_option linter.unusedVariables false
set_option linter.unusedSimpArgs false
open Go.RowKit Go.Lib Go.Shelf Go.Proofs.YticacakoefojbaaGreatW.PrintWords Go.Proofs.YticacakoefojbaaGreatW.PrintLast Go.Proofs.YticacakoefojbaaGreatW.PrintMore Go.Proofs.YticacakoefojbaaGreat.Pr

set_option maxHeartbeats 2000000 in
theorem idxTree_calls {A : Option Addr} {c : Nat} {l : List S38} (p : S38 → Bool) (g : Nat) (lb : Array Value) (eg : ∀ args w, (callFunc g args).run Tryz.prog w = .ok (.enter g args) w) (w : World)
    (hC : k38.C w A l.length l) (hp : Asks k38 (fun cs => .agg cs.toArray) g lb p w l) :
    Calls Tryz.prog 119 #[.slice A l.length c, .func (.func g) #[] lb] w fun e w' => e = .returned (.int .i64 (idxI p l)) ∧ Below w.heap.size w w' := by
  obtain ⟨n, hn⟩ : ∃ n, l.length = n := ⟨_, rfl⟩
  have hbig : n ≤ 9223372036854775807 := by have := hC.2.1; omega
  rcases Nat.eq_zero_or_pos l.length with h0 | h0
  · obtain rfl := List.eq_nil_of_length_eq_zero h0
    clear hC hp
    subst hn
    show Calls Tryz.prog _ #[.slice A 0 c, _] w _
    go_enter Tryz.func119, Tryz.ntmps119
    go_wp2
    go_loopg [5, 8] 0 (fun gg _ s8 wr => s8 = .int .i64 0 ∧ wr = w)
    case atStart => exact ⟨rfl, rfl⟩
    case round =>
      obtain ⟨rfl, rfl⟩ := hrel
      go_wp2
      go_ret
      exact ⟨by rw [idxI_miss _ _ (fun j y h => by simp at h)]; rfl, Below.refl _ _⟩
  obtain ⟨b, off, rfl, hb, hrow0⟩ := C_block (d := k38) (by decide) hC h0
  have hrow : ∀ (W : World), Below w.heap.size w W → ∀ j x, l[j]? = some x → ∃ v4, k38.K w x [.int .i64 x.f0, .int .i64 x.f1, .string x.f2, .string x.f3, v4] ∧ W.cell? ⟨b, off + j * 5, none⟩ = some (.int .i64 x.f0) ∧ W.cell? ⟨b, off + j * 5 + 1, none⟩ = some (.int .i64 x.f1) ∧ W.cell? ⟨b, off + j * 5 + 2, none⟩ = some (.string x.f2) ∧ W.cell? ⟨b, off + j * 5 + 3, none⟩ = some (.string x.f3) ∧ W.cell? ⟨b, off + j * 5 + 4, none⟩ = some v4 := fun W hW j x hj => by
    obtain ⟨cs, hl, hK, hc⟩ := hrow0 j x hj
    obtain ⟨A4, c4, rfl, _, _⟩ := k38_open hK
    have hq : ∀ q u, [Value.int .i64 x.f0, .int .i64 x.f1, .string x.f2, .string x.f3, .slice A4 x.f4.length c4][q]? = some u → W.cell? ⟨b, off + (j * 5 + q), none⟩ = some u := fun q u hu => by
      rw [hW.cell (p := ⟨b, off + (j * 5 + q), none⟩) hb]
      exact hc q u hu
    exact ⟨_, hK, hq 0 _ rfl, by have := hq 1 _ rfl; rwa [← Nat.add_assoc] at this, by have := hq 2 _ rfl; rwa [← Nat.add_assoc] at this, by have := hq 3 _ rfl; rwa [← Nat.add_assoc] at this, by have := hq 4 _ rfl; rwa [← Nat.add_assoc] at this⟩
  clear hrow0 hC
  have HL := hid hn
  have HX : Hid (∀ j, j < n → ∃ x, l[j]? = some x) := fun j h => ⟨_, List.getElem?_eq_getElem (l := l) (i := j) (by omega)⟩
  rw [hn]
  clear hn h0
  go_enter Tryz.func119, Tryz.ntmps119
  go_wp2
  go_loopg [5, 8] n (fun gg _ s8 wr => ∃ kk : Nat, kk ≤ n ∧ n - kk ≤ gg ∧ s8 = .int .i64 kk ∧ Aside (Below w.heap.size w wr) ∧ Aside (∀ j y, j < kk → l[j]? = some y → p y = false))
  case atStart => exact ⟨0, Nat.zero_le _, by omega, rfl, Below.refl _ w, fun j y hj => absurd hj (Nat.not_lt_zero _)⟩
  case round =>
    obtain ⟨kk, hkk, hg, rfl, BW, HA⟩ := hrel
    by_cases hlt : kk < n
    · have hltz : (kk : Int) < (n : Int) := by omega
      obtain ⟨y, hy⟩ := HX.out kk hlt
      have HK := hid hy
      obtain ⟨v4, hK, l2, l3, l4, l5, l6⟩ := hrow wr BW.out kk _ HK.out
      have hcall := hp wr _ [.int .i64 y.f0, .int .i64 y.f1, .string y.f2, .string y.f3, v4] (List.mem_of_getElem? HK.out) BW.out hK
      clear hrow hp hK hy
      cases hq : p y with
      | true =>
        rw [hq] at hcall
        have HQ := hid hq
        clear hq
        go_wp2_with (go_at_fn g; refine hcall.mono ?_; rintro e w' ⟨rfl, hb'⟩)
        go_ret
        exact ⟨by rw [idxI_hit p l kk y HK.out HQ.out HA.out]; rfl, hb'⟩
      | false =>
        rw [hq] at hcall
        have HQ := hid hq
        clear hq
        go_wp2_with (go_at_fn g; refine hcall.mono ?_; rintro e w' ⟨rfl, hb'⟩)
        go_roundg (n - (kk + 1))
        case measure => omega
        case rel =>
          refine ⟨kk + 1, by omega, by omega, by go_num, hb', (show Aside _ from fun j z hj hz => ?_)⟩
          by_cases e : j = kk
          · subst e
            have := hz.symm.trans HK.out
            injection this with this
            subst this
            exact HQ.out
          · exact HA.out j z (by omega) hz
    · have hltz : ¬ (kk : Int) < (n : Int) := by omega
      have : kk = n := by omega
      subst this
      go_wp2
      go_ret
      refine ⟨?_, BW.out⟩
      rw [idxI_miss p l (fun j y hj => HA.out j y (by have := (List.getElem?_eq_some_iff.1 hj).1; have := HL.out; omega) hj)]
      rfl
set_option maxHeartbeats 2000000 in
theorem hasTree_calls {A : Option Addr} {c : Nat} {l : List S38} (p : S38 → Bool) (g : Nat) (lb : Array Value) (eg : ∀ args w, (callFunc g args).run Tryz.prog w = .ok (.enter g args) w) (w : World)
    (hC : k38.C w A l.length l) (hp : Asks k38 (fun cs => .agg cs.toArray) g lb p w l) :
    Calls Tryz.prog 94 #[.slice A l.length c, .func (.func g) #[] lb] w fun e w' => e = .returned (.bool (l.any p)) ∧ Below w.heap.size w w' := by
  have key := hid (idxTree_calls (c := c) p g lb eg w hC hp)
  have HN := hid (idxI_nonneg p l)
  obtain ⟨r, hr⟩ : ∃ r, idxI p l = r := ⟨_, rfl⟩
  obtain ⟨q, hq⟩ : ∃ q, l.any p = q := ⟨_, rfl⟩
  rw [hr] at key HN
  rw [hq] at HN ⊢
  clear hr hq hC hp
  go_enter Tryz.func94, Tryz.ntmps94
  go_wp2_with (go_at_call 119; refine key.out.mono ?_; rintro e w' ⟨rfl, hb'⟩)
  go_ret
  exact ⟨by have := HN.out; rw [← this]; rfl, hb'⟩
def deepB (x : S38) : Bool := decide (60 ≤ x.f0)
set_option maxHeartbeats 2000000 in
theorem big1_calls (x : S38) {cs : List Value} {W : World} (hK : k38.K W x cs) :
    Calls Tryz.prog 95 (#[.agg cs.toArray] ++ #[]) W fun r w' => r = .returned (.bool (deepB x)) ∧ Below W.heap.size W w' := by
  obtain ⟨A4, c4, rfl, hl, hC⟩ := k38_open hK
  show Calls Tryz.prog _ #[.agg #[.int .i64 x.f0, .int .i64 x.f1, .string x.f2, .string x.f3, .slice A4 x.f4.length c4]] W _
  have HB := hid (fun o => below_alloc (Below.refl W.heap.size W) o)
  obtain ⟨d, hd⟩ : ∃ d, x.f0 = d := ⟨_, rfl⟩
  have HD : Hid (deepB x = decide (60 ≤ d)) := hid (by unfold deepB; rw [hd])
  rw [hd]
  clear hK hC hd hl
  by_cases h : 60 ≤ d
  · have e1 : decide (d ≥ 60) = true := decide_eq_true h
    go_enter Tryz.func95, Tryz.ntmps95
    go_wp2
    go_ret
    exact ⟨by rw [HD.out, decide_eq_true (by omega)]; rfl, HB.out _⟩
  · have e1 : decide (d ≥ 60) = false := decide_eq_false h
    go_enter Tryz.func95, Tryz.ntmps95
    go_wp2
    go_ret
    exact ⟨by rw [HD.out, decide_eq_false (by omega)]; rfl, HB.out _⟩
def bigL (l : List S38) : Bool := decide (4096 < l.length) || l.any deepB
end Go.Proofs.YticacakoefojbaaGreat
namespace Go.Proofs.YticacakoefojbaaGreat.Pr
set_option linter.unusedVariables false
set_option linter.unusedSimpArgs false
open Go.RowKit Go.Lib Go.Shelf Go.Proofs.YticacakoefojbaaGreat Go.Proofs.YticacakoefojbaaGreatW.PrintWords Go.Proofs.YticacakoefojbaaGreatW.PrintLast Go.Proofs.YticacakoefojbaaGreatW.PrintMore
def ob (A : Option Addr) : Option Nat := A.map (·.block)
def rows_big.f (l : List S38) : Option Bool := some (bigL l)
set_option maxHeartbeats 2000000 in
theorem rows_big.calls (A0 : Option Addr) (c0 : Nat) (l0 : List S38) (r : Bool) (w : World) (hr0 : Kd.C k38 w A0 l0.length l0) (hc0 : l0.length ≤ c0) (h : rows_big.f l0 = some r) :
    Calls Tryz.prog 60 #[.slice A0 l0.length c0] w fun e w' => e = .returned (.bool r) ∧ Below w.heap.size w w' := by
  obtain rfl := Option.some.inj h
  have key := hid (fun (w1 : World) (hb : Below w.heap.size w w1) => hasTree_calls (c := c0) deepB 95 #[] (fun args w => enters_ Tryz.func95 (by kernel_rfl) rfl args w) w1 (Kd.C_below hr0 hb) (by
    intro W x cs hx hBW hK
    refine (big1_calls x (k38.K_below hBW hK)).mono ?_
    rintro r w' ⟨rfl, hb'⟩
    exact ⟨rfl, below_step hBW hb'⟩))
  have HB := hid (Below.refl w.heap.size w)
  obtain ⟨n, hn⟩ : ∃ n, l0.length = n := ⟨_, rfl⟩
  have hbig : n ≤ 9223372036854775807 := by have := hr0.2.1; omega
  obtain ⟨q, hq⟩ : ∃ q, l0.any deepB = q := ⟨_, rfl⟩
  unfold bigL
  rw [hn, hq] at key ⊢
  clear hr0 hn hq h
  by_cases h : 4096 < n
  · have e1 : decide ((n : Int) > 4096) = true := decide_eq_true (by omega)
    go_enter Tryz.func60, Tryz.ntmps60
    go_wp2
    go_ret
    exact ⟨by rw [decide_eq_true (by omega)]; rfl, HB.out⟩
  · have e1 : decide ((n : Int) > 4096) = false := decide_eq_false (by omega)
    go_enter Tryz.func60, Tryz.ntmps60
    go_wp2_with (go_at_call 94; refine (key.out _ HB.out).mono ?_; rintro e w' ⟨rfl, hb'⟩)
    go_ret
    exact ⟨by rw [decide_eq_false (by omega)]; rfl, hb'⟩
def api_Attr.f (l : List S45) : Option (List S45) := if l.length ≤ 4294967296 then some l else none
set_option maxHeartbeats 2000000 in
theorem api_Attr.calls (A0 : Option Addr) (c0 : Nat) (l0 : List S45) (r : List S45) (w : World) (hr0 : Kd.C k45 w A0 l0.length l0) (hc0 : l0.length ≤ c0) (h : api_Attr.f l0 = some r) :
    Calls Tryz.prog 97 #[.slice A0 l0.length c0] w fun e w' => ∃ v0_ : Value, e = .returned (v0_) ∧ Kd.R k45 45 w' w.heap.size (fun _ => True) v0_ r ∧ Below w.heap.size w w' := by
  unfold api_Attr.f at h
  split at h
  case isFalse => cases h
  rename_i hlen
  obtain rfl := Option.some.inj h
  clear h
  have h0 : A0 = none → l0 = [] := fun h => by
    rcases Nat.eq_zero_or_pos l0.length with h0 | h0
    · exact List.eq_nil_of_length_eq_zero h0
    · obtain ⟨ad, h2, _⟩ := hr0.2.2 h0
      rw [h] at h2; cases h2
  have HR := hid hr0
  have HB := hid (Below.refl w.heap.size w)
  have HL := hid hlen
  have q23 : ∀ (w : World) (a : Option Addr) (n c n' c' : Nat), (binOp .eql 36 (.slice a n c) (.slice none n' c')).run Tryz.prog w = .ok (.bool a.isNone) w := fun w a n c n' c' => Lib.run_eql_slice_nil w _ _ a n c n' c' Tryz.underlying36
  have hKM : ∀ (W : World) (x : S45) (cs : List Value), k45.K W x cs → ∀ base, k45.M W base (fun _ => False) x cs := fun W x cs hk base => by
    obtain rfl := k45_open hk
    exact k45_mkM _ _ _ _
  have HK := hid hKM
  clear hr0 hlen hc0 hKM
  cases A0 with
  | none =>
    obtain rfl := h0 rfl
    go_enter Tryz.func97, Tryz.ntmps97
    go_wp2
    go_ret
    exact ⟨_, rfl, Kd.R_nil _ _ _ _ _, HB.out⟩
  | some a =>
    clear h0
    go_enter Tryz.func97, Tryz.ntmps97
    go_wp2_with first
      | ((with_reducible refine gate_dst (N := 5) rfl ?_); refine Kd.R_lit (w0 := w) k45 w.heap.size 45 ?hg (N := 5) ?hd (xs := ([] : List S45)) (inner := []) (ok := fun _ => True) (okp := fun _ => False) ?hr ?hp (fun _ h => h.elim) trivial HB.out (Nat.le_refl _) (by decide) ?_; (case hg => rfl); (case hd => rfl); (case hr => first | (go_simp; done) | (go_simp; rfl)); (case hp => exact Reps.none _ _); intro v1 w1 hN hb hg hat; have HN := hid hN; have HB1 := hid hb; clear hN hb hg hat)
      | ((with_reducible refine gate_builtin (b := .append) (xs := #[.tmp 5, .tmp 6]) rfl ?_); at_builtin; refine Kd.R_append_rows (w0 := w) k45 w.heap.size rfl (.tmp 5) (.tmp 6) 36 45 (.agg #[(.string ⟨#[]⟩), (.string ⟨#[]⟩)]) 32 rfl Tryz.underlying36 info45 rfl (by decide) (by omega) v1 [] l0 (some a) l0.length c0 (fun _ => True) (fun _ => False) rfl rfl HN.out (Kd.C_below HR.out HB1.out) (fun x cs hk => HK.out _ x cs hk _) (fun _ hk => hk.elim) (fun _ _ => trivial) HB1.out (below_size HB1.out) ?aL ?_; (case aL => have := HL.out; simp; omega); intro v2 w2 hN hb hg hat; have HN2 := hid hN; have HB2 := hid hb; clear hN hb hg hat)
    go_ret
    exact ⟨_, rfl, HN2.out, HB2.out⟩
end Go.Proofs.YticacakoefojbaaGreat.Pr
namespace Go.Proofs.YticacakoefojbaaGreat.Pr
open Go.RowKit Go.Proofs.YticacakoefojbaaGreatW.PrintWords Go.Proofs.YticacakoefojbaaGreatW.PrintLast Go.Proofs.YticacakoefojbaaGreatW.PrintMore
attribute [local go_sem] max2_int min2_int max_two min_two max_three min_three max_four min_four   -- for this text's walks alone
set_option linter.unusedVariables false
set_option linter.unusedSimpArgs false

theorem eqA45 (d : Nat) (w : World) (x0 y0 : ByteArray) (x1 y1 : ByteArray) :
    (Op.equalIn (d + 2) 45 (.agg #[.string x0, .string x1]) (.agg #[.string y0, .string y1])).run Tryz.prog w = .ok (x0.toList == y0.toList && (x1.toList == y1.toList)) w := by
  refine eqA_of Tryz.underlying45 (by kernel_rfl) ?_
  refine eqf_cons (by rfl) (by go_simp; rfl) (by go_simp; rfl) (by go_simp) ?_
  exact eqf_last (by rfl) (by go_simp; rfl) (by go_simp; rfl) (by go_simp)
end Go.Proofs.YticacakoefojbaaGreat.Pr
