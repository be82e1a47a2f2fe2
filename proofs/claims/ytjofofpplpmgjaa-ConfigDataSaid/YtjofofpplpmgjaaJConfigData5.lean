/- The row of ConfigData, with what stands under it.. -/
import Derived.Test.YtjofofpplpmgjaaJConfigData1
import Derived.Test.YtjofofpplpmgjaaJConfigData3
import Derived.Test.YtjofofpplpmgjaaJConfigData4
import Derived.OpenShut
import Derived.ShutString
import Derived.SizedLaws
import Derived.WalkKit
import Derived.ProofKit
import Derived.ChangeOld
import Derived.Below
import Derived.Test.YtjofofpplpmgjaaRows
-- SLIMMED
namespace Go.Proofs.Ytjofofpplpmgjaa.Pr
open Go.RowKit Go.Proofs.YtjofofpplpmgjaaW.PrintWords Go.Proofs.YtjofofpplpmgjaaW.PrintLast Go.Proofs.YtjofofpplpmgjaaW.PrintMore
attribute [local go_sem] max2_int min2_int max_two min_two max_three min_three max_four min_four   -- for this text's walks alone
set_option linter.unusedVariables false
set_option linter.unusedSimpArgs false

/-! ### boltinglaw12_Bound: function 11 -/
def boltinglaw12_Bound.l0 : Nat → List (S35) → Int → Bool → Bool → List ByteArray → List ByteArray → List ByteArray → List (S35) → Bool → Bool → Option (Bool × Bool × List ByteArray × List ByteArray × List ByteArray × (List (S35)) × Bool × Bool)
 | 0, _, _, _, _, _, _, _, _, _, _ => none
 | k + 1, x3, x4, x189000, x189001, x189002, x189003, x189004, x189005, x189006, x189007 => if x4 < (x189005.length : Int) then (if x4 < 12 then (if 0 ≤ x4 then (if 0 ≤ (mn (((rd_T35 x189005 x4).f1).length : Int) 70) then (if (mn (((rd_T35 x189005 x4).f1).length : Int) 70) ≤ (((rd_T35 x189005 x4).f1).length : Int) then (if x3.length < 3518437208883 then (boltinglaw12_Bound.l0 k (x3 ++ [(⟨(rd_T35 x189005 x4).f0, (((rd_T35 x189005 x4).f1).take ((mn (((rd_T35 x189005 x4).f1).length : Int) 70) : Int).toNat)⟩ : S35)]) (wrap64 (x4 + 1)) x189000 x189001 x189002 x189003 x189004 x189005 x189006 x189007) else (none)) else (none)) else (none)) else (none)) else (some (x189000, x189001, x189002, x189003, x189004, x3, x189006, x189007))) else (some (x189000, x189001, x189002, x189003, x189004, x3, x189006, x189007))
def boltinglaw12_Bound.f (k : Nat) (a0_0 : Bool) (a0_1 : Bool) (l0_2 : List ByteArray) (l0_3 : List ByteArray) (l0_4 : List ByteArray) (l0_5 : List (S35)) (a0_6 : Bool) (a0_7 : Bool) : Option (Bool × Bool × List ByteArray × List ByteArray × List ByteArray × (List (S35)) × Bool × Bool) := if 0 ≤ (mn (l0_2.length : Int) 70) then (if (mn (l0_2.length : Int) 70) ≤ (l0_2.length : Int) then (if 0 ≤ (mn (l0_3.length : Int) 70) then (if (mn (l0_3.length : Int) 70) ≤ (l0_3.length : Int) then (if 0 ≤ (mn (l0_4.length : Int) 70) then (if (mn (l0_4.length : Int) 70) ≤ (l0_4.length : Int) then (boltinglaw12_Bound.l0 k (([] : List (S35))) 0 a0_0 a0_1 (l0_2.take ((mn (l0_2.length : Int) 70) : Int).toNat) (l0_3.take ((mn (l0_3.length : Int) 70) : Int).toNat) (l0_4.take ((mn (l0_4.length : Int) 70) : Int).toNat) l0_5 a0_6 a0_7) else (none)) else (none)) else (none)) else (none)) else (none)) else (none)
def boltinglaw12_Bound.T8 : Bool × List (List Nat × List Nat) := (true, [([], []), ([], []), ([1], [1]), ([], []), ([2, 3], [2, 3]), ([4], [4]), ([5], [5]), ([], []), ([7], [7]), ([], []), ([8, 9], [8, 9]), ([10], [10]), ([11], [11]), ([], []), ([13], [13]), ([], []), ([14, 15], [14, 15]), ([16], [16]), ([17], [17]), ([18], [18]), ([19], [19]), ([12, 20], [12, 20]), ([6, 21], [6, 21]), ([22], [22]), ([0, 23], [0, 23]), ([24, 24, 0, 1, 2, 3, 4, 5, 6, 7, 8, 9, 10, 11, 12, 13, 14, 15, 16, 17, 18, 19, 20, 21, 22, 23, 24], [0, 24])])
def boltinglaw12_Bound.B8 : List Nat := [0, 0, 2, 0, 14, 30, 62, 0, 128, 0, 896, 1920, 3968, 0, 8192, 0, 57344, 122880, 253952, 516096, 1040384, 2097024, 4194302, 8388606, 16777215, 33554431]
theorem boltinglaw12_Bound.tab8 : rtab .any (opsOf Try.f11 8) = boltinglaw12_Bound.T8 := by kernel_rfl
theorem boltinglaw12_Bound.bits8 : waitsOk boltinglaw12_Bound.T8.2 boltinglaw12_Bound.B8 = true := by kernel_rfl
set_option maxHeartbeats 8000000 in
set_option maxRecDepth 100000 in
theorem boltinglaw12_Bound.calls (k : Nat) (a0_0 : Bool) (a0_1 : Bool) (P0_2_ : Nat → Prop) (A0_2 : Option Addr) (c0_2 : Nat) (l0_2 : List ByteArray) (P0_3_ : Nat → Prop) (A0_3 : Option Addr) (c0_3 : Nat) (l0_3 : List ByteArray) (P0_4_ : Nat → Prop) (A0_4 : Option Addr) (c0_4 : Nat) (l0_4 : List ByteArray) (P0_5_ : Nat → Prop) (A0_5 : Option Addr) (c0_5 : Nat) (l0_5 : List (S35)) (a0_6 : Bool) (a0_7 : Bool) (r1 : Bool) (r2 : Bool) (r3 : List ByteArray) (r4 : List ByteArray) (r5 : List ByteArray) (r6 : List (S35)) (r7 : Bool) (r8 : Bool) (w : World) (hs0_2 : Kd.V Kd.string 9 w w.heap.size (fun k_ => P0_2_ k_) (.slice A0_2 l0_2.length c0_2) l0_2) (hs0_3 : Kd.V Kd.string 9 w w.heap.size (fun k_ => P0_3_ k_) (.slice A0_3 l0_3.length c0_3) l0_3) (hs0_4 : Kd.V Kd.string 9 w w.heap.size (fun k_ => P0_4_ k_) (.slice A0_4 l0_4.length c0_4) l0_4) (hs0_5 : Kd.V k35 35 w w.heap.size (fun k_ => P0_5_ k_) (.slice A0_5 l0_5.length c0_5) l0_5) (h : boltinglaw12_Bound.f k a0_0 a0_1 l0_2 l0_3 l0_4 l0_5 a0_6 a0_7 = some (r1, r2, r3, r4, r5, r6, r7, r8)) :
  Calls Try.prog 11 #[.agg #[.bool a0_0, .bool a0_1, .slice A0_2 l0_2.length c0_2, .slice A0_3 l0_3.length c0_3, .slice A0_4 l0_4.length c0_4, .slice A0_5 l0_5.length c0_5, .bool a0_6, .bool a0_7]] w fun e w' => ∃ v2_ v3_ v4_ v5_ : Value, e = .returned (.agg #[.bool r1, .bool r2, v2_, v3_, v4_, v5_, .bool r7, .bool r8]) ∧ Kd.V Kd.string 9 w' w.heap.size (fun k_ => ((P0_2_ k_ ∨ P0_3_ k_ ∨ P0_4_ k_ ∨ P0_5_ k_) ∨ w.heap.size ≤ k_) ∧ some k_ ≠ (v5_ : Value).ownBlock) v2_ r3 ∧ Kd.V Kd.string 9 w' w.heap.size (fun k_ => ((P0_2_ k_ ∨ P0_3_ k_ ∨ P0_4_ k_ ∨ P0_5_ k_) ∨ w.heap.size ≤ k_) ∧ some k_ ≠ (v5_ : Value).ownBlock) v3_ r4 ∧ Kd.V Kd.string 9 w' w.heap.size (fun k_ => ((P0_2_ k_ ∨ P0_3_ k_ ∨ P0_4_ k_ ∨ P0_5_ k_) ∨ w.heap.size ≤ k_) ∧ some k_ ≠ (v5_ : Value).ownBlock) v4_ r5 ∧ Kd.N k35 35 w' w.heap.size (fun k_ => ((P0_2_ k_ ∨ P0_3_ k_ ∨ P0_4_ k_ ∨ P0_5_ k_) ∨ w.heap.size ≤ k_)) v5_ r6 ∧ Below w.heap.size w w' := by
 have hu25 := Try.underlying25
 have hu35 := Try.underlying35
 have HO0_2 := Aside0.mk (show Kd.V Kd.string 9 w w.heap.size (fun k_ => ((P0_2_ k_ ∨ P0_3_ k_ ∨ P0_4_ k_ ∨ P0_5_ k_) ∨ w.heap.size ≤ k_)) (.slice A0_2 l0_2.length c0_2) l0_2 from Kd.V_mono hs0_2 (fun k_ hk => .inl (.inl hk)))
 have HO0_3 := Aside0.mk (show Kd.V Kd.string 9 w w.heap.size (fun k_ => ((P0_2_ k_ ∨ P0_3_ k_ ∨ P0_4_ k_ ∨ P0_5_ k_) ∨ w.heap.size ≤ k_)) (.slice A0_3 l0_3.length c0_3) l0_3 from Kd.V_mono hs0_3 (fun k_ hk => .inl (.inr (.inl hk))))
 have HO0_4 := Aside0.mk (show Kd.V Kd.string 9 w w.heap.size (fun k_ => ((P0_2_ k_ ∨ P0_3_ k_ ∨ P0_4_ k_ ∨ P0_5_ k_) ∨ w.heap.size ≤ k_)) (.slice A0_4 l0_4.length c0_4) l0_4 from Kd.V_mono hs0_4 (fun k_ hk => .inl (.inr (.inr (.inl hk)))))
 have HO0_5 := Aside0.mk (show Kd.V k35 35 w w.heap.size (fun k_ => ((P0_2_ k_ ∨ P0_3_ k_ ∨ P0_4_ k_ ∨ P0_5_ k_) ∨ w.heap.size ≤ k_)) (.slice A0_5 l0_5.length c0_5) l0_5 from Kd.V_mono hs0_5 (fun k_ hk => .inl (.inr (.inr (.inr hk)))))
 have HB := Aside0.mk (Below.refl w.heap.size w)
 have H : (if 0 ≤ (mn (l0_2.length : Int) 70) then (if (mn (l0_2.length : Int) 70) ≤ (l0_2.length : Int) then (if 0 ≤ (mn (l0_3.length : Int) 70) then (if (mn (l0_3.length : Int) 70) ≤ (l0_3.length : Int) then (if 0 ≤ (mn (l0_4.length : Int) 70) then (if (mn (l0_4.length : Int) 70) ≤ (l0_4.length : Int) then (boltinglaw12_Bound.l0 k (([] : List (S35))) 0 a0_0 a0_1 (l0_2.take ((mn (l0_2.length : Int) 70) : Int).toNat) (l0_3.take ((mn (l0_3.length : Int) 70) : Int).toNat) (l0_4.take ((mn (l0_4.length : Int) 70) : Int).toNat) l0_5 a0_6 a0_7) else (none)) else (none)) else (none)) else (none)) else (none)) else (none)) = some (r1, r2, r3, r4, r5, r6, r7, r8) := h
 clear h
 obtain ⟨ji2, hji2⟩ : ∃ j_ : Int, (mn (l0_2.length : Int) 70) = j_ := ⟨_, rfl⟩
 replace H : (if 0 ≤ (ji2) then (if (ji2) ≤ (l0_2.length : Int) then (if 0 ≤ (mn (l0_3.length : Int) 70) then (if (mn (l0_3.length : Int) 70) ≤ (l0_3.length : Int) then (if 0 ≤ (mn (l0_4.length : Int) 70) then (if (mn (l0_4.length : Int) 70) ≤ (l0_4.length : Int) then (boltinglaw12_Bound.l0 k (([] : List (S35))) 0 a0_0 a0_1 (l0_2.take ((ji2) : Int).toNat) (l0_3.take ((mn (l0_3.length : Int) 70) : Int).toNat) (l0_4.take ((mn (l0_4.length : Int) 70) : Int).toNat) l0_5 a0_6 a0_7) else (none)) else (none)) else (none)) else (none)) else (none)) else (none)) = some (r1, r2, r3, r4, r5, r6, r7, r8) := by first | (rw [hji2] at H; exact H) | (simp only [hji2] at H ⊢; exact H)
 (try (have hji2h : ji2 ≤ 70 := by (rw [← hji2]; unfold mn; (repeat' split) <;> omega)))
 (try (have hji2g : ji2 ≤ 64 := by omega))
 (try (have hji2l : 0 ≤ ji2 := by (rw [← hji2]; unfold mn; (repeat' split) <;> omega)))
 (try (have hji2m : 0 ≤ ji2 := by omega))
 have hji2_ : (if 70 < (l0_2.length : Int) then 70 else (l0_2.length : Int)) = ji2 := hji2
 by_cases c3 : 0 ≤ (ji2)
 ·rw [if_pos c3] at H
  have c3b0 := eq_true c3
  have c3b1 : decide (0 ≤ (ji2)) = true := decide_eq_true c3
  clear c3
  by_cases c4 : (ji2) ≤ (l0_2.length : Int)
  ·rw [if_pos c4] at H
   have c4b0 := eq_true c4
   have c4b1 : decide ((ji2) ≤ (l0_2.length : Int)) = true := decide_eq_true c4
   clear c4
   obtain ⟨y190, hy190⟩ : ∃ y_ : List ByteArray, y_ = (l0_2.take ((ji2) : Int).toNat) := ⟨_, rfl⟩
   replace H : (if 0 ≤ (mn (l0_3.length : Int) 70) then (if (mn (l0_3.length : Int) 70) ≤ (l0_3.length : Int) then (if 0 ≤ (mn (l0_4.length : Int) 70) then (if (mn (l0_4.length : Int) 70) ≤ (l0_4.length : Int) then (boltinglaw12_Bound.l0 k (([] : List (S35))) 0 a0_0 a0_1 y190 (l0_3.take ((mn (l0_3.length : Int) 70) : Int).toNat) (l0_4.take ((mn (l0_4.length : Int) 70) : Int).toNat) l0_5 a0_6 a0_7) else (none)) else (none)) else (none)) else (none)) = some (r1, r2, r3, r4, r5, r6, r7, r8) := by first | (rw [hy190]; with_reducible exact H) | (have H2_ := (Option.bind_some _ _).symm.trans H; rw [hy190]; with_reducible exact H2_) | (have H2_ := (Option.bind_some _ _).symm.trans H; with_reducible exact H2_) | with_reducible exact H | (rw [hy190]; exact H) | exact H
   have Ny190 := Aside0.mk hy190
   clear hy190
   obtain ⟨ji5, hji5⟩ : ∃ j_ : Int, (mn (l0_3.length : Int) 70) = j_ := ⟨_, rfl⟩
   replace H : (if 0 ≤ (ji5) then (if (ji5) ≤ (l0_3.length : Int) then (if 0 ≤ (mn (l0_4.length : Int) 70) then (if (mn (l0_4.length : Int) 70) ≤ (l0_4.length : Int) then (boltinglaw12_Bound.l0 k (([] : List (S35))) 0 a0_0 a0_1 y190 (l0_3.take ((ji5) : Int).toNat) (l0_4.take ((mn (l0_4.length : Int) 70) : Int).toNat) l0_5 a0_6 a0_7) else (none)) else (none)) else (none)) else (none)) = some (r1, r2, r3, r4, r5, r6, r7, r8) := by first | (rw [hji5] at H; exact H) | (simp only [hji5] at H ⊢; exact H)
   (try (have hji5h : ji5 ≤ 70 := by (rw [← hji5]; unfold mn; (repeat' split) <;> omega)))
   (try (have hji5g : ji5 ≤ 64 := by omega))
   (try (have hji5l : 0 ≤ ji5 := by (rw [← hji5]; unfold mn; (repeat' split) <;> omega)))
   (try (have hji5m : 0 ≤ ji5 := by omega))
   have hji5_ : (if 70 < (l0_3.length : Int) then 70 else (l0_3.length : Int)) = ji5 := hji5
   by_cases c6 : 0 ≤ (ji5)
   ·rw [if_pos c6] at H
    have c6b0 := eq_true c6
    have c6b1 : decide (0 ≤ (ji5)) = true := decide_eq_true c6
    clear c6
    by_cases c7 : (ji5) ≤ (l0_3.length : Int)
    ·rw [if_pos c7] at H
     have c7b0 := eq_true c7
     have c7b1 : decide ((ji5) ≤ (l0_3.length : Int)) = true := decide_eq_true c7
     clear c7
     obtain ⟨y195, hy195⟩ : ∃ y_ : List ByteArray, y_ = (l0_3.take ((ji5) : Int).toNat) := ⟨_, rfl⟩
     replace H : (if 0 ≤ (mn (l0_4.length : Int) 70) then (if (mn (l0_4.length : Int) 70) ≤ (l0_4.length : Int) then (boltinglaw12_Bound.l0 k (([] : List (S35))) 0 a0_0 a0_1 y190 y195 (l0_4.take ((mn (l0_4.length : Int) 70) : Int).toNat) l0_5 a0_6 a0_7) else (none)) else (none)) = some (r1, r2, r3, r4, r5, r6, r7, r8) := by first | (rw [hy195]; with_reducible exact H) | (have H2_ := (Option.bind_some _ _).symm.trans H; rw [hy195]; with_reducible exact H2_) | (have H2_ := (Option.bind_some _ _).symm.trans H; with_reducible exact H2_) | with_reducible exact H | (rw [hy195]; exact H) | exact H
     have Ny195 := Aside0.mk hy195
     clear hy195
     obtain ⟨ji8, hji8⟩ : ∃ j_ : Int, (mn (l0_4.length : Int) 70) = j_ := ⟨_, rfl⟩
     replace H : (if 0 ≤ (ji8) then (if (ji8) ≤ (l0_4.length : Int) then (boltinglaw12_Bound.l0 k (([] : List (S35))) 0 a0_0 a0_1 y190 y195 (l0_4.take ((ji8) : Int).toNat) l0_5 a0_6 a0_7) else (none)) else (none)) = some (r1, r2, r3, r4, r5, r6, r7, r8) := by first | (rw [hji8] at H; exact H) | (simp only [hji8] at H ⊢; exact H)
     (try (have hji8h : ji8 ≤ 70 := by (rw [← hji8]; unfold mn; (repeat' split) <;> omega)))
     (try (have hji8g : ji8 ≤ 64 := by omega))
     (try (have hji8l : 0 ≤ ji8 := by (rw [← hji8]; unfold mn; (repeat' split) <;> omega)))
     (try (have hji8m : 0 ≤ ji8 := by omega))
     have hji8_ : (if 70 < (l0_4.length : Int) then 70 else (l0_4.length : Int)) = ji8 := hji8
     by_cases c9 : 0 ≤ (ji8)
     ·rw [if_pos c9] at H
      have c9b0 := eq_true c9
      have c9b1 : decide (0 ≤ (ji8)) = true := decide_eq_true c9
      clear c9
      by_cases c10 : (ji8) ≤ (l0_4.length : Int)
      ·rw [if_pos c10] at H
       have c10b0 := eq_true c10
       have c10b1 : decide ((ji8) ≤ (l0_4.length : Int)) = true := decide_eq_true c10
       clear c10
       obtain ⟨y200, hy200⟩ : ∃ y_ : List ByteArray, y_ = (l0_4.take ((ji8) : Int).toNat) := ⟨_, rfl⟩
       replace H : (boltinglaw12_Bound.l0 k (([] : List (S35))) 0 a0_0 a0_1 y190 y195 y200 l0_5 a0_6 a0_7) = some (r1, r2, r3, r4, r5, r6, r7, r8) := by first | (rw [hy200]; with_reducible exact H) | (have H2_ := (Option.bind_some _ _).symm.trans H; rw [hy200]; with_reducible exact H2_) | (have H2_ := (Option.bind_some _ _).symm.trans H; with_reducible exact H2_) | with_reducible exact H | (rw [hy200]; exact H) | exact H
       have Ny200 := Aside0.mk hy200
       clear hy200
       obtain ⟨y205, hy205⟩ : ∃ y_ : List (S35), y_ = (([] : List (S35))) := ⟨_, rfl⟩
       replace H : (boltinglaw12_Bound.l0 k y205 0 a0_0 a0_1 y190 y195 y200 l0_5 a0_6 a0_7) = some (r1, r2, r3, r4, r5, r6, r7, r8) := by first | (rw [hy205]; with_reducible exact H) | (have H2_ := (Option.bind_some _ _).symm.trans H; rw [hy205]; with_reducible exact H2_) | (have H2_ := (Option.bind_some _ _).symm.trans H; with_reducible exact H2_) | with_reducible exact H | (rw [hy205]; exact H) | exact H
       have Ny205 := Aside0.mk hy205
       clear hy205
       have H' := Aside0.mk H
       clear H
       go_enter Try.func11, Try.ntmps11
       go_wp2_with (first | ((with_reducible refine gate_dst (N := 1) rfl ?_); refine box_event ?hg (N := 1) ?hd (cs := #[.bool a0_0, .bool a0_1, .slice A0_2 l0_2.length c0_2, .slice A0_3 l0_3.length c0_3, .slice A0_4 l0_4.length c0_4, .slice A0_5 l0_5.length c0_5, .bool a0_6, .bool a0_7]) (t := 25) ?hr ?_; (case hd => rfl); (case hg => rfl); (case hr => first | (go_simp; done) | (go_simp; rfl)); intro gb188 hg w11 hbox hb; have n0_ := Aside0.mk (Kd.V_below (Kd.V_elderB (by exact HO0_2.out) gb188 (Nat.le_of_eq hg.symm)) hb); have n1_ := Aside0.mk (Kd.V_below (Kd.V_elderB (by exact HO0_3.out) gb188 (Nat.le_of_eq hg.symm)) hb); have n2_ := Aside0.mk (Kd.V_below (Kd.V_elderB (by exact HO0_4.out) gb188 (Nat.le_of_eq hg.symm)) hb); have n3_ := Aside0.mk (Kd.V_below (Kd.V_elderB (by exact HO0_5.out) gb188 (Nat.le_of_eq hg.symm)) hb); have n4_ := Aside0.mk (below_step (by repeat (first | (with_reducible first | exact HB.out | apply below_alloc | apply pw_below_drewN | apply below_drew1) | exact HB.out)) hb); have n5_ := Aside0.mk (hbox); have n6_ := Aside0.mk ((by rw [hg]; exact (below_size (by repeat (first | (with_reducible first | exact HB.out | apply below_alloc | apply pw_below_drewN | apply below_drew1) | exact HB.out))) : w.heap.size ≤ gb188)); have n7_ := Aside0.mk ((by rw [hg]; exact (below_size (by repeat (first | (with_reducible first | exact HB.out | apply below_alloc | apply pw_below_drewN | apply below_drew1) | exact HB.out))) : w.heap.size ≤ gb188)); clear HO0_2; clear HO0_3; clear HO0_4; clear HO0_5; clear HB; have HO0_2 := n0_; have HO0_3 := n1_; have HO0_4 := n2_; have HO0_5 := n3_; have HB := n4_; have BK188 := n5_; have GW188 := n6_; have GE188 := n7_; clear n0_ n1_ n2_ n3_ n4_ n5_ n6_ n7_; clear hb hbox hg) | ((with_reducible refine gate_dst (N := 2) rfl ?_); refine box_event ?hg (N := 2) ?hd (cs := #[.bool false, .bool false, .slice none 0 0, .slice none 0 0, .slice none 0 0, .slice none 0 0, .bool false, .bool false]) (t := 25) ?hr ?_; (case hd => rfl); (case hg => rfl); (case hr => first | (go_simp; done) | (go_simp; rfl)); intro gb189 hg w12 hbox hb; have n0_ := Aside0.mk (Kd.V_below (Kd.V_elderB (by exact HO0_2.out) gb189 (Nat.le_of_eq hg.symm)) hb); have n1_ := Aside0.mk (Kd.V_below (Kd.V_elderB (by exact HO0_3.out) gb189 (Nat.le_of_eq hg.symm)) hb); have n2_ := Aside0.mk (Kd.V_below (Kd.V_elderB (by exact HO0_4.out) gb189 (Nat.le_of_eq hg.symm)) hb); have n3_ := Aside0.mk (Kd.V_below (Kd.V_elderB (by exact HO0_5.out) gb189 (Nat.le_of_eq hg.symm)) hb); have n4_ := Aside0.mk (blk_below (g := gb188) (o := .cells #[.bool a0_0, .bool a0_1, .slice A0_2 l0_2.length c0_2, .slice A0_3 l0_3.length c0_3, .slice A0_4 l0_4.length c0_4, .slice A0_5 l0_5.length c0_5, .bool a0_6, .bool a0_7] 25 (0, 0)) (by exact BK188.out) hb); have n5_ := Aside0.mk (below_step (by repeat (first | (with_reducible first | exact HB.out | apply below_alloc | apply pw_below_drewN | apply below_drew1 | refine below_set ?_ GE188.out) | exact HB.out)) hb); have n6_ := Aside0.mk (hbox); have n7_ := Aside0.mk ((by rw [hg]; exact (below_size (by repeat (first | (with_reducible first | exact HB.out | apply below_alloc | apply pw_below_drewN | apply below_drew1 | refine below_set ?_ GE188.out) | exact HB.out))) : w.heap.size ≤ gb189)); have n8_ := Aside0.mk ((by rw [hg]; exact (below_size (by repeat (first | (with_reducible first | exact HB.out | apply below_alloc | apply pw_below_drewN | apply below_drew1 | refine below_set ?_ GE188.out) | exact HB.out))) : w.heap.size ≤ gb189)); have n9_ := Aside0.mk ((by rw [hg]; exact Nat.ne_of_lt (blk_lt (g := gb188) (o := .cells #[.bool a0_0, .bool a0_1, .slice A0_2 l0_2.length c0_2, .slice A0_3 l0_3.length c0_3, .slice A0_4 l0_4.length c0_4, .slice A0_5 l0_5.length c0_5, .bool a0_6, .bool a0_7] 25 (0, 0)) (by exact BK188.out)) : gb188 ≠ gb189)); have n10_ := Aside0.mk ((by rw [hg]; exact Nat.ne_of_gt (blk_lt (g := gb188) (o := .cells #[.bool a0_0, .bool a0_1, .slice A0_2 l0_2.length c0_2, .slice A0_3 l0_3.length c0_3, .slice A0_4 l0_4.length c0_4, .slice A0_5 l0_5.length c0_5, .bool a0_6, .bool a0_7] 25 (0, 0)) (by exact BK188.out)) : gb189 ≠ gb188)); clear HO0_2; clear HO0_3; clear HO0_4; clear HO0_5; clear BK188; clear HB; have HO0_2 := n0_; have HO0_3 := n1_; have HO0_4 := n2_; have HO0_5 := n3_; have BK188 := n4_; have HB := n5_; have BK189 := n6_; have GW189 := n7_; have GE189 := n8_; have NB188_189 := n9_; have NB189_188 := n10_; clear n0_ n1_ n2_ n3_ n4_ n5_ n6_ n7_ n8_ n9_ n10_; clear hb hbox hg; have hnb13 := NB188_189.out; have hnc13 := NB189_188.out; have hcz14_0 : w12.cell? ⟨gb188, 0, none⟩ = some (.bool a0_0) := (blk_cell BK188.out 0).trans rfl; have hcz14_1 : w12.cell? ⟨gb188, 1, none⟩ = some (.bool a0_1) := (blk_cell BK188.out 1).trans rfl; have hcz14_2 : w12.cell? ⟨gb188, 2, none⟩ = some (.slice A0_2 l0_2.length c0_2) := (blk_cell BK188.out 2).trans rfl; have hcz14_3 : w12.cell? ⟨gb188, 3, none⟩ = some (.slice A0_3 l0_3.length c0_3) := (blk_cell BK188.out 3).trans rfl; have hcz14_4 : w12.cell? ⟨gb188, 4, none⟩ = some (.slice A0_4 l0_4.length c0_4) := (blk_cell BK188.out 4).trans rfl; have hcz14_5 : w12.cell? ⟨gb188, 5, none⟩ = some (.slice A0_5 l0_5.length c0_5) := (blk_cell BK188.out 5).trans rfl; have hcz14_6 : w12.cell? ⟨gb188, 6, none⟩ = some (.bool a0_6) := (blk_cell BK188.out 6).trans rfl; have hcz14_7 : w12.cell? ⟨gb188, 7, none⟩ = some (.bool a0_7) := (blk_cell BK188.out 7).trans rfl; have hfz14_0 := blk_frozen BK188.out 0; have hfz14_1 := blk_frozen BK188.out 1; have hfz14_2 := blk_frozen BK188.out 2; have hfz14_3 := blk_frozen BK188.out 3; have hfz14_4 := blk_frozen BK188.out 4; have hfz14_5 := blk_frozen BK188.out 5; have hfz14_6 := blk_frozen BK188.out 6; have hfz14_7 := blk_frozen BK188.out 7; have q15 : ((ji2) : Int) ≤ ((l0_2.length : Int) : Int) := of_decide_eq_true (by first | (with_reducible assumption) | assumption); obtain ⟨i015, hi015, _, hsz15, _⟩ := info_parts info9; have hroom15 : l0_2.length ≤ c0_2 := (Kd.V_reads' HO0_2.out).2.1; have hC15 : Kd.F Kd.string _ _ A0_2 l0_2.length l0_2 := (Kd.V_at (base := w.heap.size) HO0_2.out).2.2; have hcut15 := cut_to (P := Try.prog) 22 9 .i64 Try.underlying22 hi015 A0_2 l0_2.length c0_2 (ji2) (of_decide_eq_true (by first | (with_reducible assumption) | assumption)) q15 hroom15; have hr15 := Kd.F_take (m := ((ji2) : Int).toNat) hC15 (by omega); have hy15 : y190.length = ((ji2) : Int).toNat := (by rw [Ny190.out, List.length_take]; omega); rw [← Ny190.out] at hr15; rw [← hy15] at hcut15; have HO194 := Aside0.mk (show Kd.V Kd.string 9 _ w.heap.size _ (.slice A0_2 y190.length c0_2) y190 from Kd.V_mk (by omega) hr15); have HC194 := Aside0.mk (show y190.length ≤ c0_2 from by omega); clear hr15 hC15 hroom15 hi015 hsz15; have KY15 := Aside0.mk hy15; clear hy15; replace q15 := eq_true q15) | ((with_reducible refine gate_store (t := 22) (p := 12) rfl ?_); refine store_event (t := 22) (p := 12) (v := ?vo_w16) (w1 := (w12.setCell ⟨gb188, 2, none⟩ (.slice A0_2 y190.length c0_2))) ?hg ?ho ?hn ?hr ?_; (case ho => rfl); (case hg => rfl); (case hn => rfl); (case hr => first | (go_simp; done) | (go_simp; rfl)); intro w16 hw; have n0_ : Aside0 (Kd.V Kd.string 9 w16 w.heap.size (fun k_ => ((P0_2_ k_ ∨ P0_3_ k_ ∨ P0_4_ k_ ∨ P0_5_ k_) ∨ w.heap.size ≤ k_) ∧ k_ ≠ gb188 ∧ k_ ≠ gb189) (.slice A0_2 l0_2.length c0_2) l0_2) := ⟨(by rw [hw]; exact (by exact Kd.V_mono (Kd.V_far (p := ⟨gb188, 2, none⟩) (Kd.V_mono HO0_2.out (fun k_ hk => (⟨hk, hk.1.2⟩ : _ ∧ k_ ≠ gb188))) (fun _ hk => hk.2) (.slice A0_2 y190.length c0_2)) (fun _ hk => ⟨hk.1.1.1, ⟨hk.1.1.2, hk.1.2⟩⟩)))⟩; have n1_ : Aside0 (Kd.V Kd.string 9 w16 w.heap.size (fun k_ => ((P0_2_ k_ ∨ P0_3_ k_ ∨ P0_4_ k_ ∨ P0_5_ k_) ∨ w.heap.size ≤ k_) ∧ k_ ≠ gb188 ∧ k_ ≠ gb189) (.slice A0_3 l0_3.length c0_3) l0_3) := ⟨(by rw [hw]; exact (by exact Kd.V_mono (Kd.V_far (p := ⟨gb188, 2, none⟩) (Kd.V_mono HO0_3.out (fun k_ hk => (⟨hk, hk.1.2⟩ : _ ∧ k_ ≠ gb188))) (fun _ hk => hk.2) (.slice A0_2 y190.length c0_2)) (fun _ hk => ⟨hk.1.1.1, ⟨hk.1.1.2, hk.1.2⟩⟩)))⟩; have n2_ : Aside0 (Kd.V Kd.string 9 w16 w.heap.size (fun k_ => ((P0_2_ k_ ∨ P0_3_ k_ ∨ P0_4_ k_ ∨ P0_5_ k_) ∨ w.heap.size ≤ k_) ∧ k_ ≠ gb188 ∧ k_ ≠ gb189) (.slice A0_4 l0_4.length c0_4) l0_4) := ⟨(by rw [hw]; exact (by exact Kd.V_mono (Kd.V_far (p := ⟨gb188, 2, none⟩) (Kd.V_mono HO0_4.out (fun k_ hk => (⟨hk, hk.1.2⟩ : _ ∧ k_ ≠ gb188))) (fun _ hk => hk.2) (.slice A0_2 y190.length c0_2)) (fun _ hk => ⟨hk.1.1.1, ⟨hk.1.1.2, hk.1.2⟩⟩)))⟩; have n3_ : Aside0 (Kd.V k35 35 w16 w.heap.size (fun k_ => ((P0_2_ k_ ∨ P0_3_ k_ ∨ P0_4_ k_ ∨ P0_5_ k_) ∨ w.heap.size ≤ k_) ∧ k_ ≠ gb188 ∧ k_ ≠ gb189) (.slice A0_5 l0_5.length c0_5) l0_5) := ⟨(by rw [hw]; exact (by exact Kd.V_mono (Kd.V_far (p := ⟨gb188, 2, none⟩) (Kd.V_mono HO0_5.out (fun k_ hk => (⟨hk, hk.1.2⟩ : _ ∧ k_ ≠ gb188))) (fun _ hk => hk.2) (.slice A0_2 y190.length c0_2)) (fun _ hk => ⟨hk.1.1.1, ⟨hk.1.1.2, hk.1.2⟩⟩)))⟩; have n4_ : Aside0 (Kd.V Kd.string 9 w16 w.heap.size (fun k_ => ((P0_2_ k_ ∨ P0_3_ k_ ∨ P0_4_ k_ ∨ P0_5_ k_) ∨ w.heap.size ≤ k_) ∧ k_ ≠ gb188 ∧ k_ ≠ gb189) (.slice A0_2 y190.length c0_2) y190) := ⟨(by rw [hw]; exact (by exact Kd.V_mono (Kd.V_far (p := ⟨gb188, 2, none⟩) (Kd.V_mono HO194.out (fun k_ hk => (⟨hk, hk.1.2⟩ : _ ∧ k_ ≠ gb188))) (fun _ hk => hk.2) (.slice A0_2 y190.length c0_2)) (fun _ hk => ⟨hk.1.1.1, ⟨hk.1.1.2, hk.1.2⟩⟩)))⟩; have n5_ : Aside0 (w16.heap[gb188]? = some (.cells #[.bool a0_0, .bool a0_1, .slice A0_2 y190.length c0_2, .slice A0_3 l0_3.length c0_3, .slice A0_4 l0_4.length c0_4, .slice A0_5 l0_5.length c0_5, .bool a0_6, .bool a0_7] 25 (0, 0))) := ⟨(by rw [hw]; exact (by refine blk_put (cs := #[.bool a0_0, .bool a0_1, .slice A0_2 l0_2.length c0_2, .slice A0_3 l0_3.length c0_3, .slice A0_4 l0_4.length c0_4, .slice A0_5 l0_5.length c0_5, .bool a0_6, .bool a0_7]) ?_ 2 _ rfl; exact BK188.out))⟩; have n6_ : Aside0 (w16.heap[gb189]? = some (.cells #[.bool false, .bool false, .slice none 0 0, .slice none 0 0, .slice none 0 0, .slice none 0 0, .bool false, .bool false] 25 (0, 0))) := ⟨(by rw [hw]; exact (by refine blk_far ?_ NB189_188.out _; exact BK189.out))⟩; have n7_ : Aside0 (Below w.heap.size w w16) := ⟨(by rw [hw]; exact (by repeat (first | (with_reducible first | exact HB.out | apply below_alloc | apply pw_below_drewN | apply below_drew1 | refine below_set ?_ GE188.out | refine below_set ?_ GE189.out) | exact HB.out)))⟩; clear hw; clear HO0_2; clear HO0_3; clear HO0_4; clear HO0_5; clear HO194; clear BK188; clear BK189; clear HB; have HO0_2 := n0_; have HO0_3 := n1_; have HO0_4 := n2_; have HO0_5 := n3_; have HO194 := n4_; have BK188 := n5_; have BK189 := n6_; have HB := n7_; clear n0_ n1_ n2_ n3_ n4_ n5_ n6_ n7_; have hcz17_0 : w16.cell? ⟨gb188, 0, none⟩ = some (.bool a0_0) := (blk_cell BK188.out 0).trans rfl; have hcz17_1 : w16.cell? ⟨gb188, 1, none⟩ = some (.bool a0_1) := (blk_cell BK188.out 1).trans rfl; have hcz17_2 : w16.cell? ⟨gb188, 2, none⟩ = some (.slice A0_2 y190.length c0_2) := (blk_cell BK188.out 2).trans rfl; have hcz17_3 : w16.cell? ⟨gb188, 3, none⟩ = some (.slice A0_3 l0_3.length c0_3) := (blk_cell BK188.out 3).trans rfl; have hcz17_4 : w16.cell? ⟨gb188, 4, none⟩ = some (.slice A0_4 l0_4.length c0_4) := (blk_cell BK188.out 4).trans rfl; have hcz17_5 : w16.cell? ⟨gb188, 5, none⟩ = some (.slice A0_5 l0_5.length c0_5) := (blk_cell BK188.out 5).trans rfl; have hcz17_6 : w16.cell? ⟨gb188, 6, none⟩ = some (.bool a0_6) := (blk_cell BK188.out 6).trans rfl; have hcz17_7 : w16.cell? ⟨gb188, 7, none⟩ = some (.bool a0_7) := (blk_cell BK188.out 7).trans rfl; have hfz17_0 := blk_frozen BK188.out 0; have hfz17_1 := blk_frozen BK188.out 1; have hfz17_2 := blk_frozen BK188.out 2; have hfz17_3 := blk_frozen BK188.out 3; have hfz17_4 := blk_frozen BK188.out 4; have hfz17_5 := blk_frozen BK188.out 5; have hfz17_6 := blk_frozen BK188.out 6; have hfz17_7 := blk_frozen BK188.out 7; have q18 : ((ji5) : Int) ≤ ((l0_3.length : Int) : Int) := of_decide_eq_true (by first | (with_reducible assumption) | assumption); obtain ⟨i018, hi018, _, hsz18, _⟩ := info_parts info9; have hroom18 : l0_3.length ≤ c0_3 := (Kd.V_reads' HO0_3.out).2.1; have hC18 : Kd.F Kd.string _ _ A0_3 l0_3.length l0_3 := (Kd.V_at (base := w.heap.size) HO0_3.out).2.2; have hcut18 := cut_to (P := Try.prog) 22 9 .i64 Try.underlying22 hi018 A0_3 l0_3.length c0_3 (ji5) (of_decide_eq_true (by first | (with_reducible assumption) | assumption)) q18 hroom18; have hr18 := Kd.F_take (m := ((ji5) : Int).toNat) hC18 (by omega); have hy18 : y195.length = ((ji5) : Int).toNat := (by rw [Ny195.out, List.length_take]; omega); rw [← Ny195.out] at hr18; rw [← hy18] at hcut18; have HO199 := Aside0.mk (show Kd.V Kd.string 9 _ w.heap.size _ (.slice A0_3 y195.length c0_3) y195 from Kd.V_mk (by omega) hr18); have HC199 := Aside0.mk (show y195.length ≤ c0_3 from by omega); clear hr18 hC18 hroom18 hi018 hsz18; have KY18 := Aside0.mk hy18; clear hy18; replace q18 := eq_true q18) | ((with_reducible refine gate_store (t := 22) (p := 20) rfl ?_); refine store_event (t := 22) (p := 20) (v := ?vo_w19) (w1 := (w16.setCell ⟨gb188, 3, none⟩ (.slice A0_3 y195.length c0_3))) ?hg ?ho ?hn ?hr ?_; (case ho => rfl); (case hg => rfl); (case hn => rfl); (case hr => first | (go_simp; done) | (go_simp; rfl)); intro w19 hw; have n0_ : Aside0 (Kd.V Kd.string 9 w19 w.heap.size (fun k_ => ((P0_2_ k_ ∨ P0_3_ k_ ∨ P0_4_ k_ ∨ P0_5_ k_) ∨ w.heap.size ≤ k_) ∧ k_ ≠ gb188 ∧ k_ ≠ gb189) (.slice A0_2 l0_2.length c0_2) l0_2) := ⟨(by rw [hw]; exact (by exact Kd.V_mono (Kd.V_far (p := ⟨gb188, 3, none⟩) (Kd.V_mono HO0_2.out (fun k_ hk => (⟨hk, hk.2.1⟩ : _ ∧ k_ ≠ gb188))) (fun _ hk => hk.2) (.slice A0_3 y195.length c0_3)) (fun _ hk => ⟨hk.1.1, ⟨hk.1.2.1, hk.1.2.2⟩⟩)))⟩; have n1_ : Aside0 (Kd.V Kd.string 9 w19 w.heap.size (fun k_ => ((P0_2_ k_ ∨ P0_3_ k_ ∨ P0_4_ k_ ∨ P0_5_ k_) ∨ w.heap.size ≤ k_) ∧ k_ ≠ gb188 ∧ k_ ≠ gb189) (.slice A0_3 l0_3.length c0_3) l0_3) := ⟨(by rw [hw]; exact (by exact Kd.V_mono (Kd.V_far (p := ⟨gb188, 3, none⟩) (Kd.V_mono HO0_3.out (fun k_ hk => (⟨hk, hk.2.1⟩ : _ ∧ k_ ≠ gb188))) (fun _ hk => hk.2) (.slice A0_3 y195.length c0_3)) (fun _ hk => ⟨hk.1.1, ⟨hk.1.2.1, hk.1.2.2⟩⟩)))⟩; have n2_ : Aside0 (Kd.V Kd.string 9 w19 w.heap.size (fun k_ => ((P0_2_ k_ ∨ P0_3_ k_ ∨ P0_4_ k_ ∨ P0_5_ k_) ∨ w.heap.size ≤ k_) ∧ k_ ≠ gb188 ∧ k_ ≠ gb189) (.slice A0_4 l0_4.length c0_4) l0_4) := ⟨(by rw [hw]; exact (by exact Kd.V_mono (Kd.V_far (p := ⟨gb188, 3, none⟩) (Kd.V_mono HO0_4.out (fun k_ hk => (⟨hk, hk.2.1⟩ : _ ∧ k_ ≠ gb188))) (fun _ hk => hk.2) (.slice A0_3 y195.length c0_3)) (fun _ hk => ⟨hk.1.1, ⟨hk.1.2.1, hk.1.2.2⟩⟩)))⟩; have n3_ : Aside0 (Kd.V k35 35 w19 w.heap.size (fun k_ => ((P0_2_ k_ ∨ P0_3_ k_ ∨ P0_4_ k_ ∨ P0_5_ k_) ∨ w.heap.size ≤ k_) ∧ k_ ≠ gb188 ∧ k_ ≠ gb189) (.slice A0_5 l0_5.length c0_5) l0_5) := ⟨(by rw [hw]; exact (by exact Kd.V_mono (Kd.V_far (p := ⟨gb188, 3, none⟩) (Kd.V_mono HO0_5.out (fun k_ hk => (⟨hk, hk.2.1⟩ : _ ∧ k_ ≠ gb188))) (fun _ hk => hk.2) (.slice A0_3 y195.length c0_3)) (fun _ hk => ⟨hk.1.1, ⟨hk.1.2.1, hk.1.2.2⟩⟩)))⟩; have n4_ : Aside0 (Kd.V Kd.string 9 w19 w.heap.size (fun k_ => ((P0_2_ k_ ∨ P0_3_ k_ ∨ P0_4_ k_ ∨ P0_5_ k_) ∨ w.heap.size ≤ k_) ∧ k_ ≠ gb188 ∧ k_ ≠ gb189) (.slice A0_2 y190.length c0_2) y190) := ⟨(by rw [hw]; exact (by exact Kd.V_mono (Kd.V_far (p := ⟨gb188, 3, none⟩) (Kd.V_mono HO194.out (fun k_ hk => (⟨hk, hk.2.1⟩ : _ ∧ k_ ≠ gb188))) (fun _ hk => hk.2) (.slice A0_3 y195.length c0_3)) (fun _ hk => ⟨hk.1.1, ⟨hk.1.2.1, hk.1.2.2⟩⟩)))⟩; have n5_ : Aside0 (Kd.V Kd.string 9 w19 w.heap.size (fun k_ => ((P0_2_ k_ ∨ P0_3_ k_ ∨ P0_4_ k_ ∨ P0_5_ k_) ∨ w.heap.size ≤ k_) ∧ k_ ≠ gb188 ∧ k_ ≠ gb189) (.slice A0_3 y195.length c0_3) y195) := ⟨(by rw [hw]; exact (by exact Kd.V_mono (Kd.V_far (p := ⟨gb188, 3, none⟩) (Kd.V_mono HO199.out (fun k_ hk => (⟨hk, hk.2.1⟩ : _ ∧ k_ ≠ gb188))) (fun _ hk => hk.2) (.slice A0_3 y195.length c0_3)) (fun _ hk => ⟨hk.1.1, ⟨hk.1.2.1, hk.1.2.2⟩⟩)))⟩; have n6_ : Aside0 (w19.heap[gb188]? = some (.cells #[.bool a0_0, .bool a0_1, .slice A0_2 y190.length c0_2, .slice A0_3 y195.length c0_3, .slice A0_4 l0_4.length c0_4, .slice A0_5 l0_5.length c0_5, .bool a0_6, .bool a0_7] 25 (0, 0))) := ⟨(by rw [hw]; exact (by refine blk_put (cs := #[.bool a0_0, .bool a0_1, .slice A0_2 y190.length c0_2, .slice A0_3 l0_3.length c0_3, .slice A0_4 l0_4.length c0_4, .slice A0_5 l0_5.length c0_5, .bool a0_6, .bool a0_7]) ?_ 3 _ rfl; exact BK188.out))⟩; have n7_ : Aside0 (w19.heap[gb189]? = some (.cells #[.bool false, .bool false, .slice none 0 0, .slice none 0 0, .slice none 0 0, .slice none 0 0, .bool false, .bool false] 25 (0, 0))) := ⟨(by rw [hw]; exact (by refine blk_far ?_ NB189_188.out _; exact BK189.out))⟩; have n8_ : Aside0 (Below w.heap.size w w19) := ⟨(by rw [hw]; exact (by repeat (first | (with_reducible first | exact HB.out | apply below_alloc | apply pw_below_drewN | apply below_drew1 | refine below_set ?_ GE188.out | refine below_set ?_ GE189.out) | exact HB.out)))⟩; clear hw; clear HO0_2; clear HO0_3; clear HO0_4; clear HO0_5; clear HO194; clear HO199; clear BK188; clear BK189; clear HB; have HO0_2 := n0_; have HO0_3 := n1_; have HO0_4 := n2_; have HO0_5 := n3_; have HO194 := n4_; have HO199 := n5_; have BK188 := n6_; have BK189 := n7_; have HB := n8_; clear n0_ n1_ n2_ n3_ n4_ n5_ n6_ n7_ n8_; have hcz20_0 : w19.cell? ⟨gb188, 0, none⟩ = some (.bool a0_0) := (blk_cell BK188.out 0).trans rfl; have hcz20_1 : w19.cell? ⟨gb188, 1, none⟩ = some (.bool a0_1) := (blk_cell BK188.out 1).trans rfl; have hcz20_2 : w19.cell? ⟨gb188, 2, none⟩ = some (.slice A0_2 y190.length c0_2) := (blk_cell BK188.out 2).trans rfl; have hcz20_3 : w19.cell? ⟨gb188, 3, none⟩ = some (.slice A0_3 y195.length c0_3) := (blk_cell BK188.out 3).trans rfl; have hcz20_4 : w19.cell? ⟨gb188, 4, none⟩ = some (.slice A0_4 l0_4.length c0_4) := (blk_cell BK188.out 4).trans rfl; have hcz20_5 : w19.cell? ⟨gb188, 5, none⟩ = some (.slice A0_5 l0_5.length c0_5) := (blk_cell BK188.out 5).trans rfl; have hcz20_6 : w19.cell? ⟨gb188, 6, none⟩ = some (.bool a0_6) := (blk_cell BK188.out 6).trans rfl; have hcz20_7 : w19.cell? ⟨gb188, 7, none⟩ = some (.bool a0_7) := (blk_cell BK188.out 7).trans rfl; have hfz20_0 := blk_frozen BK188.out 0; have hfz20_1 := blk_frozen BK188.out 1; have hfz20_2 := blk_frozen BK188.out 2; have hfz20_3 := blk_frozen BK188.out 3; have hfz20_4 := blk_frozen BK188.out 4; have hfz20_5 := blk_frozen BK188.out 5; have hfz20_6 := blk_frozen BK188.out 6; have hfz20_7 := blk_frozen BK188.out 7; have q21 : ((ji8) : Int) ≤ ((l0_4.length : Int) : Int) := of_decide_eq_true (by first | (with_reducible assumption) | assumption); obtain ⟨i021, hi021, _, hsz21, _⟩ := info_parts info9; have hroom21 : l0_4.length ≤ c0_4 := (Kd.V_reads' HO0_4.out).2.1; have hC21 : Kd.F Kd.string _ _ A0_4 l0_4.length l0_4 := (Kd.V_at (base := w.heap.size) HO0_4.out).2.2; have hcut21 := cut_to (P := Try.prog) 22 9 .i64 Try.underlying22 hi021 A0_4 l0_4.length c0_4 (ji8) (of_decide_eq_true (by first | (with_reducible assumption) | assumption)) q21 hroom21; have hr21 := Kd.F_take (m := ((ji8) : Int).toNat) hC21 (by omega); have hy21 : y200.length = ((ji8) : Int).toNat := (by rw [Ny200.out, List.length_take]; omega); rw [← Ny200.out] at hr21; rw [← hy21] at hcut21; have HO204 := Aside0.mk (show Kd.V Kd.string 9 _ w.heap.size _ (.slice A0_4 y200.length c0_4) y200 from Kd.V_mk (by omega) hr21); have HC204 := Aside0.mk (show y200.length ≤ c0_4 from by omega); clear hr21 hC21 hroom21 hi021 hsz21; have KY21 := Aside0.mk hy21; clear hy21; replace q21 := eq_true q21) | ((with_reducible refine gate_dst (N := 29) rfl ?_); refine Kd.N_lit k35 _ 35 ?hg (N' := 29) ?hd (xs := ([] : List (S35))) (inner := []) (ok := (fun k_ => ((P0_2_ k_ ∨ P0_3_ k_ ∨ P0_4_ k_ ∨ P0_5_ k_) ∨ w.heap.size ≤ k_) ∧ k_ ≠ gb188 ∧ k_ ≠ gb189)) (okp := (fun k_ => ((P0_2_ k_ ∨ P0_3_ k_ ∨ P0_4_ k_ ∨ P0_5_ k_) ∨ w.heap.size ≤ k_) ∧ k_ ≠ gb188 ∧ k_ ≠ gb189)) ?hr ?hp (fun _ hk => hk) ((show ∀ k_, w19.heap.size ≤ k_ → (fun k_ => ((P0_2_ k_ ∨ P0_3_ k_ ∨ P0_4_ k_ ∨ P0_5_ k_) ∨ w.heap.size ≤ k_) ∧ k_ ≠ gb188 ∧ k_ ≠ gb189) k_ from fun k_ hk => ⟨(.inr (Nat.le_trans (below_size (by repeat (first | (with_reducible first | exact HB.out | apply below_alloc | apply pw_below_drewN | apply below_drew1 | refine below_set ?_ GE188.out | refine below_set ?_ GE189.out) | exact HB.out))) hk)), Kd.freshB (g := gb188) BK188.out k_ hk, Kd.freshB (g := gb189) BK189.out k_ hk⟩) _ (by first | exact Nat.le_refl _ | exact Nat.le_of_eq (World.size_setCell ..).symm)) (Below.refl _ _) (Nat.le_refl _) (by simp) ?_; (case hd => rfl); (case hg => rfl); (case hr => first | (go_simp; done) | (go_simp; rfl)); (case hp => exact (Reps.none _ _)); intro v206 w22 ho23 hb hg_ hnew_; clear hg_ hnew_; (first | rw [← Ny205.out] at ho23 | (simp only [Int.reduceToNat] at ho23; rw [← Ny205.out] at ho23)); have n0_ := Aside0.mk (Kd.V_elder' (by exact (Kd.V_mono (Kd.V_far (p := ⟨gb188, 4, none⟩) (Kd.V_mono HO0_2.out (fun k_ hk => (⟨hk, hk.2.1⟩ : _ ∧ k_ ≠ gb188))) (fun _ hk => hk.2) (.slice A0_4 y200.length c0_4)) (fun _ h_ => h_.1))) (Kd.N_base ho23) hb); have n1_ := Aside0.mk (Kd.V_elder' (by exact (Kd.V_mono (Kd.V_far (p := ⟨gb188, 4, none⟩) (Kd.V_mono HO0_3.out (fun k_ hk => (⟨hk, hk.2.1⟩ : _ ∧ k_ ≠ gb188))) (fun _ hk => hk.2) (.slice A0_4 y200.length c0_4)) (fun _ h_ => h_.1))) (Kd.N_base ho23) hb); have n2_ := Aside0.mk (Kd.V_elder' (by exact (Kd.V_mono (Kd.V_far (p := ⟨gb188, 4, none⟩) (Kd.V_mono HO0_4.out (fun k_ hk => (⟨hk, hk.2.1⟩ : _ ∧ k_ ≠ gb188))) (fun _ hk => hk.2) (.slice A0_4 y200.length c0_4)) (fun _ h_ => h_.1))) (Kd.N_base ho23) hb); have n3_ := Aside0.mk (Kd.V_elder' (by exact (Kd.V_mono (Kd.V_far (p := ⟨gb188, 4, none⟩) (Kd.V_mono HO0_5.out (fun k_ hk => (⟨hk, hk.2.1⟩ : _ ∧ k_ ≠ gb188))) (fun _ hk => hk.2) (.slice A0_4 y200.length c0_4)) (fun _ h_ => h_.1))) (Kd.N_base ho23) hb); have n4_ := Aside0.mk (Kd.V_elder' (by exact (Kd.V_mono (Kd.V_far (p := ⟨gb188, 4, none⟩) (Kd.V_mono HO194.out (fun k_ hk => (⟨hk, hk.2.1⟩ : _ ∧ k_ ≠ gb188))) (fun _ hk => hk.2) (.slice A0_4 y200.length c0_4)) (fun _ h_ => h_.1))) (Kd.N_base ho23) hb); have n5_ := Aside0.mk (Kd.V_elder' (by exact (Kd.V_mono (Kd.V_far (p := ⟨gb188, 4, none⟩) (Kd.V_mono HO199.out (fun k_ hk => (⟨hk, hk.2.1⟩ : _ ∧ k_ ≠ gb188))) (fun _ hk => hk.2) (.slice A0_4 y200.length c0_4)) (fun _ h_ => h_.1))) (Kd.N_base ho23) hb); have n6_ := Aside0.mk (Kd.V_elder' (by exact (Kd.V_mono (Kd.V_far (p := ⟨gb188, 4, none⟩) (Kd.V_mono HO204.out (fun k_ hk => (⟨hk, hk.2.1⟩ : _ ∧ k_ ≠ gb188))) (fun _ hk => hk.2) (.slice A0_4 y200.length c0_4)) (fun _ h_ => h_.1))) (Kd.N_base ho23) hb); have n7_ := Aside0.mk (Kd.N_lower ho23 (below_size (by repeat (first | (with_reducible first | exact HB.out | apply below_alloc | apply pw_below_drewN | apply below_drew1 | refine below_set ?_ GE188.out | refine below_set ?_ GE189.out) | exact HB.out)))); have n8_ := Aside0.mk (blk_below (g := gb188) (o := .cells #[.bool a0_0, .bool a0_1, .slice A0_2 y190.length c0_2, .slice A0_3 y195.length c0_3, .slice A0_4 y200.length c0_4, .slice A0_5 l0_5.length c0_5, .bool a0_6, .bool a0_7] 25 (0, 0)) (by refine blk_put (cs := #[.bool a0_0, .bool a0_1, .slice A0_2 y190.length c0_2, .slice A0_3 y195.length c0_3, .slice A0_4 l0_4.length c0_4, .slice A0_5 l0_5.length c0_5, .bool a0_6, .bool a0_7]) ?_ 4 _ rfl; exact BK188.out) hb); have n9_ := Aside0.mk (blk_below (g := gb189) (o := .cells #[.bool false, .bool false, .slice none 0 0, .slice none 0 0, .slice none 0 0, .slice none 0 0, .bool false, .bool false] 25 (0, 0)) (by refine blk_far ?_ NB189_188.out _; exact BK189.out) hb); have n10_ := Aside0.mk (below_step (by repeat (first | (with_reducible first | exact HB.out | apply below_alloc | apply pw_below_drewN | apply below_drew1 | refine below_set ?_ GE188.out | refine below_set ?_ GE189.out) | exact HB.out)) hb); clear HO0_2; clear HO0_3; clear HO0_4; clear HO0_5; clear HO194; clear HO199; clear HO204; clear BK188; clear BK189; clear HB; have HO0_2 := n0_; have HO0_3 := n1_; have HO0_4 := n2_; have HO0_5 := n3_; have HO194 := n4_; have HO199 := n5_; have HO204 := n6_; have HO207 := n7_; have BK188 := n8_; have BK189 := n9_; have HB := n10_; clear n0_ n1_ n2_ n3_ n4_ n5_ n6_ n7_ n8_ n9_ n10_; clear hb ho23))
       go_loopg [3, 4] k (fun kq v3 v4 w' => ∃ (x3_1 : List (S35)) (x4_1 : Int), v4 = .int .i64 x4_1 ∧ Aside0 (boltinglaw12_Bound.l0 kq x3_1 x4_1 a0_0 a0_1 y190 y195 y200 l0_5 a0_6 a0_7 = some (r1, r2, r3, r4, r5, r6, r7, r8)) ∧ Aside0 (kq ≤ k) ∧ Aside0 (Kd.N k35 35 w' w.heap.size (fun k_ => ((P0_2_ k_ ∨ P0_3_ k_ ∨ P0_4_ k_ ∨ P0_5_ k_) ∨ w.heap.size ≤ k_) ∧ k_ ≠ gb188 ∧ k_ ≠ gb189) v3 x3_1) ∧ Aside0 (Kd.V Kd.string 9 w' w.heap.size (fun k_ => ((P0_2_ k_ ∨ P0_3_ k_ ∨ P0_4_ k_ ∨ P0_5_ k_) ∨ w.heap.size ≤ k_) ∧ some k_ ≠ (v3 : Value).ownBlock ∧ k_ ≠ gb188 ∧ k_ ≠ gb189) (.slice A0_2 y190.length c0_2) y190) ∧ Aside0 (Kd.V Kd.string 9 w' w.heap.size (fun k_ => ((P0_2_ k_ ∨ P0_3_ k_ ∨ P0_4_ k_ ∨ P0_5_ k_) ∨ w.heap.size ≤ k_) ∧ some k_ ≠ (v3 : Value).ownBlock ∧ k_ ≠ gb188 ∧ k_ ≠ gb189) (.slice A0_3 y195.length c0_3) y195) ∧ Aside0 (Kd.V Kd.string 9 w' w.heap.size (fun k_ => ((P0_2_ k_ ∨ P0_3_ k_ ∨ P0_4_ k_ ∨ P0_5_ k_) ∨ w.heap.size ≤ k_) ∧ some k_ ≠ (v3 : Value).ownBlock ∧ k_ ≠ gb188 ∧ k_ ≠ gb189) (.slice A0_4 y200.length c0_4) y200) ∧ Aside0 (Kd.V k35 35 w' w.heap.size (fun k_ => ((P0_2_ k_ ∨ P0_3_ k_ ∨ P0_4_ k_ ∨ P0_5_ k_) ∨ w.heap.size ≤ k_) ∧ some k_ ≠ (v3 : Value).ownBlock ∧ k_ ≠ gb188 ∧ k_ ≠ gb189) (.slice A0_5 l0_5.length c0_5) l0_5) ∧ Aside0 (w'.heap[gb188]? = some (.cells #[.bool a0_0, .bool a0_1, (.slice A0_2 y190.length c0_2), (.slice A0_3 y195.length c0_3), (.slice A0_4 y200.length c0_4), (.slice A0_5 l0_5.length c0_5), .bool a0_6, .bool a0_7] 25 (0, 0))) ∧ Aside0 (w'.heap[gb189]? = some (.cells #[.bool false, .bool false, (.slice none 0 0), (.slice none 0 0), (.slice none 0 0), (.slice none 0 0), .bool false, .bool false] 25 (0, 0))) ∧ Aside0 (Below w.heap.size w w'))
       case atStart => exact ⟨(y205), (0), (by first | rfl | (simp; done) | (simp [*]; done)), H', ⟨Nat.le_refl _⟩, ⟨by exact HO207.out⟩, ⟨by exact Kd.V_mono HO194.out (fun _ hk => ⟨hk.1.1, ⟨hk.2, ⟨hk.1.2.1, hk.1.2.2⟩⟩⟩)⟩, ⟨by exact Kd.V_mono HO199.out (fun _ hk => ⟨hk.1.1, ⟨hk.2, ⟨hk.1.2.1, hk.1.2.2⟩⟩⟩)⟩, ⟨by exact Kd.V_mono HO204.out (fun _ hk => ⟨hk.1.1, ⟨hk.2, ⟨hk.1.2.1, hk.1.2.2⟩⟩⟩)⟩, ⟨by exact Kd.V_mono HO0_5.out (fun _ hk => ⟨hk.1.1, ⟨hk.2, ⟨hk.1.2.1, hk.1.2.2⟩⟩⟩)⟩, ⟨by exact BK188.out⟩, ⟨by exact BK189.out⟩, ⟨by repeat (first | (with_reducible first | exact HB.out | apply below_alloc | apply pw_below_drewN | apply below_drew1 | refine below_set ?_ GE188.out | refine below_set ?_ GE189.out) | exact HB.out)⟩⟩
       case round =>
        clear H'
        try clear c1
        try clear q1
        try clear p2
        try clear q2
        try clear c3
        try clear c3b0
        try clear c3b1
        try clear c4
        try clear c4b0
        try clear c4b1
        try clear c6
        try clear c6b0
        try clear c6b1
        try clear c7
        try clear c7b0
        try clear c7b1
        try clear c9
        try clear c9b0
        try clear c9b1
        try clear c10
        try clear c10b0
        try clear c10b1
        try clear c11
        try clear c13
        try clear q15
        try clear q18
        try clear q21
        try clear hcz14_0
        try clear hcz14_1
        try clear hcz14_2
        try clear hcz14_3
        try clear hcz14_4
        try clear hcz14_5
        try clear hcz14_6
        try clear hcz14_7
        try clear hcz17_0
        try clear hcz17_1
        try clear hcz17_2
        try clear hcz17_3
        try clear hcz17_4
        try clear hcz17_5
        try clear hcz17_6
        try clear hcz17_7
        try clear hcz20_0
        try clear hcz20_1
        try clear hcz20_2
        try clear hcz20_3
        try clear hcz20_4
        try clear hcz20_5
        try clear hcz20_6
        try clear hcz20_7
        try clear hfz14_0
        try clear hfz14_1
        try clear hfz14_2
        try clear hfz14_3
        try clear hfz14_4
        try clear hfz14_5
        try clear hfz14_6
        try clear hfz14_7
        try clear hfz17_0
        try clear hfz17_1
        try clear hfz17_2
        try clear hfz17_3
        try clear hfz17_4
        try clear hfz17_5
        try clear hfz17_6
        try clear hfz17_7
        try clear hfz20_0
        try clear hfz20_1
        try clear hfz20_2
        try clear hfz20_3
        try clear hfz20_4
        try clear hfz20_5
        try clear hfz20_6
        try clear hfz20_7
        try clear q15
        try clear q18
        try clear q21
        obtain ⟨x3_1, x4_1, rfl, HA, HK1, HO_3, HO_189002, HO_189003, HO_189004, HO_189005, BK188, BK189, HB⟩ := hrel
        cases gk with
        | zero => exact absurd HA.out (by simp [boltinglaw12_Bound.l0])
        | succ k1 =>
         have H := HA.out
         clear HA
         simp only [boltinglaw12_Bound.l0] at H
         by_cases c24 : x4_1 < (l0_5.length : Int)
         ·rw [if_pos c24] at H
          have c24b0 : decide (x4_1 < (l0_5.length : Int)) = true := decide_eq_true c24
          clear c24
          by_cases c25 : x4_1 < 12
          ·rw [if_pos c25] at H
           have c25b0 : decide (x4_1 < 12) = true := decide_eq_true c25
           clear c25
           by_cases c26 : 0 ≤ x4_1
           ·rw [if_pos c26] at H
            have c26b0 : decide (0 ≤ x4_1) = true := decide_eq_true c26
            clear c26
            obtain ⟨ji27, hji27⟩ : ∃ j_ : Int, (mn (((rd_T35 l0_5 x4_1).f1).length : Int) 70) = j_ := ⟨_, rfl⟩
            replace H : (if 0 ≤ (ji27) then (if (ji27) ≤ (((rd_T35 l0_5 x4_1).f1).length : Int) then (if x3_1.length < 3518437208883 then (boltinglaw12_Bound.l0 k1 (x3_1 ++ [(⟨(rd_T35 l0_5 x4_1).f0, (((rd_T35 l0_5 x4_1).f1).take ((ji27) : Int).toNat)⟩ : S35)]) (wrap64 (x4_1 + 1)) a0_0 a0_1 y190 y195 y200 l0_5 a0_6 a0_7) else (none)) else (none)) else (none)) = some (r1, r2, r3, r4, r5, r6, r7, r8) := by first | (rw [hji27] at H; exact H) | (simp only [hji27] at H ⊢; exact H)
            have hji27_ : (if 70 < (((rd_T35 l0_5 x4_1).f1).length : Int) then 70 else (((rd_T35 l0_5 x4_1).f1).length : Int)) = ji27 := hji27
            by_cases c28 : 0 ≤ (ji27)
            ·rw [if_pos c28] at H
             have c28b0 := eq_true c28
             have c28b1 : decide (0 ≤ (ji27)) = true := decide_eq_true c28
             clear c28
             by_cases c29 : (ji27) ≤ (((rd_T35 l0_5 x4_1).f1).length : Int)
             ·rw [if_pos c29] at H
              have c29b0 := eq_true c29
              have c29b1 : decide ((ji27) ≤ (((rd_T35 l0_5 x4_1).f1).length : Int)) = true := decide_eq_true c29
              clear c29
              obtain ⟨y211, hy211⟩ : ∃ y_ : List ByteArray, y_ = (((rd_T35 l0_5 x4_1).f1).take ((ji27) : Int).toNat) := ⟨_, rfl⟩
              replace H : (if x3_1.length < 3518437208883 then (boltinglaw12_Bound.l0 k1 (x3_1 ++ [(⟨(rd_T35 l0_5 x4_1).f0, y211⟩ : S35)]) (wrap64 (x4_1 + 1)) a0_0 a0_1 y190 y195 y200 l0_5 a0_6 a0_7) else (none)) = some (r1, r2, r3, r4, r5, r6, r7, r8) := by first | (rw [hy211]; with_reducible exact H) | (have H2_ := (Option.bind_some _ _).symm.trans H; rw [hy211]; with_reducible exact H2_) | (have H2_ := (Option.bind_some _ _).symm.trans H; with_reducible exact H2_) | with_reducible exact H | (rw [hy211]; exact H) | exact H
              have Ny211 := Aside0.mk hy211
              clear hy211
              by_cases c30 : x3_1.length < 3518437208883
              ·rw [if_pos c30] at H
               have LMc30 := Aside0.mk c30
               clear c30
               obtain ⟨y216, hy216⟩ : ∃ y_ : List (S35), y_ = (x3_1 ++ [(⟨(rd_T35 l0_5 x4_1).f0, y211⟩ : S35)]) := ⟨_, rfl⟩
               replace H : (boltinglaw12_Bound.l0 k1 y216 (wrap64 (x4_1 + 1)) a0_0 a0_1 y190 y195 y200 l0_5 a0_6 a0_7) = some (r1, r2, r3, r4, r5, r6, r7, r8) := by first | (rw [hy216]; with_reducible exact H) | (have H2_ := (Option.bind_some _ _).symm.trans H; rw [hy216]; with_reducible exact H2_) | (have H2_ := (Option.bind_some _ _).symm.trans H; with_reducible exact H2_) | with_reducible exact H | (rw [hy216]; exact H) | exact H
               have Ny216 := Aside0.mk hy216
               clear hy216
               have H' := Aside0.mk H
               clear H
               have hnb31 := NB188_189.out
               have hnc31 := NB189_188.out
               have hcz32_0 : wr.cell? ⟨gb188, 0, none⟩ = some (.bool a0_0) := (blk_cell BK188.out 0).trans rfl
               have hcz32_1 : wr.cell? ⟨gb188, 1, none⟩ = some (.bool a0_1) := (blk_cell BK188.out 1).trans rfl
               have hcz32_2 : wr.cell? ⟨gb188, 2, none⟩ = some (.slice A0_2 y190.length c0_2) := (blk_cell BK188.out 2).trans rfl
               have hcz32_3 : wr.cell? ⟨gb188, 3, none⟩ = some (.slice A0_3 y195.length c0_3) := (blk_cell BK188.out 3).trans rfl
               have hcz32_4 : wr.cell? ⟨gb188, 4, none⟩ = some (.slice A0_4 y200.length c0_4) := (blk_cell BK188.out 4).trans rfl
               have hcz32_5 : wr.cell? ⟨gb188, 5, none⟩ = some (.slice A0_5 l0_5.length c0_5) := (blk_cell BK188.out 5).trans rfl
               have hcz32_6 : wr.cell? ⟨gb188, 6, none⟩ = some (.bool a0_6) := (blk_cell BK188.out 6).trans rfl
               have hcz32_7 : wr.cell? ⟨gb188, 7, none⟩ = some (.bool a0_7) := (blk_cell BK188.out 7).trans rfl
               have hfz32_0 := blk_frozen BK188.out 0
               have hfz32_1 := blk_frozen BK188.out 1
               have hfz32_2 := blk_frozen BK188.out 2
               have hfz32_3 := blk_frozen BK188.out 3
               have hfz32_4 := blk_frozen BK188.out 4
               have hfz32_5 := blk_frozen BK188.out 5
               have hfz32_6 := blk_frozen BK188.out 6
               have hfz32_7 := blk_frozen BK188.out 7
               try go_wp2
               have n0_ := Aside0.mk (Kd.N_drew HO_3.out)
               have n1_ := Aside0.mk (Kd.V_drew HO_189002.out)
               have n2_ := Aside0.mk (Kd.V_drew HO_189003.out)
               have n3_ := Aside0.mk (Kd.V_drew HO_189004.out)
               have n4_ := Aside0.mk (Kd.V_drew HO_189005.out)
               have n5_ := Aside0.mk (blk_drew BK188.out)
               have n6_ := Aside0.mk (blk_drew BK189.out)
               have n7_ := Aside0.mk (below_drew1 HB.out)
               clear HO_3
               clear HO_189002
               clear HO_189003
               clear HO_189004
               clear HO_189005
               clear BK188
               clear BK189
               clear HB
               have HO_3 := n0_
               have HO_189002 := n1_
               have HO_189003 := n2_
               have HO_189004 := n3_
               have HO_189005 := n4_
               have BK188 := n5_
               have BK189 := n6_
               have HB := n7_
               clear n0_ n1_ n2_ n3_ n4_ n5_ n6_ n7_
               have p208 : 0 ≤ (x4_1 : Int) := of_decide_eq_true (by first | (with_reducible assumption) | assumption)
               have q208 : x4_1 < (l0_5.length : Int) := of_decide_eq_true (by first | (with_reducible assumption) | assumption)
               obtain ⟨ad208, A208_1, c208_1, e208, hx208_0, hx208_1, hl208_1, hi208_1⟩ := at_T35 (Kd.V_reads' HO_189005.out).2.2 x4_1 p208 q208
               cases e208
               obtain ⟨ce208, hce208, hMe208, hcc208⟩ := Kd.V_get HO_189005.out z35 x4_1 p208 (by first | exact q208 | exact of_decide_eq_true (by first | (with_reducible assumption) | assumption) | (have e_ := (Kd.V_reads' HO_189005.out).1; omega))
               obtain ⟨ua208_1, uc208_1, rfl, ul208_1, ge208_1⟩ := k35_openF hMe208
               have hv208_1 := hcc208 1 _ rfl
               rw [add_field _ _ 1 (by omega)] at hv208_1
               replace hv208_1 := Option.some.inj (hv208_1.symm.trans hx208_1)
               injection hv208_1 with hva_ hvn_ hvc_
               rw [hva_] at ge208_1
               rw [hvc_] at ul208_1
               have HL208_1 := Aside0.mk (show Kd.V Kd.string 9 _ w.heap.size _ _ ((rd_T35 l0_5 x4_1).f1) from Kd.V_mk ul208_1 ge208_1)
               clear hva_ hvn_ hvc_ ge208_1 ul208_1
               clear hcc208 hce208
               have HR208_1 := Aside0.mk hi208_1
               have HC208_1 := Aside0.mk hl208_1
               clear hi208_1 hl208_1
               replace p208 := eq_true p208
               replace q208 := eq_true q208
               have p209 : 0 ≤ (x4_1 : Int) := of_decide_eq_true (by first | (with_reducible assumption) | assumption)
               have q209 : x4_1 < (l0_5.length : Int) := of_decide_eq_true (by first | (with_reducible assumption) | assumption)
               obtain ⟨ad209, A209_1, c209_1, e209, hx209_0, hx209_1, hl209_1, hi209_1⟩ := at_T35 (Kd.V_reads' HO_189005.out).2.2 x4_1 p209 q209
               obtain rfl : ad208 = ad209 := (by injection e209)
               obtain ⟨ce209, hce209, hMe209, hcc209⟩ := Kd.V_get HO_189005.out z35 x4_1 p209 (by first | exact q209 | exact of_decide_eq_true (by first | (with_reducible assumption) | assumption) | (have e_ := (Kd.V_reads' HO_189005.out).1; omega))
               obtain ⟨ua209_1, uc209_1, rfl, ul209_1, ge209_1⟩ := k35_openF hMe209
               have hv209_1 := hcc209 1 _ rfl
               rw [add_field _ _ 1 (by omega)] at hv209_1
               replace hv209_1 := Option.some.inj (hv209_1.symm.trans hx209_1)
               injection hv209_1 with hva_ hvn_ hvc_
               rw [hva_] at ge209_1
               rw [hvc_] at ul209_1
               have HL209_1 := Aside0.mk (show Kd.V Kd.string 9 _ w.heap.size _ _ ((rd_T35 l0_5 x4_1).f1) from Kd.V_mk ul209_1 ge209_1)
               clear hva_ hvn_ hvc_ ge209_1 ul209_1
               clear hcc209 hce209
               have HR209_1 := Aside0.mk hi209_1
               have HC209_1 := Aside0.mk hl209_1
               clear hi209_1 hl209_1
               replace p209 := eq_true p209
               replace q209 := eq_true q209
               have ea_ := Option.some.inj (hx208_1.symm.trans hx209_1)
               injection ea_ with ea_ en_ ec_
               subst ea_
               subst ec_
               clear en_
               have p210 : 0 ≤ (x4_1 : Int) := of_decide_eq_true (by first | (with_reducible assumption) | assumption)
               have q210 : x4_1 < (l0_5.length : Int) := of_decide_eq_true (by first | (with_reducible assumption) | assumption)
               obtain ⟨ad210, A210_1, c210_1, e210, hx210_0, hx210_1, hl210_1, hi210_1⟩ := at_T35 (Kd.V_reads' HO_189005.out).2.2 x4_1 p210 q210
               obtain rfl : ad208 = ad210 := (by injection e210)
               obtain ⟨ce210, hce210, hMe210, hcc210⟩ := Kd.V_get HO_189005.out z35 x4_1 p210 (by first | exact q210 | exact of_decide_eq_true (by first | (with_reducible assumption) | assumption) | (have e_ := (Kd.V_reads' HO_189005.out).1; omega))
               obtain ⟨ua210_1, uc210_1, rfl, ul210_1, ge210_1⟩ := k35_openF hMe210
               have hv210_1 := hcc210 1 _ rfl
               rw [add_field _ _ 1 (by omega)] at hv210_1
               replace hv210_1 := Option.some.inj (hv210_1.symm.trans hx210_1)
               injection hv210_1 with hva_ hvn_ hvc_
               rw [hva_] at ge210_1
               rw [hvc_] at ul210_1
               have HL210_1 := Aside0.mk (show Kd.V Kd.string 9 _ w.heap.size _ _ ((rd_T35 l0_5 x4_1).f1) from Kd.V_mk ul210_1 ge210_1)
               clear hva_ hvn_ hvc_ ge210_1 ul210_1
               clear hcc210 hce210
               have HR210_1 := Aside0.mk hi210_1
               have HC210_1 := Aside0.mk hl210_1
               clear hi210_1 hl210_1
               replace p210 := eq_true p210
               replace q210 := eq_true q210
               have ea_ := Option.some.inj (hx208_1.symm.trans hx210_1)
               injection ea_ with ea_ en_ ec_
               subst ea_
               subst ec_
               clear en_
               have q34 : ((ji27) : Int) ≤ ((((rd_T35 l0_5 x4_1).f1).length : Int) : Int) := of_decide_eq_true (by first | (with_reducible assumption) | assumption)
               obtain ⟨i034, hi034, _, hsz34, _⟩ := info_parts info9
               have hroom34 : ((rd_T35 l0_5 x4_1).f1).length ≤ c208_1 := HC209_1.out
               have hC34 : Kd.F Kd.string _ _ A208_1 ((rd_T35 l0_5 x4_1).f1).length ((rd_T35 l0_5 x4_1).f1) := (Kd.V_at (base := w.heap.size) HL209_1.out).2.2
               have hcut34 := cut_to (P := Try.prog) 22 9 .i64 Try.underlying22 hi034 A208_1 ((rd_T35 l0_5 x4_1).f1).length c208_1 (ji27) (of_decide_eq_true (by first | (with_reducible assumption) | assumption)) q34 hroom34
               have hr34 := Kd.F_take (m := ((ji27) : Int).toNat) hC34 (by omega)
               have hy34 : y211.length = ((ji27) : Int).toNat := (by rw [Ny211.out, List.length_take]; omega)
               rw [← Ny211.out] at hr34
               rw [← hy34] at hcut34
               have HO215 := Aside0.mk (show Kd.V Kd.string 9 _ w.heap.size _ (.slice A208_1 y211.length c208_1) y211 from Kd.V_mk (by omega) hr34)
               have HC215 := Aside0.mk (show y211.length ≤ c208_1 from by omega)
               clear hr34 hC34 hroom34 hi034 hsz34
               have KY34 := Aside0.mk hy34
               clear hy34
               replace q34 := eq_true q34
               refine start_ (n := 26) (S := fun w' => w'.cell? ⟨gb188, 0, none⟩ = some (.bool a0_0) ∧ w'.cell? ⟨gb188, 1, none⟩ = some (.bool a0_1) ∧ w'.cell? ⟨gb188, 2, none⟩ = some (.slice A0_2 y190.length c0_2) ∧ w'.cell? ⟨gb188, 3, none⟩ = some (.slice A0_3 y195.length c0_3) ∧ w'.cell? ⟨gb188, 4, none⟩ = some (.slice A0_4 y200.length c0_4) ∧ w'.cell? ⟨gb188, 5, none⟩ = some (.slice (some ad208) l0_5.length c0_5) ∧ w'.cell? ⟨gb188, 6, none⟩ = some (.bool a0_6) ∧ w'.cell? ⟨gb188, 7, none⟩ = some (.bool a0_7) ∧ w'.cell? (ad208.add ((x4_1).toNat * 2)) = some (.string ((rd_T35 l0_5 x4_1).f0)) ∧ w'.cell? ⟨(ad208.add ((x4_1).toNat * 2)).block, (ad208.add ((x4_1).toNat * 2)).off + 1, none⟩ = some (.slice A208_1 ((rd_T35 l0_5 x4_1).f1).length c208_1) ∧ w'.cell? (ad208.add ((x4_1).toNat * 2)) = some (.string ((rd_T35 l0_5 x4_1).f0)) ∧ w'.cell? ⟨(ad208.add ((x4_1).toNat * 2)).block, (ad208.add ((x4_1).toNat * 2)).off + 1, none⟩ = some (.slice A208_1 ((rd_T35 l0_5 x4_1).f1).length c208_1) ∧ w'.cell? (ad208.add ((x4_1).toNat * 2)) = some (.string ((rd_T35 l0_5 x4_1).f0)) ∧ w'.cell? ⟨(ad208.add ((x4_1).toNat * 2)).block, (ad208.add ((x4_1).toNat * 2)).off + 1, none⟩ = some (.slice A208_1 ((rd_T35 l0_5 x4_1).f1).length c208_1)) (ds := [23, 24]) (tf 0 26) (by kernel_rfl) rfl rfl ⟨(blk_cell BK188.out 0).trans rfl, (blk_cell BK188.out 1).trans rfl, (blk_cell BK188.out 2).trans rfl, (blk_cell BK188.out 3).trans rfl, (blk_cell BK188.out 4).trans rfl, (blk_cell BK188.out 5).trans rfl, (blk_cell BK188.out 6).trans rfl, (blk_cell BK188.out 7).trans rfl, hx208_0, hx208_1, hx209_0, hx209_1, hx210_0, hx210_1⟩ (fun hHeld => ?_); refine with_tabW boltinglaw12_Bound.tab8 boltinglaw12_Bound.bits8 (fun HT_ HW_ => ?_)
               generalize wr.drew = w33 at HO_3 HO_189002 HO_189003 HO_189004 HO_189005 BK188 BK189 HB HL208_1 HL209_1 HL210_1 HO215 HR208_1 HR209_1 HR210_1 hx208_0 hx208_1 hx209_0 hx209_1 hx210_0 hx210_1 hHeld ⊢
               refine pure_ (i := 0) (N := some 41) (v := ?_) (a' := ?_) (tf 1 25) rfl rfl (any_of HT_.out (by kernel_rfl)) (fun _ _ _ h => h) (Or.inl ⟨by rfl, ?_⟩) ?_ ?_
               rotate_left
               ·intro w'
                go_simp
                with_reducible rfl
               rotate_left
               ·simp only [Act.put, List.setIfInBounds_toArray, List.set_cons_zero, List.set_cons_succ, i64_w, i32_w]
                rfl
               refine pure_ (i := 1) (N := some 42) (v := ?_) (a' := ?_) (tf 2 24) rfl rfl (any_of HT_.out (by kernel_rfl)) (fun _ _ _ h => h) (Or.inl ⟨by rfl, ?_⟩) ?_ ?_
               rotate_left
               ·intro w'
                go_simp
                with_reducible rfl
               rotate_left
               ·simp only [Act.put, List.setIfInBounds_toArray, List.set_cons_zero, List.set_cons_succ, i64_w, i32_w]
                rfl
               refine pure_ (i := 3) (N := some 44) (v := ?_) (a' := ?_) #[true, true, false, true, false, false, false, false, false, false, false, false, false, false, false, false, false, false, false, false, false, false, false, false, false, false] rfl rfl (any_of HT_.out (by kernel_rfl)) (fun _ _ _ h => h) (Or.inl ⟨by rfl, ?_⟩) ?_ ?_
               rotate_left
               ·intro w'
                go_simp
                with_reducible rfl
               rotate_left
               ·simp only [Act.put, List.setIfInBounds_toArray, List.set_cons_zero, List.set_cons_succ, i64_w, i32_w]
                rfl
               refine pure_ (i := 7) (N := some 48) (v := ?_) (a' := ?_) #[true, true, false, true, false, false, false, true, false, false, false, false, false, false, false, false, false, false, false, false, false, false, false, false, false, false] rfl rfl (any_of HT_.out (by kernel_rfl)) (fun _ _ _ h => h) (Or.inl ⟨by rfl, ?_⟩) ?_ ?_
               rotate_left
               ·intro w'
                go_simp
                with_reducible rfl
               rotate_left
               ·simp only [Act.put, List.setIfInBounds_toArray, List.set_cons_zero, List.set_cons_succ, i64_w, i32_w]
                rfl
               refine pure_ (i := 9) (N := some 50) (v := ?_) (a' := ?_) #[true, true, false, true, false, false, false, true, false, true, false, false, false, false, false, false, false, false, false, false, false, false, false, false, false, false] rfl rfl (any_of HT_.out (by kernel_rfl)) (fun _ _ _ h => h) (Or.inl ⟨by rfl, ?_⟩) ?_ ?_
               rotate_left
               ·intro w'
                go_simp
                with_reducible rfl
               rotate_left
               ·simp only [Act.put, List.setIfInBounds_toArray, List.set_cons_zero, List.set_cons_succ, i64_w, i32_w]
                rfl
               refine pure_ (i := 13) (N := some 54) (v := ?_) (a' := ?_) #[true, true, false, true, false, false, false, true, false, true, false, false, false, true, false, false, false, false, false, false, false, false, false, false, false, false] rfl rfl (any_of HT_.out (by kernel_rfl)) (fun _ _ _ h => h) (Or.inl ⟨by rfl, ?_⟩) ?_ ?_
               rotate_left
               ·intro w'
                go_simp
                with_reducible rfl
               rotate_left
               ·simp only [Act.put, List.setIfInBounds_toArray, List.set_cons_zero, List.set_cons_succ, i64_w, i32_w]
                rfl
               refine pure_ (i := 15) (N := some 56) (v := ?_) (a' := ?_) #[true, true, false, true, false, false, false, true, false, true, false, false, false, true, false, true, false, false, false, false, false, false, false, false, false, false] rfl rfl (any_of HT_.out (by kernel_rfl)) (fun _ _ _ h => h) (Or.inl ⟨by rfl, ?_⟩) ?_ ?_
               rotate_left
               ·intro w'
                go_simp
                with_reducible rfl
               rotate_left
               ·simp only [Act.put, List.setIfInBounds_toArray, List.set_cons_zero, List.set_cons_succ, i64_w, i32_w]
                rfl
               refine take_ (i := 2) (N := some 43) (v := ?_) (a' := ?_) #[true, true, true, true, false, false, false, true, false, true, false, false, false, true, false, true, false, false, false, false, false, false, false, false, false, false] rfl rfl (take_ofW HT_.out HW_.out (by kernel_rfl)) (fun _ _ _ h => h) (Or.inl ⟨by rfl, ?_⟩) hHeld ?_ ?_
               rotate_left
               ·rintro w' ⟨s0, s1, s2, s3, s4, s5, s6, s7, s8, s9, s10, s11, s12, s13⟩
                go_simp
                with_reducible rfl
               rotate_left
               ·simp only [Act.put, List.setIfInBounds_toArray, List.set_cons_zero, List.set_cons_succ, i64_w, i32_w]
                rfl
               refine pure_ (i := 4) (N := some 45) (v := ?_) (a' := ?_) #[true, true, true, true, true, false, false, true, false, true, false, false, false, true, false, true, false, false, false, false, false, false, false, false, false, false] rfl rfl (any_of HT_.out (by kernel_rfl)) (fun _ _ _ h => h) (Or.inl ⟨by rfl, ?_⟩) ?_ ?_
               rotate_left
               ·intro w'
                go_simp
                with_reducible rfl
               rotate_left
               ·simp only [Act.put, List.setIfInBounds_toArray, List.set_cons_zero, List.set_cons_succ, i64_w, i32_w]
                rfl
               refine pure_ (i := 5) (N := some 46) (v := ?_) (a' := ?_) #[true, true, true, true, true, true, false, true, false, true, false, false, false, true, false, true, false, false, false, false, false, false, false, false, false, false] rfl rfl (any_of HT_.out (by kernel_rfl)) (fun _ _ _ h => h) (Or.inl ⟨by rfl, ?_⟩) ?_ ?_
               rotate_left
               ·intro w'
                go_simp
                with_reducible rfl
               rotate_left
               ·simp only [Act.put, List.setIfInBounds_toArray, List.set_cons_zero, List.set_cons_succ, i64_w, i32_w]
                rfl
               refine take_ (i := 6) (N := some 47) (v := ?_) (a' := ?_) #[true, true, true, true, true, true, true, true, false, true, false, false, false, true, false, true, false, false, false, false, false, false, false, false, false, false] rfl rfl (take_ofW HT_.out HW_.out (by kernel_rfl)) (fun _ _ _ h => h) (Or.inl ⟨by rfl, ?_⟩) hHeld ?_ ?_
               rotate_left
               ·rintro w' ⟨s0, s1, s2, s3, s4, s5, s6, s7, s8, s9, s10, s11, s12, s13⟩
                go_simp
                with_reducible rfl
               rotate_left
               ·simp only [Act.put, List.setIfInBounds_toArray, List.set_cons_zero, List.set_cons_succ, i64_w, i32_w]
                rfl
               refine take_ (i := 8) (N := some 49) (v := ?_) (a' := ?_) #[true, true, true, true, true, true, true, true, true, true, false, false, false, true, false, true, false, false, false, false, false, false, false, false, false, false] rfl rfl (take_ofW HT_.out HW_.out (by kernel_rfl)) (fun _ _ _ h => h) (Or.inl ⟨by rfl, ?_⟩) hHeld ?_ ?_
               rotate_left
               ·rintro w' ⟨s0, s1, s2, s3, s4, s5, s6, s7, s8, s9, s10, s11, s12, s13⟩
                go_simp
                with_reducible rfl
               rotate_left
               ·simp only [Act.put, List.setIfInBounds_toArray, List.set_cons_zero, List.set_cons_succ, i64_w, i32_w]
                rfl
               refine pure_ (i := 10) (N := some 51) (v := ?_) (a' := ?_) #[true, true, true, true, true, true, true, true, true, true, true, false, false, true, false, true, false, false, false, false, false, false, false, false, false, false] rfl rfl (any_of HT_.out (by kernel_rfl)) (fun _ _ _ h => h) (Or.inl ⟨by rfl, ?_⟩) ?_ ?_
               rotate_left
               ·intro w'
                go_simp
                with_reducible rfl
               rotate_left
               ·simp only [Act.put, List.setIfInBounds_toArray, List.set_cons_zero, List.set_cons_succ, i64_w, i32_w]
                rfl
               refine pure_ (i := 11) (N := some 52) (v := ?_) (a' := ?_) #[true, true, true, true, true, true, true, true, true, true, true, true, false, true, false, true, false, false, false, false, false, false, false, false, false, false] rfl rfl (any_of HT_.out (by kernel_rfl)) (fun _ _ _ h => h) (Or.inl ⟨by rfl, ?_⟩) ?_ ?_
               rotate_left
               ·intro w'
                go_simp
                with_reducible rfl
               rotate_left
               ·simp only [Act.put, List.setIfInBounds_toArray, List.set_cons_zero, List.set_cons_succ, i64_w, i32_w]
                rfl
               refine take_ (i := 12) (N := some 53) (v := ?_) (a' := ?_) #[true, true, true, true, true, true, true, true, true, true, true, true, true, true, false, true, false, false, false, false, false, false, false, false, false, false] rfl rfl (take_ofW HT_.out HW_.out (by kernel_rfl)) (fun _ _ _ h => h) (Or.inl ⟨by rfl, ?_⟩) hHeld ?_ ?_
               rotate_left
               ·rintro w' ⟨s0, s1, s2, s3, s4, s5, s6, s7, s8, s9, s10, s11, s12, s13⟩
                go_simp
                with_reducible rfl
               rotate_left
               ·simp only [Act.put, List.setIfInBounds_toArray, List.set_cons_zero, List.set_cons_succ, i64_w, i32_w]
                rfl
               refine take_ (i := 14) (N := some 55) (v := ?_) (a' := ?_) (tf 16 10) rfl rfl (take_ofW HT_.out HW_.out (by kernel_rfl)) (fun _ _ _ h => h) (Or.inl ⟨by rfl, ?_⟩) hHeld ?_ ?_
               rotate_left
               ·rintro w' ⟨s0, s1, s2, s3, s4, s5, s6, s7, s8, s9, s10, s11, s12, s13⟩
                go_simp
                with_reducible rfl
               rotate_left
               ·simp only [Act.put, List.setIfInBounds_toArray, List.set_cons_zero, List.set_cons_succ, i64_w, i32_w]
                rfl
               refine pure_ (i := 16) (N := some 57) (v := ?_) (a' := ?_) (tf 17 9) rfl rfl (any_of HT_.out (by kernel_rfl)) (fun _ _ _ h => h) (Or.inl ⟨by rfl, ?_⟩) ?_ ?_
               rotate_left
               ·intro w'
                go_simp
                with_reducible rfl
               rotate_left
               ·simp only [Act.put, List.setIfInBounds_toArray, List.set_cons_zero, List.set_cons_succ, i64_w, i32_w]
                rfl
               refine pure_ (i := 17) (N := some 58) (v := ?_) (a' := ?_) (tf 18 8) rfl rfl (any_of HT_.out (by kernel_rfl)) (fun _ _ _ h => h) (Or.inl ⟨by rfl, ?_⟩) ?_ ?_
               rotate_left
               ·intro w'
                go_simp
                with_reducible rfl
               rotate_left
               ·simp only [Act.put, List.setIfInBounds_toArray, List.set_cons_zero, List.set_cons_succ, i64_w, i32_w]
                rfl
               refine take_ (i := 18) (N := some 59) (v := ?_) (a' := ?_) (tf 19 7) rfl rfl (take_ofW HT_.out HW_.out (by kernel_rfl)) (fun _ _ _ h => h) (Or.inl ⟨by rfl, ?_⟩) hHeld ?_ ?_
               rotate_left
               ·rintro w' ⟨s0, s1, s2, s3, s4, s5, s6, s7, s8, s9, s10, s11, s12, s13⟩
                go_simp
                with_reducible rfl
               rotate_left
               ·simp only [Act.put, List.setIfInBounds_toArray, List.set_cons_zero, List.set_cons_succ, i64_w, i32_w]
                rfl
               refine pure_ (i := 19) (N := some 60) (v := ?_) (a' := ?_) (tf 20 6) rfl rfl (any_of HT_.out (by kernel_rfl)) (fun _ _ _ h => h) (Or.inl ⟨by rfl, ?_⟩) ?_ ?_
               rotate_left
               ·intro w'
                go_simp
                with_reducible rfl
               rotate_left
               ·simp only [Act.put, List.setIfInBounds_toArray, List.set_cons_zero, List.set_cons_succ, i64_w, i32_w]
                rfl
               refine pure_ (i := 20) (N := some 61) (v := ?_) (a' := ?_) (tf 21 5) rfl rfl (any_of HT_.out (by kernel_rfl)) (fun _ _ _ h => h) (Or.inl ⟨by rfl, ?_⟩) ?_ ?_
               rotate_left
               ·intro w'
                go_simp
                with_reducible rfl
               rotate_left
               ·simp only [Act.put, List.setIfInBounds_toArray, List.set_cons_zero, List.set_cons_succ, i64_w, i32_w]
                rfl
               refine pure_ (i := 21) (N := some 62) (v := ?_) (a' := ?_) (tf 22 4) rfl rfl (any_of HT_.out (by kernel_rfl)) (fun _ _ _ h => h) (Or.inl ⟨by rfl, ?_⟩) ?_ ?_
               rotate_left
               ·intro w'
                go_simp
                with_reducible rfl
               rotate_left
               ·simp only [Act.put, List.setIfInBounds_toArray, List.set_cons_zero, List.set_cons_succ, i64_w, i32_w]
                rfl
               refine pure_ (i := 22) (N := some 63) (v := ?_) (a' := ?_) (tf 23 3) rfl rfl (any_of HT_.out (by kernel_rfl)) (fun _ _ _ h => h) (Or.inl ⟨by rfl, ?_⟩) ?_ ?_
               rotate_left
               ·intro w'
                go_simp
                with_reducible rfl
               rotate_left
               ·simp only [Act.put, List.setIfInBounds_toArray, List.set_cons_zero, List.set_cons_succ, i64_w, i32_w]
                rfl
               refine last_ (i := 23) (N := some 64) (tf 24 2) rfl rfl (one_of HT_.out (by kernel_rfl)) (by decide) (fun K hK => ?_)
               refine value_ (w1 := ?_) (v := ?_) (by rfl) rfl ?_ ?_
               rotate_left 2
               ·go_simp
                constructor
                ·rfl
                ·rfl
               refine hK.out _ _ ?_
               clear hK K
               refine norm_ (a' := ?_) ?_ ?_
               rotate_left
               ·show Act.put _ (some 64) _ = _
                simp only [Act.put, List.setIfInBounds_toArray, List.set_cons_zero, List.set_cons_succ, i64_w, i32_w]
                rfl
               refine last_ (i := 24) (N := some 65) (tf 25 1) rfl rfl (one_of HT_.out (by kernel_rfl)) (by decide) (fun K hK => ?_)
               refine Kd.N_append_step k35 (w0 := w) w.heap.size (by rfl) (.tmp 41) (.tmp 64) 23 35 (.agg #[(.string ⟨#[]⟩), (.slice none 0 0)]) 40 rfl Try.underlying23 info35 rfl (by decide) (by omega) u3 x3_1 (⟨(rd_T35 l0_5 x4_1).f0, y211⟩ : S35) [.string ((rd_T35 l0_5 x4_1).f0), .slice A208_1 y211.length c208_1] (fun k_ => ((P0_2_ k_ ∨ P0_3_ k_ ∨ P0_4_ k_ ∨ P0_5_ k_) ∨ w.heap.size ≤ k_) ∧ k_ ≠ gb188 ∧ k_ ≠ gb189) (fun k_ => ((fun k_ => ((P0_2_ k_ ∨ P0_3_ k_ ∨ P0_4_ k_ ∨ P0_5_ k_) ∨ w.heap.size ≤ k_) ∧ k_ ≠ gb188 ∧ k_ ≠ gb189)) k_ ∧ some k_ ≠ (u3 : Value).ownBlock) rfl rfl ?aP (fun _ hk => hk) ?aF ?aO ?aB ?aS ?aL ?_
               (case aP => exact (k35_mkF _ _ (⟨(rd_T35 l0_5 x4_1).f0, y211⟩ : S35) (Kd.V_reads' (Kd.V_mono (ok' := (fun k_ => ((fun k_ => ((P0_2_ k_ ∨ P0_3_ k_ ∨ P0_4_ k_ ∨ P0_5_ k_) ∨ w.heap.size ≤ k_) ∧ k_ ≠ gb188 ∧ k_ ≠ gb189)) k_ ∧ some k_ ≠ (u3 : Value).ownBlock)) (HO215.out) (fun k_ hk => ⟨⟨hk.1, ⟨hk.2.2.1, hk.2.2.2⟩⟩, hk.2.1⟩))).2.1 (Kd.V_F (Kd.V_mono (ok' := (fun k_ => ((fun k_ => ((P0_2_ k_ ∨ P0_3_ k_ ∨ P0_4_ k_ ∨ P0_5_ k_) ∨ w.heap.size ≤ k_) ∧ k_ ≠ gb188 ∧ k_ ≠ gb189)) k_ ∧ some k_ ≠ (u3 : Value).ownBlock)) (HO215.out) (fun k_ hk => ⟨⟨hk.1, ⟨hk.2.2.1, hk.2.2.2⟩⟩, hk.2.1⟩)))))
               (case aB => exact (by repeat (first | (with_reducible first | exact HB.out | apply below_alloc | apply pw_below_drewN | apply below_drew1 | refine below_set ?_ GE188.out | refine below_set ?_ GE189.out) | exact HB.out)))
               (case aF => exact (fun k_ hk => ⟨(.inr (Nat.le_trans (below_size (by repeat (first | (with_reducible first | exact HB.out | apply below_alloc | apply pw_below_drewN | apply below_drew1 | refine below_set ?_ GE188.out | refine below_set ?_ GE189.out) | exact HB.out))) hk)), Kd.freshB (g := gb188) (o := .cells #[.bool a0_0, .bool a0_1, .slice A0_2 y190.length c0_2, .slice A0_3 y195.length c0_3, .slice A0_4 y200.length c0_4, .slice (some ad208) l0_5.length c0_5, .bool a0_6, .bool a0_7] 25 (0, 0)) (by exact BK188.out) k_ hk, Kd.freshB (g := gb189) (o := .cells #[.bool false, .bool false, .slice none 0 0, .slice none 0 0, .slice none 0 0, .slice none 0 0, .bool false, .bool false] 25 (0, 0)) (by exact BK189.out) k_ hk⟩))
               (case aO => exact (by exact HO_3.out))
               (case aS => exact (below_size (by repeat (first | (with_reducible first | exact HB.out | apply below_alloc | apply pw_below_drewN | apply below_drew1 | refine below_set ?_ GE188.out | refine below_set ?_ GE189.out) | exact HB.out))))
               (case aL => have := LMc30.out; omega)
               intro v217 w35 ho hb hg hat
               rw [← Ny216.out] at ho
               have n0_ := Aside0.mk (Kd.V_afterv (ok := (fun k_ => ((P0_2_ k_ ∨ P0_3_ k_ ∨ P0_4_ k_ ∨ P0_5_ k_) ∨ w.heap.size ≤ k_) ∧ k_ ≠ gb188 ∧ k_ ≠ gb189)) (by exact Kd.V_mono HO_189002.out (fun _ hk => ⟨⟨hk.1, ⟨hk.2.2.1, hk.2.2.2⟩⟩, hk.2.1⟩)) hg hat)
               have n1_ := Aside0.mk (Kd.V_afterv (ok := (fun k_ => ((P0_2_ k_ ∨ P0_3_ k_ ∨ P0_4_ k_ ∨ P0_5_ k_) ∨ w.heap.size ≤ k_) ∧ k_ ≠ gb188 ∧ k_ ≠ gb189)) (by exact Kd.V_mono HO_189003.out (fun _ hk => ⟨⟨hk.1, ⟨hk.2.2.1, hk.2.2.2⟩⟩, hk.2.1⟩)) hg hat)
               have n2_ := Aside0.mk (Kd.V_afterv (ok := (fun k_ => ((P0_2_ k_ ∨ P0_3_ k_ ∨ P0_4_ k_ ∨ P0_5_ k_) ∨ w.heap.size ≤ k_) ∧ k_ ≠ gb188 ∧ k_ ≠ gb189)) (by exact Kd.V_mono HO_189004.out (fun _ hk => ⟨⟨hk.1, ⟨hk.2.2.1, hk.2.2.2⟩⟩, hk.2.1⟩)) hg hat)
               have n3_ := Aside0.mk (Kd.V_afterv (ok := (fun k_ => ((P0_2_ k_ ∨ P0_3_ k_ ∨ P0_4_ k_ ∨ P0_5_ k_) ∨ w.heap.size ≤ k_) ∧ k_ ≠ gb188 ∧ k_ ≠ gb189)) (by exact Kd.V_mono HO_189005.out (fun _ hk => ⟨⟨hk.1, ⟨hk.2.2.1, hk.2.2.2⟩⟩, hk.2.1⟩)) hg hat)
               have n4_ := Aside0.mk (blk_grown (g := gb188) (o := .cells #[.bool a0_0, .bool a0_1, .slice A0_2 y190.length c0_2, .slice A0_3 y195.length c0_3, .slice A0_4 y200.length c0_4, .slice (some ad208) l0_5.length c0_5, .bool a0_6, .bool a0_7] 25 (0, 0)) (by exact BK188.out) hg (Kd.N_ne HO_3.out BK188.out (by decide)))
               have n5_ := Aside0.mk (blk_grown (g := gb189) (o := .cells #[.bool false, .bool false, .slice none 0 0, .slice none 0 0, .slice none 0 0, .slice none 0 0, .bool false, .bool false] 25 (0, 0)) (by exact BK189.out) hg (Kd.N_ne HO_3.out BK189.out (by decide)))
               have n6_ := Aside0.mk (Kd.V_afterv (ok := (fun k_ => ((P0_2_ k_ ∨ P0_3_ k_ ∨ P0_4_ k_ ∨ P0_5_ k_) ∨ w.heap.size ≤ k_) ∧ k_ ≠ gb188 ∧ k_ ≠ gb189)) (by exact Kd.V_mono HL208_1.out (fun _ hk => ⟨⟨hk.1, ⟨hk.2.2.1, hk.2.2.2⟩⟩, hk.2.1⟩)) hg hat)
               have n7_ := Aside0.mk (Kd.V_afterv (ok := (fun k_ => ((P0_2_ k_ ∨ P0_3_ k_ ∨ P0_4_ k_ ∨ P0_5_ k_) ∨ w.heap.size ≤ k_) ∧ k_ ≠ gb188 ∧ k_ ≠ gb189)) (by exact Kd.V_mono HL209_1.out (fun _ hk => ⟨⟨hk.1, ⟨hk.2.2.1, hk.2.2.2⟩⟩, hk.2.1⟩)) hg hat)
               have n8_ := Aside0.mk (Kd.V_afterv (ok := (fun k_ => ((P0_2_ k_ ∨ P0_3_ k_ ∨ P0_4_ k_ ∨ P0_5_ k_) ∨ w.heap.size ≤ k_) ∧ k_ ≠ gb188 ∧ k_ ≠ gb189)) (by exact Kd.V_mono HL210_1.out (fun _ hk => ⟨⟨hk.1, ⟨hk.2.2.1, hk.2.2.2⟩⟩, hk.2.1⟩)) hg hat)
               have n9_ := Aside0.mk (Kd.V_afterv (ok := (fun k_ => ((P0_2_ k_ ∨ P0_3_ k_ ∨ P0_4_ k_ ∨ P0_5_ k_) ∨ w.heap.size ≤ k_) ∧ k_ ≠ gb188 ∧ k_ ≠ gb189)) (by exact Kd.V_mono HO215.out (fun _ hk => ⟨⟨hk.1, ⟨hk.2.2.1, hk.2.2.2⟩⟩, hk.2.1⟩)) hg hat)
               have n10_ := Aside0.mk (hb)
               have n11_ := Aside0.mk (ho)
               clear HO_189002
               clear HO_189003
               clear HO_189004
               clear HO_189005
               clear BK188
               clear BK189
               clear HL208_1
               clear HL209_1
               clear HL210_1
               clear HO215
               clear HB
               clear HO_3
               have HO_189002 := n0_
               have HO_189003 := n1_
               have HO_189004 := n2_
               have HO_189005 := n3_
               have BK188 := n4_
               have BK189 := n5_
               have HL208_1 := n6_
               have HL209_1 := n7_
               have HL210_1 := n8_
               have HO215 := n9_
               have HB := n10_
               have HO218 := n11_
               clear n0_ n1_ n2_ n3_ n4_ n5_ n6_ n7_ n8_ n9_ n10_ n11_
               clear ho hb hg hat
               refine hK.out _ _ ?_
               clear hK K
               refine norm_ (a' := ?_) ?_ ?_
               rotate_left
               ·show Act.put _ (some 65) _ = _
                simp only [Act.put, List.setIfInBounds_toArray, List.set_cons_zero, List.set_cons_succ, i64_w, i32_w]
                rfl
               refine pure_ (i := 25) (N := some 3) (v := ?_) (a' := ?_) (tf 26 0) rfl rfl (any_of HT_.out (by kernel_rfl)) (fun _ _ _ h => h) (Or.inl ⟨by rfl, ?_⟩) ?_ ?_
               rotate_left
               ·intro w'
                go_simp
                with_reducible rfl
               rotate_left
               ·simp only [Act.put, List.setIfInBounds_toArray, List.set_cons_zero, List.set_cons_succ, i64_w, i32_w]
                rfl
               refine done_ (done_of HT_.out (by kernel_rfl)) ?_
               try go_wp2
               go_roundg k1
               case measure => have := HK1.out; omega
               case rel => exact ⟨(y216), (wrap64 (x4_1 + 1)), (by first | rfl | (simp; done) | (simp [*]; done)), H', ⟨by have := HK1.out; omega⟩, ⟨by exact HO218.out⟩, ⟨by exact Kd.V_mono HO_189002.out (fun _ hk => ⟨hk.1.1, ⟨hk.2, ⟨hk.1.2.1, hk.1.2.2⟩⟩⟩)⟩, ⟨by exact Kd.V_mono HO_189003.out (fun _ hk => ⟨hk.1.1, ⟨hk.2, ⟨hk.1.2.1, hk.1.2.2⟩⟩⟩)⟩, ⟨by exact Kd.V_mono HO_189004.out (fun _ hk => ⟨hk.1.1, ⟨hk.2, ⟨hk.1.2.1, hk.1.2.2⟩⟩⟩)⟩, ⟨by exact Kd.V_mono HO_189005.out (fun _ hk => ⟨hk.1.1, ⟨hk.2, ⟨hk.1.2.1, hk.1.2.2⟩⟩⟩)⟩, ⟨by exact BK188.out⟩, ⟨by exact BK189.out⟩, ⟨by repeat (first | (with_reducible first | exact HB.out | apply below_alloc | apply pw_below_drewN | apply below_drew1 | refine below_set ?_ GE188.out | refine below_set ?_ GE189.out) | exact HB.out)⟩⟩
              ·rw [if_neg c30] at H
               exact absurd H (by simp)
             ·rw [if_neg c29] at H
              exact absurd H (by simp)
            ·rw [if_neg c28] at H
             exact absurd H (by simp)
           ·rw [if_neg c26] at H
            exact absurd H (by simp)
          ·rw [if_neg c25] at H
           have c25b0 : decide (x4_1 < 12) = false := decide_eq_false c25
           clear c25
           simp only [Option.some.injEq, Prod.mk.injEq] at H
           obtain ⟨rfl, rfl, rfl, rfl, rfl, rfl, rfl, rfl⟩ := H
           have hnb36 := NB188_189.out
           have hnc36 := NB189_188.out
           have hcz37_0 : wr.cell? ⟨gb188, 0, none⟩ = some (.bool a0_0) := (blk_cell BK188.out 0).trans rfl
           have hcz37_1 : wr.cell? ⟨gb188, 1, none⟩ = some (.bool a0_1) := (blk_cell BK188.out 1).trans rfl
           have hcz37_2 : wr.cell? ⟨gb188, 2, none⟩ = some (.slice A0_2 y190.length c0_2) := (blk_cell BK188.out 2).trans rfl
           have hcz37_3 : wr.cell? ⟨gb188, 3, none⟩ = some (.slice A0_3 y195.length c0_3) := (blk_cell BK188.out 3).trans rfl
           have hcz37_4 : wr.cell? ⟨gb188, 4, none⟩ = some (.slice A0_4 y200.length c0_4) := (blk_cell BK188.out 4).trans rfl
           have hcz37_5 : wr.cell? ⟨gb188, 5, none⟩ = some (.slice A0_5 l0_5.length c0_5) := (blk_cell BK188.out 5).trans rfl
           have hcz37_6 : wr.cell? ⟨gb188, 6, none⟩ = some (.bool a0_6) := (blk_cell BK188.out 6).trans rfl
           have hcz37_7 : wr.cell? ⟨gb188, 7, none⟩ = some (.bool a0_7) := (blk_cell BK188.out 7).trans rfl
           have hfz37_0 := blk_frozen BK188.out 0
           have hfz37_1 := blk_frozen BK188.out 1
           have hfz37_2 := blk_frozen BK188.out 2
           have hfz37_3 := blk_frozen BK188.out 3
           have hfz37_4 := blk_frozen BK188.out 4
           have hfz37_5 := blk_frozen BK188.out 5
           have hfz37_6 := blk_frozen BK188.out 6
           have hfz37_7 := blk_frozen BK188.out 7
           obtain ⟨Ao38, co38, eo38⟩ := Kd.N_slice HO_3.out
           subst eo38
           have hcz39_0 : wr.cell? ⟨gb189, 0, none⟩ = some (.bool false) := (blk_cell BK189.out 0).trans rfl
           have hcz39_1 : wr.cell? ⟨gb189, 1, none⟩ = some (.bool false) := (blk_cell BK189.out 1).trans rfl
           have hcz39_2 : wr.cell? ⟨gb189, 2, none⟩ = some (.slice none 0 0) := (blk_cell BK189.out 2).trans rfl
           have hcz39_3 : wr.cell? ⟨gb189, 3, none⟩ = some (.slice none 0 0) := (blk_cell BK189.out 3).trans rfl
           have hcz39_4 : wr.cell? ⟨gb189, 4, none⟩ = some (.slice none 0 0) := (blk_cell BK189.out 4).trans rfl
           have hcz39_5 : wr.cell? ⟨gb189, 5, none⟩ = some (.slice none 0 0) := (blk_cell BK189.out 5).trans rfl
           have hcz39_6 : wr.cell? ⟨gb189, 6, none⟩ = some (.bool false) := (blk_cell BK189.out 6).trans rfl
           have hcz39_7 : wr.cell? ⟨gb189, 7, none⟩ = some (.bool false) := (blk_cell BK189.out 7).trans rfl
           have hfz39_0 := blk_frozen BK189.out 0
           have hfz39_1 := blk_frozen BK189.out 1
           have hfz39_2 := blk_frozen BK189.out 2
           have hfz39_3 := blk_frozen BK189.out 3
           have hfz39_4 := blk_frozen BK189.out 4
           have hfz39_5 := blk_frozen BK189.out 5
           have hfz39_6 := blk_frozen BK189.out 6
           have hfz39_7 := blk_frozen BK189.out 7
           go_wp2
           refine bodyPost_ret (results_cell_row rfl _ _ gb189 25 #[.bool a0_0, .bool a0_1, .slice A0_2 y190.length c0_2, .slice A0_3 y195.length c0_3, .slice A0_4 y200.length c0_4, .slice Ao38 x3_1.length co38, .bool a0_6, .bool a0_7] (0, 0) _ rfl (by refine blk_put (cs := #[.bool a0_0, .bool a0_1, .slice A0_2 y190.length c0_2, .slice A0_3 y195.length c0_3, .slice A0_4 y200.length c0_4, .slice Ao38 x3_1.length co38, .bool a0_6, .bool false]) ?_ 7 _ rfl; refine blk_put (cs := #[.bool a0_0, .bool a0_1, .slice A0_2 y190.length c0_2, .slice A0_3 y195.length c0_3, .slice A0_4 y200.length c0_4, .slice Ao38 x3_1.length co38, .bool false, .bool false]) ?_ 6 _ rfl; refine blk_put (cs := #[.bool a0_0, .bool a0_1, .slice A0_2 y190.length c0_2, .slice A0_3 y195.length c0_3, .slice A0_4 y200.length c0_4, .slice none 0 0, .bool false, .bool false]) ?_ 5 _ rfl; refine blk_put (cs := #[.bool a0_0, .bool a0_1, .slice A0_2 y190.length c0_2, .slice A0_3 y195.length c0_3, .slice none 0 0, .slice none 0 0, .bool false, .bool false]) ?_ 4 _ rfl; refine blk_put (cs := #[.bool a0_0, .bool a0_1, .slice A0_2 y190.length c0_2, .slice none 0 0, .slice none 0 0, .slice none 0 0, .bool false, .bool false]) ?_ 3 _ rfl; refine blk_put (cs := #[.bool a0_0, .bool a0_1, .slice none 0 0, .slice none 0 0, .slice none 0 0, .slice none 0 0, .bool false, .bool false]) ?_ 2 _ rfl; refine blk_put (cs := #[.bool a0_0, .bool false, .slice none 0 0, .slice none 0 0, .slice none 0 0, .slice none 0 0, .bool false, .bool false]) ?_ 1 _ rfl; refine blk_put (cs := #[.bool false, .bool false, .slice none 0 0, .slice none 0 0, .slice none 0 0, .slice none 0 0, .bool false, .bool false]) ?_ 0 _ rfl; refine blk_far ?_ NB189_188.out _; exact BK189.out) Try.underlying25 rfl (by kernel_rfl)) rfl ?_
           exact ⟨_, _, _, _, by first | rfl | (simp [errW_none, errW_some] <;> rfl) | (simp only [← hji2, ← hji5, ← hji8]; first | rfl | (simp [errW_none, errW_some] <;> rfl)) | (simp [*, errW_none, errW_some] <;> rfl), by exact Kd.V_mono (Kd.V_far (p := ⟨gb189, 7, none⟩) (Kd.V_far (p := ⟨gb189, 6, none⟩) (Kd.V_far (p := ⟨gb189, 5, none⟩) (Kd.V_far (p := ⟨gb189, 4, none⟩) (Kd.V_far (p := ⟨gb189, 3, none⟩) (Kd.V_far (p := ⟨gb189, 2, none⟩) (Kd.V_far (p := ⟨gb189, 1, none⟩) (Kd.V_far (p := ⟨gb189, 0, none⟩) (Kd.V_far (p := ⟨gb188, 5, none⟩) (Kd.V_mono (Kd.V_mono HO_189002.out (fun k_ hk => (⟨hk, hk.2.2.1⟩ : _ ∧ k_ ≠ gb188))) (fun k_ hk => (⟨hk, hk.1.2.2.2⟩ : _ ∧ k_ ≠ gb189))) (fun _ hk => hk.1.2) (.slice Ao38 x3_1.length co38)) (fun _ hk => hk.2) (.bool a0_0)) (fun _ hk => hk.2) (.bool a0_1)) (fun _ hk => hk.2) (.slice A0_2 y190.length c0_2)) (fun _ hk => hk.2) (.slice A0_3 y195.length c0_3)) (fun _ hk => hk.2) (.slice A0_4 y200.length c0_4)) (fun _ hk => hk.2) (.slice Ao38 x3_1.length co38)) (fun _ hk => hk.2) (.bool a0_6)) (fun _ hk => hk.2) (.bool a0_7)) (fun _ hk => ⟨hk.1.1.1, hk.1.1.2.1⟩), by exact Kd.V_mono (Kd.V_far (p := ⟨gb189, 7, none⟩) (Kd.V_far (p := ⟨gb189, 6, none⟩) (Kd.V_far (p := ⟨gb189, 5, none⟩) (Kd.V_far (p := ⟨gb189, 4, none⟩) (Kd.V_far (p := ⟨gb189, 3, none⟩) (Kd.V_far (p := ⟨gb189, 2, none⟩) (Kd.V_far (p := ⟨gb189, 1, none⟩) (Kd.V_far (p := ⟨gb189, 0, none⟩) (Kd.V_far (p := ⟨gb188, 5, none⟩) (Kd.V_mono (Kd.V_mono HO_189003.out (fun k_ hk => (⟨hk, hk.2.2.1⟩ : _ ∧ k_ ≠ gb188))) (fun k_ hk => (⟨hk, hk.1.2.2.2⟩ : _ ∧ k_ ≠ gb189))) (fun _ hk => hk.1.2) (.slice Ao38 x3_1.length co38)) (fun _ hk => hk.2) (.bool a0_0)) (fun _ hk => hk.2) (.bool a0_1)) (fun _ hk => hk.2) (.slice A0_2 y190.length c0_2)) (fun _ hk => hk.2) (.slice A0_3 y195.length c0_3)) (fun _ hk => hk.2) (.slice A0_4 y200.length c0_4)) (fun _ hk => hk.2) (.slice Ao38 x3_1.length co38)) (fun _ hk => hk.2) (.bool a0_6)) (fun _ hk => hk.2) (.bool a0_7)) (fun _ hk => ⟨hk.1.1.1, hk.1.1.2.1⟩), by exact Kd.V_mono (Kd.V_far (p := ⟨gb189, 7, none⟩) (Kd.V_far (p := ⟨gb189, 6, none⟩) (Kd.V_far (p := ⟨gb189, 5, none⟩) (Kd.V_far (p := ⟨gb189, 4, none⟩) (Kd.V_far (p := ⟨gb189, 3, none⟩) (Kd.V_far (p := ⟨gb189, 2, none⟩) (Kd.V_far (p := ⟨gb189, 1, none⟩) (Kd.V_far (p := ⟨gb189, 0, none⟩) (Kd.V_far (p := ⟨gb188, 5, none⟩) (Kd.V_mono (Kd.V_mono HO_189004.out (fun k_ hk => (⟨hk, hk.2.2.1⟩ : _ ∧ k_ ≠ gb188))) (fun k_ hk => (⟨hk, hk.1.2.2.2⟩ : _ ∧ k_ ≠ gb189))) (fun _ hk => hk.1.2) (.slice Ao38 x3_1.length co38)) (fun _ hk => hk.2) (.bool a0_0)) (fun _ hk => hk.2) (.bool a0_1)) (fun _ hk => hk.2) (.slice A0_2 y190.length c0_2)) (fun _ hk => hk.2) (.slice A0_3 y195.length c0_3)) (fun _ hk => hk.2) (.slice A0_4 y200.length c0_4)) (fun _ hk => hk.2) (.slice Ao38 x3_1.length co38)) (fun _ hk => hk.2) (.bool a0_6)) (fun _ hk => hk.2) (.bool a0_7)) (fun _ hk => ⟨hk.1.1.1, hk.1.1.2.1⟩), by exact Kd.N_mono (Kd.N_far (p := ⟨gb189, 7, none⟩) (Kd.N_far (p := ⟨gb189, 6, none⟩) (Kd.N_far (p := ⟨gb189, 5, none⟩) (Kd.N_far (p := ⟨gb189, 4, none⟩) (Kd.N_far (p := ⟨gb189, 3, none⟩) (Kd.N_far (p := ⟨gb189, 2, none⟩) (Kd.N_far (p := ⟨gb189, 1, none⟩) (Kd.N_far (p := ⟨gb189, 0, none⟩) (Kd.N_far (p := ⟨gb188, 5, none⟩) (Kd.N_mono (Kd.N_mono HO_3.out (fun k_ hk => (⟨hk, hk.2.1⟩ : _ ∧ k_ ≠ gb188))) (fun k_ hk => (⟨hk, hk.1.2.2⟩ : _ ∧ k_ ≠ gb189))) (fun _ hk => hk.1.2) (.slice Ao38 x3_1.length co38)) (fun _ hk => hk.2) (.bool a0_0)) (fun _ hk => hk.2) (.bool a0_1)) (fun _ hk => hk.2) (.slice A0_2 y190.length c0_2)) (fun _ hk => hk.2) (.slice A0_3 y195.length c0_3)) (fun _ hk => hk.2) (.slice A0_4 y200.length c0_4)) (fun _ hk => hk.2) (.slice Ao38 x3_1.length co38)) (fun _ hk => hk.2) (.bool a0_6)) (fun _ hk => hk.2) (.bool a0_7)) (fun _ hk => hk.1.1.1), by repeat (first | (with_reducible first | exact HB.out | apply below_alloc | apply pw_below_drewN | apply below_drew1 | refine below_set ?_ GE188.out | refine below_set ?_ GE189.out) | exact HB.out)⟩
         ·rw [if_neg c24] at H
          have c24b0 : decide (x4_1 < (l0_5.length : Int)) = false := decide_eq_false c24
          clear c24
          simp only [Option.some.injEq, Prod.mk.injEq] at H
          obtain ⟨rfl, rfl, rfl, rfl, rfl, rfl, rfl, rfl⟩ := H
          have hnb40 := NB188_189.out
          have hnc40 := NB189_188.out
          have hcz41_0 : wr.cell? ⟨gb188, 0, none⟩ = some (.bool a0_0) := (blk_cell BK188.out 0).trans rfl
          have hcz41_1 : wr.cell? ⟨gb188, 1, none⟩ = some (.bool a0_1) := (blk_cell BK188.out 1).trans rfl
          have hcz41_2 : wr.cell? ⟨gb188, 2, none⟩ = some (.slice A0_2 y190.length c0_2) := (blk_cell BK188.out 2).trans rfl
          have hcz41_3 : wr.cell? ⟨gb188, 3, none⟩ = some (.slice A0_3 y195.length c0_3) := (blk_cell BK188.out 3).trans rfl
          have hcz41_4 : wr.cell? ⟨gb188, 4, none⟩ = some (.slice A0_4 y200.length c0_4) := (blk_cell BK188.out 4).trans rfl
          have hcz41_5 : wr.cell? ⟨gb188, 5, none⟩ = some (.slice A0_5 l0_5.length c0_5) := (blk_cell BK188.out 5).trans rfl
          have hcz41_6 : wr.cell? ⟨gb188, 6, none⟩ = some (.bool a0_6) := (blk_cell BK188.out 6).trans rfl
          have hcz41_7 : wr.cell? ⟨gb188, 7, none⟩ = some (.bool a0_7) := (blk_cell BK188.out 7).trans rfl
          have hfz41_0 := blk_frozen BK188.out 0
          have hfz41_1 := blk_frozen BK188.out 1
          have hfz41_2 := blk_frozen BK188.out 2
          have hfz41_3 := blk_frozen BK188.out 3
          have hfz41_4 := blk_frozen BK188.out 4
          have hfz41_5 := blk_frozen BK188.out 5
          have hfz41_6 := blk_frozen BK188.out 6
          have hfz41_7 := blk_frozen BK188.out 7
          obtain ⟨Ao42, co42, eo42⟩ := Kd.N_slice HO_3.out
          subst eo42
          have hcz43_0 : wr.cell? ⟨gb189, 0, none⟩ = some (.bool false) := (blk_cell BK189.out 0).trans rfl
          have hcz43_1 : wr.cell? ⟨gb189, 1, none⟩ = some (.bool false) := (blk_cell BK189.out 1).trans rfl
          have hcz43_2 : wr.cell? ⟨gb189, 2, none⟩ = some (.slice none 0 0) := (blk_cell BK189.out 2).trans rfl
          have hcz43_3 : wr.cell? ⟨gb189, 3, none⟩ = some (.slice none 0 0) := (blk_cell BK189.out 3).trans rfl
          have hcz43_4 : wr.cell? ⟨gb189, 4, none⟩ = some (.slice none 0 0) := (blk_cell BK189.out 4).trans rfl
          have hcz43_5 : wr.cell? ⟨gb189, 5, none⟩ = some (.slice none 0 0) := (blk_cell BK189.out 5).trans rfl
          have hcz43_6 : wr.cell? ⟨gb189, 6, none⟩ = some (.bool false) := (blk_cell BK189.out 6).trans rfl
          have hcz43_7 : wr.cell? ⟨gb189, 7, none⟩ = some (.bool false) := (blk_cell BK189.out 7).trans rfl
          have hfz43_0 := blk_frozen BK189.out 0
          have hfz43_1 := blk_frozen BK189.out 1
          have hfz43_2 := blk_frozen BK189.out 2
          have hfz43_3 := blk_frozen BK189.out 3
          have hfz43_4 := blk_frozen BK189.out 4
          have hfz43_5 := blk_frozen BK189.out 5
          have hfz43_6 := blk_frozen BK189.out 6
          have hfz43_7 := blk_frozen BK189.out 7
          go_wp2
          refine bodyPost_ret (results_cell_row rfl _ _ gb189 25 #[.bool a0_0, .bool a0_1, .slice A0_2 y190.length c0_2, .slice A0_3 y195.length c0_3, .slice A0_4 y200.length c0_4, .slice Ao42 x3_1.length co42, .bool a0_6, .bool a0_7] (0, 0) _ rfl (by refine blk_put (cs := #[.bool a0_0, .bool a0_1, .slice A0_2 y190.length c0_2, .slice A0_3 y195.length c0_3, .slice A0_4 y200.length c0_4, .slice Ao42 x3_1.length co42, .bool a0_6, .bool false]) ?_ 7 _ rfl; refine blk_put (cs := #[.bool a0_0, .bool a0_1, .slice A0_2 y190.length c0_2, .slice A0_3 y195.length c0_3, .slice A0_4 y200.length c0_4, .slice Ao42 x3_1.length co42, .bool false, .bool false]) ?_ 6 _ rfl; refine blk_put (cs := #[.bool a0_0, .bool a0_1, .slice A0_2 y190.length c0_2, .slice A0_3 y195.length c0_3, .slice A0_4 y200.length c0_4, .slice none 0 0, .bool false, .bool false]) ?_ 5 _ rfl; refine blk_put (cs := #[.bool a0_0, .bool a0_1, .slice A0_2 y190.length c0_2, .slice A0_3 y195.length c0_3, .slice none 0 0, .slice none 0 0, .bool false, .bool false]) ?_ 4 _ rfl; refine blk_put (cs := #[.bool a0_0, .bool a0_1, .slice A0_2 y190.length c0_2, .slice none 0 0, .slice none 0 0, .slice none 0 0, .bool false, .bool false]) ?_ 3 _ rfl; refine blk_put (cs := #[.bool a0_0, .bool a0_1, .slice none 0 0, .slice none 0 0, .slice none 0 0, .slice none 0 0, .bool false, .bool false]) ?_ 2 _ rfl; refine blk_put (cs := #[.bool a0_0, .bool false, .slice none 0 0, .slice none 0 0, .slice none 0 0, .slice none 0 0, .bool false, .bool false]) ?_ 1 _ rfl; refine blk_put (cs := #[.bool false, .bool false, .slice none 0 0, .slice none 0 0, .slice none 0 0, .slice none 0 0, .bool false, .bool false]) ?_ 0 _ rfl; refine blk_far ?_ NB189_188.out _; exact BK189.out) Try.underlying25 rfl (by kernel_rfl)) rfl ?_
          exact ⟨_, _, _, _, by first | rfl | (simp [errW_none, errW_some] <;> rfl) | (simp only [← hji2, ← hji5, ← hji8]; first | rfl | (simp [errW_none, errW_some] <;> rfl)) | (simp [*, errW_none, errW_some] <;> rfl), by exact Kd.V_mono (Kd.V_far (p := ⟨gb189, 7, none⟩) (Kd.V_far (p := ⟨gb189, 6, none⟩) (Kd.V_far (p := ⟨gb189, 5, none⟩) (Kd.V_far (p := ⟨gb189, 4, none⟩) (Kd.V_far (p := ⟨gb189, 3, none⟩) (Kd.V_far (p := ⟨gb189, 2, none⟩) (Kd.V_far (p := ⟨gb189, 1, none⟩) (Kd.V_far (p := ⟨gb189, 0, none⟩) (Kd.V_far (p := ⟨gb188, 5, none⟩) (Kd.V_mono (Kd.V_mono HO_189002.out (fun k_ hk => (⟨hk, hk.2.2.1⟩ : _ ∧ k_ ≠ gb188))) (fun k_ hk => (⟨hk, hk.1.2.2.2⟩ : _ ∧ k_ ≠ gb189))) (fun _ hk => hk.1.2) (.slice Ao42 x3_1.length co42)) (fun _ hk => hk.2) (.bool a0_0)) (fun _ hk => hk.2) (.bool a0_1)) (fun _ hk => hk.2) (.slice A0_2 y190.length c0_2)) (fun _ hk => hk.2) (.slice A0_3 y195.length c0_3)) (fun _ hk => hk.2) (.slice A0_4 y200.length c0_4)) (fun _ hk => hk.2) (.slice Ao42 x3_1.length co42)) (fun _ hk => hk.2) (.bool a0_6)) (fun _ hk => hk.2) (.bool a0_7)) (fun _ hk => ⟨hk.1.1.1, hk.1.1.2.1⟩), by exact Kd.V_mono (Kd.V_far (p := ⟨gb189, 7, none⟩) (Kd.V_far (p := ⟨gb189, 6, none⟩) (Kd.V_far (p := ⟨gb189, 5, none⟩) (Kd.V_far (p := ⟨gb189, 4, none⟩) (Kd.V_far (p := ⟨gb189, 3, none⟩) (Kd.V_far (p := ⟨gb189, 2, none⟩) (Kd.V_far (p := ⟨gb189, 1, none⟩) (Kd.V_far (p := ⟨gb189, 0, none⟩) (Kd.V_far (p := ⟨gb188, 5, none⟩) (Kd.V_mono (Kd.V_mono HO_189003.out (fun k_ hk => (⟨hk, hk.2.2.1⟩ : _ ∧ k_ ≠ gb188))) (fun k_ hk => (⟨hk, hk.1.2.2.2⟩ : _ ∧ k_ ≠ gb189))) (fun _ hk => hk.1.2) (.slice Ao42 x3_1.length co42)) (fun _ hk => hk.2) (.bool a0_0)) (fun _ hk => hk.2) (.bool a0_1)) (fun _ hk => hk.2) (.slice A0_2 y190.length c0_2)) (fun _ hk => hk.2) (.slice A0_3 y195.length c0_3)) (fun _ hk => hk.2) (.slice A0_4 y200.length c0_4)) (fun _ hk => hk.2) (.slice Ao42 x3_1.length co42)) (fun _ hk => hk.2) (.bool a0_6)) (fun _ hk => hk.2) (.bool a0_7)) (fun _ hk => ⟨hk.1.1.1, hk.1.1.2.1⟩), by exact Kd.V_mono (Kd.V_far (p := ⟨gb189, 7, none⟩) (Kd.V_far (p := ⟨gb189, 6, none⟩) (Kd.V_far (p := ⟨gb189, 5, none⟩) (Kd.V_far (p := ⟨gb189, 4, none⟩) (Kd.V_far (p := ⟨gb189, 3, none⟩) (Kd.V_far (p := ⟨gb189, 2, none⟩) (Kd.V_far (p := ⟨gb189, 1, none⟩) (Kd.V_far (p := ⟨gb189, 0, none⟩) (Kd.V_far (p := ⟨gb188, 5, none⟩) (Kd.V_mono (Kd.V_mono HO_189004.out (fun k_ hk => (⟨hk, hk.2.2.1⟩ : _ ∧ k_ ≠ gb188))) (fun k_ hk => (⟨hk, hk.1.2.2.2⟩ : _ ∧ k_ ≠ gb189))) (fun _ hk => hk.1.2) (.slice Ao42 x3_1.length co42)) (fun _ hk => hk.2) (.bool a0_0)) (fun _ hk => hk.2) (.bool a0_1)) (fun _ hk => hk.2) (.slice A0_2 y190.length c0_2)) (fun _ hk => hk.2) (.slice A0_3 y195.length c0_3)) (fun _ hk => hk.2) (.slice A0_4 y200.length c0_4)) (fun _ hk => hk.2) (.slice Ao42 x3_1.length co42)) (fun _ hk => hk.2) (.bool a0_6)) (fun _ hk => hk.2) (.bool a0_7)) (fun _ hk => ⟨hk.1.1.1, hk.1.1.2.1⟩), by exact Kd.N_mono (Kd.N_far (p := ⟨gb189, 7, none⟩) (Kd.N_far (p := ⟨gb189, 6, none⟩) (Kd.N_far (p := ⟨gb189, 5, none⟩) (Kd.N_far (p := ⟨gb189, 4, none⟩) (Kd.N_far (p := ⟨gb189, 3, none⟩) (Kd.N_far (p := ⟨gb189, 2, none⟩) (Kd.N_far (p := ⟨gb189, 1, none⟩) (Kd.N_far (p := ⟨gb189, 0, none⟩) (Kd.N_far (p := ⟨gb188, 5, none⟩) (Kd.N_mono (Kd.N_mono HO_3.out (fun k_ hk => (⟨hk, hk.2.1⟩ : _ ∧ k_ ≠ gb188))) (fun k_ hk => (⟨hk, hk.1.2.2⟩ : _ ∧ k_ ≠ gb189))) (fun _ hk => hk.1.2) (.slice Ao42 x3_1.length co42)) (fun _ hk => hk.2) (.bool a0_0)) (fun _ hk => hk.2) (.bool a0_1)) (fun _ hk => hk.2) (.slice A0_2 y190.length c0_2)) (fun _ hk => hk.2) (.slice A0_3 y195.length c0_3)) (fun _ hk => hk.2) (.slice A0_4 y200.length c0_4)) (fun _ hk => hk.2) (.slice Ao42 x3_1.length co42)) (fun _ hk => hk.2) (.bool a0_6)) (fun _ hk => hk.2) (.bool a0_7)) (fun _ hk => hk.1.1.1), by repeat (first | (with_reducible first | exact HB.out | apply below_alloc | apply pw_below_drewN | apply below_drew1 | refine below_set ?_ GE188.out | refine below_set ?_ GE189.out) | exact HB.out)⟩
      ·rw [if_neg c10] at H
       exact absurd H (by simp)
     ·rw [if_neg c9] at H
      exact absurd H (by simp)
    ·rw [if_neg c7] at H
     exact absurd H (by simp)
   ·rw [if_neg c6] at H
    exact absurd H (by simp)
  ·rw [if_neg c4] at H
   exact absurd H (by simp)
 ·rw [if_neg c3] at H
  exact absurd H (by simp)

end Go.Proofs.Ytjofofpplpmgjaa.Pr
/- Bound, and what the laws of chapter 12 ask, in plain words. -/
namespace Go.Proofs.Ytjofofpplpmgjaa.Pure
set_option linter.unusedVariables false
set_option linter.unusedSimpArgs false
open Go.RowKit Go.Lib Go.Shelf Go.Proofs.YtjofofpplpmgjaaW.PrintWords Go.Proofs.YtjofofpplpmgjaaW.PrintLast Go.Proofs.YtjofofpplpmgjaaW.PrintMore Go.Proofs.Ytjofofpplpmgjaa.Pr

def cutP (p : S35) : S35 := ⟨p.f0, p.f1.take 70⟩
def bound (c : Cf) : Cf := { c with els := c.els.take 70, rep := c.rep.take 70, ats := c.ats.take 70, per := (c.per.take 12).map cutP }
theorem mn70 (n : Nat) : 0 ≤ mn (n : Int) 70 ∧ mn (n : Int) 70 ≤ (n : Int) ∧ (mn (n : Int) 70).toNat = min n 70 := by
  unfold mn; split <;> omega
theorem take_min {α : Type} (l : List α) (n : Nat) : l.take (min l.length n) = l.take n := by
  rcases Nat.le_total l.length n with h | h
  · rw [Nat.min_eq_left h, List.take_length, List.take_of_length_le h]
  · rw [Nat.min_eq_right h]
theorem take70 {α : Type} (l : List α) : l.take (mn (l.length : Int) 70).toNat = l.take 70 := by rw [(mn70 _).2.2, take_min]
theorem bound_l0 (c : Cf) (a2 a3 a4 : List ByteArray) : ∀ (d i : Nat) (acc : List S35), i + d = min c.per.length 12 → acc.length = i → ∀ k, d < k →
    boltinglaw12_Bound.l0 k acc (i : Int) c.al c.aal a2 a3 a4 c.per c.com c.dt = some (c.al, c.aal, a2, a3, a4, acc ++ ((c.per.drop i).take d).map cutP, c.com, c.dt)
  | 0, i, acc, h, ha, k, hk => by
    obtain ⟨k, rfl⟩ : ∃ m, k = m + 1 := ⟨k - 1, by omega⟩
    unfold boltinglaw12_Bound.l0
    simp only [List.take_zero, List.map_nil, List.append_nil]
    by_cases h1 : (i : Int) < (c.per.length : Int)
    · rw [if_pos h1, if_neg (by omega)]
    · rw [if_neg h1]
  | d + 1, i, acc, h, ha, k, hk => by
    obtain ⟨k, rfl⟩ : ∃ m, k = m + 1 := ⟨k - 1, by omega⟩
    have hi : i < c.per.length := by omega
    have hx : c.per[i]? = some c.per[i] := List.getElem?_eq_getElem hi
    have hr := rd35_at hx
    unfold boltinglaw12_Bound.l0
    rw [hr, if_pos (by omega), if_pos (by omega), if_pos (by omega), if_pos (mn70 _).1, if_pos (mn70 _).2.1, if_pos (by omega), take70, wrap_succ (by omega) (by omega)]
    rw [show ((i : Int) + 1) = ((i + 1 : Nat) : Int) from by omega, bound_l0 c a2 a3 a4 d (i + 1) _ (by omega) (by simp [ha]) k (by omega)]
    have hd : c.per.drop i = c.per[i] :: c.per.drop (i + 1) := List.drop_eq_getElem_cons hi
    rw [hd, List.take_succ_cons, List.map_cons, List.append_assoc]
    rfl
theorem bound_f (c : Cf) {k : Nat} (hk : 13 < k) : boltinglaw12_Bound.f k c.al c.aal c.els c.rep c.ats c.per c.com c.dt = some (c.al, c.aal, (bound c).els, (bound c).rep, (bound c).ats, (bound c).per, c.com, c.dt) := by
  unfold boltinglaw12_Bound.f
  rw [if_pos (mn70 _).1, if_pos (mn70 _).2.1, if_pos (mn70 _).1, if_pos (mn70 _).2.1, if_pos (mn70 _).1, if_pos (mn70 _).2.1, take70, take70, take70]
  have := bound_l0 c (c.els.take 70) (c.rep.take 70) (c.ats.take 70) (min c.per.length 12) 0 [] (by omega) rfl k (by omega)
  rw [List.drop_zero, take_min, List.nil_append] at this
  exact this
theorem bound_short (c : Cf) : (bound c).els.length ≤ 70 ∧ (bound c).rep.length ≤ 70 ∧ (bound c).ats.length ≤ 70 ∧ (bound c).per.length ≤ 12 ∧ ∀ p ∈ (bound c).per, p.f1.length ≤ 70 := by
  refine ⟨List.length_take_le _ _, List.length_take_le _ _, List.length_take_le _ _, ?_, ?_⟩
  · show ((c.per.take 12).map cutP).length ≤ 12
    rw [List.length_map]; exact List.length_take_le _ _
  · intro p hp
    obtain ⟨q, _, rfl⟩ := List.mem_map.1 (show p ∈ (c.per.take 12).map cutP from hp)
    exact List.length_take_le _ _
theorem bound_fit (c : Cf) : Fit (bound c) := by
  obtain ⟨h1, h2, h3, h4, h5⟩ := bound_short c
  exact ⟨by omega, by omega, by omega, by omega, fun p hp => by have := h5 p hp; omega⟩
theorem attr_k {c : Cf} (hf : Fit c) (e a : ByteArray) : config_Attr.f c.al c.aal c.els c.rep c.ats c.per c.com c.dt e a = some (attrB c e a) := if_pos (of_fit hf)
end Go.Proofs.Ytjofofpplpmgjaa.Pure
/- A configuration that comes in: laid open. -/
namespace Go.Proofs.Ytjofofpplpmgjaa
set_option linter.unusedVariables false
set_option linter.unusedSimpArgs false
open Go.ChangeShapes Go.WideShapes Go.RowKit Go.Proofs.Ytjofofpplpmgjaa.Pr Go.Proofs.Ytjofofpplpmgjaa.Pure Go.Proofs.YtjofofpplpmgjaaW.PrintWords
abbrev Short (s : ByteArray) : Prop := s.size ≤ 140737488351232
/-- The texts of a configuration are no longer than a call can hold. -/
structure Sized (c : Cf) : Prop where
  els : ∀ x ∈ c.els, Short x
  rep : ∀ x ∈ c.rep, Short x
  ats : ∀ x ∈ c.ats, Short x
  per : ∀ p ∈ c.per, Short p.f0 ∧ ∀ x ∈ p.f1, Short x
abbrev kStr : Kd (List ByteArray) := Kd.slice 9 Kd.string
abbrev kC : Kd (Bool × Bool × List ByteArray × List ByteArray × List ByteArray × List S35 × Bool × Bool) :=
  Kd.pair Kd.bool (Kd.pair Kd.bool (Kd.pair kStr (Kd.pair kStr (Kd.pair kStr (Kd.pair (Kd.slice 35 k35) (Kd.pair Kd.bool Kd.bool))))))
theorem opens_strs : OpensS Try.prog 22 kStr (fun l => ∀ x ∈ l, Short x) := opensS_slice (by kernel_rfl) Try.underlying22 (opensS_string (by kernel_rfl) Try.underlying9)
theorem opens_bool_ : OpensS Try.prog 4 Kd.bool (fun _ => True) := opensS_bool (by kernel_rfl) Try.underlying4
theorem opens_str_ : OpensS Try.prog 9 Kd.string Short := opensS_string (by kernel_rfl) Try.underlying9
theorem opens_per : OpensS Try.prog 35 k35 (fun x => Short x.f0 ∧ ∀ y ∈ x.f1, Short y) := by
  have h := opensS_struct (P := Try.prog) (d := Kd.pair Kd.string kStr) (S := fun x => Short x.1 ∧ ∀ y ∈ x.2, Short y) (fun x : S35 => (x.f0, x.f1)) Try.underlying35 rfl (by kernel_rfl)
    (opensTail_cons (S := Short) (T := fun l => ∀ y ∈ l, Short y) rfl opens_str_ (opensTail_last (d := kStr) rfl opens_strs)) (fun a => ⟨⟨a.1, a.2⟩, rfl⟩)
  exact h
theorem opens_pers : OpensS Try.prog 23 (Kd.slice 35 k35) (fun l => ∀ p ∈ l, Short p.f0 ∧ ∀ y ∈ p.f1, Short y) := opensS_slice (by kernel_rfl) Try.underlying23 opens_per
theorem opens_conf : OpensS Try.prog 25 (Kd.iso kC (fun x => x)) (fun x => True ∧ True ∧ (∀ y ∈ x.2.2.1, Short y) ∧ (∀ y ∈ x.2.2.2.1, Short y) ∧ (∀ y ∈ x.2.2.2.2.1, Short y) ∧ (∀ p ∈ x.2.2.2.2.2.1, Short p.f0 ∧ ∀ y ∈ p.f1, Short y) ∧ True ∧ True) := by
  have h7 : OpensTail Try.prog [⟨"DataAttrs", 4, 7, false, "", "", 105⟩] 7 Kd.bool (fun _ => True) := opensTail_last rfl opens_bool_
  have h6 : OpensTail Try.prog [⟨"Comments", 4, 6, false, "", "", 104⟩, ⟨"DataAttrs", 4, 7, false, "", "", 105⟩] 6 (Kd.pair Kd.bool Kd.bool) (fun (x : Bool × Bool) => (True) ∧ (True)) := opensTail_cons (S := fun (x : Bool) => True) (T := fun (x : Bool) => (True)) rfl opens_bool_ h7
  have h5 : OpensTail Try.prog [⟨"Per", 23, 5, false, "", "", 80⟩, ⟨"Comments", 4, 6, false, "", "", 104⟩, ⟨"DataAttrs", 4, 7, false, "", "", 105⟩] 5 (Kd.pair (Kd.slice 35 k35) (Kd.pair Kd.bool Kd.bool)) (fun (x : List S35 × Bool × Bool) => (∀ p ∈ x.1, Short p.f0 ∧ ∀ y ∈ p.f1, Short y) ∧ (True) ∧ (True)) := opensTail_cons (S := fun (x : List S35) => ∀ p ∈ x, Short p.f0 ∧ ∀ y ∈ p.f1, Short y) (T := fun (x : Bool × Bool) => (True) ∧ (True)) rfl opens_pers h6
  have h4 : OpensTail Try.prog [⟨"Attrs", 22, 4, false, "", "", 56⟩, ⟨"Per", 23, 5, false, "", "", 80⟩, ⟨"Comments", 4, 6, false, "", "", 104⟩, ⟨"DataAttrs", 4, 7, false, "", "", 105⟩] 4 (Kd.pair kStr (Kd.pair (Kd.slice 35 k35) (Kd.pair Kd.bool Kd.bool))) (fun (x : List ByteArray × List S35 × Bool × Bool) => (∀ y ∈ x.1, Short y) ∧ (∀ p ∈ x.2.1, Short p.f0 ∧ ∀ y ∈ p.f1, Short y) ∧ (True) ∧ (True)) := opensTail_cons (S := fun (x : List ByteArray) => ∀ y ∈ x, Short y) (T := fun (x : List S35 × Bool × Bool) => (∀ p ∈ x.1, Short p.f0 ∧ ∀ y ∈ p.f1, Short y) ∧ (True) ∧ (True)) rfl opens_strs h5
  have h3 : OpensTail Try.prog [⟨"Replace", 22, 3, false, "", "", 32⟩, ⟨"Attrs", 22, 4, false, "", "", 56⟩, ⟨"Per", 23, 5, false, "", "", 80⟩, ⟨"Comments", 4, 6, false, "", "", 104⟩, ⟨"DataAttrs", 4, 7, false, "", "", 105⟩] 3 (Kd.pair kStr (Kd.pair kStr (Kd.pair (Kd.slice 35 k35) (Kd.pair Kd.bool Kd.bool)))) (fun (x : List ByteArray × List ByteArray × List S35 × Bool × Bool) => (∀ y ∈ x.1, Short y) ∧ (∀ y ∈ x.2.1, Short y) ∧ (∀ p ∈ x.2.2.1, Short p.f0 ∧ ∀ y ∈ p.f1, Short y) ∧ (True) ∧ (True)) := opensTail_cons (S := fun (x : List ByteArray) => ∀ y ∈ x, Short y) (T := fun (x : List ByteArray × List S35 × Bool × Bool) => (∀ y ∈ x.1, Short y) ∧ (∀ p ∈ x.2.1, Short p.f0 ∧ ∀ y ∈ p.f1, Short y) ∧ (True) ∧ (True)) rfl opens_strs h4
  have h2 : OpensTail Try.prog [⟨"Elements", 22, 2, false, "", "", 8⟩, ⟨"Replace", 22, 3, false, "", "", 32⟩, ⟨"Attrs", 22, 4, false, "", "", 56⟩, ⟨"Per", 23, 5, false, "", "", 80⟩, ⟨"Comments", 4, 6, false, "", "", 104⟩, ⟨"DataAttrs", 4, 7, false, "", "", 105⟩] 2 (Kd.pair kStr (Kd.pair kStr (Kd.pair kStr (Kd.pair (Kd.slice 35 k35) (Kd.pair Kd.bool Kd.bool))))) (fun (x : List ByteArray × List ByteArray × List ByteArray × List S35 × Bool × Bool) => (∀ y ∈ x.1, Short y) ∧ (∀ y ∈ x.2.1, Short y) ∧ (∀ y ∈ x.2.2.1, Short y) ∧ (∀ p ∈ x.2.2.2.1, Short p.f0 ∧ ∀ y ∈ p.f1, Short y) ∧ (True) ∧ (True)) := opensTail_cons (S := fun (x : List ByteArray) => ∀ y ∈ x, Short y) (T := fun (x : List ByteArray × List ByteArray × List S35 × Bool × Bool) => (∀ y ∈ x.1, Short y) ∧ (∀ y ∈ x.2.1, Short y) ∧ (∀ p ∈ x.2.2.1, Short p.f0 ∧ ∀ y ∈ p.f1, Short y) ∧ (True) ∧ (True)) rfl opens_strs h3
  have h1 : OpensTail Try.prog [⟨"AttrsAllow", 4, 1, false, "", "", 1⟩, ⟨"Elements", 22, 2, false, "", "", 8⟩, ⟨"Replace", 22, 3, false, "", "", 32⟩, ⟨"Attrs", 22, 4, false, "", "", 56⟩, ⟨"Per", 23, 5, false, "", "", 80⟩, ⟨"Comments", 4, 6, false, "", "", 104⟩, ⟨"DataAttrs", 4, 7, false, "", "", 105⟩] 1 (Kd.pair Kd.bool (Kd.pair kStr (Kd.pair kStr (Kd.pair kStr (Kd.pair (Kd.slice 35 k35) (Kd.pair Kd.bool Kd.bool)))))) (fun (x : Bool × List ByteArray × List ByteArray × List ByteArray × List S35 × Bool × Bool) => (True) ∧ (∀ y ∈ x.2.1, Short y) ∧ (∀ y ∈ x.2.2.1, Short y) ∧ (∀ y ∈ x.2.2.2.1, Short y) ∧ (∀ p ∈ x.2.2.2.2.1, Short p.f0 ∧ ∀ y ∈ p.f1, Short y) ∧ (True) ∧ (True)) := opensTail_cons (S := fun (x : Bool) => True) (T := fun (x : List ByteArray × List ByteArray × List ByteArray × List S35 × Bool × Bool) => (∀ y ∈ x.1, Short y) ∧ (∀ y ∈ x.2.1, Short y) ∧ (∀ y ∈ x.2.2.1, Short y) ∧ (∀ p ∈ x.2.2.2.1, Short p.f0 ∧ ∀ y ∈ p.f1, Short y) ∧ (True) ∧ (True)) rfl opens_bool_ h2
  have h0 : OpensTail Try.prog [⟨"Allow", 4, 0, false, "", "", 0⟩, ⟨"AttrsAllow", 4, 1, false, "", "", 1⟩, ⟨"Elements", 22, 2, false, "", "", 8⟩, ⟨"Replace", 22, 3, false, "", "", 32⟩, ⟨"Attrs", 22, 4, false, "", "", 56⟩, ⟨"Per", 23, 5, false, "", "", 80⟩, ⟨"Comments", 4, 6, false, "", "", 104⟩, ⟨"DataAttrs", 4, 7, false, "", "", 105⟩] 0 (Kd.pair Kd.bool (Kd.pair Kd.bool (Kd.pair kStr (Kd.pair kStr (Kd.pair kStr (Kd.pair (Kd.slice 35 k35) (Kd.pair Kd.bool Kd.bool))))))) (fun (x : Bool × Bool × List ByteArray × List ByteArray × List ByteArray × List S35 × Bool × Bool) => (True) ∧ (True) ∧ (∀ y ∈ x.2.2.1, Short y) ∧ (∀ y ∈ x.2.2.2.1, Short y) ∧ (∀ y ∈ x.2.2.2.2.1, Short y) ∧ (∀ p ∈ x.2.2.2.2.2.1, Short p.f0 ∧ ∀ y ∈ p.f1, Short y) ∧ (True) ∧ (True)) := opensTail_cons (S := fun (x : Bool) => True) (T := fun (x : Bool × List ByteArray × List ByteArray × List ByteArray × List S35 × Bool × Bool) => (True) ∧ (∀ y ∈ x.2.1, Short y) ∧ (∀ y ∈ x.2.2.1, Short y) ∧ (∀ y ∈ x.2.2.2.1, Short y) ∧ (∀ p ∈ x.2.2.2.2.1, Short p.f0 ∧ ∀ y ∈ p.f1, Short y) ∧ (True) ∧ (True)) rfl opens_bool_ h1
  exact opensS_struct (d := kC) (fun x => x) Try.underlying25 rfl (by kernel_rfl) h0 (fun a => ⟨a, rfl⟩)
theorem open_conf {H : Type} {enc : TypeId × Value → H} {w : World} {base : Nat} {spare : Nat → Bool} {held : Bool} {v : Value} {d : DataW H} {p : List MemPlace} {r : Reach} {b0 : Nat}
    (hv : Value.okWide Try.prog w r b0 25 v) (h : DataW.Trod enc Try.prog w base spare held 25 v d p) (hw : ∀ n ∈ d.weights Try.prog 25, n ≤ reachBytes) :
    ∃ (c : Cf) (A2 : Option Addr) (c2 : Nat) (A3 : Option Addr) (c3 : Nat) (A4 : Option Addr) (c4 : Nat) (A5 : Option Addr) (c5 : Nat), v = .agg #[.bool c.al, .bool c.aal, .slice A2 c.els.length c2, .slice A3 c.rep.length c3, .slice A4 c.ats.length c4, .slice A5 c.per.length c5, .bool c.com, .bool c.dt] ∧
      (c.els.length ≤ c2 ∧ Kd.string.C w A2 c.els.length c.els) ∧ (c.rep.length ≤ c3 ∧ Kd.string.C w A3 c.rep.length c.rep) ∧ (c.ats.length ≤ c4 ∧ Kd.string.C w A4 c.ats.length c.ats) ∧ (c.per.length ≤ c5 ∧ k35.C w A5 c.per.length c.per) ∧ Sized c := by
  obtain ⟨cs, rfl, hsz⟩ := okWide_struct Try.underlying25 hv
  obtain ⟨fuel, hf⟩ := h
  obtain ⟨⟨a0, a1, l2, l3, l4, l5, a6, a7⟩, hK, hS⟩ := opens_conf.2 enc w base spare held fuel _ _ hf hw
  obtain ⟨_, _, hcs, rfl, ⟨_, _, rfl, rfl, ⟨_, _, rfl, ⟨A2, c2, rfl, k2, g2⟩, ⟨_, _, rfl, ⟨A3, c3, rfl, k3, g3⟩, ⟨_, _, rfl, ⟨A4, c4, rfl, k4, g4⟩, ⟨_, _, rfl, ⟨A5, c5, rfl, k5, g5⟩, ⟨_, _, rfl, rfl, rfl⟩⟩⟩⟩⟩⟩⟩ := hK
  obtain ⟨_, _, s2, s3, s4, s5, _, _⟩ := hS
  refine ⟨⟨a0, a1, l2, l3, l4, l5, a6, a7⟩, A2, c2, A3, c3, A4, c4, A5, c5, ?_, ⟨k2, g2⟩, ⟨k3, g3⟩, ⟨k4, g4⟩, ⟨k5, g5⟩, ⟨s2, s3, s4, s5⟩⟩
  obtain ⟨l⟩ := cs
  simp only [Value.cells] at hcs
  rw [show l = _ from hcs]
  rfl
end Go.Proofs.Ytjofofpplpmgjaa
-- SLIMMED
namespace Go.Proofs.Ytjofofpplpmgjaa.Pr
open Go.RowKit Go.Proofs.YtjofofpplpmgjaaW.PrintWords Go.Proofs.YtjofofpplpmgjaaW.PrintLast Go.Proofs.YtjofofpplpmgjaaW.PrintMore
attribute [local go_sem] max2_int min2_int max_two min_two max_three min_three max_four min_four   -- for this text's walks alone
set_option linter.unusedVariables false
set_option linter.unusedSimpArgs false

/-! ### boltinglaw12_ConfigData: function 5 -/
mutual
def boltinglaw12_ConfigData.j0 : Nat → ByteArray → Bool → Bool → Bool → List ByteArray → List ByteArray → List ByteArray → List (S35) → Bool → Bool → Option (Bool)
 | 0, _, _, _, _, _, _, _, _, _, _ => none
 | k + 1, x1, x24, x607000, x607001, x607002, x607003, x607004, x607005, x607006, x607007 => if x24 = true then (some false) else (boltinglaw12_ConfigData.l0 k x1 0 x607000 x607001 x607002 x607003 x607004 x607005 x607006 x607007)
def boltinglaw12_ConfigData.l0 : Nat → ByteArray → Int → Bool → Bool → List ByteArray → List ByteArray → List ByteArray → List (S35) → Bool → Bool → Option (Bool)
 | 0, _, _, _, _, _, _, _, _, _, _ => none
 | k + 1, x1, x7, x607000, x607001, x607002, x607003, x607004, x607005, x607006, x607007 => if x7 < (x607004.length : Int) then (if 0 ≤ x7 then ((config_Attr.f x607000 x607001 x607002 x607003 x607004 x607005 x607006 x607007 x1 (rdOf ByteArray.empty x607004 x7)).bind fun t625 => (if t625 = true then (boltinglaw12_ConfigData.l0 k x1 (wrap64 (x7 + 1)) x607000 x607001 x607002 x607003 x607004 x607005 x607006 x607007) else (some false))) else (none)) else (boltinglaw12_ConfigData.l1 k x1 0 x607000 x607001 x607002 x607003 x607004 x607005 x607006 x607007)
def boltinglaw12_ConfigData.l1 : Nat → ByteArray → Int → Bool → Bool → List ByteArray → List ByteArray → List ByteArray → List (S35) → Bool → Bool → Option (Bool)
 | 0, _, _, _, _, _, _, _, _, _, _ => none
 | k + 1, x1, x8, x607000, x607001, x607002, x607003, x607004, x607005, x607006, x607007 => if x8 < (x607005.length : Int) then (boltinglaw12_ConfigData.l2 k x1 x8 0 x607000 x607001 x607002 x607003 x607004 x607005 x607006 x607007) else (boltinglaw12_ConfigData.l3 k x1 0 x607000 false x607002 x607003 x607004 x607005 x607006 x607007)
def boltinglaw12_ConfigData.l2 : Nat → ByteArray → Int → Int → Bool → Bool → List ByteArray → List ByteArray → List ByteArray → List (S35) → Bool → Bool → Option (Bool)
 | 0, _, _, _, _, _, _, _, _, _, _, _ => none
 | k + 1, x1, x8, x9, x607000, x607001, x607002, x607003, x607004, x607005, x607006, x607007 => if 0 ≤ x8 then (if x8 < (x607005.length : Int) then (if x9 < (((rd_T35 x607005 x8).f1).length : Int) then (if 0 ≤ x9 then ((config_Attr.f x607000 x607001 x607002 x607003 x607004 x607005 x607006 x607007 ((rd_T35 x607005 x8).f0) (rdOf ByteArray.empty ((rd_T35 x607005 x8).f1) x9)).bind fun t630 => (if t630 = true then (boltinglaw12_ConfigData.l2 k x1 x8 (wrap64 (x9 + 1)) x607000 x607001 x607002 x607003 x607004 x607005 x607006 x607007) else (some false))) else (none)) else (boltinglaw12_ConfigData.l1 k x1 (wrap64 (x8 + 1)) x607000 x607001 x607002 x607003 x607004 x607005 x607006 x607007)) else (none)) else (none)
def boltinglaw12_ConfigData.l3 : Nat → ByteArray → Int → Bool → Bool → List ByteArray → List ByteArray → List ByteArray → List (S35) → Bool → Bool → Option (Bool)
 | 0, _, _, _, _, _, _, _, _, _, _ => none
 | k + 1, x1, x10, x607000, x607001, x607002, x607003, x607004, x607005, x607006, x607007 => if x10 < (x607004.length : Int) then (if 0 ≤ x10 then ((config_Attr.f x607000 x607001 x607002 x607003 x607004 x607005 x607006 x607007 x1 (rdOf ByteArray.empty x607004 x10)).bind fun t632 => (if t632 = true then (some false) else (boltinglaw12_ConfigData.l3 k x1 (wrap64 (x10 + 1)) x607000 x607001 x607002 x607003 x607004 x607005 x607006 x607007))) else (none)) else ((boltinglaw12_fixed.f).bind fun t633 => (some t633))
end
def boltinglaw12_ConfigData.f (k : Nat) (a0_0 : Bool) (a0_1 : Bool) (l0_2 : List ByteArray) (l0_3 : List ByteArray) (l0_4 : List ByteArray) (l0_5 : List (S35)) (a0_6 : Bool) (a0_7 : Bool) (a1 : ByteArray) (a2 : ByteArray) : Option (Bool) := (boltinglaw12_Bound.f k a0_0 a0_1 l0_2 l0_3 l0_4 l0_5 a0_6 a0_7).bind fun bt607 => (if a2.toList = ([] : List UInt8) then (boltinglaw12_ConfigData.j0 k a1 false bt607.1 true bt607.2.2.1 bt607.2.2.2.1 bt607.2.2.2.2.1 bt607.2.2.2.2.2.1 bt607.2.2.2.2.2.2.1 true) else (if 5 + a2.size ≤ 9223372036854775807 then ((config_Attr.f bt607.1 true bt607.2.2.1 bt607.2.2.2.1 bt607.2.2.2.2.1 bt607.2.2.2.2.2.1 bt607.2.2.2.2.2.2.1 true a1 ((⟨#[100, 97, 116, 97, 45]⟩ : ByteArray) ++ a2)).bind fun t623 => (boltinglaw12_ConfigData.j0 k a1 (!t623) bt607.1 true bt607.2.2.1 bt607.2.2.2.1 bt607.2.2.2.2.1 bt607.2.2.2.2.2.1 bt607.2.2.2.2.2.2.1 true)) else (none)))
def boltinglaw12_ConfigData.T9 : Bool × List (List Nat × List Nat) := (true, [([], []), ([], []), ([], []), ([2], [2]), ([], []), ([3, 4], [3, 4]), ([5], [5]), ([0, 1, 6], [0, 1, 6]), ([7], [7])])
def boltinglaw12_ConfigData.B9 : List Nat := [0, 0, 0, 4, 0, 28, 60, 127, 255]
theorem boltinglaw12_ConfigData.tab9 : rtab .any (opsOf Try.f5 9) = boltinglaw12_ConfigData.T9 := by kernel_rfl
theorem boltinglaw12_ConfigData.bits9 : waitsOk boltinglaw12_ConfigData.T9.2 boltinglaw12_ConfigData.B9 = true := by kernel_rfl
def boltinglaw12_ConfigData.T17 : Bool × List (List Nat × List Nat) := (true, [([], []), ([], []), ([1], [1]), ([], []), ([2, 3], [2, 3]), ([4], [4]), ([5], [5]), ([], []), ([7], [7]), ([], []), ([8, 9], [8, 9]), ([10], [10]), ([11], [11]), ([], []), ([12, 13], [12, 13]), ([14], [14]), ([0, 6, 15], [0, 6, 15]), ([16], [16])])
def boltinglaw12_ConfigData.B17 : List Nat := [0, 0, 2, 0, 14, 30, 62, 0, 128, 0, 896, 1920, 3968, 0, 16256, 32640, 65535, 131071]
theorem boltinglaw12_ConfigData.tab17 : rtab .any (opsOf Try.f5 17) = boltinglaw12_ConfigData.T17 := by kernel_rfl
theorem boltinglaw12_ConfigData.bits17 : waitsOk boltinglaw12_ConfigData.T17.2 boltinglaw12_ConfigData.B17 = true := by kernel_rfl
def boltinglaw12_ConfigData.T23 : Bool × List (List Nat × List Nat) := (true, [([], []), ([], []), ([], []), ([2], [2]), ([], []), ([3, 4], [3, 4]), ([5], [5]), ([0, 1, 6], [0, 1, 6])])
def boltinglaw12_ConfigData.B23 : List Nat := [0, 0, 0, 4, 0, 28, 60, 127]
theorem boltinglaw12_ConfigData.tab23 : rtab .any (opsOf Try.f5 23) = boltinglaw12_ConfigData.T23 := by kernel_rfl
theorem boltinglaw12_ConfigData.bits23 : waitsOk boltinglaw12_ConfigData.T23.2 boltinglaw12_ConfigData.B23 = true := by kernel_rfl
set_option maxHeartbeats 8000000 in
set_option maxRecDepth 100000 in
theorem boltinglaw12_ConfigData.calls (k : Nat) (a0_0 : Bool) (a0_1 : Bool) (A0_2 : Option Addr) (c0_2 : Nat) (l0_2 : List ByteArray) (A0_3 : Option Addr) (c0_3 : Nat) (l0_3 : List ByteArray) (A0_4 : Option Addr) (c0_4 : Nat) (l0_4 : List ByteArray) (A0_5 : Option Addr) (c0_5 : Nat) (l0_5 : List (S35)) (a0_6 : Bool) (a0_7 : Bool) (a1 : ByteArray) (a2 : ByteArray) (r : Bool) (w : World) (hr0_2 : Kd.C Kd.string w A0_2 l0_2.length l0_2) (hc0_2 : l0_2.length ≤ c0_2) (hr0_3 : Kd.C Kd.string w A0_3 l0_3.length l0_3) (hc0_3 : l0_3.length ≤ c0_3) (hr0_4 : Kd.C Kd.string w A0_4 l0_4.length l0_4) (hc0_4 : l0_4.length ≤ c0_4) (hr0_5 : Kd.C k35 w A0_5 l0_5.length l0_5) (hc0_5 : l0_5.length ≤ c0_5) (h : boltinglaw12_ConfigData.f k a0_0 a0_1 l0_2 l0_3 l0_4 l0_5 a0_6 a0_7 a1 a2 = some r) (hT : Aside0 (r = true) := by exact Aside0.mk rfl) :
  Calls Try.prog 5 #[.agg #[.bool a0_0, .bool a0_1, .slice A0_2 l0_2.length c0_2, .slice A0_3 l0_3.length c0_3, .slice A0_4 l0_4.length c0_4, .slice A0_5 l0_5.length c0_5, .bool a0_6, .bool a0_7], .string a1, .string a2] w fun e w' => e = .returned (.bool r) ∧ Below w.heap.size w w' := by
 have hu25 := Try.underlying25
 have HR0_2 := Aside0.mk hr0_2
 have HC0_2 := Aside0.mk hc0_2
 clear hr0_2 hc0_2
 have HR0_3 := Aside0.mk hr0_3
 have HC0_3 := Aside0.mk hc0_3
 clear hr0_3 hc0_3
 have HR0_4 := Aside0.mk hr0_4
 have HC0_4 := Aside0.mk hc0_4
 clear hr0_4 hc0_4
 have HR0_5 := Aside0.mk hr0_5
 have HC0_5 := Aside0.mk hc0_5
 clear hr0_5 hc0_5
 have HB := Aside0.mk (Below.refl w.heap.size w)
 have H : ((boltinglaw12_Bound.f k a0_0 a0_1 l0_2 l0_3 l0_4 l0_5 a0_6 a0_7).bind fun bt607 => (if a2.toList = ([] : List UInt8) then (boltinglaw12_ConfigData.j0 k a1 false bt607.1 true bt607.2.2.1 bt607.2.2.2.1 bt607.2.2.2.2.1 bt607.2.2.2.2.2.1 bt607.2.2.2.2.2.2.1 true) else (if 5 + a2.size ≤ 9223372036854775807 then ((config_Attr.f bt607.1 true bt607.2.2.1 bt607.2.2.2.1 bt607.2.2.2.2.1 bt607.2.2.2.2.2.1 bt607.2.2.2.2.2.2.1 true a1 ((⟨#[100, 97, 116, 97, 45]⟩ : ByteArray) ++ a2)).bind fun t623 => (boltinglaw12_ConfigData.j0 k a1 (!t623) bt607.1 true bt607.2.2.1 bt607.2.2.2.1 bt607.2.2.2.2.1 bt607.2.2.2.2.2.1 bt607.2.2.2.2.2.2.1 true)) else (none)))) = some r := h
 clear h
 replace H := Option.bind_eq_some_iff.mp H
 obtain ⟨⟨t607, t608, t609, t612, t615, t618, t621, t622⟩, A40, H⟩ := H
 replace H : (if a2.toList = ([] : List UInt8) then (boltinglaw12_ConfigData.j0 k a1 false t607 true t609 t612 t615 t618 t621 true) else (if 5 + a2.size ≤ 9223372036854775807 then ((config_Attr.f t607 true t609 t612 t615 t618 t621 true a1 ((⟨#[100, 97, 116, 97, 45]⟩ : ByteArray) ++ a2)).bind fun t623 => (boltinglaw12_ConfigData.j0 k a1 (!t623) t607 true t609 t612 t615 t618 t621 true)) else (none))) = some r := H
 have A4 := Aside0.mk A40
 clear A40
 have HC5 := Aside0.mk H
 clear H
 go_enter Try.func5, Try.ntmps5
 go_upto_region 4 with (first | ((with_reducible refine gate_dst (N := 3) rfl ?_); refine box_event ?hg (N := 3) ?hd (cs := #[.bool a0_0, .bool a0_1, .slice A0_2 l0_2.length c0_2, .slice A0_3 l0_3.length c0_3, .slice A0_4 l0_4.length c0_4, .slice A0_5 l0_5.length c0_5, .bool a0_6, .bool a0_7]) (t := 25) ?hr ?_; (case hd => rfl); (case hg => rfl); (case hr => first | (go_simp; done) | (go_simp; rfl)); intro gb606 hg w6 hbox hb; have n0_ := Aside0.mk (below_step (by repeat (first | (with_reducible first | exact HB.out | apply below_alloc | apply pw_below_drewN | apply below_drew1) | exact HB.out)) hb); have n1_ := Aside0.mk (hbox); have n2_ := Aside0.mk ((by rw [hg]; exact (below_size (by repeat (first | (with_reducible first | exact HB.out | apply below_alloc | apply pw_below_drewN | apply below_drew1) | exact HB.out))) : w.heap.size ≤ gb606)); have n3_ := Aside0.mk ((by rw [hg]; exact (below_size (by repeat (first | (with_reducible first | exact HB.out | apply below_alloc | apply pw_below_drewN | apply below_drew1) | exact HB.out))) : w.heap.size ≤ gb606)); clear HB; have HB := n0_; have BK606 := n1_; have GW606 := n2_; have GE606 := n3_; clear n0_ n1_ n2_ n3_; clear hb hbox hg; have hcz7_0 : w6.cell? ⟨gb606, 0, none⟩ = some (.bool a0_0) := (blk_cell BK606.out 0).trans rfl; have hcz7_1 : w6.cell? ⟨gb606, 1, none⟩ = some (.bool a0_1) := (blk_cell BK606.out 1).trans rfl; have hcz7_2 : w6.cell? ⟨gb606, 2, none⟩ = some (.slice A0_2 l0_2.length c0_2) := (blk_cell BK606.out 2).trans rfl; have hcz7_3 : w6.cell? ⟨gb606, 3, none⟩ = some (.slice A0_3 l0_3.length c0_3) := (blk_cell BK606.out 3).trans rfl; have hcz7_4 : w6.cell? ⟨gb606, 4, none⟩ = some (.slice A0_4 l0_4.length c0_4) := (blk_cell BK606.out 4).trans rfl; have hcz7_5 : w6.cell? ⟨gb606, 5, none⟩ = some (.slice A0_5 l0_5.length c0_5) := (blk_cell BK606.out 5).trans rfl; have hcz7_6 : w6.cell? ⟨gb606, 6, none⟩ = some (.bool a0_6) := (blk_cell BK606.out 6).trans rfl; have hcz7_7 : w6.cell? ⟨gb606, 7, none⟩ = some (.bool a0_7) := (blk_cell BK606.out 7).trans rfl; have hfz7_0 := blk_frozen BK606.out 0; have hfz7_1 := blk_frozen BK606.out 1; have hfz7_2 := blk_frozen BK606.out 2; have hfz7_3 := blk_frozen BK606.out 3; have hfz7_4 := blk_frozen BK606.out 4; have hfz7_5 := blk_frozen BK606.out 5; have hfz7_6 := blk_frozen BK606.out 6; have hfz7_7 := blk_frozen BK606.out 7) | ((with_reducible refine gate_callee (f := 11) rfl ?_); refine goesL_ (some 12) rfl rfl Try.func11 (by kernel_rfl) rfl #[.agg #[.bool a0_0, .bool a0_1, .slice A0_2 l0_2.length c0_2, .slice A0_3 l0_3.length c0_3, .slice A0_4 l0_4.length c0_4, .slice A0_5 l0_5.length c0_5, .bool a0_6, .bool a0_7]] rfl (by (try simp only [List.map_toArray, List.map_cons, List.map_nil]); first | done | rfl | (simp only [List.length_drop, List.length_take]; rfl)) ?_; (with_reducible refine (boltinglaw12_Bound.calls k a0_0 a0_1 (fun k_ => k_ < w.heap.size) _ _ l0_2 (fun k_ => k_ < w.heap.size) _ _ l0_3 (fun k_ => k_ < w.heap.size) _ _ l0_4 (fun k_ => k_ < w.heap.size) _ _ l0_5 a0_6 a0_7 t607 t608 t609 t612 t615 t618 t621 t622 _ ?side1 ?side2 ?side3 ?side4 A4.out).mono ?_); (case side1 => exact Kd.V_mk HC0_2.out (Kd.F_below (Kd.C_F Kd.heap_string HR0_2.out) (by repeat (first | (with_reducible first | exact HB.out | apply below_alloc | apply pw_below_drewN | apply below_drew1 | refine below_set ?_ GE606.out) | exact HB.out)))); (case side2 => exact Kd.V_mk HC0_3.out (Kd.F_below (Kd.C_F Kd.heap_string HR0_3.out) (by repeat (first | (with_reducible first | exact HB.out | apply below_alloc | apply pw_below_drewN | apply below_drew1 | refine below_set ?_ GE606.out) | exact HB.out)))); (case side3 => exact Kd.V_mk HC0_4.out (Kd.F_below (Kd.C_F Kd.heap_string HR0_4.out) (by repeat (first | (with_reducible first | exact HB.out | apply below_alloc | apply pw_below_drewN | apply below_drew1 | refine below_set ?_ GE606.out) | exact HB.out)))); (case side4 => exact Kd.V_mk HC0_5.out (Kd.F_below (Kd.C_F k35_heap HR0_5.out) (by repeat (first | (with_reducible first | exact HB.out | apply below_alloc | apply pw_below_drewN | apply below_drew1 | refine below_set ?_ GE606.out) | exact HB.out)))); rintro e w8 ⟨v610, v613, v616, v619, rfl, ho0, ho1, ho2, ho3, hb⟩; refine ⟨_, rfl, ?_⟩; have n0_ := Aside0.mk (Kd.V_lower (Kd.V_mono (ok' := fun k_ => some k_ ≠ (v619 : Value).ownBlock ∧ k_ ≠ gb606) ho0 (fun k_ hk_ => ⟨hk_.2, Or.elim hk_.1 (fun hs_ => Or.elim hs_ (fun hs_ => fun e_ => Nat.not_le.2 hs_ (by rw [e_]; exact GW606.out)) (fun hs_ => Or.elim hs_ (fun hs_ => fun e_ => Nat.not_le.2 hs_ (by rw [e_]; exact GW606.out)) (fun hs_ => Or.elim hs_ (fun hs_ => fun e_ => Nat.not_le.2 hs_ (by rw [e_]; exact GW606.out)) (fun hs_ => fun e_ => Nat.not_le.2 hs_ (by rw [e_]; exact GW606.out))))) (fun hn_ => (Kd.freshB (g := gb606) (o := .cells #[.bool a0_0, .bool a0_1, .slice A0_2 l0_2.length c0_2, .slice A0_3 l0_3.length c0_3, .slice A0_4 l0_4.length c0_4, .slice A0_5 l0_5.length c0_5, .bool a0_6, .bool a0_7] 25 (0, 0)) (by exact BK606.out) k_ hn_))⟩)) (below_size (by repeat (first | (with_reducible first | exact HB.out | apply below_alloc | apply pw_below_drewN | apply below_drew1 | refine below_set ?_ GE606.out) | exact HB.out)))); have n1_ := Aside0.mk (Kd.V_lower (Kd.V_mono (ok' := fun k_ => some k_ ≠ (v619 : Value).ownBlock ∧ k_ ≠ gb606) ho1 (fun k_ hk_ => ⟨hk_.2, Or.elim hk_.1 (fun hs_ => Or.elim hs_ (fun hs_ => fun e_ => Nat.not_le.2 hs_ (by rw [e_]; exact GW606.out)) (fun hs_ => Or.elim hs_ (fun hs_ => fun e_ => Nat.not_le.2 hs_ (by rw [e_]; exact GW606.out)) (fun hs_ => Or.elim hs_ (fun hs_ => fun e_ => Nat.not_le.2 hs_ (by rw [e_]; exact GW606.out)) (fun hs_ => fun e_ => Nat.not_le.2 hs_ (by rw [e_]; exact GW606.out))))) (fun hn_ => (Kd.freshB (g := gb606) (o := .cells #[.bool a0_0, .bool a0_1, .slice A0_2 l0_2.length c0_2, .slice A0_3 l0_3.length c0_3, .slice A0_4 l0_4.length c0_4, .slice A0_5 l0_5.length c0_5, .bool a0_6, .bool a0_7] 25 (0, 0)) (by exact BK606.out) k_ hn_))⟩)) (below_size (by repeat (first | (with_reducible first | exact HB.out | apply below_alloc | apply pw_below_drewN | apply below_drew1 | refine below_set ?_ GE606.out) | exact HB.out)))); have n2_ := Aside0.mk (Kd.V_lower (Kd.V_mono (ok' := fun k_ => some k_ ≠ (v619 : Value).ownBlock ∧ k_ ≠ gb606) ho2 (fun k_ hk_ => ⟨hk_.2, Or.elim hk_.1 (fun hs_ => Or.elim hs_ (fun hs_ => fun e_ => Nat.not_le.2 hs_ (by rw [e_]; exact GW606.out)) (fun hs_ => Or.elim hs_ (fun hs_ => fun e_ => Nat.not_le.2 hs_ (by rw [e_]; exact GW606.out)) (fun hs_ => Or.elim hs_ (fun hs_ => fun e_ => Nat.not_le.2 hs_ (by rw [e_]; exact GW606.out)) (fun hs_ => fun e_ => Nat.not_le.2 hs_ (by rw [e_]; exact GW606.out))))) (fun hn_ => (Kd.freshB (g := gb606) (o := .cells #[.bool a0_0, .bool a0_1, .slice A0_2 l0_2.length c0_2, .slice A0_3 l0_3.length c0_3, .slice A0_4 l0_4.length c0_4, .slice A0_5 l0_5.length c0_5, .bool a0_6, .bool a0_7] 25 (0, 0)) (by exact BK606.out) k_ hn_))⟩)) (below_size (by repeat (first | (with_reducible first | exact HB.out | apply below_alloc | apply pw_below_drewN | apply below_drew1 | refine below_set ?_ GE606.out) | exact HB.out)))); have n3_ := Aside0.mk (Kd.N_lower (Kd.N_mono (ok' := fun k_ => k_ ≠ gb606) ho3 (fun k_ hk_ => Or.elim hk_ (fun hs_ => Or.elim hs_ (fun hs_ => fun e_ => Nat.not_le.2 hs_ (by rw [e_]; exact GW606.out)) (fun hs_ => Or.elim hs_ (fun hs_ => fun e_ => Nat.not_le.2 hs_ (by rw [e_]; exact GW606.out)) (fun hs_ => Or.elim hs_ (fun hs_ => fun e_ => Nat.not_le.2 hs_ (by rw [e_]; exact GW606.out)) (fun hs_ => fun e_ => Nat.not_le.2 hs_ (by rw [e_]; exact GW606.out))))) (fun hn_ => (Kd.freshB (g := gb606) (o := .cells #[.bool a0_0, .bool a0_1, .slice A0_2 l0_2.length c0_2, .slice A0_3 l0_3.length c0_3, .slice A0_4 l0_4.length c0_4, .slice A0_5 l0_5.length c0_5, .bool a0_6, .bool a0_7] 25 (0, 0)) (by exact BK606.out) k_ hn_)))) (below_size (by repeat (first | (with_reducible first | exact HB.out | apply below_alloc | apply pw_below_drewN | apply below_drew1 | refine below_set ?_ GE606.out) | exact HB.out)))); have n4_ := Aside0.mk (blk_below (g := gb606) (o := .cells #[.bool a0_0, .bool a0_1, .slice A0_2 l0_2.length c0_2, .slice A0_3 l0_3.length c0_3, .slice A0_4 l0_4.length c0_4, .slice A0_5 l0_5.length c0_5, .bool a0_6, .bool a0_7] 25 (0, 0)) (by exact BK606.out) hb); have n5_ := Aside0.mk (below_step (by repeat (first | (with_reducible first | exact HB.out | apply below_alloc | apply pw_below_drewN | apply below_drew1 | refine below_set ?_ GE606.out) | exact HB.out)) hb); clear BK606; clear HB; have HO611 := n0_; have HO614 := n1_; have HO617 := n2_; have HO620 := n3_; have BK606 := n4_; have HB := n5_; clear n0_ n1_ n2_ n3_ n4_ n5_; (try clear hb); (try clear hb2); (try clear hk); (try clear hi); (try clear ho0); (try clear ho1); (try clear ho2); (try clear ho3); have hcz9_0 : w8.cell? ⟨gb606, 0, none⟩ = some (.bool a0_0) := (blk_cell BK606.out 0).trans rfl; have hcz9_1 : w8.cell? ⟨gb606, 1, none⟩ = some (.bool a0_1) := (blk_cell BK606.out 1).trans rfl; have hcz9_2 : w8.cell? ⟨gb606, 2, none⟩ = some (.slice A0_2 l0_2.length c0_2) := (blk_cell BK606.out 2).trans rfl; have hcz9_3 : w8.cell? ⟨gb606, 3, none⟩ = some (.slice A0_3 l0_3.length c0_3) := (blk_cell BK606.out 3).trans rfl; have hcz9_4 : w8.cell? ⟨gb606, 4, none⟩ = some (.slice A0_4 l0_4.length c0_4) := (blk_cell BK606.out 4).trans rfl; have hcz9_5 : w8.cell? ⟨gb606, 5, none⟩ = some (.slice A0_5 l0_5.length c0_5) := (blk_cell BK606.out 5).trans rfl; have hcz9_6 : w8.cell? ⟨gb606, 6, none⟩ = some (.bool a0_6) := (blk_cell BK606.out 6).trans rfl; have hcz9_7 : w8.cell? ⟨gb606, 7, none⟩ = some (.bool a0_7) := (blk_cell BK606.out 7).trans rfl; have hfz9_0 := blk_frozen BK606.out 0; have hfz9_1 := blk_frozen BK606.out 1; have hfz9_2 := blk_frozen BK606.out 2; have hfz9_3 := blk_frozen BK606.out 3; have hfz9_4 := blk_frozen BK606.out 4; have hfz9_5 := blk_frozen BK606.out 5; have hfz9_6 := blk_frozen BK606.out 6; have hfz9_7 := blk_frozen BK606.out 7; obtain ⟨Ao10, co10, eo10⟩ := Kd.V_slice HO611.out; subst eo10; obtain ⟨Ao11, co11, eo11⟩ := Kd.V_slice HO614.out; subst eo11; obtain ⟨Ao12, co12, eo12⟩ := Kd.V_slice HO617.out; subst eo12; obtain ⟨Ao13, co13, eo13⟩ := Kd.N_slice HO620.out; subst eo13))
 (try simp only [Act.put, List.setIfInBounds_toArray, List.set_cons_zero, List.set_cons_succ])
 go_cut [24] (fun v24 wc => ∃ (kq : Nat) (x24_4 : Bool), v24 = .bool x24_4 ∧ Aside0 (boltinglaw12_ConfigData.j0 kq a1 x24_4 t607 true t609 t612 t615 t618 t621 true = some r) ∧ Aside0 (kq ≤ k) ∧ Aside0 (Kd.V Kd.string 9 wc w.heap.size (fun k_ => some k_ ≠ ((.slice Ao13 t618.length co13) : Value).ownBlock ∧ k_ ≠ gb606) (.slice Ao10 t609.length co10) t609) ∧ Aside0 (Kd.V Kd.string 9 wc w.heap.size (fun k_ => some k_ ≠ ((.slice Ao13 t618.length co13) : Value).ownBlock ∧ k_ ≠ gb606) (.slice Ao11 t612.length co11) t612) ∧ Aside0 (Kd.V Kd.string 9 wc w.heap.size (fun k_ => some k_ ≠ ((.slice Ao13 t618.length co13) : Value).ownBlock ∧ k_ ≠ gb606) (.slice Ao12 t615.length co12) t615) ∧ Aside0 (Kd.N k35 35 wc w.heap.size (fun k_ => k_ ≠ gb606) (.slice Ao13 t618.length co13) t618) ∧ Aside0 (wc.heap[gb606]? = some (.cells #[.bool t607, .bool true, (.slice Ao10 t609.length co10), (.slice Ao11 t612.length co11), (.slice Ao12 t615.length co12), (.slice Ao13 t618.length co13), .bool t621, .bool true] 25 (0, 0))) ∧ Aside0 (Below w.heap.size w wc))
 case first =>
  have H := HC5.out
  clear HC5
  by_cases c14 : a2.toList = ([] : List UInt8)
  ·rw [if_pos c14] at H
   have c14b0 : (a2.toList == ([] : List UInt8)) = true := beq_iff_eq.mpr c14
   have c14b1 : (a2.toList != ([] : List UInt8)) = false := bne_eq_false_iff_eq.mpr c14
   clear c14
   (first | rw [c14b0] | (simp only [i64_w, i32_w]; rw [c14b0]) | skip)
   have H' := Aside0.mk H
   clear H
   go_wp2
   go_meet
   case rel => exact ⟨_, (false), (by first | rfl | (simp; done) | (simp [*]; done)), H', ⟨by first | omega | exact Nat.le_refl _⟩, ⟨by exact Kd.V_mono (Kd.V_far (p := ⟨gb606, 7, none⟩) (Kd.V_far (p := ⟨gb606, 1, none⟩) (Kd.V_far (p := ⟨gb606, 7, none⟩) (Kd.V_far (p := ⟨gb606, 6, none⟩) (Kd.V_far (p := ⟨gb606, 5, none⟩) (Kd.V_far (p := ⟨gb606, 4, none⟩) (Kd.V_far (p := ⟨gb606, 3, none⟩) (Kd.V_far (p := ⟨gb606, 2, none⟩) (Kd.V_far (p := ⟨gb606, 1, none⟩) (Kd.V_far (p := ⟨gb606, 0, none⟩) (Kd.V_mono HO611.out (fun k_ hk => (⟨hk, hk.2⟩ : _ ∧ k_ ≠ gb606))) (fun _ hk => hk.2) (.bool t607)) (fun _ hk => hk.2) (.bool t608)) (fun _ hk => hk.2) (.slice Ao10 t609.length co10)) (fun _ hk => hk.2) (.slice Ao11 t612.length co11)) (fun _ hk => hk.2) (.slice Ao12 t615.length co12)) (fun _ hk => hk.2) (.slice Ao13 t618.length co13)) (fun _ hk => hk.2) (.bool t621)) (fun _ hk => hk.2) (.bool t622)) (fun _ hk => hk.2) (.bool true)) (fun _ hk => hk.2) (.bool true)) (fun _ hk => ⟨hk.1.1, hk.1.2⟩)⟩, ⟨by exact Kd.V_mono (Kd.V_far (p := ⟨gb606, 7, none⟩) (Kd.V_far (p := ⟨gb606, 1, none⟩) (Kd.V_far (p := ⟨gb606, 7, none⟩) (Kd.V_far (p := ⟨gb606, 6, none⟩) (Kd.V_far (p := ⟨gb606, 5, none⟩) (Kd.V_far (p := ⟨gb606, 4, none⟩) (Kd.V_far (p := ⟨gb606, 3, none⟩) (Kd.V_far (p := ⟨gb606, 2, none⟩) (Kd.V_far (p := ⟨gb606, 1, none⟩) (Kd.V_far (p := ⟨gb606, 0, none⟩) (Kd.V_mono HO614.out (fun k_ hk => (⟨hk, hk.2⟩ : _ ∧ k_ ≠ gb606))) (fun _ hk => hk.2) (.bool t607)) (fun _ hk => hk.2) (.bool t608)) (fun _ hk => hk.2) (.slice Ao10 t609.length co10)) (fun _ hk => hk.2) (.slice Ao11 t612.length co11)) (fun _ hk => hk.2) (.slice Ao12 t615.length co12)) (fun _ hk => hk.2) (.slice Ao13 t618.length co13)) (fun _ hk => hk.2) (.bool t621)) (fun _ hk => hk.2) (.bool t622)) (fun _ hk => hk.2) (.bool true)) (fun _ hk => hk.2) (.bool true)) (fun _ hk => ⟨hk.1.1, hk.1.2⟩)⟩, ⟨by exact Kd.V_mono (Kd.V_far (p := ⟨gb606, 7, none⟩) (Kd.V_far (p := ⟨gb606, 1, none⟩) (Kd.V_far (p := ⟨gb606, 7, none⟩) (Kd.V_far (p := ⟨gb606, 6, none⟩) (Kd.V_far (p := ⟨gb606, 5, none⟩) (Kd.V_far (p := ⟨gb606, 4, none⟩) (Kd.V_far (p := ⟨gb606, 3, none⟩) (Kd.V_far (p := ⟨gb606, 2, none⟩) (Kd.V_far (p := ⟨gb606, 1, none⟩) (Kd.V_far (p := ⟨gb606, 0, none⟩) (Kd.V_mono HO617.out (fun k_ hk => (⟨hk, hk.2⟩ : _ ∧ k_ ≠ gb606))) (fun _ hk => hk.2) (.bool t607)) (fun _ hk => hk.2) (.bool t608)) (fun _ hk => hk.2) (.slice Ao10 t609.length co10)) (fun _ hk => hk.2) (.slice Ao11 t612.length co11)) (fun _ hk => hk.2) (.slice Ao12 t615.length co12)) (fun _ hk => hk.2) (.slice Ao13 t618.length co13)) (fun _ hk => hk.2) (.bool t621)) (fun _ hk => hk.2) (.bool t622)) (fun _ hk => hk.2) (.bool true)) (fun _ hk => hk.2) (.bool true)) (fun _ hk => ⟨hk.1.1, hk.1.2⟩)⟩, ⟨by exact Kd.N_mono (Kd.N_far (p := ⟨gb606, 7, none⟩) (Kd.N_far (p := ⟨gb606, 1, none⟩) (Kd.N_far (p := ⟨gb606, 7, none⟩) (Kd.N_far (p := ⟨gb606, 6, none⟩) (Kd.N_far (p := ⟨gb606, 5, none⟩) (Kd.N_far (p := ⟨gb606, 4, none⟩) (Kd.N_far (p := ⟨gb606, 3, none⟩) (Kd.N_far (p := ⟨gb606, 2, none⟩) (Kd.N_far (p := ⟨gb606, 1, none⟩) (Kd.N_far (p := ⟨gb606, 0, none⟩) (Kd.N_mono HO620.out (fun k_ hk => (⟨hk, hk⟩ : _ ∧ k_ ≠ gb606))) (fun _ hk => hk.2) (.bool t607)) (fun _ hk => hk.2) (.bool t608)) (fun _ hk => hk.2) (.slice Ao10 t609.length co10)) (fun _ hk => hk.2) (.slice Ao11 t612.length co11)) (fun _ hk => hk.2) (.slice Ao12 t615.length co12)) (fun _ hk => hk.2) (.slice Ao13 t618.length co13)) (fun _ hk => hk.2) (.bool t621)) (fun _ hk => hk.2) (.bool t622)) (fun _ hk => hk.2) (.bool true)) (fun _ hk => hk.2) (.bool true)) (fun _ hk => hk.1)⟩, ⟨by refine blk_put (cs := #[.bool t607, .bool true, .slice Ao10 t609.length co10, .slice Ao11 t612.length co11, .slice Ao12 t615.length co12, .slice Ao13 t618.length co13, .bool t621, .bool t622]) ?_ 7 _ rfl; refine blk_put (cs := #[.bool t607, .bool t608, .slice Ao10 t609.length co10, .slice Ao11 t612.length co11, .slice Ao12 t615.length co12, .slice Ao13 t618.length co13, .bool t621, .bool t622]) ?_ 1 _ rfl; refine blk_put (cs := #[.bool t607, .bool t608, .slice Ao10 t609.length co10, .slice Ao11 t612.length co11, .slice Ao12 t615.length co12, .slice Ao13 t618.length co13, .bool t621, .bool a0_7]) ?_ 7 _ rfl; refine blk_put (cs := #[.bool t607, .bool t608, .slice Ao10 t609.length co10, .slice Ao11 t612.length co11, .slice Ao12 t615.length co12, .slice Ao13 t618.length co13, .bool a0_6, .bool a0_7]) ?_ 6 _ rfl; refine blk_put (cs := #[.bool t607, .bool t608, .slice Ao10 t609.length co10, .slice Ao11 t612.length co11, .slice Ao12 t615.length co12, .slice A0_5 l0_5.length c0_5, .bool a0_6, .bool a0_7]) ?_ 5 _ rfl; refine blk_put (cs := #[.bool t607, .bool t608, .slice Ao10 t609.length co10, .slice Ao11 t612.length co11, .slice A0_4 l0_4.length c0_4, .slice A0_5 l0_5.length c0_5, .bool a0_6, .bool a0_7]) ?_ 4 _ rfl; refine blk_put (cs := #[.bool t607, .bool t608, .slice Ao10 t609.length co10, .slice A0_3 l0_3.length c0_3, .slice A0_4 l0_4.length c0_4, .slice A0_5 l0_5.length c0_5, .bool a0_6, .bool a0_7]) ?_ 3 _ rfl; refine blk_put (cs := #[.bool t607, .bool t608, .slice A0_2 l0_2.length c0_2, .slice A0_3 l0_3.length c0_3, .slice A0_4 l0_4.length c0_4, .slice A0_5 l0_5.length c0_5, .bool a0_6, .bool a0_7]) ?_ 2 _ rfl; refine blk_put (cs := #[.bool t607, .bool a0_1, .slice A0_2 l0_2.length c0_2, .slice A0_3 l0_3.length c0_3, .slice A0_4 l0_4.length c0_4, .slice A0_5 l0_5.length c0_5, .bool a0_6, .bool a0_7]) ?_ 1 _ rfl; refine blk_put (cs := #[.bool a0_0, .bool a0_1, .slice A0_2 l0_2.length c0_2, .slice A0_3 l0_3.length c0_3, .slice A0_4 l0_4.length c0_4, .slice A0_5 l0_5.length c0_5, .bool a0_6, .bool a0_7]) ?_ 0 _ rfl; exact BK606.out⟩, ⟨by repeat (first | (with_reducible first | exact HB.out | apply below_alloc | apply pw_below_drewN | apply below_drew1 | refine below_set ?_ GE606.out) | exact HB.out)⟩⟩
  ·rw [if_neg c14] at H
   have c14b0 : (a2.toList == ([] : List UInt8)) = false := beq_eq_false_iff_ne.mpr c14
   have c14b1 : (a2.toList != ([] : List UInt8)) = true := bne_iff_ne.mpr c14
   (first | rw [c14b0] | (simp only [i64_w, i32_w]; rw [c14b0]) | skip)
   by_cases c15 : 5 + a2.size ≤ 9223372036854775807
   ·rw [if_pos c15] at H
    have c15b0 := eq_true c15
    have c15b1 : decide (5 + a2.size ≤ 9223372036854775807) = true := decide_eq_true c15
    try have c15b2 : (9223372036854775807 < 5 + a2.size) = False := eq_false (Nat.not_lt.2 c15)
    replace H := Option.bind_eq_some_iff.mp H
    obtain ⟨t623, A160, H⟩ := H
    replace H : (boltinglaw12_ConfigData.j0 k a1 (!t623) t607 true t609 t612 t615 t618 t621 true) = some r := H
    have A16 := Aside0.mk A160
    clear A160
    have H' := Aside0.mk H
    clear H
    have hcz17_0 : w8.cell? ⟨gb606, 0, none⟩ = some (.bool a0_0) := (blk_cell BK606.out 0).trans rfl
    have hcz17_1 : w8.cell? ⟨gb606, 1, none⟩ = some (.bool a0_1) := (blk_cell BK606.out 1).trans rfl
    have hcz17_2 : w8.cell? ⟨gb606, 2, none⟩ = some (.slice A0_2 l0_2.length c0_2) := (blk_cell BK606.out 2).trans rfl
    have hcz17_3 : w8.cell? ⟨gb606, 3, none⟩ = some (.slice A0_3 l0_3.length c0_3) := (blk_cell BK606.out 3).trans rfl
    have hcz17_4 : w8.cell? ⟨gb606, 4, none⟩ = some (.slice A0_4 l0_4.length c0_4) := (blk_cell BK606.out 4).trans rfl
    have hcz17_5 : w8.cell? ⟨gb606, 5, none⟩ = some (.slice A0_5 l0_5.length c0_5) := (blk_cell BK606.out 5).trans rfl
    have hcz17_6 : w8.cell? ⟨gb606, 6, none⟩ = some (.bool a0_6) := (blk_cell BK606.out 6).trans rfl
    have hcz17_7 : w8.cell? ⟨gb606, 7, none⟩ = some (.bool a0_7) := (blk_cell BK606.out 7).trans rfl
    have hfz17_0 := blk_frozen BK606.out 0
    have hfz17_1 := blk_frozen BK606.out 1
    have hfz17_2 := blk_frozen BK606.out 2
    have hfz17_3 := blk_frozen BK606.out 3
    have hfz17_4 := blk_frozen BK606.out 4
    have hfz17_5 := blk_frozen BK606.out 5
    have hfz17_6 := blk_frozen BK606.out 6
    have hfz17_7 := blk_frozen BK606.out 7
    have hx1_ : ((((((((w8.setCell ⟨gb606, 0, none⟩ (.bool t607)).setCell ⟨gb606, 1, none⟩ (.bool t608)).setCell ⟨gb606, 2, none⟩ (.slice Ao10 t609.length co10)).setCell ⟨gb606, 3, none⟩ (.slice Ao11 t612.length co11)).setCell ⟨gb606, 4, none⟩ (.slice Ao12 t615.length co12)).setCell ⟨gb606, 5, none⟩ (.slice Ao13 t618.length co13)).setCell ⟨gb606, 6, none⟩ (.bool t621)).setCell ⟨gb606, 7, none⟩ (.bool t622)).cell? ⟨gb606, 1, none⟩ = some (.bool t608) := by go_simp
    have hx7_ : (((((((((w8.setCell ⟨gb606, 0, none⟩ (.bool t607)).setCell ⟨gb606, 1, none⟩ (.bool t608)).setCell ⟨gb606, 2, none⟩ (.slice Ao10 t609.length co10)).setCell ⟨gb606, 3, none⟩ (.slice Ao11 t612.length co11)).setCell ⟨gb606, 4, none⟩ (.slice Ao12 t615.length co12)).setCell ⟨gb606, 5, none⟩ (.slice Ao13 t618.length co13)).setCell ⟨gb606, 6, none⟩ (.bool t621)).setCell ⟨gb606, 7, none⟩ (.bool t622)).setCell ⟨gb606, 1, none⟩ (.bool true)).cell? ⟨gb606, 7, none⟩ = some (.bool t622) := by go_simp
    go_wp2_with (first | (go_at_call 15; (with_reducible refine (config_Attr.calls t607 true _ _ t609 _ _ t612 _ _ t615 _ _ t618 t621 true a1 ((⟨#[100, 97, 116, 97, 45]⟩ : ByteArray) ++ a2) t623 _ ?side1 ?side2 ?side3 ?side4 ?side5 ?side6 ?side7 ?side8 A16.out).mono ?_); (case side1 => refine (Kd.V_reads' (e := 9) (base := w.heap.size) (ok := fun k_ => (some k_ ≠ (.slice Ao13 t618.length co13 : Value).ownBlock ∧ k_ ≠ gb606)) (n := t609.length) (c := co10) ?_).2.2; exact (by exact (Kd.V_mono (Kd.V_far (p := ⟨gb606, 7, none⟩) (Kd.V_far (p := ⟨gb606, 1, none⟩) (Kd.V_far (p := ⟨gb606, 7, none⟩) (Kd.V_far (p := ⟨gb606, 6, none⟩) (Kd.V_far (p := ⟨gb606, 5, none⟩) (Kd.V_far (p := ⟨gb606, 4, none⟩) (Kd.V_far (p := ⟨gb606, 3, none⟩) (Kd.V_far (p := ⟨gb606, 2, none⟩) (Kd.V_far (p := ⟨gb606, 1, none⟩) (Kd.V_far (p := ⟨gb606, 0, none⟩) (Kd.V_mono HO611.out (fun k_ hk => (⟨hk, hk.2⟩ : _ ∧ k_ ≠ gb606))) (fun _ hk => hk.2) (.bool t607)) (fun _ hk => hk.2) (.bool t608)) (fun _ hk => hk.2) (.slice Ao10 t609.length co10)) (fun _ hk => hk.2) (.slice Ao11 t612.length co11)) (fun _ hk => hk.2) (.slice Ao12 t615.length co12)) (fun _ hk => hk.2) (.slice Ao13 t618.length co13)) (fun _ hk => hk.2) (.bool t621)) (fun _ hk => hk.2) (.bool t622)) (fun _ hk => hk.2) (.bool true)) (fun _ hk => hk.2) (.bool true)) (fun _ h_ => h_.1)))); (case side2 => exact (Kd.V_reads' HO611.out).2.1); (case side3 => refine (Kd.V_reads' (e := 9) (base := w.heap.size) (ok := fun k_ => (some k_ ≠ (.slice Ao13 t618.length co13 : Value).ownBlock ∧ k_ ≠ gb606)) (n := t612.length) (c := co11) ?_).2.2; exact (by exact (Kd.V_mono (Kd.V_far (p := ⟨gb606, 7, none⟩) (Kd.V_far (p := ⟨gb606, 1, none⟩) (Kd.V_far (p := ⟨gb606, 7, none⟩) (Kd.V_far (p := ⟨gb606, 6, none⟩) (Kd.V_far (p := ⟨gb606, 5, none⟩) (Kd.V_far (p := ⟨gb606, 4, none⟩) (Kd.V_far (p := ⟨gb606, 3, none⟩) (Kd.V_far (p := ⟨gb606, 2, none⟩) (Kd.V_far (p := ⟨gb606, 1, none⟩) (Kd.V_far (p := ⟨gb606, 0, none⟩) (Kd.V_mono HO614.out (fun k_ hk => (⟨hk, hk.2⟩ : _ ∧ k_ ≠ gb606))) (fun _ hk => hk.2) (.bool t607)) (fun _ hk => hk.2) (.bool t608)) (fun _ hk => hk.2) (.slice Ao10 t609.length co10)) (fun _ hk => hk.2) (.slice Ao11 t612.length co11)) (fun _ hk => hk.2) (.slice Ao12 t615.length co12)) (fun _ hk => hk.2) (.slice Ao13 t618.length co13)) (fun _ hk => hk.2) (.bool t621)) (fun _ hk => hk.2) (.bool t622)) (fun _ hk => hk.2) (.bool true)) (fun _ hk => hk.2) (.bool true)) (fun _ h_ => h_.1)))); (case side4 => exact (Kd.V_reads' HO614.out).2.1); (case side5 => refine (Kd.V_reads' (e := 9) (base := w.heap.size) (ok := fun k_ => (some k_ ≠ (.slice Ao13 t618.length co13 : Value).ownBlock ∧ k_ ≠ gb606)) (n := t615.length) (c := co12) ?_).2.2; exact (by exact (Kd.V_mono (Kd.V_far (p := ⟨gb606, 7, none⟩) (Kd.V_far (p := ⟨gb606, 1, none⟩) (Kd.V_far (p := ⟨gb606, 7, none⟩) (Kd.V_far (p := ⟨gb606, 6, none⟩) (Kd.V_far (p := ⟨gb606, 5, none⟩) (Kd.V_far (p := ⟨gb606, 4, none⟩) (Kd.V_far (p := ⟨gb606, 3, none⟩) (Kd.V_far (p := ⟨gb606, 2, none⟩) (Kd.V_far (p := ⟨gb606, 1, none⟩) (Kd.V_far (p := ⟨gb606, 0, none⟩) (Kd.V_mono HO617.out (fun k_ hk => (⟨hk, hk.2⟩ : _ ∧ k_ ≠ gb606))) (fun _ hk => hk.2) (.bool t607)) (fun _ hk => hk.2) (.bool t608)) (fun _ hk => hk.2) (.slice Ao10 t609.length co10)) (fun _ hk => hk.2) (.slice Ao11 t612.length co11)) (fun _ hk => hk.2) (.slice Ao12 t615.length co12)) (fun _ hk => hk.2) (.slice Ao13 t618.length co13)) (fun _ hk => hk.2) (.bool t621)) (fun _ hk => hk.2) (.bool t622)) (fun _ hk => hk.2) (.bool true)) (fun _ hk => hk.2) (.bool true)) (fun _ h_ => h_.1)))); (case side6 => exact (Kd.V_reads' HO617.out).2.1); (case side7 => refine (Kd.N_reads' (e := 35) (base := w.heap.size) (ok := fun k_ => k_ ≠ gb606) (n := t618.length) (c := co13) ?_).2.2; exact (by exact (Kd.N_mono (Kd.N_far (p := ⟨gb606, 7, none⟩) (Kd.N_far (p := ⟨gb606, 1, none⟩) (Kd.N_far (p := ⟨gb606, 7, none⟩) (Kd.N_far (p := ⟨gb606, 6, none⟩) (Kd.N_far (p := ⟨gb606, 5, none⟩) (Kd.N_far (p := ⟨gb606, 4, none⟩) (Kd.N_far (p := ⟨gb606, 3, none⟩) (Kd.N_far (p := ⟨gb606, 2, none⟩) (Kd.N_far (p := ⟨gb606, 1, none⟩) (Kd.N_far (p := ⟨gb606, 0, none⟩) (Kd.N_mono HO620.out (fun k_ hk => (⟨hk, hk⟩ : _ ∧ k_ ≠ gb606))) (fun _ hk => hk.2) (.bool t607)) (fun _ hk => hk.2) (.bool t608)) (fun _ hk => hk.2) (.slice Ao10 t609.length co10)) (fun _ hk => hk.2) (.slice Ao11 t612.length co11)) (fun _ hk => hk.2) (.slice Ao12 t615.length co12)) (fun _ hk => hk.2) (.slice Ao13 t618.length co13)) (fun _ hk => hk.2) (.bool t621)) (fun _ hk => hk.2) (.bool t622)) (fun _ hk => hk.2) (.bool true)) (fun _ hk => hk.2) (.bool true)) (fun _ h_ => h_.1)))); (case side8 => exact (Kd.N_reads' HO620.out).2.1); rintro e w18 ⟨rfl, hb⟩; have n0_ := Aside0.mk (Kd.V_below (by exact (Kd.V_mono (Kd.V_far (p := ⟨gb606, 7, none⟩) (Kd.V_far (p := ⟨gb606, 1, none⟩) (Kd.V_far (p := ⟨gb606, 7, none⟩) (Kd.V_far (p := ⟨gb606, 6, none⟩) (Kd.V_far (p := ⟨gb606, 5, none⟩) (Kd.V_far (p := ⟨gb606, 4, none⟩) (Kd.V_far (p := ⟨gb606, 3, none⟩) (Kd.V_far (p := ⟨gb606, 2, none⟩) (Kd.V_far (p := ⟨gb606, 1, none⟩) (Kd.V_far (p := ⟨gb606, 0, none⟩) (Kd.V_mono HO611.out (fun k_ hk => (⟨hk, hk.2⟩ : _ ∧ k_ ≠ gb606))) (fun _ hk => hk.2) (.bool t607)) (fun _ hk => hk.2) (.bool t608)) (fun _ hk => hk.2) (.slice Ao10 t609.length co10)) (fun _ hk => hk.2) (.slice Ao11 t612.length co11)) (fun _ hk => hk.2) (.slice Ao12 t615.length co12)) (fun _ hk => hk.2) (.slice Ao13 t618.length co13)) (fun _ hk => hk.2) (.bool t621)) (fun _ hk => hk.2) (.bool t622)) (fun _ hk => hk.2) (.bool true)) (fun _ hk => hk.2) (.bool true)) (fun _ h_ => h_.1))) hb); have n1_ := Aside0.mk (Kd.V_below (by exact (Kd.V_mono (Kd.V_far (p := ⟨gb606, 7, none⟩) (Kd.V_far (p := ⟨gb606, 1, none⟩) (Kd.V_far (p := ⟨gb606, 7, none⟩) (Kd.V_far (p := ⟨gb606, 6, none⟩) (Kd.V_far (p := ⟨gb606, 5, none⟩) (Kd.V_far (p := ⟨gb606, 4, none⟩) (Kd.V_far (p := ⟨gb606, 3, none⟩) (Kd.V_far (p := ⟨gb606, 2, none⟩) (Kd.V_far (p := ⟨gb606, 1, none⟩) (Kd.V_far (p := ⟨gb606, 0, none⟩) (Kd.V_mono HO614.out (fun k_ hk => (⟨hk, hk.2⟩ : _ ∧ k_ ≠ gb606))) (fun _ hk => hk.2) (.bool t607)) (fun _ hk => hk.2) (.bool t608)) (fun _ hk => hk.2) (.slice Ao10 t609.length co10)) (fun _ hk => hk.2) (.slice Ao11 t612.length co11)) (fun _ hk => hk.2) (.slice Ao12 t615.length co12)) (fun _ hk => hk.2) (.slice Ao13 t618.length co13)) (fun _ hk => hk.2) (.bool t621)) (fun _ hk => hk.2) (.bool t622)) (fun _ hk => hk.2) (.bool true)) (fun _ hk => hk.2) (.bool true)) (fun _ h_ => h_.1))) hb); have n2_ := Aside0.mk (Kd.V_below (by exact (Kd.V_mono (Kd.V_far (p := ⟨gb606, 7, none⟩) (Kd.V_far (p := ⟨gb606, 1, none⟩) (Kd.V_far (p := ⟨gb606, 7, none⟩) (Kd.V_far (p := ⟨gb606, 6, none⟩) (Kd.V_far (p := ⟨gb606, 5, none⟩) (Kd.V_far (p := ⟨gb606, 4, none⟩) (Kd.V_far (p := ⟨gb606, 3, none⟩) (Kd.V_far (p := ⟨gb606, 2, none⟩) (Kd.V_far (p := ⟨gb606, 1, none⟩) (Kd.V_far (p := ⟨gb606, 0, none⟩) (Kd.V_mono HO617.out (fun k_ hk => (⟨hk, hk.2⟩ : _ ∧ k_ ≠ gb606))) (fun _ hk => hk.2) (.bool t607)) (fun _ hk => hk.2) (.bool t608)) (fun _ hk => hk.2) (.slice Ao10 t609.length co10)) (fun _ hk => hk.2) (.slice Ao11 t612.length co11)) (fun _ hk => hk.2) (.slice Ao12 t615.length co12)) (fun _ hk => hk.2) (.slice Ao13 t618.length co13)) (fun _ hk => hk.2) (.bool t621)) (fun _ hk => hk.2) (.bool t622)) (fun _ hk => hk.2) (.bool true)) (fun _ hk => hk.2) (.bool true)) (fun _ h_ => h_.1))) hb); have n3_ := Aside0.mk (Kd.N_below (by exact (Kd.N_mono (Kd.N_far (p := ⟨gb606, 7, none⟩) (Kd.N_far (p := ⟨gb606, 1, none⟩) (Kd.N_far (p := ⟨gb606, 7, none⟩) (Kd.N_far (p := ⟨gb606, 6, none⟩) (Kd.N_far (p := ⟨gb606, 5, none⟩) (Kd.N_far (p := ⟨gb606, 4, none⟩) (Kd.N_far (p := ⟨gb606, 3, none⟩) (Kd.N_far (p := ⟨gb606, 2, none⟩) (Kd.N_far (p := ⟨gb606, 1, none⟩) (Kd.N_far (p := ⟨gb606, 0, none⟩) (Kd.N_mono HO620.out (fun k_ hk => (⟨hk, hk⟩ : _ ∧ k_ ≠ gb606))) (fun _ hk => hk.2) (.bool t607)) (fun _ hk => hk.2) (.bool t608)) (fun _ hk => hk.2) (.slice Ao10 t609.length co10)) (fun _ hk => hk.2) (.slice Ao11 t612.length co11)) (fun _ hk => hk.2) (.slice Ao12 t615.length co12)) (fun _ hk => hk.2) (.slice Ao13 t618.length co13)) (fun _ hk => hk.2) (.bool t621)) (fun _ hk => hk.2) (.bool t622)) (fun _ hk => hk.2) (.bool true)) (fun _ hk => hk.2) (.bool true)) (fun _ h_ => h_.1))) hb); have n4_ := Aside0.mk (blk_below (g := gb606) (o := .cells #[.bool t607, .bool true, .slice Ao10 t609.length co10, .slice Ao11 t612.length co11, .slice Ao12 t615.length co12, .slice Ao13 t618.length co13, .bool t621, .bool true] 25 (0, 0)) (by refine blk_put (cs := #[.bool t607, .bool true, .slice Ao10 t609.length co10, .slice Ao11 t612.length co11, .slice Ao12 t615.length co12, .slice Ao13 t618.length co13, .bool t621, .bool t622]) ?_ 7 _ rfl; refine blk_put (cs := #[.bool t607, .bool t608, .slice Ao10 t609.length co10, .slice Ao11 t612.length co11, .slice Ao12 t615.length co12, .slice Ao13 t618.length co13, .bool t621, .bool t622]) ?_ 1 _ rfl; refine blk_put (cs := #[.bool t607, .bool t608, .slice Ao10 t609.length co10, .slice Ao11 t612.length co11, .slice Ao12 t615.length co12, .slice Ao13 t618.length co13, .bool t621, .bool a0_7]) ?_ 7 _ rfl; refine blk_put (cs := #[.bool t607, .bool t608, .slice Ao10 t609.length co10, .slice Ao11 t612.length co11, .slice Ao12 t615.length co12, .slice Ao13 t618.length co13, .bool a0_6, .bool a0_7]) ?_ 6 _ rfl; refine blk_put (cs := #[.bool t607, .bool t608, .slice Ao10 t609.length co10, .slice Ao11 t612.length co11, .slice Ao12 t615.length co12, .slice A0_5 l0_5.length c0_5, .bool a0_6, .bool a0_7]) ?_ 5 _ rfl; refine blk_put (cs := #[.bool t607, .bool t608, .slice Ao10 t609.length co10, .slice Ao11 t612.length co11, .slice A0_4 l0_4.length c0_4, .slice A0_5 l0_5.length c0_5, .bool a0_6, .bool a0_7]) ?_ 4 _ rfl; refine blk_put (cs := #[.bool t607, .bool t608, .slice Ao10 t609.length co10, .slice A0_3 l0_3.length c0_3, .slice A0_4 l0_4.length c0_4, .slice A0_5 l0_5.length c0_5, .bool a0_6, .bool a0_7]) ?_ 3 _ rfl; refine blk_put (cs := #[.bool t607, .bool t608, .slice A0_2 l0_2.length c0_2, .slice A0_3 l0_3.length c0_3, .slice A0_4 l0_4.length c0_4, .slice A0_5 l0_5.length c0_5, .bool a0_6, .bool a0_7]) ?_ 2 _ rfl; refine blk_put (cs := #[.bool t607, .bool a0_1, .slice A0_2 l0_2.length c0_2, .slice A0_3 l0_3.length c0_3, .slice A0_4 l0_4.length c0_4, .slice A0_5 l0_5.length c0_5, .bool a0_6, .bool a0_7]) ?_ 1 _ rfl; refine blk_put (cs := #[.bool a0_0, .bool a0_1, .slice A0_2 l0_2.length c0_2, .slice A0_3 l0_3.length c0_3, .slice A0_4 l0_4.length c0_4, .slice A0_5 l0_5.length c0_5, .bool a0_6, .bool a0_7]) ?_ 0 _ rfl; exact BK606.out) hb); have n5_ := Aside0.mk (below_step (by repeat (first | (with_reducible first | exact HB.out | apply below_alloc | apply pw_below_drewN | apply below_drew1 | refine below_set ?_ GE606.out) | exact HB.out)) hb); clear HO611; clear HO614; clear HO617; clear HO620; clear BK606; clear HB; have HO611 := n0_; have HO614 := n1_; have HO617 := n2_; have HO620 := n3_; have BK606 := n4_; have HB := n5_; clear n0_ n1_ n2_ n3_ n4_ n5_; (try clear hb); (try clear hb2); (try clear hk); (try clear hi)))
    go_meet
    case rel => exact ⟨_, (!t623), (by first | rfl | (simp; done) | (simp [*]; done)), H', ⟨by first | omega | exact Nat.le_refl _⟩, ⟨by exact HO611.out⟩, ⟨by exact HO614.out⟩, ⟨by exact HO617.out⟩, ⟨by exact HO620.out⟩, ⟨by exact BK606.out⟩, ⟨by repeat (first | (with_reducible first | exact HB.out | apply below_alloc | apply pw_below_drewN | apply below_drew1 | refine below_set ?_ GE606.out) | exact HB.out)⟩⟩
   ·rw [if_neg c15] at H
    exact absurd H (by simp)
 case rest =>
  clear HC5
  try clear c1
  try clear p2
  try clear c5
  try clear c11
  try clear c14
  try clear c14b0
  try clear c14b1
  try clear c15
  try clear c15b0
  try clear c15b1
  try clear c15b2
  try clear hcz17_0
  try clear hcz17_1
  try clear hcz17_2
  try clear hcz17_3
  try clear hcz17_4
  try clear hcz17_5
  try clear hcz17_6
  try clear hcz17_7
  try clear hcz7_0
  try clear hcz7_1
  try clear hcz7_2
  try clear hcz7_3
  try clear hcz7_4
  try clear hcz7_5
  try clear hcz7_6
  try clear hcz7_7
  try clear hcz9_0
  try clear hcz9_1
  try clear hcz9_2
  try clear hcz9_3
  try clear hcz9_4
  try clear hcz9_5
  try clear hcz9_6
  try clear hcz9_7
  try clear hfz17_0
  try clear hfz17_1
  try clear hfz17_2
  try clear hfz17_3
  try clear hfz17_4
  try clear hfz17_5
  try clear hfz17_6
  try clear hfz17_7
  try clear hfz7_0
  try clear hfz7_1
  try clear hfz7_2
  try clear hfz7_3
  try clear hfz7_4
  try clear hfz7_5
  try clear hfz7_6
  try clear hfz7_7
  try clear hfz9_0
  try clear hfz9_1
  try clear hfz9_2
  try clear hfz9_3
  try clear hfz9_4
  try clear hfz9_5
  try clear hfz9_6
  try clear hfz9_7
  obtain ⟨kq, x24_4, rfl, HA, HJ4, HO_607002, HO_607003, HO_607004, HO_607005, BK606, HB⟩ := hcut
  cases kq with
  | zero => exact absurd HA.out (by simp [boltinglaw12_ConfigData.j0])
  | succ kj4 =>
   have H := HA.out
   clear HA
   simp only [boltinglaw12_ConfigData.j0] at H
   by_cases c19 : x24_4 = true
   ·subst c19
    have H1 : (some false) = some r := by rw [if_pos rfl] at H; exact H
    clear H
    have H := H1
    clear H1
    exact absurd (Option.some.inj H) (by rw [hT.out]; decide)
   ·replace c19 := Bool.eq_false_iff.mpr c19
    subst c19
    have H1 : (boltinglaw12_ConfigData.l0 kj4 a1 0 t607 true t609 t612 t615 t618 t621 true) = some r := by rw [if_neg (show ¬ (false = true) by decide)] at H; exact H
    clear H
    have H := H1
    clear H1
    have H' := Aside0.mk H
    clear H
    go_wp2
    go_loopg [7] kj4 (fun kq v7 w' => ∃ (x7_2 : Int), v7 = .int .i64 x7_2 ∧ Aside0 (boltinglaw12_ConfigData.l0 kq a1 x7_2 t607 true t609 t612 t615 t618 t621 true = some r) ∧ Aside0 (kq ≤ kj4) ∧ Aside0 (Kd.V Kd.string 9 w' w.heap.size (fun k_ => some k_ ≠ ((.slice Ao13 t618.length co13) : Value).ownBlock ∧ k_ ≠ gb606) (.slice Ao10 t609.length co10) t609) ∧ Aside0 (Kd.V Kd.string 9 w' w.heap.size (fun k_ => some k_ ≠ ((.slice Ao13 t618.length co13) : Value).ownBlock ∧ k_ ≠ gb606) (.slice Ao11 t612.length co11) t612) ∧ Aside0 (Kd.V Kd.string 9 w' w.heap.size (fun k_ => some k_ ≠ ((.slice Ao13 t618.length co13) : Value).ownBlock ∧ k_ ≠ gb606) (.slice Ao12 t615.length co12) t615) ∧ Aside0 (Kd.N k35 35 w' w.heap.size (fun k_ => k_ ≠ gb606) (.slice Ao13 t618.length co13) t618) ∧ Aside0 (w'.heap[gb606]? = some (.cells #[.bool t607, .bool true, (.slice Ao10 t609.length co10), (.slice Ao11 t612.length co11), (.slice Ao12 t615.length co12), (.slice Ao13 t618.length co13), .bool t621, .bool true] 25 (0, 0))) ∧ Aside0 (Below w.heap.size w w'))
    case atStart => exact ⟨(0), (by first | rfl | (simp; done) | (simp [*]; done)), H', ⟨Nat.le_refl _⟩, ⟨by exact HO_607002.out⟩, ⟨by exact HO_607003.out⟩, ⟨by exact HO_607004.out⟩, ⟨by exact HO_607005.out⟩, ⟨by exact BK606.out⟩, ⟨by repeat (first | (with_reducible first | exact HB.out | apply below_alloc | apply pw_below_drewN | apply below_drew1 | refine below_set ?_ GE606.out) | exact HB.out)⟩⟩
    case round =>
     clear H'
     try clear c1
     try clear p2
     try clear c5
     try clear c11
     try clear c14
     try clear c14b0
     try clear c14b1
     try clear c15
     try clear c15b0
     try clear c15b1
     try clear c15b2
     try clear c19
     try clear hcz17_0
     try clear hcz17_1
     try clear hcz17_2
     try clear hcz17_3
     try clear hcz17_4
     try clear hcz17_5
     try clear hcz17_6
     try clear hcz17_7
     try clear hcz7_0
     try clear hcz7_1
     try clear hcz7_2
     try clear hcz7_3
     try clear hcz7_4
     try clear hcz7_5
     try clear hcz7_6
     try clear hcz7_7
     try clear hcz9_0
     try clear hcz9_1
     try clear hcz9_2
     try clear hcz9_3
     try clear hcz9_4
     try clear hcz9_5
     try clear hcz9_6
     try clear hcz9_7
     try clear hfz17_0
     try clear hfz17_1
     try clear hfz17_2
     try clear hfz17_3
     try clear hfz17_4
     try clear hfz17_5
     try clear hfz17_6
     try clear hfz17_7
     try clear hfz7_0
     try clear hfz7_1
     try clear hfz7_2
     try clear hfz7_3
     try clear hfz7_4
     try clear hfz7_5
     try clear hfz7_6
     try clear hfz7_7
     try clear hfz9_0
     try clear hfz9_1
     try clear hfz9_2
     try clear hfz9_3
     try clear hfz9_4
     try clear hfz9_5
     try clear hfz9_6
     try clear hfz9_7
     try clear p2
     obtain ⟨x7_2, rfl, HA, HK2, HO_607002, HO_607003, HO_607004, HO_607005, BK606, HB⟩ := hrel
     cases gk with
     | zero => exact absurd HA.out (by simp [boltinglaw12_ConfigData.l0])
     | succ k2 =>
      have H := HA.out
      clear HA
      simp only [boltinglaw12_ConfigData.l0] at H
      by_cases c20 : x7_2 < (t615.length : Int)
      ·rw [if_pos c20] at H
       have c20b0 : decide (x7_2 < (t615.length : Int)) = true := decide_eq_true c20
       clear c20
       by_cases c21 : 0 ≤ x7_2
       ·rw [if_pos c21] at H
        have c21b0 : decide (0 ≤ x7_2) = true := decide_eq_true c21
        clear c21
        replace H := Option.bind_eq_some_iff.mp H
        obtain ⟨t625, A220, H⟩ := H
        replace H : (if t625 = true then (boltinglaw12_ConfigData.l0 k2 a1 (wrap64 (x7_2 + 1)) t607 true t609 t612 t615 t618 t621 true) else (some false)) = some r := H
        have A22 := Aside0.mk A220
        clear A220
        by_cases c23 : t625 = true
        ·subst c23
         have H1 : (boltinglaw12_ConfigData.l0 k2 a1 (wrap64 (x7_2 + 1)) t607 true t609 t612 t615 t618 t621 true) = some r := by rw [if_pos rfl] at H; exact H
         clear H
         have H := H1
         clear H1
         have H' := Aside0.mk H
         clear H
         have hcz24_0 : wr.cell? ⟨gb606, 0, none⟩ = some (.bool t607) := (blk_cell BK606.out 0).trans rfl
         have hcz24_1 : wr.cell? ⟨gb606, 1, none⟩ = some (.bool true) := (blk_cell BK606.out 1).trans rfl
         have hcz24_2 : wr.cell? ⟨gb606, 2, none⟩ = some (.slice Ao10 t609.length co10) := (blk_cell BK606.out 2).trans rfl
         have hcz24_3 : wr.cell? ⟨gb606, 3, none⟩ = some (.slice Ao11 t612.length co11) := (blk_cell BK606.out 3).trans rfl
         have hcz24_4 : wr.cell? ⟨gb606, 4, none⟩ = some (.slice Ao12 t615.length co12) := (blk_cell BK606.out 4).trans rfl
         have hcz24_5 : wr.cell? ⟨gb606, 5, none⟩ = some (.slice Ao13 t618.length co13) := (blk_cell BK606.out 5).trans rfl
         have hcz24_6 : wr.cell? ⟨gb606, 6, none⟩ = some (.bool t621) := (blk_cell BK606.out 6).trans rfl
         have hcz24_7 : wr.cell? ⟨gb606, 7, none⟩ = some (.bool true) := (blk_cell BK606.out 7).trans rfl
         have hfz24_0 := blk_frozen BK606.out 0
         have hfz24_1 := blk_frozen BK606.out 1
         have hfz24_2 := blk_frozen BK606.out 2
         have hfz24_3 := blk_frozen BK606.out 3
         have hfz24_4 := blk_frozen BK606.out 4
         have hfz24_5 := blk_frozen BK606.out 5
         have hfz24_6 := blk_frozen BK606.out 6
         have hfz24_7 := blk_frozen BK606.out 7
         try go_wp2
         have n0_ := Aside0.mk (Kd.V_drew HO_607002.out)
         have n1_ := Aside0.mk (Kd.V_drew HO_607003.out)
         have n2_ := Aside0.mk (Kd.V_drew HO_607004.out)
         have n3_ := Aside0.mk (Kd.N_drew HO_607005.out)
         have n4_ := Aside0.mk (blk_drew BK606.out)
         have n5_ := Aside0.mk (below_drew1 HB.out)
         clear HO_607002
         clear HO_607003
         clear HO_607004
         clear HO_607005
         clear BK606
         clear HB
         have HO_607002 := n0_
         have HO_607003 := n1_
         have HO_607004 := n2_
         have HO_607005 := n3_
         have BK606 := n4_
         have HB := n5_
         clear n0_ n1_ n2_ n3_ n4_ n5_
         have p624 : 0 ≤ (x7_2 : Int) := of_decide_eq_true (by first | (with_reducible assumption) | assumption)
         have q624 : x7_2 < (t615.length : Int) := of_decide_eq_true (by first | (with_reducible assumption) | assumption)
         obtain ⟨ad624, e624, hx624_0⟩ := Kd.at_string (Kd.V_reads' HO_607004.out).2.2 x7_2 p624 q624
         cases e624
         replace p624 := eq_true p624
         replace q624 := eq_true q624
         refine start_ (n := 9) (S := fun w' => w'.cell? ⟨gb606, 0, none⟩ = some (.bool t607) ∧ w'.cell? ⟨gb606, 1, none⟩ = some (.bool true) ∧ w'.cell? ⟨gb606, 2, none⟩ = some (.slice Ao10 t609.length co10) ∧ w'.cell? ⟨gb606, 3, none⟩ = some (.slice Ao11 t612.length co11) ∧ w'.cell? ⟨gb606, 4, none⟩ = some (.slice (some ad624) t615.length co12) ∧ w'.cell? ⟨gb606, 5, none⟩ = some (.slice Ao13 t618.length co13) ∧ w'.cell? ⟨gb606, 6, none⟩ = some (.bool t621) ∧ w'.cell? ⟨gb606, 7, none⟩ = some (.bool true) ∧ w'.cell? (ad624.add (x7_2).toNat) = some (.string (rdOf ByteArray.empty t615 x7_2))) (ds := []) (tf 0 9) (by kernel_rfl) rfl rfl ⟨(blk_cell BK606.out 0).trans rfl, (blk_cell BK606.out 1).trans rfl, (blk_cell BK606.out 2).trans rfl, (blk_cell BK606.out 3).trans rfl, (blk_cell BK606.out 4).trans rfl, (blk_cell BK606.out 5).trans rfl, (blk_cell BK606.out 6).trans rfl, (blk_cell BK606.out 7).trans rfl, hx624_0⟩ (fun hHeld => ?_); refine with_tabW boltinglaw12_ConfigData.tab9 boltinglaw12_ConfigData.bits9 (fun HT_ HW_ => ?_)
         generalize wr.drew = w25 at HO_607002 HO_607003 HO_607004 HO_607005 BK606 HB hx624_0 hHeld ⊢
         refine pure_ (i := 1) (N := some 33) (v := ?_) (a' := ?_) #[false, true, false, false, false, false, false, false, false] rfl rfl (any_of HT_.out (by kernel_rfl)) (fun _ _ _ h => h) (Or.inl ⟨by rfl, ?_⟩) ?_ ?_
         rotate_left
         ·intro w'
          go_simp
          with_reducible rfl
         rotate_left
         ·simp only [Act.put, List.setIfInBounds_toArray, List.set_cons_zero, List.set_cons_succ, i64_w, i32_w]
          rfl
         refine pure_ (i := 2) (N := some 34) (v := ?_) (a' := ?_) #[false, true, true, false, false, false, false, false, false] rfl rfl (any_of HT_.out (by kernel_rfl)) (fun _ _ _ h => h) (Or.inl ⟨by rfl, ?_⟩) ?_ ?_
         rotate_left
         ·intro w'
          go_simp
          with_reducible rfl
         rotate_left
         ·simp only [Act.put, List.setIfInBounds_toArray, List.set_cons_zero, List.set_cons_succ, i64_w, i32_w]
          rfl
         refine pure_ (i := 4) (N := some 36) (v := ?_) (a' := ?_) #[false, true, true, false, true, false, false, false, false] rfl rfl (any_of HT_.out (by kernel_rfl)) (fun _ _ _ h => h) (Or.inl ⟨by rfl, ?_⟩) ?_ ?_
         rotate_left
         ·intro w'
          go_simp
          with_reducible rfl
         rotate_left
         ·simp only [Act.put, List.setIfInBounds_toArray, List.set_cons_zero, List.set_cons_succ, i64_w, i32_w]
          rfl
         refine take_ (i := 0) (N := some 32) (v := ?_) (a' := ?_) #[true, true, true, false, true, false, false, false, false] rfl rfl (take_ofW HT_.out HW_.out (by kernel_rfl)) (fun _ _ _ h => h) (Or.inl ⟨by rfl, ?_⟩) hHeld ?_ ?_
         rotate_left
         ·rintro w' ⟨s0, s1, s2, s3, s4, s5, s6, s7, s8⟩
          go_simp
          with_reducible rfl
         rotate_left
         ·simp only [Act.put, List.setIfInBounds_toArray, List.set_cons_zero, List.set_cons_succ, i64_w, i32_w]
          rfl
         refine take_ (i := 3) (N := some 35) (v := ?_) (a' := ?_) (tf 5 4) rfl rfl (take_ofW HT_.out HW_.out (by kernel_rfl)) (fun _ _ _ h => h) (Or.inl ⟨by rfl, ?_⟩) hHeld ?_ ?_
         rotate_left
         ·rintro w' ⟨s0, s1, s2, s3, s4, s5, s6, s7, s8⟩
          go_simp
          with_reducible rfl
         rotate_left
         ·simp only [Act.put, List.setIfInBounds_toArray, List.set_cons_zero, List.set_cons_succ, i64_w, i32_w]
          rfl
         refine pure_ (i := 5) (N := some 37) (v := ?_) (a' := ?_) (tf 6 3) rfl rfl (any_of HT_.out (by kernel_rfl)) (fun _ _ _ h => h) (Or.inl ⟨by rfl, ?_⟩) ?_ ?_
         rotate_left
         ·intro w'
          go_simp
          with_reducible rfl
         rotate_left
         ·simp only [Act.put, List.setIfInBounds_toArray, List.set_cons_zero, List.set_cons_succ, i64_w, i32_w]
          rfl
         refine take_ (i := 6) (N := some 38) (v := ?_) (a' := ?_) (tf 7 2) rfl rfl (take_ofW HT_.out HW_.out (by kernel_rfl)) (fun _ _ _ h => h) (Or.inl ⟨by rfl, ?_⟩) hHeld ?_ ?_
         rotate_left
         ·rintro w' ⟨s0, s1, s2, s3, s4, s5, s6, s7, s8⟩
          go_simp
          with_reducible rfl
         rotate_left
         ·simp only [Act.put, List.setIfInBounds_toArray, List.set_cons_zero, List.set_cons_succ, i64_w, i32_w]
          rfl
         refine one_ (i := 7) (N := some 39) (tf 8 1) rfl rfl (one_of HT_.out (by kernel_rfl)) (by decide) (fun K hK => ?_)
         refine goes_ Try.func15 (by kernel_rfl) rfl #[.agg #[.bool t607, .bool true, .slice Ao10 t609.length co10, .slice Ao11 t612.length co11, .slice (some ad624) t615.length co12, .slice Ao13 t618.length co13, .bool t621, .bool true], .string a1, .string (rdOf ByteArray.empty t615 x7_2)] (by rfl) rfl rfl (by (try simp only [List.map_toArray, List.map_cons, List.map_nil]); first | done | rfl | (simp only [List.length_drop, List.length_take]; rfl)) ?_
         with_reducible refine (config_Attr.calls t607 true _ _ t609 _ _ t612 _ _ t615 _ _ t618 t621 true a1 (rdOf ByteArray.empty t615 x7_2) true _ ?side1 ?side2 ?side3 ?side4 ?side5 ?side6 ?side7 ?side8 A22.out).mono ?_
         (case side1 => repeat (first | exact (Kd.V_reads' HO_607002.out).2.2 | (with_reducible refine Kd.C_alloc ?_ _) | (with_reducible refine Kd.C_drewN ?_ _) | (with_reducible refine Kd.C_drew ?_)))
         (case side2 => exact (Kd.V_reads' HO_607002.out).2.1)
         (case side3 => repeat (first | exact (Kd.V_reads' HO_607003.out).2.2 | (with_reducible refine Kd.C_alloc ?_ _) | (with_reducible refine Kd.C_drewN ?_ _) | (with_reducible refine Kd.C_drew ?_)))
         (case side4 => exact (Kd.V_reads' HO_607003.out).2.1)
         (case side5 => repeat (first | exact (Kd.V_reads' HO_607004.out).2.2 | (with_reducible refine Kd.C_alloc ?_ _) | (with_reducible refine Kd.C_drewN ?_ _) | (with_reducible refine Kd.C_drew ?_)))
         (case side6 => exact (Kd.V_reads' HO_607004.out).2.1)
         (case side7 => repeat (first | exact (Kd.N_reads' HO_607005.out).2.2 | (with_reducible refine Kd.C_alloc ?_ _) | (with_reducible refine Kd.C_drewN ?_ _) | (with_reducible refine Kd.C_drew ?_)))
         (case side8 => exact (Kd.N_reads' HO_607005.out).2.1)
         rintro e w26 ⟨rfl, hb⟩
         have HS8_ := (hb.cell (World.block_lt_of_cell? _ _ (hHeld.2.2.2.2.2.2.2.2))).trans (hHeld.2.2.2.2.2.2.2.2)
         refine ⟨_, rfl, ?_⟩
         have n0_ := Aside0.mk (Kd.V_below (by exact HO_607002.out) hb)
         have n1_ := Aside0.mk (Kd.V_below (by exact HO_607003.out) hb)
         have n2_ := Aside0.mk (Kd.V_below (by exact HO_607004.out) hb)
         have n3_ := Aside0.mk (Kd.N_below (by exact HO_607005.out) hb)
         have n4_ := Aside0.mk (blk_below (g := gb606) (o := .cells #[.bool t607, .bool true, .slice Ao10 t609.length co10, .slice Ao11 t612.length co11, .slice (some ad624) t615.length co12, .slice Ao13 t618.length co13, .bool t621, .bool true] 25 (0, 0)) (by exact BK606.out) hb)
         have n5_ := Aside0.mk (below_step (by repeat (first | (with_reducible first | exact HB.out | apply below_alloc | apply pw_below_drewN | apply below_drew1 | refine below_set ?_ GE606.out) | exact HB.out)) hb)
         clear HO_607002
         clear HO_607003
         clear HO_607004
         clear HO_607005
         clear BK606
         clear HB
         have HO_607002 := n0_
         have HO_607003 := n1_
         have HO_607004 := n2_
         have HO_607005 := n3_
         have BK606 := n4_
         have HB := n5_
         clear n0_ n1_ n2_ n3_ n4_ n5_
         (try clear hb)
         (try clear hb2)
         (try clear hk)
         (try clear hi)
         refine hK.out _ _ ⟨(blk_cell BK606.out 0).trans rfl, (blk_cell BK606.out 1).trans rfl, (blk_cell BK606.out 2).trans rfl, (blk_cell BK606.out 3).trans rfl, (blk_cell BK606.out 4).trans rfl, (blk_cell BK606.out 5).trans rfl, (blk_cell BK606.out 6).trans rfl, (blk_cell BK606.out 7).trans rfl, HS8_⟩ (fun hHeld => ?_)
         clear hK K
         refine norm_ (a' := ?_) ?_ ?_
         rotate_left
         ·show Act.put _ (some 39) _ = _
          simp only [Act.put, List.setIfInBounds_toArray, List.set_cons_zero, List.set_cons_succ, i64_w, i32_w]
          rfl
         refine pure_ (i := 8) (N := some 40) (v := ?_) (a' := ?_) (tf 9 0) rfl rfl (any_of HT_.out (by kernel_rfl)) (fun _ _ _ h => h) (Or.inl ⟨by rfl, ?_⟩) ?_ ?_
         rotate_left
         ·intro w'
          go_simp
          with_reducible rfl
         rotate_left
         ·simp only [Act.put, List.setIfInBounds_toArray, List.set_cons_zero, List.set_cons_succ, i64_w, i32_w]
          rfl
         refine done_ (done_of HT_.out (by kernel_rfl)) ?_
         try go_wp2
         go_roundg k2
         case measure => have := HJ4.out; have := HK2.out; omega
         case rel => exact ⟨(wrap64 (x7_2 + 1)), (by first | rfl | (simp; done) | (simp [*]; done)), H', ⟨by have := HJ4.out; have := HK2.out; omega⟩, ⟨by exact HO_607002.out⟩, ⟨by exact HO_607003.out⟩, ⟨by exact HO_607004.out⟩, ⟨by exact HO_607005.out⟩, ⟨by exact BK606.out⟩, ⟨by repeat (first | (with_reducible first | exact HB.out | apply below_alloc | apply pw_below_drewN | apply below_drew1 | refine below_set ?_ GE606.out) | exact HB.out)⟩⟩
        ·replace c23 := Bool.eq_false_iff.mpr c23
         subst c23
         have H1 : (some false) = some r := by rw [if_neg (show ¬ (false = true) by decide)] at H; exact H
         clear H
         have H := H1
         clear H1
         exact absurd (Option.some.inj H) (by rw [hT.out]; decide)
       ·rw [if_neg c21] at H
        exact absurd H (by simp)
      ·rw [if_neg c20] at H
       have c20b0 : decide (x7_2 < (t615.length : Int)) = false := decide_eq_false c20
       clear c20
       have H' := Aside0.mk H
       clear H
       have hcz30_0 : wr.cell? ⟨gb606, 0, none⟩ = some (.bool t607) := (blk_cell BK606.out 0).trans rfl
       have hcz30_1 : wr.cell? ⟨gb606, 1, none⟩ = some (.bool true) := (blk_cell BK606.out 1).trans rfl
       have hcz30_2 : wr.cell? ⟨gb606, 2, none⟩ = some (.slice Ao10 t609.length co10) := (blk_cell BK606.out 2).trans rfl
       have hcz30_3 : wr.cell? ⟨gb606, 3, none⟩ = some (.slice Ao11 t612.length co11) := (blk_cell BK606.out 3).trans rfl
       have hcz30_4 : wr.cell? ⟨gb606, 4, none⟩ = some (.slice Ao12 t615.length co12) := (blk_cell BK606.out 4).trans rfl
       have hcz30_5 : wr.cell? ⟨gb606, 5, none⟩ = some (.slice Ao13 t618.length co13) := (blk_cell BK606.out 5).trans rfl
       have hcz30_6 : wr.cell? ⟨gb606, 6, none⟩ = some (.bool t621) := (blk_cell BK606.out 6).trans rfl
       have hcz30_7 : wr.cell? ⟨gb606, 7, none⟩ = some (.bool true) := (blk_cell BK606.out 7).trans rfl
       have hfz30_0 := blk_frozen BK606.out 0
       have hfz30_1 := blk_frozen BK606.out 1
       have hfz30_2 := blk_frozen BK606.out 2
       have hfz30_3 := blk_frozen BK606.out 3
       have hfz30_4 := blk_frozen BK606.out 4
       have hfz30_5 := blk_frozen BK606.out 5
       have hfz30_6 := blk_frozen BK606.out 6
       have hfz30_7 := blk_frozen BK606.out 7
       go_wp2
       go_loopg [8] k2 (fun kq v8 w' => ∃ (x8_3 : Int), v8 = .int .i64 x8_3 ∧ Aside0 (boltinglaw12_ConfigData.l1 kq a1 x8_3 t607 true t609 t612 t615 t618 t621 true = some r) ∧ Aside0 (kq ≤ k2) ∧ Aside0 (Kd.V Kd.string 9 w' w.heap.size (fun k_ => some k_ ≠ ((.slice Ao13 t618.length co13) : Value).ownBlock ∧ k_ ≠ gb606) (.slice Ao10 t609.length co10) t609) ∧ Aside0 (Kd.V Kd.string 9 w' w.heap.size (fun k_ => some k_ ≠ ((.slice Ao13 t618.length co13) : Value).ownBlock ∧ k_ ≠ gb606) (.slice Ao11 t612.length co11) t612) ∧ Aside0 (Kd.V Kd.string 9 w' w.heap.size (fun k_ => some k_ ≠ ((.slice Ao13 t618.length co13) : Value).ownBlock ∧ k_ ≠ gb606) (.slice Ao12 t615.length co12) t615) ∧ Aside0 (Kd.N k35 35 w' w.heap.size (fun k_ => k_ ≠ gb606) (.slice Ao13 t618.length co13) t618) ∧ Aside0 (w'.heap[gb606]? = some (.cells #[.bool t607, .bool true, (.slice Ao10 t609.length co10), (.slice Ao11 t612.length co11), (.slice Ao12 t615.length co12), (.slice Ao13 t618.length co13), .bool t621, .bool true] 25 (0, 0))) ∧ Aside0 (Below w.heap.size w w'))
       case atStart => exact ⟨(0), (by first | rfl | (simp; done) | (simp [*]; done)), H', ⟨Nat.le_refl _⟩, ⟨by exact HO_607002.out⟩, ⟨by exact HO_607003.out⟩, ⟨by exact HO_607004.out⟩, ⟨by exact HO_607005.out⟩, ⟨by exact BK606.out⟩, ⟨by repeat (first | (with_reducible first | exact HB.out | apply below_alloc | apply pw_below_drewN | apply below_drew1 | refine below_set ?_ GE606.out) | exact HB.out)⟩⟩
       case round =>
        clear H'
        try clear c1
        try clear c2
        try clear p2
        try clear c5
        try clear p6
        try clear q6
        try clear hx6
        try clear c11
        try clear c14
        try clear c14b0
        try clear c14b1
        try clear c15
        try clear c15b0
        try clear c15b1
        try clear c15b2
        try clear c19
        try clear c20
        try clear c20b0
        try clear c21
        try clear c21b0
        try clear c23
        try clear hcz17_0
        try clear hcz17_1
        try clear hcz17_2
        try clear hcz17_3
        try clear hcz17_4
        try clear hcz17_5
        try clear hcz17_6
        try clear hcz17_7
        try clear hcz24_0
        try clear hcz24_1
        try clear hcz24_2
        try clear hcz24_3
        try clear hcz24_4
        try clear hcz24_5
        try clear hcz24_6
        try clear hcz24_7
        try clear hcz27_0
        try clear hcz27_1
        try clear hcz27_2
        try clear hcz27_3
        try clear hcz27_4
        try clear hcz27_5
        try clear hcz27_6
        try clear hcz27_7
        try clear hcz30_0
        try clear hcz30_1
        try clear hcz30_2
        try clear hcz30_3
        try clear hcz30_4
        try clear hcz30_5
        try clear hcz30_6
        try clear hcz30_7
        try clear hcz7_0
        try clear hcz7_1
        try clear hcz7_2
        try clear hcz7_3
        try clear hcz7_4
        try clear hcz7_5
        try clear hcz7_6
        try clear hcz7_7
        try clear hcz9_0
        try clear hcz9_1
        try clear hcz9_2
        try clear hcz9_3
        try clear hcz9_4
        try clear hcz9_5
        try clear hcz9_6
        try clear hcz9_7
        try clear hfz17_0
        try clear hfz17_1
        try clear hfz17_2
        try clear hfz17_3
        try clear hfz17_4
        try clear hfz17_5
        try clear hfz17_6
        try clear hfz17_7
        try clear hfz24_0
        try clear hfz24_1
        try clear hfz24_2
        try clear hfz24_3
        try clear hfz24_4
        try clear hfz24_5
        try clear hfz24_6
        try clear hfz24_7
        try clear hfz27_0
        try clear hfz27_1
        try clear hfz27_2
        try clear hfz27_3
        try clear hfz27_4
        try clear hfz27_5
        try clear hfz27_6
        try clear hfz27_7
        try clear hfz30_0
        try clear hfz30_1
        try clear hfz30_2
        try clear hfz30_3
        try clear hfz30_4
        try clear hfz30_5
        try clear hfz30_6
        try clear hfz30_7
        try clear hfz7_0
        try clear hfz7_1
        try clear hfz7_2
        try clear hfz7_3
        try clear hfz7_4
        try clear hfz7_5
        try clear hfz7_6
        try clear hfz7_7
        try clear hfz9_0
        try clear hfz9_1
        try clear hfz9_2
        try clear hfz9_3
        try clear hfz9_4
        try clear hfz9_5
        try clear hfz9_6
        try clear hfz9_7
        try clear hx624_0
        try clear p2
        try clear p624
        try clear q624
        obtain ⟨x8_3, rfl, HA, HK3, HO_607002, HO_607003, HO_607004, HO_607005, BK606, HB⟩ := hrel
        cases gk with
        | zero => exact absurd HA.out (by simp [boltinglaw12_ConfigData.l1])
        | succ k3 =>
         have H := HA.out
         clear HA
         simp only [boltinglaw12_ConfigData.l1] at H
         by_cases c31 : x8_3 < (t618.length : Int)
         ·rw [if_pos c31] at H
          have c31b0 : decide (x8_3 < (t618.length : Int)) = true := decide_eq_true c31
          clear c31
          have H' := Aside0.mk H
          clear H
          have hcz32_0 : wr.cell? ⟨gb606, 0, none⟩ = some (.bool t607) := (blk_cell BK606.out 0).trans rfl
          have hcz32_1 : wr.cell? ⟨gb606, 1, none⟩ = some (.bool true) := (blk_cell BK606.out 1).trans rfl
          have hcz32_2 : wr.cell? ⟨gb606, 2, none⟩ = some (.slice Ao10 t609.length co10) := (blk_cell BK606.out 2).trans rfl
          have hcz32_3 : wr.cell? ⟨gb606, 3, none⟩ = some (.slice Ao11 t612.length co11) := (blk_cell BK606.out 3).trans rfl
          have hcz32_4 : wr.cell? ⟨gb606, 4, none⟩ = some (.slice Ao12 t615.length co12) := (blk_cell BK606.out 4).trans rfl
          have hcz32_5 : wr.cell? ⟨gb606, 5, none⟩ = some (.slice Ao13 t618.length co13) := (blk_cell BK606.out 5).trans rfl
          have hcz32_6 : wr.cell? ⟨gb606, 6, none⟩ = some (.bool t621) := (blk_cell BK606.out 6).trans rfl
          have hcz32_7 : wr.cell? ⟨gb606, 7, none⟩ = some (.bool true) := (blk_cell BK606.out 7).trans rfl
          have hfz32_0 := blk_frozen BK606.out 0
          have hfz32_1 := blk_frozen BK606.out 1
          have hfz32_2 := blk_frozen BK606.out 2
          have hfz32_3 := blk_frozen BK606.out 3
          have hfz32_4 := blk_frozen BK606.out 4
          have hfz32_5 := blk_frozen BK606.out 5
          have hfz32_6 := blk_frozen BK606.out 6
          have hfz32_7 := blk_frozen BK606.out 7
          go_wp2
          go_loopg [9] k3 (fun kq v9 w' => ∃ (x9_4 : Int), v9 = .int .i64 x9_4 ∧ Aside0 (boltinglaw12_ConfigData.l2 kq a1 x8_3 x9_4 t607 true t609 t612 t615 t618 t621 true = some r) ∧ Aside0 (kq ≤ k3) ∧ Aside0 (Kd.V Kd.string 9 w' w.heap.size (fun k_ => some k_ ≠ ((.slice Ao13 t618.length co13) : Value).ownBlock ∧ k_ ≠ gb606) (.slice Ao10 t609.length co10) t609) ∧ Aside0 (Kd.V Kd.string 9 w' w.heap.size (fun k_ => some k_ ≠ ((.slice Ao13 t618.length co13) : Value).ownBlock ∧ k_ ≠ gb606) (.slice Ao11 t612.length co11) t612) ∧ Aside0 (Kd.V Kd.string 9 w' w.heap.size (fun k_ => some k_ ≠ ((.slice Ao13 t618.length co13) : Value).ownBlock ∧ k_ ≠ gb606) (.slice Ao12 t615.length co12) t615) ∧ Aside0 (Kd.N k35 35 w' w.heap.size (fun k_ => k_ ≠ gb606) (.slice Ao13 t618.length co13) t618) ∧ Aside0 (w'.heap[gb606]? = some (.cells #[.bool t607, .bool true, (.slice Ao10 t609.length co10), (.slice Ao11 t612.length co11), (.slice Ao12 t615.length co12), (.slice Ao13 t618.length co13), .bool t621, .bool true] 25 (0, 0))) ∧ Aside0 (Below w.heap.size w w'))
          case atStart => exact ⟨(0), (by first | rfl | (simp; done) | (simp [*]; done)), H', ⟨Nat.le_refl _⟩, ⟨by exact HO_607002.out⟩, ⟨by exact HO_607003.out⟩, ⟨by exact HO_607004.out⟩, ⟨by exact HO_607005.out⟩, ⟨by exact BK606.out⟩, ⟨by repeat (first | (with_reducible first | exact HB.out | apply below_alloc | apply pw_below_drewN | apply below_drew1 | refine below_set ?_ GE606.out) | exact HB.out)⟩⟩
          case round =>
           clear H'
           try clear c1
           try clear c2
           try clear p2
           try clear c3
           try clear c5
           try clear p6
           try clear q6
           try clear hx6
           try clear c11
           try clear c14
           try clear c14b0
           try clear c14b1
           try clear c15
           try clear c15b0
           try clear c15b1
           try clear c15b2
           try clear c19
           try clear c20
           try clear c20b0
           try clear c21
           try clear c21b0
           try clear c23
           try clear c31
           try clear c31b0
           try clear hcz17_0
           try clear hcz17_1
           try clear hcz17_2
           try clear hcz17_3
           try clear hcz17_4
           try clear hcz17_5
           try clear hcz17_6
           try clear hcz17_7
           try clear hcz24_0
           try clear hcz24_1
           try clear hcz24_2
           try clear hcz24_3
           try clear hcz24_4
           try clear hcz24_5
           try clear hcz24_6
           try clear hcz24_7
           try clear hcz27_0
           try clear hcz27_1
           try clear hcz27_2
           try clear hcz27_3
           try clear hcz27_4
           try clear hcz27_5
           try clear hcz27_6
           try clear hcz27_7
           try clear hcz30_0
           try clear hcz30_1
           try clear hcz30_2
           try clear hcz30_3
           try clear hcz30_4
           try clear hcz30_5
           try clear hcz30_6
           try clear hcz30_7
           try clear hcz32_0
           try clear hcz32_1
           try clear hcz32_2
           try clear hcz32_3
           try clear hcz32_4
           try clear hcz32_5
           try clear hcz32_6
           try clear hcz32_7
           try clear hcz7_0
           try clear hcz7_1
           try clear hcz7_2
           try clear hcz7_3
           try clear hcz7_4
           try clear hcz7_5
           try clear hcz7_6
           try clear hcz7_7
           try clear hcz9_0
           try clear hcz9_1
           try clear hcz9_2
           try clear hcz9_3
           try clear hcz9_4
           try clear hcz9_5
           try clear hcz9_6
           try clear hcz9_7
           try clear hfz17_0
           try clear hfz17_1
           try clear hfz17_2
           try clear hfz17_3
           try clear hfz17_4
           try clear hfz17_5
           try clear hfz17_6
           try clear hfz17_7
           try clear hfz24_0
           try clear hfz24_1
           try clear hfz24_2
           try clear hfz24_3
           try clear hfz24_4
           try clear hfz24_5
           try clear hfz24_6
           try clear hfz24_7
           try clear hfz27_0
           try clear hfz27_1
           try clear hfz27_2
           try clear hfz27_3
           try clear hfz27_4
           try clear hfz27_5
           try clear hfz27_6
           try clear hfz27_7
           try clear hfz30_0
           try clear hfz30_1
           try clear hfz30_2
           try clear hfz30_3
           try clear hfz30_4
           try clear hfz30_5
           try clear hfz30_6
           try clear hfz30_7
           try clear hfz32_0
           try clear hfz32_1
           try clear hfz32_2
           try clear hfz32_3
           try clear hfz32_4
           try clear hfz32_5
           try clear hfz32_6
           try clear hfz32_7
           try clear hfz7_0
           try clear hfz7_1
           try clear hfz7_2
           try clear hfz7_3
           try clear hfz7_4
           try clear hfz7_5
           try clear hfz7_6
           try clear hfz7_7
           try clear hfz9_0
           try clear hfz9_1
           try clear hfz9_2
           try clear hfz9_3
           try clear hfz9_4
           try clear hfz9_5
           try clear hfz9_6
           try clear hfz9_7
           try clear hx624_0
           try clear p2
           try clear p6
           try clear p624
           try clear q6
           try clear q624
           obtain ⟨x9_4, rfl, HA, HK4, HO_607002, HO_607003, HO_607004, HO_607005, BK606, HB⟩ := hrel
           cases gk with
           | zero => exact absurd HA.out (by simp [boltinglaw12_ConfigData.l2])
           | succ k4 =>
            have H := HA.out
            clear HA
            simp only [boltinglaw12_ConfigData.l2] at H
            by_cases c33 : 0 ≤ x8_3
            ·rw [if_pos c33] at H
             have c33b0 : decide (0 ≤ x8_3) = true := decide_eq_true c33
             clear c33
             by_cases c34 : x8_3 < (t618.length : Int)
             ·rw [if_pos c34] at H
              have c34b0 : decide (x8_3 < (t618.length : Int)) = true := decide_eq_true c34
              clear c34
              by_cases c35 : x9_4 < (((rd_T35 t618 x8_3).f1).length : Int)
              ·rw [if_pos c35] at H
               have c35b0 : decide (x9_4 < (((rd_T35 t618 x8_3).f1).length : Int)) = true := decide_eq_true c35
               clear c35
               by_cases c36 : 0 ≤ x9_4
               ·rw [if_pos c36] at H
                have c36b0 : decide (0 ≤ x9_4) = true := decide_eq_true c36
                clear c36
                replace H := Option.bind_eq_some_iff.mp H
                obtain ⟨t630, A370, H⟩ := H
                replace H : (if t630 = true then (boltinglaw12_ConfigData.l2 k4 a1 x8_3 (wrap64 (x9_4 + 1)) t607 true t609 t612 t615 t618 t621 true) else (some false)) = some r := H
                have A37 := Aside0.mk A370
                clear A370
                by_cases c38 : t630 = true
                ·subst c38
                 have H1 : (boltinglaw12_ConfigData.l2 k4 a1 x8_3 (wrap64 (x9_4 + 1)) t607 true t609 t612 t615 t618 t621 true) = some r := by rw [if_pos rfl] at H; exact H
                 clear H
                 have H := H1
                 clear H1
                 have H' := Aside0.mk H
                 clear H
                 have hcz39_0 : wr.cell? ⟨gb606, 0, none⟩ = some (.bool t607) := (blk_cell BK606.out 0).trans rfl
                 have hcz39_1 : wr.cell? ⟨gb606, 1, none⟩ = some (.bool true) := (blk_cell BK606.out 1).trans rfl
                 have hcz39_2 : wr.cell? ⟨gb606, 2, none⟩ = some (.slice Ao10 t609.length co10) := (blk_cell BK606.out 2).trans rfl
                 have hcz39_3 : wr.cell? ⟨gb606, 3, none⟩ = some (.slice Ao11 t612.length co11) := (blk_cell BK606.out 3).trans rfl
                 have hcz39_4 : wr.cell? ⟨gb606, 4, none⟩ = some (.slice Ao12 t615.length co12) := (blk_cell BK606.out 4).trans rfl
                 have hcz39_5 : wr.cell? ⟨gb606, 5, none⟩ = some (.slice Ao13 t618.length co13) := (blk_cell BK606.out 5).trans rfl
                 have hcz39_6 : wr.cell? ⟨gb606, 6, none⟩ = some (.bool t621) := (blk_cell BK606.out 6).trans rfl
                 have hcz39_7 : wr.cell? ⟨gb606, 7, none⟩ = some (.bool true) := (blk_cell BK606.out 7).trans rfl
                 have hfz39_0 := blk_frozen BK606.out 0
                 have hfz39_1 := blk_frozen BK606.out 1
                 have hfz39_2 := blk_frozen BK606.out 2
                 have hfz39_3 := blk_frozen BK606.out 3
                 have hfz39_4 := blk_frozen BK606.out 4
                 have hfz39_5 := blk_frozen BK606.out 5
                 have hfz39_6 := blk_frozen BK606.out 6
                 have hfz39_7 := blk_frozen BK606.out 7
                 have p626 : 0 ≤ (x8_3 : Int) := of_decide_eq_true (by first | (with_reducible assumption) | assumption)
                 have q626 : x8_3 < (t618.length : Int) := of_decide_eq_true (by first | (with_reducible assumption) | assumption)
                 obtain ⟨ad626, A626_1, c626_1, e626, hx626_0, hx626_1, hl626_1, hi626_1⟩ := at_T35 (Kd.N_reads' HO_607005.out).2.2 x8_3 p626 q626
                 cases e626
                 obtain ⟨ce626, hce626, hMe626, hcc626⟩ := Kd.N_get HO_607005.out z35 x8_3 p626 (by first | exact q626 | exact of_decide_eq_true (by first | (with_reducible assumption) | assumption) | (have e_ := (Kd.N_reads' HO_607005.out).1; omega))
                 obtain ⟨ua626_1, uc626_1, rfl, ul626_1, ge626_1⟩ := k35_openF hMe626
                 have hv626_1 := hcc626 1 _ rfl
                 rw [add_field _ _ 1 (by omega)] at hv626_1
                 replace hv626_1 := Option.some.inj (hv626_1.symm.trans hx626_1)
                 injection hv626_1 with hva_ hvn_ hvc_
                 rw [hva_] at ge626_1
                 rw [hvc_] at ul626_1
                 have HL626_1 := Aside0.mk (show Kd.V Kd.string 9 _ w.heap.size _ _ ((rd_T35 t618 x8_3).f1) from Kd.V_mk ul626_1 ge626_1)
                 clear hva_ hvn_ hvc_ ge626_1 ul626_1
                 clear hcc626 hce626
                 have HR626_1 := Aside0.mk hi626_1
                 have HC626_1 := Aside0.mk hl626_1
                 clear hi626_1 hl626_1
                 replace p626 := eq_true p626
                 replace q626 := eq_true q626
                 try go_wp2
                 have n0_ := Aside0.mk (Kd.V_drew HO_607002.out)
                 have n1_ := Aside0.mk (Kd.V_drew HO_607003.out)
                 have n2_ := Aside0.mk (Kd.V_drew HO_607004.out)
                 have n3_ := Aside0.mk (Kd.N_drew HO_607005.out)
                 have n4_ := Aside0.mk (Kd.V_drew HL626_1.out)
                 have n5_ := Aside0.mk (blk_drew BK606.out)
                 have n6_ := Aside0.mk (Kd.C_drew HR626_1.out)
                 have n7_ := Aside0.mk (below_drew1 HB.out)
                 clear HO_607002
                 clear HO_607003
                 clear HO_607004
                 clear HO_607005
                 clear HL626_1
                 clear BK606
                 clear HR626_1
                 clear HB
                 have HO_607002 := n0_
                 have HO_607003 := n1_
                 have HO_607004 := n2_
                 have HO_607005 := n3_
                 have HL626_1 := n4_
                 have BK606 := n5_
                 have HR626_1 := n6_
                 have HB := n7_
                 clear n0_ n1_ n2_ n3_ n4_ n5_ n6_ n7_
                 have p627 : 0 ≤ (x8_3 : Int) := of_decide_eq_true (by first | (with_reducible assumption) | assumption)
                 have q627 : x8_3 < (t618.length : Int) := of_decide_eq_true (by first | (with_reducible assumption) | assumption)
                 obtain ⟨ad627, A627_1, c627_1, e627, hx627_0, hx627_1, hl627_1, hi627_1⟩ := at_T35 (Kd.N_reads' HO_607005.out).2.2 x8_3 p627 q627
                 obtain rfl : ad626 = ad627 := (by injection e627)
                 obtain ⟨ce627, hce627, hMe627, hcc627⟩ := Kd.N_get HO_607005.out z35 x8_3 p627 (by first | exact q627 | exact of_decide_eq_true (by first | (with_reducible assumption) | assumption) | (have e_ := (Kd.N_reads' HO_607005.out).1; omega))
                 obtain ⟨ua627_1, uc627_1, rfl, ul627_1, ge627_1⟩ := k35_openF hMe627
                 have hv627_1 := hcc627 1 _ rfl
                 rw [add_field _ _ 1 (by omega)] at hv627_1
                 replace hv627_1 := Option.some.inj (hv627_1.symm.trans hx627_1)
                 injection hv627_1 with hva_ hvn_ hvc_
                 rw [hva_] at ge627_1
                 rw [hvc_] at ul627_1
                 have HL627_1 := Aside0.mk (show Kd.V Kd.string 9 _ w.heap.size _ _ ((rd_T35 t618 x8_3).f1) from Kd.V_mk ul627_1 ge627_1)
                 clear hva_ hvn_ hvc_ ge627_1 ul627_1
                 clear hcc627 hce627
                 have HR627_1 := Aside0.mk hi627_1
                 have HC627_1 := Aside0.mk hl627_1
                 clear hi627_1 hl627_1
                 replace p627 := eq_true p627
                 replace q627 := eq_true q627
                 have p628 : 0 ≤ (x8_3 : Int) := of_decide_eq_true (by first | (with_reducible assumption) | assumption)
                 have q628 : x8_3 < (t618.length : Int) := of_decide_eq_true (by first | (with_reducible assumption) | assumption)
                 obtain ⟨ad628, A628_1, c628_1, e628, hx628_0, hx628_1, hl628_1, hi628_1⟩ := at_T35 (Kd.N_reads' HO_607005.out).2.2 x8_3 p628 q628
                 obtain rfl : ad626 = ad628 := (by injection e628)
                 obtain ⟨ce628, hce628, hMe628, hcc628⟩ := Kd.N_get HO_607005.out z35 x8_3 p628 (by first | exact q628 | exact of_decide_eq_true (by first | (with_reducible assumption) | assumption) | (have e_ := (Kd.N_reads' HO_607005.out).1; omega))
                 obtain ⟨ua628_1, uc628_1, rfl, ul628_1, ge628_1⟩ := k35_openF hMe628
                 have hv628_1 := hcc628 1 _ rfl
                 rw [add_field _ _ 1 (by omega)] at hv628_1
                 replace hv628_1 := Option.some.inj (hv628_1.symm.trans hx628_1)
                 injection hv628_1 with hva_ hvn_ hvc_
                 rw [hva_] at ge628_1
                 rw [hvc_] at ul628_1
                 have HL628_1 := Aside0.mk (show Kd.V Kd.string 9 _ w.heap.size _ _ ((rd_T35 t618 x8_3).f1) from Kd.V_mk ul628_1 ge628_1)
                 clear hva_ hvn_ hvc_ ge628_1 ul628_1
                 clear hcc628 hce628
                 have HR628_1 := Aside0.mk hi628_1
                 have HC628_1 := Aside0.mk hl628_1
                 clear hi628_1 hl628_1
                 replace p628 := eq_true p628
                 replace q628 := eq_true q628
                 have ea_ := Option.some.inj (hx627_1.symm.trans hx628_1)
                 injection ea_ with ea_ en_ ec_
                 subst ea_
                 subst ec_
                 clear en_
                 have p629 : 0 ≤ (x9_4 : Int) := of_decide_eq_true (by first | (with_reducible assumption) | assumption)
                 have q629 : x9_4 < (((rd_T35 t618 x8_3).f1).length : Int) := of_decide_eq_true (by first | (with_reducible assumption) | assumption)
                 obtain ⟨ad629, e629, hx629_0⟩ := Kd.at_string (by repeat (first | (with_reducible exact HR628_1.out) | (with_reducible refine Kd.C_alloc ?_ _) | (with_reducible refine Kd.C_drewN ?_ _) | (with_reducible refine Kd.C_drew ?_) | exact HR628_1.out)) x9_4 p629 q629
                 cases e629
                 replace p629 := eq_true p629
                 replace q629 := eq_true q629
                 refine start_ (n := 18) (S := fun w' => w'.cell? ⟨gb606, 0, none⟩ = some (.bool t607) ∧ w'.cell? ⟨gb606, 1, none⟩ = some (.bool true) ∧ w'.cell? ⟨gb606, 2, none⟩ = some (.slice Ao10 t609.length co10) ∧ w'.cell? ⟨gb606, 3, none⟩ = some (.slice Ao11 t612.length co11) ∧ w'.cell? ⟨gb606, 4, none⟩ = some (.slice Ao12 t615.length co12) ∧ w'.cell? ⟨gb606, 5, none⟩ = some (.slice (some ad626) t618.length co13) ∧ w'.cell? ⟨gb606, 6, none⟩ = some (.bool t621) ∧ w'.cell? ⟨gb606, 7, none⟩ = some (.bool true) ∧ w'.cell? (ad626.add ((x8_3).toNat * 2)) = some (.string ((rd_T35 t618 x8_3).f0)) ∧ w'.cell? ⟨(ad626.add ((x8_3).toNat * 2)).block, (ad626.add ((x8_3).toNat * 2)).off + 1, none⟩ = some (.slice (some ad629) ((rd_T35 t618 x8_3).f1).length c627_1) ∧ w'.cell? (ad626.add ((x8_3).toNat * 2)) = some (.string ((rd_T35 t618 x8_3).f0)) ∧ w'.cell? ⟨(ad626.add ((x8_3).toNat * 2)).block, (ad626.add ((x8_3).toNat * 2)).off + 1, none⟩ = some (.slice (some ad629) ((rd_T35 t618 x8_3).f1).length c627_1) ∧ w'.cell? (ad629.add (x9_4).toNat) = some (.string (rdOf ByteArray.empty ((rd_T35 t618 x8_3).f1) x9_4))) (ds := []) (tf 0 18) (by kernel_rfl) rfl rfl ⟨(blk_cell BK606.out 0).trans rfl, (blk_cell BK606.out 1).trans rfl, (blk_cell BK606.out 2).trans rfl, (blk_cell BK606.out 3).trans rfl, (blk_cell BK606.out 4).trans rfl, (blk_cell BK606.out 5).trans rfl, (blk_cell BK606.out 6).trans rfl, (blk_cell BK606.out 7).trans rfl, hx627_0, hx627_1, hx628_0, hx628_1, hx629_0⟩ (fun hHeld => ?_); refine with_tabW boltinglaw12_ConfigData.tab17 boltinglaw12_ConfigData.bits17 (fun HT_ HW_ => ?_)
                 generalize wr.drew = w40 at HO_607002 HO_607003 HO_607004 HO_607005 HL626_1 BK606 HR626_1 HB HL627_1 HL628_1 HR627_1 HR628_1 hx627_0 hx627_1 hx628_0 hx628_1 hx629_0 hHeld ⊢
                 refine pure_ (i := 1) (N := some 60) (v := ?_) (a' := ?_) #[false, true, false, false, false, false, false, false, false, false, false, false, false, false, false, false, false, false] rfl rfl (any_of HT_.out (by kernel_rfl)) (fun _ _ _ h => h) (Or.inl ⟨by rfl, ?_⟩) ?_ ?_
                 rotate_left
                 ·intro w'
                  go_simp
                  with_reducible rfl
                 rotate_left
                 ·simp only [Act.put, List.setIfInBounds_toArray, List.set_cons_zero, List.set_cons_succ, i64_w, i32_w]
                  rfl
                 refine pure_ (i := 3) (N := some 62) (v := ?_) (a' := ?_) #[false, true, false, true, false, false, false, false, false, false, false, false, false, false, false, false, false, false] rfl rfl (any_of HT_.out (by kernel_rfl)) (fun _ _ _ h => h) (Or.inl ⟨by rfl, ?_⟩) ?_ ?_
                 rotate_left
                 ·intro w'
                  go_simp
                  with_reducible rfl
                 rotate_left
                 ·simp only [Act.put, List.setIfInBounds_toArray, List.set_cons_zero, List.set_cons_succ, i64_w, i32_w]
                  rfl
                 refine pure_ (i := 7) (N := some 66) (v := ?_) (a' := ?_) #[false, true, false, true, false, false, false, true, false, false, false, false, false, false, false, false, false, false] rfl rfl (any_of HT_.out (by kernel_rfl)) (fun _ _ _ h => h) (Or.inl ⟨by rfl, ?_⟩) ?_ ?_
                 rotate_left
                 ·intro w'
                  go_simp
                  with_reducible rfl
                 rotate_left
                 ·simp only [Act.put, List.setIfInBounds_toArray, List.set_cons_zero, List.set_cons_succ, i64_w, i32_w]
                  rfl
                 refine pure_ (i := 9) (N := some 68) (v := ?_) (a' := ?_) #[false, true, false, true, false, false, false, true, false, true, false, false, false, false, false, false, false, false] rfl rfl (any_of HT_.out (by kernel_rfl)) (fun _ _ _ h => h) (Or.inl ⟨by rfl, ?_⟩) ?_ ?_
                 rotate_left
                 ·intro w'
                  go_simp
                  with_reducible rfl
                 rotate_left
                 ·simp only [Act.put, List.setIfInBounds_toArray, List.set_cons_zero, List.set_cons_succ, i64_w, i32_w]
                  rfl
                 refine pure_ (i := 13) (N := some 72) (v := ?_) (a' := ?_) #[false, true, false, true, false, false, false, true, false, true, false, false, false, true, false, false, false, false] rfl rfl (any_of HT_.out (by kernel_rfl)) (fun _ _ _ h => h) (Or.inl ⟨by rfl, ?_⟩) ?_ ?_
                 rotate_left
                 ·intro w'
                  go_simp
                  with_reducible rfl
                 rotate_left
                 ·simp only [Act.put, List.setIfInBounds_toArray, List.set_cons_zero, List.set_cons_succ, i64_w, i32_w]
                  rfl
                 refine take_ (i := 0) (N := some 59) (v := ?_) (a' := ?_) #[true, true, false, true, false, false, false, true, false, true, false, false, false, true, false, false, false, false] rfl rfl (take_ofW HT_.out HW_.out (by kernel_rfl)) (fun _ _ _ h => h) (Or.inl ⟨by rfl, ?_⟩) hHeld ?_ ?_
                 rotate_left
                 ·rintro w' ⟨s0, s1, s2, s3, s4, s5, s6, s7, s8, s9, s10, s11, s12⟩
                  go_simp
                  with_reducible rfl
                 rotate_left
                 ·simp only [Act.put, List.setIfInBounds_toArray, List.set_cons_zero, List.set_cons_succ, i64_w, i32_w]
                  rfl
                 refine take_ (i := 2) (N := some 61) (v := ?_) (a' := ?_) #[true, true, true, true, false, false, false, true, false, true, false, false, false, true, false, false, false, false] rfl rfl (take_ofW HT_.out HW_.out (by kernel_rfl)) (fun _ _ _ h => h) (Or.inl ⟨by rfl, ?_⟩) hHeld ?_ ?_
                 rotate_left
                 ·rintro w' ⟨s0, s1, s2, s3, s4, s5, s6, s7, s8, s9, s10, s11, s12⟩
                  go_simp
                  with_reducible rfl
                 rotate_left
                 ·simp only [Act.put, List.setIfInBounds_toArray, List.set_cons_zero, List.set_cons_succ, i64_w, i32_w]
                  rfl
                 refine pure_ (i := 4) (N := some 63) (v := ?_) (a' := ?_) #[true, true, true, true, true, false, false, true, false, true, false, false, false, true, false, false, false, false] rfl rfl (any_of HT_.out (by kernel_rfl)) (fun _ _ _ h => h) (Or.inl ⟨by rfl, ?_⟩) ?_ ?_
                 rotate_left
                 ·intro w'
                  go_simp
                  with_reducible rfl
                 rotate_left
                 ·simp only [Act.put, List.setIfInBounds_toArray, List.set_cons_zero, List.set_cons_succ, i64_w, i32_w]
                  rfl
                 refine pure_ (i := 5) (N := some 64) (v := ?_) (a' := ?_) #[true, true, true, true, true, true, false, true, false, true, false, false, false, true, false, false, false, false] rfl rfl (any_of HT_.out (by kernel_rfl)) (fun _ _ _ h => h) (Or.inl ⟨by rfl, ?_⟩) ?_ ?_
                 rotate_left
                 ·intro w'
                  go_simp
                  with_reducible rfl
                 rotate_left
                 ·simp only [Act.put, List.setIfInBounds_toArray, List.set_cons_zero, List.set_cons_succ, i64_w, i32_w]
                  rfl
                 refine take_ (i := 6) (N := some 65) (v := ?_) (a' := ?_) #[true, true, true, true, true, true, true, true, false, true, false, false, false, true, false, false, false, false] rfl rfl (take_ofW HT_.out HW_.out (by kernel_rfl)) (fun _ _ _ h => h) (Or.inl ⟨by rfl, ?_⟩) hHeld ?_ ?_
                 rotate_left
                 ·rintro w' ⟨s0, s1, s2, s3, s4, s5, s6, s7, s8, s9, s10, s11, s12⟩
                  go_simp
                  with_reducible rfl
                 rotate_left
                 ·simp only [Act.put, List.setIfInBounds_toArray, List.set_cons_zero, List.set_cons_succ, i64_w, i32_w]
                  rfl
                 refine take_ (i := 8) (N := some 67) (v := ?_) (a' := ?_) #[true, true, true, true, true, true, true, true, true, true, false, false, false, true, false, false, false, false] rfl rfl (take_ofW HT_.out HW_.out (by kernel_rfl)) (fun _ _ _ h => h) (Or.inl ⟨by rfl, ?_⟩) hHeld ?_ ?_
                 rotate_left
                 ·rintro w' ⟨s0, s1, s2, s3, s4, s5, s6, s7, s8, s9, s10, s11, s12⟩
                  go_simp
                  with_reducible rfl
                 rotate_left
                 ·simp only [Act.put, List.setIfInBounds_toArray, List.set_cons_zero, List.set_cons_succ, i64_w, i32_w]
                  rfl
                 refine pure_ (i := 10) (N := some 69) (v := ?_) (a' := ?_) #[true, true, true, true, true, true, true, true, true, true, true, false, false, true, false, false, false, false] rfl rfl (any_of HT_.out (by kernel_rfl)) (fun _ _ _ h => h) (Or.inl ⟨by rfl, ?_⟩) ?_ ?_
                 rotate_left
                 ·intro w'
                  go_simp
                  with_reducible rfl
                 rotate_left
                 ·simp only [Act.put, List.setIfInBounds_toArray, List.set_cons_zero, List.set_cons_succ, i64_w, i32_w]
                  rfl
                 refine pure_ (i := 11) (N := some 70) (v := ?_) (a' := ?_) #[true, true, true, true, true, true, true, true, true, true, true, true, false, true, false, false, false, false] rfl rfl (any_of HT_.out (by kernel_rfl)) (fun _ _ _ h => h) (Or.inl ⟨by rfl, ?_⟩) ?_ ?_
                 rotate_left
                 ·intro w'
                  go_simp
                  with_reducible rfl
                 rotate_left
                 ·simp only [Act.put, List.setIfInBounds_toArray, List.set_cons_zero, List.set_cons_succ, i64_w, i32_w]
                  rfl
                 refine take_ (i := 12) (N := some 71) (v := ?_) (a' := ?_) (tf 14 4) rfl rfl (take_ofW HT_.out HW_.out (by kernel_rfl)) (fun _ _ _ h => h) (Or.inl ⟨by rfl, ?_⟩) hHeld ?_ ?_
                 rotate_left
                 ·rintro w' ⟨s0, s1, s2, s3, s4, s5, s6, s7, s8, s9, s10, s11, s12⟩
                  go_simp
                  with_reducible rfl
                 rotate_left
                 ·simp only [Act.put, List.setIfInBounds_toArray, List.set_cons_zero, List.set_cons_succ, i64_w, i32_w]
                  rfl
                 refine pure_ (i := 14) (N := some 73) (v := ?_) (a' := ?_) (tf 15 3) rfl rfl (any_of HT_.out (by kernel_rfl)) (fun _ _ _ h => h) (Or.inl ⟨by rfl, ?_⟩) ?_ ?_
                 rotate_left
                 ·intro w'
                  go_simp
                  with_reducible rfl
                 rotate_left
                 ·simp only [Act.put, List.setIfInBounds_toArray, List.set_cons_zero, List.set_cons_succ, i64_w, i32_w]
                  rfl
                 refine take_ (i := 15) (N := some 74) (v := ?_) (a' := ?_) (tf 16 2) rfl rfl (take_ofW HT_.out HW_.out (by kernel_rfl)) (fun _ _ _ h => h) (Or.inl ⟨by rfl, ?_⟩) hHeld ?_ ?_
                 rotate_left
                 ·rintro w' ⟨s0, s1, s2, s3, s4, s5, s6, s7, s8, s9, s10, s11, s12⟩
                  go_simp
                  with_reducible rfl
                 rotate_left
                 ·simp only [Act.put, List.setIfInBounds_toArray, List.set_cons_zero, List.set_cons_succ, i64_w, i32_w]
                  rfl
                 refine one_ (i := 16) (N := some 75) (tf 17 1) rfl rfl (one_of HT_.out (by kernel_rfl)) (by decide) (fun K hK => ?_)
                 refine goes_ Try.func15 (by kernel_rfl) rfl #[.agg #[.bool t607, .bool true, .slice Ao10 t609.length co10, .slice Ao11 t612.length co11, .slice Ao12 t615.length co12, .slice (some ad626) t618.length co13, .bool t621, .bool true], .string ((rd_T35 t618 x8_3).f0), .string (rdOf ByteArray.empty ((rd_T35 t618 x8_3).f1) x9_4)] (by rfl) rfl rfl (by (try simp only [List.map_toArray, List.map_cons, List.map_nil]); first | done | rfl | (simp only [List.length_drop, List.length_take]; rfl)) ?_
                 with_reducible refine (config_Attr.calls t607 true _ _ t609 _ _ t612 _ _ t615 _ _ t618 t621 true ((rd_T35 t618 x8_3).f0) (rdOf ByteArray.empty ((rd_T35 t618 x8_3).f1) x9_4) true _ ?side1 ?side2 ?side3 ?side4 ?side5 ?side6 ?side7 ?side8 A37.out).mono ?_
                 (case side1 => repeat (first | exact (Kd.V_reads' HO_607002.out).2.2 | (with_reducible refine Kd.C_alloc ?_ _) | (with_reducible refine Kd.C_drewN ?_ _) | (with_reducible refine Kd.C_drew ?_)))
                 (case side2 => exact (Kd.V_reads' HO_607002.out).2.1)
                 (case side3 => repeat (first | exact (Kd.V_reads' HO_607003.out).2.2 | (with_reducible refine Kd.C_alloc ?_ _) | (with_reducible refine Kd.C_drewN ?_ _) | (with_reducible refine Kd.C_drew ?_)))
                 (case side4 => exact (Kd.V_reads' HO_607003.out).2.1)
                 (case side5 => repeat (first | exact (Kd.V_reads' HO_607004.out).2.2 | (with_reducible refine Kd.C_alloc ?_ _) | (with_reducible refine Kd.C_drewN ?_ _) | (with_reducible refine Kd.C_drew ?_)))
                 (case side6 => exact (Kd.V_reads' HO_607004.out).2.1)
                 (case side7 => repeat (first | exact (Kd.N_reads' HO_607005.out).2.2 | (with_reducible refine Kd.C_alloc ?_ _) | (with_reducible refine Kd.C_drewN ?_ _) | (with_reducible refine Kd.C_drew ?_)))
                 (case side8 => exact (Kd.N_reads' HO_607005.out).2.1)
                 rintro e w41 ⟨rfl, hb⟩
                 have HS8_ := (hb.cell (World.block_lt_of_cell? _ _ (hHeld.2.2.2.2.2.2.2.2.1))).trans (hHeld.2.2.2.2.2.2.2.2.1)
                 have HS9_ := (hb.cell (World.block_lt_of_cell? _ _ (hHeld.2.2.2.2.2.2.2.2.2.1))).trans (hHeld.2.2.2.2.2.2.2.2.2.1)
                 have HS10_ := (hb.cell (World.block_lt_of_cell? _ _ (hHeld.2.2.2.2.2.2.2.2.2.2.1))).trans (hHeld.2.2.2.2.2.2.2.2.2.2.1)
                 have HS11_ := (hb.cell (World.block_lt_of_cell? _ _ (hHeld.2.2.2.2.2.2.2.2.2.2.2.1))).trans (hHeld.2.2.2.2.2.2.2.2.2.2.2.1)
                 have HS12_ := (hb.cell (World.block_lt_of_cell? _ _ (hHeld.2.2.2.2.2.2.2.2.2.2.2.2))).trans (hHeld.2.2.2.2.2.2.2.2.2.2.2.2)
                 refine ⟨_, rfl, ?_⟩
                 have n0_ := Aside0.mk (Kd.V_below (by exact HO_607002.out) hb)
                 have n1_ := Aside0.mk (Kd.V_below (by exact HO_607003.out) hb)
                 have n2_ := Aside0.mk (Kd.V_below (by exact HO_607004.out) hb)
                 have n3_ := Aside0.mk (Kd.N_below (by exact HO_607005.out) hb)
                 have n4_ := Aside0.mk (Kd.V_below (by exact HL626_1.out) hb)
                 have n5_ := Aside0.mk (Kd.V_below (by exact HL627_1.out) hb)
                 have n6_ := Aside0.mk (Kd.V_below (by exact HL628_1.out) hb)
                 have n7_ := Aside0.mk (blk_below (g := gb606) (o := .cells #[.bool t607, .bool true, .slice Ao10 t609.length co10, .slice Ao11 t612.length co11, .slice Ao12 t615.length co12, .slice (some ad626) t618.length co13, .bool t621, .bool true] 25 (0, 0)) (by exact BK606.out) hb)
                 have n8_ := Aside0.mk (Kd.C_below (by repeat (first | (with_reducible exact HR626_1.out) | (with_reducible refine Kd.C_alloc ?_ _) | (with_reducible refine Kd.C_drewN ?_ _) | (with_reducible refine Kd.C_drew ?_) | exact HR626_1.out)) hb)
                 have n9_ := Aside0.mk (Kd.C_below (by repeat (first | (with_reducible exact HR627_1.out) | (with_reducible refine Kd.C_alloc ?_ _) | (with_reducible refine Kd.C_drewN ?_ _) | (with_reducible refine Kd.C_drew ?_) | exact HR627_1.out)) hb)
                 have n10_ := Aside0.mk (Kd.C_below (by repeat (first | (with_reducible exact HR628_1.out) | (with_reducible refine Kd.C_alloc ?_ _) | (with_reducible refine Kd.C_drewN ?_ _) | (with_reducible refine Kd.C_drew ?_) | exact HR628_1.out)) hb)
                 have n11_ := Aside0.mk (below_step (by repeat (first | (with_reducible first | exact HB.out | apply below_alloc | apply pw_below_drewN | apply below_drew1 | refine below_set ?_ GE606.out) | exact HB.out)) hb)
                 clear HO_607002
                 clear HO_607003
                 clear HO_607004
                 clear HO_607005
                 clear HL626_1
                 clear HL627_1
                 clear HL628_1
                 clear BK606
                 clear HR626_1
                 clear HR627_1
                 clear HR628_1
                 clear HB
                 have HO_607002 := n0_
                 have HO_607003 := n1_
                 have HO_607004 := n2_
                 have HO_607005 := n3_
                 have HL626_1 := n4_
                 have HL627_1 := n5_
                 have HL628_1 := n6_
                 have BK606 := n7_
                 have HR626_1 := n8_
                 have HR627_1 := n9_
                 have HR628_1 := n10_
                 have HB := n11_
                 clear n0_ n1_ n2_ n3_ n4_ n5_ n6_ n7_ n8_ n9_ n10_ n11_
                 (try clear hb)
                 (try clear hb2)
                 (try clear hk)
                 (try clear hi)
                 refine hK.out _ _ ⟨(blk_cell BK606.out 0).trans rfl, (blk_cell BK606.out 1).trans rfl, (blk_cell BK606.out 2).trans rfl, (blk_cell BK606.out 3).trans rfl, (blk_cell BK606.out 4).trans rfl, (blk_cell BK606.out 5).trans rfl, (blk_cell BK606.out 6).trans rfl, (blk_cell BK606.out 7).trans rfl, HS8_, HS9_, HS10_, HS11_, HS12_⟩ (fun hHeld => ?_)
                 clear hK K
                 refine norm_ (a' := ?_) ?_ ?_
                 rotate_left
                 ·show Act.put _ (some 75) _ = _
                  simp only [Act.put, List.setIfInBounds_toArray, List.set_cons_zero, List.set_cons_succ, i64_w, i32_w]
                  rfl
                 refine pure_ (i := 17) (N := some 76) (v := ?_) (a' := ?_) (tf 18 0) rfl rfl (any_of HT_.out (by kernel_rfl)) (fun _ _ _ h => h) (Or.inl ⟨by rfl, ?_⟩) ?_ ?_
                 rotate_left
                 ·intro w'
                  go_simp
                  with_reducible rfl
                 rotate_left
                 ·simp only [Act.put, List.setIfInBounds_toArray, List.set_cons_zero, List.set_cons_succ, i64_w, i32_w]
                  rfl
                 refine done_ (done_of HT_.out (by kernel_rfl)) ?_
                 try go_wp2
                 go_roundg k4
                 case measure => have := HJ4.out; have := HK2.out; have := HK3.out; have := HK4.out; omega
                 case rel => exact ⟨(wrap64 (x9_4 + 1)), (by first | rfl | (simp; done) | (simp [*]; done)), H', ⟨by have := HJ4.out; have := HK2.out; have := HK3.out; have := HK4.out; omega⟩, ⟨by exact HO_607002.out⟩, ⟨by exact HO_607003.out⟩, ⟨by exact HO_607004.out⟩, ⟨by exact HO_607005.out⟩, ⟨by exact BK606.out⟩, ⟨by repeat (first | (with_reducible first | exact HB.out | apply below_alloc | apply pw_below_drewN | apply below_drew1 | refine below_set ?_ GE606.out) | exact HB.out)⟩⟩
                ·replace c38 := Bool.eq_false_iff.mpr c38
                 subst c38
                 have H1 : (some false) = some r := by rw [if_neg (show ¬ (false = true) by decide)] at H; exact H
                 clear H
                 have H := H1
                 clear H1
                 exact absurd (Option.some.inj H) (by rw [hT.out]; decide)
               ·rw [if_neg c36] at H
                exact absurd H (by simp)
              ·rw [if_neg c35] at H
               have c35b0 : decide (x9_4 < (((rd_T35 t618 x8_3).f1).length : Int)) = false := decide_eq_false c35
               clear c35
               have H' := Aside0.mk H
               clear H
               have hcz45_0 : wr.cell? ⟨gb606, 0, none⟩ = some (.bool t607) := (blk_cell BK606.out 0).trans rfl
               have hcz45_1 : wr.cell? ⟨gb606, 1, none⟩ = some (.bool true) := (blk_cell BK606.out 1).trans rfl
               have hcz45_2 : wr.cell? ⟨gb606, 2, none⟩ = some (.slice Ao10 t609.length co10) := (blk_cell BK606.out 2).trans rfl
               have hcz45_3 : wr.cell? ⟨gb606, 3, none⟩ = some (.slice Ao11 t612.length co11) := (blk_cell BK606.out 3).trans rfl
               have hcz45_4 : wr.cell? ⟨gb606, 4, none⟩ = some (.slice Ao12 t615.length co12) := (blk_cell BK606.out 4).trans rfl
               have hcz45_5 : wr.cell? ⟨gb606, 5, none⟩ = some (.slice Ao13 t618.length co13) := (blk_cell BK606.out 5).trans rfl
               have hcz45_6 : wr.cell? ⟨gb606, 6, none⟩ = some (.bool t621) := (blk_cell BK606.out 6).trans rfl
               have hcz45_7 : wr.cell? ⟨gb606, 7, none⟩ = some (.bool true) := (blk_cell BK606.out 7).trans rfl
               have hfz45_0 := blk_frozen BK606.out 0
               have hfz45_1 := blk_frozen BK606.out 1
               have hfz45_2 := blk_frozen BK606.out 2
               have hfz45_3 := blk_frozen BK606.out 3
               have hfz45_4 := blk_frozen BK606.out 4
               have hfz45_5 := blk_frozen BK606.out 5
               have hfz45_6 := blk_frozen BK606.out 6
               have hfz45_7 := blk_frozen BK606.out 7
               have p626 : 0 ≤ (x8_3 : Int) := of_decide_eq_true (by first | (with_reducible assumption) | assumption)
               have q626 : x8_3 < (t618.length : Int) := of_decide_eq_true (by first | (with_reducible assumption) | assumption)
               obtain ⟨ad626, A626_1, c626_1, e626, hx626_0, hx626_1, hl626_1, hi626_1⟩ := at_T35 (Kd.N_reads' HO_607005.out).2.2 x8_3 p626 q626
               cases e626
               obtain ⟨ce626, hce626, hMe626, hcc626⟩ := Kd.N_get HO_607005.out z35 x8_3 p626 (by first | exact q626 | exact of_decide_eq_true (by first | (with_reducible assumption) | assumption) | (have e_ := (Kd.N_reads' HO_607005.out).1; omega))
               obtain ⟨ua626_1, uc626_1, rfl, ul626_1, ge626_1⟩ := k35_openF hMe626
               have hv626_1 := hcc626 1 _ rfl
               rw [add_field _ _ 1 (by omega)] at hv626_1
               replace hv626_1 := Option.some.inj (hv626_1.symm.trans hx626_1)
               injection hv626_1 with hva_ hvn_ hvc_
               rw [hva_] at ge626_1
               rw [hvc_] at ul626_1
               have HL626_1 := Aside0.mk (show Kd.V Kd.string 9 _ w.heap.size _ _ ((rd_T35 t618 x8_3).f1) from Kd.V_mk ul626_1 ge626_1)
               clear hva_ hvn_ hvc_ ge626_1 ul626_1
               clear hcc626 hce626
               have HR626_1 := Aside0.mk hi626_1
               have HC626_1 := Aside0.mk hl626_1
               clear hi626_1 hl626_1
               replace p626 := eq_true p626
               replace q626 := eq_true q626
               go_wp2
               go_roundg k4
               case measure => have := HJ4.out; have := HK2.out; have := HK3.out; have := HK4.out; omega
               case rel => exact ⟨(wrap64 (x8_3 + 1)), (by first | rfl | (simp; done) | (simp [*]; done)), H', ⟨by have := HJ4.out; have := HK2.out; have := HK3.out; have := HK4.out; omega⟩, ⟨by exact HO_607002.out⟩, ⟨by exact HO_607003.out⟩, ⟨by exact HO_607004.out⟩, ⟨by exact HO_607005.out⟩, ⟨by exact BK606.out⟩, ⟨by repeat (first | (with_reducible first | exact HB.out | apply below_alloc | apply pw_below_drewN | apply below_drew1 | refine below_set ?_ GE606.out) | exact HB.out)⟩⟩
             ·rw [if_neg c34] at H
              exact absurd H (by simp)
            ·rw [if_neg c33] at H
             exact absurd H (by simp)
         ·rw [if_neg c31] at H
          have c31b0 : decide (x8_3 < (t618.length : Int)) = false := decide_eq_false c31
          clear c31
          have H' := Aside0.mk H
          clear H
          have hcz46_0 : wr.cell? ⟨gb606, 0, none⟩ = some (.bool t607) := (blk_cell BK606.out 0).trans rfl
          have hcz46_1 : wr.cell? ⟨gb606, 1, none⟩ = some (.bool true) := (blk_cell BK606.out 1).trans rfl
          have hcz46_2 : wr.cell? ⟨gb606, 2, none⟩ = some (.slice Ao10 t609.length co10) := (blk_cell BK606.out 2).trans rfl
          have hcz46_3 : wr.cell? ⟨gb606, 3, none⟩ = some (.slice Ao11 t612.length co11) := (blk_cell BK606.out 3).trans rfl
          have hcz46_4 : wr.cell? ⟨gb606, 4, none⟩ = some (.slice Ao12 t615.length co12) := (blk_cell BK606.out 4).trans rfl
          have hcz46_5 : wr.cell? ⟨gb606, 5, none⟩ = some (.slice Ao13 t618.length co13) := (blk_cell BK606.out 5).trans rfl
          have hcz46_6 : wr.cell? ⟨gb606, 6, none⟩ = some (.bool t621) := (blk_cell BK606.out 6).trans rfl
          have hcz46_7 : wr.cell? ⟨gb606, 7, none⟩ = some (.bool true) := (blk_cell BK606.out 7).trans rfl
          have hfz46_0 := blk_frozen BK606.out 0
          have hfz46_1 := blk_frozen BK606.out 1
          have hfz46_2 := blk_frozen BK606.out 2
          have hfz46_3 := blk_frozen BK606.out 3
          have hfz46_4 := blk_frozen BK606.out 4
          have hfz46_5 := blk_frozen BK606.out 5
          have hfz46_6 := blk_frozen BK606.out 6
          have hfz46_7 := blk_frozen BK606.out 7
          go_wp2
          go_loopg [10] k3 (fun kq v10 w' => ∃ (x10_4 : Int), v10 = .int .i64 x10_4 ∧ Aside0 (boltinglaw12_ConfigData.l3 kq a1 x10_4 t607 false t609 t612 t615 t618 t621 true = some r) ∧ Aside0 (kq ≤ k3) ∧ Aside0 (Kd.V Kd.string 9 w' w.heap.size (fun k_ => some k_ ≠ ((.slice Ao13 t618.length co13) : Value).ownBlock ∧ k_ ≠ gb606) (.slice Ao10 t609.length co10) t609) ∧ Aside0 (Kd.V Kd.string 9 w' w.heap.size (fun k_ => some k_ ≠ ((.slice Ao13 t618.length co13) : Value).ownBlock ∧ k_ ≠ gb606) (.slice Ao11 t612.length co11) t612) ∧ Aside0 (Kd.V Kd.string 9 w' w.heap.size (fun k_ => some k_ ≠ ((.slice Ao13 t618.length co13) : Value).ownBlock ∧ k_ ≠ gb606) (.slice Ao12 t615.length co12) t615) ∧ Aside0 (Kd.N k35 35 w' w.heap.size (fun k_ => k_ ≠ gb606) (.slice Ao13 t618.length co13) t618) ∧ Aside0 (w'.heap[gb606]? = some (.cells #[.bool t607, .bool false, (.slice Ao10 t609.length co10), (.slice Ao11 t612.length co11), (.slice Ao12 t615.length co12), (.slice Ao13 t618.length co13), .bool t621, .bool true] 25 (0, 0))) ∧ Aside0 (Below w.heap.size w w'))
          case atStart => exact ⟨(0), (by first | rfl | (simp; done) | (simp [*]; done)), H', ⟨Nat.le_refl _⟩, ⟨by exact Kd.V_mono (Kd.V_far (p := ⟨gb606, 1, none⟩) (Kd.V_mono HO_607002.out (fun k_ hk => (⟨hk, hk.2⟩ : _ ∧ k_ ≠ gb606))) (fun _ hk => hk.2) (.bool false)) (fun _ hk => ⟨hk.1.1, hk.1.2⟩)⟩, ⟨by exact Kd.V_mono (Kd.V_far (p := ⟨gb606, 1, none⟩) (Kd.V_mono HO_607003.out (fun k_ hk => (⟨hk, hk.2⟩ : _ ∧ k_ ≠ gb606))) (fun _ hk => hk.2) (.bool false)) (fun _ hk => ⟨hk.1.1, hk.1.2⟩)⟩, ⟨by exact Kd.V_mono (Kd.V_far (p := ⟨gb606, 1, none⟩) (Kd.V_mono HO_607004.out (fun k_ hk => (⟨hk, hk.2⟩ : _ ∧ k_ ≠ gb606))) (fun _ hk => hk.2) (.bool false)) (fun _ hk => ⟨hk.1.1, hk.1.2⟩)⟩, ⟨by exact Kd.N_mono (Kd.N_far (p := ⟨gb606, 1, none⟩) (Kd.N_mono HO_607005.out (fun k_ hk => (⟨hk, hk⟩ : _ ∧ k_ ≠ gb606))) (fun _ hk => hk.2) (.bool false)) (fun _ hk => hk.1)⟩, ⟨by refine blk_put (cs := #[.bool t607, .bool true, .slice Ao10 t609.length co10, .slice Ao11 t612.length co11, .slice Ao12 t615.length co12, .slice Ao13 t618.length co13, .bool t621, .bool true]) ?_ 1 _ rfl; exact BK606.out⟩, ⟨by repeat (first | (with_reducible first | exact HB.out | apply below_alloc | apply pw_below_drewN | apply below_drew1 | refine below_set ?_ GE606.out) | exact HB.out)⟩⟩
          case round =>
           clear H'
           try clear c1
           try clear p2
           try clear c3
           try clear c6
           try clear p6
           try clear q6
           try clear hx6
           try clear c15
           try clear c31
           try clear c31b0
           try clear c33
           try clear c34
           try clear c35
           try clear c35b0
           try clear c36
           try clear c38
           try clear hcz42_0
           try clear hcz42_1
           try clear hcz42_2
           try clear hcz42_3
           try clear hcz42_4
           try clear hcz42_5
           try clear hcz42_6
           try clear hcz42_7
           try clear hcz45_0
           try clear hcz45_1
           try clear hcz45_2
           try clear hcz45_3
           try clear hcz45_4
           try clear hcz45_5
           try clear hcz45_6
           try clear hcz45_7
           try clear hcz46_0
           try clear hcz46_1
           try clear hcz46_2
           try clear hcz46_3
           try clear hcz46_4
           try clear hcz46_5
           try clear hcz46_6
           try clear hcz46_7
           try clear hfz42_0
           try clear hfz42_1
           try clear hfz42_2
           try clear hfz42_3
           try clear hfz42_4
           try clear hfz42_5
           try clear hfz42_6
           try clear hfz42_7
           try clear hfz45_0
           try clear hfz45_1
           try clear hfz45_2
           try clear hfz45_3
           try clear hfz45_4
           try clear hfz45_5
           try clear hfz45_6
           try clear hfz45_7
           try clear hfz46_0
           try clear hfz46_1
           try clear hfz46_2
           try clear hfz46_3
           try clear hfz46_4
           try clear hfz46_5
           try clear hfz46_6
           try clear hfz46_7
           try clear hx626_0
           try clear hx626_1
           try clear hx627_0
           try clear hx627_1
           try clear hx628_0
           try clear hx628_1
           try clear hx629_0
           try clear p626
           try clear p627
           try clear p628
           try clear p629
           try clear q626
           try clear q627
           try clear q628
           try clear q629
           obtain ⟨x10_4, rfl, HA, HK4, HO_607002, HO_607003, HO_607004, HO_607005, BK606, HB⟩ := hrel
           cases gk with
           | zero => exact absurd HA.out (by simp [boltinglaw12_ConfigData.l3])
           | succ k4 =>
            have H := HA.out
            clear HA
            simp only [boltinglaw12_ConfigData.l3] at H
            by_cases c47 : x10_4 < (t615.length : Int)
            ·rw [if_pos c47] at H
             have c47b0 : decide (x10_4 < (t615.length : Int)) = true := decide_eq_true c47
             clear c47
             by_cases c48 : 0 ≤ x10_4
             ·rw [if_pos c48] at H
              have c48b0 : decide (0 ≤ x10_4) = true := decide_eq_true c48
              clear c48
              replace H := Option.bind_eq_some_iff.mp H
              obtain ⟨t632, A490, H⟩ := H
              replace H : (if t632 = true then (some false) else (boltinglaw12_ConfigData.l3 k4 a1 (wrap64 (x10_4 + 1)) t607 false t609 t612 t615 t618 t621 true)) = some r := H
              have A49 := Aside0.mk A490
              clear A490
              by_cases c50 : t632 = true
              ·subst c50
               have H1 : (some false) = some r := by rw [if_pos rfl] at H; exact H
               clear H
               have H := H1
               clear H1
               exact absurd (Option.some.inj H) (by rw [hT.out]; decide)
              ·replace c50 := Bool.eq_false_iff.mpr c50
               subst c50
               have H1 : (boltinglaw12_ConfigData.l3 k4 a1 (wrap64 (x10_4 + 1)) t607 false t609 t612 t615 t618 t621 true) = some r := by rw [if_neg (show ¬ (false = true) by decide)] at H; exact H
               clear H
               have H := H1
               clear H1
               have H' := Aside0.mk H
               clear H
               have hcz54_0 : wr.cell? ⟨gb606, 0, none⟩ = some (.bool t607) := (blk_cell BK606.out 0).trans rfl
               have hcz54_1 : wr.cell? ⟨gb606, 1, none⟩ = some (.bool false) := (blk_cell BK606.out 1).trans rfl
               have hcz54_2 : wr.cell? ⟨gb606, 2, none⟩ = some (.slice Ao10 t609.length co10) := (blk_cell BK606.out 2).trans rfl
               have hcz54_3 : wr.cell? ⟨gb606, 3, none⟩ = some (.slice Ao11 t612.length co11) := (blk_cell BK606.out 3).trans rfl
               have hcz54_4 : wr.cell? ⟨gb606, 4, none⟩ = some (.slice Ao12 t615.length co12) := (blk_cell BK606.out 4).trans rfl
               have hcz54_5 : wr.cell? ⟨gb606, 5, none⟩ = some (.slice Ao13 t618.length co13) := (blk_cell BK606.out 5).trans rfl
               have hcz54_6 : wr.cell? ⟨gb606, 6, none⟩ = some (.bool t621) := (blk_cell BK606.out 6).trans rfl
               have hcz54_7 : wr.cell? ⟨gb606, 7, none⟩ = some (.bool true) := (blk_cell BK606.out 7).trans rfl
               have hfz54_0 := blk_frozen BK606.out 0
               have hfz54_1 := blk_frozen BK606.out 1
               have hfz54_2 := blk_frozen BK606.out 2
               have hfz54_3 := blk_frozen BK606.out 3
               have hfz54_4 := blk_frozen BK606.out 4
               have hfz54_5 := blk_frozen BK606.out 5
               have hfz54_6 := blk_frozen BK606.out 6
               have hfz54_7 := blk_frozen BK606.out 7
               try go_wp2
               have n0_ := Aside0.mk (Kd.V_drew HO_607002.out)
               have n1_ := Aside0.mk (Kd.V_drew HO_607003.out)
               have n2_ := Aside0.mk (Kd.V_drew HO_607004.out)
               have n3_ := Aside0.mk (Kd.N_drew HO_607005.out)
               have n4_ := Aside0.mk (blk_drew BK606.out)
               have n5_ := Aside0.mk (below_drew1 HB.out)
               clear HO_607002
               clear HO_607003
               clear HO_607004
               clear HO_607005
               clear BK606
               clear HB
               have HO_607002 := n0_
               have HO_607003 := n1_
               have HO_607004 := n2_
               have HO_607005 := n3_
               have BK606 := n4_
               have HB := n5_
               clear n0_ n1_ n2_ n3_ n4_ n5_
               have p631 : 0 ≤ (x10_4 : Int) := of_decide_eq_true (by first | (with_reducible assumption) | assumption)
               have q631 : x10_4 < (t615.length : Int) := of_decide_eq_true (by first | (with_reducible assumption) | assumption)
               obtain ⟨ad631, e631, hx631_0⟩ := Kd.at_string (Kd.V_reads' HO_607004.out).2.2 x10_4 p631 q631
               cases e631
               replace p631 := eq_true p631
               replace q631 := eq_true q631
               refine start_ (n := 8) (S := fun w' => w'.cell? ⟨gb606, 0, none⟩ = some (.bool t607) ∧ w'.cell? ⟨gb606, 1, none⟩ = some (.bool false) ∧ w'.cell? ⟨gb606, 2, none⟩ = some (.slice Ao10 t609.length co10) ∧ w'.cell? ⟨gb606, 3, none⟩ = some (.slice Ao11 t612.length co11) ∧ w'.cell? ⟨gb606, 4, none⟩ = some (.slice (some ad631) t615.length co12) ∧ w'.cell? ⟨gb606, 5, none⟩ = some (.slice Ao13 t618.length co13) ∧ w'.cell? ⟨gb606, 6, none⟩ = some (.bool t621) ∧ w'.cell? ⟨gb606, 7, none⟩ = some (.bool true) ∧ w'.cell? (ad631.add (x10_4).toNat) = some (.string (rdOf ByteArray.empty t615 x10_4))) (ds := []) (tf 0 8) (by kernel_rfl) rfl rfl ⟨(blk_cell BK606.out 0).trans rfl, (blk_cell BK606.out 1).trans rfl, (blk_cell BK606.out 2).trans rfl, (blk_cell BK606.out 3).trans rfl, (blk_cell BK606.out 4).trans rfl, (blk_cell BK606.out 5).trans rfl, (blk_cell BK606.out 6).trans rfl, (blk_cell BK606.out 7).trans rfl, hx631_0⟩ (fun hHeld => ?_); refine with_tabW boltinglaw12_ConfigData.tab23 boltinglaw12_ConfigData.bits23 (fun HT_ HW_ => ?_)
               generalize wr.drew = w55 at HO_607002 HO_607003 HO_607004 HO_607005 BK606 HB hx631_0 hHeld ⊢
               refine pure_ (i := 1) (N := some 86) (v := ?_) (a' := ?_) #[false, true, false, false, false, false, false, false] rfl rfl (any_of HT_.out (by kernel_rfl)) (fun _ _ _ h => h) (Or.inl ⟨by rfl, ?_⟩) ?_ ?_
               rotate_left
               ·intro w'
                go_simp
                with_reducible rfl
               rotate_left
               ·simp only [Act.put, List.setIfInBounds_toArray, List.set_cons_zero, List.set_cons_succ, i64_w, i32_w]
                rfl
               refine pure_ (i := 2) (N := some 87) (v := ?_) (a' := ?_) #[false, true, true, false, false, false, false, false] rfl rfl (any_of HT_.out (by kernel_rfl)) (fun _ _ _ h => h) (Or.inl ⟨by rfl, ?_⟩) ?_ ?_
               rotate_left
               ·intro w'
                go_simp
                with_reducible rfl
               rotate_left
               ·simp only [Act.put, List.setIfInBounds_toArray, List.set_cons_zero, List.set_cons_succ, i64_w, i32_w]
                rfl
               refine pure_ (i := 4) (N := some 89) (v := ?_) (a' := ?_) #[false, true, true, false, true, false, false, false] rfl rfl (any_of HT_.out (by kernel_rfl)) (fun _ _ _ h => h) (Or.inl ⟨by rfl, ?_⟩) ?_ ?_
               rotate_left
               ·intro w'
                go_simp
                with_reducible rfl
               rotate_left
               ·simp only [Act.put, List.setIfInBounds_toArray, List.set_cons_zero, List.set_cons_succ, i64_w, i32_w]
                rfl
               refine take_ (i := 0) (N := some 85) (v := ?_) (a' := ?_) #[true, true, true, false, true, false, false, false] rfl rfl (take_ofW HT_.out HW_.out (by kernel_rfl)) (fun _ _ _ h => h) (Or.inl ⟨by rfl, ?_⟩) hHeld ?_ ?_
               rotate_left
               ·rintro w' ⟨s0, s1, s2, s3, s4, s5, s6, s7, s8⟩
                go_simp
                with_reducible rfl
               rotate_left
               ·simp only [Act.put, List.setIfInBounds_toArray, List.set_cons_zero, List.set_cons_succ, i64_w, i32_w]
                rfl
               refine take_ (i := 3) (N := some 88) (v := ?_) (a' := ?_) (tf 5 3) rfl rfl (take_ofW HT_.out HW_.out (by kernel_rfl)) (fun _ _ _ h => h) (Or.inl ⟨by rfl, ?_⟩) hHeld ?_ ?_
               rotate_left
               ·rintro w' ⟨s0, s1, s2, s3, s4, s5, s6, s7, s8⟩
                go_simp
                with_reducible rfl
               rotate_left
               ·simp only [Act.put, List.setIfInBounds_toArray, List.set_cons_zero, List.set_cons_succ, i64_w, i32_w]
                rfl
               refine pure_ (i := 5) (N := some 90) (v := ?_) (a' := ?_) (tf 6 2) rfl rfl (any_of HT_.out (by kernel_rfl)) (fun _ _ _ h => h) (Or.inl ⟨by rfl, ?_⟩) ?_ ?_
               rotate_left
               ·intro w'
                go_simp
                with_reducible rfl
               rotate_left
               ·simp only [Act.put, List.setIfInBounds_toArray, List.set_cons_zero, List.set_cons_succ, i64_w, i32_w]
                rfl
               refine take_ (i := 6) (N := some 91) (v := ?_) (a' := ?_) (tf 7 1) rfl rfl (take_ofW HT_.out HW_.out (by kernel_rfl)) (fun _ _ _ h => h) (Or.inl ⟨by rfl, ?_⟩) hHeld ?_ ?_
               rotate_left
               ·rintro w' ⟨s0, s1, s2, s3, s4, s5, s6, s7, s8⟩
                go_simp
                with_reducible rfl
               rotate_left
               ·simp only [Act.put, List.setIfInBounds_toArray, List.set_cons_zero, List.set_cons_succ, i64_w, i32_w]
                rfl
               refine one_ (i := 7) (N := some 92) (tf 8 0) rfl rfl (one_of HT_.out (by kernel_rfl)) (by decide) (fun K hK => ?_)
               refine goes_ Try.func15 (by kernel_rfl) rfl #[.agg #[.bool t607, .bool false, .slice Ao10 t609.length co10, .slice Ao11 t612.length co11, .slice (some ad631) t615.length co12, .slice Ao13 t618.length co13, .bool t621, .bool true], .string a1, .string (rdOf ByteArray.empty t615 x10_4)] (by rfl) rfl rfl (by (try simp only [List.map_toArray, List.map_cons, List.map_nil]); first | done | rfl | (simp only [List.length_drop, List.length_take]; rfl)) ?_
               with_reducible refine (config_Attr.calls t607 false _ _ t609 _ _ t612 _ _ t615 _ _ t618 t621 true a1 (rdOf ByteArray.empty t615 x10_4) false _ ?side1 ?side2 ?side3 ?side4 ?side5 ?side6 ?side7 ?side8 A49.out).mono ?_
               (case side1 => repeat (first | exact (Kd.V_reads' HO_607002.out).2.2 | (with_reducible refine Kd.C_alloc ?_ _) | (with_reducible refine Kd.C_drewN ?_ _) | (with_reducible refine Kd.C_drew ?_)))
               (case side2 => exact (Kd.V_reads' HO_607002.out).2.1)
               (case side3 => repeat (first | exact (Kd.V_reads' HO_607003.out).2.2 | (with_reducible refine Kd.C_alloc ?_ _) | (with_reducible refine Kd.C_drewN ?_ _) | (with_reducible refine Kd.C_drew ?_)))
               (case side4 => exact (Kd.V_reads' HO_607003.out).2.1)
               (case side5 => repeat (first | exact (Kd.V_reads' HO_607004.out).2.2 | (with_reducible refine Kd.C_alloc ?_ _) | (with_reducible refine Kd.C_drewN ?_ _) | (with_reducible refine Kd.C_drew ?_)))
               (case side6 => exact (Kd.V_reads' HO_607004.out).2.1)
               (case side7 => repeat (first | exact (Kd.N_reads' HO_607005.out).2.2 | (with_reducible refine Kd.C_alloc ?_ _) | (with_reducible refine Kd.C_drewN ?_ _) | (with_reducible refine Kd.C_drew ?_)))
               (case side8 => exact (Kd.N_reads' HO_607005.out).2.1)
               rintro e w56 ⟨rfl, hb⟩
               have HS8_ := (hb.cell (World.block_lt_of_cell? _ _ (hHeld.2.2.2.2.2.2.2.2))).trans (hHeld.2.2.2.2.2.2.2.2)
               refine ⟨_, rfl, ?_⟩
               have n0_ := Aside0.mk (Kd.V_below (by exact HO_607002.out) hb)
               have n1_ := Aside0.mk (Kd.V_below (by exact HO_607003.out) hb)
               have n2_ := Aside0.mk (Kd.V_below (by exact HO_607004.out) hb)
               have n3_ := Aside0.mk (Kd.N_below (by exact HO_607005.out) hb)
               have n4_ := Aside0.mk (blk_below (g := gb606) (o := .cells #[.bool t607, .bool false, .slice Ao10 t609.length co10, .slice Ao11 t612.length co11, .slice (some ad631) t615.length co12, .slice Ao13 t618.length co13, .bool t621, .bool true] 25 (0, 0)) (by exact BK606.out) hb)
               have n5_ := Aside0.mk (below_step (by repeat (first | (with_reducible first | exact HB.out | apply below_alloc | apply pw_below_drewN | apply below_drew1 | refine below_set ?_ GE606.out) | exact HB.out)) hb)
               clear HO_607002
               clear HO_607003
               clear HO_607004
               clear HO_607005
               clear BK606
               clear HB
               have HO_607002 := n0_
               have HO_607003 := n1_
               have HO_607004 := n2_
               have HO_607005 := n3_
               have BK606 := n4_
               have HB := n5_
               clear n0_ n1_ n2_ n3_ n4_ n5_
               (try clear hb)
               (try clear hb2)
               (try clear hk)
               (try clear hi)
               refine hK.out _ _ ⟨(blk_cell BK606.out 0).trans rfl, (blk_cell BK606.out 1).trans rfl, (blk_cell BK606.out 2).trans rfl, (blk_cell BK606.out 3).trans rfl, (blk_cell BK606.out 4).trans rfl, (blk_cell BK606.out 5).trans rfl, (blk_cell BK606.out 6).trans rfl, (blk_cell BK606.out 7).trans rfl, HS8_⟩ (fun hHeld => ?_)
               clear hK K
               refine norm_ (a' := ?_) ?_ ?_
               rotate_left
               ·show Act.put _ (some 92) _ = _
                simp only [Act.put, List.setIfInBounds_toArray, List.set_cons_zero, List.set_cons_succ, i64_w, i32_w]
                rfl
               refine done_ (done_of HT_.out (by kernel_rfl)) ?_
               try go_wp2
               go_roundg k4
               case measure => have := HJ4.out; have := HK2.out; have := HK3.out; have := HK4.out; omega
               case rel => exact ⟨(wrap64 (x10_4 + 1)), (by first | rfl | (simp; done) | (simp [*]; done)), H', ⟨by have := HJ4.out; have := HK2.out; have := HK3.out; have := HK4.out; omega⟩, ⟨by exact HO_607002.out⟩, ⟨by exact HO_607003.out⟩, ⟨by exact HO_607004.out⟩, ⟨by exact HO_607005.out⟩, ⟨by exact BK606.out⟩, ⟨by repeat (first | (with_reducible first | exact HB.out | apply below_alloc | apply pw_below_drewN | apply below_drew1 | refine below_set ?_ GE606.out) | exact HB.out)⟩⟩
             ·rw [if_neg c48] at H
              exact absurd H (by simp)
            ·rw [if_neg c47] at H
             have c47b0 : decide (x10_4 < (t615.length : Int)) = false := decide_eq_false c47
             clear c47
             replace H := Option.bind_eq_some_iff.mp H
             obtain ⟨t633, A570, H⟩ := H
             replace H : (some t633) = some r := H
             have A57 := Aside0.mk A570
             clear A570
             obtain rfl := Option.some.inj H
             have hcz58_0 : wr.cell? ⟨gb606, 0, none⟩ = some (.bool t607) := (blk_cell BK606.out 0).trans rfl
             have hcz58_1 : wr.cell? ⟨gb606, 1, none⟩ = some (.bool false) := (blk_cell BK606.out 1).trans rfl
             have hcz58_2 : wr.cell? ⟨gb606, 2, none⟩ = some (.slice Ao10 t609.length co10) := (blk_cell BK606.out 2).trans rfl
             have hcz58_3 : wr.cell? ⟨gb606, 3, none⟩ = some (.slice Ao11 t612.length co11) := (blk_cell BK606.out 3).trans rfl
             have hcz58_4 : wr.cell? ⟨gb606, 4, none⟩ = some (.slice Ao12 t615.length co12) := (blk_cell BK606.out 4).trans rfl
             have hcz58_5 : wr.cell? ⟨gb606, 5, none⟩ = some (.slice Ao13 t618.length co13) := (blk_cell BK606.out 5).trans rfl
             have hcz58_6 : wr.cell? ⟨gb606, 6, none⟩ = some (.bool t621) := (blk_cell BK606.out 6).trans rfl
             have hcz58_7 : wr.cell? ⟨gb606, 7, none⟩ = some (.bool true) := (blk_cell BK606.out 7).trans rfl
             have hfz58_0 := blk_frozen BK606.out 0
             have hfz58_1 := blk_frozen BK606.out 1
             have hfz58_2 := blk_frozen BK606.out 2
             have hfz58_3 := blk_frozen BK606.out 3
             have hfz58_4 := blk_frozen BK606.out 4
             have hfz58_5 := blk_frozen BK606.out 5
             have hfz58_6 := blk_frozen BK606.out 6
             have hfz58_7 := blk_frozen BK606.out 7
             go_wp2_with (first | ((with_reducible refine gate_callee (f := 12) rfl ?_); refine goesL_ (some 93) rfl rfl Try.func12 (by kernel_rfl) rfl #[] rfl (by (try simp only [List.map_toArray, List.map_cons, List.map_nil]); first | done | rfl | (simp only [List.length_drop, List.length_take]; rfl)) ?_; (with_reducible refine (boltinglaw12_fixed.calls  t633 _ A57.out).mono ?_); rintro e w59 ⟨rfl, hb⟩; refine ⟨_, rfl, ?_⟩; have n0_ := Aside0.mk (Kd.V_below (by exact HO_607002.out) hb); have n1_ := Aside0.mk (Kd.V_below (by exact HO_607003.out) hb); have n2_ := Aside0.mk (Kd.V_below (by exact HO_607004.out) hb); have n3_ := Aside0.mk (Kd.N_below (by exact HO_607005.out) hb); have n4_ := Aside0.mk (blk_below (g := gb606) (o := .cells #[.bool t607, .bool false, .slice Ao10 t609.length co10, .slice Ao11 t612.length co11, .slice Ao12 t615.length co12, .slice Ao13 t618.length co13, .bool t621, .bool true] 25 (0, 0)) (by exact BK606.out) hb); have n5_ := Aside0.mk (below_step (by repeat (first | (with_reducible first | exact HB.out | apply below_alloc | apply pw_below_drewN | apply below_drew1 | refine below_set ?_ GE606.out) | exact HB.out)) hb); clear HO_607002; clear HO_607003; clear HO_607004; clear HO_607005; clear BK606; clear HB; have HO_607002 := n0_; have HO_607003 := n1_; have HO_607004 := n2_; have HO_607005 := n3_; have BK606 := n4_; have HB := n5_; clear n0_ n1_ n2_ n3_ n4_ n5_; (try clear hb); (try clear hb2); (try clear hk); (try clear hi)))
             go_ret
             exact ⟨by first | rfl | (simp [errW_none, errW_some] <;> rfl) | (simp [*, errW_none, errW_some] <;> rfl), by repeat (first | (with_reducible first | exact HB.out | apply below_alloc | apply pw_below_drewN | apply below_drew1 | refine below_set ?_ GE606.out) | exact HB.out)⟩

end Go.Proofs.Ytjofofpplpmgjaa.Pr
/- ConfigData of the document's chapter 12: it answers true whatever the input. -/
namespace Go.Proofs.Ytjofofpplpmgjaa
set_option linter.unusedVariables false
open Go.RowKit Go.Lib Go.Proofs.Ytjofofpplpmgjaa.Pr Go.Proofs.Ytjofofpplpmgjaa.Pure Go.Proofs.YtjofofpplpmgjaaW.PrintWords Go.Proofs.YtjofofpplpmgjaaW.PrintLast
abbrev onC (b : Cf) : Cf := ⟨b.al, true, b.els, b.rep, b.ats, b.per, b.com, true⟩
abbrev offC (b : Cf) : Cf := ⟨b.al, false, b.els, b.rep, b.ats, b.per, b.com, true⟩
theorem on_fit {b : Cf} (hf : Fit b) : Fit (onC b) := ⟨hf.1, hf.2, hf.3, hf.4, hf.5⟩
theorem off_fit {b : Cf} (hf : Fit b) : Fit (offC b) := ⟨hf.1, hf.2, hf.3, hf.4, hf.5⟩
theorem mem_at {l : List ByteArray} {i : Nat} {x : ByteArray} (h : l[i]? = some x) : mem l x = true := (mem_iff l x).2 (List.mem_of_getElem? h)
theorem attr_on {b : Cf} (hf : Fit b) (e a : ByteArray) : config_Attr.f b.al true b.els b.rep b.ats b.per b.com true e a = some (attrB (onC b) e a) := attr_k (on_fit hf) e a
theorem attr_off {b : Cf} (hf : Fit b) (e a : ByteArray) : config_Attr.f b.al false b.els b.rep b.ats b.per b.com true e a = some (attrB (offC b) e a) := attr_k (off_fit hf) e a
theorem data_l3 {b : Cf} (hf : Fit b) (e : ByteArray) : ∀ (d i : Nat), i + d = b.ats.length → ∀ k, d < k → boltinglaw12_ConfigData.l3 k e (i : Int) b.al false b.els b.rep b.ats b.per b.com true = some true
  | 0, i, h, k, hk => by
    obtain ⟨k, rfl⟩ : ∃ m, k = m + 1 := ⟨k - 1, by omega⟩
    simp only [boltinglaw12_ConfigData.l3]
    rw [if_neg (by omega)]
    rfl
  | d + 1, i, h, k, hk => by
    obtain ⟨k, rfl⟩ : ∃ m, k = m + 1 := ⟨k - 1, by omega⟩
    have hi : i < b.ats.length := by omega
    have hx := List.getElem?_eq_getElem hi
    have hl := hf.ats
    simp only [boltinglaw12_ConfigData.l3]
    rw [if_pos (by omega), if_pos (by omega), rd_at hx, attr_off hf, Option.bind_some]
    have ha : attrB (offC b) e b.ats[i] = false := by
      unfold attrB namedB
      rw [show mem (offC b).ats b.ats[i] = true from mem_at hx]
      rfl
    rw [ha, if_neg (by decide), wrap_succ (by omega) (by omega)]
    exact data_l3 hf e d (i + 1) (by omega) k (by omega)
theorem data_l2 {b : Cf} (hf : Fit b) (e : ByteArray) (i K : Nat) (hi : i < b.per.length) (hn : ∀ k, K < k → boltinglaw12_ConfigData.l1 k e ((i + 1 : Nat) : Int) b.al true b.els b.rep b.ats b.per b.com true = some true) :
    ∀ (m j : Nat), j + m = (b.per[i]).f1.length → ∀ k, K + m + 1 < k → boltinglaw12_ConfigData.l2 k e (i : Int) (j : Int) b.al true b.els b.rep b.ats b.per b.com true = some true := by
  intro m
  induction m with
  | zero =>
    intro j hj k hk
    obtain ⟨k, rfl⟩ : ∃ m, k = m + 1 := ⟨k - 1, by omega⟩
    have hx := List.getElem?_eq_getElem hi
    have hl := hf.per
    unfold boltinglaw12_ConfigData.l2
    rw [if_pos (by omega), if_pos (by omega), rd35_at hx, if_neg (by omega), wrap_succ (by omega) (by omega)]
    exact hn k (by omega)
  | succ m ih =>
    intro j hj k hk
    obtain ⟨k, rfl⟩ : ∃ m, k = m + 1 := ⟨k - 1, by omega⟩
    have hx := List.getElem?_eq_getElem hi
    have hs := hf.sub _ (List.getElem_mem hi)
    have hj' : j < b.per[i].f1.length := by omega
    have hy := List.getElem?_eq_getElem hj'
    unfold boltinglaw12_ConfigData.l2
    rw [if_pos (by omega), if_pos (by omega), rd35_at hx, if_pos (by omega), if_pos (by omega), rd_at hy, attr_on hf, Option.bind_some]
    have ha : attrB (onC b) b.per[i].f0 b.per[i].f1[j] = true := by
      have hp : b.per.any (perB b.per[i].f0 b.per[i].f1[j]) = true := List.any_eq_true.2 ⟨b.per[i], List.getElem_mem hi, by unfold perB; rw [mem_at hy]; simp⟩
      unfold attrB namedB
      rw [show (onC b).per.any (perB b.per[i].f0 b.per[i].f1[j]) = true from hp, Bool.or_true]
      rfl
    rw [ha, if_pos rfl, wrap_succ (by omega) (by omega)]
    exact ih (j + 1) (by omega) k (by omega)
theorem data_l1 {b : Cf} (hf : Fit b) (e : ByteArray) (z : Nat) (hz : 1002 < z) : ∀ (d i : Nat), i + d = b.per.length → ∀ k, d * z + z < k → boltinglaw12_ConfigData.l1 k e (i : Int) b.al true b.els b.rep b.ats b.per b.com true = some true := by
  intro d
  induction d with
  | zero =>
    intro i h k hk
    obtain ⟨k, rfl⟩ : ∃ m, k = m + 1 := ⟨k - 1, by omega⟩
    have hl := hf.ats
    unfold boltinglaw12_ConfigData.l1
    rw [if_neg (by omega)]
    exact data_l3 hf e b.ats.length 0 (by omega) k (by omega)
  | succ d ih =>
    intro i h k hk
    obtain ⟨k, rfl⟩ : ∃ m, k = m + 1 := ⟨k - 1, by omega⟩
    have hi : i < b.per.length := by omega
    have hs := hf.sub _ (List.getElem_mem hi)
    have he : (d + 1) * z = d * z + z := Nat.succ_mul d z
    unfold boltinglaw12_ConfigData.l1
    rw [if_pos (by omega)]
    exact data_l2 hf e i (d * z + z) hi (fun k hk => ih (i + 1) (by omega) k hk) (b.per[i].f1.length) 0 (by omega) k (by omega)
theorem data_l0 {b : Cf} (hf : Fit b) (e : ByteArray) (z : Nat) (hz : 1002 < z) : ∀ (d i : Nat), i + d = b.ats.length → ∀ k, d + (b.per.length * z + z) + 1 < k → boltinglaw12_ConfigData.l0 k e (i : Int) b.al true b.els b.rep b.ats b.per b.com true = some true := by
  intro d
  induction d with
  | zero =>
    intro i h k hk
    obtain ⟨k, rfl⟩ : ∃ m, k = m + 1 := ⟨k - 1, by omega⟩
    unfold boltinglaw12_ConfigData.l0
    rw [if_neg (by omega)]
    exact data_l1 hf e z hz b.per.length 0 (by omega) k (by omega)
  | succ d ih =>
    intro i h k hk
    obtain ⟨k, rfl⟩ : ∃ m, k = m + 1 := ⟨k - 1, by omega⟩
    have hi : i < b.ats.length := by omega
    have hx := List.getElem?_eq_getElem hi
    have hl := hf.ats
    unfold boltinglaw12_ConfigData.l0
    rw [if_pos (by omega), if_pos (by omega), rd_at hx, attr_on hf, Option.bind_some]
    have ha : attrB (onC b) e b.ats[i] = true := by
      unfold attrB namedB
      rw [show mem (onC b).ats b.ats[i] = true from mem_at hx]
      rfl
    rw [ha, if_pos rfl, wrap_succ (by omega) (by omega)]
    exact ih (i + 1) (by omega) k (by omega)
theorem data_pre_ (r : ByteArray) (h : r.toList ≠ []) : dataB ((⟨#[100, 97, 116, 97, 45]⟩ : ByteArray) ++ r) = true := by
  have h1 : dat ((⟨#[100, 97, 116, 97, 45]⟩ : ByteArray) ++ r) = [100, 97, 116, 97, 45] ++ dat r := by
    unfold dat
    rw [ByteArray.data_append, Array.toList_append]
  have h2 : ((⟨#[100, 97, 116, 97, 45]⟩ : ByteArray) ++ r).size = 5 + r.size := by
    rw [ByteArray.size_append]; rfl
  have h3 : 0 < r.size := by
    rcases Nat.eq_zero_or_pos r.size with h0 | h0
    · exfalso
      apply h
      rw [Lib.toList_data]
      exact List.eq_nil_of_length_eq_zero (by rw [Array.length_toList]; exact h0)
    · exact h0
  unfold dataB
  rw [h1, h2, decide_eq_true (by omega), Bool.and_true]
  rfl
theorem data_f (c : Cf) (e r : ByteArray) (hr : r.size ≤ 140737488351232) (K z : Nat) (hz : 1002 < z) (hK : 1000 * z + z + 1002 < K) : boltinglaw12_ConfigData.f (K + 1) c.al c.aal c.els c.rep c.ats c.per c.com c.dt e r = some true := by
  have hf := bound_fit c
  obtain ⟨b, hb⟩ : ∃ b, bound c = b := ⟨_, rfl⟩
  rw [hb] at hf
  have hbd' : boltinglaw12_Bound.f (K + 1) c.al c.aal c.els c.rep c.ats c.per c.com c.dt = some (b.al, b.aal, b.els, b.rep, b.ats, b.per, b.com, b.dt) := by rw [bound_f c (by omega), ← hb]; rfl
  have hp := hf.per
  have ha := hf.ats
  have h0 := data_l0 hf e z hz b.ats.length 0 (by omega) K (by have := Nat.mul_le_mul_right z hp; omega)
  have hj : boltinglaw12_ConfigData.j0 (K + 1) e false b.al true b.els b.rep b.ats b.per b.com true = some true := by
    rw [boltinglaw12_ConfigData.j0, if_neg (by decide)]
    exact h0
  unfold boltinglaw12_ConfigData.f
  rw [hbd', Option.bind_some]
  by_cases hz : r.toList = ([] : List UInt8)
  · rw [if_pos hz]
    exact hj
  · rw [if_neg hz, if_pos (by omega)]
    show ((config_Attr.f b.al true b.els b.rep b.ats b.per b.com true e (_ ++ r)).bind _) = _
    rw [attr_on hf, Option.bind_some]
    have hat : attrB (onC b) e ((⟨#[100, 97, 116, 97, 45]⟩ : ByteArray) ++ r) = true := by
      unfold attrB
      rw [data_pre_ r hz]
      simp
    rw [hat]
    exact hj
theorem Pure.ConfigData (c : Cf) (e a : ByteArray) (hz : Sized c) (he : e.size ≤ 140737488351232) (ha : a.size ≤ 140737488351232) : ∃ k, boltinglaw12_ConfigData.f k c.al c.aal c.els c.rep c.ats c.per c.com c.dt e a = some true := ⟨_, data_f c e a ha _ 1003 (by omega) (Nat.lt_succ_self _)⟩
end Go.Proofs.Ytjofofpplpmgjaa
/- The row of ConfigData. -/
namespace Go.Proofs.Ytjofofpplpmgjaa.configData
open Go.ChangeShapes Go.WideShapes Go.ChangeAt Go.RowKit
open Go.ChangeMaps (open_string shut_string)
set_option linter.unusedVariables false
set_option linter.unusedSimpArgs false
theorem own : ownKnob Try.prog.godebug = none := by kernel_rfl
theorem laidOut : laidOutB Try.prog = true := by kernel_rfl
set_option maxRecDepth 100000 in
theorem lifted (os : Os) (started : os.Started) (H : Type) (enc : TypeId × Value → H) :
    ReturnsInHanded {} Try.checked os 5 .any (Rows.configDataSpec.pre6 enc Try.prog Try.f5 Rows.configDataRow.domain false) (Rows.configDataSpec.post enc Try.prog Try.f5 false true false false) := by
  refine returnsInHanded_of_change_sized (C := Try.checked) own started (by kernel_rfl) Try.func5
    (ChangeSpec.witness6 (enc := enc) (C := Try.checked) false ⟨#[], #[.agg #[.bool false, .bool false, .slice none 0 0, .slice none 0 0, .slice none 0 0, .slice none 0 0, .bool false, .bool false], .string ByteArray.empty, .string ByteArray.empty], []⟩ 8 (by kernel_rfl) (by kernel_rfl) (by kernel_rfl) (by kernel_rfl)) ?_
  intro W base args ds gs before hval0 hW hcnd hsz0 _
  have hsz : (DataW.weightsEach Try.prog (Try.f5.params.toList ++ Rows.configDataSpec.plain.varTypes Try.prog) (ds ++ gs)).all (· ≤ reachBytes) = true := hsz0
  have hval : ∀ (j : Nat) t v, Try.f5.params[j]? = some t → args[j]? = some v → Value.okWide Try.prog W .any base t v := hval0
  have hW' := hW
  obtain ⟨p, q, hA0, hV, rfl, hfz, hnd⟩ := hW
  have hA : DataW.TrodAll enc Try.prog W 0 (fun _ => true) true Try.f5.params.toList args.toList ds p := hA0
  rw [Try.params5] at hA hval hsz
  obtain ⟨v0, vs0, d0, ds0, p0, q0, hargs, rfl, rfl, h0, r0⟩ := trodAll_cons hA
  obtain ⟨v1, vs1, d1, ds1, p1, q1, rfl, rfl, rfl, h1, r1⟩ := trodAll_cons r0
  obtain ⟨v2, vs2, d2, ds2, p2, q2, rfl, rfl, rfl, h2, r2⟩ := trodAll_cons r1
  obtain ⟨rfl, rfl, rfl⟩ := trodAll_nil r2
  obtain rfl : args = #[v0, v1, v2] := by cases args; simp_all
  obtain ⟨rfl, rfl⟩ := trodVars_none hV
  have k0 := h0
  have lt0 : ∀ x ∈ p0, x.block < W.heap.size := by obtain ⟨m, hm⟩ := k0; exact DataW.trod_lt m _ _ _ hm
  obtain ⟨b0, A2_0, c2_0, A3_0, c3_0, A4_0, c4_0, A5_0, c5_0, rfl, ⟨x2_0, g2_0⟩, ⟨x3_0, g3_0⟩, ⟨x4_0, g4_0⟩, ⟨x5_0, g5_0⟩, z_0⟩ := open_conf (hval 0 25 v0 rfl rfl) h0 (fun n hn => by simpa using List.all_eq_true.1 hsz n (DataW.weights_mem_each (j := 0) rfl rfl n hn))
  obtain ⟨a1, rfl, rfl, rfl, y1⟩ := open_string Try.underlying9 (hval 1 9 v1 rfl rfl) h1
  have w1 : a1.size ≤ 140737488351232 := by
    have z := sized_string hsz (j := 1) (t := 9) rfl rfl
    rw [Array.length_toList] at z
    exact z
  obtain ⟨a2, rfl, rfl, rfl, y2⟩ := open_string Try.underlying9 (hval 2 9 v2 rfl rfl) h2
  have w2 : a2.size ≤ 140737488351232 := by
    have z := sized_string hsz (j := 2) (t := 9) rfl rfl
    rw [Array.length_toList] at z
    exact z
  clear hA0 hval0 hsz0 hsz
  obtain ⟨k, hk⟩ := Pure.ConfigData b0 a1 a2 z_0 w1 w2
  refine (Pr.boltinglaw12_ConfigData.calls k b0.al b0.aal A2_0 c2_0 b0.els A3_0 c3_0 b0.rep A4_0 c4_0 b0.ats A5_0 c5_0 b0.per b0.com b0.dt a1 a2 true W g2_0 x2_0 g3_0 x3_0 g4_0 x4_0 g5_0 x5_0 hk (hT := ⟨rfl⟩)).mono fun e W' ⟨he, bel0⟩ => ?_
  have bel : Below W.heap.size W W' := by first | exact bel0 | exact below_of_drawn0 bel0
  subst he
  exact ⟨_, rfl, _, _, _, [], _, [], hW', trodAll_mk1 (shut_bool Try.underlying4 _), (trodAll_cons_mk (Below.trod laidOut (by kernel_rfl) (of_decide_eq_true (by kernel_rfl)) k0 bel lt0) (trodAll_cons_mk (shut_string Try.underlying9 y1) (trodAll_cons_mk (shut_string Try.underlying9 y2) trodAll_mk0))), rfl, bel.frame _, fun h => by cases h⟩
theorem over : Rows.configDataRow.holds Try.pinned (OpenSpec.ofChange Rows.configDataSpec) :=
  OpenClaim.holds_of_wide 5 Try.f5 rfl rfl rfl rfl rfl rfl rfl ⟨rfl, rfl, rfl, rfl, rfl⟩ rfl rfl rfl rfl rfl (by kernel_rfl) Try.func5 (by kernel_rfl)
    (of_decide_eq_true (by kernel_rfl)) (by unfold Func.isWrapper; first | (rw [if_pos (by decide +kernel)]; kernel_rfl) | (rw [if_neg (by decide +kernel)]; exact ⟨rfl, rfl⟩))
    (fun os started H enc _ => lifted os started H enc)
theorem proved : Rows.ConfigDataSaid := over
#print axioms proved
end Go.Proofs.Ytjofofpplpmgjaa.configData
namespace Go.Proofs.Ytjofofpplpmgjaa
/-- The row, under a short name, for the claim. -/
theorem configData_holds : Rows.ConfigDataSaid := configData.proved
end Go.Proofs.Ytjofofpplpmgjaa
