import Derived.Test.YtjofofpplpmgjaaJConfigCanon1
import Derived.Test.YtjofofpplpmgjaaJConfigCanon3
import Derived.OpenShut
import Derived.ShutString
import Derived.SizedLaws
import Derived.WalkKit
import Derived.ProofKit
import Derived.ChangeOld
import Derived.Below
import Derived.Shelf.SlSortCmp.InsertionK
import Derived.Lib.OwnBridge
import Derived.Sort.LotA
import Derived.Sort.WalkA
import Derived.Sort.OwnSorted
namespace Go.Proofs.Ytjofofpplpmgjaa.Pr
open Go.RowKit Go.Proofs.YtjofofpplpmgjaaW.PrintWords Go.Proofs.YtjofofpplpmgjaaW.PrintLast Go.Proofs.YtjofofpplpmgjaaW.PrintMore
attribute [local go_sem] max2_int min2_int max_two min_two max_three min_three max_four min_four   -- for this text's walks alone
set_option linter.unusedVariables false
set_option linter.unusedSimpArgs false

def boltinglaw12_Bound.l0 : Nat → List (S35) → Int → Bool → Bool → List ByteArray → List ByteArray → List ByteArray → List (S35) → Bool → Bool → Option (Bool × Bool × List ByteArray × List ByteArray × List ByteArray × (List (S35)) × Bool × Bool)
 | 0, _, _, _, _, _, _, _, _, _, _ => none
 | k + 1, x3, x4, x189000, x189001, x189002, x189003, x189004, x189005, x189006, x189007 => if x4 < (x189005.length : Int) then (if x4 < 12 then (if 0 ≤ x4 then (if 0 ≤ (mn (((rd_T35 x189005 x4).f1).length : Int) 70) then (if (mn (((rd_T35 x189005 x4).f1).length : Int) 70) ≤ (((rd_T35 x189005 x4).f1).length : Int) then (if x3.length < 3518437208883 then (boltinglaw12_Bound.l0 k (x3 ++ [(⟨(rd_T35 x189005 x4).f0, (((rd_T35 x189005 x4).f1).take ((mn (((rd_T35 x189005 x4).f1).length : Int) 70) : Int).toNat)⟩ : S35)]) (wrap64 (x4 + 1)) x189000 x189001 x189002 x189003 x189004 x189005 x189006 x189007) else (none)) else (none)) else (none)) else (none)) else (some (x189000, x189001, x189002, x189003, x189004, x3, x189006, x189007))) else (some (x189000, x189001, x189002, x189003, x189004, x3, x189006, x189007))
def boltinglaw12_Bound.f (k : Nat) (a0_0 : Bool) (a0_1 : Bool) (l0_2 : List ByteArray) (l0_3 : List ByteArray) (l0_4 : List ByteArray) (l0_5 : List (S35)) (a0_6 : Bool) (a0_7 : Bool) : Option (Bool × Bool × List ByteArray × List ByteArray × List ByteArray × (List (S35)) × Bool × Bool) := if 0 ≤ (mn (l0_2.length : Int) 70) then (if (mn (l0_2.length : Int) 70) ≤ (l0_2.length : Int) then (if 0 ≤ (mn (l0_3.length : Int) 70) then (if (mn (l0_3.length : Int) 70) ≤ (l0_3.length : Int) then (if 0 ≤ (mn (l0_4.length : Int) 70) then (if (mn (l0_4.length : Int) 70) ≤ (l0_4.length : Int) then (boltinglaw12_Bound.l0 k (([] : List (S35))) 0 a0_0 a0_1 (l0_2.take ((mn (l0_2.length : Int) 70) : Int).toNat) (l0_3.take ((mn (l0_3.length : Int) 70) : Int).toNat) (l0_4.take ((mn (l0_4.length : Int) 70) : Int).toNat) l0_5 a0_6 a0_7) else (none)) else (none)) else (none)) else (none)) else (none)) else (none)
def boltinglaw12_Bound.T8 : Bool × List (List Nat × List Nat) := (true, [([], []), ([], []), ([1], [1]), ([], []), ([2, 3], [2, 3]), ([4], [4]), ([5], [5]), ([], []), ([7], [7]), ([], []), ([8, 9], [8, 9]), ([10], [10]), ([11], [11]), ([], []), ([13], [13]), ([], []), ([14, 15], [14, 15]), ([16], [16]), ([17], [17]), ([18], [18]), ([19], [19]), ([12, 20], [12, 20]), ([6, 21], [6, 21]), ([22], [22]), ([0, 23], [0, 23]), ([24, 24, 0, 1, 2, 3, 4, 5, 6, 7, 8, 9, 10, 11, 12, 13, 14, 15, 16, 17, 18, 19, 20, 21, 22, 23, 24], [0, 24])])
def boltinglaw12_Bound.B8 : List Nat := [0, 0, 2, 0, 14, 30, 62, 0, 128, 0, 896, 1920, 3968, 0, 8192, 0, 57344, 122880, 253952, 516096, 1040384, 2097024, 4194302, 8388606, 16777215, 33554431]
theorem boltinglaw12_Bound.tab8 : rtab .any (opsOf Try.f11 8) = boltinglaw12_Bound.T8 := by kernel_rfl
theorem boltinglaw12_Bound.bits8 : waitsOk boltinglaw12_Bound.T8.2 boltinglaw12_Bound.B8 = true := by kernel_rfl
set_option maxHeartbeats 8000000 in
set_option maxRecDepth 100000 in
theorem boltinglaw12_Bound.calls (k : Nat) (a0_0 : Bool) (a0_1 : Bool) (P0_2_ : Nat → Prop) (A0_2 : Option Addr) (c0_2 : Nat) (l0_2 : List ByteArray) (P0_3_ : Nat → Prop) (A0_3 : Option Addr) (c0_3 : Nat) (l0_3 : List ByteArray) (P0_4_ : Nat → Prop) (A0_4 : Option Addr) (c0_4 : Nat) (l0_4 : List ByteArray) (P0_5_ : Nat → Prop) (A0_5 : Option Addr) (c0_5 : Nat) (l0_5 : List (S35)) (a0_6 : Bool) (a0_7 : Bool) (r1 : Bool) (r2 : Bool) (r3 : List ByteArray) (r4 : List ByteArray) (r5 : List ByteArray) (r6 : List (S35)) (r7 : Bool) (r8 : Bool) (w : World) (hs0_2 : Kd.V Kd.string 9 w w.heap.size (fun k_ => P0_2_ k_) (.slice A0_2 l0_2.length c0_2) l0_2) (hs0_3 : Kd.V Kd.string 9 w w.heap.size (fun k_ => P0_3_ k_) (.slice A0_3 l0_3.length c0_3) l0_3) (hs0_4 : Kd.V Kd.string 9 w w.heap.size (fun k_ => P0_4_ k_) (.slice A0_4 l0_4.length c0_4) l0_4) (hs0_5 : Kd.V k35 35 w w.heap.size (fun k_ => P0_5_ k_) (.slice A0_5 l0_5.length c0_5) l0_5) (h : boltinglaw12_Bound.f k a0_0 a0_1 l0_2 l0_3 l0_4 l0_5 a0_6 a0_7 = some (r1, r2, r3, r4, r5, r6, r7, r8)) :
  Calls Try.prog 11 #[.agg #[.bool a0_0, .bool a0_1, .slice A0_2 l0_2.length c0_2, .slice A0_3 l0_3.length c0_3, .slice A0_4 l0_4.length c0_4, .slice A0_5 l0_5.length c0_5, .bool a0_6, .bool a0_7]] w fun e w' => ∃ v2_ v3_ v4_ v5_ : Value, e = .returned (.agg #[.bool r1, .bool r2, v2_, v3_, v4_, v5_, .bool r7, .bool r8]) ∧ Kd.V Kd.string 9 w' w.heap.size (fun k_ => ((P0_2_ k_ ∨ P0_3_ k_ ∨ P0_4_ k_ ∨ P0_5_ k_) ∨ w.heap.size ≤ k_) ∧ some k_ ≠ (v5_ : Value).ownBlock) v2_ r3 ∧ Kd.V Kd.string 9 w' w.heap.size (fun k_ => ((P0_2_ k_ ∨ P0_3_ k_ ∨ P0_4_ k_ ∨ P0_5_ k_) ∨ w.heap.size ≤ k_) ∧ some k_ ≠ (v5_ : Value).ownBlock) v3_ r4 ∧ Kd.V Kd.string 9 w' w.heap.size (fun k_ => ((P0_2_ k_ ∨ P0_3_ k_ ∨ P0_4_ k_ ∨ P0_5_ k_) ∨ w.heap.size ≤ k_) ∧ some k_ ≠ (v5_ : Value).ownBlock) v4_ r5 ∧ Kd.N k35 35 w' w.heap.size (fun k_ => ((P0_2_ k_ ∨ P0_3_ k_ ∨ P0_4_ k_ ∨ P0_5_ k_) ∨ w.heap.size ≤ k_)) v5_ r6 ∧ Below w.heap.size w w' := by
 have hu25 := Try.underlying25
 have hu35 := Try.underlying35
 have HO0_2 := Aside0.mk (show Kd.V Kd.string 9 w w.heap.size (fun k_ => ((P0_2_ k_ ∨ P0_3_ k_ ∨ P0_4_ k_ ∨ P0_5_ k_) ∨ w.heap.size ≤ k_)) (.slice A0_2 l0_2.length c0_2) l0_2 from Kd.V_mono hs0_2 (fun k_ hk => .inl (.inl hk)))
 have HO0_3 := Aside0.mk (show Kd.V Kd.string 9 w w.heap.size (fun k_ => ((P0_2_ k_ ∨ P0_3_ k_ ∨ P0_4_ k_ ∨ P0_5_ k_) ∨ w.heap.size ≤ k_)) (.slice A0_3 l0_3.length c0_3) l0_3 from Kd.V_mono hs0_3 (fun k_ hk => .inl (.inr (.inl hk))))
 have HO0_4 := Aside0.mk (show Kd.V Kd.string 9 w w.heap.size (fun k_ => ((P0_2_ k_ ∨ P0_3_ k_ ∨ P0_4_ k_ ∨ P0_5_ k_) ∨ w.heap.size ≤ k_)) (.slice A0_4 l0_4.length c0_4) l0_4 from Kd.V_mono hs0_4 (fun k_ hk => .inl (.inr (.inr (.inl hk)))))
 have HO0_5 := Aside0.mk (show Kd.V k35 35 w w.heap.size (fun k_ => ((P0_2_ k_ ∨ P0_3_ k_ ∨ P0_4_ k_ ∨ P0_5_ k_) ∨ w.heap.size ≤ k_)) (.slice A0_5 l0_5.length c0_5) l0_5 from Kd.V_mono hs0_5 (fun k_ hk => .inl (.inr (.inr (.inr hk)))))
 have HB := Aside0.mk (Below.refl w.heap.size w)
 have H : (if 0 ≤ (mn (l0_2.length : Int) 70) then (if (mn (l0_2.length : Int) 70) ≤ (l0_2.length : Int) then (if 0 ≤ (mn (l0_3.length : Int) 70) then (if (mn (l0_3.length : Int) 70) ≤ (l0_3.length : Int) then (if 0 ≤ (mn (l0_4.length : Int) 70) then (if (mn (l0_4.length : Int) 70) ≤ (l0_4.length : Int) then (boltinglaw12_Bound.l0 k (([] : List (S35))) 0 a0_0 a0_1 (l0_2.take ((mn (l0_2.length : Int) 70) : Int).toNat) (l0_3.take ((mn (l0_3.length : Int) 70) : Int).toNat) (l0_4.take ((mn (l0_4.length : Int) 70) : Int).toNat) l0_5 a0_6 a0_7) else (none)) else (none)) else (none)) else (none)) else (none)) else (none)) = some (r1, r2, r3, r4, r5, r6, r7, r8) := h
 clear h
 obtain ⟨ji2, hji2⟩ : ∃ j_ : Int, (mn (l0_2.length : Int) 70) = j_ := ⟨_, rfl⟩
 replace H : (if 0 ≤ (ji2) then (if (ji2) ≤ (l0_2.length : Int) then (if 0 ≤ (mn (l0_3.length : Int) 70) then (if (mn (l0_3.length : Int) 70) ≤ (l0_3.length : Int) then (if 0 ≤ (mn (l0_4.length : Int) 70) then (if (mn (l0_4.length : Int) 70) ≤ (l0_4.length : Int) then (boltinglaw12_Bound.l0 k (([] : List (S35))) 0 a0_0 a0_1 (l0_2.take ((ji2) : Int).toNat) (l0_3.take ((mn (l0_3.length : Int) 70) : Int).toNat) (l0_4.take ((mn (l0_4.length : Int) 70) : Int).toNat) l0_5 a0_6 a0_7) else (none)) else (none)) else (none)) else (none)) else (none)) else (none)) = some (r1, r2, r3, r4, r5, r6, r7, r8) := by first | (rw [hji2] at H; exact H) | (simp only [hji2] at H ⊢; exact H)
 (try (have hji2h : ji2 ≤ 70 := by (rw [← hji2]; unfold mn; (repeat' split) <;> omega)))
 (try (have hji2g : ji2 ≤ 64 := by omega))
 (try (have hji2l : 0 ≤ ji2 := by (rw [← hji2]; unfold mn; (repeat' split) <;> omega)))
 (try (have hji2m : 0 ≤ ji2 := by omega))
 have hji2_ : (if 70 < (l0_2.length : Int) then 70 else (l0_2.length : Int)) = ji2 := hji2
 by_cases c3 : 0 ≤ (ji2)
 ·rw [if_pos c3] at H
  have c3b0 := eq_true c3
  have c3b1 : decide (0 ≤ (ji2)) = true := decide_eq_true c3
  clear c3
  by_cases c4 : (ji2) ≤ (l0_2.length : Int)
  ·rw [if_pos c4] at H
   have c4b0 := eq_true c4
   have c4b1 : decide ((ji2) ≤ (l0_2.length : Int)) = true := decide_eq_true c4
   clear c4
   obtain ⟨y190, hy190⟩ : ∃ y_ : List ByteArray, y_ = (l0_2.take ((ji2) : Int).toNat) := ⟨_, rfl⟩
   replace H : (if 0 ≤ (mn (l0_3.length : Int) 70) then (if (mn (l0_3.length : Int) 70) ≤ (l0_3.length : Int) then (if 0 ≤ (mn (l0_4.length : Int) 70) then (if (mn (l0_4.length : Int) 70) ≤ (l0_4.length : Int) then (boltinglaw12_Bound.l0 k (([] : List (S35))) 0 a0_0 a0_1 y190 (l0_3.take ((mn (l0_3.length : Int) 70) : Int).toNat) (l0_4.take ((mn (l0_4.length : Int) 70) : Int).toNat) l0_5 a0_6 a0_7) else (none)) else (none)) else (none)) else (none)) = some (r1, r2, r3, r4, r5, r6, r7, r8) := by first | (rw [hy190]; with_reducible exact H) | (have H2_ := (Option.bind_some _ _).symm.trans H; rw [hy190]; with_reducible exact H2_) | (have H2_ := (Option.bind_some _ _).symm.trans H; with_reducible exact H2_) | with_reducible exact H | (rw [hy190]; exact H) | exact H
   have Ny190 := Aside0.mk hy190
   clear hy190
   obtain ⟨ji5, hji5⟩ : ∃ j_ : Int, (mn (l0_3.length : Int) 70) = j_ := ⟨_, rfl⟩
   replace H : (if 0 ≤ (ji5) then (if (ji5) ≤ (l0_3.length : Int) then (if 0 ≤ (mn (l0_4.length : Int) 70) then (if (mn (l0_4.length : Int) 70) ≤ (l0_4.length : Int) then (boltinglaw12_Bound.l0 k (([] : List (S35))) 0 a0_0 a0_1 y190 (l0_3.take ((ji5) : Int).toNat) (l0_4.take ((mn (l0_4.length : Int) 70) : Int).toNat) l0_5 a0_6 a0_7) else (none)) else (none)) else (none)) else (none)) = some (r1, r2, r3, r4, r5, r6, r7, r8) := by first | (rw [hji5] at H; exact H) | (simp only [hji5] at H ⊢; exact H)
   (try (have hji5h : ji5 ≤ 70 := by (rw [← hji5]; unfold mn; (repeat' split) <;> omega)))
   (try (have hji5g : ji5 ≤ 64 := by omega))
   (try (have hji5l : 0 ≤ ji5 := by (rw [← hji5]; unfold mn; (repeat' split) <;> omega)))
   (try (have hji5m : 0 ≤ ji5 := by omega))
   have hji5_ : (if 70 < (l0_3.length : Int) then 70 else (l0_3.length : Int)) = ji5 := hji5
   by_cases c6 : 0 ≤ (ji5)
   ·rw [if_pos c6] at H
    have c6b0 := eq_true c6
    have c6b1 : decide (0 ≤ (ji5)) = true := decide_eq_true c6
    clear c6
    by_cases c7 : (ji5) ≤ (l0_3.length : Int)
    ·rw [if_pos c7] at H
     have c7b0 := eq_true c7
     have c7b1 : decide ((ji5) ≤ (l0_3.length : Int)) = true := decide_eq_true c7
     clear c7
     obtain ⟨y195, hy195⟩ : ∃ y_ : List ByteArray, y_ = (l0_3.take ((ji5) : Int).toNat) := ⟨_, rfl⟩
     replace H : (if 0 ≤ (mn (l0_4.length : Int) 70) then (if (mn (l0_4.length : Int) 70) ≤ (l0_4.length : Int) then (boltinglaw12_Bound.l0 k (([] : List (S35))) 0 a0_0 a0_1 y190 y195 (l0_4.take ((mn (l0_4.length : Int) 70) : Int).toNat) l0_5 a0_6 a0_7) else (none)) else (none)) = some (r1, r2, r3, r4, r5, r6, r7, r8) := by first | (rw [hy195]; with_reducible exact H) | (have H2_ := (Option.bind_some _ _).symm.trans H; rw [hy195]; with_reducible exact H2_) | (have H2_ := (Option.bind_some _ _).symm.trans H; with_reducible exact H2_) | with_reducible exact H | (rw [hy195]; exact H) | exact H
     have Ny195 := Aside0.mk hy195
     clear hy195
     obtain ⟨ji8, hji8⟩ : ∃ j_ : Int, (mn (l0_4.length : Int) 70) = j_ := ⟨_, rfl⟩
     replace H : (if 0 ≤ (ji8) then (if (ji8) ≤ (l0_4.length : Int) then (boltinglaw12_Bound.l0 k (([] : List (S35))) 0 a0_0 a0_1 y190 y195 (l0_4.take ((ji8) : Int).toNat) l0_5 a0_6 a0_7) else (none)) else (none)) = some (r1, r2, r3, r4, r5, r6, r7, r8) := by first | (rw [hji8] at H; exact H) | (simp only [hji8] at H ⊢; exact H)
     (try (have hji8h : ji8 ≤ 70 := by (rw [← hji8]; unfold mn; (repeat' split) <;> omega)))
     (try (have hji8g : ji8 ≤ 64 := by omega))
     (try (have hji8l : 0 ≤ ji8 := by (rw [← hji8]; unfold mn; (repeat' split) <;> omega)))
     (try (have hji8m : 0 ≤ ji8 := by omega))
     have hji8_ : (if 70 < (l0_4.length : Int) then 70 else (l0_4.length : Int)) = ji8 := hji8
     by_cases c9 : 0 ≤ (ji8)
     ·rw [if_pos c9] at H
      have c9b0 := eq_true c9
      have c9b1 : decide (0 ≤ (ji8)) = true := decide_eq_true c9
      clear c9
      by_cases c10 : (ji8) ≤ (l0_4.length : Int)
      ·rw [if_pos c10] at H
       have c10b0 := eq_true c10
       have c10b1 : decide ((ji8) ≤ (l0_4.length : Int)) = true := decide_eq_true c10
       clear c10
       obtain ⟨y200, hy200⟩ : ∃ y_ : List ByteArray, y_ = (l0_4.take ((ji8) : Int).toNat) := ⟨_, rfl⟩
       replace H : (boltinglaw12_Bound.l0 k (([] : List (S35))) 0 a0_0 a0_1 y190 y195 y200 l0_5 a0_6 a0_7) = some (r1, r2, r3, r4, r5, r6, r7, r8) := by first | (rw [hy200]; with_reducible exact H) | (have H2_ := (Option.bind_some _ _).symm.trans H; rw [hy200]; with_reducible exact H2_) | (have H2_ := (Option.bind_some _ _).symm.trans H; with_reducible exact H2_) | with_reducible exact H | (rw [hy200]; exact H) | exact H
       have Ny200 := Aside0.mk hy200
       clear hy200
       obtain ⟨y205, hy205⟩ : ∃ y_ : List (S35), y_ = (([] : List (S35))) := ⟨_, rfl⟩
       replace H : (boltinglaw12_Bound.l0 k y205 0 a0_0 a0_1 y190 y195 y200 l0_5 a0_6 a0_7) = some (r1, r2, r3, r4, r5, r6, r7, r8) := by first | (rw [hy205]; with_reducible exact H) | (have H2_ := (Option.bind_some _ _).symm.trans H; rw [hy205]; with_reducible exact H2_) | (have H2_ := (Option.bind_some _ _).symm.trans H; with_reducible exact H2_) | with_reducible exact H | (rw [hy205]; exact H) | exact H
       have Ny205 := Aside0.mk hy205
       clear hy205
       have H' := Aside0.mk H
       clear H
       go_enter Try.func11, Try.ntmps11
       go_wp2_with (first | ((with_reducible refine gate_dst (N := 1) rfl ?_); refine box_event ?hg (N := 1) ?hd (cs := #[.bool a0_0, .bool a0_1, .slice A0_2 l0_2.length c0_2, .slice A0_3 l0_3.length c0_3, .slice A0_4 l0_4.length c0_4, .slice A0_5 l0_5.length c0_5, .bool a0_6, .bool a0_7]) (t := 25) ?hr ?_; (case hd => rfl); (case hg => rfl); (case hr => first | (go_simp; done) | (go_simp; rfl)); intro gb188 hg w11 hbox hb; have n0_ := Aside0.mk (Kd.V_below (Kd.V_elderB (by exact HO0_2.out) gb188 (Nat.le_of_eq hg.symm)) hb); have n1_ := Aside0.mk (Kd.V_below (Kd.V_elderB (by exact HO0_3.out) gb188 (Nat.le_of_eq hg.symm)) hb); have n2_ := Aside0.mk (Kd.V_below (Kd.V_elderB (by exact HO0_4.out) gb188 (Nat.le_of_eq hg.symm)) hb); have n3_ := Aside0.mk (Kd.V_below (Kd.V_elderB (by exact HO0_5.out) gb188 (Nat.le_of_eq hg.symm)) hb); have n4_ := Aside0.mk (below_step (by repeat (first | (with_reducible first | exact HB.out | apply below_alloc | apply pw_below_drewN | apply below_drew1) | exact HB.out)) hb); have n5_ := Aside0.mk (hbox); have n6_ := Aside0.mk ((by rw [hg]; exact (below_size (by repeat (first | (with_reducible first | exact HB.out | apply below_alloc | apply pw_below_drewN | apply below_drew1) | exact HB.out))) : w.heap.size ≤ gb188)); have n7_ := Aside0.mk ((by rw [hg]; exact (below_size (by repeat (first | (with_reducible first | exact HB.out | apply below_alloc | apply pw_below_drewN | apply below_drew1) | exact HB.out))) : w.heap.size ≤ gb188)); clear HO0_2; clear HO0_3; clear HO0_4; clear HO0_5; clear HB; have HO0_2 := n0_; have HO0_3 := n1_; have HO0_4 := n2_; have HO0_5 := n3_; have HB := n4_; have BK188 := n5_; have GW188 := n6_; have GE188 := n7_; clear n0_ n1_ n2_ n3_ n4_ n5_ n6_ n7_; clear hb hbox hg) | ((with_reducible refine gate_dst (N := 2) rfl ?_); refine box_event ?hg (N := 2) ?hd (cs := #[.bool false, .bool false, .slice none 0 0, .slice none 0 0, .slice none 0 0, .slice none 0 0, .bool false, .bool false]) (t := 25) ?hr ?_; (case hd => rfl); (case hg => rfl); (case hr => first | (go_simp; done) | (go_simp; rfl)); intro gb189 hg w12 hbox hb; have n0_ := Aside0.mk (Kd.V_below (Kd.V_elderB (by exact HO0_2.out) gb189 (Nat.le_of_eq hg.symm)) hb); have n1_ := Aside0.mk (Kd.V_below (Kd.V_elderB (by exact HO0_3.out) gb189 (Nat.le_of_eq hg.symm)) hb); have n2_ := Aside0.mk (Kd.V_below (Kd.V_elderB (by exact HO0_4.out) gb189 (Nat.le_of_eq hg.symm)) hb); have n3_ := Aside0.mk (Kd.V_below (Kd.V_elderB (by exact HO0_5.out) gb189 (Nat.le_of_eq hg.symm)) hb); have n4_ := Aside0.mk (blk_below (g := gb188) (o := .cells #[.bool a0_0, .bool a0_1, .slice A0_2 l0_2.length c0_2, .slice A0_3 l0_3.length c0_3, .slice A0_4 l0_4.length c0_4, .slice A0_5 l0_5.length c0_5, .bool a0_6, .bool a0_7] 25 (0, 0)) (by exact BK188.out) hb); have n5_ := Aside0.mk (below_step (by repeat (first | (with_reducible first | exact HB.out | apply below_alloc | apply pw_below_drewN | apply below_drew1 | refine below_set ?_ GE188.out) | exact HB.out)) hb); have n6_ := Aside0.mk (hbox); have n7_ := Aside0.mk ((by rw [hg]; exact (below_size (by repeat (first | (with_reducible first | exact HB.out | apply below_alloc | apply pw_below_drewN | apply below_drew1 | refine below_set ?_ GE188.out) | exact HB.out))) : w.heap.size ≤ gb189)); have n8_ := Aside0.mk ((by rw [hg]; exact (below_size (by repeat (first | (with_reducible first | exact HB.out | apply below_alloc | apply pw_below_drewN | apply below_drew1 | refine below_set ?_ GE188.out) | exact HB.out))) : w.heap.size ≤ gb189)); have n9_ := Aside0.mk ((by rw [hg]; exact Nat.ne_of_lt (blk_lt (g := gb188) (o := .cells #[.bool a0_0, .bool a0_1, .slice A0_2 l0_2.length c0_2, .slice A0_3 l0_3.length c0_3, .slice A0_4 l0_4.length c0_4, .slice A0_5 l0_5.length c0_5, .bool a0_6, .bool a0_7] 25 (0, 0)) (by exact BK188.out)) : gb188 ≠ gb189)); have n10_ := Aside0.mk ((by rw [hg]; exact Nat.ne_of_gt (blk_lt (g := gb188) (o := .cells #[.bool a0_0, .bool a0_1, .slice A0_2 l0_2.length c0_2, .slice A0_3 l0_3.length c0_3, .slice A0_4 l0_4.length c0_4, .slice A0_5 l0_5.length c0_5, .bool a0_6, .bool a0_7] 25 (0, 0)) (by exact BK188.out)) : gb189 ≠ gb188)); clear HO0_2; clear HO0_3; clear HO0_4; clear HO0_5; clear BK188; clear HB; have HO0_2 := n0_; have HO0_3 := n1_; have HO0_4 := n2_; have HO0_5 := n3_; have BK188 := n4_; have HB := n5_; have BK189 := n6_; have GW189 := n7_; have GE189 := n8_; have NB188_189 := n9_; have NB189_188 := n10_; clear n0_ n1_ n2_ n3_ n4_ n5_ n6_ n7_ n8_ n9_ n10_; clear hb hbox hg; have hnb13 := NB188_189.out; have hnc13 := NB189_188.out; have hcz14_0 : w12.cell? ⟨gb188, 0, none⟩ = some (.bool a0_0) := (blk_cell BK188.out 0).trans rfl; have hcz14_1 : w12.cell? ⟨gb188, 1, none⟩ = some (.bool a0_1) := (blk_cell BK188.out 1).trans rfl; have hcz14_2 : w12.cell? ⟨gb188, 2, none⟩ = some (.slice A0_2 l0_2.length c0_2) := (blk_cell BK188.out 2).trans rfl; have hcz14_3 : w12.cell? ⟨gb188, 3, none⟩ = some (.slice A0_3 l0_3.length c0_3) := (blk_cell BK188.out 3).trans rfl; have hcz14_4 : w12.cell? ⟨gb188, 4, none⟩ = some (.slice A0_4 l0_4.length c0_4) := (blk_cell BK188.out 4).trans rfl; have hcz14_5 : w12.cell? ⟨gb188, 5, none⟩ = some (.slice A0_5 l0_5.length c0_5) := (blk_cell BK188.out 5).trans rfl; have hcz14_6 : w12.cell? ⟨gb188, 6, none⟩ = some (.bool a0_6) := (blk_cell BK188.out 6).trans rfl; have hcz14_7 : w12.cell? ⟨gb188, 7, none⟩ = some (.bool a0_7) := (blk_cell BK188.out 7).trans rfl; have hfz14_0 := blk_frozen BK188.out 0; have hfz14_1 := blk_frozen BK188.out 1; have hfz14_2 := blk_frozen BK188.out 2; have hfz14_3 := blk_frozen BK188.out 3; have hfz14_4 := blk_frozen BK188.out 4; have hfz14_5 := blk_frozen BK188.out 5; have hfz14_6 := blk_frozen BK188.out 6; have hfz14_7 := blk_frozen BK188.out 7; have q15 : ((ji2) : Int) ≤ ((l0_2.length : Int) : Int) := of_decide_eq_true (by first | (with_reducible assumption) | assumption); obtain ⟨i015, hi015, _, hsz15, _⟩ := info_parts info9; have hroom15 : l0_2.length ≤ c0_2 := (Kd.V_reads' HO0_2.out).2.1; have hC15 : Kd.F Kd.string _ _ A0_2 l0_2.length l0_2 := (Kd.V_at (base := w.heap.size) HO0_2.out).2.2; have hcut15 := cut_to (P := Try.prog) 22 9 .i64 Try.underlying22 hi015 A0_2 l0_2.length c0_2 (ji2) (of_decide_eq_true (by first | (with_reducible assumption) | assumption)) q15 hroom15; have hr15 := Kd.F_take (m := ((ji2) : Int).toNat) hC15 (by omega); have hy15 : y190.length = ((ji2) : Int).toNat := (by rw [Ny190.out, List.length_take]; omega); rw [← Ny190.out] at hr15; rw [← hy15] at hcut15; have HO194 := Aside0.mk (show Kd.V Kd.string 9 _ w.heap.size _ (.slice A0_2 y190.length c0_2) y190 from Kd.V_mk (by omega) hr15); have HC194 := Aside0.mk (show y190.length ≤ c0_2 from by omega); clear hr15 hC15 hroom15 hi015 hsz15; have KY15 := Aside0.mk hy15; clear hy15; replace q15 := eq_true q15) | ((with_reducible refine gate_store (t := 22) (p := 12) rfl ?_); refine store_event (t := 22) (p := 12) (v := ?vo_w16) (w1 := (w12.setCell ⟨gb188, 2, none⟩ (.slice A0_2 y190.length c0_2))) ?hg ?ho ?hn ?hr ?_; (case ho => rfl); (case hg => rfl); (case hn => rfl); (case hr => first | (go_simp; done) | (go_simp; rfl)); intro w16 hw; have n0_ : Aside0 (Kd.V Kd.string 9 w16 w.heap.size (fun k_ => ((P0_2_ k_ ∨ P0_3_ k_ ∨ P0_4_ k_ ∨ P0_5_ k_) ∨ w.heap.size ≤ k_) ∧ k_ ≠ gb188 ∧ k_ ≠ gb189) (.slice A0_2 l0_2.length c0_2) l0_2) := ⟨(by rw [hw]; exact (by exact Kd.V_mono (Kd.V_far (p := ⟨gb188, 2, none⟩) (Kd.V_mono HO0_2.out (fun k_ hk => (⟨hk, hk.1.2⟩ : _ ∧ k_ ≠ gb188))) (fun _ hk => hk.2) (.slice A0_2 y190.length c0_2)) (fun _ hk => ⟨hk.1.1.1, ⟨hk.1.1.2, hk.1.2⟩⟩)))⟩; have n1_ : Aside0 (Kd.V Kd.string 9 w16 w.heap.size (fun k_ => ((P0_2_ k_ ∨ P0_3_ k_ ∨ P0_4_ k_ ∨ P0_5_ k_) ∨ w.heap.size ≤ k_) ∧ k_ ≠ gb188 ∧ k_ ≠ gb189) (.slice A0_3 l0_3.length c0_3) l0_3) := ⟨(by rw [hw]; exact (by exact Kd.V_mono (Kd.V_far (p := ⟨gb188, 2, none⟩) (Kd.V_mono HO0_3.out (fun k_ hk => (⟨hk, hk.1.2⟩ : _ ∧ k_ ≠ gb188))) (fun _ hk => hk.2) (.slice A0_2 y190.length c0_2)) (fun _ hk => ⟨hk.1.1.1, ⟨hk.1.1.2, hk.1.2⟩⟩)))⟩; have n2_ : Aside0 (Kd.V Kd.string 9 w16 w.heap.size (fun k_ => ((P0_2_ k_ ∨ P0_3_ k_ ∨ P0_4_ k_ ∨ P0_5_ k_) ∨ w.heap.size ≤ k_) ∧ k_ ≠ gb188 ∧ k_ ≠ gb189) (.slice A0_4 l0_4.length c0_4) l0_4) := ⟨(by rw [hw]; exact (by exact Kd.V_mono (Kd.V_far (p := ⟨gb188, 2, none⟩) (Kd.V_mono HO0_4.out (fun k_ hk => (⟨hk, hk.1.2⟩ : _ ∧ k_ ≠ gb188))) (fun _ hk => hk.2) (.slice A0_2 y190.length c0_2)) (fun _ hk => ⟨hk.1.1.1, ⟨hk.1.1.2, hk.1.2⟩⟩)))⟩; have n3_ : Aside0 (Kd.V k35 35 w16 w.heap.size (fun k_ => ((P0_2_ k_ ∨ P0_3_ k_ ∨ P0_4_ k_ ∨ P0_5_ k_) ∨ w.heap.size ≤ k_) ∧ k_ ≠ gb188 ∧ k_ ≠ gb189) (.slice A0_5 l0_5.length c0_5) l0_5) := ⟨(by rw [hw]; exact (by exact Kd.V_mono (Kd.V_far (p := ⟨gb188, 2, none⟩) (Kd.V_mono HO0_5.out (fun k_ hk => (⟨hk, hk.1.2⟩ : _ ∧ k_ ≠ gb188))) (fun _ hk => hk.2) (.slice A0_2 y190.length c0_2)) (fun _ hk => ⟨hk.1.1.1, ⟨hk.1.1.2, hk.1.2⟩⟩)))⟩; have n4_ : Aside0 (Kd.V Kd.string 9 w16 w.heap.size (fun k_ => ((P0_2_ k_ ∨ P0_3_ k_ ∨ P0_4_ k_ ∨ P0_5_ k_) ∨ w.heap.size ≤ k_) ∧ k_ ≠ gb188 ∧ k_ ≠ gb189) (.slice A0_2 y190.length c0_2) y190) := ⟨(by rw [hw]; exact (by exact Kd.V_mono (Kd.V_far (p := ⟨gb188, 2, none⟩) (Kd.V_mono HO194.out (fun k_ hk => (⟨hk, hk.1.2⟩ : _ ∧ k_ ≠ gb188))) (fun _ hk => hk.2) (.slice A0_2 y190.length c0_2)) (fun _ hk => ⟨hk.1.1.1, ⟨hk.1.1.2, hk.1.2⟩⟩)))⟩; have n5_ : Aside0 (w16.heap[gb188]? = some (.cells #[.bool a0_0, .bool a0_1, .slice A0_2 y190.length c0_2, .slice A0_3 l0_3.length c0_3, .slice A0_4 l0_4.length c0_4, .slice A0_5 l0_5.length c0_5, .bool a0_6, .bool a0_7] 25 (0, 0))) := ⟨(by rw [hw]; exact (by refine blk_put (cs := #[.bool a0_0, .bool a0_1, .slice A0_2 l0_2.length c0_2, .slice A0_3 l0_3.length c0_3, .slice A0_4 l0_4.length c0_4, .slice A0_5 l0_5.length c0_5, .bool a0_6, .bool a0_7]) ?_ 2 _ rfl; exact BK188.out))⟩; have n6_ : Aside0 (w16.heap[gb189]? = some (.cells #[.bool false, .bool false, .slice none 0 0, .slice none 0 0, .slice none 0 0, .slice none 0 0, .bool false, .bool false] 25 (0, 0))) := ⟨(by rw [hw]; exact (by refine blk_far ?_ NB189_188.out _; exact BK189.out))⟩; have n7_ : Aside0 (Below w.heap.size w w16) := ⟨(by rw [hw]; exact (by repeat (first | (with_reducible first | exact HB.out | apply below_alloc | apply pw_below_drewN | apply below_drew1 | refine below_set ?_ GE188.out | refine below_set ?_ GE189.out) | exact HB.out)))⟩; clear hw; clear HO0_2; clear HO0_3; clear HO0_4; clear HO0_5; clear HO194; clear BK188; clear BK189; clear HB; have HO0_2 := n0_; have HO0_3 := n1_; have HO0_4 := n2_; have HO0_5 := n3_; have HO194 := n4_; have BK188 := n5_; have BK189 := n6_; have HB := n7_; clear n0_ n1_ n2_ n3_ n4_ n5_ n6_ n7_; have hcz17_0 : w16.cell? ⟨gb188, 0, none⟩ = some (.bool a0_0) := (blk_cell BK188.out 0).trans rfl; have hcz17_1 : w16.cell? ⟨gb188, 1, none⟩ = some (.bool a0_1) := (blk_cell BK188.out 1).trans rfl; have hcz17_2 : w16.cell? ⟨gb188, 2, none⟩ = some (.slice A0_2 y190.length c0_2) := (blk_cell BK188.out 2).trans rfl; have hcz17_3 : w16.cell? ⟨gb188, 3, none⟩ = some (.slice A0_3 l0_3.length c0_3) := (blk_cell BK188.out 3).trans rfl; have hcz17_4 : w16.cell? ⟨gb188, 4, none⟩ = some (.slice A0_4 l0_4.length c0_4) := (blk_cell BK188.out 4).trans rfl; have hcz17_5 : w16.cell? ⟨gb188, 5, none⟩ = some (.slice A0_5 l0_5.length c0_5) := (blk_cell BK188.out 5).trans rfl; have hcz17_6 : w16.cell? ⟨gb188, 6, none⟩ = some (.bool a0_6) := (blk_cell BK188.out 6).trans rfl; have hcz17_7 : w16.cell? ⟨gb188, 7, none⟩ = some (.bool a0_7) := (blk_cell BK188.out 7).trans rfl; have hfz17_0 := blk_frozen BK188.out 0; have hfz17_1 := blk_frozen BK188.out 1; have hfz17_2 := blk_frozen BK188.out 2; have hfz17_3 := blk_frozen BK188.out 3; have hfz17_4 := blk_frozen BK188.out 4; have hfz17_5 := blk_frozen BK188.out 5; have hfz17_6 := blk_frozen BK188.out 6; have hfz17_7 := blk_frozen BK188.out 7; have q18 : ((ji5) : Int) ≤ ((l0_3.length : Int) : Int) := of_decide_eq_true (by first | (with_reducible assumption) | assumption); obtain ⟨i018, hi018, _, hsz18, _⟩ := info_parts info9; have hroom18 : l0_3.length ≤ c0_3 := (Kd.V_reads' HO0_3.out).2.1; have hC18 : Kd.F Kd.string _ _ A0_3 l0_3.length l0_3 := (Kd.V_at (base := w.heap.size) HO0_3.out).2.2; have hcut18 := cut_to (P := Try.prog) 22 9 .i64 Try.underlying22 hi018 A0_3 l0_3.length c0_3 (ji5) (of_decide_eq_true (by first | (with_reducible assumption) | assumption)) q18 hroom18; have hr18 := Kd.F_take (m := ((ji5) : Int).toNat) hC18 (by omega); have hy18 : y195.length = ((ji5) : Int).toNat := (by rw [Ny195.out, List.length_take]; omega); rw [← Ny195.out] at hr18; rw [← hy18] at hcut18; have HO199 := Aside0.mk (show Kd.V Kd.string 9 _ w.heap.size _ (.slice A0_3 y195.length c0_3) y195 from Kd.V_mk (by omega) hr18); have HC199 := Aside0.mk (show y195.length ≤ c0_3 from by omega); clear hr18 hC18 hroom18 hi018 hsz18; have KY18 := Aside0.mk hy18; clear hy18; replace q18 := eq_true q18) | ((with_reducible refine gate_store (t := 22) (p := 20) rfl ?_); refine store_event (t := 22) (p := 20) (v := ?vo_w19) (w1 := (w16.setCell ⟨gb188, 3, none⟩ (.slice A0_3 y195.length c0_3))) ?hg ?ho ?hn ?hr ?_; (case ho => rfl); (case hg => rfl); (case hn => rfl); (case hr => first | (go_simp; done) | (go_simp; rfl)); intro w19 hw; have n0_ : Aside0 (Kd.V Kd.string 9 w19 w.heap.size (fun k_ => ((P0_2_ k_ ∨ P0_3_ k_ ∨ P0_4_ k_ ∨ P0_5_ k_) ∨ w.heap.size ≤ k_) ∧ k_ ≠ gb188 ∧ k_ ≠ gb189) (.slice A0_2 l0_2.length c0_2) l0_2) := ⟨(by rw [hw]; exact (by exact Kd.V_mono (Kd.V_far (p := ⟨gb188, 3, none⟩) (Kd.V_mono HO0_2.out (fun k_ hk => (⟨hk, hk.2.1⟩ : _ ∧ k_ ≠ gb188))) (fun _ hk => hk.2) (.slice A0_3 y195.length c0_3)) (fun _ hk => ⟨hk.1.1, ⟨hk.1.2.1, hk.1.2.2⟩⟩)))⟩; have n1_ : Aside0 (Kd.V Kd.string 9 w19 w.heap.size (fun k_ => ((P0_2_ k_ ∨ P0_3_ k_ ∨ P0_4_ k_ ∨ P0_5_ k_) ∨ w.heap.size ≤ k_) ∧ k_ ≠ gb188 ∧ k_ ≠ gb189) (.slice A0_3 l0_3.length c0_3) l0_3) := ⟨(by rw [hw]; exact (by exact Kd.V_mono (Kd.V_far (p := ⟨gb188, 3, none⟩) (Kd.V_mono HO0_3.out (fun k_ hk => (⟨hk, hk.2.1⟩ : _ ∧ k_ ≠ gb188))) (fun _ hk => hk.2) (.slice A0_3 y195.length c0_3)) (fun _ hk => ⟨hk.1.1, ⟨hk.1.2.1, hk.1.2.2⟩⟩)))⟩; have n2_ : Aside0 (Kd.V Kd.string 9 w19 w.heap.size (fun k_ => ((P0_2_ k_ ∨ P0_3_ k_ ∨ P0_4_ k_ ∨ P0_5_ k_) ∨ w.heap.size ≤ k_) ∧ k_ ≠ gb188 ∧ k_ ≠ gb189) (.slice A0_4 l0_4.length c0_4) l0_4) := ⟨(by rw [hw]; exact (by exact Kd.V_mono (Kd.V_far (p := ⟨gb188, 3, none⟩) (Kd.V_mono HO0_4.out (fun k_ hk => (⟨hk, hk.2.1⟩ : _ ∧ k_ ≠ gb188))) (fun _ hk => hk.2) (.slice A0_3 y195.length c0_3)) (fun _ hk => ⟨hk.1.1, ⟨hk.1.2.1, hk.1.2.2⟩⟩)))⟩; have n3_ : Aside0 (Kd.V k35 35 w19 w.heap.size (fun k_ => ((P0_2_ k_ ∨ P0_3_ k_ ∨ P0_4_ k_ ∨ P0_5_ k_) ∨ w.heap.size ≤ k_) ∧ k_ ≠ gb188 ∧ k_ ≠ gb189) (.slice A0_5 l0_5.length c0_5) l0_5) := ⟨(by rw [hw]; exact (by exact Kd.V_mono (Kd.V_far (p := ⟨gb188, 3, none⟩) (Kd.V_mono HO0_5.out (fun k_ hk => (⟨hk, hk.2.1⟩ : _ ∧ k_ ≠ gb188))) (fun _ hk => hk.2) (.slice A0_3 y195.length c0_3)) (fun _ hk => ⟨hk.1.1, ⟨hk.1.2.1, hk.1.2.2⟩⟩)))⟩; have n4_ : Aside0 (Kd.V Kd.string 9 w19 w.heap.size (fun k_ => ((P0_2_ k_ ∨ P0_3_ k_ ∨ P0_4_ k_ ∨ P0_5_ k_) ∨ w.heap.size ≤ k_) ∧ k_ ≠ gb188 ∧ k_ ≠ gb189) (.slice A0_2 y190.length c0_2) y190) := ⟨(by rw [hw]; exact (by exact Kd.V_mono (Kd.V_far (p := ⟨gb188, 3, none⟩) (Kd.V_mono HO194.out (fun k_ hk => (⟨hk, hk.2.1⟩ : _ ∧ k_ ≠ gb188))) (fun _ hk => hk.2) (.slice A0_3 y195.length c0_3)) (fun _ hk => ⟨hk.1.1, ⟨hk.1.2.1, hk.1.2.2⟩⟩)))⟩; have n5_ : Aside0 (Kd.V Kd.string 9 w19 w.heap.size (fun k_ => ((P0_2_ k_ ∨ P0_3_ k_ ∨ P0_4_ k_ ∨ P0_5_ k_) ∨ w.heap.size ≤ k_) ∧ k_ ≠ gb188 ∧ k_ ≠ gb189) (.slice A0_3 y195.length c0_3) y195) := ⟨(by rw [hw]; exact (by exact Kd.V_mono (Kd.V_far (p := ⟨gb188, 3, none⟩) (Kd.V_mono HO199.out (fun k_ hk => (⟨hk, hk.2.1⟩ : _ ∧ k_ ≠ gb188))) (fun _ hk => hk.2) (.slice A0_3 y195.length c0_3)) (fun _ hk => ⟨hk.1.1, ⟨hk.1.2.1, hk.1.2.2⟩⟩)))⟩; have n6_ : Aside0 (w19.heap[gb188]? = some (.cells #[.bool a0_0, .bool a0_1, .slice A0_2 y190.length c0_2, .slice A0_3 y195.length c0_3, .slice A0_4 l0_4.length c0_4, .slice A0_5 l0_5.length c0_5, .bool a0_6, .bool a0_7] 25 (0, 0))) := ⟨(by rw [hw]; exact (by refine blk_put (cs := #[.bool a0_0, .bool a0_1, .slice A0_2 y190.length c0_2, .slice A0_3 l0_3.length c0_3, .slice A0_4 l0_4.length c0_4, .slice A0_5 l0_5.length c0_5, .bool a0_6, .bool a0_7]) ?_ 3 _ rfl; exact BK188.out))⟩; have n7_ : Aside0 (w19.heap[gb189]? = some (.cells #[.bool false, .bool false, .slice none 0 0, .slice none 0 0, .slice none 0 0, .slice none 0 0, .bool false, .bool false] 25 (0, 0))) := ⟨(by rw [hw]; exact (by refine blk_far ?_ NB189_188.out _; exact BK189.out))⟩; have n8_ : Aside0 (Below w.heap.size w w19) := ⟨(by rw [hw]; exact (by repeat (first | (with_reducible first | exact HB.out | apply below_alloc | apply pw_below_drewN | apply below_drew1 | refine below_set ?_ GE188.out | refine below_set ?_ GE189.out) | exact HB.out)))⟩; clear hw; clear HO0_2; clear HO0_3; clear HO0_4; clear HO0_5; clear HO194; clear HO199; clear BK188; clear BK189; clear HB; have HO0_2 := n0_; have HO0_3 := n1_; have HO0_4 := n2_; have HO0_5 := n3_; have HO194 := n4_; have HO199 := n5_; have BK188 := n6_; have BK189 := n7_; have HB := n8_; clear n0_ n1_ n2_ n3_ n4_ n5_ n6_ n7_ n8_; have hcz20_0 : w19.cell? ⟨gb188, 0, none⟩ = some (.bool a0_0) := (blk_cell BK188.out 0).trans rfl; have hcz20_1 : w19.cell? ⟨gb188, 1, none⟩ = some (.bool a0_1) := (blk_cell BK188.out 1).trans rfl; have hcz20_2 : w19.cell? ⟨gb188, 2, none⟩ = some (.slice A0_2 y190.length c0_2) := (blk_cell BK188.out 2).trans rfl; have hcz20_3 : w19.cell? ⟨gb188, 3, none⟩ = some (.slice A0_3 y195.length c0_3) := (blk_cell BK188.out 3).trans rfl; have hcz20_4 : w19.cell? ⟨gb188, 4, none⟩ = some (.slice A0_4 l0_4.length c0_4) := (blk_cell BK188.out 4).trans rfl; have hcz20_5 : w19.cell? ⟨gb188, 5, none⟩ = some (.slice A0_5 l0_5.length c0_5) := (blk_cell BK188.out 5).trans rfl; have hcz20_6 : w19.cell? ⟨gb188, 6, none⟩ = some (.bool a0_6) := (blk_cell BK188.out 6).trans rfl; have hcz20_7 : w19.cell? ⟨gb188, 7, none⟩ = some (.bool a0_7) := (blk_cell BK188.out 7).trans rfl; have hfz20_0 := blk_frozen BK188.out 0; have hfz20_1 := blk_frozen BK188.out 1; have hfz20_2 := blk_frozen BK188.out 2; have hfz20_3 := blk_frozen BK188.out 3; have hfz20_4 := blk_frozen BK188.out 4; have hfz20_5 := blk_frozen BK188.out 5; have hfz20_6 := blk_frozen BK188.out 6; have hfz20_7 := blk_frozen BK188.out 7; have q21 : ((ji8) : Int) ≤ ((l0_4.length : Int) : Int) := of_decide_eq_true (by first | (with_reducible assumption) | assumption); obtain ⟨i021, hi021, _, hsz21, _⟩ := info_parts info9; have hroom21 : l0_4.length ≤ c0_4 := (Kd.V_reads' HO0_4.out).2.1; have hC21 : Kd.F Kd.string _ _ A0_4 l0_4.length l0_4 := (Kd.V_at (base := w.heap.size) HO0_4.out).2.2; have hcut21 := cut_to (P := Try.prog) 22 9 .i64 Try.underlying22 hi021 A0_4 l0_4.length c0_4 (ji8) (of_decide_eq_true (by first | (with_reducible assumption) | assumption)) q21 hroom21; have hr21 := Kd.F_take (m := ((ji8) : Int).toNat) hC21 (by omega); have hy21 : y200.length = ((ji8) : Int).toNat := (by rw [Ny200.out, List.length_take]; omega); rw [← Ny200.out] at hr21; rw [← hy21] at hcut21; have HO204 := Aside0.mk (show Kd.V Kd.string 9 _ w.heap.size _ (.slice A0_4 y200.length c0_4) y200 from Kd.V_mk (by omega) hr21); have HC204 := Aside0.mk (show y200.length ≤ c0_4 from by omega); clear hr21 hC21 hroom21 hi021 hsz21; have KY21 := Aside0.mk hy21; clear hy21; replace q21 := eq_true q21) | ((with_reducible refine gate_dst (N := 29) rfl ?_); refine Kd.N_lit k35 _ 35 ?hg (N' := 29) ?hd (xs := ([] : List (S35))) (inner := []) (ok := (fun k_ => ((P0_2_ k_ ∨ P0_3_ k_ ∨ P0_4_ k_ ∨ P0_5_ k_) ∨ w.heap.size ≤ k_) ∧ k_ ≠ gb188 ∧ k_ ≠ gb189)) (okp := (fun k_ => ((P0_2_ k_ ∨ P0_3_ k_ ∨ P0_4_ k_ ∨ P0_5_ k_) ∨ w.heap.size ≤ k_) ∧ k_ ≠ gb188 ∧ k_ ≠ gb189)) ?hr ?hp (fun _ hk => hk) ((show ∀ k_, w19.heap.size ≤ k_ → (fun k_ => ((P0_2_ k_ ∨ P0_3_ k_ ∨ P0_4_ k_ ∨ P0_5_ k_) ∨ w.heap.size ≤ k_) ∧ k_ ≠ gb188 ∧ k_ ≠ gb189) k_ from fun k_ hk => ⟨(.inr (Nat.le_trans (below_size (by repeat (first | (with_reducible first | exact HB.out | apply below_alloc | apply pw_below_drewN | apply below_drew1 | refine below_set ?_ GE188.out | refine below_set ?_ GE189.out) | exact HB.out))) hk)), Kd.freshB (g := gb188) BK188.out k_ hk, Kd.freshB (g := gb189) BK189.out k_ hk⟩) _ (by first | exact Nat.le_refl _ | exact Nat.le_of_eq (World.size_setCell ..).symm)) (Below.refl _ _) (Nat.le_refl _) (by simp) ?_; (case hd => rfl); (case hg => rfl); (case hr => first | (go_simp; done) | (go_simp; rfl)); (case hp => exact (Reps.none _ _)); intro v206 w22 ho23 hb hg_ hnew_; clear hg_ hnew_; (first | rw [← Ny205.out] at ho23 | (simp only [Int.reduceToNat] at ho23; rw [← Ny205.out] at ho23)); have n0_ := Aside0.mk (Kd.V_elder' (by exact (Kd.V_mono (Kd.V_far (p := ⟨gb188, 4, none⟩) (Kd.V_mono HO0_2.out (fun k_ hk => (⟨hk, hk.2.1⟩ : _ ∧ k_ ≠ gb188))) (fun _ hk => hk.2) (.slice A0_4 y200.length c0_4)) (fun _ h_ => h_.1))) (Kd.N_base ho23) hb); have n1_ := Aside0.mk (Kd.V_elder' (by exact (Kd.V_mono (Kd.V_far (p := ⟨gb188, 4, none⟩) (Kd.V_mono HO0_3.out (fun k_ hk => (⟨hk, hk.2.1⟩ : _ ∧ k_ ≠ gb188))) (fun _ hk => hk.2) (.slice A0_4 y200.length c0_4)) (fun _ h_ => h_.1))) (Kd.N_base ho23) hb); have n2_ := Aside0.mk (Kd.V_elder' (by exact (Kd.V_mono (Kd.V_far (p := ⟨gb188, 4, none⟩) (Kd.V_mono HO0_4.out (fun k_ hk => (⟨hk, hk.2.1⟩ : _ ∧ k_ ≠ gb188))) (fun _ hk => hk.2) (.slice A0_4 y200.length c0_4)) (fun _ h_ => h_.1))) (Kd.N_base ho23) hb); have n3_ := Aside0.mk (Kd.V_elder' (by exact (Kd.V_mono (Kd.V_far (p := ⟨gb188, 4, none⟩) (Kd.V_mono HO0_5.out (fun k_ hk => (⟨hk, hk.2.1⟩ : _ ∧ k_ ≠ gb188))) (fun _ hk => hk.2) (.slice A0_4 y200.length c0_4)) (fun _ h_ => h_.1))) (Kd.N_base ho23) hb); have n4_ := Aside0.mk (Kd.V_elder' (by exact (Kd.V_mono (Kd.V_far (p := ⟨gb188, 4, none⟩) (Kd.V_mono HO194.out (fun k_ hk => (⟨hk, hk.2.1⟩ : _ ∧ k_ ≠ gb188))) (fun _ hk => hk.2) (.slice A0_4 y200.length c0_4)) (fun _ h_ => h_.1))) (Kd.N_base ho23) hb); have n5_ := Aside0.mk (Kd.V_elder' (by exact (Kd.V_mono (Kd.V_far (p := ⟨gb188, 4, none⟩) (Kd.V_mono HO199.out (fun k_ hk => (⟨hk, hk.2.1⟩ : _ ∧ k_ ≠ gb188))) (fun _ hk => hk.2) (.slice A0_4 y200.length c0_4)) (fun _ h_ => h_.1))) (Kd.N_base ho23) hb); have n6_ := Aside0.mk (Kd.V_elder' (by exact (Kd.V_mono (Kd.V_far (p := ⟨gb188, 4, none⟩) (Kd.V_mono HO204.out (fun k_ hk => (⟨hk, hk.2.1⟩ : _ ∧ k_ ≠ gb188))) (fun _ hk => hk.2) (.slice A0_4 y200.length c0_4)) (fun _ h_ => h_.1))) (Kd.N_base ho23) hb); have n7_ := Aside0.mk (Kd.N_lower ho23 (below_size (by repeat (first | (with_reducible first | exact HB.out | apply below_alloc | apply pw_below_drewN | apply below_drew1 | refine below_set ?_ GE188.out | refine below_set ?_ GE189.out) | exact HB.out)))); have n8_ := Aside0.mk (blk_below (g := gb188) (o := .cells #[.bool a0_0, .bool a0_1, .slice A0_2 y190.length c0_2, .slice A0_3 y195.length c0_3, .slice A0_4 y200.length c0_4, .slice A0_5 l0_5.length c0_5, .bool a0_6, .bool a0_7] 25 (0, 0)) (by refine blk_put (cs := #[.bool a0_0, .bool a0_1, .slice A0_2 y190.length c0_2, .slice A0_3 y195.length c0_3, .slice A0_4 l0_4.length c0_4, .slice A0_5 l0_5.length c0_5, .bool a0_6, .bool a0_7]) ?_ 4 _ rfl; exact BK188.out) hb); have n9_ := Aside0.mk (blk_below (g := gb189) (o := .cells #[.bool false, .bool false, .slice none 0 0, .slice none 0 0, .slice none 0 0, .slice none 0 0, .bool false, .bool false] 25 (0, 0)) (by refine blk_far ?_ NB189_188.out _; exact BK189.out) hb); have n10_ := Aside0.mk (below_step (by repeat (first | (with_reducible first | exact HB.out | apply below_alloc | apply pw_below_drewN | apply below_drew1 | refine below_set ?_ GE188.out | refine below_set ?_ GE189.out) | exact HB.out)) hb); clear HO0_2; clear HO0_3; clear HO0_4; clear HO0_5; clear HO194; clear HO199; clear HO204; clear BK188; clear BK189; clear HB; have HO0_2 := n0_; have HO0_3 := n1_; have HO0_4 := n2_; have HO0_5 := n3_; have HO194 := n4_; have HO199 := n5_; have HO204 := n6_; have HO207 := n7_; have BK188 := n8_; have BK189 := n9_; have HB := n10_; clear n0_ n1_ n2_ n3_ n4_ n5_ n6_ n7_ n8_ n9_ n10_; clear hb ho23))
       go_loopg [3, 4] k (fun kq v3 v4 w' => ∃ (x3_1 : List (S35)) (x4_1 : Int), v4 = .int .i64 x4_1 ∧ Aside0 (boltinglaw12_Bound.l0 kq x3_1 x4_1 a0_0 a0_1 y190 y195 y200 l0_5 a0_6 a0_7 = some (r1, r2, r3, r4, r5, r6, r7, r8)) ∧ Aside0 (kq ≤ k) ∧ Aside0 (Kd.N k35 35 w' w.heap.size (fun k_ => ((P0_2_ k_ ∨ P0_3_ k_ ∨ P0_4_ k_ ∨ P0_5_ k_) ∨ w.heap.size ≤ k_) ∧ k_ ≠ gb188 ∧ k_ ≠ gb189) v3 x3_1) ∧ Aside0 (Kd.V Kd.string 9 w' w.heap.size (fun k_ => ((P0_2_ k_ ∨ P0_3_ k_ ∨ P0_4_ k_ ∨ P0_5_ k_) ∨ w.heap.size ≤ k_) ∧ some k_ ≠ (v3 : Value).ownBlock ∧ k_ ≠ gb188 ∧ k_ ≠ gb189) (.slice A0_2 y190.length c0_2) y190) ∧ Aside0 (Kd.V Kd.string 9 w' w.heap.size (fun k_ => ((P0_2_ k_ ∨ P0_3_ k_ ∨ P0_4_ k_ ∨ P0_5_ k_) ∨ w.heap.size ≤ k_) ∧ some k_ ≠ (v3 : Value).ownBlock ∧ k_ ≠ gb188 ∧ k_ ≠ gb189) (.slice A0_3 y195.length c0_3) y195) ∧ Aside0 (Kd.V Kd.string 9 w' w.heap.size (fun k_ => ((P0_2_ k_ ∨ P0_3_ k_ ∨ P0_4_ k_ ∨ P0_5_ k_) ∨ w.heap.size ≤ k_) ∧ some k_ ≠ (v3 : Value).ownBlock ∧ k_ ≠ gb188 ∧ k_ ≠ gb189) (.slice A0_4 y200.length c0_4) y200) ∧ Aside0 (Kd.V k35 35 w' w.heap.size (fun k_ => ((P0_2_ k_ ∨ P0_3_ k_ ∨ P0_4_ k_ ∨ P0_5_ k_) ∨ w.heap.size ≤ k_) ∧ some k_ ≠ (v3 : Value).ownBlock ∧ k_ ≠ gb188 ∧ k_ ≠ gb189) (.slice A0_5 l0_5.length c0_5) l0_5) ∧ Aside0 (w'.heap[gb188]? = some (.cells #[.bool a0_0, .bool a0_1, (.slice A0_2 y190.length c0_2), (.slice A0_3 y195.length c0_3), (.slice A0_4 y200.length c0_4), (.slice A0_5 l0_5.length c0_5), .bool a0_6, .bool a0_7] 25 (0, 0))) ∧ Aside0 (w'.heap[gb189]? = some (.cells #[.bool false, .bool false, (.slice none 0 0), (.slice none 0 0), (.slice none 0 0), (.slice none 0 0), .bool false, .bool false] 25 (0, 0))) ∧ Aside0 (Below w.heap.size w w'))
       case atStart => exact ⟨(y205), (0), (by first | rfl | (simp; done) | (simp [*]; done)), H', ⟨Nat.le_refl _⟩, ⟨by exact HO207.out⟩, ⟨by exact Kd.V_mono HO194.out (fun _ hk => ⟨hk.1.1, ⟨hk.2, ⟨hk.1.2.1, hk.1.2.2⟩⟩⟩)⟩, ⟨by exact Kd.V_mono HO199.out (fun _ hk => ⟨hk.1.1, ⟨hk.2, ⟨hk.1.2.1, hk.1.2.2⟩⟩⟩)⟩, ⟨by exact Kd.V_mono HO204.out (fun _ hk => ⟨hk.1.1, ⟨hk.2, ⟨hk.1.2.1, hk.1.2.2⟩⟩⟩)⟩, ⟨by exact Kd.V_mono HO0_5.out (fun _ hk => ⟨hk.1.1, ⟨hk.2, ⟨hk.1.2.1, hk.1.2.2⟩⟩⟩)⟩, ⟨by exact BK188.out⟩, ⟨by exact BK189.out⟩, ⟨by repeat (first | (with_reducible first | exact HB.out | apply below_alloc | apply pw_below_drewN | apply below_drew1 | refine below_set ?_ GE188.out | refine below_set ?_ GE189.out) | exact HB.out)⟩⟩
       case round =>
        clear H'
        try clear c1
        try clear q1
        try clear p2
        try clear q2
        try clear c3
        try clear c3b0
        try clear c3b1
        try clear c4
        try clear c4b0
        try clear c4b1
        try clear c6
        try clear c6b0
        try clear c6b1
        try clear c7
        try clear c7b0
        try clear c7b1
        try clear c9
        try clear c9b0
        try clear c9b1
        try clear c10
        try clear c10b0
        try clear c10b1
        try clear c11
        try clear c13
        try clear q15
        try clear q18
        try clear q21
        try clear hcz14_0
        try clear hcz14_1
        try clear hcz14_2
        try clear hcz14_3
        try clear hcz14_4
        try clear hcz14_5
        try clear hcz14_6
        try clear hcz14_7
        try clear hcz17_0
        try clear hcz17_1
        try clear hcz17_2
        try clear hcz17_3
        try clear hcz17_4
        try clear hcz17_5
        try clear hcz17_6
        try clear hcz17_7
        try clear hcz20_0
        try clear hcz20_1
        try clear hcz20_2
        try clear hcz20_3
        try clear hcz20_4
        try clear hcz20_5
        try clear hcz20_6
        try clear hcz20_7
        try clear hfz14_0
        try clear hfz14_1
        try clear hfz14_2
        try clear hfz14_3
        try clear hfz14_4
        try clear hfz14_5
        try clear hfz14_6
        try clear hfz14_7
        try clear hfz17_0
        try clear hfz17_1
        try clear hfz17_2
        try clear hfz17_3
        try clear hfz17_4
        try clear hfz17_5
        try clear hfz17_6
        try clear hfz17_7
        try clear hfz20_0
        try clear hfz20_1
        try clear hfz20_2
        try clear hfz20_3
        try clear hfz20_4
        try clear hfz20_5
        try clear hfz20_6
        try clear hfz20_7
        try clear q15
        try clear q18
        try clear q21
        obtain ⟨x3_1, x4_1, rfl, HA, HK1, HO_3, HO_189002, HO_189003, HO_189004, HO_189005, BK188, BK189, HB⟩ := hrel
        cases gk with
        | zero => exact absurd HA.out (by simp [boltinglaw12_Bound.l0])
        | succ k1 =>
         have H := HA.out
         clear HA
         simp only [boltinglaw12_Bound.l0] at H
         by_cases c24 : x4_1 < (l0_5.length : Int)
         ·rw [if_pos c24] at H
          have c24b0 : decide (x4_1 < (l0_5.length : Int)) = true := decide_eq_true c24
          clear c24
          by_cases c25 : x4_1 < 12
          ·rw [if_pos c25] at H
           have c25b0 : decide (x4_1 < 12) = true := decide_eq_true c25
           clear c25
           by_cases c26 : 0 ≤ x4_1
           ·rw [if_pos c26] at H
            have c26b0 : decide (0 ≤ x4_1) = true := decide_eq_true c26
            clear c26
            obtain ⟨ji27, hji27⟩ : ∃ j_ : Int, (mn (((rd_T35 l0_5 x4_1).f1).length : Int) 70) = j_ := ⟨_, rfl⟩
            replace H : (if 0 ≤ (ji27) then (if (ji27) ≤ (((rd_T35 l0_5 x4_1).f1).length : Int) then (if x3_1.length < 3518437208883 then (boltinglaw12_Bound.l0 k1 (x3_1 ++ [(⟨(rd_T35 l0_5 x4_1).f0, (((rd_T35 l0_5 x4_1).f1).take ((ji27) : Int).toNat)⟩ : S35)]) (wrap64 (x4_1 + 1)) a0_0 a0_1 y190 y195 y200 l0_5 a0_6 a0_7) else (none)) else (none)) else (none)) = some (r1, r2, r3, r4, r5, r6, r7, r8) := by first | (rw [hji27] at H; exact H) | (simp only [hji27] at H ⊢; exact H)
            have hji27_ : (if 70 < (((rd_T35 l0_5 x4_1).f1).length : Int) then 70 else (((rd_T35 l0_5 x4_1).f1).length : Int)) = ji27 := hji27
            by_cases c28 : 0 ≤ (ji27)
            ·rw [if_pos c28] at H
             have c28b0 := eq_true c28
             have c28b1 : decide (0 ≤ (ji27)) = true := decide_eq_true c28
             clear c28
             by_cases c29 : (ji27) ≤ (((rd_T35 l0_5 x4_1).f1).length : Int)
             ·rw [if_pos c29] at H
              have c29b0 := eq_true c29
              have c29b1 : decide ((ji27) ≤ (((rd_T35 l0_5 x4_1).f1).length : Int)) = true := decide_eq_true c29
              clear c29
              obtain ⟨y211, hy211⟩ : ∃ y_ : List ByteArray, y_ = (((rd_T35 l0_5 x4_1).f1).take ((ji27) : Int).toNat) := ⟨_, rfl⟩
              replace H : (if x3_1.length < 3518437208883 then (boltinglaw12_Bound.l0 k1 (x3_1 ++ [(⟨(rd_T35 l0_5 x4_1).f0, y211⟩ : S35)]) (wrap64 (x4_1 + 1)) a0_0 a0_1 y190 y195 y200 l0_5 a0_6 a0_7) else (none)) = some (r1, r2, r3, r4, r5, r6, r7, r8) := by first | (rw [hy211]; with_reducible exact H) | (have H2_ := (Option.bind_some _ _).symm.trans H; rw [hy211]; with_reducible exact H2_) | (have H2_ := (Option.bind_some _ _).symm.trans H; with_reducible exact H2_) | with_reducible exact H | (rw [hy211]; exact H) | exact H
              have Ny211 := Aside0.mk hy211
              clear hy211
              by_cases c30 : x3_1.length < 3518437208883
              ·rw [if_pos c30] at H
               have LMc30 := Aside0.mk c30
               clear c30
               obtain ⟨y216, hy216⟩ : ∃ y_ : List (S35), y_ = (x3_1 ++ [(⟨(rd_T35 l0_5 x4_1).f0, y211⟩ : S35)]) := ⟨_, rfl⟩
               replace H : (boltinglaw12_Bound.l0 k1 y216 (wrap64 (x4_1 + 1)) a0_0 a0_1 y190 y195 y200 l0_5 a0_6 a0_7) = some (r1, r2, r3, r4, r5, r6, r7, r8) := by first | (rw [hy216]; with_reducible exact H) | (have H2_ := (Option.bind_some _ _).symm.trans H; rw [hy216]; with_reducible exact H2_) | (have H2_ := (Option.bind_some _ _).symm.trans H; with_reducible exact H2_) | with_reducible exact H | (rw [hy216]; exact H) | exact H
               have Ny216 := Aside0.mk hy216
               clear hy216
               have H' := Aside0.mk H
               clear H
               have hnb31 := NB188_189.out
               have hnc31 := NB189_188.out
               have hcz32_0 : wr.cell? ⟨gb188, 0, none⟩ = some (.bool a0_0) := (blk_cell BK188.out 0).trans rfl
               have hcz32_1 : wr.cell? ⟨gb188, 1, none⟩ = some (.bool a0_1) := (blk_cell BK188.out 1).trans rfl
               have hcz32_2 : wr.cell? ⟨gb188, 2, none⟩ = some (.slice A0_2 y190.length c0_2) := (blk_cell BK188.out 2).trans rfl
               have hcz32_3 : wr.cell? ⟨gb188, 3, none⟩ = some (.slice A0_3 y195.length c0_3) := (blk_cell BK188.out 3).trans rfl
               have hcz32_4 : wr.cell? ⟨gb188, 4, none⟩ = some (.slice A0_4 y200.length c0_4) := (blk_cell BK188.out 4).trans rfl
               have hcz32_5 : wr.cell? ⟨gb188, 5, none⟩ = some (.slice A0_5 l0_5.length c0_5) := (blk_cell BK188.out 5).trans rfl
               have hcz32_6 : wr.cell? ⟨gb188, 6, none⟩ = some (.bool a0_6) := (blk_cell BK188.out 6).trans rfl
               have hcz32_7 : wr.cell? ⟨gb188, 7, none⟩ = some (.bool a0_7) := (blk_cell BK188.out 7).trans rfl
               have hfz32_0 := blk_frozen BK188.out 0
               have hfz32_1 := blk_frozen BK188.out 1
               have hfz32_2 := blk_frozen BK188.out 2
               have hfz32_3 := blk_frozen BK188.out 3
               have hfz32_4 := blk_frozen BK188.out 4
               have hfz32_5 := blk_frozen BK188.out 5
               have hfz32_6 := blk_frozen BK188.out 6
               have hfz32_7 := blk_frozen BK188.out 7
               try go_wp2
               have n0_ := Aside0.mk (Kd.N_drew HO_3.out)
               have n1_ := Aside0.mk (Kd.V_drew HO_189002.out)
               have n2_ := Aside0.mk (Kd.V_drew HO_189003.out)
               have n3_ := Aside0.mk (Kd.V_drew HO_189004.out)
               have n4_ := Aside0.mk (Kd.V_drew HO_189005.out)
               have n5_ := Aside0.mk (blk_drew BK188.out)
               have n6_ := Aside0.mk (blk_drew BK189.out)
               have n7_ := Aside0.mk (below_drew1 HB.out)
               clear HO_3
               clear HO_189002
               clear HO_189003
               clear HO_189004
               clear HO_189005
               clear BK188
               clear BK189
               clear HB
               have HO_3 := n0_
               have HO_189002 := n1_
               have HO_189003 := n2_
               have HO_189004 := n3_
               have HO_189005 := n4_
               have BK188 := n5_
               have BK189 := n6_
               have HB := n7_
               clear n0_ n1_ n2_ n3_ n4_ n5_ n6_ n7_
               have p208 : 0 ≤ (x4_1 : Int) := of_decide_eq_true (by first | (with_reducible assumption) | assumption)
               have q208 : x4_1 < (l0_5.length : Int) := of_decide_eq_true (by first | (with_reducible assumption) | assumption)
               obtain ⟨ad208, A208_1, c208_1, e208, hx208_0, hx208_1, hl208_1, hi208_1⟩ := at_T35 (Kd.V_reads' HO_189005.out).2.2 x4_1 p208 q208
               cases e208
               obtain ⟨ce208, hce208, hMe208, hcc208⟩ := Kd.V_get HO_189005.out z35 x4_1 p208 (by first | exact q208 | exact of_decide_eq_true (by first | (with_reducible assumption) | assumption) | (have e_ := (Kd.V_reads' HO_189005.out).1; omega))
               obtain ⟨ua208_1, uc208_1, rfl, ul208_1, ge208_1⟩ := k35_openF hMe208
               have hv208_1 := hcc208 1 _ rfl
               rw [add_field _ _ 1 (by omega)] at hv208_1
               replace hv208_1 := Option.some.inj (hv208_1.symm.trans hx208_1)
               injection hv208_1 with hva_ hvn_ hvc_
               rw [hva_] at ge208_1
               rw [hvc_] at ul208_1
               have HL208_1 := Aside0.mk (show Kd.V Kd.string 9 _ w.heap.size _ _ ((rd_T35 l0_5 x4_1).f1) from Kd.V_mk ul208_1 ge208_1)
               clear hva_ hvn_ hvc_ ge208_1 ul208_1
               clear hcc208 hce208
               have HR208_1 := Aside0.mk hi208_1
               have HC208_1 := Aside0.mk hl208_1
               clear hi208_1 hl208_1
               replace p208 := eq_true p208
               replace q208 := eq_true q208
               have p209 : 0 ≤ (x4_1 : Int) := of_decide_eq_true (by first | (with_reducible assumption) | assumption)
               have q209 : x4_1 < (l0_5.length : Int) := of_decide_eq_true (by first | (with_reducible assumption) | assumption)
               obtain ⟨ad209, A209_1, c209_1, e209, hx209_0, hx209_1, hl209_1, hi209_1⟩ := at_T35 (Kd.V_reads' HO_189005.out).2.2 x4_1 p209 q209
               obtain rfl : ad208 = ad209 := (by injection e209)
               obtain ⟨ce209, hce209, hMe209, hcc209⟩ := Kd.V_get HO_189005.out z35 x4_1 p209 (by first | exact q209 | exact of_decide_eq_true (by first | (with_reducible assumption) | assumption) | (have e_ := (Kd.V_reads' HO_189005.out).1; omega))
               obtain ⟨ua209_1, uc209_1, rfl, ul209_1, ge209_1⟩ := k35_openF hMe209
               have hv209_1 := hcc209 1 _ rfl
               rw [add_field _ _ 1 (by omega)] at hv209_1
               replace hv209_1 := Option.some.inj (hv209_1.symm.trans hx209_1)
               injection hv209_1 with hva_ hvn_ hvc_
               rw [hva_] at ge209_1
               rw [hvc_] at ul209_1
               have HL209_1 := Aside0.mk (show Kd.V Kd.string 9 _ w.heap.size _ _ ((rd_T35 l0_5 x4_1).f1) from Kd.V_mk ul209_1 ge209_1)
               clear hva_ hvn_ hvc_ ge209_1 ul209_1
               clear hcc209 hce209
               have HR209_1 := Aside0.mk hi209_1
               have HC209_1 := Aside0.mk hl209_1
               clear hi209_1 hl209_1
               replace p209 := eq_true p209
               replace q209 := eq_true q209
               have ea_ := Option.some.inj (hx208_1.symm.trans hx209_1)
               injection ea_ with ea_ en_ ec_
               subst ea_
               subst ec_
               clear en_
               have p210 : 0 ≤ (x4_1 : Int) := of_decide_eq_true (by first | (with_reducible assumption) | assumption)
               have q210 : x4_1 < (l0_5.length : Int) := of_decide_eq_true (by first | (with_reducible assumption) | assumption)
               obtain ⟨ad210, A210_1, c210_1, e210, hx210_0, hx210_1, hl210_1, hi210_1⟩ := at_T35 (Kd.V_reads' HO_189005.out).2.2 x4_1 p210 q210
               obtain rfl : ad208 = ad210 := (by injection e210)
               obtain ⟨ce210, hce210, hMe210, hcc210⟩ := Kd.V_get HO_189005.out z35 x4_1 p210 (by first | exact q210 | exact of_decide_eq_true (by first | (with_reducible assumption) | assumption) | (have e_ := (Kd.V_reads' HO_189005.out).1; omega))
               obtain ⟨ua210_1, uc210_1, rfl, ul210_1, ge210_1⟩ := k35_openF hMe210
               have hv210_1 := hcc210 1 _ rfl
               rw [add_field _ _ 1 (by omega)] at hv210_1
               replace hv210_1 := Option.some.inj (hv210_1.symm.trans hx210_1)
               injection hv210_1 with hva_ hvn_ hvc_
               rw [hva_] at ge210_1
               rw [hvc_] at ul210_1
               have HL210_1 := Aside0.mk (show Kd.V Kd.string 9 _ w.heap.size _ _ ((rd_T35 l0_5 x4_1).f1) from Kd.V_mk ul210_1 ge210_1)
               clear hva_ hvn_ hvc_ ge210_1 ul210_1
               clear hcc210 hce210
               have HR210_1 := Aside0.mk hi210_1
               have HC210_1 := Aside0.mk hl210_1
               clear hi210_1 hl210_1
               replace p210 := eq_true p210
               replace q210 := eq_true q210
               have ea_ := Option.some.inj (hx208_1.symm.trans hx210_1)
               injection ea_ with ea_ en_ ec_
               subst ea_
               subst ec_
               clear en_
               have q34 : ((ji27) : Int) ≤ ((((rd_T35 l0_5 x4_1).f1).length : Int) : Int) := of_decide_eq_true (by first | (with_reducible assumption) | assumption)
               obtain ⟨i034, hi034, _, hsz34, _⟩ := info_parts info9
               have hroom34 : ((rd_T35 l0_5 x4_1).f1).length ≤ c208_1 := HC209_1.out
               have hC34 : Kd.F Kd.string _ _ A208_1 ((rd_T35 l0_5 x4_1).f1).length ((rd_T35 l0_5 x4_1).f1) := (Kd.V_at (base := w.heap.size) HL209_1.out).2.2
               have hcut34 := cut_to (P := Try.prog) 22 9 .i64 Try.underlying22 hi034 A208_1 ((rd_T35 l0_5 x4_1).f1).length c208_1 (ji27) (of_decide_eq_true (by first | (with_reducible assumption) | assumption)) q34 hroom34
               have hr34 := Kd.F_take (m := ((ji27) : Int).toNat) hC34 (by omega)
               have hy34 : y211.length = ((ji27) : Int).toNat := (by rw [Ny211.out, List.length_take]; omega)
               rw [← Ny211.out] at hr34
               rw [← hy34] at hcut34
               have HO215 := Aside0.mk (show Kd.V Kd.string 9 _ w.heap.size _ (.slice A208_1 y211.length c208_1) y211 from Kd.V_mk (by omega) hr34)
               have HC215 := Aside0.mk (show y211.length ≤ c208_1 from by omega)
               clear hr34 hC34 hroom34 hi034 hsz34
               have KY34 := Aside0.mk hy34
               clear hy34
               replace q34 := eq_true q34
               refine start_ (n := 26) (S := fun w' => w'.cell? ⟨gb188, 0, none⟩ = some (.bool a0_0) ∧ w'.cell? ⟨gb188, 1, none⟩ = some (.bool a0_1) ∧ w'.cell? ⟨gb188, 2, none⟩ = some (.slice A0_2 y190.length c0_2) ∧ w'.cell? ⟨gb188, 3, none⟩ = some (.slice A0_3 y195.length c0_3) ∧ w'.cell? ⟨gb188, 4, none⟩ = some (.slice A0_4 y200.length c0_4) ∧ w'.cell? ⟨gb188, 5, none⟩ = some (.slice (some ad208) l0_5.length c0_5) ∧ w'.cell? ⟨gb188, 6, none⟩ = some (.bool a0_6) ∧ w'.cell? ⟨gb188, 7, none⟩ = some (.bool a0_7) ∧ w'.cell? (ad208.add ((x4_1).toNat * 2)) = some (.string ((rd_T35 l0_5 x4_1).f0)) ∧ w'.cell? ⟨(ad208.add ((x4_1).toNat * 2)).block, (ad208.add ((x4_1).toNat * 2)).off + 1, none⟩ = some (.slice A208_1 ((rd_T35 l0_5 x4_1).f1).length c208_1) ∧ w'.cell? (ad208.add ((x4_1).toNat * 2)) = some (.string ((rd_T35 l0_5 x4_1).f0)) ∧ w'.cell? ⟨(ad208.add ((x4_1).toNat * 2)).block, (ad208.add ((x4_1).toNat * 2)).off + 1, none⟩ = some (.slice A208_1 ((rd_T35 l0_5 x4_1).f1).length c208_1) ∧ w'.cell? (ad208.add ((x4_1).toNat * 2)) = some (.string ((rd_T35 l0_5 x4_1).f0)) ∧ w'.cell? ⟨(ad208.add ((x4_1).toNat * 2)).block, (ad208.add ((x4_1).toNat * 2)).off + 1, none⟩ = some (.slice A208_1 ((rd_T35 l0_5 x4_1).f1).length c208_1)) (ds := [23, 24]) (tf 0 26) (by kernel_rfl) rfl rfl ⟨(blk_cell BK188.out 0).trans rfl, (blk_cell BK188.out 1).trans rfl, (blk_cell BK188.out 2).trans rfl, (blk_cell BK188.out 3).trans rfl, (blk_cell BK188.out 4).trans rfl, (blk_cell BK188.out 5).trans rfl, (blk_cell BK188.out 6).trans rfl, (blk_cell BK188.out 7).trans rfl, hx208_0, hx208_1, hx209_0, hx209_1, hx210_0, hx210_1⟩ (fun hHeld => ?_); refine with_tabW boltinglaw12_Bound.tab8 boltinglaw12_Bound.bits8 (fun HT_ HW_ => ?_)
               generalize wr.drew = w33 at HO_3 HO_189002 HO_189003 HO_189004 HO_189005 BK188 BK189 HB HL208_1 HL209_1 HL210_1 HO215 HR208_1 HR209_1 HR210_1 hx208_0 hx208_1 hx209_0 hx209_1 hx210_0 hx210_1 hHeld ⊢
               refine pure_ (i := 0) (N := some 41) (v := ?_) (a' := ?_) (tf 1 25) rfl rfl (any_of HT_.out (by kernel_rfl)) (fun _ _ _ h => h) (Or.inl ⟨by rfl, ?_⟩) ?_ ?_
               rotate_left
               ·intro w'
                go_simp
                with_reducible rfl
               rotate_left
               ·simp only [Act.put, List.setIfInBounds_toArray, List.set_cons_zero, List.set_cons_succ, i64_w, i32_w]
                rfl
               refine pure_ (i := 1) (N := some 42) (v := ?_) (a' := ?_) (tf 2 24) rfl rfl (any_of HT_.out (by kernel_rfl)) (fun _ _ _ h => h) (Or.inl ⟨by rfl, ?_⟩) ?_ ?_
               rotate_left
               ·intro w'
                go_simp
                with_reducible rfl
               rotate_left
               ·simp only [Act.put, List.setIfInBounds_toArray, List.set_cons_zero, List.set_cons_succ, i64_w, i32_w]
                rfl
               refine pure_ (i := 3) (N := some 44) (v := ?_) (a' := ?_) #[true, true, false, true, false, false, false, false, false, false, false, false, false, false, false, false, false, false, false, false, false, false, false, false, false, false] rfl rfl (any_of HT_.out (by kernel_rfl)) (fun _ _ _ h => h) (Or.inl ⟨by rfl, ?_⟩) ?_ ?_
               rotate_left
               ·intro w'
                go_simp
                with_reducible rfl
               rotate_left
               ·simp only [Act.put, List.setIfInBounds_toArray, List.set_cons_zero, List.set_cons_succ, i64_w, i32_w]
                rfl
               refine pure_ (i := 7) (N := some 48) (v := ?_) (a' := ?_) #[true, true, false, true, false, false, false, true, false, false, false, false, false, false, false, false, false, false, false, false, false, false, false, false, false, false] rfl rfl (any_of HT_.out (by kernel_rfl)) (fun _ _ _ h => h) (Or.inl ⟨by rfl, ?_⟩) ?_ ?_
               rotate_left
               ·intro w'
                go_simp
                with_reducible rfl
               rotate_left
               ·simp only [Act.put, List.setIfInBounds_toArray, List.set_cons_zero, List.set_cons_succ, i64_w, i32_w]
                rfl
               refine pure_ (i := 9) (N := some 50) (v := ?_) (a' := ?_) #[true, true, false, true, false, false, false, true, false, true, false, false, false, false, false, false, false, false, false, false, false, false, false, false, false, false] rfl rfl (any_of HT_.out (by kernel_rfl)) (fun _ _ _ h => h) (Or.inl ⟨by rfl, ?_⟩) ?_ ?_
               rotate_left
               ·intro w'
                go_simp
                with_reducible rfl
               rotate_left
               ·simp only [Act.put, List.setIfInBounds_toArray, List.set_cons_zero, List.set_cons_succ, i64_w, i32_w]
                rfl
               refine pure_ (i := 13) (N := some 54) (v := ?_) (a' := ?_) #[true, true, false, true, false, false, false, true, false, true, false, false, false, true, false, false, false, false, false, false, false, false, false, false, false, false] rfl rfl (any_of HT_.out (by kernel_rfl)) (fun _ _ _ h => h) (Or.inl ⟨by rfl, ?_⟩) ?_ ?_
               rotate_left
               ·intro w'
                go_simp
                with_reducible rfl
               rotate_left
               ·simp only [Act.put, List.setIfInBounds_toArray, List.set_cons_zero, List.set_cons_succ, i64_w, i32_w]
                rfl
               refine pure_ (i := 15) (N := some 56) (v := ?_) (a' := ?_) #[true, true, false, true, false, false, false, true, false, true, false, false, false, true, false, true, false, false, false, false, false, false, false, false, false, false] rfl rfl (any_of HT_.out (by kernel_rfl)) (fun _ _ _ h => h) (Or.inl ⟨by rfl, ?_⟩) ?_ ?_
               rotate_left
               ·intro w'
                go_simp
                with_reducible rfl
               rotate_left
               ·simp only [Act.put, List.setIfInBounds_toArray, List.set_cons_zero, List.set_cons_succ, i64_w, i32_w]
                rfl
               refine take_ (i := 2) (N := some 43) (v := ?_) (a' := ?_) #[true, true, true, true, false, false, false, true, false, true, false, false, false, true, false, true, false, false, false, false, false, false, false, false, false, false] rfl rfl (take_ofW HT_.out HW_.out (by kernel_rfl)) (fun _ _ _ h => h) (Or.inl ⟨by rfl, ?_⟩) hHeld ?_ ?_
               rotate_left
               ·rintro w' ⟨s0, s1, s2, s3, s4, s5, s6, s7, s8, s9, s10, s11, s12, s13⟩
                go_simp
                with_reducible rfl
               rotate_left
               ·simp only [Act.put, List.setIfInBounds_toArray, List.set_cons_zero, List.set_cons_succ, i64_w, i32_w]
                rfl
               refine pure_ (i := 4) (N := some 45) (v := ?_) (a' := ?_) #[true, true, true, true, true, false, false, true, false, true, false, false, false, true, false, true, false, false, false, false, false, false, false, false, false, false] rfl rfl (any_of HT_.out (by kernel_rfl)) (fun _ _ _ h => h) (Or.inl ⟨by rfl, ?_⟩) ?_ ?_
               rotate_left
               ·intro w'
                go_simp
                with_reducible rfl
               rotate_left
               ·simp only [Act.put, List.setIfInBounds_toArray, List.set_cons_zero, List.set_cons_succ, i64_w, i32_w]
                rfl
               refine pure_ (i := 5) (N := some 46) (v := ?_) (a' := ?_) #[true, true, true, true, true, true, false, true, false, true, false, false, false, true, false, true, false, false, false, false, false, false, false, false, false, false] rfl rfl (any_of HT_.out (by kernel_rfl)) (fun _ _ _ h => h) (Or.inl ⟨by rfl, ?_⟩) ?_ ?_
               rotate_left
               ·intro w'
                go_simp
                with_reducible rfl
               rotate_left
               ·simp only [Act.put, List.setIfInBounds_toArray, List.set_cons_zero, List.set_cons_succ, i64_w, i32_w]
                rfl
               refine take_ (i := 6) (N := some 47) (v := ?_) (a' := ?_) #[true, true, true, true, true, true, true, true, false, true, false, false, false, true, false, true, false, false, false, false, false, false, false, false, false, false] rfl rfl (take_ofW HT_.out HW_.out (by kernel_rfl)) (fun _ _ _ h => h) (Or.inl ⟨by rfl, ?_⟩) hHeld ?_ ?_
               rotate_left
               ·rintro w' ⟨s0, s1, s2, s3, s4, s5, s6, s7, s8, s9, s10, s11, s12, s13⟩
                go_simp
                with_reducible rfl
               rotate_left
               ·simp only [Act.put, List.setIfInBounds_toArray, List.set_cons_zero, List.set_cons_succ, i64_w, i32_w]
                rfl
               refine take_ (i := 8) (N := some 49) (v := ?_) (a' := ?_) #[true, true, true, true, true, true, true, true, true, true, false, false, false, true, false, true, false, false, false, false, false, false, false, false, false, false] rfl rfl (take_ofW HT_.out HW_.out (by kernel_rfl)) (fun _ _ _ h => h) (Or.inl ⟨by rfl, ?_⟩) hHeld ?_ ?_
               rotate_left
               ·rintro w' ⟨s0, s1, s2, s3, s4, s5, s6, s7, s8, s9, s10, s11, s12, s13⟩
                go_simp
                with_reducible rfl
               rotate_left
               ·simp only [Act.put, List.setIfInBounds_toArray, List.set_cons_zero, List.set_cons_succ, i64_w, i32_w]
                rfl
               refine pure_ (i := 10) (N := some 51) (v := ?_) (a' := ?_) #[true, true, true, true, true, true, true, true, true, true, true, false, false, true, false, true, false, false, false, false, false, false, false, false, false, false] rfl rfl (any_of HT_.out (by kernel_rfl)) (fun _ _ _ h => h) (Or.inl ⟨by rfl, ?_⟩) ?_ ?_
               rotate_left
               ·intro w'
                go_simp
                with_reducible rfl
               rotate_left
               ·simp only [Act.put, List.setIfInBounds_toArray, List.set_cons_zero, List.set_cons_succ, i64_w, i32_w]
                rfl
               refine pure_ (i := 11) (N := some 52) (v := ?_) (a' := ?_) #[true, true, true, true, true, true, true, true, true, true, true, true, false, true, false, true, false, false, false, false, false, false, false, false, false, false] rfl rfl (any_of HT_.out (by kernel_rfl)) (fun _ _ _ h => h) (Or.inl ⟨by rfl, ?_⟩) ?_ ?_
               rotate_left
               ·intro w'
                go_simp
                with_reducible rfl
               rotate_left
               ·simp only [Act.put, List.setIfInBounds_toArray, List.set_cons_zero, List.set_cons_succ, i64_w, i32_w]
                rfl
               refine take_ (i := 12) (N := some 53) (v := ?_) (a' := ?_) #[true, true, true, true, true, true, true, true, true, true, true, true, true, true, false, true, false, false, false, false, false, false, false, false, false, false] rfl rfl (take_ofW HT_.out HW_.out (by kernel_rfl)) (fun _ _ _ h => h) (Or.inl ⟨by rfl, ?_⟩) hHeld ?_ ?_
               rotate_left
               ·rintro w' ⟨s0, s1, s2, s3, s4, s5, s6, s7, s8, s9, s10, s11, s12, s13⟩
                go_simp
                with_reducible rfl
               rotate_left
               ·simp only [Act.put, List.setIfInBounds_toArray, List.set_cons_zero, List.set_cons_succ, i64_w, i32_w]
                rfl
               refine take_ (i := 14) (N := some 55) (v := ?_) (a' := ?_) (tf 16 10) rfl rfl (take_ofW HT_.out HW_.out (by kernel_rfl)) (fun _ _ _ h => h) (Or.inl ⟨by rfl, ?_⟩) hHeld ?_ ?_
               rotate_left
               ·rintro w' ⟨s0, s1, s2, s3, s4, s5, s6, s7, s8, s9, s10, s11, s12, s13⟩
                go_simp
                with_reducible rfl
               rotate_left
               ·simp only [Act.put, List.setIfInBounds_toArray, List.set_cons_zero, List.set_cons_succ, i64_w, i32_w]
                rfl
               refine pure_ (i := 16) (N := some 57) (v := ?_) (a' := ?_) (tf 17 9) rfl rfl (any_of HT_.out (by kernel_rfl)) (fun _ _ _ h => h) (Or.inl ⟨by rfl, ?_⟩) ?_ ?_
               rotate_left
               ·intro w'
                go_simp
                with_reducible rfl
               rotate_left
               ·simp only [Act.put, List.setIfInBounds_toArray, List.set_cons_zero, List.set_cons_succ, i64_w, i32_w]
                rfl
               refine pure_ (i := 17) (N := some 58) (v := ?_) (a' := ?_) (tf 18 8) rfl rfl (any_of HT_.out (by kernel_rfl)) (fun _ _ _ h => h) (Or.inl ⟨by rfl, ?_⟩) ?_ ?_
               rotate_left
               ·intro w'
                go_simp
                with_reducible rfl
               rotate_left
               ·simp only [Act.put, List.setIfInBounds_toArray, List.set_cons_zero, List.set_cons_succ, i64_w, i32_w]
                rfl
               refine take_ (i := 18) (N := some 59) (v := ?_) (a' := ?_) (tf 19 7) rfl rfl (take_ofW HT_.out HW_.out (by kernel_rfl)) (fun _ _ _ h => h) (Or.inl ⟨by rfl, ?_⟩) hHeld ?_ ?_
               rotate_left
               ·rintro w' ⟨s0, s1, s2, s3, s4, s5, s6, s7, s8, s9, s10, s11, s12, s13⟩
                go_simp
                with_reducible rfl
               rotate_left
               ·simp only [Act.put, List.setIfInBounds_toArray, List.set_cons_zero, List.set_cons_succ, i64_w, i32_w]
                rfl
               refine pure_ (i := 19) (N := some 60) (v := ?_) (a' := ?_) (tf 20 6) rfl rfl (any_of HT_.out (by kernel_rfl)) (fun _ _ _ h => h) (Or.inl ⟨by rfl, ?_⟩) ?_ ?_
               rotate_left
               ·intro w'
                go_simp
                with_reducible rfl
               rotate_left
               ·simp only [Act.put, List.setIfInBounds_toArray, List.set_cons_zero, List.set_cons_succ, i64_w, i32_w]
                rfl
               refine pure_ (i := 20) (N := some 61) (v := ?_) (a' := ?_) (tf 21 5) rfl rfl (any_of HT_.out (by kernel_rfl)) (fun _ _ _ h => h) (Or.inl ⟨by rfl, ?_⟩) ?_ ?_
               rotate_left
               ·intro w'
                go_simp
                with_reducible rfl
               rotate_left
               ·simp only [Act.put, List.setIfInBounds_toArray, List.set_cons_zero, List.set_cons_succ, i64_w, i32_w]
                rfl
               refine pure_ (i := 21) (N := some 62) (v := ?_) (a' := ?_) (tf 22 4) rfl rfl (any_of HT_.out (by kernel_rfl)) (fun _ _ _ h => h) (Or.inl ⟨by rfl, ?_⟩) ?_ ?_
               rotate_left
               ·intro w'
                go_simp
                with_reducible rfl
               rotate_left
               ·simp only [Act.put, List.setIfInBounds_toArray, List.set_cons_zero, List.set_cons_succ, i64_w, i32_w]
                rfl
               refine pure_ (i := 22) (N := some 63) (v := ?_) (a' := ?_) (tf 23 3) rfl rfl (any_of HT_.out (by kernel_rfl)) (fun _ _ _ h => h) (Or.inl ⟨by rfl, ?_⟩) ?_ ?_
               rotate_left
               ·intro w'
                go_simp
                with_reducible rfl
               rotate_left
               ·simp only [Act.put, List.setIfInBounds_toArray, List.set_cons_zero, List.set_cons_succ, i64_w, i32_w]
                rfl
               refine last_ (i := 23) (N := some 64) (tf 24 2) rfl rfl (one_of HT_.out (by kernel_rfl)) (by decide) (fun K hK => ?_)
               refine value_ (w1 := ?_) (v := ?_) (by rfl) rfl ?_ ?_
               rotate_left 2
               ·go_simp
                constructor
                ·rfl
                ·rfl
               refine hK.out _ _ ?_
               clear hK K
               refine norm_ (a' := ?_) ?_ ?_
               rotate_left
               ·show Act.put _ (some 64) _ = _
                simp only [Act.put, List.setIfInBounds_toArray, List.set_cons_zero, List.set_cons_succ, i64_w, i32_w]
                rfl
               refine last_ (i := 24) (N := some 65) (tf 25 1) rfl rfl (one_of HT_.out (by kernel_rfl)) (by decide) (fun K hK => ?_)
               refine Kd.N_append_step k35 (w0 := w) w.heap.size (by rfl) (.tmp 41) (.tmp 64) 23 35 (.agg #[(.string ⟨#[]⟩), (.slice none 0 0)]) 40 rfl Try.underlying23 info35 rfl (by decide) (by omega) u3 x3_1 (⟨(rd_T35 l0_5 x4_1).f0, y211⟩ : S35) [.string ((rd_T35 l0_5 x4_1).f0), .slice A208_1 y211.length c208_1] (fun k_ => ((P0_2_ k_ ∨ P0_3_ k_ ∨ P0_4_ k_ ∨ P0_5_ k_) ∨ w.heap.size ≤ k_) ∧ k_ ≠ gb188 ∧ k_ ≠ gb189) (fun k_ => ((fun k_ => ((P0_2_ k_ ∨ P0_3_ k_ ∨ P0_4_ k_ ∨ P0_5_ k_) ∨ w.heap.size ≤ k_) ∧ k_ ≠ gb188 ∧ k_ ≠ gb189)) k_ ∧ some k_ ≠ (u3 : Value).ownBlock) rfl rfl ?aP (fun _ hk => hk) ?aF ?aO ?aB ?aS ?aL ?_
               (case aP => exact (k35_mkF _ _ (⟨(rd_T35 l0_5 x4_1).f0, y211⟩ : S35) (Kd.V_reads' (Kd.V_mono (ok' := (fun k_ => ((fun k_ => ((P0_2_ k_ ∨ P0_3_ k_ ∨ P0_4_ k_ ∨ P0_5_ k_) ∨ w.heap.size ≤ k_) ∧ k_ ≠ gb188 ∧ k_ ≠ gb189)) k_ ∧ some k_ ≠ (u3 : Value).ownBlock)) (HO215.out) (fun k_ hk => ⟨⟨hk.1, ⟨hk.2.2.1, hk.2.2.2⟩⟩, hk.2.1⟩))).2.1 (Kd.V_F (Kd.V_mono (ok' := (fun k_ => ((fun k_ => ((P0_2_ k_ ∨ P0_3_ k_ ∨ P0_4_ k_ ∨ P0_5_ k_) ∨ w.heap.size ≤ k_) ∧ k_ ≠ gb188 ∧ k_ ≠ gb189)) k_ ∧ some k_ ≠ (u3 : Value).ownBlock)) (HO215.out) (fun k_ hk => ⟨⟨hk.1, ⟨hk.2.2.1, hk.2.2.2⟩⟩, hk.2.1⟩)))))
               (case aB => exact (by repeat (first | (with_reducible first | exact HB.out | apply below_alloc | apply pw_below_drewN | apply below_drew1 | refine below_set ?_ GE188.out | refine below_set ?_ GE189.out) | exact HB.out)))
               (case aF => exact (fun k_ hk => ⟨(.inr (Nat.le_trans (below_size (by repeat (first | (with_reducible first | exact HB.out | apply below_alloc | apply pw_below_drewN | apply below_drew1 | refine below_set ?_ GE188.out | refine below_set ?_ GE189.out) | exact HB.out))) hk)), Kd.freshB (g := gb188) (o := .cells #[.bool a0_0, .bool a0_1, .slice A0_2 y190.length c0_2, .slice A0_3 y195.length c0_3, .slice A0_4 y200.length c0_4, .slice (some ad208) l0_5.length c0_5, .bool a0_6, .bool a0_7] 25 (0, 0)) (by exact BK188.out) k_ hk, Kd.freshB (g := gb189) (o := .cells #[.bool false, .bool false, .slice none 0 0, .slice none 0 0, .slice none 0 0, .slice none 0 0, .bool false, .bool false] 25 (0, 0)) (by exact BK189.out) k_ hk⟩))
               (case aO => exact (by exact HO_3.out))
               (case aS => exact (below_size (by repeat (first | (with_reducible first | exact HB.out | apply below_alloc | apply pw_below_drewN | apply below_drew1 | refine below_set ?_ GE188.out | refine below_set ?_ GE189.out) | exact HB.out))))
               (case aL => have := LMc30.out; omega)
               intro v217 w35 ho hb hg hat
               rw [← Ny216.out] at ho
               have n0_ := Aside0.mk (Kd.V_afterv (ok := (fun k_ => ((P0_2_ k_ ∨ P0_3_ k_ ∨ P0_4_ k_ ∨ P0_5_ k_) ∨ w.heap.size ≤ k_) ∧ k_ ≠ gb188 ∧ k_ ≠ gb189)) (by exact Kd.V_mono HO_189002.out (fun _ hk => ⟨⟨hk.1, ⟨hk.2.2.1, hk.2.2.2⟩⟩, hk.2.1⟩)) hg hat)
               have n1_ := Aside0.mk (Kd.V_afterv (ok := (fun k_ => ((P0_2_ k_ ∨ P0_3_ k_ ∨ P0_4_ k_ ∨ P0_5_ k_) ∨ w.heap.size ≤ k_) ∧ k_ ≠ gb188 ∧ k_ ≠ gb189)) (by exact Kd.V_mono HO_189003.out (fun _ hk => ⟨⟨hk.1, ⟨hk.2.2.1, hk.2.2.2⟩⟩, hk.2.1⟩)) hg hat)
               have n2_ := Aside0.mk (Kd.V_afterv (ok := (fun k_ => ((P0_2_ k_ ∨ P0_3_ k_ ∨ P0_4_ k_ ∨ P0_5_ k_) ∨ w.heap.size ≤ k_) ∧ k_ ≠ gb188 ∧ k_ ≠ gb189)) (by exact Kd.V_mono HO_189004.out (fun _ hk => ⟨⟨hk.1, ⟨hk.2.2.1, hk.2.2.2⟩⟩, hk.2.1⟩)) hg hat)
               have n3_ := Aside0.mk (Kd.V_afterv (ok := (fun k_ => ((P0_2_ k_ ∨ P0_3_ k_ ∨ P0_4_ k_ ∨ P0_5_ k_) ∨ w.heap.size ≤ k_) ∧ k_ ≠ gb188 ∧ k_ ≠ gb189)) (by exact Kd.V_mono HO_189005.out (fun _ hk => ⟨⟨hk.1, ⟨hk.2.2.1, hk.2.2.2⟩⟩, hk.2.1⟩)) hg hat)
               have n4_ := Aside0.mk (blk_grown (g := gb188) (o := .cells #[.bool a0_0, .bool a0_1, .slice A0_2 y190.length c0_2, .slice A0_3 y195.length c0_3, .slice A0_4 y200.length c0_4, .slice (some ad208) l0_5.length c0_5, .bool a0_6, .bool a0_7] 25 (0, 0)) (by exact BK188.out) hg (Kd.N_ne HO_3.out BK188.out (by decide)))
               have n5_ := Aside0.mk (blk_grown (g := gb189) (o := .cells #[.bool false, .bool false, .slice none 0 0, .slice none 0 0, .slice none 0 0, .slice none 0 0, .bool false, .bool false] 25 (0, 0)) (by exact BK189.out) hg (Kd.N_ne HO_3.out BK189.out (by decide)))
               have n6_ := Aside0.mk (Kd.V_afterv (ok := (fun k_ => ((P0_2_ k_ ∨ P0_3_ k_ ∨ P0_4_ k_ ∨ P0_5_ k_) ∨ w.heap.size ≤ k_) ∧ k_ ≠ gb188 ∧ k_ ≠ gb189)) (by exact Kd.V_mono HL208_1.out (fun _ hk => ⟨⟨hk.1, ⟨hk.2.2.1, hk.2.2.2⟩⟩, hk.2.1⟩)) hg hat)
               have n7_ := Aside0.mk (Kd.V_afterv (ok := (fun k_ => ((P0_2_ k_ ∨ P0_3_ k_ ∨ P0_4_ k_ ∨ P0_5_ k_) ∨ w.heap.size ≤ k_) ∧ k_ ≠ gb188 ∧ k_ ≠ gb189)) (by exact Kd.V_mono HL209_1.out (fun _ hk => ⟨⟨hk.1, ⟨hk.2.2.1, hk.2.2.2⟩⟩, hk.2.1⟩)) hg hat)
               have n8_ := Aside0.mk (Kd.V_afterv (ok := (fun k_ => ((P0_2_ k_ ∨ P0_3_ k_ ∨ P0_4_ k_ ∨ P0_5_ k_) ∨ w.heap.size ≤ k_) ∧ k_ ≠ gb188 ∧ k_ ≠ gb189)) (by exact Kd.V_mono HL210_1.out (fun _ hk => ⟨⟨hk.1, ⟨hk.2.2.1, hk.2.2.2⟩⟩, hk.2.1⟩)) hg hat)
               have n9_ := Aside0.mk (Kd.V_afterv (ok := (fun k_ => ((P0_2_ k_ ∨ P0_3_ k_ ∨ P0_4_ k_ ∨ P0_5_ k_) ∨ w.heap.size ≤ k_) ∧ k_ ≠ gb188 ∧ k_ ≠ gb189)) (by exact Kd.V_mono HO215.out (fun _ hk => ⟨⟨hk.1, ⟨hk.2.2.1, hk.2.2.2⟩⟩, hk.2.1⟩)) hg hat)
               have n10_ := Aside0.mk (hb)
               have n11_ := Aside0.mk (ho)
               clear HO_189002
               clear HO_189003
               clear HO_189004
               clear HO_189005
               clear BK188
               clear BK189
               clear HL208_1
               clear HL209_1
               clear HL210_1
               clear HO215
               clear HB
               clear HO_3
               have HO_189002 := n0_
               have HO_189003 := n1_
               have HO_189004 := n2_
               have HO_189005 := n3_
               have BK188 := n4_
               have BK189 := n5_
               have HL208_1 := n6_
               have HL209_1 := n7_
               have HL210_1 := n8_
               have HO215 := n9_
               have HB := n10_
               have HO218 := n11_
               clear n0_ n1_ n2_ n3_ n4_ n5_ n6_ n7_ n8_ n9_ n10_ n11_
               clear ho hb hg hat
               refine hK.out _ _ ?_
               clear hK K
               refine norm_ (a' := ?_) ?_ ?_
               rotate_left
               ·show Act.put _ (some 65) _ = _
                simp only [Act.put, List.setIfInBounds_toArray, List.set_cons_zero, List.set_cons_succ, i64_w, i32_w]
                rfl
               refine pure_ (i := 25) (N := some 3) (v := ?_) (a' := ?_) (tf 26 0) rfl rfl (any_of HT_.out (by kernel_rfl)) (fun _ _ _ h => h) (Or.inl ⟨by rfl, ?_⟩) ?_ ?_
               rotate_left
               ·intro w'
                go_simp
                with_reducible rfl
               rotate_left
               ·simp only [Act.put, List.setIfInBounds_toArray, List.set_cons_zero, List.set_cons_succ, i64_w, i32_w]
                rfl
               refine done_ (done_of HT_.out (by kernel_rfl)) ?_
               try go_wp2
               go_roundg k1
               case measure => have := HK1.out; omega
               case rel => exact ⟨(y216), (wrap64 (x4_1 + 1)), (by first | rfl | (simp; done) | (simp [*]; done)), H', ⟨by have := HK1.out; omega⟩, ⟨by exact HO218.out⟩, ⟨by exact Kd.V_mono HO_189002.out (fun _ hk => ⟨hk.1.1, ⟨hk.2, ⟨hk.1.2.1, hk.1.2.2⟩⟩⟩)⟩, ⟨by exact Kd.V_mono HO_189003.out (fun _ hk => ⟨hk.1.1, ⟨hk.2, ⟨hk.1.2.1, hk.1.2.2⟩⟩⟩)⟩, ⟨by exact Kd.V_mono HO_189004.out (fun _ hk => ⟨hk.1.1, ⟨hk.2, ⟨hk.1.2.1, hk.1.2.2⟩⟩⟩)⟩, ⟨by exact Kd.V_mono HO_189005.out (fun _ hk => ⟨hk.1.1, ⟨hk.2, ⟨hk.1.2.1, hk.1.2.2⟩⟩⟩)⟩, ⟨by exact BK188.out⟩, ⟨by exact BK189.out⟩, ⟨by repeat (first | (with_reducible first | exact HB.out | apply below_alloc | apply pw_below_drewN | apply below_drew1 | refine below_set ?_ GE188.out | refine below_set ?_ GE189.out) | exact HB.out)⟩⟩
              ·rw [if_neg c30] at H
               exact absurd H (by simp)
             ·rw [if_neg c29] at H
              exact absurd H (by simp)
            ·rw [if_neg c28] at H
             exact absurd H (by simp)
           ·rw [if_neg c26] at H
            exact absurd H (by simp)
          ·rw [if_neg c25] at H
           have c25b0 : decide (x4_1 < 12) = false := decide_eq_false c25
           clear c25
           simp only [Option.some.injEq, Prod.mk.injEq] at H
           obtain ⟨rfl, rfl, rfl, rfl, rfl, rfl, rfl, rfl⟩ := H
           have hnb36 := NB188_189.out
           have hnc36 := NB189_188.out
           have hcz37_0 : wr.cell? ⟨gb188, 0, none⟩ = some (.bool a0_0) := (blk_cell BK188.out 0).trans rfl
           have hcz37_1 : wr.cell? ⟨gb188, 1, none⟩ = some (.bool a0_1) := (blk_cell BK188.out 1).trans rfl
           have hcz37_2 : wr.cell? ⟨gb188, 2, none⟩ = some (.slice A0_2 y190.length c0_2) := (blk_cell BK188.out 2).trans rfl
           have hcz37_3 : wr.cell? ⟨gb188, 3, none⟩ = some (.slice A0_3 y195.length c0_3) := (blk_cell BK188.out 3).trans rfl
           have hcz37_4 : wr.cell? ⟨gb188, 4, none⟩ = some (.slice A0_4 y200.length c0_4) := (blk_cell BK188.out 4).trans rfl
           have hcz37_5 : wr.cell? ⟨gb188, 5, none⟩ = some (.slice A0_5 l0_5.length c0_5) := (blk_cell BK188.out 5).trans rfl
           have hcz37_6 : wr.cell? ⟨gb188, 6, none⟩ = some (.bool a0_6) := (blk_cell BK188.out 6).trans rfl
           have hcz37_7 : wr.cell? ⟨gb188, 7, none⟩ = some (.bool a0_7) := (blk_cell BK188.out 7).trans rfl
           have hfz37_0 := blk_frozen BK188.out 0
           have hfz37_1 := blk_frozen BK188.out 1
           have hfz37_2 := blk_frozen BK188.out 2
           have hfz37_3 := blk_frozen BK188.out 3
           have hfz37_4 := blk_frozen BK188.out 4
           have hfz37_5 := blk_frozen BK188.out 5
           have hfz37_6 := blk_frozen BK188.out 6
           have hfz37_7 := blk_frozen BK188.out 7
           obtain ⟨Ao38, co38, eo38⟩ := Kd.N_slice HO_3.out
           subst eo38
           have hcz39_0 : wr.cell? ⟨gb189, 0, none⟩ = some (.bool false) := (blk_cell BK189.out 0).trans rfl
           have hcz39_1 : wr.cell? ⟨gb189, 1, none⟩ = some (.bool false) := (blk_cell BK189.out 1).trans rfl
           have hcz39_2 : wr.cell? ⟨gb189, 2, none⟩ = some (.slice none 0 0) := (blk_cell BK189.out 2).trans rfl
           have hcz39_3 : wr.cell? ⟨gb189, 3, none⟩ = some (.slice none 0 0) := (blk_cell BK189.out 3).trans rfl
           have hcz39_4 : wr.cell? ⟨gb189, 4, none⟩ = some (.slice none 0 0) := (blk_cell BK189.out 4).trans rfl
           have hcz39_5 : wr.cell? ⟨gb189, 5, none⟩ = some (.slice none 0 0) := (blk_cell BK189.out 5).trans rfl
           have hcz39_6 : wr.cell? ⟨gb189, 6, none⟩ = some (.bool false) := (blk_cell BK189.out 6).trans rfl
           have hcz39_7 : wr.cell? ⟨gb189, 7, none⟩ = some (.bool false) := (blk_cell BK189.out 7).trans rfl
           have hfz39_0 := blk_frozen BK189.out 0
           have hfz39_1 := blk_frozen BK189.out 1
           have hfz39_2 := blk_frozen BK189.out 2
           have hfz39_3 := blk_frozen BK189.out 3
           have hfz39_4 := blk_frozen BK189.out 4
           have hfz39_5 := blk_frozen BK189.out 5
           have hfz39_6 := blk_frozen BK189.out 6
           have hfz39_7 := blk_frozen BK189.out 7
           go_wp2
           refine bodyPost_ret (results_cell_row rfl _ _ gb189 25 #[.bool a0_0, .bool a0_1, .slice A0_2 y190.length c0_2, .slice A0_3 y195.length c0_3, .slice A0_4 y200.length c0_4, .slice Ao38 x3_1.length co38, .bool a0_6, .bool a0_7] (0, 0) _ rfl (by refine blk_put (cs := #[.bool a0_0, .bool a0_1, .slice A0_2 y190.length c0_2, .slice A0_3 y195.length c0_3, .slice A0_4 y200.length c0_4, .slice Ao38 x3_1.length co38, .bool a0_6, .bool false]) ?_ 7 _ rfl; refine blk_put (cs := #[.bool a0_0, .bool a0_1, .slice A0_2 y190.length c0_2, .slice A0_3 y195.length c0_3, .slice A0_4 y200.length c0_4, .slice Ao38 x3_1.length co38, .bool false, .bool false]) ?_ 6 _ rfl; refine blk_put (cs := #[.bool a0_0, .bool a0_1, .slice A0_2 y190.length c0_2, .slice A0_3 y195.length c0_3, .slice A0_4 y200.length c0_4, .slice none 0 0, .bool false, .bool false]) ?_ 5 _ rfl; refine blk_put (cs := #[.bool a0_0, .bool a0_1, .slice A0_2 y190.length c0_2, .slice A0_3 y195.length c0_3, .slice none 0 0, .slice none 0 0, .bool false, .bool false]) ?_ 4 _ rfl; refine blk_put (cs := #[.bool a0_0, .bool a0_1, .slice A0_2 y190.length c0_2, .slice none 0 0, .slice none 0 0, .slice none 0 0, .bool false, .bool false]) ?_ 3 _ rfl; refine blk_put (cs := #[.bool a0_0, .bool a0_1, .slice none 0 0, .slice none 0 0, .slice none 0 0, .slice none 0 0, .bool false, .bool false]) ?_ 2 _ rfl; refine blk_put (cs := #[.bool a0_0, .bool false, .slice none 0 0, .slice none 0 0, .slice none 0 0, .slice none 0 0, .bool false, .bool false]) ?_ 1 _ rfl; refine blk_put (cs := #[.bool false, .bool false, .slice none 0 0, .slice none 0 0, .slice none 0 0, .slice none 0 0, .bool false, .bool false]) ?_ 0 _ rfl; refine blk_far ?_ NB189_188.out _; exact BK189.out) Try.underlying25 rfl (by kernel_rfl)) rfl ?_
           exact ⟨_, _, _, _, by first | rfl | (simp [errW_none, errW_some] <;> rfl) | (simp only [← hji2, ← hji5, ← hji8]; first | rfl | (simp [errW_none, errW_some] <;> rfl)) | (simp [*, errW_none, errW_some] <;> rfl), by exact Kd.V_mono (Kd.V_far (p := ⟨gb189, 7, none⟩) (Kd.V_far (p := ⟨gb189, 6, none⟩) (Kd.V_far (p := ⟨gb189, 5, none⟩) (Kd.V_far (p := ⟨gb189, 4, none⟩) (Kd.V_far (p := ⟨gb189, 3, none⟩) (Kd.V_far (p := ⟨gb189, 2, none⟩) (Kd.V_far (p := ⟨gb189, 1, none⟩) (Kd.V_far (p := ⟨gb189, 0, none⟩) (Kd.V_far (p := ⟨gb188, 5, none⟩) (Kd.V_mono (Kd.V_mono HO_189002.out (fun k_ hk => (⟨hk, hk.2.2.1⟩ : _ ∧ k_ ≠ gb188))) (fun k_ hk => (⟨hk, hk.1.2.2.2⟩ : _ ∧ k_ ≠ gb189))) (fun _ hk => hk.1.2) (.slice Ao38 x3_1.length co38)) (fun _ hk => hk.2) (.bool a0_0)) (fun _ hk => hk.2) (.bool a0_1)) (fun _ hk => hk.2) (.slice A0_2 y190.length c0_2)) (fun _ hk => hk.2) (.slice A0_3 y195.length c0_3)) (fun _ hk => hk.2) (.slice A0_4 y200.length c0_4)) (fun _ hk => hk.2) (.slice Ao38 x3_1.length co38)) (fun _ hk => hk.2) (.bool a0_6)) (fun _ hk => hk.2) (.bool a0_7)) (fun _ hk => ⟨hk.1.1.1, hk.1.1.2.1⟩), by exact Kd.V_mono (Kd.V_far (p := ⟨gb189, 7, none⟩) (Kd.V_far (p := ⟨gb189, 6, none⟩) (Kd.V_far (p := ⟨gb189, 5, none⟩) (Kd.V_far (p := ⟨gb189, 4, none⟩) (Kd.V_far (p := ⟨gb189, 3, none⟩) (Kd.V_far (p := ⟨gb189, 2, none⟩) (Kd.V_far (p := ⟨gb189, 1, none⟩) (Kd.V_far (p := ⟨gb189, 0, none⟩) (Kd.V_far (p := ⟨gb188, 5, none⟩) (Kd.V_mono (Kd.V_mono HO_189003.out (fun k_ hk => (⟨hk, hk.2.2.1⟩ : _ ∧ k_ ≠ gb188))) (fun k_ hk => (⟨hk, hk.1.2.2.2⟩ : _ ∧ k_ ≠ gb189))) (fun _ hk => hk.1.2) (.slice Ao38 x3_1.length co38)) (fun _ hk => hk.2) (.bool a0_0)) (fun _ hk => hk.2) (.bool a0_1)) (fun _ hk => hk.2) (.slice A0_2 y190.length c0_2)) (fun _ hk => hk.2) (.slice A0_3 y195.length c0_3)) (fun _ hk => hk.2) (.slice A0_4 y200.length c0_4)) (fun _ hk => hk.2) (.slice Ao38 x3_1.length co38)) (fun _ hk => hk.2) (.bool a0_6)) (fun _ hk => hk.2) (.bool a0_7)) (fun _ hk => ⟨hk.1.1.1, hk.1.1.2.1⟩), by exact Kd.V_mono (Kd.V_far (p := ⟨gb189, 7, none⟩) (Kd.V_far (p := ⟨gb189, 6, none⟩) (Kd.V_far (p := ⟨gb189, 5, none⟩) (Kd.V_far (p := ⟨gb189, 4, none⟩) (Kd.V_far (p := ⟨gb189, 3, none⟩) (Kd.V_far (p := ⟨gb189, 2, none⟩) (Kd.V_far (p := ⟨gb189, 1, none⟩) (Kd.V_far (p := ⟨gb189, 0, none⟩) (Kd.V_far (p := ⟨gb188, 5, none⟩) (Kd.V_mono (Kd.V_mono HO_189004.out (fun k_ hk => (⟨hk, hk.2.2.1⟩ : _ ∧ k_ ≠ gb188))) (fun k_ hk => (⟨hk, hk.1.2.2.2⟩ : _ ∧ k_ ≠ gb189))) (fun _ hk => hk.1.2) (.slice Ao38 x3_1.length co38)) (fun _ hk => hk.2) (.bool a0_0)) (fun _ hk => hk.2) (.bool a0_1)) (fun _ hk => hk.2) (.slice A0_2 y190.length c0_2)) (fun _ hk => hk.2) (.slice A0_3 y195.length c0_3)) (fun _ hk => hk.2) (.slice A0_4 y200.length c0_4)) (fun _ hk => hk.2) (.slice Ao38 x3_1.length co38)) (fun _ hk => hk.2) (.bool a0_6)) (fun _ hk => hk.2) (.bool a0_7)) (fun _ hk => ⟨hk.1.1.1, hk.1.1.2.1⟩), by exact Kd.N_mono (Kd.N_far (p := ⟨gb189, 7, none⟩) (Kd.N_far (p := ⟨gb189, 6, none⟩) (Kd.N_far (p := ⟨gb189, 5, none⟩) (Kd.N_far (p := ⟨gb189, 4, none⟩) (Kd.N_far (p := ⟨gb189, 3, none⟩) (Kd.N_far (p := ⟨gb189, 2, none⟩) (Kd.N_far (p := ⟨gb189, 1, none⟩) (Kd.N_far (p := ⟨gb189, 0, none⟩) (Kd.N_far (p := ⟨gb188, 5, none⟩) (Kd.N_mono (Kd.N_mono HO_3.out (fun k_ hk => (⟨hk, hk.2.1⟩ : _ ∧ k_ ≠ gb188))) (fun k_ hk => (⟨hk, hk.1.2.2⟩ : _ ∧ k_ ≠ gb189))) (fun _ hk => hk.1.2) (.slice Ao38 x3_1.length co38)) (fun _ hk => hk.2) (.bool a0_0)) (fun _ hk => hk.2) (.bool a0_1)) (fun _ hk => hk.2) (.slice A0_2 y190.length c0_2)) (fun _ hk => hk.2) (.slice A0_3 y195.length c0_3)) (fun _ hk => hk.2) (.slice A0_4 y200.length c0_4)) (fun _ hk => hk.2) (.slice Ao38 x3_1.length co38)) (fun _ hk => hk.2) (.bool a0_6)) (fun _ hk => hk.2) (.bool a0_7)) (fun _ hk => hk.1.1.1), by repeat (first | (with_reducible first | exact HB.out | apply below_alloc | apply pw_below_drewN | apply below_drew1 | refine below_set ?_ GE188.out | refine below_set ?_ GE189.out) | exact HB.out)⟩
         ·rw [if_neg c24] at H
          have c24b0 : decide (x4_1 < (l0_5.length : Int)) = false := decide_eq_false c24
          clear c24
          simp only [Option.some.injEq, Prod.mk.injEq] at H
          obtain ⟨rfl, rfl, rfl, rfl, rfl, rfl, rfl, rfl⟩ := H
          have hnb40 := NB188_189.out
          have hnc40 := NB189_188.out
          have hcz41_0 : wr.cell? ⟨gb188, 0, none⟩ = some (.bool a0_0) := (blk_cell BK188.out 0).trans rfl
          have hcz41_1 : wr.cell? ⟨gb188, 1, none⟩ = some (.bool a0_1) := (blk_cell BK188.out 1).trans rfl
          have hcz41_2 : wr.cell? ⟨gb188, 2, none⟩ = some (.slice A0_2 y190.length c0_2) := (blk_cell BK188.out 2).trans rfl
          have hcz41_3 : wr.cell? ⟨gb188, 3, none⟩ = some (.slice A0_3 y195.length c0_3) := (blk_cell BK188.out 3).trans rfl
          have hcz41_4 : wr.cell? ⟨gb188, 4, none⟩ = some (.slice A0_4 y200.length c0_4) := (blk_cell BK188.out 4).trans rfl
          have hcz41_5 : wr.cell? ⟨gb188, 5, none⟩ = some (.slice A0_5 l0_5.length c0_5) := (blk_cell BK188.out 5).trans rfl
          have hcz41_6 : wr.cell? ⟨gb188, 6, none⟩ = some (.bool a0_6) := (blk_cell BK188.out 6).trans rfl
          have hcz41_7 : wr.cell? ⟨gb188, 7, none⟩ = some (.bool a0_7) := (blk_cell BK188.out 7).trans rfl
          have hfz41_0 := blk_frozen BK188.out 0
          have hfz41_1 := blk_frozen BK188.out 1
          have hfz41_2 := blk_frozen BK188.out 2
          have hfz41_3 := blk_frozen BK188.out 3
          have hfz41_4 := blk_frozen BK188.out 4
          have hfz41_5 := blk_frozen BK188.out 5
          have hfz41_6 := blk_frozen BK188.out 6
          have hfz41_7 := blk_frozen BK188.out 7
          obtain ⟨Ao42, co42, eo42⟩ := Kd.N_slice HO_3.out
          subst eo42
          have hcz43_0 : wr.cell? ⟨gb189, 0, none⟩ = some (.bool false) := (blk_cell BK189.out 0).trans rfl
          have hcz43_1 : wr.cell? ⟨gb189, 1, none⟩ = some (.bool false) := (blk_cell BK189.out 1).trans rfl
          have hcz43_2 : wr.cell? ⟨gb189, 2, none⟩ = some (.slice none 0 0) := (blk_cell BK189.out 2).trans rfl
          have hcz43_3 : wr.cell? ⟨gb189, 3, none⟩ = some (.slice none 0 0) := (blk_cell BK189.out 3).trans rfl
          have hcz43_4 : wr.cell? ⟨gb189, 4, none⟩ = some (.slice none 0 0) := (blk_cell BK189.out 4).trans rfl
          have hcz43_5 : wr.cell? ⟨gb189, 5, none⟩ = some (.slice none 0 0) := (blk_cell BK189.out 5).trans rfl
          have hcz43_6 : wr.cell? ⟨gb189, 6, none⟩ = some (.bool false) := (blk_cell BK189.out 6).trans rfl
          have hcz43_7 : wr.cell? ⟨gb189, 7, none⟩ = some (.bool false) := (blk_cell BK189.out 7).trans rfl
          have hfz43_0 := blk_frozen BK189.out 0
          have hfz43_1 := blk_frozen BK189.out 1
          have hfz43_2 := blk_frozen BK189.out 2
          have hfz43_3 := blk_frozen BK189.out 3
          have hfz43_4 := blk_frozen BK189.out 4
          have hfz43_5 := blk_frozen BK189.out 5
          have hfz43_6 := blk_frozen BK189.out 6
          have hfz43_7 := blk_frozen BK189.out 7
          go_wp2
          refine bodyPost_ret (results_cell_row rfl _ _ gb189 25 #[.bool a0_0, .bool a0_1, .slice A0_2 y190.length c0_2, .slice A0_3 y195.length c0_3, .slice A0_4 y200.length c0_4, .slice Ao42 x3_1.length co42, .bool a0_6, .bool a0_7] (0, 0) _ rfl (by refine blk_put (cs := #[.bool a0_0, .bool a0_1, .slice A0_2 y190.length c0_2, .slice A0_3 y195.length c0_3, .slice A0_4 y200.length c0_4, .slice Ao42 x3_1.length co42, .bool a0_6, .bool false]) ?_ 7 _ rfl; refine blk_put (cs := #[.bool a0_0, .bool a0_1, .slice A0_2 y190.length c0_2, .slice A0_3 y195.length c0_3, .slice A0_4 y200.length c0_4, .slice Ao42 x3_1.length co42, .bool false, .bool false]) ?_ 6 _ rfl; refine blk_put (cs := #[.bool a0_0, .bool a0_1, .slice A0_2 y190.length c0_2, .slice A0_3 y195.length c0_3, .slice A0_4 y200.length c0_4, .slice none 0 0, .bool false, .bool false]) ?_ 5 _ rfl; refine blk_put (cs := #[.bool a0_0, .bool a0_1, .slice A0_2 y190.length c0_2, .slice A0_3 y195.length c0_3, .slice none 0 0, .slice none 0 0, .bool false, .bool false]) ?_ 4 _ rfl; refine blk_put (cs := #[.bool a0_0, .bool a0_1, .slice A0_2 y190.length c0_2, .slice none 0 0, .slice none 0 0, .slice none 0 0, .bool false, .bool false]) ?_ 3 _ rfl; refine blk_put (cs := #[.bool a0_0, .bool a0_1, .slice none 0 0, .slice none 0 0, .slice none 0 0, .slice none 0 0, .bool false, .bool false]) ?_ 2 _ rfl; refine blk_put (cs := #[.bool a0_0, .bool false, .slice none 0 0, .slice none 0 0, .slice none 0 0, .slice none 0 0, .bool false, .bool false]) ?_ 1 _ rfl; refine blk_put (cs := #[.bool false, .bool false, .slice none 0 0, .slice none 0 0, .slice none 0 0, .slice none 0 0, .bool false, .bool false]) ?_ 0 _ rfl; refine blk_far ?_ NB189_188.out _; exact BK189.out) Try.underlying25 rfl (by kernel_rfl)) rfl ?_
          exact ⟨_, _, _, _, by first | rfl | (simp [errW_none, errW_some] <;> rfl) | (simp only [← hji2, ← hji5, ← hji8]; first | rfl | (simp [errW_none, errW_some] <;> rfl)) | (simp [*, errW_none, errW_some] <;> rfl), by exact Kd.V_mono (Kd.V_far (p := ⟨gb189, 7, none⟩) (Kd.V_far (p := ⟨gb189, 6, none⟩) (Kd.V_far (p := ⟨gb189, 5, none⟩) (Kd.V_far (p := ⟨gb189, 4, none⟩) (Kd.V_far (p := ⟨gb189, 3, none⟩) (Kd.V_far (p := ⟨gb189, 2, none⟩) (Kd.V_far (p := ⟨gb189, 1, none⟩) (Kd.V_far (p := ⟨gb189, 0, none⟩) (Kd.V_far (p := ⟨gb188, 5, none⟩) (Kd.V_mono (Kd.V_mono HO_189002.out (fun k_ hk => (⟨hk, hk.2.2.1⟩ : _ ∧ k_ ≠ gb188))) (fun k_ hk => (⟨hk, hk.1.2.2.2⟩ : _ ∧ k_ ≠ gb189))) (fun _ hk => hk.1.2) (.slice Ao42 x3_1.length co42)) (fun _ hk => hk.2) (.bool a0_0)) (fun _ hk => hk.2) (.bool a0_1)) (fun _ hk => hk.2) (.slice A0_2 y190.length c0_2)) (fun _ hk => hk.2) (.slice A0_3 y195.length c0_3)) (fun _ hk => hk.2) (.slice A0_4 y200.length c0_4)) (fun _ hk => hk.2) (.slice Ao42 x3_1.length co42)) (fun _ hk => hk.2) (.bool a0_6)) (fun _ hk => hk.2) (.bool a0_7)) (fun _ hk => ⟨hk.1.1.1, hk.1.1.2.1⟩), by exact Kd.V_mono (Kd.V_far (p := ⟨gb189, 7, none⟩) (Kd.V_far (p := ⟨gb189, 6, none⟩) (Kd.V_far (p := ⟨gb189, 5, none⟩) (Kd.V_far (p := ⟨gb189, 4, none⟩) (Kd.V_far (p := ⟨gb189, 3, none⟩) (Kd.V_far (p := ⟨gb189, 2, none⟩) (Kd.V_far (p := ⟨gb189, 1, none⟩) (Kd.V_far (p := ⟨gb189, 0, none⟩) (Kd.V_far (p := ⟨gb188, 5, none⟩) (Kd.V_mono (Kd.V_mono HO_189003.out (fun k_ hk => (⟨hk, hk.2.2.1⟩ : _ ∧ k_ ≠ gb188))) (fun k_ hk => (⟨hk, hk.1.2.2.2⟩ : _ ∧ k_ ≠ gb189))) (fun _ hk => hk.1.2) (.slice Ao42 x3_1.length co42)) (fun _ hk => hk.2) (.bool a0_0)) (fun _ hk => hk.2) (.bool a0_1)) (fun _ hk => hk.2) (.slice A0_2 y190.length c0_2)) (fun _ hk => hk.2) (.slice A0_3 y195.length c0_3)) (fun _ hk => hk.2) (.slice A0_4 y200.length c0_4)) (fun _ hk => hk.2) (.slice Ao42 x3_1.length co42)) (fun _ hk => hk.2) (.bool a0_6)) (fun _ hk => hk.2) (.bool a0_7)) (fun _ hk => ⟨hk.1.1.1, hk.1.1.2.1⟩), by exact Kd.V_mono (Kd.V_far (p := ⟨gb189, 7, none⟩) (Kd.V_far (p := ⟨gb189, 6, none⟩) (Kd.V_far (p := ⟨gb189, 5, none⟩) (Kd.V_far (p := ⟨gb189, 4, none⟩) (Kd.V_far (p := ⟨gb189, 3, none⟩) (Kd.V_far (p := ⟨gb189, 2, none⟩) (Kd.V_far (p := ⟨gb189, 1, none⟩) (Kd.V_far (p := ⟨gb189, 0, none⟩) (Kd.V_far (p := ⟨gb188, 5, none⟩) (Kd.V_mono (Kd.V_mono HO_189004.out (fun k_ hk => (⟨hk, hk.2.2.1⟩ : _ ∧ k_ ≠ gb188))) (fun k_ hk => (⟨hk, hk.1.2.2.2⟩ : _ ∧ k_ ≠ gb189))) (fun _ hk => hk.1.2) (.slice Ao42 x3_1.length co42)) (fun _ hk => hk.2) (.bool a0_0)) (fun _ hk => hk.2) (.bool a0_1)) (fun _ hk => hk.2) (.slice A0_2 y190.length c0_2)) (fun _ hk => hk.2) (.slice A0_3 y195.length c0_3)) (fun _ hk => hk.2) (.slice A0_4 y200.length c0_4)) (fun _ hk => hk.2) (.slice Ao42 x3_1.length co42)) (fun _ hk => hk.2) (.bool a0_6)) (fun _ hk => hk.2) (.bool a0_7)) (fun _ hk => ⟨hk.1.1.1, hk.1.1.2.1⟩), by exact Kd.N_mono (Kd.N_far (p := ⟨gb189, 7, none⟩) (Kd.N_far (p := ⟨gb189, 6, none⟩) (Kd.N_far (p := ⟨gb189, 5, none⟩) (Kd.N_far (p := ⟨gb189, 4, none⟩) (Kd.N_far (p := ⟨gb189, 3, none⟩) (Kd.N_far (p := ⟨gb189, 2, none⟩) (Kd.N_far (p := ⟨gb189, 1, none⟩) (Kd.N_far (p := ⟨gb189, 0, none⟩) (Kd.N_far (p := ⟨gb188, 5, none⟩) (Kd.N_mono (Kd.N_mono HO_3.out (fun k_ hk => (⟨hk, hk.2.1⟩ : _ ∧ k_ ≠ gb188))) (fun k_ hk => (⟨hk, hk.1.2.2⟩ : _ ∧ k_ ≠ gb189))) (fun _ hk => hk.1.2) (.slice Ao42 x3_1.length co42)) (fun _ hk => hk.2) (.bool a0_0)) (fun _ hk => hk.2) (.bool a0_1)) (fun _ hk => hk.2) (.slice A0_2 y190.length c0_2)) (fun _ hk => hk.2) (.slice A0_3 y195.length c0_3)) (fun _ hk => hk.2) (.slice A0_4 y200.length c0_4)) (fun _ hk => hk.2) (.slice Ao42 x3_1.length co42)) (fun _ hk => hk.2) (.bool a0_6)) (fun _ hk => hk.2) (.bool a0_7)) (fun _ hk => hk.1.1.1), by repeat (first | (with_reducible first | exact HB.out | apply below_alloc | apply pw_below_drewN | apply below_drew1 | refine below_set ?_ GE188.out | refine below_set ?_ GE189.out) | exact HB.out)⟩
      ·rw [if_neg c10] at H
       exact absurd H (by simp)
     ·rw [if_neg c9] at H
      exact absurd H (by simp)
    ·rw [if_neg c7] at H
     exact absurd H (by simp)
   ·rw [if_neg c6] at H
    exact absurd H (by simp)
  ·rw [if_neg c4] at H
   exact absurd H (by simp)
 ·rw [if_neg c3] at H
  exact absurd H (by simp)

end Go.Proofs.Ytjofofpplpmgjaa.Pr
namespace Go.Proofs.Ytjofofpplpmgjaa.Pure
set_option linter.unusedVariables false
set_option linter.unusedSimpArgs false
open Go.RowKit Go.Lib Go.Shelf Go.Proofs.YtjofofpplpmgjaaW.PrintWords Go.Proofs.YtjofofpplpmgjaaW.PrintLast Go.Proofs.YtjofofpplpmgjaaW.PrintMore Go.Proofs.Ytjofofpplpmgjaa.Pr

def cutP (p : S35) : S35 := ⟨p.f0, p.f1.take 70⟩
def bound (c : Cf) : Cf := { c with els := c.els.take 70, rep := c.rep.take 70, ats := c.ats.take 70, per := (c.per.take 12).map cutP }
theorem mn70 (n : Nat) : 0 ≤ mn (n : Int) 70 ∧ mn (n : Int) 70 ≤ (n : Int) ∧ (mn (n : Int) 70).toNat = min n 70 := by
  unfold mn; split <;> omega
theorem take_min {α : Type} (l : List α) (n : Nat) : l.take (min l.length n) = l.take n := by
  rcases Nat.le_total l.length n with h | h
  · rw [Nat.min_eq_left h, List.take_length, List.take_of_length_le h]
  · rw [Nat.min_eq_right h]
theorem take70 {α : Type} (l : List α) : l.take (mn (l.length : Int) 70).toNat = l.take 70 := by rw [(mn70 _).2.2, take_min]
theorem bound_l0 (c : Cf) (a2 a3 a4 : List ByteArray) : ∀ (d i : Nat) (acc : List S35), i + d = min c.per.length 12 → acc.length = i → ∀ k, d < k →
    boltinglaw12_Bound.l0 k acc (i : Int) c.al c.aal a2 a3 a4 c.per c.com c.dt = some (c.al, c.aal, a2, a3, a4, acc ++ ((c.per.drop i).take d).map cutP, c.com, c.dt)
  | 0, i, acc, h, ha, k, hk => by
    obtain ⟨k, rfl⟩ : ∃ m, k = m + 1 := ⟨k - 1, by omega⟩
    unfold boltinglaw12_Bound.l0
    simp only [List.take_zero, List.map_nil, List.append_nil]
    by_cases h1 : (i : Int) < (c.per.length : Int)
    · rw [if_pos h1, if_neg (by omega)]
    · rw [if_neg h1]
  | d + 1, i, acc, h, ha, k, hk => by
    obtain ⟨k, rfl⟩ : ∃ m, k = m + 1 := ⟨k - 1, by omega⟩
    have hi : i < c.per.length := by omega
    have hx : c.per[i]? = some c.per[i] := List.getElem?_eq_getElem hi
    have hr := rd35_at hx
    unfold boltinglaw12_Bound.l0
    rw [hr, if_pos (by omega), if_pos (by omega), if_pos (by omega), if_pos (mn70 _).1, if_pos (mn70 _).2.1, if_pos (by omega), take70, wrap_succ (by omega) (by omega)]
    rw [show ((i : Int) + 1) = ((i + 1 : Nat) : Int) from by omega, bound_l0 c a2 a3 a4 d (i + 1) _ (by omega) (by simp [ha]) k (by omega)]
    have hd : c.per.drop i = c.per[i] :: c.per.drop (i + 1) := List.drop_eq_getElem_cons hi
    rw [hd, List.take_succ_cons, List.map_cons, List.append_assoc]
    rfl
theorem bound_f (c : Cf) {k : Nat} (hk : 13 < k) : boltinglaw12_Bound.f k c.al c.aal c.els c.rep c.ats c.per c.com c.dt = some (c.al, c.aal, (bound c).els, (bound c).rep, (bound c).ats, (bound c).per, c.com, c.dt) := by
  unfold boltinglaw12_Bound.f
  rw [if_pos (mn70 _).1, if_pos (mn70 _).2.1, if_pos (mn70 _).1, if_pos (mn70 _).2.1, if_pos (mn70 _).1, if_pos (mn70 _).2.1, take70, take70, take70]
  have := bound_l0 c (c.els.take 70) (c.rep.take 70) (c.ats.take 70) (min c.per.length 12) 0 [] (by omega) rfl k (by omega)
  rw [List.drop_zero, take_min, List.nil_append] at this
  exact this
theorem bound_short (c : Cf) : (bound c).els.length ≤ 70 ∧ (bound c).rep.length ≤ 70 ∧ (bound c).ats.length ≤ 70 ∧ (bound c).per.length ≤ 12 ∧ ∀ p ∈ (bound c).per, p.f1.length ≤ 70 := by
  refine ⟨List.length_take_le _ _, List.length_take_le _ _, List.length_take_le _ _, ?_, ?_⟩
  · show ((c.per.take 12).map cutP).length ≤ 12
    rw [List.length_map]; exact List.length_take_le _ _
  · intro p hp
    obtain ⟨q, _, rfl⟩ := List.mem_map.1 (show p ∈ (c.per.take 12).map cutP from hp)
    exact List.length_take_le _ _
theorem bound_fit (c : Cf) : Fit (bound c) := by
  obtain ⟨h1, h2, h3, h4, h5⟩ := bound_short c
  exact ⟨by omega, by omega, by omega, by omega, fun p hp => by have := h5 p hp; omega⟩
theorem elem_k {c : Cf} (hf : Fit c) (n : ByteArray) {k : Nat} (hk : 2000 ≤ k) : config_Element.f k c.al c.aal c.els c.rep c.ats c.per c.com c.dt n = some (elemI c n) := by
  unfold config_Element.f elemI
  rw [contains_f _ _ (by have := hf.rep; omega) (by have := hf.rep; omega), Option.bind_some, contains_f _ _ (by have := hf.els; omega) (by have := hf.els; omega), Option.bind_some]
  split <;> (try split) <;> rfl
theorem attr_k {c : Cf} (hf : Fit c) (e a : ByteArray) : config_Attr.f c.al c.aal c.els c.rep c.ats c.per c.com c.dt e a = some (attrB c e a) := if_pos (of_fit hf)
theorem fixed_k : boltinglaw12_fixed.f = some true := rfl
theorem check_k {c : Cf} (hf : Fit c) (ht : Text c) : config_Check.f c.al c.aal c.els c.rep c.ats c.per c.com c.dt = some (checkI c) := if_pos ⟨of_fit hf, of_text ht⟩
end Go.Proofs.Ytjofofpplpmgjaa.Pure
namespace Go.Proofs.Ytjofofpplpmgjaa
set_option linter.unusedVariables false
set_option linter.unusedSimpArgs false
open Go.ChangeShapes Go.WideShapes Go.RowKit Go.Proofs.Ytjofofpplpmgjaa.Pr Go.Proofs.Ytjofofpplpmgjaa.Pure Go.Proofs.YtjofofpplpmgjaaW.PrintWords
abbrev Short (s : ByteArray) : Prop := s.size ≤ 140737488351232
structure Sized (c : Cf) : Prop where
  els : ∀ x ∈ c.els, Short x
  rep : ∀ x ∈ c.rep, Short x
  ats : ∀ x ∈ c.ats, Short x
  per : ∀ p ∈ c.per, Short p.f0 ∧ ∀ x ∈ p.f1, Short x
abbrev kStr : Kd (List ByteArray) := Kd.slice 9 Kd.string
abbrev kC : Kd (Bool × Bool × List ByteArray × List ByteArray × List ByteArray × List S35 × Bool × Bool) :=
  Kd.pair Kd.bool (Kd.pair Kd.bool (Kd.pair kStr (Kd.pair kStr (Kd.pair kStr (Kd.pair (Kd.slice 35 k35) (Kd.pair Kd.bool Kd.bool))))))
theorem opens_strs : OpensS Try.prog 22 kStr (fun l => ∀ x ∈ l, Short x) := opensS_slice (by kernel_rfl) Try.underlying22 (opensS_string (by kernel_rfl) Try.underlying9)
theorem opens_bool_ : OpensS Try.prog 4 Kd.bool (fun _ => True) := opensS_bool (by kernel_rfl) Try.underlying4
theorem opens_str_ : OpensS Try.prog 9 Kd.string Short := opensS_string (by kernel_rfl) Try.underlying9
theorem opens_per : OpensS Try.prog 35 k35 (fun x => Short x.f0 ∧ ∀ y ∈ x.f1, Short y) := by
  have h := opensS_struct (P := Try.prog) (d := Kd.pair Kd.string kStr) (S := fun x => Short x.1 ∧ ∀ y ∈ x.2, Short y) (fun x : S35 => (x.f0, x.f1)) Try.underlying35 rfl (by kernel_rfl)
    (opensTail_cons (S := Short) (T := fun l => ∀ y ∈ l, Short y) rfl opens_str_ (opensTail_last (d := kStr) rfl opens_strs)) (fun a => ⟨⟨a.1, a.2⟩, rfl⟩)
  exact h
theorem opens_pers : OpensS Try.prog 23 (Kd.slice 35 k35) (fun l => ∀ p ∈ l, Short p.f0 ∧ ∀ y ∈ p.f1, Short y) := opensS_slice (by kernel_rfl) Try.underlying23 opens_per
theorem opens_conf : OpensS Try.prog 25 (Kd.iso kC (fun x => x)) (fun x => True ∧ True ∧ (∀ y ∈ x.2.2.1, Short y) ∧ (∀ y ∈ x.2.2.2.1, Short y) ∧ (∀ y ∈ x.2.2.2.2.1, Short y) ∧ (∀ p ∈ x.2.2.2.2.2.1, Short p.f0 ∧ ∀ y ∈ p.f1, Short y) ∧ True ∧ True) := by
  have h7 : OpensTail Try.prog [⟨"DataAttrs", 4, 7, false, "", "", 105⟩] 7 Kd.bool (fun _ => True) := opensTail_last rfl opens_bool_
  have h6 : OpensTail Try.prog [⟨"Comments", 4, 6, false, "", "", 104⟩, ⟨"DataAttrs", 4, 7, false, "", "", 105⟩] 6 (Kd.pair Kd.bool Kd.bool) (fun (x : Bool × Bool) => (True) ∧ (True)) := opensTail_cons (S := fun (x : Bool) => True) (T := fun (x : Bool) => (True)) rfl opens_bool_ h7
  have h5 : OpensTail Try.prog [⟨"Per", 23, 5, false, "", "", 80⟩, ⟨"Comments", 4, 6, false, "", "", 104⟩, ⟨"DataAttrs", 4, 7, false, "", "", 105⟩] 5 (Kd.pair (Kd.slice 35 k35) (Kd.pair Kd.bool Kd.bool)) (fun (x : List S35 × Bool × Bool) => (∀ p ∈ x.1, Short p.f0 ∧ ∀ y ∈ p.f1, Short y) ∧ (True) ∧ (True)) := opensTail_cons (S := fun (x : List S35) => ∀ p ∈ x, Short p.f0 ∧ ∀ y ∈ p.f1, Short y) (T := fun (x : Bool × Bool) => (True) ∧ (True)) rfl opens_pers h6
  have h4 : OpensTail Try.prog [⟨"Attrs", 22, 4, false, "", "", 56⟩, ⟨"Per", 23, 5, false, "", "", 80⟩, ⟨"Comments", 4, 6, false, "", "", 104⟩, ⟨"DataAttrs", 4, 7, false, "", "", 105⟩] 4 (Kd.pair kStr (Kd.pair (Kd.slice 35 k35) (Kd.pair Kd.bool Kd.bool))) (fun (x : List ByteArray × List S35 × Bool × Bool) => (∀ y ∈ x.1, Short y) ∧ (∀ p ∈ x.2.1, Short p.f0 ∧ ∀ y ∈ p.f1, Short y) ∧ (True) ∧ (True)) := opensTail_cons (S := fun (x : List ByteArray) => ∀ y ∈ x, Short y) (T := fun (x : List S35 × Bool × Bool) => (∀ p ∈ x.1, Short p.f0 ∧ ∀ y ∈ p.f1, Short y) ∧ (True) ∧ (True)) rfl opens_strs h5
  have h3 : OpensTail Try.prog [⟨"Replace", 22, 3, false, "", "", 32⟩, ⟨"Attrs", 22, 4, false, "", "", 56⟩, ⟨"Per", 23, 5, false, "", "", 80⟩, ⟨"Comments", 4, 6, false, "", "", 104⟩, ⟨"DataAttrs", 4, 7, false, "", "", 105⟩] 3 (Kd.pair kStr (Kd.pair kStr (Kd.pair (Kd.slice 35 k35) (Kd.pair Kd.bool Kd.bool)))) (fun (x : List ByteArray × List ByteArray × List S35 × Bool × Bool) => (∀ y ∈ x.1, Short y) ∧ (∀ y ∈ x.2.1, Short y) ∧ (∀ p ∈ x.2.2.1, Short p.f0 ∧ ∀ y ∈ p.f1, Short y) ∧ (True) ∧ (True)) := opensTail_cons (S := fun (x : List ByteArray) => ∀ y ∈ x, Short y) (T := fun (x : List ByteArray × List S35 × Bool × Bool) => (∀ y ∈ x.1, Short y) ∧ (∀ p ∈ x.2.1, Short p.f0 ∧ ∀ y ∈ p.f1, Short y) ∧ (True) ∧ (True)) rfl opens_strs h4
  have h2 : OpensTail Try.prog [⟨"Elements", 22, 2, false, "", "", 8⟩, ⟨"Replace", 22, 3, false, "", "", 32⟩, ⟨"Attrs", 22, 4, false, "", "", 56⟩, ⟨"Per", 23, 5, false, "", "", 80⟩, ⟨"Comments", 4, 6, false, "", "", 104⟩, ⟨"DataAttrs", 4, 7, false, "", "", 105⟩] 2 (Kd.pair kStr (Kd.pair kStr (Kd.pair kStr (Kd.pair (Kd.slice 35 k35) (Kd.pair Kd.bool Kd.bool))))) (fun (x : List ByteArray × List ByteArray × List ByteArray × List S35 × Bool × Bool) => (∀ y ∈ x.1, Short y) ∧ (∀ y ∈ x.2.1, Short y) ∧ (∀ y ∈ x.2.2.1, Short y) ∧ (∀ p ∈ x.2.2.2.1, Short p.f0 ∧ ∀ y ∈ p.f1, Short y) ∧ (True) ∧ (True)) := opensTail_cons (S := fun (x : List ByteArray) => ∀ y ∈ x, Short y) (T := fun (x : List ByteArray × List ByteArray × List S35 × Bool × Bool) => (∀ y ∈ x.1, Short y) ∧ (∀ y ∈ x.2.1, Short y) ∧ (∀ p ∈ x.2.2.1, Short p.f0 ∧ ∀ y ∈ p.f1, Short y) ∧ (True) ∧ (True)) rfl opens_strs h3
  have h1 : OpensTail Try.prog [⟨"AttrsAllow", 4, 1, false, "", "", 1⟩, ⟨"Elements", 22, 2, false, "", "", 8⟩, ⟨"Replace", 22, 3, false, "", "", 32⟩, ⟨"Attrs", 22, 4, false, "", "", 56⟩, ⟨"Per", 23, 5, false, "", "", 80⟩, ⟨"Comments", 4, 6, false, "", "", 104⟩, ⟨"DataAttrs", 4, 7, false, "", "", 105⟩] 1 (Kd.pair Kd.bool (Kd.pair kStr (Kd.pair kStr (Kd.pair kStr (Kd.pair (Kd.slice 35 k35) (Kd.pair Kd.bool Kd.bool)))))) (fun (x : Bool × List ByteArray × List ByteArray × List ByteArray × List S35 × Bool × Bool) => (True) ∧ (∀ y ∈ x.2.1, Short y) ∧ (∀ y ∈ x.2.2.1, Short y) ∧ (∀ y ∈ x.2.2.2.1, Short y) ∧ (∀ p ∈ x.2.2.2.2.1, Short p.f0 ∧ ∀ y ∈ p.f1, Short y) ∧ (True) ∧ (True)) := opensTail_cons (S := fun (x : Bool) => True) (T := fun (x : List ByteArray × List ByteArray × List ByteArray × List S35 × Bool × Bool) => (∀ y ∈ x.1, Short y) ∧ (∀ y ∈ x.2.1, Short y) ∧ (∀ y ∈ x.2.2.1, Short y) ∧ (∀ p ∈ x.2.2.2.1, Short p.f0 ∧ ∀ y ∈ p.f1, Short y) ∧ (True) ∧ (True)) rfl opens_bool_ h2
  have h0 : OpensTail Try.prog [⟨"Allow", 4, 0, false, "", "", 0⟩, ⟨"AttrsAllow", 4, 1, false, "", "", 1⟩, ⟨"Elements", 22, 2, false, "", "", 8⟩, ⟨"Replace", 22, 3, false, "", "", 32⟩, ⟨"Attrs", 22, 4, false, "", "", 56⟩, ⟨"Per", 23, 5, false, "", "", 80⟩, ⟨"Comments", 4, 6, false, "", "", 104⟩, ⟨"DataAttrs", 4, 7, false, "", "", 105⟩] 0 (Kd.pair Kd.bool (Kd.pair Kd.bool (Kd.pair kStr (Kd.pair kStr (Kd.pair kStr (Kd.pair (Kd.slice 35 k35) (Kd.pair Kd.bool Kd.bool))))))) (fun (x : Bool × Bool × List ByteArray × List ByteArray × List ByteArray × List S35 × Bool × Bool) => (True) ∧ (True) ∧ (∀ y ∈ x.2.2.1, Short y) ∧ (∀ y ∈ x.2.2.2.1, Short y) ∧ (∀ y ∈ x.2.2.2.2.1, Short y) ∧ (∀ p ∈ x.2.2.2.2.2.1, Short p.f0 ∧ ∀ y ∈ p.f1, Short y) ∧ (True) ∧ (True)) := opensTail_cons (S := fun (x : Bool) => True) (T := fun (x : Bool × List ByteArray × List ByteArray × List ByteArray × List S35 × Bool × Bool) => (True) ∧ (∀ y ∈ x.2.1, Short y) ∧ (∀ y ∈ x.2.2.1, Short y) ∧ (∀ y ∈ x.2.2.2.1, Short y) ∧ (∀ p ∈ x.2.2.2.2.1, Short p.f0 ∧ ∀ y ∈ p.f1, Short y) ∧ (True) ∧ (True)) rfl opens_bool_ h1
  exact opensS_struct (d := kC) (fun x => x) Try.underlying25 rfl (by kernel_rfl) h0 (fun a => ⟨a, rfl⟩)
theorem open_conf {H : Type} {enc : TypeId × Value → H} {w : World} {base : Nat} {spare : Nat → Bool} {held : Bool} {v : Value} {d : DataW H} {p : List MemPlace} {r : Reach} {b0 : Nat}
    (hv : Value.okWide Try.prog w r b0 25 v) (h : DataW.Trod enc Try.prog w base spare held 25 v d p) (hw : ∀ n ∈ d.weights Try.prog 25, n ≤ reachBytes) :
    ∃ (c : Cf) (A2 : Option Addr) (c2 : Nat) (A3 : Option Addr) (c3 : Nat) (A4 : Option Addr) (c4 : Nat) (A5 : Option Addr) (c5 : Nat), v = .agg #[.bool c.al, .bool c.aal, .slice A2 c.els.length c2, .slice A3 c.rep.length c3, .slice A4 c.ats.length c4, .slice A5 c.per.length c5, .bool c.com, .bool c.dt] ∧
      (c.els.length ≤ c2 ∧ Kd.string.C w A2 c.els.length c.els) ∧ (c.rep.length ≤ c3 ∧ Kd.string.C w A3 c.rep.length c.rep) ∧ (c.ats.length ≤ c4 ∧ Kd.string.C w A4 c.ats.length c.ats) ∧ (c.per.length ≤ c5 ∧ k35.C w A5 c.per.length c.per) ∧ Sized c := by
  obtain ⟨cs, rfl, hsz⟩ := okWide_struct Try.underlying25 hv
  obtain ⟨fuel, hf⟩ := h
  obtain ⟨⟨a0, a1, l2, l3, l4, l5, a6, a7⟩, hK, hS⟩ := opens_conf.2 enc w base spare held fuel _ _ hf hw
  obtain ⟨_, _, hcs, rfl, ⟨_, _, rfl, rfl, ⟨_, _, rfl, ⟨A2, c2, rfl, k2, g2⟩, ⟨_, _, rfl, ⟨A3, c3, rfl, k3, g3⟩, ⟨_, _, rfl, ⟨A4, c4, rfl, k4, g4⟩, ⟨_, _, rfl, ⟨A5, c5, rfl, k5, g5⟩, ⟨_, _, rfl, rfl, rfl⟩⟩⟩⟩⟩⟩⟩ := hK
  obtain ⟨_, _, s2, s3, s4, s5, _, _⟩ := hS
  refine ⟨⟨a0, a1, l2, l3, l4, l5, a6, a7⟩, A2, c2, A3, c3, A4, c4, A5, c5, ?_, ⟨k2, g2⟩, ⟨k3, g3⟩, ⟨k4, g4⟩, ⟨k5, g5⟩, ⟨s2, s3, s4, s5⟩⟩
  obtain ⟨l⟩ := cs
  simp only [Value.cells] at hcs
  rw [show l = _ from hcs]
  rfl
end Go.Proofs.Ytjofofpplpmgjaa
namespace Go.Proofs.Ytjofofpplpmgjaa.Pr
set_option linter.unusedVariables false
set_option linter.unusedSimpArgs false
open Go.RowKit Go.Lib Go.Shelf Go.Sort Go.Proofs.Ytjofofpplpmgjaa Go.Proofs.YtjofofpplpmgjaaW.PrintWords Go.Proofs.YtjofofpplpmgjaaW.PrintLast Go.Proofs.YtjofofpplpmgjaaW.PrintMore

def sortRen : Go.Shelf.Ren := ⟨fun | 20 => 81 | n => n, fun | 22 => 23 | 24 => 35 | 25 => 57 | n => n, fun n => n⟩
theorem sortLay : Go.Proofs.SlLaysF0.n20 Try.prog sortRen := {
  mixed := by kernel_rfl
  f20 := ⟨"slices.insertionSortCmpFunc[bolting/api.Per]", by decide, Try.func81.trans (congrArg some (by kernel_rfl))⟩
  t0 := Try.underlying0
  a0 := Try.isAgg0
  z0 := Try.sizeOf0
  v0 := Try.zeroValue0
  t3 := Try.underlying3
  a3 := Try.isAgg3
  z3 := Try.sizeOf3
  v3 := Try.zeroValue3
  t4 := Try.underlying4
  a4 := Try.isAgg4
  z4 := Try.sizeOf4
  v4 := Try.zeroValue4
  t22 := Try.underlying23
  a22 := Try.isAgg23
  z22 := Try.sizeOf23
  v22 := Try.zeroValue23
  t25 := Try.underlying57
  a25 := Try.isAgg57
  z25 := Try.sizeOf57
  v25 := Try.zeroValue57 }
abbrev RowP : Type := ByteArray × {v : Value // v.oneCell' = true}
def encP (x : RowP) : List Value := [.string x.1, x.2.1]
instance : Inhabited RowP := ⟨(ByteArray.empty, ⟨.slice none 0 0, rfl⟩)⟩
def cmpP (x y : RowP) : Int := Lib.compareBytes x.1.data.toList y.1.data.toList
set_option maxHeartbeats 1000000 in
theorem cmp_calls (x y : RowP) (W : World) : Calls Try.prog 54 #[.agg (encP x).toArray, .agg (encP y).toArray] W fun e w' => e = .returned (.int .i64 (cmpP x y)) ∧ w' = (W.alloc (.cells (encP x).toArray 35)).alloc (.cells (encP y).toArray 35) := by
  obtain ⟨a, va, ha⟩ := x
  obtain ⟨b, vb, hb⟩ := y
  show Calls Try.prog 54 #[.agg #[.string a, va], .agg #[.string b, vb]] W fun e w' => e = .returned (.int .i64 (Lib.compareBytes a.data.toList b.data.toList)) ∧ w' = (W.alloc (.cells #[.string a, va] 35)).alloc (.cells #[.string b, vb] 35)
  have HK := hid (fun W => Try.strings_Compare a b W)
  go_enter Try.func54, Try.ntmps54
  go_wp2_with first
    | (go_at_call 55; refine (HK.out _).mono ?_; rintro e w1 ⟨rfl, rfl⟩)
  go_ret
  exact ⟨rfl, rfl⟩
theorem eg54 : ∀ args w, (callFunc 54 args).run Try.prog w = .ok (.enter 54 args) w := fun args w => enters_ Try.func54 (by kernel_rfl) rfl args w
theorem alloc_two (W : World) (o1 o2 : Obj) : (W.alloc o1).alloc o2 = grow (W.drewN 0) #[o1, o2] := by
  rfl
theorem ins_calls (blk cap : Nat) (d : Array RowP) (w : World) (hH : HoldsK encP 2 w blk 0 d) (hblk : blk < w.heap.size) (hn : d.size ≤ 19) :
    Calls Try.prog 81 #[.slice (some ⟨blk, 0, none⟩) d.size cap, .int .i64 0, .int .i64 d.size, .func (.func 54) #[] #[]] w fun e w' =>
      e = .returned (.tuple #[]) ∧ ∃ n os, w' = sortWorldK encP 2 w blk 0 n (Sort.insertionSort (ltOf cmpP) d 0 d.size) os := by
  have := AnyQ.insertionSortCmpFunc sortLay 2 Try.isAgg35 Try.sizeOf35 encP (fun _ => rfl) (fun x v hv => by
    simp only [encP, List.mem_cons, List.not_mem_nil, or_false] at hv
    rcases hv with rfl | rfl
    · rfl
    · exact x.2.2) cmpP 54 #[] blk 0 cap 0 d.size d w eg54 (fun m os dk _ x y => (cmp_calls x y _).mono (fun e w' h => ⟨h.1, 0, _, h.2.trans (alloc_two _ _ _)⟩)) hH hblk (Nat.zero_le _) (Nat.le_refl _) (by omega)
  exact this
set_option maxHeartbeats 1000000 in
theorem ins_nil (w : World) : Calls Try.prog 81 #[.slice none 0 0, .int .i64 0, .int .i64 (0 : Nat), .func (.func 54) #[] #[]] w fun e w' => e = .returned (.tuple #[]) ∧ w' = w := by
  go_enter Try.func81, Try.ntmps81
  go_wp2
  go_loopg [8] 0 (fun g1 vi wr => vi = .int .i64 1 ∧ wr = w)
  case atStart => exact ⟨rfl, rfl⟩
  case round =>
    obtain ⟨rfl, rfl⟩ := hrel
    go_wp2
    refine bodyPost_end (results_none rfl _ _ _) rfl ?_
    exact ⟨rfl, rfl⟩
set_option maxHeartbeats 2000000 in
theorem stable_of {v : Value} {n : Nat} (hn : n ≤ 19) {w : World} {p : World → Prop} (HK : Hid (Calls Try.prog 81 #[v, .int .i64 0, .int .i64 n, .func (.func 54) #[] #[]] w fun e w' => e = .returned (.tuple #[]) ∧ p w')) :
    Calls Try.prog 75 #[v, .int .i64 n, .func (.func 54) #[] #[]] w fun e w' => e = .returned (.tuple #[]) ∧ p w' := by
  have c1 : decide ((20 : Int) ≤ (n : Int)) = false := decide_eq_false (by omega)
  have c2 : decide ((20 : Int) < (n : Int)) = false := decide_eq_false (by omega)
  go_enter Try.func75, Try.ntmps75
  go_wp2
  go_loopg [7, 8] 0 (fun gg s7 s8 wr => s7 = .int .i64 0 ∧ s8 = .int .i64 20 ∧ wr = w)
  case atStart => exact ⟨rfl, rfl, rfl⟩
  case round =>
    obtain ⟨rfl, rfl, rfl⟩ := hrel
    go_wp2_with first
      | (go_at_call 81; refine HK.out.mono ?_; rintro e W1 ⟨rfl, hp⟩; have HF := hid hp; clear hp)
    go_loopg [6, 7, 8, 9] 0 (fun gg s6 s7 s8 s9 wr => s6 = .int .i64 20 ∧ wr = W1)
    case atStart => exact ⟨rfl, rfl⟩
    case round =>
      obtain ⟨rfl, rfl⟩ := hrel
      go_wp2
      refine bodyPost_end (results_none rfl _ _ _) rfl ?_
      exact ⟨rfl, HF.out⟩
set_option maxHeartbeats 1000000 in
theorem sort_of {A : Option Addr} {n c : Nat} (hn : n ≤ 19) {w : World} {p : World → Prop} (HK : Hid (Calls Try.prog 81 #[.slice A n c, .int .i64 0, .int .i64 n, .func (.func 54) #[] #[]] w fun e w' => e = .returned (.tuple #[]) ∧ p w')) :
    Calls Try.prog 53 #[.slice A n c, .func (.func 54) #[] #[]] w fun e w' => e = .returned (.tuple #[]) ∧ p w' := by
  have HS := hid (stable_of hn HK)
  clear HK hn
  go_enter Try.func53, Try.ntmps53
  go_wp2_with first
    | (go_at_call 75; refine HS.out.mono ?_; rintro e w1 ⟨rfl, hp⟩)
  refine bodyPost_end (results_none rfl _ _ _) rfl ?_
  exact ⟨rfl, hp⟩
theorem sort_calls (blk cap : Nat) (d : Array RowP) (w : World) (hH : HoldsK encP 2 w blk 0 d) (hblk : blk < w.heap.size) (hn : d.size ≤ 19) :
    Calls Try.prog 53 #[.slice (some ⟨blk, 0, none⟩) d.size cap, .func (.func 54) #[] #[]] w fun e w' =>
      e = .returned (.tuple #[]) ∧ ∃ n os, w' = sortWorldK encP 2 w blk 0 n (Sort.insertionSort (ltOf cmpP) d 0 d.size) os :=
  sort_of hn (hid (ins_calls blk cap d w hH hblk hn))
theorem sort_nil (w : World) : Calls Try.prog 53 #[.slice none 0 0, .func (.func 54) #[] #[]] w fun e w' => e = .returned (.tuple #[]) ∧ w' = w :=
  sort_of (by omega) (hid (ins_nil w))
end Go.Proofs.Ytjofofpplpmgjaa.Pr
namespace Go.Proofs.Ytjofofpplpmgjaa.SortMap
set_option linter.unusedVariables false
open Go.Sort
section
variable {α β : Type} [Inhabited α] [Inhabited β]
theorem get_map (f : α → β) (d : Array α) {i : Nat} (h : i < d.size) : (d.map f)[i]! = f d[i]! := by
  rw [getElem!_pos (d.map f) i (by simpa using h), getElem!_pos d i h, Array.getElem_map]
theorem swp_map (f : α → β) (d : Array α) {i j : Nat} (hi : i < d.size) (hj : j < d.size) : swp (d.map f) i j = (swp d i j).map f := by
  unfold swp
  rw [get_map f d hi, get_map f d hj]
  simp [Array.map_setIfInBounds]
theorem size_ins (lt : α → α → Bool) (a : Nat) : ∀ (j : Nat) (d : Array α), (insInner lt a j d).size = d.size
  | 0, d => rfl
  | j + 1, d => by
    unfold insInner
    split
    · rw [size_ins lt a j, size_swp]
    · rfl
theorem insInner_map (f : α → β) (lt : β → β → Bool) (a : Nat) : ∀ (j : Nat) (d : Array α), j < d.size → insInner lt a j (d.map f) = (insInner (fun x y => lt (f x) (f y)) a j d).map f
  | 0, d, h => rfl
  | j + 1, d, h => by
    unfold insInner
    rw [get_map f d h, get_map f d (Nat.lt_of_succ_lt h)]
    split
    · rw [swp_map f d h (Nat.lt_of_succ_lt h)]
      exact insInner_map f lt a j _ (by rw [size_swp]; omega)
    · rfl
theorem insOuter_map (f : α → β) (lt : β → β → Bool) (a b : Nat) : ∀ (m i : Nat) (d : Array α), b - i = m → b ≤ d.size → insOuter lt a b i (d.map f) = (insOuter (fun x y => lt (f x) (f y)) a b i d).map f := by
  intro m
  induction m with
  | zero =>
    intro i d h hb
    rw [insOuter_stop lt a b i (d.map f) (by omega), insOuter_stop (fun x y => lt (f x) (f y)) a b i d (by omega)]
  | succ m ih =>
    intro i d h hb
    rw [insOuter_go lt a b i (d.map f) (by omega), insOuter_go (fun x y => lt (f x) (f y)) a b i d (by omega), insInner_map f lt a i d (by omega)]
    exact ih (i + 1) _ (by omega) (by rw [size_ins]; exact hb)
theorem sort_map (f : α → β) (lt : β → β → Bool) (a b : Nat) (d : Array α) (hb : b ≤ d.size) : insertionSort lt (d.map f) a b = (insertionSort (fun x y => lt (f x) (f y)) d a b).map f :=
  insOuter_map f lt a b _ (a + 1) d rfl hb
theorem size_outer (lt : α → α → Bool) (a b : Nat) : ∀ (m i : Nat) (d : Array α), b - i = m → (insOuter lt a b i d).size = d.size := by
  intro m
  induction m with
  | zero => intro i d h; rw [insOuter_stop _ _ _ _ _ (by omega)]
  | succ m ih =>
    intro i d h
    rw [insOuter_go _ _ _ _ _ (by omega), ih (i + 1) _ (by omega), size_ins]
theorem size_sort (lt : α → α → Bool) (a b : Nat) (d : Array α) : (insertionSort lt d a b).size = d.size := size_outer lt a b _ (a + 1) d rfl
theorem mem_swp (d : Array α) {i j : Nat} (hi : i < d.size) (hj : j < d.size) (x : α) (h : x ∈ swp d i j) : x ∈ d := by
  obtain ⟨k, hk, rfl⟩ := Array.mem_iff_getElem.1 h
  have hk' : k < d.size := by simpa [size_swp] using hk
  have := swp_get d hi hj k
  rw [getElem!_pos (swp d i j) k hk] at this
  rw [this]
  split
  · rw [getElem!_pos d i hi]; exact Array.getElem_mem hi
  · split
    · rw [getElem!_pos d j hj]; exact Array.getElem_mem hj
    · rw [getElem!_pos d k hk']; exact Array.getElem_mem hk'
theorem mem_ins (lt : α → α → Bool) (a : Nat) (x : α) : ∀ (j : Nat) (d : Array α), j < d.size → x ∈ insInner lt a j d → x ∈ d
  | 0, d, h, hx => hx
  | j + 1, d, h, hx => by
    unfold insInner at hx
    split at hx
    · exact mem_swp d h (Nat.lt_of_succ_lt h) x (mem_ins lt a x j _ (by rw [size_swp]; omega) hx)
    · exact hx
theorem mem_outer (lt : α → α → Bool) (a b : Nat) (x : α) : ∀ (m i : Nat) (d : Array α), b - i = m → b ≤ d.size → x ∈ insOuter lt a b i d → x ∈ d := by
  intro m
  induction m with
  | zero => intro i d h hb hx; rw [insOuter_stop _ _ _ _ _ (by omega)] at hx; exact hx
  | succ m ih =>
    intro i d h hb hx
    rw [insOuter_go _ _ _ _ _ (by omega)] at hx
    exact mem_ins lt a x i d (by omega) (ih (i + 1) _ (by omega) (by rw [size_ins]; exact hb) hx)
theorem mem_sort (lt : α → α → Bool) (a b : Nat) (d : Array α) (hb : b ≤ d.size) (x : α) (h : x ∈ insertionSort lt d a b) : x ∈ d := mem_outer lt a b x _ (a + 1) d rfl hb h
end
end Go.Proofs.Ytjofofpplpmgjaa.SortMap
namespace Go.Proofs.Ytjofofpplpmgjaa.Pr
set_option linter.unusedVariables false
set_option linter.unusedSimpArgs false
open Go.RowKit Go.Lib Go.Shelf Go.Sort Go.Proofs.Ytjofofpplpmgjaa Go.Proofs.Ytjofofpplpmgjaa.SortMap Go.Proofs.YtjofofpplpmgjaaW.PrintWords Go.Proofs.YtjofofpplpmgjaaW.PrintLast Go.Proofs.YtjofofpplpmgjaaW.PrintMore

instance : Inhabited S35 := ⟨z35⟩
def ltP (x y : S35) : Bool := decide (Lib.compareBytes x.f0.data.toList y.f0.data.toList < 0)
def sortP (l : List S35) : List S35 := (Sort.insertionSort ltP l.toArray 0 l.length).toList
def rowOf (inner : List Value) (x : S35) (j : Nat) : S35 × RowP :=
  (x, (x.f0, if h : (inner.getD (2 * j + 1) (.slice none 0 0)).oneCell' = true then ⟨_, h⟩ else ⟨.slice none 0 0, rfl⟩))
theorem reps_rows {M : S35 → List Value → Prop} (hM : ∀ x c, M x c → ∃ v1 : Value, c = [.string x.f0, v1] ∧ v1.oneCell' = true) {l : List S35} {inner : List Value} (h : Reps M 2 l inner) :
    ∃ z : Array (S35 × RowP), z.size = l.length ∧ z.map (·.1) = l.toArray ∧ (∀ x ∈ z, M x.1 (encP x.2) ∧ x.2.1 = x.1.f0) ∧ flatK encP 2 (z.map (·.2)) = inner.toArray := by
  have key : ∀ j (hj : j < l.length), M l[j] (encP (rowOf inner l[j] j).2) ∧ inner[2 * j]? = some (.string l[j].f0) ∧ inner[2 * j + 1]? = some (rowOf inner l[j] j).2.2.1 := by
    intro j hj
    have hm := h.2 j _ (List.getElem?_eq_getElem hj)
    obtain ⟨v1, hc, h1⟩ := hM _ _ hm
    have hl : inner.length = l.length * 2 := h.1
    have e0 : inner[2 * j]? = some (.string l[j].f0) := by
      have : ((inner.drop (j * 2)).take 2)[0]? = some (.string l[j].f0) := by rw [hc]; rfl
      rw [List.getElem?_take, if_pos (by omega), List.getElem?_drop] at this
      rw [← this]; congr 1; omega
    have e1 : inner[2 * j + 1]? = some v1 := by
      have : ((inner.drop (j * 2)).take 2)[1]? = some v1 := by rw [hc]; rfl
      rw [List.getElem?_take, if_pos (by omega), List.getElem?_drop] at this
      rw [← this]; congr 1; omega
    have er : (rowOf inner l[j] j).2.2.1 = v1 := by
      unfold rowOf
      have eg : inner.getD (2 * j + 1) (.slice none 0 0) = v1 := by rw [List.getD_eq_getElem?_getD, e1]; rfl
      simp only [eg, h1, dif_pos]
    refine ⟨?_, e0, by rw [er]; exact e1⟩
    have : encP (rowOf inner l[j] j).2 = [.string l[j].f0, v1] := by unfold encP; rw [er]; rfl
    rw [this, ← hc]
    exact hm
  refine ⟨(l.mapIdx fun j x => rowOf inner x j).toArray, by simp, ?_, ?_, ?_⟩
  · apply Array.ext'
    simp only [Array.toList_map]
    apply List.ext_getElem (by simp)
    intro j h1 h2
    simp [rowOf]
  · intro x hx
    obtain ⟨j, hj, rfl⟩ := List.mem_iff_getElem.1 (by simpa using hx : x ∈ l.mapIdx fun j x => rowOf inner x j)
    have hj' : j < l.length := by simpa using hj
    rw [List.getElem_mapIdx]
    exact ⟨(key j hj').1, rfl⟩
  · have hl : inner.length = l.length * 2 := h.1
    apply Array.ext
    · simp [hl]
    · intro t h1 h2
      have ht : t < l.length * 2 := by simpa using h1
      have hj : t / 2 < l.length := by omega
      obtain ⟨_, k0, k1⟩ := key (t / 2) hj
      have hg : ((l.mapIdx fun j x => rowOf inner x j).toArray.map (·.2))[t / 2]! = (rowOf inner l[t / 2] (t / 2)).2 := by
        rw [getElem!_pos ((l.mapIdx fun j x => rowOf inner x j).toArray.map (·.2)) (t / 2) (by simpa using hj)]; simp
      have hF := get_flatK encP 2 ((l.mapIdx fun j x => rowOf inner x j).toArray.map (·.2)) t (by simpa using ht)
      rw [getElem!_pos (flatK encP 2 ((l.mapIdx fun j x => rowOf inner x j).toArray.map (·.2))) t h1, hg] at hF
      rw [hF]
      have hin : inner[t]? = some inner[t] := List.getElem?_eq_getElem (by omega)
      rcases Nat.mod_two_eq_zero_or_one t with hm | hm
      · rw [hm]
        have e : 2 * (t / 2) = t := by omega
        rw [e, hin] at k0
        have := Option.some.inj k0
        simp only [List.getElem_toArray]
        rw [this]
        rfl
      · rw [hm]
        have e : 2 * (t / 2) + 1 = t := by omega
        rw [e, hin] at k1
        have := Option.some.inj k1
        simp only [List.getElem_toArray]
        rw [this]
        rfl
abbrev RowS : Type := S35 × {v : Value // v.oneCell' = true}
instance : Inhabited RowS := ⟨(z35, ⟨.slice none 0 0, rfl⟩)⟩
def rowP (x : RowS) : RowP := (x.1.f0, x.2)
theorem reps_rows' {M : S35 → List Value → Prop} (hM : ∀ x c, M x c → ∃ v1 : Value, c = [.string x.f0, v1] ∧ v1.oneCell' = true) {l : List S35} {inner : List Value} (h : Reps M 2 l inner) :
    ∃ z : Array RowS, z.size = l.length ∧ z.map (·.1) = l.toArray ∧ (∀ x ∈ z, M x.1 (encP (rowP x))) ∧ flatK encP 2 (z.map rowP) = inner.toArray := by
  obtain ⟨z, h1, h2, h3, h4⟩ := reps_rows hM h
  have e : ∀ x ∈ z, rowP (x.1, x.2.2) = x.2 := fun x hx => by
    unfold rowP
    rw [← (h3 x hx).2]
  have em : (z.map fun x => ((x.1, x.2.2) : RowS)).map rowP = z.map (·.2) := by
    rw [Array.map_map]
    apply Array.map_congr_left
    intro x hx
    exact e x hx
  refine ⟨z.map fun x => (x.1, x.2.2), by simpa using h1, ?_, ?_, ?_⟩
  · rw [Array.map_map, ← h2]; rfl
  · intro x hx
    obtain ⟨y, hy, rfl⟩ := Array.mem_map.1 hx
    rw [e y hy]
    exact (h3 y hy).1
  · rw [em]; exact h4
theorem sort_R {w : World} {base : Nat} {ok : Nat → Prop} {v : Value} {l : List S35} (h : Kd.R k35 35 w base ok v l) (hn : l.length ≤ 19) :
    Calls Try.prog 53 #[v, .func (.func 54) #[] #[]] w fun e w' => e = .returned (.tuple #[]) ∧ Kd.R k35 35 w' base ok v (sortP l) ∧ w.grownBy w' v.ownBlock := by
  have h' := h
  obtain ⟨hok, inner, ho, hr⟩ := h
  rcases ho.2 with ⟨rfl, hl0⟩ | ⟨g, cap, cur, rfl, hb, hg, hnc, hm, hs, ht⟩
  · obtain rfl := List.eq_nil_of_length_eq_zero hl0
    refine (sort_nil w).mono ?_
    rintro e w1 ⟨rfl, rfl⟩
    have hs0 : sortP [] = [] := by
      unfold sortP Sort.insertionSort
      rw [insOuter_stop ltP 0 _ _ _ (by decide)]
    rw [hs0]
    exact ⟨rfl, h', grown_of_below (Below.refl _ _) _⟩
  · obtain ⟨z, hz, hz1, hzM, hzF⟩ := reps_rows' (fun x c hx => by
      obtain ⟨v1, rfl, hR⟩ := k35_openM hx
      obtain ⟨A, c, rfl⟩ := Kd.R_slice hR
      exact ⟨_, rfl, rfl⟩) hr
    have ksz : k35.sz = 2 := rfl
    rw [ksz] at hs ht
    have hlt : g < w.heap.size := (Array.getElem?_eq_some_iff.1 hg).1
    have hil : inner.length = l.length * 2 := hr.1
    have hsz : (z.map rowP).size = l.length := by simp [hz]
    have hH : HoldsK encP 2 w g 0 (z.map rowP) := by
      unfold HoldsK
      rw [hzF]
      intro j hj
      have hj' : j < l.length * 2 := by simpa [hil] using hj
      refine ⟨?_, by simp [World.frozen?, hg]⟩
      have e1 : (cur.toList.take (l.length * 2))[j]? = inner[j]? := by rw [ht]
      rw [List.getElem?_take, if_pos (by omega), Array.getElem?_toList] at e1
      simp only [World.cell?, hg, Nat.zero_add]
      simp only [Option.isSome_none, Bool.false_eq_true, if_false]
      rw [e1, List.getElem?_eq_getElem (by omega), getElem!_pos inner.toArray j (by simpa [hil] using hj')]
      rfl
    have key := sort_calls g cap (z.map rowP) w hH hlt (by omega)
    rw [hsz] at key
    obtain ⟨s, hsd⟩ : ∃ s, Sort.insertionSort (fun x y => ltOf cmpP (rowP x) (rowP y)) z 0 l.length = s := ⟨_, rfl⟩
    have hd' : Sort.insertionSort (ltOf cmpP) (z.map rowP) 0 l.length = s.map rowP := by rw [← hsd]; exact sort_map rowP (ltOf cmpP) 0 l.length z (by omega)
    have hsP : sortP l = (s.map (·.1)).toList := by
      unfold sortP
      rw [← hz1, sort_map (·.1) ltP 0 l.length z (by omega), ← hsd]
      rfl
    have hss : s.size = l.length := by rw [← hsd, size_sort]; exact hz
    have hsl : (sortP l).length = l.length := by rw [hsP]; simp [hss]
    rw [hd'] at key
    refine key.mono ?_
    rintro e w' ⟨rfl, q, os, rfl⟩
    have hgr : w.grownBy (sortWorldK encP 2 w g 0 q (s.map rowP) os) (Value.slice (some ⟨g, 0, none⟩) l.length cap).ownBlock := by
      refine ⟨rfl, rfl, rfl, by simp [sortWorldK, putRowK, putRow, mapBlock, Sort.ahead, grow], fun k hk hne => ?_⟩
      have hne' : g ≠ k := fun e => hne (by rw [e]; rfl)
      unfold sortWorldK
      rw [heap_grow_old _ _ (by simpa [putRowK] using hk)]
      simp [putRowK, putRow, mapBlock, Sort.ahead, Array.getElem?_modify, hne']
    refine ⟨rfl, ⟨hok, (flatK encP 2 (s.map rowP)).toList, ?_, ?_⟩, hgr⟩
    · rw [hsl, ksz]
      refine ⟨by simp [hss], .inr ⟨g, cap, putCells id 0 (flatK encP 2 (s.map rowP)) cur, rfl, hb, ?_, hnc, hm, by simpa [putCells] using hs, ?_⟩⟩
      · unfold sortWorldK
        rw [heap_grow_old _ _ (by simpa [putRowK] using hlt)]
        simp [putRowK, putRow, mapBlock, Sort.ahead, Array.getElem?_modify, hg, onCells]
      · apply List.ext_getElem?
        intro j
        have hcs : l.length * 2 ≤ cur.size := by rw [hs]; exact Nat.mul_le_mul_right 2 hnc
        have hfs : (flatK encP 2 (s.map rowP)).size = l.length * 2 := by rw [size_flatK, Array.size_map, hss]
        rw [List.getElem?_take, Array.getElem?_toList, Array.getElem?_toList]
        by_cases hj : j < l.length * 2
        · rw [if_pos hj, Array.getElem?_eq_getElem (show j < (flatK encP 2 (s.map rowP)).size by omega)]
          simp only [putCells, Array.getElem?_mapIdx, Array.getElem?_eq_getElem (show j < cur.size by omega), Option.map_some]
          rw [if_pos ⟨Nat.zero_le _, by omega⟩]
          rw [Nat.sub_zero, getElem!_pos (flatK encP 2 (s.map rowP)) j (by omega)]
          rfl
        · rw [if_neg hj, Array.getElem?_eq_none (by omega)]
    · rw [ksz]
      refine ⟨by simp [hss, hsl], fun j p hj => ?_⟩
      obtain ⟨hjl, hjp⟩ := List.getElem?_eq_some_iff.1 hj
      have hjs : j < s.size := by rw [hss, ← hsl]; exact hjl
      have hp : p = s[j].1 := by rw [← hjp]; simp [hsP]
      have hmem : s[j] ∈ z := mem_sort _ 0 l.length z (by omega) _ (by rw [hsd]; exact Array.getElem_mem hjs)
      have hM := hzM _ hmem
      have hch : ((flatK encP 2 (s.map rowP)).toList.drop (j * 2)).take 2 = encP (rowP s[j]) := by
        have hg2 : (s.map rowP)[j]! = rowP s[j] := by rw [getElem!_pos (s.map rowP) j (by simpa using hjs)]; simp
        have hb2 : j * 2 + 1 < (s.map rowP).size * 2 := by simp; omega
        have f0 := get_flatK encP 2 (s.map rowP) (j * 2) (by omega)
        have f1 := get_flatK encP 2 (s.map rowP) (j * 2 + 1) hb2
        rw [show j * 2 / 2 = j from by omega, show j * 2 % 2 = 0 from by omega, hg2] at f0
        rw [show (j * 2 + 1) / 2 = j from by omega, show (j * 2 + 1) % 2 = 1 from by omega, hg2] at f1
        rw [getElem!_pos (flatK encP 2 (s.map rowP)) (j * 2) (by rw [size_flatK]; omega)] at f0
        rw [getElem!_pos (flatK encP 2 (s.map rowP)) (j * 2 + 1) (by rw [size_flatK]; omega)] at f1
        apply List.ext_getElem?
        intro i
        rw [List.getElem?_take, List.getElem?_drop, Array.getElem?_toList]
        match i with
        | 0 => rw [if_pos (by omega), Nat.add_zero, Array.getElem?_eq_getElem (by rw [size_flatK]; omega), f0]; rfl
        | 1 => rw [if_pos (by omega), Array.getElem?_eq_getElem (by rw [size_flatK]; omega), f1]; rfl
        | i + 2 => rw [if_neg (by omega)]; rfl
      rw [hch, hp]
      exact Kd.M_grown hM hgr (fun k hk => hk.2)
theorem sort_step {w0 W : World} (base : Nat) (v : Value) (l : List S35) (ok : Nat → Prop) {Q : Ending → World → Prop} (HO : Kd.S k35 35 W base ok v l) (hn : l.length ≤ 19) (HB : Below base w0 W) (hbase : base ≤ W.heap.size)
    (h : ∀ w1, Kd.R k35 35 w1 base ok v (sortP l) → Below base w0 w1 → W.grownBy w1 v.ownBlock → Q (.returned (.tuple #[])) w1) :
    Calls Try.prog 53 #[v, .func (.func 54) #[] #[]] W Q := by
  refine (sort_R (Kd.S_R HO) hn).mono ?_
  rintro e w1 ⟨rfl, hR, hg⟩
  exact h w1 hR (HB.grown hg hbase (Kd.S_base HO)) hg
end Go.Proofs.Ytjofofpplpmgjaa.Pr
namespace Go.Proofs.Ytjofofpplpmgjaa.Pr
open Go.RowKit Go.Proofs.YtjofofpplpmgjaaW.PrintWords Go.Proofs.YtjofofpplpmgjaaW.PrintLast Go.Proofs.YtjofofpplpmgjaaW.PrintMore
attribute [local go_sem] max2_int min2_int max_two min_two max_three min_three max_four min_four   -- for this text's walks alone
set_option linter.unusedVariables false
set_option linter.unusedSimpArgs false

def config_CanonK.l0 : Nat → List (S35) → List (S35) → Int → Int → Bool → Bool → List ByteArray → List ByteArray → List ByteArray → List (S35) → Bool → Bool → Option (Bool × Bool × List ByteArray × List ByteArray × List ByteArray × (List (S35)) × Bool × Bool)
 | 0, _, _, _, _, _, _, _, _, _, _, _, _ => none
 | k + 1, x3, x19, x20, x21, x189000, x189001, x189002, x189003, x189004, x189005, x189006, x189007 => if x21 < x20 then (if 0 ≤ x21 then (if x21 < (x19.length : Int) then (if (((rd_T35 x19 x21).f1).length : Int) > 0 then ((fold_Sorted.f ((rd_T35 x19 x21).f1)).bind fun t201 => (if x3.length < 3518437208883 then (config_CanonK.l0 k (x3 ++ [(⟨(rd_T35 x19 x21).f0, t201⟩ : S35)]) x19 x20 (wrap64 (x21 + 1)) x189000 x189001 x189002 x189003 x189004 x189005 x189006 x189007) else (none))) else (config_CanonK.l0 k x3 x19 x20 (wrap64 (x21 + 1)) x189000 x189001 x189002 x189003 x189004 x189005 x189006 x189007)) else (none)) else (none)) else (if x3.length < 20 then (some (x189000, x189001, x189002, x189003, x189004, (sortP x3), x189006, x189007)) else (none))
def config_CanonK.f (k : Nat) (a0_0 : Bool) (a0_1 : Bool) (l0_2 : List ByteArray) (l0_3 : List ByteArray) (l0_4 : List ByteArray) (l0_5 : List (S35)) (a0_6 : Bool) (a0_7 : Bool) : Option (Bool × Bool × List ByteArray × List ByteArray × List ByteArray × (List (S35)) × Bool × Bool) := (fold_Sorted.f l0_2).bind fun t190 => ((fold_Sorted.f l0_3).bind fun t193 => ((fold_Sorted.f l0_4).bind fun t196 => (config_CanonK.l0 k ([] : List (S35)) l0_5 (l0_5.length : Int) 0 a0_0 a0_1 t190 t193 t196 l0_5 a0_6 a0_7)))
def config_CanonK.T1 : Bool × List (List Nat × List Nat) := (true, [([], []), ([0], [0]), ([1], [1]), ([], []), ([3], [3]), ([4, 2], [4]), ([], []), ([6], [6]), ([7, 5], [7]), ([0, 1, 2, 3, 4, 6, 7], []), ([9, 2, 8, 0, 1, 2, 3, 4, 6, 7], [2, 9]), ([0, 1, 2, 3, 4, 5, 6, 7, 9, 10], []), ([11, 5, 10, 0, 1, 2, 3, 4, 5, 6, 7, 9, 10], [5, 11]), ([0, 1, 2, 3, 4, 5, 6, 7, 8, 9, 10, 11, 12], []), ([13, 8, 12, 0, 1, 2, 3, 4, 5, 6, 7, 8, 9, 10, 11, 12], [8, 13])])
def config_CanonK.B1 : List Nat := [0, 1, 3, 0, 8, 31, 0, 64, 255, 223, 1023, 2047, 4095, 8191, 16383]
theorem config_CanonK.tab1 : rtab .any (opsOf Try.f23 1) = config_CanonK.T1 := by kernel_rfl
theorem config_CanonK.bits1 : waitsOk config_CanonK.T1.2 config_CanonK.B1 = true := by kernel_rfl
def config_CanonK.T7 : Bool × List (List Nat × List Nat) := (true, [([], []), ([], []), ([1], [1]), ([], []), ([3], [3]), ([4], [4]), ([2, 5], [2, 5]), ([6], [6]), ([0, 7, 5], [0, 7]), ([8, 8, 0, 1, 2, 3, 4, 5, 6, 7, 8], [0, 8])])
def config_CanonK.B7 : List Nat := [0, 0, 2, 0, 8, 24, 62, 126, 255, 511]
theorem config_CanonK.tab7 : rtab .any (opsOf Try.f23 7) = config_CanonK.T7 := by kernel_rfl
theorem config_CanonK.bits7 : waitsOk config_CanonK.T7.2 config_CanonK.B7 = true := by kernel_rfl
set_option maxHeartbeats 8000000 in
set_option maxRecDepth 100000 in
theorem config_CanonK.calls (k : Nat) (a0_0 : Bool) (a0_1 : Bool) (A0_2 : Option Addr) (c0_2 : Nat) (l0_2 : List ByteArray) (A0_3 : Option Addr) (c0_3 : Nat) (l0_3 : List ByteArray) (A0_4 : Option Addr) (c0_4 : Nat) (l0_4 : List ByteArray) (A0_5 : Option Addr) (c0_5 : Nat) (l0_5 : List (S35)) (a0_6 : Bool) (a0_7 : Bool) (r1 : Bool) (r2 : Bool) (r3 : List ByteArray) (r4 : List ByteArray) (r5 : List ByteArray) (r6 : List (S35)) (r7 : Bool) (r8 : Bool) (w : World) (hr0_2 : Kd.C Kd.string w A0_2 l0_2.length l0_2) (hc0_2 : l0_2.length ≤ c0_2) (hr0_3 : Kd.C Kd.string w A0_3 l0_3.length l0_3) (hc0_3 : l0_3.length ≤ c0_3) (hr0_4 : Kd.C Kd.string w A0_4 l0_4.length l0_4) (hc0_4 : l0_4.length ≤ c0_4) (hr0_5 : Kd.C k35 w A0_5 l0_5.length l0_5) (hc0_5 : l0_5.length ≤ c0_5) (h : config_CanonK.f k a0_0 a0_1 l0_2 l0_3 l0_4 l0_5 a0_6 a0_7 = some (r1, r2, r3, r4, r5, r6, r7, r8)) :
  Calls Try.prog 23 #[.agg #[.bool a0_0, .bool a0_1, .slice A0_2 l0_2.length c0_2, .slice A0_3 l0_3.length c0_3, .slice A0_4 l0_4.length c0_4, .slice A0_5 l0_5.length c0_5, .bool a0_6, .bool a0_7]] w fun e w' => ∃ v2_ v3_ v4_ v5_ : Value, e = .returned (.agg #[.bool r1, .bool r2, v2_, v3_, v4_, v5_, .bool r7, .bool r8]) ∧ Kd.R Kd.string 9 w' w.heap.size (fun k_ => some k_ ≠ (v3_ : Value).ownBlock ∧ some k_ ≠ (v4_ : Value).ownBlock) v2_ r3 ∧ Kd.R Kd.string 9 w' w.heap.size (fun k_ => some k_ ≠ (v2_ : Value).ownBlock ∧ some k_ ≠ (v4_ : Value).ownBlock) v3_ r4 ∧ Kd.R Kd.string 9 w' w.heap.size (fun k_ => some k_ ≠ (v2_ : Value).ownBlock ∧ some k_ ≠ (v3_ : Value).ownBlock) v4_ r5 ∧ Kd.R k35 35 w' w.heap.size (fun k_ => some k_ ≠ (v2_ : Value).ownBlock ∧ some k_ ≠ (v3_ : Value).ownBlock ∧ some k_ ≠ (v4_ : Value).ownBlock) v5_ r6 ∧ Below w.heap.size w w' := by
 have hu25 := Try.underlying25
 have hu35 := Try.underlying35
 have HR0_2 := Aside0.mk hr0_2
 have HC0_2 := Aside0.mk hc0_2
 clear hr0_2 hc0_2
 have HR0_3 := Aside0.mk hr0_3
 have HC0_3 := Aside0.mk hc0_3
 clear hr0_3 hc0_3
 have HR0_4 := Aside0.mk hr0_4
 have HC0_4 := Aside0.mk hc0_4
 clear hr0_4 hc0_4
 have HR0_5 := Aside0.mk hr0_5
 have HC0_5 := Aside0.mk hc0_5
 clear hr0_5 hc0_5
 have HB := Aside0.mk (Below.refl w.heap.size w)
 have H : ((fold_Sorted.f l0_2).bind fun t190 => ((fold_Sorted.f l0_3).bind fun t193 => ((fold_Sorted.f l0_4).bind fun t196 => (config_CanonK.l0 k ([] : List (S35)) l0_5 (l0_5.length : Int) 0 a0_0 a0_1 t190 t193 t196 l0_5 a0_6 a0_7)))) = some (r1, r2, r3, r4, r5, r6, r7, r8) := h
 clear h
 replace H := Option.bind_eq_some_iff.mp H
 obtain ⟨t190, A20, H⟩ := H
 have A2 := Aside0.mk A20
 clear A20
 replace H := Option.bind_eq_some_iff.mp H
 obtain ⟨t193, A30, H⟩ := H
 have A3 := Aside0.mk A30
 clear A30
 replace H := Option.bind_eq_some_iff.mp H
 obtain ⟨t196, A40, H⟩ := H
 have A4 := Aside0.mk A40
 clear A40
 have H' := Aside0.mk H
 clear H
 go_enter Try.func23, Try.ntmps23
 try go_wp2_with (first | ((with_reducible refine gate_dst (N := 1) rfl ?_); refine box_event ?hg (N := 1) ?hd (cs := #[.bool a0_0, .bool a0_1, .slice A0_2 l0_2.length c0_2, .slice A0_3 l0_3.length c0_3, .slice A0_4 l0_4.length c0_4, .slice A0_5 l0_5.length c0_5, .bool a0_6, .bool a0_7]) (t := 25) ?hr ?_; (case hd => rfl); (case hg => rfl); (case hr => first | (go_simp; done) | (go_simp; rfl)); intro gb188 hg w5 hbox hb; have n0_ := Aside0.mk (below_step (by repeat (first | (with_reducible first | exact HB.out | apply below_alloc | apply pw_below_drewN | apply below_drew1) | exact HB.out)) hb); have n1_ := Aside0.mk (hbox); have n2_ := Aside0.mk ((by rw [hg]; exact (below_size (by repeat (first | (with_reducible first | exact HB.out | apply below_alloc | apply pw_below_drewN | apply below_drew1) | exact HB.out))) : w.heap.size ≤ gb188)); have n3_ := Aside0.mk ((by rw [hg]; exact (below_size (by repeat (first | (with_reducible first | exact HB.out | apply below_alloc | apply pw_below_drewN | apply below_drew1) | exact HB.out))) : w.heap.size ≤ gb188)); clear HB; have HB := n0_; have BK188 := n1_; have GW188 := n2_; have GE188 := n3_; clear n0_ n1_ n2_ n3_; clear hb hbox hg) | ((with_reducible refine gate_dst (N := 2) rfl ?_); refine box_event ?hg (N := 2) ?hd (cs := #[.bool false, .bool false, .slice none 0 0, .slice none 0 0, .slice none 0 0, .slice none 0 0, .bool false, .bool false]) (t := 25) ?hr ?_; (case hd => rfl); (case hg => rfl); (case hr => first | (go_simp; done) | (go_simp; rfl)); intro gb189 hg w6 hbox hb; have n0_ := Aside0.mk (blk_below (g := gb188) (o := .cells #[.bool a0_0, .bool a0_1, .slice A0_2 l0_2.length c0_2, .slice A0_3 l0_3.length c0_3, .slice A0_4 l0_4.length c0_4, .slice A0_5 l0_5.length c0_5, .bool a0_6, .bool a0_7] 25 (0, 0)) (by (with_reducible repeat (first | refine blk_drewN ?_ _ | refine blk_drew ?_ | refine blk_alloc ?_ _)); exact BK188.out) hb); have n1_ := Aside0.mk (below_step (by repeat (first | (with_reducible first | exact HB.out | apply below_alloc | apply pw_below_drewN | apply below_drew1 | refine below_set ?_ GE188.out) | exact HB.out)) hb); have n2_ := Aside0.mk (hbox); have n3_ := Aside0.mk ((by rw [hg]; exact (below_size (by repeat (first | (with_reducible first | exact HB.out | apply below_alloc | apply pw_below_drewN | apply below_drew1 | refine below_set ?_ GE188.out) | exact HB.out))) : w.heap.size ≤ gb189)); have n4_ := Aside0.mk ((by rw [hg]; exact (below_size (by repeat (first | (with_reducible first | exact HB.out | apply below_alloc | apply pw_below_drewN | apply below_drew1 | refine below_set ?_ GE188.out) | exact HB.out))) : w.heap.size ≤ gb189)); have n5_ := Aside0.mk ((by rw [hg]; exact Nat.ne_of_lt (blk_lt (g := gb188) (o := .cells #[.bool a0_0, .bool a0_1, .slice A0_2 l0_2.length c0_2, .slice A0_3 l0_3.length c0_3, .slice A0_4 l0_4.length c0_4, .slice A0_5 l0_5.length c0_5, .bool a0_6, .bool a0_7] 25 (0, 0)) (by (with_reducible repeat (first | refine blk_drewN ?_ _ | refine blk_drew ?_ | refine blk_alloc ?_ _)); exact BK188.out)) : gb188 ≠ gb189)); have n6_ := Aside0.mk ((by rw [hg]; exact Nat.ne_of_gt (blk_lt (g := gb188) (o := .cells #[.bool a0_0, .bool a0_1, .slice A0_2 l0_2.length c0_2, .slice A0_3 l0_3.length c0_3, .slice A0_4 l0_4.length c0_4, .slice A0_5 l0_5.length c0_5, .bool a0_6, .bool a0_7] 25 (0, 0)) (by (with_reducible repeat (first | refine blk_drewN ?_ _ | refine blk_drew ?_ | refine blk_alloc ?_ _)); exact BK188.out)) : gb189 ≠ gb188)); clear BK188; clear HB; have BK188 := n0_; have HB := n1_; have BK189 := n2_; have GW189 := n3_; have GE189 := n4_; have NB188_189 := n5_; have NB189_188 := n6_; clear n0_ n1_ n2_ n3_ n4_ n5_ n6_; clear hb hbox hg))
 have n0_ := Aside0.mk (blk_drew BK188.out)
 have n1_ := Aside0.mk (blk_drew BK189.out)
 have n2_ := Aside0.mk (below_drew1 HB.out)
 clear BK188
 clear BK189
 clear HB
 have BK188 := n0_
 have BK189 := n1_
 have HB := n2_
 clear n0_ n1_ n2_
 refine start_ (n := 15) (S := fun w' => w'.cell? ⟨gb188, 0, none⟩ = some (.bool a0_0) ∧ w'.cell? ⟨gb188, 1, none⟩ = some (.bool a0_1) ∧ w'.cell? ⟨gb188, 2, none⟩ = some (.slice A0_2 l0_2.length c0_2) ∧ w'.cell? ⟨gb188, 3, none⟩ = some (.slice A0_3 l0_3.length c0_3) ∧ w'.cell? ⟨gb188, 4, none⟩ = some (.slice A0_4 l0_4.length c0_4) ∧ w'.cell? ⟨gb188, 5, none⟩ = some (.slice A0_5 l0_5.length c0_5) ∧ w'.cell? ⟨gb188, 6, none⟩ = some (.bool a0_6) ∧ w'.cell? ⟨gb188, 7, none⟩ = some (.bool a0_7)) (ds := [10, 12, 14]) (tf 0 15) (by kernel_rfl) rfl rfl ⟨(blk_cell BK188.out 0).trans rfl, (blk_cell BK188.out 1).trans rfl, (blk_cell BK188.out 2).trans rfl, (blk_cell BK188.out 3).trans rfl, (blk_cell BK188.out 4).trans rfl, (blk_cell BK188.out 5).trans rfl, (blk_cell BK188.out 6).trans rfl, (blk_cell BK188.out 7).trans rfl⟩ (fun hHeld => ?_); refine with_tabW config_CanonK.tab1 config_CanonK.bits1 (fun HT_ HW_ => ?_)
 generalize w6.drew = w7 at BK188 BK189 HB hHeld ⊢
 refine pure_ (i := 0) (N := some 6) (v := ?_) (a' := ?_) (tf 1 14) rfl rfl (any_of HT_.out (by kernel_rfl)) (fun _ _ _ h => h) (Or.inl ⟨by rfl, ?_⟩) ?_ ?_
 rotate_left
 ·intro w'
  go_simp
  with_reducible rfl
 rotate_left
 ·simp only [Act.put, List.setIfInBounds_toArray, List.set_cons_zero, List.set_cons_succ, i64_w, i32_w]
  rfl
 refine pure_ (i := 3) (N := some 9) (v := ?_) (a' := ?_) #[true, false, false, true, false, false, false, false, false, false, false, false, false, false, false] rfl rfl (any_of HT_.out (by kernel_rfl)) (fun _ _ _ h => h) (Or.inl ⟨by rfl, ?_⟩) ?_ ?_
 rotate_left
 ·intro w'
  go_simp
  with_reducible rfl
 rotate_left
 ·simp only [Act.put, List.setIfInBounds_toArray, List.set_cons_zero, List.set_cons_succ, i64_w, i32_w]
  rfl
 refine pure_ (i := 6) (N := some 12) (v := ?_) (a' := ?_) #[true, false, false, true, false, false, true, false, false, false, false, false, false, false, false] rfl rfl (any_of HT_.out (by kernel_rfl)) (fun _ _ _ h => h) (Or.inl ⟨by rfl, ?_⟩) ?_ ?_
 rotate_left
 ·intro w'
  go_simp
  with_reducible rfl
 rotate_left
 ·simp only [Act.put, List.setIfInBounds_toArray, List.set_cons_zero, List.set_cons_succ, i64_w, i32_w]
  rfl
 refine take_ (i := 1) (N := some 7) (v := ?_) (a' := ?_) #[true, true, false, true, false, false, true, false, false, false, false, false, false, false, false] rfl rfl (take_ofW HT_.out HW_.out (by kernel_rfl)) (fun _ _ _ h => h) (Or.inl ⟨by rfl, ?_⟩) hHeld ?_ ?_
 rotate_left
 ·rintro w' ⟨s0, s1, s2, s3, s4, s5, s6, s7⟩
  go_simp
  with_reducible rfl
 rotate_left
 ·simp only [Act.put, List.setIfInBounds_toArray, List.set_cons_zero, List.set_cons_succ, i64_w, i32_w]
  rfl
 refine take_ (i := 4) (N := some 10) (v := ?_) (a' := ?_) #[true, true, false, true, true, false, true, false, false, false, false, false, false, false, false] rfl rfl (take_ofW HT_.out HW_.out (by kernel_rfl)) (fun _ _ _ h => h) (Or.inl ⟨by rfl, ?_⟩) hHeld ?_ ?_
 rotate_left
 ·rintro w' ⟨s0, s1, s2, s3, s4, s5, s6, s7⟩
  go_simp
  with_reducible rfl
 rotate_left
 ·simp only [Act.put, List.setIfInBounds_toArray, List.set_cons_zero, List.set_cons_succ, i64_w, i32_w]
  rfl
 refine take_ (i := 7) (N := some 13) (v := ?_) (a' := ?_) #[true, true, false, true, true, false, true, true, false, false, false, false, false, false, false] rfl rfl (take_ofW HT_.out HW_.out (by kernel_rfl)) (fun _ _ _ h => h) (Or.inl ⟨by rfl, ?_⟩) hHeld ?_ ?_
 rotate_left
 ·rintro w' ⟨s0, s1, s2, s3, s4, s5, s6, s7⟩
  go_simp
  with_reducible rfl
 rotate_left
 ·simp only [Act.put, List.setIfInBounds_toArray, List.set_cons_zero, List.set_cons_succ, i64_w, i32_w]
  rfl
 refine one_ (i := 2) (N := some 8) #[true, true, true, true, true, false, true, true, false, false, false, false, false, false, false] rfl rfl (one_of HT_.out (by kernel_rfl)) (by decide) (fun K hK => ?_)
 refine goes_ Try.func52 (by kernel_rfl) rfl #[.slice A0_2 l0_2.length c0_2] (by rfl) rfl rfl (by (try simp only [List.map_toArray, List.map_cons, List.map_nil]); first | done | rfl | (simp only [List.length_drop, List.length_take]; rfl)) ?_
 with_reducible refine (fold_Sorted.calls _ _ l0_2 t190 _ ?side1 ?side2 A2.out).mono ?_
 (case side1 => repeat (first | exact (Kd.C_below HR0_2.out HB.out) | (with_reducible refine Kd.C_alloc ?_ _) | (with_reducible refine Kd.C_drewN ?_ _) | (with_reducible refine Kd.C_drew ?_)))
 (case side2 => exact HC0_2.out)
 rintro e w8 ⟨v191, rfl, ho0, hb⟩
 refine ⟨_, rfl, ?_⟩
 have n0_ := Aside0.mk (Kd.R_lower ho0 (below_size (by repeat (first | (with_reducible first | exact HB.out | apply below_alloc | apply pw_below_drewN | apply below_drew1 | refine below_set ?_ GE188.out | refine below_set ?_ GE189.out) | exact HB.out))))
 have n1_ := Aside0.mk (blk_below (g := gb188) (o := .cells #[.bool a0_0, .bool a0_1, .slice A0_2 l0_2.length c0_2, .slice A0_3 l0_3.length c0_3, .slice A0_4 l0_4.length c0_4, .slice A0_5 l0_5.length c0_5, .bool a0_6, .bool a0_7] 25 (0, 0)) (by (with_reducible repeat (first | refine blk_drewN ?_ _ | refine blk_drew ?_ | refine blk_alloc ?_ _)); exact BK188.out) hb)
 have n2_ := Aside0.mk (blk_below (g := gb189) (o := .cells #[.bool false, .bool false, .slice none 0 0, .slice none 0 0, .slice none 0 0, .slice none 0 0, .bool false, .bool false] 25 (0, 0)) (by (with_reducible repeat (first | refine blk_drewN ?_ _ | refine blk_drew ?_ | refine blk_alloc ?_ _)); exact BK189.out) hb)
 have n3_ := Aside0.mk (below_step (by repeat (first | (with_reducible first | exact HB.out | apply below_alloc | apply pw_below_drewN | apply below_drew1 | refine below_set ?_ GE188.out | refine below_set ?_ GE189.out) | exact HB.out)) hb)
 clear BK188
 clear BK189
 clear HB
 have HO192 := n0_
 have BK188 := n1_
 have BK189 := n2_
 have HB := n3_
 clear n0_ n1_ n2_ n3_
 (try clear hb)
 (try clear hb2)
 (try clear hk)
 (try clear hi)
 (try clear ho0)
 refine hK.out _ _ ⟨(blk_cell BK188.out 0).trans rfl, (blk_cell BK188.out 1).trans rfl, (blk_cell BK188.out 2).trans rfl, (blk_cell BK188.out 3).trans rfl, (blk_cell BK188.out 4).trans rfl, (blk_cell BK188.out 5).trans rfl, (blk_cell BK188.out 6).trans rfl, (blk_cell BK188.out 7).trans rfl⟩ (fun hHeld => ?_)
 clear hK K
 refine norm_ (a' := ?_) ?_ ?_
 rotate_left
 ·show Act.put _ (some 8) _ = _
  simp only [Act.put, List.setIfInBounds_toArray, List.set_cons_zero, List.set_cons_succ, i64_w, i32_w]
  rfl
 refine pure_ (i := 9) (N := some 15) (v := ?_) (a' := ?_) #[true, true, true, true, true, false, true, true, false, true, false, false, false, false, false] rfl rfl (any_of HT_.out (by kernel_rfl)) (fun _ _ _ h => h) (Or.inl ⟨by rfl, ?_⟩) ?_ ?_
 rotate_left
 ·intro w'
  go_simp
  with_reducible rfl
 rotate_left
 ·simp only [Act.put, List.setIfInBounds_toArray, List.set_cons_zero, List.set_cons_succ, i64_w, i32_w]
  rfl
 refine one_ (i := 5) (N := some 11) #[true, true, true, true, true, true, true, true, false, true, false, false, false, false, false] rfl rfl (one_of HT_.out (by kernel_rfl)) (by decide) (fun K hK => ?_)
 refine goes_ Try.func52 (by kernel_rfl) rfl #[.slice A0_3 l0_3.length c0_3] (by rfl) rfl rfl (by (try simp only [List.map_toArray, List.map_cons, List.map_nil]); first | done | rfl | (simp only [List.length_drop, List.length_take]; rfl)) ?_
 with_reducible refine (fold_Sorted.calls _ _ l0_3 t193 _ ?side1 ?side2 A3.out).mono ?_
 (case side1 => repeat (first | exact (Kd.C_below HR0_3.out HB.out) | (with_reducible refine Kd.C_alloc ?_ _) | (with_reducible refine Kd.C_drewN ?_ _) | (with_reducible refine Kd.C_drew ?_)))
 (case side2 => exact HC0_3.out)
 rintro e w9 ⟨v194, rfl, ho0, hb⟩
 refine ⟨_, rfl, ?_⟩
 have n0_ := Aside0.mk (Kd.R_elder' (by (with_reducible repeat (first | apply Kd.R_alloc | apply Kd.R_drewN | apply Kd.R_drew)); exact HO192.out) (Kd.R_base ho0) hb)
 have n1_ := Aside0.mk (Kd.R_lower (Kd.R_new' ho0 (Kd.R_lt (by (with_reducible repeat (first | apply Kd.R_alloc | apply Kd.R_drewN | apply Kd.R_drew)); exact HO192.out))) (below_size (by repeat (first | (with_reducible first | exact HB.out | apply below_alloc | apply pw_below_drewN | apply below_drew1 | refine below_set ?_ GE188.out | refine below_set ?_ GE189.out) | exact HB.out))))
 have n2_ := Aside0.mk (blk_below (g := gb188) (o := .cells #[.bool a0_0, .bool a0_1, .slice A0_2 l0_2.length c0_2, .slice A0_3 l0_3.length c0_3, .slice A0_4 l0_4.length c0_4, .slice A0_5 l0_5.length c0_5, .bool a0_6, .bool a0_7] 25 (0, 0)) (by (with_reducible repeat (first | refine blk_drewN ?_ _ | refine blk_drew ?_ | refine blk_alloc ?_ _)); exact BK188.out) hb)
 have n3_ := Aside0.mk (blk_below (g := gb189) (o := .cells #[.bool false, .bool false, .slice none 0 0, .slice none 0 0, .slice none 0 0, .slice none 0 0, .bool false, .bool false] 25 (0, 0)) (by (with_reducible repeat (first | refine blk_drewN ?_ _ | refine blk_drew ?_ | refine blk_alloc ?_ _)); exact BK189.out) hb)
 have n4_ := Aside0.mk (below_step (by repeat (first | (with_reducible first | exact HB.out | apply below_alloc | apply pw_below_drewN | apply below_drew1 | refine below_set ?_ GE188.out | refine below_set ?_ GE189.out) | exact HB.out)) hb)
 clear HO192
 clear BK188
 clear BK189
 clear HB
 have HO192 := n0_
 have HO195 := n1_
 have BK188 := n2_
 have BK189 := n3_
 have HB := n4_
 clear n0_ n1_ n2_ n3_ n4_
 (try clear hb)
 (try clear hb2)
 (try clear hk)
 (try clear hi)
 (try clear ho0)
 refine hK.out _ _ ⟨(blk_cell BK188.out 0).trans rfl, (blk_cell BK188.out 1).trans rfl, (blk_cell BK188.out 2).trans rfl, (blk_cell BK188.out 3).trans rfl, (blk_cell BK188.out 4).trans rfl, (blk_cell BK188.out 5).trans rfl, (blk_cell BK188.out 6).trans rfl, (blk_cell BK188.out 7).trans rfl⟩ (fun hHeld => ?_)
 clear hK K
 refine norm_ (a' := ?_) ?_ ?_
 rotate_left
 ·show Act.put _ (some 11) _ = _
  simp only [Act.put, List.setIfInBounds_toArray, List.set_cons_zero, List.set_cons_succ, i64_w, i32_w]
  rfl
 refine one_ (i := 8) (N := some 14) (tf 10 5) rfl rfl (one_of HT_.out (by kernel_rfl)) (by decide) (fun K hK => ?_)
 refine goes_ Try.func52 (by kernel_rfl) rfl #[.slice A0_4 l0_4.length c0_4] (by rfl) rfl rfl (by (try simp only [List.map_toArray, List.map_cons, List.map_nil]); first | done | rfl | (simp only [List.length_drop, List.length_take]; rfl)) ?_
 with_reducible refine (fold_Sorted.calls _ _ l0_4 t196 _ ?side1 ?side2 A4.out).mono ?_
 (case side1 => repeat (first | exact (Kd.C_below HR0_4.out HB.out) | (with_reducible refine Kd.C_alloc ?_ _) | (with_reducible refine Kd.C_drewN ?_ _) | (with_reducible refine Kd.C_drew ?_)))
 (case side2 => exact HC0_4.out)
 rintro e w10 ⟨v197, rfl, ho0, hb⟩
 refine ⟨_, rfl, ?_⟩
 have n0_ := Aside0.mk (Kd.R_elder' (by (with_reducible repeat (first | apply Kd.R_alloc | apply Kd.R_drewN | apply Kd.R_drew)); exact HO192.out) (Kd.R_base ho0) hb)
 have n1_ := Aside0.mk (Kd.R_elder' (by (with_reducible repeat (first | apply Kd.R_alloc | apply Kd.R_drewN | apply Kd.R_drew)); exact HO195.out) (Kd.R_base ho0) hb)
 have n2_ := Aside0.mk (Kd.R_lower (Kd.R_new' (Kd.R_new' ho0 (Kd.R_lt (by (with_reducible repeat (first | apply Kd.R_alloc | apply Kd.R_drewN | apply Kd.R_drew)); exact HO192.out))) (Kd.R_lt (by (with_reducible repeat (first | apply Kd.R_alloc | apply Kd.R_drewN | apply Kd.R_drew)); exact HO195.out))) (below_size (by repeat (first | (with_reducible first | exact HB.out | apply below_alloc | apply pw_below_drewN | apply below_drew1 | refine below_set ?_ GE188.out | refine below_set ?_ GE189.out) | exact HB.out))))
 have n3_ := Aside0.mk (blk_below (g := gb188) (o := .cells #[.bool a0_0, .bool a0_1, .slice A0_2 l0_2.length c0_2, .slice A0_3 l0_3.length c0_3, .slice A0_4 l0_4.length c0_4, .slice A0_5 l0_5.length c0_5, .bool a0_6, .bool a0_7] 25 (0, 0)) (by (with_reducible repeat (first | refine blk_drewN ?_ _ | refine blk_drew ?_ | refine blk_alloc ?_ _)); exact BK188.out) hb)
 have n4_ := Aside0.mk (blk_below (g := gb189) (o := .cells #[.bool false, .bool false, .slice none 0 0, .slice none 0 0, .slice none 0 0, .slice none 0 0, .bool false, .bool false] 25 (0, 0)) (by (with_reducible repeat (first | refine blk_drewN ?_ _ | refine blk_drew ?_ | refine blk_alloc ?_ _)); exact BK189.out) hb)
 have n5_ := Aside0.mk (below_step (by repeat (first | (with_reducible first | exact HB.out | apply below_alloc | apply pw_below_drewN | apply below_drew1 | refine below_set ?_ GE188.out | refine below_set ?_ GE189.out) | exact HB.out)) hb)
 clear HO192
 clear HO195
 clear BK188
 clear BK189
 clear HB
 have HO192 := n0_
 have HO195 := n1_
 have HO198 := n2_
 have BK188 := n3_
 have BK189 := n4_
 have HB := n5_
 clear n0_ n1_ n2_ n3_ n4_ n5_
 (try clear hb)
 (try clear hb2)
 (try clear hk)
 (try clear hi)
 (try clear ho0)
 obtain ⟨Ao11, co11, eo11⟩ := Kd.R_slice HO192.out
 (first | subst eo11 | (injection eo11 with f1_ f2_ f3_; have f4_ := f1_.symm; have f5_ := f3_.symm; clear f1_ f2_ f3_; subst f4_; subst f5_))
 obtain ⟨Ao13, co13, eo13⟩ := Kd.R_slice HO195.out
 (first | subst eo13 | (injection eo13 with f1_ f2_ f3_; have f4_ := f1_.symm; have f5_ := f3_.symm; clear f1_ f2_ f3_; subst f4_; subst f5_))
 obtain ⟨Ao15, co15, eo15⟩ := Kd.R_slice HO198.out
 (first | subst eo15 | (injection eo15 with f1_ f2_ f3_; have f4_ := f1_.symm; have f5_ := f3_.symm; clear f1_ f2_ f3_; subst f4_; subst f5_))
 refine hK.out _ _ ⟨(blk_cell BK188.out 0).trans rfl, (blk_cell BK188.out 1).trans rfl, (blk_cell BK188.out 2).trans rfl, (blk_cell BK188.out 3).trans rfl, (blk_cell BK188.out 4).trans rfl, (blk_cell BK188.out 5).trans rfl, (blk_cell BK188.out 6).trans rfl, (blk_cell BK188.out 7).trans rfl⟩ (fun hHeld => ?_)
 clear hK K
 refine norm_ (a' := ?_) ?_ ?_
 rotate_left
 ·show Act.put _ (some 14) _ = _
  simp only [Act.put, List.setIfInBounds_toArray, List.set_cons_zero, List.set_cons_succ, i64_w, i32_w]
  rfl
 refine last_ (i := 10) (N := none) (tf 11 4) rfl rfl (one_of HT_.out (by kernel_rfl)) (by decide) (fun K hK => ?_)
 have hs12 : w10.cell? ⟨gb188, 2, none⟩ = some (.slice A0_2 l0_2.length c0_2) := (blk_cell BK188.out 2).trans rfl
 have hfs12 := blk_frozen BK188.out 2
 have hns12_1 := NB189_188.out
 have hms12_1 := NB188_189.out
 refine skip_ (w1 := ?_) (by rfl) rfl ?_ ?_
 rotate_left
 ·go_simp
  rfl
 refine hK.out _ _ ?_
 clear hK K
 refine pure_ (i := 11) (N := some 16) (v := ?_) (a' := ?_) (tf 12 3) rfl rfl (any_of HT_.out (by kernel_rfl)) (fun _ _ _ h => h) (Or.inl ⟨by rfl, ?_⟩) ?_ ?_
 rotate_left
 ·intro w'
  go_simp
  with_reducible rfl
 rotate_left
 ·simp only [Act.put, List.setIfInBounds_toArray, List.set_cons_zero, List.set_cons_succ, i64_w, i32_w]
  rfl
 refine last_ (i := 12) (N := none) (tf 13 2) rfl rfl (one_of HT_.out (by kernel_rfl)) (by decide) (fun K hK => ?_)
 have hs14 : w10.cell? ⟨gb188, 3, none⟩ = some (.slice A0_3 l0_3.length c0_3) := (blk_cell BK188.out 3).trans rfl
 have hfs14 := blk_frozen BK188.out 3
 have hns14_1 := NB189_188.out
 have hms14_1 := NB188_189.out
 refine skip_ (w1 := ?_) (by rfl) rfl ?_ ?_
 rotate_left
 ·go_simp
  rfl
 refine hK.out _ _ ?_
 clear hK K
 refine pure_ (i := 13) (N := some 17) (v := ?_) (a' := ?_) (tf 14 1) rfl rfl (any_of HT_.out (by kernel_rfl)) (fun _ _ _ h => h) (Or.inl ⟨by rfl, ?_⟩) ?_ ?_
 rotate_left
 ·intro w'
  go_simp
  with_reducible rfl
 rotate_left
 ·simp only [Act.put, List.setIfInBounds_toArray, List.set_cons_zero, List.set_cons_succ, i64_w, i32_w]
  rfl
 refine last_ (i := 14) (N := none) (tf 15 0) rfl rfl (one_of HT_.out (by kernel_rfl)) (by decide) (fun K hK => ?_)
 have hs16 : w10.cell? ⟨gb188, 4, none⟩ = some (.slice A0_4 l0_4.length c0_4) := (blk_cell BK188.out 4).trans rfl
 have hfs16 := blk_frozen BK188.out 4
 have hns16_1 := NB189_188.out
 have hms16_1 := NB188_189.out
 refine skip_ (w1 := ?_) (by rfl) rfl ?_ ?_
 rotate_left
 ·go_simp
  rfl
 refine hK.out _ _ ?_
 clear hK K
 refine done_ (done_of HT_.out (by kernel_rfl)) ?_
 have hnb17 := NB188_189.out
 have hnc17 := NB189_188.out
 have hcz18_0 : w10.cell? ⟨gb188, 0, none⟩ = some (.bool a0_0) := (blk_cell BK188.out 0).trans rfl
 have hcz18_1 : w10.cell? ⟨gb188, 1, none⟩ = some (.bool a0_1) := (blk_cell BK188.out 1).trans rfl
 have hcz18_2 : w10.cell? ⟨gb188, 2, none⟩ = some (.slice A0_2 l0_2.length c0_2) := (blk_cell BK188.out 2).trans rfl
 have hcz18_3 : w10.cell? ⟨gb188, 3, none⟩ = some (.slice A0_3 l0_3.length c0_3) := (blk_cell BK188.out 3).trans rfl
 have hcz18_4 : w10.cell? ⟨gb188, 4, none⟩ = some (.slice A0_4 l0_4.length c0_4) := (blk_cell BK188.out 4).trans rfl
 have hcz18_5 : w10.cell? ⟨gb188, 5, none⟩ = some (.slice A0_5 l0_5.length c0_5) := (blk_cell BK188.out 5).trans rfl
 have hcz18_6 : w10.cell? ⟨gb188, 6, none⟩ = some (.bool a0_6) := (blk_cell BK188.out 6).trans rfl
 have hcz18_7 : w10.cell? ⟨gb188, 7, none⟩ = some (.bool a0_7) := (blk_cell BK188.out 7).trans rfl
 have hfz18_0 := blk_frozen BK188.out 0
 have hfz18_1 := blk_frozen BK188.out 1
 have hfz18_2 := blk_frozen BK188.out 2
 have hfz18_3 := blk_frozen BK188.out 3
 have hfz18_4 := blk_frozen BK188.out 4
 have hfz18_5 := blk_frozen BK188.out 5
 have hfz18_6 := blk_frozen BK188.out 6
 have hfz18_7 := blk_frozen BK188.out 7
 try go_wp2
 go_loopg [3, 21] k (fun kq v3 v21 w' => ∃ (x3_1 : List (S35)) (x21_1 : Int), v21 = .int .i64 x21_1 ∧ Aside0 (config_CanonK.l0 kq x3_1 l0_5 (l0_5.length : Int) x21_1 a0_0 a0_1 t190 t193 t196 l0_5 a0_6 a0_7 = some (r1, r2, r3, r4, r5, r6, r7, r8)) ∧ Aside0 (kq ≤ k) ∧ Aside0 (Kd.S k35 35 w' w.heap.size (fun k_ => some k_ ≠ ((.slice Ao11 t190.length co11) : Value).ownBlock ∧ some k_ ≠ ((.slice Ao13 t193.length co13) : Value).ownBlock ∧ some k_ ≠ ((.slice Ao15 t196.length co15) : Value).ownBlock) v3 x3_1) ∧ Aside0 (Kd.R Kd.string 9 w' w.heap.size (fun k_ => some k_ ≠ ((.slice Ao13 t193.length co13) : Value).ownBlock ∧ some k_ ≠ ((.slice Ao15 t196.length co15) : Value).ownBlock) (.slice Ao11 t190.length co11) t190) ∧ Aside0 (Kd.R Kd.string 9 w' w.heap.size (fun k_ => some k_ ≠ ((.slice Ao11 t190.length co11) : Value).ownBlock ∧ some k_ ≠ ((.slice Ao15 t196.length co15) : Value).ownBlock) (.slice Ao13 t193.length co13) t193) ∧ Aside0 (Kd.R Kd.string 9 w' w.heap.size (fun k_ => some k_ ≠ ((.slice Ao11 t190.length co11) : Value).ownBlock ∧ some k_ ≠ ((.slice Ao13 t193.length co13) : Value).ownBlock) (.slice Ao15 t196.length co15) t196) ∧ Aside0 (w'.heap[gb188]? = some (.cells #[.bool a0_0, .bool a0_1, (.slice Ao11 t190.length co11), (.slice Ao13 t193.length co13), (.slice Ao15 t196.length co15), (.slice A0_5 l0_5.length c0_5), .bool a0_6, .bool a0_7] 25 (0, 0))) ∧ Aside0 (w'.heap[gb189]? = some (.cells #[.bool false, .bool false, (.slice none 0 0), (.slice none 0 0), (.slice none 0 0), (.slice none 0 0), .bool false, .bool false] 25 (0, 0))) ∧ Aside0 (Below w.heap.size w w'))
 case atStart => exact ⟨(([] : List (S35))), (0), (by first | rfl | (simp; done) | (simp [*]; done)), H', ⟨Nat.le_refl _⟩, ⟨by first | exact Kd.S_nil _ _ _ _ _ | exact Kd.N_nil _ _ _ _ _ | exact Kd.V_nil _ _ _ _ _ | exact Kd.Q_nil _ _ _ _ _ | exact Kd.R_nil _ _ _ _ _⟩, ⟨by (with_reducible repeat (first | apply Kd.R_alloc | apply Kd.R_drewN | apply Kd.R_drew)); exact Kd.R_mono (Kd.R_far (p := ⟨gb188, 4, none⟩) (Kd.R_far (p := ⟨gb188, 3, none⟩) (Kd.R_far (p := ⟨gb188, 2, none⟩) (Kd.R_types HO192.out BK188.out (by decide)) (fun _ hk => hk.2) (.slice Ao11 t190.length co11)) (fun _ hk => hk.2) (.slice Ao13 t193.length co13)) (fun _ hk => hk.2) (.slice Ao15 t196.length co15)) (fun _ hk => ⟨hk.1.1.2, hk.1.2⟩)⟩, ⟨by (with_reducible repeat (first | apply Kd.R_alloc | apply Kd.R_drewN | apply Kd.R_drew)); exact Kd.R_mono (Kd.R_far (p := ⟨gb188, 4, none⟩) (Kd.R_far (p := ⟨gb188, 3, none⟩) (Kd.R_far (p := ⟨gb188, 2, none⟩) (Kd.R_types HO195.out BK188.out (by decide)) (fun _ hk => hk.2) (.slice Ao11 t190.length co11)) (fun _ hk => hk.2) (.slice Ao13 t193.length co13)) (fun _ hk => hk.2) (.slice Ao15 t196.length co15)) (fun _ hk => ⟨hk.1.1.2, hk.1.2⟩)⟩, ⟨by (with_reducible repeat (first | apply Kd.R_alloc | apply Kd.R_drewN | apply Kd.R_drew)); exact Kd.R_mono (Kd.R_far (p := ⟨gb188, 4, none⟩) (Kd.R_far (p := ⟨gb188, 3, none⟩) (Kd.R_far (p := ⟨gb188, 2, none⟩) (Kd.R_types HO198.out BK188.out (by decide)) (fun _ hk => hk.2) (.slice Ao11 t190.length co11)) (fun _ hk => hk.2) (.slice Ao13 t193.length co13)) (fun _ hk => hk.2) (.slice Ao15 t196.length co15)) (fun _ hk => ⟨hk.1.1.2, hk.1.2⟩)⟩, ⟨by (with_reducible repeat (first | refine blk_drewN ?_ _ | refine blk_drew ?_ | refine blk_alloc ?_ _)); refine blk_put (cs := #[.bool a0_0, .bool a0_1, .slice Ao11 t190.length co11, .slice Ao13 t193.length co13, .slice A0_4 l0_4.length c0_4, .slice A0_5 l0_5.length c0_5, .bool a0_6, .bool a0_7]) ?_ 4 _ rfl; (with_reducible repeat (first | refine blk_drewN ?_ _ | refine blk_drew ?_ | refine blk_alloc ?_ _)); refine blk_put (cs := #[.bool a0_0, .bool a0_1, .slice Ao11 t190.length co11, .slice A0_3 l0_3.length c0_3, .slice A0_4 l0_4.length c0_4, .slice A0_5 l0_5.length c0_5, .bool a0_6, .bool a0_7]) ?_ 3 _ rfl; (with_reducible repeat (first | refine blk_drewN ?_ _ | refine blk_drew ?_ | refine blk_alloc ?_ _)); refine blk_put (cs := #[.bool a0_0, .bool a0_1, .slice A0_2 l0_2.length c0_2, .slice A0_3 l0_3.length c0_3, .slice A0_4 l0_4.length c0_4, .slice A0_5 l0_5.length c0_5, .bool a0_6, .bool a0_7]) ?_ 2 _ rfl; (with_reducible repeat (first | refine blk_drewN ?_ _ | refine blk_drew ?_ | refine blk_alloc ?_ _)); exact BK188.out⟩, ⟨by (with_reducible repeat (first | refine blk_drewN ?_ _ | refine blk_drew ?_ | refine blk_alloc ?_ _)); refine blk_far ?_ NB189_188.out _; (with_reducible repeat (first | refine blk_drewN ?_ _ | refine blk_drew ?_ | refine blk_alloc ?_ _)); refine blk_far ?_ NB189_188.out _; (with_reducible repeat (first | refine blk_drewN ?_ _ | refine blk_drew ?_ | refine blk_alloc ?_ _)); refine blk_far ?_ NB189_188.out _; (with_reducible repeat (first | refine blk_drewN ?_ _ | refine blk_drew ?_ | refine blk_alloc ?_ _)); exact BK189.out⟩, ⟨by repeat (first | (with_reducible first | exact HB.out | apply below_alloc | apply pw_below_drewN | apply below_drew1 | refine below_set ?_ GE188.out | refine below_set ?_ GE189.out) | exact HB.out)⟩⟩
 case round =>
  clear H'
  try clear c1
  try clear c2
  try clear p2
  try clear c5
  try clear c17
  try clear hcz18_0
  try clear hcz18_1
  try clear hcz18_2
  try clear hcz18_3
  try clear hcz18_4
  try clear hcz18_5
  try clear hcz18_6
  try clear hcz18_7
  try clear hfz18_0
  try clear hfz18_1
  try clear hfz18_2
  try clear hfz18_3
  try clear hfz18_4
  try clear hfz18_5
  try clear hfz18_6
  try clear hfz18_7
  obtain ⟨x3_1, x21_1, rfl, HA, HK1, HO_3, HO_189002, HO_189003, HO_189004, BK188, BK189, HB⟩ := hrel
  cases gk with
  | zero => exact absurd HA.out (by simp [config_CanonK.l0])
  | succ k1 =>
   have H := HA.out
   clear HA
   simp only [config_CanonK.l0] at H
   by_cases c19 : x21_1 < (l0_5.length : Int)
   ·rw [if_pos c19] at H
    have c19b0 : decide (x21_1 < (l0_5.length : Int)) = true := decide_eq_true c19
    clear c19
    by_cases c20 : 0 ≤ x21_1
    ·rw [if_pos c20] at H
     have c20b0 : decide (0 ≤ x21_1) = true := decide_eq_true c20
     clear c20
     by_cases c21 : x21_1 < (l0_5.length : Int)
     ·rw [if_pos c21] at H
      have c21b0 : decide (x21_1 < (l0_5.length : Int)) = true := decide_eq_true c21
      clear c21
      by_cases c22 : (((rd_T35 l0_5 x21_1).f1).length : Int) > 0
      ·rw [if_pos c22] at H
       have c22b0 : decide (0 < (((rd_T35 l0_5 x21_1).f1).length : Int)) = true := decide_eq_true c22
       have c22b1 : decide (0 < ((rd_T35 l0_5 x21_1).f1).length) = true := decide_eq_true (by omega)
       clear c22
       replace H := Option.bind_eq_some_iff.mp H
       obtain ⟨t201, A230, H⟩ := H
       have A23 := Aside0.mk A230
       clear A230
       by_cases c24 : x3_1.length < 3518437208883
       ·rw [if_pos c24] at H
        have LMc24 := Aside0.mk c24
        clear c24
        obtain ⟨y204, hy204⟩ : ∃ y_ : List (S35), y_ = (x3_1 ++ [(⟨(rd_T35 l0_5 x21_1).f0, t201⟩ : S35)]) := ⟨_, rfl⟩
        replace H : (config_CanonK.l0 k1 y204 l0_5 (l0_5.length : Int) (wrap64 (x21_1 + 1)) a0_0 a0_1 t190 t193 t196 l0_5 a0_6 a0_7) = some (r1, r2, r3, r4, r5, r6, r7, r8) := by first | (rw [hy204]; with_reducible exact H) | (have H2_ := (Option.bind_some _ _).symm.trans H; rw [hy204]; with_reducible exact H2_) | (have H2_ := (Option.bind_some _ _).symm.trans H; with_reducible exact H2_) | with_reducible exact H | (rw [hy204]; exact H) | exact H
        have Ny204 := Aside0.mk hy204
        clear hy204
        have H' := Aside0.mk H
        clear H
        have p199 : 0 ≤ (x21_1 : Int) := of_decide_eq_true (by first | (with_reducible assumption) | assumption)
        have q199 : x21_1 < (l0_5.length : Int) := of_decide_eq_true (by first | (with_reducible assumption) | assumption)
        obtain ⟨ad199, A199_1, c199_1, e199, hx199_0, hx199_1, hl199_1, hi199_1⟩ := at_T35 HR0_5.out x21_1 p199 q199
        cases e199
        replace hx199_0 := (HB.out.cell (World.block_lt_of_cell? w _ hx199_0)).trans hx199_0
        replace hx199_1 := (HB.out.cell (World.block_lt_of_cell? w _ hx199_1)).trans hx199_1
        have HR199_1 := Aside0.mk hi199_1
        have HC199_1 := Aside0.mk hl199_1
        clear hi199_1 hl199_1
        replace p199 := eq_true p199
        replace q199 := eq_true q199
        try go_wp2_with (first | ((with_reducible refine gate_dst (N := 5) rfl ?_); refine box_event ?hg (N := 5) ?hd (cs := #[.string (⟨#[]⟩ : ByteArray), .slice none 0 0]) (t := 35) ?hr ?_; (case hd => rfl); (case hg => rfl); (case hr => first | (go_simp; done) | (go_simp; rfl)); intro gb200 hg w25 hbox hb; have n0_ := Aside0.mk (Kd.S_below (Kd.S_elderB (by (with_reducible repeat (first | apply Kd.S_alloc | apply Kd.S_drewN | apply Kd.S_drew)); exact HO_3.out) gb200 (Nat.le_of_eq hg.symm)) hb); have n1_ := Aside0.mk (Kd.R_below (by (with_reducible repeat (first | apply Kd.R_alloc | apply Kd.R_drewN | apply Kd.R_drew)); exact HO_189002.out) hb); have n2_ := Aside0.mk (Kd.R_below (by (with_reducible repeat (first | apply Kd.R_alloc | apply Kd.R_drewN | apply Kd.R_drew)); exact HO_189003.out) hb); have n3_ := Aside0.mk (Kd.R_below (by (with_reducible repeat (first | apply Kd.R_alloc | apply Kd.R_drewN | apply Kd.R_drew)); exact HO_189004.out) hb); have n4_ := Aside0.mk (blk_below (g := gb188) (o := .cells #[.bool a0_0, .bool a0_1, .slice Ao11 t190.length co11, .slice Ao13 t193.length co13, .slice Ao15 t196.length co15, .slice (some ad199) l0_5.length c0_5, .bool a0_6, .bool a0_7] 25 (0, 0)) (by (with_reducible repeat (first | refine blk_drewN ?_ _ | refine blk_drew ?_ | refine blk_alloc ?_ _)); exact BK188.out) hb); have n5_ := Aside0.mk (blk_below (g := gb189) (o := .cells #[.bool false, .bool false, .slice none 0 0, .slice none 0 0, .slice none 0 0, .slice none 0 0, .bool false, .bool false] 25 (0, 0)) (by (with_reducible repeat (first | refine blk_drewN ?_ _ | refine blk_drew ?_ | refine blk_alloc ?_ _)); exact BK189.out) hb); have n6_ := Aside0.mk (below_step (by repeat (first | (with_reducible first | exact HB.out | apply below_alloc | apply pw_below_drewN | apply below_drew1 | refine below_set ?_ GE188.out | refine below_set ?_ GE189.out) | exact HB.out)) hb); have n7_ := Aside0.mk (hbox); have n8_ := Aside0.mk ((by rw [hg]; exact (below_size (by repeat (first | (with_reducible first | exact HB.out | apply below_alloc | apply pw_below_drewN | apply below_drew1 | refine below_set ?_ GE188.out | refine below_set ?_ GE189.out) | exact HB.out))) : w.heap.size ≤ gb200)); have n9_ := Aside0.mk ((by rw [hg]; exact (below_size (by repeat (first | (with_reducible first | exact HB.out | apply below_alloc | apply pw_below_drewN | apply below_drew1 | refine below_set ?_ GE188.out | refine below_set ?_ GE189.out) | exact HB.out))) : w.heap.size ≤ gb200)); have n10_ := Aside0.mk ((by rw [hg]; exact Nat.ne_of_lt (blk_lt (g := gb188) (o := .cells #[.bool a0_0, .bool a0_1, .slice Ao11 t190.length co11, .slice Ao13 t193.length co13, .slice Ao15 t196.length co15, .slice (some ad199) l0_5.length c0_5, .bool a0_6, .bool a0_7] 25 (0, 0)) (by (with_reducible repeat (first | refine blk_drewN ?_ _ | refine blk_drew ?_ | refine blk_alloc ?_ _)); exact BK188.out)) : gb188 ≠ gb200)); have n11_ := Aside0.mk ((by rw [hg]; exact Nat.ne_of_gt (blk_lt (g := gb188) (o := .cells #[.bool a0_0, .bool a0_1, .slice Ao11 t190.length co11, .slice Ao13 t193.length co13, .slice Ao15 t196.length co15, .slice (some ad199) l0_5.length c0_5, .bool a0_6, .bool a0_7] 25 (0, 0)) (by (with_reducible repeat (first | refine blk_drewN ?_ _ | refine blk_drew ?_ | refine blk_alloc ?_ _)); exact BK188.out)) : gb200 ≠ gb188)); have n12_ := Aside0.mk ((by rw [hg]; exact Nat.ne_of_lt (blk_lt (g := gb189) (o := .cells #[.bool false, .bool false, .slice none 0 0, .slice none 0 0, .slice none 0 0, .slice none 0 0, .bool false, .bool false] 25 (0, 0)) (by (with_reducible repeat (first | refine blk_drewN ?_ _ | refine blk_drew ?_ | refine blk_alloc ?_ _)); exact BK189.out)) : gb189 ≠ gb200)); have n13_ := Aside0.mk ((by rw [hg]; exact Nat.ne_of_gt (blk_lt (g := gb189) (o := .cells #[.bool false, .bool false, .slice none 0 0, .slice none 0 0, .slice none 0 0, .slice none 0 0, .bool false, .bool false] 25 (0, 0)) (by (with_reducible repeat (first | refine blk_drewN ?_ _ | refine blk_drew ?_ | refine blk_alloc ?_ _)); exact BK189.out)) : gb200 ≠ gb189)); clear HO_3; clear HO_189002; clear HO_189003; clear HO_189004; clear BK188; clear BK189; clear HB; have HO_3 := n0_; have HO_189002 := n1_; have HO_189003 := n2_; have HO_189004 := n3_; have BK188 := n4_; have BK189 := n5_; have HB := n6_; have BK200 := n7_; have GW200 := n8_; have GE200 := n9_; have NB188_200 := n10_; have NB200_188 := n11_; have NB189_200 := n12_; have NB200_189 := n13_; clear n0_ n1_ n2_ n3_ n4_ n5_ n6_ n7_ n8_ n9_ n10_ n11_ n12_ n13_; clear hb hbox hg; have hnb26 := NB200_188.out; have hnc26 := NB188_200.out; have hnb27 := NB200_189.out; have hnc27 := NB189_200.out; have hcz28_0 : w25.cell? ⟨gb200, 0, none⟩ = some (.string (⟨#[]⟩ : ByteArray)) := (blk_cell BK200.out 0).trans rfl; have hcz28_1 : w25.cell? ⟨gb200, 1, none⟩ = some (.slice none 0 0) := (blk_cell BK200.out 1).trans rfl; have hfz28_0 := blk_frozen BK200.out 0; have hfz28_1 := blk_frozen BK200.out 1))
        have n0_ : Aside0 (Kd.S k35 35 ((w25.setCell ⟨gb200, 0, none⟩ (.string ((rd_T35 l0_5 x21_1).f0))).setCell ⟨gb200, 1, none⟩ (.slice A199_1 ((rd_T35 l0_5 x21_1).f1).length c199_1)) w.heap.size (fun k_ => some k_ ≠ (.slice Ao11 t190.length co11 : Value).ownBlock ∧ some k_ ≠ (.slice Ao13 t193.length co13 : Value).ownBlock ∧ some k_ ≠ (.slice Ao15 t196.length co15 : Value).ownBlock ∧ k_ ≠ gb200) u3 x3_1) := ⟨by (with_reducible repeat (first | apply Kd.S_alloc | apply Kd.S_drewN | apply Kd.S_drew)); exact Kd.S_mono (Kd.S_far (p := ⟨gb200, 1, none⟩) (Kd.S_far (p := ⟨gb200, 0, none⟩) (Kd.S_mono HO_3.out (fun k_ hk => (⟨hk, hk.2⟩ : _ ∧ k_ ≠ gb200))) (fun _ hk => hk.2) (.string ((rd_T35 l0_5 x21_1).f0))) (fun _ hk => hk.2) (.slice A199_1 ((rd_T35 l0_5 x21_1).f1).length c199_1)) (fun _ hk => ⟨hk.1.1.1, ⟨hk.1.1.2.1, ⟨hk.1.1.2.2, hk.1.2⟩⟩⟩)⟩
        have n1_ : Aside0 (Kd.R Kd.string 9 ((w25.setCell ⟨gb200, 0, none⟩ (.string ((rd_T35 l0_5 x21_1).f0))).setCell ⟨gb200, 1, none⟩ (.slice A199_1 ((rd_T35 l0_5 x21_1).f1).length c199_1)) w.heap.size (fun k_ => some k_ ≠ (.slice Ao13 t193.length co13 : Value).ownBlock ∧ some k_ ≠ (.slice Ao15 t196.length co15 : Value).ownBlock) (.slice Ao11 t190.length co11) t190) := ⟨by (with_reducible repeat (first | apply Kd.R_alloc | apply Kd.R_drewN | apply Kd.R_drew)); exact Kd.R_mono (Kd.R_far (p := ⟨gb200, 1, none⟩) (Kd.R_far (p := ⟨gb200, 0, none⟩) (Kd.R_types HO_189002.out BK200.out (by decide)) (fun _ hk => hk.2) (.string ((rd_T35 l0_5 x21_1).f0))) (fun _ hk => hk.2) (.slice A199_1 ((rd_T35 l0_5 x21_1).f1).length c199_1)) (fun _ hk => ⟨hk.1.1, hk.1.2⟩)⟩
        have n2_ : Aside0 (Kd.R Kd.string 9 ((w25.setCell ⟨gb200, 0, none⟩ (.string ((rd_T35 l0_5 x21_1).f0))).setCell ⟨gb200, 1, none⟩ (.slice A199_1 ((rd_T35 l0_5 x21_1).f1).length c199_1)) w.heap.size (fun k_ => some k_ ≠ (.slice Ao11 t190.length co11 : Value).ownBlock ∧ some k_ ≠ (.slice Ao15 t196.length co15 : Value).ownBlock) (.slice Ao13 t193.length co13) t193) := ⟨by (with_reducible repeat (first | apply Kd.R_alloc | apply Kd.R_drewN | apply Kd.R_drew)); exact Kd.R_mono (Kd.R_far (p := ⟨gb200, 1, none⟩) (Kd.R_far (p := ⟨gb200, 0, none⟩) (Kd.R_types HO_189003.out BK200.out (by decide)) (fun _ hk => hk.2) (.string ((rd_T35 l0_5 x21_1).f0))) (fun _ hk => hk.2) (.slice A199_1 ((rd_T35 l0_5 x21_1).f1).length c199_1)) (fun _ hk => ⟨hk.1.1, hk.1.2⟩)⟩
        have n3_ : Aside0 (Kd.R Kd.string 9 ((w25.setCell ⟨gb200, 0, none⟩ (.string ((rd_T35 l0_5 x21_1).f0))).setCell ⟨gb200, 1, none⟩ (.slice A199_1 ((rd_T35 l0_5 x21_1).f1).length c199_1)) w.heap.size (fun k_ => some k_ ≠ (.slice Ao11 t190.length co11 : Value).ownBlock ∧ some k_ ≠ (.slice Ao13 t193.length co13 : Value).ownBlock) (.slice Ao15 t196.length co15) t196) := ⟨by (with_reducible repeat (first | apply Kd.R_alloc | apply Kd.R_drewN | apply Kd.R_drew)); exact Kd.R_mono (Kd.R_far (p := ⟨gb200, 1, none⟩) (Kd.R_far (p := ⟨gb200, 0, none⟩) (Kd.R_types HO_189004.out BK200.out (by decide)) (fun _ hk => hk.2) (.string ((rd_T35 l0_5 x21_1).f0))) (fun _ hk => hk.2) (.slice A199_1 ((rd_T35 l0_5 x21_1).f1).length c199_1)) (fun _ hk => ⟨hk.1.1, hk.1.2⟩)⟩
        have n4_ : Aside0 (((w25.setCell ⟨gb200, 0, none⟩ (.string ((rd_T35 l0_5 x21_1).f0))).setCell ⟨gb200, 1, none⟩ (.slice A199_1 ((rd_T35 l0_5 x21_1).f1).length c199_1)).heap[gb188]? = some (.cells #[.bool a0_0, .bool a0_1, .slice Ao11 t190.length co11, .slice Ao13 t193.length co13, .slice Ao15 t196.length co15, .slice (some ad199) l0_5.length c0_5, .bool a0_6, .bool a0_7] 25 (0, 0))) := ⟨by (with_reducible repeat (first | refine blk_drewN ?_ _ | refine blk_drew ?_ | refine blk_alloc ?_ _)); refine blk_far ?_ NB188_200.out _; (with_reducible repeat (first | refine blk_drewN ?_ _ | refine blk_drew ?_ | refine blk_alloc ?_ _)); refine blk_far ?_ NB188_200.out _; (with_reducible repeat (first | refine blk_drewN ?_ _ | refine blk_drew ?_ | refine blk_alloc ?_ _)); exact BK188.out⟩
        have n5_ : Aside0 (((w25.setCell ⟨gb200, 0, none⟩ (.string ((rd_T35 l0_5 x21_1).f0))).setCell ⟨gb200, 1, none⟩ (.slice A199_1 ((rd_T35 l0_5 x21_1).f1).length c199_1)).heap[gb189]? = some (.cells #[.bool false, .bool false, .slice none 0 0, .slice none 0 0, .slice none 0 0, .slice none 0 0, .bool false, .bool false] 25 (0, 0))) := ⟨by (with_reducible repeat (first | refine blk_drewN ?_ _ | refine blk_drew ?_ | refine blk_alloc ?_ _)); refine blk_far ?_ NB189_200.out _; (with_reducible repeat (first | refine blk_drewN ?_ _ | refine blk_drew ?_ | refine blk_alloc ?_ _)); refine blk_far ?_ NB189_200.out _; (with_reducible repeat (first | refine blk_drewN ?_ _ | refine blk_drew ?_ | refine blk_alloc ?_ _)); exact BK189.out⟩
        have n6_ : Aside0 (((w25.setCell ⟨gb200, 0, none⟩ (.string ((rd_T35 l0_5 x21_1).f0))).setCell ⟨gb200, 1, none⟩ (.slice A199_1 ((rd_T35 l0_5 x21_1).f1).length c199_1)).heap[gb200]? = some (.cells #[.string ((rd_T35 l0_5 x21_1).f0), .slice A199_1 ((rd_T35 l0_5 x21_1).f1).length c199_1] 35 (0, 0))) := ⟨by (with_reducible repeat (first | refine blk_drewN ?_ _ | refine blk_drew ?_ | refine blk_alloc ?_ _)); refine blk_put (cs := #[.string ((rd_T35 l0_5 x21_1).f0), .slice none 0 0]) ?_ 1 _ rfl; (with_reducible repeat (first | refine blk_drewN ?_ _ | refine blk_drew ?_ | refine blk_alloc ?_ _)); refine blk_put (cs := #[.string (⟨#[]⟩ : ByteArray), .slice none 0 0]) ?_ 0 _ rfl; (with_reducible repeat (first | refine blk_drewN ?_ _ | refine blk_drew ?_ | refine blk_alloc ?_ _)); exact BK200.out⟩
        have n7_ : Aside0 (Below w.heap.size w ((w25.setCell ⟨gb200, 0, none⟩ (.string ((rd_T35 l0_5 x21_1).f0))).setCell ⟨gb200, 1, none⟩ (.slice A199_1 ((rd_T35 l0_5 x21_1).f1).length c199_1))) := ⟨by repeat (first | (with_reducible first | exact HB.out | apply below_alloc | apply pw_below_drewN | apply below_drew1 | refine below_set ?_ GE188.out | refine below_set ?_ GE189.out | refine below_set ?_ GE200.out) | exact HB.out)⟩
        (try clear HO_3)
        (try clear HO_189002)
        (try clear HO_189003)
        (try clear HO_189004)
        (try clear BK188)
        (try clear BK189)
        (try clear BK200)
        (try clear HB)
        generalize ((w25.setCell ⟨gb200, 0, none⟩ (.string ((rd_T35 l0_5 x21_1).f0))).setCell ⟨gb200, 1, none⟩ (.slice A199_1 ((rd_T35 l0_5 x21_1).f1).length c199_1)) = w29 at n0_ n1_ n2_ n3_ n4_ n5_ n6_ n7_ ⊢
        have HO_3 := n0_
        have HO_189002 := n1_
        have HO_189003 := n2_
        have HO_189004 := n3_
        have BK188 := n4_
        have BK189 := n5_
        have BK200 := n6_
        have HB := n7_
        clear n0_ n1_ n2_ n3_ n4_ n5_ n6_ n7_
        have n0_ := Aside0.mk (Kd.S_drew HO_3.out)
        have n1_ := Aside0.mk (Kd.R_drew HO_189002.out)
        have n2_ := Aside0.mk (Kd.R_drew HO_189003.out)
        have n3_ := Aside0.mk (Kd.R_drew HO_189004.out)
        have n4_ := Aside0.mk (blk_drew BK188.out)
        have n5_ := Aside0.mk (blk_drew BK189.out)
        have n6_ := Aside0.mk (blk_drew BK200.out)
        have n7_ := Aside0.mk (below_drew1 HB.out)
        clear HO_3
        clear HO_189002
        clear HO_189003
        clear HO_189004
        clear BK188
        clear BK189
        clear BK200
        clear HB
        have HO_3 := n0_
        have HO_189002 := n1_
        have HO_189003 := n2_
        have HO_189004 := n3_
        have BK188 := n4_
        have BK189 := n5_
        have BK200 := n6_
        have HB := n7_
        clear n0_ n1_ n2_ n3_ n4_ n5_ n6_ n7_
        refine start_ (n := 10) (S := fun w' => w'.cell? ⟨gb200, 0, none⟩ = some (.string ((rd_T35 l0_5 x21_1).f0)) ∧ w'.cell? ⟨gb200, 1, none⟩ = some (.slice A199_1 ((rd_T35 l0_5 x21_1).f1).length c199_1)) (ds := []) (tf 0 10) (by kernel_rfl) rfl rfl ⟨(blk_cell BK200.out 0).trans rfl, (blk_cell BK200.out 1).trans rfl⟩ (fun hHeld => ?_); refine with_tabW config_CanonK.tab7 config_CanonK.bits7 (fun HT_ HW_ => ?_)
        generalize w29.drew = w30 at HO_3 HO_189002 HO_189003 HO_189004 BK188 BK189 BK200 HB hHeld ⊢
        refine pure_ (i := 0) (N := some 29) (v := ?_) (a' := ?_) (tf 1 9) rfl rfl (any_of HT_.out (by kernel_rfl)) (fun _ _ _ h => h) (Or.inl ⟨by rfl, ?_⟩) ?_ ?_
        rotate_left
        ·intro w'
         go_simp
         with_reducible rfl
        rotate_left
        ·simp only [Act.put, List.setIfInBounds_toArray, List.set_cons_zero, List.set_cons_succ, i64_w, i32_w]
         rfl
        refine pure_ (i := 1) (N := some 30) (v := ?_) (a' := ?_) (tf 2 8) rfl rfl (any_of HT_.out (by kernel_rfl)) (fun _ _ _ h => h) (Or.inl ⟨by rfl, ?_⟩) ?_ ?_
        rotate_left
        ·intro w'
         go_simp
         with_reducible rfl
        rotate_left
        ·simp only [Act.put, List.setIfInBounds_toArray, List.set_cons_zero, List.set_cons_succ, i64_w, i32_w]
         rfl
        refine pure_ (i := 3) (N := some 32) (v := ?_) (a' := ?_) #[true, true, false, true, false, false, false, false, false, false] rfl rfl (any_of HT_.out (by kernel_rfl)) (fun _ _ _ h => h) (Or.inl ⟨by rfl, ?_⟩) ?_ ?_
        rotate_left
        ·intro w'
         go_simp
         with_reducible rfl
        rotate_left
        ·simp only [Act.put, List.setIfInBounds_toArray, List.set_cons_zero, List.set_cons_succ, i64_w, i32_w]
         rfl
        refine take_ (i := 2) (N := some 31) (v := ?_) (a' := ?_) (tf 4 6) rfl rfl (take_ofW HT_.out HW_.out (by kernel_rfl)) (fun _ _ _ h => h) (Or.inl ⟨by rfl, ?_⟩) hHeld ?_ ?_
        rotate_left
        ·rintro w' ⟨s0, s1⟩
         go_simp
         with_reducible rfl
        rotate_left
        ·simp only [Act.put, List.setIfInBounds_toArray, List.set_cons_zero, List.set_cons_succ, i64_w, i32_w]
         rfl
        refine take_ (i := 4) (N := some 33) (v := ?_) (a' := ?_) (tf 5 5) rfl rfl (take_ofW HT_.out HW_.out (by kernel_rfl)) (fun _ _ _ h => h) (Or.inl ⟨by rfl, ?_⟩) hHeld ?_ ?_
        rotate_left
        ·rintro w' ⟨s0, s1⟩
         go_simp
         with_reducible rfl
        rotate_left
        ·simp only [Act.put, List.setIfInBounds_toArray, List.set_cons_zero, List.set_cons_succ, i64_w, i32_w]
         rfl
        refine one_ (i := 5) (N := some 34) (tf 6 4) rfl rfl (one_of HT_.out (by kernel_rfl)) (by decide) (fun K hK => ?_)
        refine goes_ Try.func52 (by kernel_rfl) rfl #[.slice A199_1 ((rd_T35 l0_5 x21_1).f1).length c199_1] (by rfl) rfl rfl (by (try simp only [List.map_toArray, List.map_cons, List.map_nil]); first | done | rfl | (simp only [List.length_drop, List.length_take]; rfl)) ?_
        with_reducible refine (fold_Sorted.calls _ _ ((rd_T35 l0_5 x21_1).f1) t201 _ ?side1 ?side2 A23.out).mono ?_
        (case side1 => repeat (first | exact (Kd.C_below HR199_1.out HB.out) | (with_reducible refine Kd.C_alloc ?_ _) | (with_reducible refine Kd.C_drewN ?_ _) | (with_reducible refine Kd.C_drew ?_)))
        (case side2 => exact HC199_1.out)
        rintro e w31 ⟨v202, rfl, ho0, hb⟩
        refine ⟨_, rfl, ?_⟩
        have n0_ := Aside0.mk (Kd.S_elder' (by (with_reducible repeat (first | apply Kd.S_alloc | apply Kd.S_drewN | apply Kd.S_drew)); exact HO_3.out) (Kd.R_base ho0) hb)
        have n1_ := Aside0.mk (Kd.R_elder' (by (with_reducible repeat (first | apply Kd.R_alloc | apply Kd.R_drewN | apply Kd.R_drew)); exact HO_189002.out) (Kd.R_base ho0) hb)
        have n2_ := Aside0.mk (Kd.R_elder' (by (with_reducible repeat (first | apply Kd.R_alloc | apply Kd.R_drewN | apply Kd.R_drew)); exact HO_189003.out) (Kd.R_base ho0) hb)
        have n3_ := Aside0.mk (Kd.R_elder' (by (with_reducible repeat (first | apply Kd.R_alloc | apply Kd.R_drewN | apply Kd.R_drew)); exact HO_189004.out) (Kd.R_base ho0) hb)
        have n4_ := Aside0.mk (Kd.R_lower (Kd.R_new' (Kd.R_new' (Kd.R_new' ho0 (Kd.R_lt (by (with_reducible repeat (first | apply Kd.R_alloc | apply Kd.R_drewN | apply Kd.R_drew)); exact HO_189002.out))) (Kd.R_lt (by (with_reducible repeat (first | apply Kd.R_alloc | apply Kd.R_drewN | apply Kd.R_drew)); exact HO_189003.out))) (Kd.R_lt (by (with_reducible repeat (first | apply Kd.R_alloc | apply Kd.R_drewN | apply Kd.R_drew)); exact HO_189004.out))) (below_size (by repeat (first | (with_reducible first | exact HB.out | apply below_alloc | apply pw_below_drewN | apply below_drew1 | refine below_set ?_ GE188.out | refine below_set ?_ GE189.out | refine below_set ?_ GE200.out) | exact HB.out))))
        have n5_ := Aside0.mk (blk_below (g := gb188) (o := .cells #[.bool a0_0, .bool a0_1, .slice Ao11 t190.length co11, .slice Ao13 t193.length co13, .slice Ao15 t196.length co15, .slice (some ad199) l0_5.length c0_5, .bool a0_6, .bool a0_7] 25 (0, 0)) (by (with_reducible repeat (first | refine blk_drewN ?_ _ | refine blk_drew ?_ | refine blk_alloc ?_ _)); exact BK188.out) hb)
        have n6_ := Aside0.mk (blk_below (g := gb189) (o := .cells #[.bool false, .bool false, .slice none 0 0, .slice none 0 0, .slice none 0 0, .slice none 0 0, .bool false, .bool false] 25 (0, 0)) (by (with_reducible repeat (first | refine blk_drewN ?_ _ | refine blk_drew ?_ | refine blk_alloc ?_ _)); exact BK189.out) hb)
        have n7_ := Aside0.mk (blk_below (g := gb200) (o := .cells #[.string ((rd_T35 l0_5 x21_1).f0), .slice A199_1 ((rd_T35 l0_5 x21_1).f1).length c199_1] 35 (0, 0)) (by (with_reducible repeat (first | refine blk_drewN ?_ _ | refine blk_drew ?_ | refine blk_alloc ?_ _)); exact BK200.out) hb)
        have n8_ := Aside0.mk (below_step (by repeat (first | (with_reducible first | exact HB.out | apply below_alloc | apply pw_below_drewN | apply below_drew1 | refine below_set ?_ GE188.out | refine below_set ?_ GE189.out | refine below_set ?_ GE200.out) | exact HB.out)) hb)
        clear HO_3
        clear HO_189002
        clear HO_189003
        clear HO_189004
        clear BK188
        clear BK189
        clear BK200
        clear HB
        have HO_3 := n0_
        have HO_189002 := n1_
        have HO_189003 := n2_
        have HO_189004 := n3_
        have HO203 := n4_
        have BK188 := n5_
        have BK189 := n6_
        have BK200 := n7_
        have HB := n8_
        clear n0_ n1_ n2_ n3_ n4_ n5_ n6_ n7_ n8_
        (try clear hb)
        (try clear hb2)
        (try clear hk)
        (try clear hi)
        (try clear ho0)
        obtain ⟨Ao32, co32, eo32⟩ := Kd.R_slice HO203.out
        (first | subst eo32 | (injection eo32 with f1_ f2_ f3_; have f4_ := f1_.symm; have f5_ := f3_.symm; clear f1_ f2_ f3_; subst f4_; subst f5_))
        refine hK.out _ _ ⟨(blk_cell BK200.out 0).trans rfl, (blk_cell BK200.out 1).trans rfl⟩ (fun hHeld => ?_)
        clear hK K
        refine norm_ (a' := ?_) ?_ ?_
        rotate_left
        ·show Act.put _ (some 34) _ = _
         simp only [Act.put, List.setIfInBounds_toArray, List.set_cons_zero, List.set_cons_succ, i64_w, i32_w]
         rfl
        refine pure_ (i := 6) (N := some 35) (v := ?_) (a' := ?_) (tf 7 3) rfl rfl (any_of HT_.out (by kernel_rfl)) (fun _ _ _ h => h) (Or.inl ⟨by rfl, ?_⟩) ?_ ?_
        rotate_left
        ·intro w'
         go_simp
         with_reducible rfl
        rotate_left
        ·simp only [Act.put, List.setIfInBounds_toArray, List.set_cons_zero, List.set_cons_succ, i64_w, i32_w]
         rfl
        refine one_ (i := 7) (N := some 36) (tf 8 2) rfl rfl (one_of HT_.out (by kernel_rfl)) (by decide) (fun K hK => ?_)
        refine value_ (w1 := ?_) (v := ?_) (by rfl) rfl ?_ ?_
        rotate_left 2
        ·go_simp
         constructor
         ·rfl
         ·rfl
        refine hK.out _ _ ⟨(blk_cell (blk_alloc BK200.out _) 0).trans rfl, (blk_cell (blk_alloc BK200.out _) 1).trans rfl⟩ (fun hHeld => ?_)
        clear hK K
        refine norm_ (a' := ?_) ?_ ?_
        rotate_left
        ·show Act.put _ (some 36) _ = _
         simp only [Act.put, List.setIfInBounds_toArray, List.set_cons_zero, List.set_cons_succ, i64_w, i32_w]
         rfl
        refine one_ (i := 8) (N := some 37) (tf 9 1) rfl rfl (one_of HT_.out (by kernel_rfl)) (by decide) (fun K hK => ?_)
        refine Kd.S_append_step k35 (w0 := w) w.heap.size (by rfl) (.tmp 29) (.tmp 36) 23 35 (.agg #[(.string ⟨#[]⟩), (.slice none 0 0)]) 40 rfl Try.underlying23 info35 rfl (by decide) (by omega) u3 x3_1 (⟨(rd_T35 l0_5 x21_1).f0, t201⟩ : S35) [.string ((rd_T35 l0_5 x21_1).f0), .slice Ao32 t201.length co32] (fun k_ => some k_ ≠ (.slice Ao11 t190.length co11 : Value).ownBlock ∧ some k_ ≠ (.slice Ao13 t193.length co13 : Value).ownBlock ∧ some k_ ≠ (.slice Ao15 t196.length co15 : Value).ownBlock ∧ k_ ≠ gb200) (fun k_ => some k_ = (.slice Ao32 t201.length co32 : Value).ownBlock) rfl rfl ?aP (fun k_ hk_ => ((Kd.R_mono (ok' := fun k_ => ((fun k_ => some k_ ≠ (.slice Ao11 t190.length co11 : Value).ownBlock ∧ some k_ ≠ (.slice Ao13 t193.length co13 : Value).ownBlock ∧ some k_ ≠ (.slice Ao15 t196.length co15 : Value).ownBlock ∧ k_ ≠ gb200)) k_ ∧ some k_ ≠ (u3 : Value).ownBlock) (Kd.R_types (Kd.R_apart' (HO203.out) (Kd.S_typed HO_3.out) (by decide)) BK200.out (by decide)) (fun k_ hk => ⟨⟨hk.1.1.1.1.2, ⟨hk.1.1.1.2, ⟨hk.1.1.2, hk.2⟩⟩⟩, hk.1.2⟩))).1 k_ hk_.symm) ?aF ?aO ?aB ?aS ?aL ?_
        (case aP => exact k35_mkM _ _ _ (⟨(rd_T35 l0_5 x21_1).f0, t201⟩ : S35) (Kd.R_mono (Kd.R_tight rfl (Kd.R_mono (ok' := fun k_ => ((fun k_ => some k_ ≠ (.slice Ao11 t190.length co11 : Value).ownBlock ∧ some k_ ≠ (.slice Ao13 t193.length co13 : Value).ownBlock ∧ some k_ ≠ (.slice Ao15 t196.length co15 : Value).ownBlock ∧ k_ ≠ gb200)) k_ ∧ some k_ ≠ (u3 : Value).ownBlock) (Kd.R_types (Kd.R_apart' (HO203.out) (Kd.S_typed HO_3.out) (by decide)) BK200.out (by decide)) (fun k_ hk => ⟨⟨hk.1.1.1.1.2, ⟨hk.1.1.1.2, ⟨hk.1.1.2, hk.2⟩⟩⟩, hk.1.2⟩))) (fun _ h_ => h_)))
        (case aB => exact (by repeat (first | (with_reducible first | exact HB.out | apply below_alloc | apply pw_below_drewN | apply below_drew1 | refine below_set ?_ GE188.out | refine below_set ?_ GE189.out | refine below_set ?_ GE200.out) | exact HB.out)))
        (case aF => exact (fun k_ hk => ⟨Kd.fresh' (Kd.R_lt (by (with_reducible repeat (first | apply Kd.R_alloc | apply Kd.R_drewN | apply Kd.R_drew)); exact HO_189002.out)) k_ hk, Kd.fresh' (Kd.R_lt (by (with_reducible repeat (first | apply Kd.R_alloc | apply Kd.R_drewN | apply Kd.R_drew)); exact HO_189003.out)) k_ hk, Kd.fresh' (Kd.R_lt (by (with_reducible repeat (first | apply Kd.R_alloc | apply Kd.R_drewN | apply Kd.R_drew)); exact HO_189004.out)) k_ hk, Kd.freshB (g := gb200) (o := .cells #[.string ((rd_T35 l0_5 x21_1).f0), .slice A199_1 ((rd_T35 l0_5 x21_1).f1).length c199_1] 35 (0, 0)) (by (with_reducible repeat (first | refine blk_drewN ?_ _ | refine blk_drew ?_ | refine blk_alloc ?_ _)); exact BK200.out) k_ hk⟩))
        (case aO => exact (by (with_reducible repeat (first | apply Kd.S_alloc | apply Kd.S_drewN | apply Kd.S_drew)); exact Kd.S_mono HO_3.out (fun k_ hk => ⟨⟨hk.1.1, ⟨hk.1.2.1, ⟨hk.1.2.2.1, hk.1.2.2.2⟩⟩⟩, fun e_ => hk.2 e_⟩)))
        (case aS => exact (below_size (by repeat (first | (with_reducible first | exact HB.out | apply below_alloc | apply pw_below_drewN | apply below_drew1 | refine below_set ?_ GE188.out | refine below_set ?_ GE189.out | refine below_set ?_ GE200.out) | exact HB.out))))
        (case aL => have := LMc24.out; omega)
        intro v205 w33 ho hb hg hat
        rw [← Ny204.out] at ho
        have n0_ := Aside0.mk (Kd.R_over' (by (with_reducible repeat (first | apply Kd.R_alloc | apply Kd.R_drewN | apply Kd.R_drew)); exact HO_189002.out) (Kd.S_typed (by (with_reducible repeat (first | apply Kd.S_alloc | apply Kd.S_drewN | apply Kd.S_drew)); exact HO_3.out)) (by decide) hg)
        have n1_ := Aside0.mk (Kd.R_over' (by (with_reducible repeat (first | apply Kd.R_alloc | apply Kd.R_drewN | apply Kd.R_drew)); exact HO_189003.out) (Kd.S_typed (by (with_reducible repeat (first | apply Kd.S_alloc | apply Kd.S_drewN | apply Kd.S_drew)); exact HO_3.out)) (by decide) hg)
        have n2_ := Aside0.mk (Kd.R_over' (by (with_reducible repeat (first | apply Kd.R_alloc | apply Kd.R_drewN | apply Kd.R_drew)); exact HO_189004.out) (Kd.S_typed (by (with_reducible repeat (first | apply Kd.S_alloc | apply Kd.S_drewN | apply Kd.S_drew)); exact HO_3.out)) (by decide) hg)
        have n3_ := Aside0.mk (blk_grown (g := gb188) (o := .cells #[.bool a0_0, .bool a0_1, .slice Ao11 t190.length co11, .slice Ao13 t193.length co13, .slice Ao15 t196.length co15, .slice (some ad199) l0_5.length c0_5, .bool a0_6, .bool a0_7] 25 (0, 0)) (by (with_reducible repeat (first | refine blk_drewN ?_ _ | refine blk_drew ?_ | refine blk_alloc ?_ _)); exact BK188.out) hg (Kd.S_ne HO_3.out BK188.out (by decide)))
        have n4_ := Aside0.mk (blk_grown (g := gb189) (o := .cells #[.bool false, .bool false, .slice none 0 0, .slice none 0 0, .slice none 0 0, .slice none 0 0, .bool false, .bool false] 25 (0, 0)) (by (with_reducible repeat (first | refine blk_drewN ?_ _ | refine blk_drew ?_ | refine blk_alloc ?_ _)); exact BK189.out) hg (Kd.S_ne HO_3.out BK189.out (by decide)))
        have n5_ := Aside0.mk (blk_grown (g := gb200) (o := .cells #[.string ((rd_T35 l0_5 x21_1).f0), .slice A199_1 ((rd_T35 l0_5 x21_1).f1).length c199_1] 35 (0, 0)) (by (with_reducible repeat (first | refine blk_drewN ?_ _ | refine blk_drew ?_ | refine blk_alloc ?_ _)); exact BK200.out) hg (Kd.S_away HO_3.out (fun _ hk => hk.1.2.2.2)))
        have n6_ := Aside0.mk (hb)
        have n7_ := Aside0.mk (ho)
        clear HO_189002
        clear HO_189003
        clear HO_189004
        clear BK188
        clear BK189
        clear BK200
        clear HB
        clear HO_3
        clear HO203
        have HO_189002 := n0_
        have HO_189003 := n1_
        have HO_189004 := n2_
        have BK188 := n3_
        have BK189 := n4_
        have BK200 := n5_
        have HB := n6_
        have HO206 := n7_
        clear n0_ n1_ n2_ n3_ n4_ n5_ n6_ n7_
        clear ho hb hg hat
        refine hK.out _ _ ⟨(blk_cell BK200.out 0).trans rfl, (blk_cell BK200.out 1).trans rfl⟩ (fun hHeld => ?_)
        clear hK K
        refine norm_ (a' := ?_) ?_ ?_
        rotate_left
        ·show Act.put _ (some 37) _ = _
         simp only [Act.put, List.setIfInBounds_toArray, List.set_cons_zero, List.set_cons_succ, i64_w, i32_w]
         rfl
        refine pure_ (i := 9) (N := some 3) (v := ?_) (a' := ?_) (tf 10 0) rfl rfl (any_of HT_.out (by kernel_rfl)) (fun _ _ _ h => h) (Or.inl ⟨by rfl, ?_⟩) ?_ ?_
        rotate_left
        ·intro w'
         go_simp
         with_reducible rfl
        rotate_left
        ·simp only [Act.put, List.setIfInBounds_toArray, List.set_cons_zero, List.set_cons_succ, i64_w, i32_w]
         rfl
        refine done_ (done_of HT_.out (by kernel_rfl)) ?_
        try go_wp2
        go_roundg k1
        case measure => have := HK1.out; omega
        case rel => exact ⟨(y204), (wrap64 (x21_1 + 1)), (by first | rfl | (simp; done) | (simp [*]; done)), H', ⟨by have := HK1.out; omega⟩, ⟨by (with_reducible repeat (first | apply Kd.S_alloc | apply Kd.S_drewN | apply Kd.S_drew)); exact Kd.S_mono HO206.out (fun _ hk => ⟨hk.1, ⟨hk.2.1, hk.2.2.1⟩⟩)⟩, ⟨by (with_reducible repeat (first | apply Kd.R_alloc | apply Kd.R_drewN | apply Kd.R_drew)); exact Kd.R_mono HO_189002.out (fun _ hk => ⟨hk.1.1, hk.1.2⟩)⟩, ⟨by (with_reducible repeat (first | apply Kd.R_alloc | apply Kd.R_drewN | apply Kd.R_drew)); exact Kd.R_mono HO_189003.out (fun _ hk => ⟨hk.1.1, hk.1.2⟩)⟩, ⟨by (with_reducible repeat (first | apply Kd.R_alloc | apply Kd.R_drewN | apply Kd.R_drew)); exact Kd.R_mono HO_189004.out (fun _ hk => ⟨hk.1.1, hk.1.2⟩)⟩, ⟨by (with_reducible repeat (first | refine blk_drewN ?_ _ | refine blk_drew ?_ | refine blk_alloc ?_ _)); exact BK188.out⟩, ⟨by (with_reducible repeat (first | refine blk_drewN ?_ _ | refine blk_drew ?_ | refine blk_alloc ?_ _)); exact BK189.out⟩, ⟨by repeat (first | (with_reducible first | exact HB.out | apply below_alloc | apply pw_below_drewN | apply below_drew1 | refine below_set ?_ GE188.out | refine below_set ?_ GE189.out | refine below_set ?_ GE200.out) | exact HB.out)⟩⟩
       ·rw [if_neg c24] at H
        exact absurd H (by simp)
      ·rw [if_neg c22] at H
       have c22b0 : decide (0 < (((rd_T35 l0_5 x21_1).f1).length : Int)) = false := decide_eq_false c22
       have c22b1 : decide (0 < ((rd_T35 l0_5 x21_1).f1).length) = false := decide_eq_false (by omega)
       clear c22
       have H' := Aside0.mk H
       clear H
       have p199 : 0 ≤ (x21_1 : Int) := of_decide_eq_true (by first | (with_reducible assumption) | assumption)
       have q199 : x21_1 < (l0_5.length : Int) := of_decide_eq_true (by first | (with_reducible assumption) | assumption)
       obtain ⟨ad199, A199_1, c199_1, e199, hx199_0, hx199_1, hl199_1, hi199_1⟩ := at_T35 HR0_5.out x21_1 p199 q199
       cases e199
       replace hx199_0 := (HB.out.cell (World.block_lt_of_cell? w _ hx199_0)).trans hx199_0
       replace hx199_1 := (HB.out.cell (World.block_lt_of_cell? w _ hx199_1)).trans hx199_1
       have HR199_1 := Aside0.mk hi199_1
       have HC199_1 := Aside0.mk hl199_1
       clear hi199_1 hl199_1
       replace p199 := eq_true p199
       replace q199 := eq_true q199
       go_wp2_with (first | ((with_reducible refine gate_dst (N := 5) rfl ?_); refine box_event ?hg (N := 5) ?hd (cs := #[.string (⟨#[]⟩ : ByteArray), .slice none 0 0]) (t := 35) ?hr ?_; (case hd => rfl); (case hg => rfl); (case hr => first | (go_simp; done) | (go_simp; rfl)); intro gb200 hg w34 hbox hb; have n0_ := Aside0.mk (Kd.S_below (Kd.S_elderB (by (with_reducible repeat (first | apply Kd.S_alloc | apply Kd.S_drewN | apply Kd.S_drew)); exact HO_3.out) gb200 (Nat.le_of_eq hg.symm)) hb); have n1_ := Aside0.mk (Kd.R_below (by (with_reducible repeat (first | apply Kd.R_alloc | apply Kd.R_drewN | apply Kd.R_drew)); exact HO_189002.out) hb); have n2_ := Aside0.mk (Kd.R_below (by (with_reducible repeat (first | apply Kd.R_alloc | apply Kd.R_drewN | apply Kd.R_drew)); exact HO_189003.out) hb); have n3_ := Aside0.mk (Kd.R_below (by (with_reducible repeat (first | apply Kd.R_alloc | apply Kd.R_drewN | apply Kd.R_drew)); exact HO_189004.out) hb); have n4_ := Aside0.mk (blk_below (g := gb188) (o := .cells #[.bool a0_0, .bool a0_1, .slice Ao11 t190.length co11, .slice Ao13 t193.length co13, .slice Ao15 t196.length co15, .slice (some ad199) l0_5.length c0_5, .bool a0_6, .bool a0_7] 25 (0, 0)) (by (with_reducible repeat (first | refine blk_drewN ?_ _ | refine blk_drew ?_ | refine blk_alloc ?_ _)); exact BK188.out) hb); have n5_ := Aside0.mk (blk_below (g := gb189) (o := .cells #[.bool false, .bool false, .slice none 0 0, .slice none 0 0, .slice none 0 0, .slice none 0 0, .bool false, .bool false] 25 (0, 0)) (by (with_reducible repeat (first | refine blk_drewN ?_ _ | refine blk_drew ?_ | refine blk_alloc ?_ _)); exact BK189.out) hb); have n6_ := Aside0.mk (below_step (by repeat (first | (with_reducible first | exact HB.out | apply below_alloc | apply pw_below_drewN | apply below_drew1 | refine below_set ?_ GE188.out | refine below_set ?_ GE189.out) | exact HB.out)) hb); have n7_ := Aside0.mk (hbox); have n8_ := Aside0.mk ((by rw [hg]; exact (below_size (by repeat (first | (with_reducible first | exact HB.out | apply below_alloc | apply pw_below_drewN | apply below_drew1 | refine below_set ?_ GE188.out | refine below_set ?_ GE189.out) | exact HB.out))) : w.heap.size ≤ gb200)); have n9_ := Aside0.mk ((by rw [hg]; exact (below_size (by repeat (first | (with_reducible first | exact HB.out | apply below_alloc | apply pw_below_drewN | apply below_drew1 | refine below_set ?_ GE188.out | refine below_set ?_ GE189.out) | exact HB.out))) : w.heap.size ≤ gb200)); have n10_ := Aside0.mk ((by rw [hg]; exact Nat.ne_of_lt (blk_lt (g := gb188) (o := .cells #[.bool a0_0, .bool a0_1, .slice Ao11 t190.length co11, .slice Ao13 t193.length co13, .slice Ao15 t196.length co15, .slice (some ad199) l0_5.length c0_5, .bool a0_6, .bool a0_7] 25 (0, 0)) (by (with_reducible repeat (first | refine blk_drewN ?_ _ | refine blk_drew ?_ | refine blk_alloc ?_ _)); exact BK188.out)) : gb188 ≠ gb200)); have n11_ := Aside0.mk ((by rw [hg]; exact Nat.ne_of_gt (blk_lt (g := gb188) (o := .cells #[.bool a0_0, .bool a0_1, .slice Ao11 t190.length co11, .slice Ao13 t193.length co13, .slice Ao15 t196.length co15, .slice (some ad199) l0_5.length c0_5, .bool a0_6, .bool a0_7] 25 (0, 0)) (by (with_reducible repeat (first | refine blk_drewN ?_ _ | refine blk_drew ?_ | refine blk_alloc ?_ _)); exact BK188.out)) : gb200 ≠ gb188)); have n12_ := Aside0.mk ((by rw [hg]; exact Nat.ne_of_lt (blk_lt (g := gb189) (o := .cells #[.bool false, .bool false, .slice none 0 0, .slice none 0 0, .slice none 0 0, .slice none 0 0, .bool false, .bool false] 25 (0, 0)) (by (with_reducible repeat (first | refine blk_drewN ?_ _ | refine blk_drew ?_ | refine blk_alloc ?_ _)); exact BK189.out)) : gb189 ≠ gb200)); have n13_ := Aside0.mk ((by rw [hg]; exact Nat.ne_of_gt (blk_lt (g := gb189) (o := .cells #[.bool false, .bool false, .slice none 0 0, .slice none 0 0, .slice none 0 0, .slice none 0 0, .bool false, .bool false] 25 (0, 0)) (by (with_reducible repeat (first | refine blk_drewN ?_ _ | refine blk_drew ?_ | refine blk_alloc ?_ _)); exact BK189.out)) : gb200 ≠ gb189)); clear HO_3; clear HO_189002; clear HO_189003; clear HO_189004; clear BK188; clear BK189; clear HB; have HO_3 := n0_; have HO_189002 := n1_; have HO_189003 := n2_; have HO_189004 := n3_; have BK188 := n4_; have BK189 := n5_; have HB := n6_; have BK200 := n7_; have GW200 := n8_; have GE200 := n9_; have NB188_200 := n10_; have NB200_188 := n11_; have NB189_200 := n12_; have NB200_189 := n13_; clear n0_ n1_ n2_ n3_ n4_ n5_ n6_ n7_ n8_ n9_ n10_ n11_ n12_ n13_; clear hb hbox hg; have hnb35 := NB200_188.out; have hnc35 := NB188_200.out; have hnb36 := NB200_189.out; have hnc36 := NB189_200.out; have hcz37_0 : w34.cell? ⟨gb200, 0, none⟩ = some (.string (⟨#[]⟩ : ByteArray)) := (blk_cell BK200.out 0).trans rfl; have hcz37_1 : w34.cell? ⟨gb200, 1, none⟩ = some (.slice none 0 0) := (blk_cell BK200.out 1).trans rfl; have hfz37_0 := blk_frozen BK200.out 0; have hfz37_1 := blk_frozen BK200.out 1))
       go_roundg k1
       case measure => have := HK1.out; omega
       case rel => exact ⟨(x3_1), (wrap64 (x21_1 + 1)), (by first | rfl | (simp; done) | (simp [*]; done)), H', ⟨by have := HK1.out; omega⟩, ⟨by (with_reducible repeat (first | apply Kd.S_alloc | apply Kd.S_drewN | apply Kd.S_drew)); exact Kd.S_mono (Kd.S_far (p := ⟨gb200, 1, none⟩) (Kd.S_far (p := ⟨gb200, 0, none⟩) (Kd.S_mono HO_3.out (fun k_ hk => (⟨hk, hk.2⟩ : _ ∧ k_ ≠ gb200))) (fun _ hk => hk.2) (.string ((rd_T35 l0_5 x21_1).f0))) (fun _ hk => hk.2) (.slice A199_1 ((rd_T35 l0_5 x21_1).f1).length c199_1)) (fun _ hk => ⟨hk.1.1.1, ⟨hk.1.1.2.1, hk.1.1.2.2⟩⟩)⟩, ⟨by (with_reducible repeat (first | apply Kd.R_alloc | apply Kd.R_drewN | apply Kd.R_drew)); exact Kd.R_mono (Kd.R_far (p := ⟨gb200, 1, none⟩) (Kd.R_far (p := ⟨gb200, 0, none⟩) (Kd.R_types HO_189002.out BK200.out (by decide)) (fun _ hk => hk.2) (.string ((rd_T35 l0_5 x21_1).f0))) (fun _ hk => hk.2) (.slice A199_1 ((rd_T35 l0_5 x21_1).f1).length c199_1)) (fun _ hk => ⟨hk.1.1, hk.1.2⟩)⟩, ⟨by (with_reducible repeat (first | apply Kd.R_alloc | apply Kd.R_drewN | apply Kd.R_drew)); exact Kd.R_mono (Kd.R_far (p := ⟨gb200, 1, none⟩) (Kd.R_far (p := ⟨gb200, 0, none⟩) (Kd.R_types HO_189003.out BK200.out (by decide)) (fun _ hk => hk.2) (.string ((rd_T35 l0_5 x21_1).f0))) (fun _ hk => hk.2) (.slice A199_1 ((rd_T35 l0_5 x21_1).f1).length c199_1)) (fun _ hk => ⟨hk.1.1, hk.1.2⟩)⟩, ⟨by (with_reducible repeat (first | apply Kd.R_alloc | apply Kd.R_drewN | apply Kd.R_drew)); exact Kd.R_mono (Kd.R_far (p := ⟨gb200, 1, none⟩) (Kd.R_far (p := ⟨gb200, 0, none⟩) (Kd.R_types HO_189004.out BK200.out (by decide)) (fun _ hk => hk.2) (.string ((rd_T35 l0_5 x21_1).f0))) (fun _ hk => hk.2) (.slice A199_1 ((rd_T35 l0_5 x21_1).f1).length c199_1)) (fun _ hk => ⟨hk.1.1, hk.1.2⟩)⟩, ⟨by (with_reducible repeat (first | refine blk_drewN ?_ _ | refine blk_drew ?_ | refine blk_alloc ?_ _)); refine blk_far ?_ NB188_200.out _; (with_reducible repeat (first | refine blk_drewN ?_ _ | refine blk_drew ?_ | refine blk_alloc ?_ _)); refine blk_far ?_ NB188_200.out _; (with_reducible repeat (first | refine blk_drewN ?_ _ | refine blk_drew ?_ | refine blk_alloc ?_ _)); exact BK188.out⟩, ⟨by (with_reducible repeat (first | refine blk_drewN ?_ _ | refine blk_drew ?_ | refine blk_alloc ?_ _)); refine blk_far ?_ NB189_200.out _; (with_reducible repeat (first | refine blk_drewN ?_ _ | refine blk_drew ?_ | refine blk_alloc ?_ _)); refine blk_far ?_ NB189_200.out _; (with_reducible repeat (first | refine blk_drewN ?_ _ | refine blk_drew ?_ | refine blk_alloc ?_ _)); exact BK189.out⟩, ⟨by repeat (first | (with_reducible first | exact HB.out | apply below_alloc | apply pw_below_drewN | apply below_drew1 | refine below_set ?_ GE188.out | refine below_set ?_ GE189.out | refine below_set ?_ GE200.out) | exact HB.out)⟩⟩
     ·rw [if_neg c21] at H
      exact absurd H (by simp)
    ·rw [if_neg c20] at H
     exact absurd H (by simp)
   ·rw [if_neg c19] at H
    have c19b0 : decide (x21_1 < (l0_5.length : Int)) = false := decide_eq_false c19
    clear c19
    by_cases c38 : x3_1.length < 20
    ·rw [if_pos c38] at H
     have LMc38 := Aside0.mk c38
     clear c38
     obtain ⟨y207, hy207⟩ : ∃ y_ : List (S35), y_ = (sortP x3_1) := ⟨_, rfl⟩
     replace H : (some (a0_0, a0_1, t190, t193, t196, y207, a0_6, a0_7)) = some (r1, r2, r3, r4, r5, r6, r7, r8) := by first | (rw [hy207]; with_reducible exact H) | (have H2_ := (Option.bind_some _ _).symm.trans H; rw [hy207]; with_reducible exact H2_) | (have H2_ := (Option.bind_some _ _).symm.trans H; with_reducible exact H2_) | with_reducible exact H | (rw [hy207]; exact H) | exact H
     have Ny207 := Aside0.mk hy207
     clear hy207
     simp only [Option.some.injEq, Prod.mk.injEq] at H
     obtain ⟨rfl, rfl, rfl, rfl, rfl, rfl, rfl, rfl⟩ := H
     go_wp2_with (first | ((with_reducible refine gate_callee (f := 53) rfl ?_); refine goesL_ (some 40) rfl rfl Try.func53 (by kernel_rfl) rfl #[u3, .func (.func 54) #[] #[]] rfl (by (try simp only [List.map_toArray, List.map_cons, List.map_nil]); first | done | rfl) ?_; refine sort_step (w0 := w) w.heap.size u3 x3_1 (fun k_ => some k_ ≠ (.slice Ao11 t190.length co11 : Value).ownBlock ∧ some k_ ≠ (.slice Ao13 t193.length co13 : Value).ownBlock ∧ some k_ ≠ (.slice Ao15 t196.length co15 : Value).ownBlock) ?aO ?aL ?aB ?aS ?_; (case aB => exact (by repeat (first | (with_reducible first | exact HB.out | apply below_alloc | apply pw_below_drewN | apply below_drew1 | refine below_set ?_ GE188.out | refine below_set ?_ GE189.out) | exact HB.out))); (case aO => exact (by (with_reducible repeat (first | apply Kd.S_alloc | apply Kd.S_drewN | apply Kd.S_drew)); exact Kd.S_mono HO_3.out (fun k_ hk => ⟨hk.1, ⟨hk.2.1, hk.2.2⟩⟩))); (case aS => exact (below_size (by repeat (first | (with_reducible first | exact HB.out | apply below_alloc | apply pw_below_drewN | apply below_drew1 | refine below_set ?_ GE188.out | refine below_set ?_ GE189.out) | exact HB.out)))); (case aL => have := LMc38.out; omega); intro w39 ho hb hg; refine ⟨_, rfl, ?_⟩; rw [← Ny207.out] at ho; have n0_ := Aside0.mk (Kd.R_over' (by (with_reducible repeat (first | apply Kd.R_alloc | apply Kd.R_drewN | apply Kd.R_drew)); exact HO_189002.out) (Kd.S_typed (by (with_reducible repeat (first | apply Kd.S_alloc | apply Kd.S_drewN | apply Kd.S_drew)); exact HO_3.out)) (by decide) hg); have n1_ := Aside0.mk (Kd.R_over' (by (with_reducible repeat (first | apply Kd.R_alloc | apply Kd.R_drewN | apply Kd.R_drew)); exact HO_189003.out) (Kd.S_typed (by (with_reducible repeat (first | apply Kd.S_alloc | apply Kd.S_drewN | apply Kd.S_drew)); exact HO_3.out)) (by decide) hg); have n2_ := Aside0.mk (Kd.R_over' (by (with_reducible repeat (first | apply Kd.R_alloc | apply Kd.R_drewN | apply Kd.R_drew)); exact HO_189004.out) (Kd.S_typed (by (with_reducible repeat (first | apply Kd.S_alloc | apply Kd.S_drewN | apply Kd.S_drew)); exact HO_3.out)) (by decide) hg); have n3_ := Aside0.mk (blk_grown (g := gb188) (o := .cells #[.bool a0_0, .bool a0_1, .slice Ao11 t190.length co11, .slice Ao13 t193.length co13, .slice Ao15 t196.length co15, .slice A0_5 l0_5.length c0_5, .bool a0_6, .bool a0_7] 25 (0, 0)) (by (with_reducible repeat (first | refine blk_drewN ?_ _ | refine blk_drew ?_ | refine blk_alloc ?_ _)); exact BK188.out) hg (Kd.S_ne HO_3.out BK188.out (by decide))); have n4_ := Aside0.mk (blk_grown (g := gb189) (o := .cells #[.bool false, .bool false, .slice none 0 0, .slice none 0 0, .slice none 0 0, .slice none 0 0, .bool false, .bool false] 25 (0, 0)) (by (with_reducible repeat (first | refine blk_drewN ?_ _ | refine blk_drew ?_ | refine blk_alloc ?_ _)); exact BK189.out) hg (Kd.S_ne HO_3.out BK189.out (by decide))); have n5_ := Aside0.mk (hb); have n6_ := Aside0.mk (ho); clear HO_189002; clear HO_189003; clear HO_189004; clear BK188; clear BK189; clear HB; clear HO_3; have HO_189002 := n0_; have HO_189003 := n1_; have HO_189004 := n2_; have BK188 := n3_; have BK189 := n4_; have HB := n5_; have HO209 := n6_; clear n0_ n1_ n2_ n3_ n4_ n5_ n6_; clear ho hb hg; obtain ⟨Ao40, co40, eo40⟩ := Kd.R_slice HO209.out; subst eo40; have hnb41 := NB188_189.out; have hnc41 := NB189_188.out; have hcz42_0 : w39.cell? ⟨gb188, 0, none⟩ = some (.bool a0_0) := (blk_cell BK188.out 0).trans rfl; have hcz42_1 : w39.cell? ⟨gb188, 1, none⟩ = some (.bool a0_1) := (blk_cell BK188.out 1).trans rfl; have hcz42_2 : w39.cell? ⟨gb188, 2, none⟩ = some (.slice Ao11 t190.length co11) := (blk_cell BK188.out 2).trans rfl; have hcz42_3 : w39.cell? ⟨gb188, 3, none⟩ = some (.slice Ao13 t193.length co13) := (blk_cell BK188.out 3).trans rfl; have hcz42_4 : w39.cell? ⟨gb188, 4, none⟩ = some (.slice Ao15 t196.length co15) := (blk_cell BK188.out 4).trans rfl; have hcz42_5 : w39.cell? ⟨gb188, 5, none⟩ = some (.slice A0_5 l0_5.length c0_5) := (blk_cell BK188.out 5).trans rfl; have hcz42_6 : w39.cell? ⟨gb188, 6, none⟩ = some (.bool a0_6) := (blk_cell BK188.out 6).trans rfl; have hcz42_7 : w39.cell? ⟨gb188, 7, none⟩ = some (.bool a0_7) := (blk_cell BK188.out 7).trans rfl; have hfz42_0 := blk_frozen BK188.out 0; have hfz42_1 := blk_frozen BK188.out 1; have hfz42_2 := blk_frozen BK188.out 2; have hfz42_3 := blk_frozen BK188.out 3; have hfz42_4 := blk_frozen BK188.out 4; have hfz42_5 := blk_frozen BK188.out 5; have hfz42_6 := blk_frozen BK188.out 6; have hfz42_7 := blk_frozen BK188.out 7; have hcz43_0 : w39.cell? ⟨gb189, 0, none⟩ = some (.bool false) := (blk_cell BK189.out 0).trans rfl; have hcz43_1 : w39.cell? ⟨gb189, 1, none⟩ = some (.bool false) := (blk_cell BK189.out 1).trans rfl; have hcz43_2 : w39.cell? ⟨gb189, 2, none⟩ = some (.slice none 0 0) := (blk_cell BK189.out 2).trans rfl; have hcz43_3 : w39.cell? ⟨gb189, 3, none⟩ = some (.slice none 0 0) := (blk_cell BK189.out 3).trans rfl; have hcz43_4 : w39.cell? ⟨gb189, 4, none⟩ = some (.slice none 0 0) := (blk_cell BK189.out 4).trans rfl; have hcz43_5 : w39.cell? ⟨gb189, 5, none⟩ = some (.slice none 0 0) := (blk_cell BK189.out 5).trans rfl; have hcz43_6 : w39.cell? ⟨gb189, 6, none⟩ = some (.bool false) := (blk_cell BK189.out 6).trans rfl; have hcz43_7 : w39.cell? ⟨gb189, 7, none⟩ = some (.bool false) := (blk_cell BK189.out 7).trans rfl; have hfz43_0 := blk_frozen BK189.out 0; have hfz43_1 := blk_frozen BK189.out 1; have hfz43_2 := blk_frozen BK189.out 2; have hfz43_3 := blk_frozen BK189.out 3; have hfz43_4 := blk_frozen BK189.out 4; have hfz43_5 := blk_frozen BK189.out 5; have hfz43_6 := blk_frozen BK189.out 6; have hfz43_7 := blk_frozen BK189.out 7))
     refine bodyPost_ret (results_cell_row rfl _ _ gb189 25 #[.bool a0_0, .bool a0_1, .slice Ao11 t190.length co11, .slice Ao13 t193.length co13, .slice Ao15 t196.length co15, .slice Ao40 y207.length co40, .bool a0_6, .bool a0_7] (0, 0) _ rfl (by (with_reducible repeat (first | refine blk_drewN ?_ _ | refine blk_drew ?_ | refine blk_alloc ?_ _)); refine blk_put (cs := #[.bool a0_0, .bool a0_1, .slice Ao11 t190.length co11, .slice Ao13 t193.length co13, .slice Ao15 t196.length co15, .slice Ao40 y207.length co40, .bool a0_6, .bool false]) ?_ 7 _ rfl; (with_reducible repeat (first | refine blk_drewN ?_ _ | refine blk_drew ?_ | refine blk_alloc ?_ _)); refine blk_put (cs := #[.bool a0_0, .bool a0_1, .slice Ao11 t190.length co11, .slice Ao13 t193.length co13, .slice Ao15 t196.length co15, .slice Ao40 y207.length co40, .bool false, .bool false]) ?_ 6 _ rfl; (with_reducible repeat (first | refine blk_drewN ?_ _ | refine blk_drew ?_ | refine blk_alloc ?_ _)); refine blk_put (cs := #[.bool a0_0, .bool a0_1, .slice Ao11 t190.length co11, .slice Ao13 t193.length co13, .slice Ao15 t196.length co15, .slice none 0 0, .bool false, .bool false]) ?_ 5 _ rfl; (with_reducible repeat (first | refine blk_drewN ?_ _ | refine blk_drew ?_ | refine blk_alloc ?_ _)); refine blk_put (cs := #[.bool a0_0, .bool a0_1, .slice Ao11 t190.length co11, .slice Ao13 t193.length co13, .slice none 0 0, .slice none 0 0, .bool false, .bool false]) ?_ 4 _ rfl; (with_reducible repeat (first | refine blk_drewN ?_ _ | refine blk_drew ?_ | refine blk_alloc ?_ _)); refine blk_put (cs := #[.bool a0_0, .bool a0_1, .slice Ao11 t190.length co11, .slice none 0 0, .slice none 0 0, .slice none 0 0, .bool false, .bool false]) ?_ 3 _ rfl; (with_reducible repeat (first | refine blk_drewN ?_ _ | refine blk_drew ?_ | refine blk_alloc ?_ _)); refine blk_put (cs := #[.bool a0_0, .bool a0_1, .slice none 0 0, .slice none 0 0, .slice none 0 0, .slice none 0 0, .bool false, .bool false]) ?_ 2 _ rfl; (with_reducible repeat (first | refine blk_drewN ?_ _ | refine blk_drew ?_ | refine blk_alloc ?_ _)); refine blk_put (cs := #[.bool a0_0, .bool false, .slice none 0 0, .slice none 0 0, .slice none 0 0, .slice none 0 0, .bool false, .bool false]) ?_ 1 _ rfl; (with_reducible repeat (first | refine blk_drewN ?_ _ | refine blk_drew ?_ | refine blk_alloc ?_ _)); refine blk_put (cs := #[.bool false, .bool false, .slice none 0 0, .slice none 0 0, .slice none 0 0, .slice none 0 0, .bool false, .bool false]) ?_ 0 _ rfl; (with_reducible repeat (first | refine blk_drewN ?_ _ | refine blk_drew ?_ | refine blk_alloc ?_ _)); refine blk_far ?_ NB189_188.out _; (with_reducible repeat (first | refine blk_drewN ?_ _ | refine blk_drew ?_ | refine blk_alloc ?_ _)); exact BK189.out) Try.underlying25 rfl (by kernel_rfl)) rfl ?_
     exact ⟨_, _, _, _, by first | rfl | (simp [errW_none, errW_some] <;> rfl) | (simp [*, errW_none, errW_some] <;> rfl), by (with_reducible repeat (first | apply Kd.R_alloc | apply Kd.R_drewN | apply Kd.R_drew)); exact Kd.R_mono (Kd.R_far (p := ⟨gb189, 7, none⟩) (Kd.R_far (p := ⟨gb189, 6, none⟩) (Kd.R_far (p := ⟨gb189, 5, none⟩) (Kd.R_far (p := ⟨gb189, 4, none⟩) (Kd.R_far (p := ⟨gb189, 3, none⟩) (Kd.R_far (p := ⟨gb189, 2, none⟩) (Kd.R_far (p := ⟨gb189, 1, none⟩) (Kd.R_far (p := ⟨gb189, 0, none⟩) (Kd.R_far (p := ⟨gb188, 5, none⟩) (Kd.R_types (Kd.R_types HO_189002.out BK188.out (by decide)) BK189.out (by decide)) (fun _ hk => hk.1.2) (.slice Ao40 y207.length co40)) (fun _ hk => hk.2) (.bool a0_0)) (fun _ hk => hk.2) (.bool a0_1)) (fun _ hk => hk.2) (.slice Ao11 t190.length co11)) (fun _ hk => hk.2) (.slice Ao13 t193.length co13)) (fun _ hk => hk.2) (.slice Ao15 t196.length co15)) (fun _ hk => hk.2) (.slice Ao40 y207.length co40)) (fun _ hk => hk.2) (.bool a0_6)) (fun _ hk => hk.2) (.bool a0_7)) (fun _ hk => ⟨hk.1.1.1, hk.1.1.2⟩), by (with_reducible repeat (first | apply Kd.R_alloc | apply Kd.R_drewN | apply Kd.R_drew)); exact Kd.R_mono (Kd.R_far (p := ⟨gb189, 7, none⟩) (Kd.R_far (p := ⟨gb189, 6, none⟩) (Kd.R_far (p := ⟨gb189, 5, none⟩) (Kd.R_far (p := ⟨gb189, 4, none⟩) (Kd.R_far (p := ⟨gb189, 3, none⟩) (Kd.R_far (p := ⟨gb189, 2, none⟩) (Kd.R_far (p := ⟨gb189, 1, none⟩) (Kd.R_far (p := ⟨gb189, 0, none⟩) (Kd.R_far (p := ⟨gb188, 5, none⟩) (Kd.R_types (Kd.R_types HO_189003.out BK188.out (by decide)) BK189.out (by decide)) (fun _ hk => hk.1.2) (.slice Ao40 y207.length co40)) (fun _ hk => hk.2) (.bool a0_0)) (fun _ hk => hk.2) (.bool a0_1)) (fun _ hk => hk.2) (.slice Ao11 t190.length co11)) (fun _ hk => hk.2) (.slice Ao13 t193.length co13)) (fun _ hk => hk.2) (.slice Ao15 t196.length co15)) (fun _ hk => hk.2) (.slice Ao40 y207.length co40)) (fun _ hk => hk.2) (.bool a0_6)) (fun _ hk => hk.2) (.bool a0_7)) (fun _ hk => ⟨hk.1.1.1, hk.1.1.2⟩), by (with_reducible repeat (first | apply Kd.R_alloc | apply Kd.R_drewN | apply Kd.R_drew)); exact Kd.R_mono (Kd.R_far (p := ⟨gb189, 7, none⟩) (Kd.R_far (p := ⟨gb189, 6, none⟩) (Kd.R_far (p := ⟨gb189, 5, none⟩) (Kd.R_far (p := ⟨gb189, 4, none⟩) (Kd.R_far (p := ⟨gb189, 3, none⟩) (Kd.R_far (p := ⟨gb189, 2, none⟩) (Kd.R_far (p := ⟨gb189, 1, none⟩) (Kd.R_far (p := ⟨gb189, 0, none⟩) (Kd.R_far (p := ⟨gb188, 5, none⟩) (Kd.R_types (Kd.R_types HO_189004.out BK188.out (by decide)) BK189.out (by decide)) (fun _ hk => hk.1.2) (.slice Ao40 y207.length co40)) (fun _ hk => hk.2) (.bool a0_0)) (fun _ hk => hk.2) (.bool a0_1)) (fun _ hk => hk.2) (.slice Ao11 t190.length co11)) (fun _ hk => hk.2) (.slice Ao13 t193.length co13)) (fun _ hk => hk.2) (.slice Ao15 t196.length co15)) (fun _ hk => hk.2) (.slice Ao40 y207.length co40)) (fun _ hk => hk.2) (.bool a0_6)) (fun _ hk => hk.2) (.bool a0_7)) (fun _ hk => ⟨hk.1.1.1, hk.1.1.2⟩), by (with_reducible repeat (first | apply Kd.R_alloc | apply Kd.R_drewN | apply Kd.R_drew)); exact Kd.R_mono (Kd.R_far (p := ⟨gb189, 7, none⟩) (Kd.R_far (p := ⟨gb189, 6, none⟩) (Kd.R_far (p := ⟨gb189, 5, none⟩) (Kd.R_far (p := ⟨gb189, 4, none⟩) (Kd.R_far (p := ⟨gb189, 3, none⟩) (Kd.R_far (p := ⟨gb189, 2, none⟩) (Kd.R_far (p := ⟨gb189, 1, none⟩) (Kd.R_far (p := ⟨gb189, 0, none⟩) (Kd.R_far (p := ⟨gb188, 5, none⟩) (Kd.R_types (Kd.R_types HO209.out BK188.out (by decide)) BK189.out (by decide)) (fun _ hk => hk.1.2) (.slice Ao40 y207.length co40)) (fun _ hk => hk.2) (.bool a0_0)) (fun _ hk => hk.2) (.bool a0_1)) (fun _ hk => hk.2) (.slice Ao11 t190.length co11)) (fun _ hk => hk.2) (.slice Ao13 t193.length co13)) (fun _ hk => hk.2) (.slice Ao15 t196.length co15)) (fun _ hk => hk.2) (.slice Ao40 y207.length co40)) (fun _ hk => hk.2) (.bool a0_6)) (fun _ hk => hk.2) (.bool a0_7)) (fun _ hk => ⟨hk.1.1.1, ⟨hk.1.1.2.1, hk.1.1.2.2⟩⟩), by repeat (first | (with_reducible first | exact HB.out | apply below_alloc | apply pw_below_drewN | apply below_drew1 | refine below_set ?_ GE188.out | refine below_set ?_ GE189.out) | exact HB.out)⟩
    ·rw [if_neg c38] at H
     exact absurd H (by simp)

end Go.Proofs.Ytjofofpplpmgjaa.Pr
namespace Go.Proofs.Ytjofofpplpmgjaa.Pr
set_option linter.unusedVariables false
set_option linter.unusedSimpArgs false
open Go.RowKit Go.Lib Go.Shelf Go.Proofs.Ytjofofpplpmgjaa Go.Proofs.Ytjofofpplpmgjaa.Pure Go.Proofs.YtjofofpplpmgjaaW.PrintWords Go.Proofs.YtjofofpplpmgjaaW.PrintLast Go.Proofs.YtjofofpplpmgjaaW.PrintMore
def sortL (l : List ByteArray) : List ByteArray := SS (sorted (l.map dat))
theorem sortL_f {l : List ByteArray} (h : l.length ≤ 1000) : fold_Sorted.f l = some (sortL l) := sorted_f l (by omega)
def perL (l : List S35) : List S35 := (l.filter fun p => decide (0 < p.f1.length)).map fun p => ⟨p.f0, sortL p.f1⟩
theorem perL_cons (p : S35) (l : List S35) : perL (p :: l) = (if 0 < p.f1.length then [⟨p.f0, sortL p.f1⟩] else []) ++ perL l := by
  unfold perL
  rw [List.filter_cons]
  by_cases h : 0 < p.f1.length
  · rw [if_pos (decide_eq_true h), if_pos h]; rfl
  · rw [if_neg (by simpa using h), if_neg h]; rfl
theorem canon_l0 {c : Cf} (hf : Fit c) (hp : c.per.length ≤ 19) (a2 a3 a4 : List ByteArray) : ∀ (d i : Nat) (acc : List S35), i + d = c.per.length → acc.length ≤ i → ∀ k, d < k →
    config_CanonK.l0 k acc c.per (c.per.length : Int) (i : Int) c.al c.aal a2 a3 a4 c.per c.com c.dt = some (c.al, c.aal, a2, a3, a4, sortP (acc ++ perL (c.per.drop i)), c.com, c.dt) := by
  intro d
  induction d with
  | zero =>
    intro i acc h ha k hk
    obtain ⟨k, rfl⟩ : ∃ m, k = m + 1 := ⟨k - 1, by omega⟩
    unfold config_CanonK.l0
    rw [if_neg (by omega), if_pos (by omega), List.drop_of_length_le (by omega)]
    show some (_, _, _, _, _, sortP acc, _, _) = some (_, _, _, _, _, sortP (acc ++ []), _, _)
    rw [List.append_nil]
  | succ d ih =>
    intro i acc h ha k hk
    obtain ⟨k, rfl⟩ : ∃ m, k = m + 1 := ⟨k - 1, by omega⟩
    have hi : i < c.per.length := by omega
    have hx : c.per[i]? = some c.per[i] := List.getElem?_eq_getElem hi
    have hs := hf.sub _ (List.getElem_mem hi)
    have hd : c.per.drop i = c.per[i] :: c.per.drop (i + 1) := List.drop_eq_getElem_cons hi
    unfold config_CanonK.l0
    rw [if_pos (by omega), if_pos (by omega), if_pos (by omega), rd35_at hx, wrap_succ (by omega) (by omega), show ((i : Int) + 1) = ((i + 1 : Nat) : Int) from by omega, hd, perL_cons]
    by_cases h0 : 0 < c.per[i].f1.length
    · rw [if_pos (by omega), sortL_f hs, Option.bind_some, if_pos (by omega), if_pos h0, ih (i + 1) _ (by omega) (by rw [List.length_append, List.length_singleton]; omega) k (by omega), List.append_assoc]
    · rw [if_neg (by omega), if_neg h0, ih (i + 1) _ (by omega) (by omega) k (by omega)]
      rfl
def canonC (c : Cf) : Cf := { c with els := sortL c.els, rep := sortL c.rep, ats := sortL c.ats, per := sortP (perL c.per) }
theorem canonK_f {c : Cf} (hf : Fit c) (hp : c.per.length ≤ 19) : config_CanonK.f 30 c.al c.aal c.els c.rep c.ats c.per c.com c.dt = some (c.al, c.aal, sortL c.els, sortL c.rep, sortL c.ats, sortP (perL c.per), c.com, c.dt) := by
  unfold config_CanonK.f
  rw [sortL_f hf.els, Option.bind_some, sortL_f hf.rep, Option.bind_some, sortL_f hf.ats, Option.bind_some]
  have := canon_l0 hf hp (sortL c.els) (sortL c.rep) (sortL c.ats) c.per.length 0 [] (by omega) (Nat.le_refl _) 30 (by omega)
  exact this
def config_Canon.f (a0 a1 : Bool) (l2 l3 l4 : List ByteArray) (l5 : List S35) (a6 a7 : Bool) : Option (Bool × Bool × List ByteArray × List ByteArray × List ByteArray × (List (S35)) × Bool × Bool) :=
  if fitB ⟨a0, a1, l2, l3, l4, l5, a6, a7⟩ = true ∧ l5.length ≤ 19 then some (a0, a1, sortL l2, sortL l3, sortL l4, sortP (perL l5), a6, a7) else none
theorem config_Canon.calls (a0 a1 : Bool) (A2 : Option Addr) (c2 : Nat) (l2 : List ByteArray) (A3 : Option Addr) (c3 : Nat) (l3 : List ByteArray) (A4 : Option Addr) (c4 : Nat) (l4 : List ByteArray) (A5 : Option Addr) (c5 : Nat) (l5 : List S35) (a6 a7 : Bool)
    (r1 : Bool) (r2 : Bool) (r3 : List ByteArray) (r4 : List ByteArray) (r5 : List ByteArray) (r6 : List (S35)) (r7 : Bool) (r8 : Bool) (w : World)
    (hr2 : Kd.C Kd.string w A2 l2.length l2) (hc2 : l2.length ≤ c2) (hr3 : Kd.C Kd.string w A3 l3.length l3) (hc3 : l3.length ≤ c3) (hr4 : Kd.C Kd.string w A4 l4.length l4) (hc4 : l4.length ≤ c4) (hr5 : Kd.C k35 w A5 l5.length l5) (hc5 : l5.length ≤ c5) (h : config_Canon.f a0 a1 l2 l3 l4 l5 a6 a7 = some (r1, r2, r3, r4, r5, r6, r7, r8)) :
    Calls Try.prog 23 #[.agg #[.bool a0, .bool a1, .slice A2 l2.length c2, .slice A3 l3.length c3, .slice A4 l4.length c4, .slice A5 l5.length c5, .bool a6, .bool a7]] w fun e w' => ∃ v2_ v3_ v4_ v5_ : Value, e = .returned (.agg #[.bool r1, .bool r2, v2_, v3_, v4_, v5_, .bool r7, .bool r8]) ∧
      Kd.R Kd.string 9 w' w.heap.size (fun k_ => some k_ ≠ (v3_ : Value).ownBlock ∧ some k_ ≠ (v4_ : Value).ownBlock) v2_ r3 ∧ Kd.R Kd.string 9 w' w.heap.size (fun k_ => some k_ ≠ (v2_ : Value).ownBlock ∧ some k_ ≠ (v4_ : Value).ownBlock) v3_ r4 ∧
      Kd.R Kd.string 9 w' w.heap.size (fun k_ => some k_ ≠ (v2_ : Value).ownBlock ∧ some k_ ≠ (v3_ : Value).ownBlock) v4_ r5 ∧ Kd.R k35 35 w' w.heap.size (fun k_ => some k_ ≠ (v2_ : Value).ownBlock ∧ some k_ ≠ (v3_ : Value).ownBlock ∧ some k_ ≠ (v4_ : Value).ownBlock) v5_ r6 ∧ Below w.heap.size w w' := by
  unfold config_Canon.f at h
  split at h
  case isFalse => cases h
  rename_i hf
  have hs := canonK_f (c := ⟨a0, a1, l2, l3, l4, l5, a6, a7⟩) (fit_of hf.1) hf.2
  simp only at hs
  rw [h] at hs
  exact config_CanonK.calls 30 a0 a1 A2 c2 l2 A3 c3 l3 A4 c4 l4 A5 c5 l5 a6 a7 r1 r2 r3 r4 r5 r6 r7 r8 w hr2 hc2 hr3 hc3 hr4 hc4 hr5 hc5 hs
end Go.Proofs.Ytjofofpplpmgjaa.Pr
