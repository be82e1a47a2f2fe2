/- Texts under the row of ConfigStrip (part 5).. -/
import Derived.Test.YtjofofpplpmgjaaJConfigStrip1
import Derived.Test.YtjofofpplpmgjaaJConfigStrip3
import Derived.Test.YtjofofpplpmgjaaJConfigStrip4
import Derived.OpenShut
import Derived.ShutString
import Derived.SizedLaws
import Derived.WalkKit
import Derived.ProofKit
import Derived.ChangeOld
import Derived.Below
import Derived.Test.YtjofofpplpmgjaaJConfigStrip2
-- SLIMMED
namespace Go.Proofs.Ytjofofpplpmgjaa.Pr
open Go.RowKit Go.Proofs.YtjofofpplpmgjaaW.PrintWords Go.Proofs.YtjofofpplpmgjaaW.PrintLast Go.Proofs.YtjofofpplpmgjaaW.PrintMore
attribute [local go_sem] max2_int min2_int max_two min_two max_three min_three max_four min_four   -- for this text's walks alone
set_option linter.unusedVariables false
set_option linter.unusedSimpArgs false

/-! ### boltinglaw12_Bound: function 11 -/
def boltinglaw12_Bound.l0 : Nat → List (S35) → Int → Bool → Bool → List ByteArray → List ByteArray → List ByteArray → List (S35) → Bool → Bool → Option (Bool × Bool × List ByteArray × List ByteArray × List ByteArray × (List (S35)) × Bool × Bool)
 | 0, _, _, _, _, _, _, _, _, _, _ => none
 | k + 1, x3, x4, x189000, x189001, x189002, x189003, x189004, x189005, x189006, x189007 => if x4 < (x189005.length : Int) then (if x4 < 12 then (if 0 ≤ x4 then (if 0 ≤ (mn (((rd_T35 x189005 x4).f1).length : Int) 70) then (if (mn (((rd_T35 x189005 x4).f1).length : Int) 70) ≤ (((rd_T35 x189005 x4).f1).length : Int) then (if x3.length < 3518437208883 then (boltinglaw12_Bound.l0 k (x3 ++ [(⟨(rd_T35 x189005 x4).f0, (((rd_T35 x189005 x4).f1).take ((mn (((rd_T35 x189005 x4).f1).length : Int) 70) : Int).toNat)⟩ : S35)]) (wrap64 (x4 + 1)) x189000 x189001 x189002 x189003 x189004 x189005 x189006 x189007) else (none)) else (none)) else (none)) else (none)) else (some (x189000, x189001, x189002, x189003, x189004, x3, x189006, x189007))) else (some (x189000, x189001, x189002, x189003, x189004, x3, x189006, x189007))
def boltinglaw12_Bound.f (k : Nat) (a0_0 : Bool) (a0_1 : Bool) (l0_2 : List ByteArray) (l0_3 : List ByteArray) (l0_4 : List ByteArray) (l0_5 : List (S35)) (a0_6 : Bool) (a0_7 : Bool) : Option (Bool × Bool × List ByteArray × List ByteArray × List ByteArray × (List (S35)) × Bool × Bool) := if 0 ≤ (mn (l0_2.length : Int) 70) then (if (mn (l0_2.length : Int) 70) ≤ (l0_2.length : Int) then (if 0 ≤ (mn (l0_3.length : Int) 70) then (if (mn (l0_3.length : Int) 70) ≤ (l0_3.length : Int) then (if 0 ≤ (mn (l0_4.length : Int) 70) then (if (mn (l0_4.length : Int) 70) ≤ (l0_4.length : Int) then (boltinglaw12_Bound.l0 k (([] : List (S35))) 0 a0_0 a0_1 (l0_2.take ((mn (l0_2.length : Int) 70) : Int).toNat) (l0_3.take ((mn (l0_3.length : Int) 70) : Int).toNat) (l0_4.take ((mn (l0_4.length : Int) 70) : Int).toNat) l0_5 a0_6 a0_7) else (none)) else (none)) else (none)) else (none)) else (none)) else (none)
def boltinglaw12_Bound.T8 : Bool × List (List Nat × List Nat) := (true, [([], []), ([], []), ([1], [1]), ([], []), ([2, 3], [2, 3]), ([4], [4]), ([5], [5]), ([], []), ([7], [7]), ([], []), ([8, 9], [8, 9]), ([10], [10]), ([11], [11]), ([], []), ([13], [13]), ([], []), ([14, 15], [14, 15]), ([16], [16]), ([17], [17]), ([18], [18]), ([19], [19]), ([12, 20], [12, 20]), ([6, 21], [6, 21]), ([22], [22]), ([0, 23], [0, 23]), ([24, 24, 0, 1, 2, 3, 4, 5, 6, 7, 8, 9, 10, 11, 12, 13, 14, 15, 16, 17, 18, 19, 20, 21, 22, 23, 24], [0, 24])])
def boltinglaw12_Bound.B8 : List Nat := [0, 0, 2, 0, 14, 30, 62, 0, 128, 0, 896, 1920, 3968, 0, 8192, 0, 57344, 122880, 253952, 516096, 1040384, 2097024, 4194302, 8388606, 16777215, 33554431]
theorem boltinglaw12_Bound.tab8 : rtab .any (opsOf Try.f11 8) = boltinglaw12_Bound.T8 := by kernel_rfl
theorem boltinglaw12_Bound.bits8 : waitsOk boltinglaw12_Bound.T8.2 boltinglaw12_Bound.B8 = true := by kernel_rfl
set_option maxHeartbeats 8000000 in
set_option maxRecDepth 100000 in
theorem boltinglaw12_Bound.calls (k : Nat) (a0_0 : Bool) (a0_1 : Bool) (P0_2_ : Nat → Prop) (A0_2 : Option Addr) (c0_2 : Nat) (l0_2 : List ByteArray) (P0_3_ : Nat → Prop) (A0_3 : Option Addr) (c0_3 : Nat) (l0_3 : List ByteArray) (P0_4_ : Nat → Prop) (A0_4 : Option Addr) (c0_4 : Nat) (l0_4 : List ByteArray) (P0_5_ : Nat → Prop) (A0_5 : Option Addr) (c0_5 : Nat) (l0_5 : List (S35)) (a0_6 : Bool) (a0_7 : Bool) (r1 : Bool) (r2 : Bool) (r3 : List ByteArray) (r4 : List ByteArray) (r5 : List ByteArray) (r6 : List (S35)) (r7 : Bool) (r8 : Bool) (w : World) (hs0_2 : Kd.V Kd.string 9 w w.heap.size (fun k_ => P0_2_ k_) (.slice A0_2 l0_2.length c0_2) l0_2) (hs0_3 : Kd.V Kd.string 9 w w.heap.size (fun k_ => P0_3_ k_) (.slice A0_3 l0_3.length c0_3) l0_3) (hs0_4 : Kd.V Kd.string 9 w w.heap.size (fun k_ => P0_4_ k_) (.slice A0_4 l0_4.length c0_4) l0_4) (hs0_5 : Kd.V k35 35 w w.heap.size (fun k_ => P0_5_ k_) (.slice A0_5 l0_5.length c0_5) l0_5) (h : boltinglaw12_Bound.f k a0_0 a0_1 l0_2 l0_3 l0_4 l0_5 a0_6 a0_7 = some (r1, r2, r3, r4, r5, r6, r7, r8)) :
  Calls Try.prog 11 #[.agg #[.bool a0_0, .bool a0_1, .slice A0_2 l0_2.length c0_2, .slice A0_3 l0_3.length c0_3, .slice A0_4 l0_4.length c0_4, .slice A0_5 l0_5.length c0_5, .bool a0_6, .bool a0_7]] w fun e w' => ∃ v2_ v3_ v4_ v5_ : Value, e = .returned (.agg #[.bool r1, .bool r2, v2_, v3_, v4_, v5_, .bool r7, .bool r8]) ∧ Kd.V Kd.string 9 w' w.heap.size (fun k_ => ((P0_2_ k_ ∨ P0_3_ k_ ∨ P0_4_ k_ ∨ P0_5_ k_) ∨ w.heap.size ≤ k_) ∧ some k_ ≠ (v5_ : Value).ownBlock) v2_ r3 ∧ Kd.V Kd.string 9 w' w.heap.size (fun k_ => ((P0_2_ k_ ∨ P0_3_ k_ ∨ P0_4_ k_ ∨ P0_5_ k_) ∨ w.heap.size ≤ k_) ∧ some k_ ≠ (v5_ : Value).ownBlock) v3_ r4 ∧ Kd.V Kd.string 9 w' w.heap.size (fun k_ => ((P0_2_ k_ ∨ P0_3_ k_ ∨ P0_4_ k_ ∨ P0_5_ k_) ∨ w.heap.size ≤ k_) ∧ some k_ ≠ (v5_ : Value).ownBlock) v4_ r5 ∧ Kd.N k35 35 w' w.heap.size (fun k_ => ((P0_2_ k_ ∨ P0_3_ k_ ∨ P0_4_ k_ ∨ P0_5_ k_) ∨ w.heap.size ≤ k_)) v5_ r6 ∧ Below w.heap.size w w' := by
 have hu25 := Try.underlying25
 have hu35 := Try.underlying35
 have HO0_2 := Aside0.mk (show Kd.V Kd.string 9 w w.heap.size (fun k_ => ((P0_2_ k_ ∨ P0_3_ k_ ∨ P0_4_ k_ ∨ P0_5_ k_) ∨ w.heap.size ≤ k_)) (.slice A0_2 l0_2.length c0_2) l0_2 from Kd.V_mono hs0_2 (fun k_ hk => .inl (.inl hk)))
 have HO0_3 := Aside0.mk (show Kd.V Kd.string 9 w w.heap.size (fun k_ => ((P0_2_ k_ ∨ P0_3_ k_ ∨ P0_4_ k_ ∨ P0_5_ k_) ∨ w.heap.size ≤ k_)) (.slice A0_3 l0_3.length c0_3) l0_3 from Kd.V_mono hs0_3 (fun k_ hk => .inl (.inr (.inl hk))))
 have HO0_4 := Aside0.mk (show Kd.V Kd.string 9 w w.heap.size (fun k_ => ((P0_2_ k_ ∨ P0_3_ k_ ∨ P0_4_ k_ ∨ P0_5_ k_) ∨ w.heap.size ≤ k_)) (.slice A0_4 l0_4.length c0_4) l0_4 from Kd.V_mono hs0_4 (fun k_ hk => .inl (.inr (.inr (.inl hk)))))
 have HO0_5 := Aside0.mk (show Kd.V k35 35 w w.heap.size (fun k_ => ((P0_2_ k_ ∨ P0_3_ k_ ∨ P0_4_ k_ ∨ P0_5_ k_) ∨ w.heap.size ≤ k_)) (.slice A0_5 l0_5.length c0_5) l0_5 from Kd.V_mono hs0_5 (fun k_ hk => .inl (.inr (.inr (.inr hk)))))
 have HB := Aside0.mk (Below.refl w.heap.size w)
 have H : (if 0 ≤ (mn (l0_2.length : Int) 70) then (if (mn (l0_2.length : Int) 70) ≤ (l0_2.length : Int) then (if 0 ≤ (mn (l0_3.length : Int) 70) then (if (mn (l0_3.length : Int) 70) ≤ (l0_3.length : Int) then (if 0 ≤ (mn (l0_4.length : Int) 70) then (if (mn (l0_4.length : Int) 70) ≤ (l0_4.length : Int) then (boltinglaw12_Bound.l0 k (([] : List (S35))) 0 a0_0 a0_1 (l0_2.take ((mn (l0_2.length : Int) 70) : Int).toNat) (l0_3.take ((mn (l0_3.length : Int) 70) : Int).toNat) (l0_4.take ((mn (l0_4.length : Int) 70) : Int).toNat) l0_5 a0_6 a0_7) else (none)) else (none)) else (none)) else (none)) else (none)) else (none)) = some (r1, r2, r3, r4, r5, r6, r7, r8) := h
 clear h
 obtain ⟨ji2, hji2⟩ : ∃ j_ : Int, (mn (l0_2.length : Int) 70) = j_ := ⟨_, rfl⟩
 replace H : (if 0 ≤ (ji2) then (if (ji2) ≤ (l0_2.length : Int) then (if 0 ≤ (mn (l0_3.length : Int) 70) then (if (mn (l0_3.length : Int) 70) ≤ (l0_3.length : Int) then (if 0 ≤ (mn (l0_4.length : Int) 70) then (if (mn (l0_4.length : Int) 70) ≤ (l0_4.length : Int) then (boltinglaw12_Bound.l0 k (([] : List (S35))) 0 a0_0 a0_1 (l0_2.take ((ji2) : Int).toNat) (l0_3.take ((mn (l0_3.length : Int) 70) : Int).toNat) (l0_4.take ((mn (l0_4.length : Int) 70) : Int).toNat) l0_5 a0_6 a0_7) else (none)) else (none)) else (none)) else (none)) else (none)) else (none)) = some (r1, r2, r3, r4, r5, r6, r7, r8) := by first | (rw [hji2] at H; exact H) | (simp only [hji2] at H ⊢; exact H)
 (try (have hji2h : ji2 ≤ 70 := by (rw [← hji2]; unfold mn; (repeat' split) <;> omega)))
 (try (have hji2g : ji2 ≤ 64 := by omega))
 (try (have hji2l : 0 ≤ ji2 := by (rw [← hji2]; unfold mn; (repeat' split) <;> omega)))
 (try (have hji2m : 0 ≤ ji2 := by omega))
 have hji2_ : (if 70 < (l0_2.length : Int) then 70 else (l0_2.length : Int)) = ji2 := hji2
 by_cases c3 : 0 ≤ (ji2)
 ·rw [if_pos c3] at H
  have c3b0 := eq_true c3
  have c3b1 : decide (0 ≤ (ji2)) = true := decide_eq_true c3
  clear c3
  by_cases c4 : (ji2) ≤ (l0_2.length : Int)
  ·rw [if_pos c4] at H
   have c4b0 := eq_true c4
   have c4b1 : decide ((ji2) ≤ (l0_2.length : Int)) = true := decide_eq_true c4
   clear c4
   obtain ⟨y190, hy190⟩ : ∃ y_ : List ByteArray, y_ = (l0_2.take ((ji2) : Int).toNat) := ⟨_, rfl⟩
   replace H : (if 0 ≤ (mn (l0_3.length : Int) 70) then (if (mn (l0_3.length : Int) 70) ≤ (l0_3.length : Int) then (if 0 ≤ (mn (l0_4.length : Int) 70) then (if (mn (l0_4.length : Int) 70) ≤ (l0_4.length : Int) then (boltinglaw12_Bound.l0 k (([] : List (S35))) 0 a0_0 a0_1 y190 (l0_3.take ((mn (l0_3.length : Int) 70) : Int).toNat) (l0_4.take ((mn (l0_4.length : Int) 70) : Int).toNat) l0_5 a0_6 a0_7) else (none)) else (none)) else (none)) else (none)) = some (r1, r2, r3, r4, r5, r6, r7, r8) := by first | (rw [hy190]; with_reducible exact H) | (have H2_ := (Option.bind_some _ _).symm.trans H; rw [hy190]; with_reducible exact H2_) | (have H2_ := (Option.bind_some _ _).symm.trans H; with_reducible exact H2_) | with_reducible exact H | (rw [hy190]; exact H) | exact H
   have Ny190 := Aside0.mk hy190
   clear hy190
   obtain ⟨ji5, hji5⟩ : ∃ j_ : Int, (mn (l0_3.length : Int) 70) = j_ := ⟨_, rfl⟩
   replace H : (if 0 ≤ (ji5) then (if (ji5) ≤ (l0_3.length : Int) then (if 0 ≤ (mn (l0_4.length : Int) 70) then (if (mn (l0_4.length : Int) 70) ≤ (l0_4.length : Int) then (boltinglaw12_Bound.l0 k (([] : List (S35))) 0 a0_0 a0_1 y190 (l0_3.take ((ji5) : Int).toNat) (l0_4.take ((mn (l0_4.length : Int) 70) : Int).toNat) l0_5 a0_6 a0_7) else (none)) else (none)) else (none)) else (none)) = some (r1, r2, r3, r4, r5, r6, r7, r8) := by first | (rw [hji5] at H; exact H) | (simp only [hji5] at H ⊢; exact H)
   (try (have hji5h : ji5 ≤ 70 := by (rw [← hji5]; unfold mn; (repeat' split) <;> omega)))
   (try (have hji5g : ji5 ≤ 64 := by omega))
   (try (have hji5l : 0 ≤ ji5 := by (rw [← hji5]; unfold mn; (repeat' split) <;> omega)))
   (try (have hji5m : 0 ≤ ji5 := by omega))
   have hji5_ : (if 70 < (l0_3.length : Int) then 70 else (l0_3.length : Int)) = ji5 := hji5
   by_cases c6 : 0 ≤ (ji5)
   ·rw [if_pos c6] at H
    have c6b0 := eq_true c6
    have c6b1 : decide (0 ≤ (ji5)) = true := decide_eq_true c6
    clear c6
    by_cases c7 : (ji5) ≤ (l0_3.length : Int)
    ·rw [if_pos c7] at H
     have c7b0 := eq_true c7
     have c7b1 : decide ((ji5) ≤ (l0_3.length : Int)) = true := decide_eq_true c7
     clear c7
     obtain ⟨y195, hy195⟩ : ∃ y_ : List ByteArray, y_ = (l0_3.take ((ji5) : Int).toNat) := ⟨_, rfl⟩
     replace H : (if 0 ≤ (mn (l0_4.length : Int) 70) then (if (mn (l0_4.length : Int) 70) ≤ (l0_4.length : Int) then (boltinglaw12_Bound.l0 k (([] : List (S35))) 0 a0_0 a0_1 y190 y195 (l0_4.take ((mn (l0_4.length : Int) 70) : Int).toNat) l0_5 a0_6 a0_7) else (none)) else (none)) = some (r1, r2, r3, r4, r5, r6, r7, r8) := by first | (rw [hy195]; with_reducible exact H) | (have H2_ := (Option.bind_some _ _).symm.trans H; rw [hy195]; with_reducible exact H2_) | (have H2_ := (Option.bind_some _ _).symm.trans H; with_reducible exact H2_) | with_reducible exact H | (rw [hy195]; exact H) | exact H
     have Ny195 := Aside0.mk hy195
     clear hy195
     obtain ⟨ji8, hji8⟩ : ∃ j_ : Int, (mn (l0_4.length : Int) 70) = j_ := ⟨_, rfl⟩
     replace H : (if 0 ≤ (ji8) then (if (ji8) ≤ (l0_4.length : Int) then (boltinglaw12_Bound.l0 k (([] : List (S35))) 0 a0_0 a0_1 y190 y195 (l0_4.take ((ji8) : Int).toNat) l0_5 a0_6 a0_7) else (none)) else (none)) = some (r1, r2, r3, r4, r5, r6, r7, r8) := by first | (rw [hji8] at H; exact H) | (simp only [hji8] at H ⊢; exact H)
     (try (have hji8h : ji8 ≤ 70 := by (rw [← hji8]; unfold mn; (repeat' split) <;> omega)))
     (try (have hji8g : ji8 ≤ 64 := by omega))
     (try (have hji8l : 0 ≤ ji8 := by (rw [← hji8]; unfold mn; (repeat' split) <;> omega)))
     (try (have hji8m : 0 ≤ ji8 := by omega))
     have hji8_ : (if 70 < (l0_4.length : Int) then 70 else (l0_4.length : Int)) = ji8 := hji8
     by_cases c9 : 0 ≤ (ji8)
     ·rw [if_pos c9] at H
      have c9b0 := eq_true c9
      have c9b1 : decide (0 ≤ (ji8)) = true := decide_eq_true c9
      clear c9
      by_cases c10 : (ji8) ≤ (l0_4.length : Int)
      ·rw [if_pos c10] at H
       have c10b0 := eq_true c10
       have c10b1 : decide ((ji8) ≤ (l0_4.length : Int)) = true := decide_eq_true c10
       clear c10
       obtain ⟨y200, hy200⟩ : ∃ y_ : List ByteArray, y_ = (l0_4.take ((ji8) : Int).toNat) := ⟨_, rfl⟩
       replace H : (boltinglaw12_Bound.l0 k (([] : List (S35))) 0 a0_0 a0_1 y190 y195 y200 l0_5 a0_6 a0_7) = some (r1, r2, r3, r4, r5, r6, r7, r8) := by first | (rw [hy200]; with_reducible exact H) | (have H2_ := (Option.bind_some _ _).symm.trans H; rw [hy200]; with_reducible exact H2_) | (have H2_ := (Option.bind_some _ _).symm.trans H; with_reducible exact H2_) | with_reducible exact H | (rw [hy200]; exact H) | exact H
       have Ny200 := Aside0.mk hy200
       clear hy200
       obtain ⟨y205, hy205⟩ : ∃ y_ : List (S35), y_ = (([] : List (S35))) := ⟨_, rfl⟩
       replace H : (boltinglaw12_Bound.l0 k y205 0 a0_0 a0_1 y190 y195 y200 l0_5 a0_6 a0_7) = some (r1, r2, r3, r4, r5, r6, r7, r8) := by first | (rw [hy205]; with_reducible exact H) | (have H2_ := (Option.bind_some _ _).symm.trans H; rw [hy205]; with_reducible exact H2_) | (have H2_ := (Option.bind_some _ _).symm.trans H; with_reducible exact H2_) | with_reducible exact H | (rw [hy205]; exact H) | exact H
       have Ny205 := Aside0.mk hy205
       clear hy205
       have H' := Aside0.mk H
       clear H
       go_enter Try.func11, Try.ntmps11
       go_wp2_with (first | ((with_reducible refine gate_dst (N := 1) rfl ?_); refine box_event ?hg (N := 1) ?hd (cs := #[.bool a0_0, .bool a0_1, .slice A0_2 l0_2.length c0_2, .slice A0_3 l0_3.length c0_3, .slice A0_4 l0_4.length c0_4, .slice A0_5 l0_5.length c0_5, .bool a0_6, .bool a0_7]) (t := 25) ?hr ?_; (case hd => rfl); (case hg => rfl); (case hr => first | (go_simp; done) | (go_simp; rfl)); intro gb188 hg w11 hbox hb; have n0_ := Aside0.mk (Kd.V_below (Kd.V_elderB (by exact HO0_2.out) gb188 (Nat.le_of_eq hg.symm)) hb); have n1_ := Aside0.mk (Kd.V_below (Kd.V_elderB (by exact HO0_3.out) gb188 (Nat.le_of_eq hg.symm)) hb); have n2_ := Aside0.mk (Kd.V_below (Kd.V_elderB (by exact HO0_4.out) gb188 (Nat.le_of_eq hg.symm)) hb); have n3_ := Aside0.mk (Kd.V_below (Kd.V_elderB (by exact HO0_5.out) gb188 (Nat.le_of_eq hg.symm)) hb); have n4_ := Aside0.mk (below_step (by repeat (first | (with_reducible first | exact HB.out | apply below_alloc | apply pw_below_drewN | apply below_drew1) | exact HB.out)) hb); have n5_ := Aside0.mk (hbox); have n6_ := Aside0.mk ((by rw [hg]; exact (below_size (by repeat (first | (with_reducible first | exact HB.out | apply below_alloc | apply pw_below_drewN | apply below_drew1) | exact HB.out))) : w.heap.size ≤ gb188)); have n7_ := Aside0.mk ((by rw [hg]; exact (below_size (by repeat (first | (with_reducible first | exact HB.out | apply below_alloc | apply pw_below_drewN | apply below_drew1) | exact HB.out))) : w.heap.size ≤ gb188)); clear HO0_2; clear HO0_3; clear HO0_4; clear HO0_5; clear HB; have HO0_2 := n0_; have HO0_3 := n1_; have HO0_4 := n2_; have HO0_5 := n3_; have HB := n4_; have BK188 := n5_; have GW188 := n6_; have GE188 := n7_; clear n0_ n1_ n2_ n3_ n4_ n5_ n6_ n7_; clear hb hbox hg) | ((with_reducible refine gate_dst (N := 2) rfl ?_); refine box_event ?hg (N := 2) ?hd (cs := #[.bool false, .bool false, .slice none 0 0, .slice none 0 0, .slice none 0 0, .slice none 0 0, .bool false, .bool false]) (t := 25) ?hr ?_; (case hd => rfl); (case hg => rfl); (case hr => first | (go_simp; done) | (go_simp; rfl)); intro gb189 hg w12 hbox hb; have n0_ := Aside0.mk (Kd.V_below (Kd.V_elderB (by exact HO0_2.out) gb189 (Nat.le_of_eq hg.symm)) hb); have n1_ := Aside0.mk (Kd.V_below (Kd.V_elderB (by exact HO0_3.out) gb189 (Nat.le_of_eq hg.symm)) hb); have n2_ := Aside0.mk (Kd.V_below (Kd.V_elderB (by exact HO0_4.out) gb189 (Nat.le_of_eq hg.symm)) hb); have n3_ := Aside0.mk (Kd.V_below (Kd.V_elderB (by exact HO0_5.out) gb189 (Nat.le_of_eq hg.symm)) hb); have n4_ := Aside0.mk (blk_below (g := gb188) (o := .cells #[.bool a0_0, .bool a0_1, .slice A0_2 l0_2.length c0_2, .slice A0_3 l0_3.length c0_3, .slice A0_4 l0_4.length c0_4, .slice A0_5 l0_5.length c0_5, .bool a0_6, .bool a0_7] 25 (0, 0)) (by exact BK188.out) hb); have n5_ := Aside0.mk (below_step (by repeat (first | (with_reducible first | exact HB.out | apply below_alloc | apply pw_below_drewN | apply below_drew1 | refine below_set ?_ GE188.out) | exact HB.out)) hb); have n6_ := Aside0.mk (hbox); have n7_ := Aside0.mk ((by rw [hg]; exact (below_size (by repeat (first | (with_reducible first | exact HB.out | apply below_alloc | apply pw_below_drewN | apply below_drew1 | refine below_set ?_ GE188.out) | exact HB.out))) : w.heap.size ≤ gb189)); have n8_ := Aside0.mk ((by rw [hg]; exact (below_size (by repeat (first | (with_reducible first | exact HB.out | apply below_alloc | apply pw_below_drewN | apply below_drew1 | refine below_set ?_ GE188.out) | exact HB.out))) : w.heap.size ≤ gb189)); have n9_ := Aside0.mk ((by rw [hg]; exact Nat.ne_of_lt (blk_lt (g := gb188) (o := .cells #[.bool a0_0, .bool a0_1, .slice A0_2 l0_2.length c0_2, .slice A0_3 l0_3.length c0_3, .slice A0_4 l0_4.length c0_4, .slice A0_5 l0_5.length c0_5, .bool a0_6, .bool a0_7] 25 (0, 0)) (by exact BK188.out)) : gb188 ≠ gb189)); have n10_ := Aside0.mk ((by rw [hg]; exact Nat.ne_of_gt (blk_lt (g := gb188) (o := .cells #[.bool a0_0, .bool a0_1, .slice A0_2 l0_2.length c0_2, .slice A0_3 l0_3.length c0_3, .slice A0_4 l0_4.length c0_4, .slice A0_5 l0_5.length c0_5, .bool a0_6, .bool a0_7] 25 (0, 0)) (by exact BK188.out)) : gb189 ≠ gb188)); clear HO0_2; clear HO0_3; clear HO0_4; clear HO0_5; clear BK188; clear HB; have HO0_2 := n0_; have HO0_3 := n1_; have HO0_4 := n2_; have HO0_5 := n3_; have BK188 := n4_; have HB := n5_; have BK189 := n6_; have GW189 := n7_; have GE189 := n8_; have NB188_189 := n9_; have NB189_188 := n10_; clear n0_ n1_ n2_ n3_ n4_ n5_ n6_ n7_ n8_ n9_ n10_; clear hb hbox hg; have hnb13 := NB188_189.out; have hnc13 := NB189_188.out; have hcz14_0 : w12.cell? ⟨gb188, 0, none⟩ = some (.bool a0_0) := (blk_cell BK188.out 0).trans rfl; have hcz14_1 : w12.cell? ⟨gb188, 1, none⟩ = some (.bool a0_1) := (blk_cell BK188.out 1).trans rfl; have hcz14_2 : w12.cell? ⟨gb188, 2, none⟩ = some (.slice A0_2 l0_2.length c0_2) := (blk_cell BK188.out 2).trans rfl; have hcz14_3 : w12.cell? ⟨gb188, 3, none⟩ = some (.slice A0_3 l0_3.length c0_3) := (blk_cell BK188.out 3).trans rfl; have hcz14_4 : w12.cell? ⟨gb188, 4, none⟩ = some (.slice A0_4 l0_4.length c0_4) := (blk_cell BK188.out 4).trans rfl; have hcz14_5 : w12.cell? ⟨gb188, 5, none⟩ = some (.slice A0_5 l0_5.length c0_5) := (blk_cell BK188.out 5).trans rfl; have hcz14_6 : w12.cell? ⟨gb188, 6, none⟩ = some (.bool a0_6) := (blk_cell BK188.out 6).trans rfl; have hcz14_7 : w12.cell? ⟨gb188, 7, none⟩ = some (.bool a0_7) := (blk_cell BK188.out 7).trans rfl; have hfz14_0 := blk_frozen BK188.out 0; have hfz14_1 := blk_frozen BK188.out 1; have hfz14_2 := blk_frozen BK188.out 2; have hfz14_3 := blk_frozen BK188.out 3; have hfz14_4 := blk_frozen BK188.out 4; have hfz14_5 := blk_frozen BK188.out 5; have hfz14_6 := blk_frozen BK188.out 6; have hfz14_7 := blk_frozen BK188.out 7; have q15 : ((ji2) : Int) ≤ ((l0_2.length : Int) : Int) := of_decide_eq_true (by first | (with_reducible assumption) | assumption); obtain ⟨i015, hi015, _, hsz15, _⟩ := info_parts info9; have hroom15 : l0_2.length ≤ c0_2 := (Kd.V_reads' HO0_2.out).2.1; have hC15 : Kd.F Kd.string _ _ A0_2 l0_2.length l0_2 := (Kd.V_at (base := w.heap.size) HO0_2.out).2.2; have hcut15 := cut_to (P := Try.prog) 22 9 .i64 Try.underlying22 hi015 A0_2 l0_2.length c0_2 (ji2) (of_decide_eq_true (by first | (with_reducible assumption) | assumption)) q15 hroom15; have hr15 := Kd.F_take (m := ((ji2) : Int).toNat) hC15 (by omega); have hy15 : y190.length = ((ji2) : Int).toNat := (by rw [Ny190.out, List.length_take]; omega); rw [← Ny190.out] at hr15; rw [← hy15] at hcut15; have HO194 := Aside0.mk (show Kd.V Kd.string 9 _ w.heap.size _ (.slice A0_2 y190.length c0_2) y190 from Kd.V_mk (by omega) hr15); have HC194 := Aside0.mk (show y190.length ≤ c0_2 from by omega); clear hr15 hC15 hroom15 hi015 hsz15; have KY15 := Aside0.mk hy15; clear hy15; replace q15 := eq_true q15) | ((with_reducible refine gate_store (t := 22) (p := 12) rfl ?_); refine store_event (t := 22) (p := 12) (v := ?vo_w16) (w1 := (w12.setCell ⟨gb188, 2, none⟩ (.slice A0_2 y190.length c0_2))) ?hg ?ho ?hn ?hr ?_; (case ho => rfl); (case hg => rfl); (case hn => rfl); (case hr => first | (go_simp; done) | (go_simp; rfl)); intro w16 hw; have n0_ : Aside0 (Kd.V Kd.string 9 w16 w.heap.size (fun k_ => ((P0_2_ k_ ∨ P0_3_ k_ ∨ P0_4_ k_ ∨ P0_5_ k_) ∨ w.heap.size ≤ k_) ∧ k_ ≠ gb188 ∧ k_ ≠ gb189) (.slice A0_2 l0_2.length c0_2) l0_2) := ⟨(by rw [hw]; exact (by exact Kd.V_mono (Kd.V_far (p := ⟨gb188, 2, none⟩) (Kd.V_mono HO0_2.out (fun k_ hk => (⟨hk, hk.1.2⟩ : _ ∧ k_ ≠ gb188))) (fun _ hk => hk.2) (.slice A0_2 y190.length c0_2)) (fun _ hk => ⟨hk.1.1.1, ⟨hk.1.1.2, hk.1.2⟩⟩)))⟩; have n1_ : Aside0 (Kd.V Kd.string 9 w16 w.heap.size (fun k_ => ((P0_2_ k_ ∨ P0_3_ k_ ∨ P0_4_ k_ ∨ P0_5_ k_) ∨ w.heap.size ≤ k_) ∧ k_ ≠ gb188 ∧ k_ ≠ gb189) (.slice A0_3 l0_3.length c0_3) l0_3) := ⟨(by rw [hw]; exact (by exact Kd.V_mono (Kd.V_far (p := ⟨gb188, 2, none⟩) (Kd.V_mono HO0_3.out (fun k_ hk => (⟨hk, hk.1.2⟩ : _ ∧ k_ ≠ gb188))) (fun _ hk => hk.2) (.slice A0_2 y190.length c0_2)) (fun _ hk => ⟨hk.1.1.1, ⟨hk.1.1.2, hk.1.2⟩⟩)))⟩; have n2_ : Aside0 (Kd.V Kd.string 9 w16 w.heap.size (fun k_ => ((P0_2_ k_ ∨ P0_3_ k_ ∨ P0_4_ k_ ∨ P0_5_ k_) ∨ w.heap.size ≤ k_) ∧ k_ ≠ gb188 ∧ k_ ≠ gb189) (.slice A0_4 l0_4.length c0_4) l0_4) := ⟨(by rw [hw]; exact (by exact Kd.V_mono (Kd.V_far (p := ⟨gb188, 2, none⟩) (Kd.V_mono HO0_4.out (fun k_ hk => (⟨hk, hk.1.2⟩ : _ ∧ k_ ≠ gb188))) (fun _ hk => hk.2) (.slice A0_2 y190.length c0_2)) (fun _ hk => ⟨hk.1.1.1, ⟨hk.1.1.2, hk.1.2⟩⟩)))⟩; have n3_ : Aside0 (Kd.V k35 35 w16 w.heap.size (fun k_ => ((P0_2_ k_ ∨ P0_3_ k_ ∨ P0_4_ k_ ∨ P0_5_ k_) ∨ w.heap.size ≤ k_) ∧ k_ ≠ gb188 ∧ k_ ≠ gb189) (.slice A0_5 l0_5.length c0_5) l0_5) := ⟨(by rw [hw]; exact (by exact Kd.V_mono (Kd.V_far (p := ⟨gb188, 2, none⟩) (Kd.V_mono HO0_5.out (fun k_ hk => (⟨hk, hk.1.2⟩ : _ ∧ k_ ≠ gb188))) (fun _ hk => hk.2) (.slice A0_2 y190.length c0_2)) (fun _ hk => ⟨hk.1.1.1, ⟨hk.1.1.2, hk.1.2⟩⟩)))⟩; have n4_ : Aside0 (Kd.V Kd.string 9 w16 w.heap.size (fun k_ => ((P0_2_ k_ ∨ P0_3_ k_ ∨ P0_4_ k_ ∨ P0_5_ k_) ∨ w.heap.size ≤ k_) ∧ k_ ≠ gb188 ∧ k_ ≠ gb189) (.slice A0_2 y190.length c0_2) y190) := ⟨(by rw [hw]; exact (by exact Kd.V_mono (Kd.V_far (p := ⟨gb188, 2, none⟩) (Kd.V_mono HO194.out (fun k_ hk => (⟨hk, hk.1.2⟩ : _ ∧ k_ ≠ gb188))) (fun _ hk => hk.2) (.slice A0_2 y190.length c0_2)) (fun _ hk => ⟨hk.1.1.1, ⟨hk.1.1.2, hk.1.2⟩⟩)))⟩; have n5_ : Aside0 (w16.heap[gb188]? = some (.cells #[.bool a0_0, .bool a0_1, .slice A0_2 y190.length c0_2, .slice A0_3 l0_3.length c0_3, .slice A0_4 l0_4.length c0_4, .slice A0_5 l0_5.length c0_5, .bool a0_6, .bool a0_7] 25 (0, 0))) := ⟨(by rw [hw]; exact (by refine blk_put (cs := #[.bool a0_0, .bool a0_1, .slice A0_2 l0_2.length c0_2, .slice A0_3 l0_3.length c0_3, .slice A0_4 l0_4.length c0_4, .slice A0_5 l0_5.length c0_5, .bool a0_6, .bool a0_7]) ?_ 2 _ rfl; exact BK188.out))⟩; have n6_ : Aside0 (w16.heap[gb189]? = some (.cells #[.bool false, .bool false, .slice none 0 0, .slice none 0 0, .slice none 0 0, .slice none 0 0, .bool false, .bool false] 25 (0, 0))) := ⟨(by rw [hw]; exact (by refine blk_far ?_ NB189_188.out _; exact BK189.out))⟩; have n7_ : Aside0 (Below w.heap.size w w16) := ⟨(by rw [hw]; exact (by repeat (first | (with_reducible first | exact HB.out | apply below_alloc | apply pw_below_drewN | apply below_drew1 | refine below_set ?_ GE188.out | refine below_set ?_ GE189.out) | exact HB.out)))⟩; clear hw; clear HO0_2; clear HO0_3; clear HO0_4; clear HO0_5; clear HO194; clear BK188; clear BK189; clear HB; have HO0_2 := n0_; have HO0_3 := n1_; have HO0_4 := n2_; have HO0_5 := n3_; have HO194 := n4_; have BK188 := n5_; have BK189 := n6_; have HB := n7_; clear n0_ n1_ n2_ n3_ n4_ n5_ n6_ n7_; have hcz17_0 : w16.cell? ⟨gb188, 0, none⟩ = some (.bool a0_0) := (blk_cell BK188.out 0).trans rfl; have hcz17_1 : w16.cell? ⟨gb188, 1, none⟩ = some (.bool a0_1) := (blk_cell BK188.out 1).trans rfl; have hcz17_2 : w16.cell? ⟨gb188, 2, none⟩ = some (.slice A0_2 y190.length c0_2) := (blk_cell BK188.out 2).trans rfl; have hcz17_3 : w16.cell? ⟨gb188, 3, none⟩ = some (.slice A0_3 l0_3.length c0_3) := (blk_cell BK188.out 3).trans rfl; have hcz17_4 : w16.cell? ⟨gb188, 4, none⟩ = some (.slice A0_4 l0_4.length c0_4) := (blk_cell BK188.out 4).trans rfl; have hcz17_5 : w16.cell? ⟨gb188, 5, none⟩ = some (.slice A0_5 l0_5.length c0_5) := (blk_cell BK188.out 5).trans rfl; have hcz17_6 : w16.cell? ⟨gb188, 6, none⟩ = some (.bool a0_6) := (blk_cell BK188.out 6).trans rfl; have hcz17_7 : w16.cell? ⟨gb188, 7, none⟩ = some (.bool a0_7) := (blk_cell BK188.out 7).trans rfl; have hfz17_0 := blk_frozen BK188.out 0; have hfz17_1 := blk_frozen BK188.out 1; have hfz17_2 := blk_frozen BK188.out 2; have hfz17_3 := blk_frozen BK188.out 3; have hfz17_4 := blk_frozen BK188.out 4; have hfz17_5 := blk_frozen BK188.out 5; have hfz17_6 := blk_frozen BK188.out 6; have hfz17_7 := blk_frozen BK188.out 7; have q18 : ((ji5) : Int) ≤ ((l0_3.length : Int) : Int) := of_decide_eq_true (by first | (with_reducible assumption) | assumption); obtain ⟨i018, hi018, _, hsz18, _⟩ := info_parts info9; have hroom18 : l0_3.length ≤ c0_3 := (Kd.V_reads' HO0_3.out).2.1; have hC18 : Kd.F Kd.string _ _ A0_3 l0_3.length l0_3 := (Kd.V_at (base := w.heap.size) HO0_3.out).2.2; have hcut18 := cut_to (P := Try.prog) 22 9 .i64 Try.underlying22 hi018 A0_3 l0_3.length c0_3 (ji5) (of_decide_eq_true (by first | (with_reducible assumption) | assumption)) q18 hroom18; have hr18 := Kd.F_take (m := ((ji5) : Int).toNat) hC18 (by omega); have hy18 : y195.length = ((ji5) : Int).toNat := (by rw [Ny195.out, List.length_take]; omega); rw [← Ny195.out] at hr18; rw [← hy18] at hcut18; have HO199 := Aside0.mk (show Kd.V Kd.string 9 _ w.heap.size _ (.slice A0_3 y195.length c0_3) y195 from Kd.V_mk (by omega) hr18); have HC199 := Aside0.mk (show y195.length ≤ c0_3 from by omega); clear hr18 hC18 hroom18 hi018 hsz18; have KY18 := Aside0.mk hy18; clear hy18; replace q18 := eq_true q18) | ((with_reducible refine gate_store (t := 22) (p := 20) rfl ?_); refine store_event (t := 22) (p := 20) (v := ?vo_w19) (w1 := (w16.setCell ⟨gb188, 3, none⟩ (.slice A0_3 y195.length c0_3))) ?hg ?ho ?hn ?hr ?_; (case ho => rfl); (case hg => rfl); (case hn => rfl); (case hr => first | (go_simp; done) | (go_simp; rfl)); intro w19 hw; have n0_ : Aside0 (Kd.V Kd.string 9 w19 w.heap.size (fun k_ => ((P0_2_ k_ ∨ P0_3_ k_ ∨ P0_4_ k_ ∨ P0_5_ k_) ∨ w.heap.size ≤ k_) ∧ k_ ≠ gb188 ∧ k_ ≠ gb189) (.slice A0_2 l0_2.length c0_2) l0_2) := ⟨(by rw [hw]; exact (by exact Kd.V_mono (Kd.V_far (p := ⟨gb188, 3, none⟩) (Kd.V_mono HO0_2.out (fun k_ hk => (⟨hk, hk.2.1⟩ : _ ∧ k_ ≠ gb188))) (fun _ hk => hk.2) (.slice A0_3 y195.length c0_3)) (fun _ hk => ⟨hk.1.1, ⟨hk.1.2.1, hk.1.2.2⟩⟩)))⟩; have n1_ : Aside0 (Kd.V Kd.string 9 w19 w.heap.size (fun k_ => ((P0_2_ k_ ∨ P0_3_ k_ ∨ P0_4_ k_ ∨ P0_5_ k_) ∨ w.heap.size ≤ k_) ∧ k_ ≠ gb188 ∧ k_ ≠ gb189) (.slice A0_3 l0_3.length c0_3) l0_3) := ⟨(by rw [hw]; exact (by exact Kd.V_mono (Kd.V_far (p := ⟨gb188, 3, none⟩) (Kd.V_mono HO0_3.out (fun k_ hk => (⟨hk, hk.2.1⟩ : _ ∧ k_ ≠ gb188))) (fun _ hk => hk.2) (.slice A0_3 y195.length c0_3)) (fun _ hk => ⟨hk.1.1, ⟨hk.1.2.1, hk.1.2.2⟩⟩)))⟩; have n2_ : Aside0 (Kd.V Kd.string 9 w19 w.heap.size (fun k_ => ((P0_2_ k_ ∨ P0_3_ k_ ∨ P0_4_ k_ ∨ P0_5_ k_) ∨ w.heap.size ≤ k_) ∧ k_ ≠ gb188 ∧ k_ ≠ gb189) (.slice A0_4 l0_4.length c0_4) l0_4) := ⟨(by rw [hw]; exact (by exact Kd.V_mono (Kd.V_far (p := ⟨gb188, 3, none⟩) (Kd.V_mono HO0_4.out (fun k_ hk => (⟨hk, hk.2.1⟩ : _ ∧ k_ ≠ gb188))) (fun _ hk => hk.2) (.slice A0_3 y195.length c0_3)) (fun _ hk => ⟨hk.1.1, ⟨hk.1.2.1, hk.1.2.2⟩⟩)))⟩; have n3_ : Aside0 (Kd.V k35 35 w19 w.heap.size (fun k_ => ((P0_2_ k_ ∨ P0_3_ k_ ∨ P0_4_ k_ ∨ P0_5_ k_) ∨ w.heap.size ≤ k_) ∧ k_ ≠ gb188 ∧ k_ ≠ gb189) (.slice A0_5 l0_5.length c0_5) l0_5) := ⟨(by rw [hw]; exact (by exact Kd.V_mono (Kd.V_far (p := ⟨gb188, 3, none⟩) (Kd.V_mono HO0_5.out (fun k_ hk => (⟨hk, hk.2.1⟩ : _ ∧ k_ ≠ gb188))) (fun _ hk => hk.2) (.slice A0_3 y195.length c0_3)) (fun _ hk => ⟨hk.1.1, ⟨hk.1.2.1, hk.1.2.2⟩⟩)))⟩; have n4_ : Aside0 (Kd.V Kd.string 9 w19 w.heap.size (fun k_ => ((P0_2_ k_ ∨ P0_3_ k_ ∨ P0_4_ k_ ∨ P0_5_ k_) ∨ w.heap.size ≤ k_) ∧ k_ ≠ gb188 ∧ k_ ≠ gb189) (.slice A0_2 y190.length c0_2) y190) := ⟨(by rw [hw]; exact (by exact Kd.V_mono (Kd.V_far (p := ⟨gb188, 3, none⟩) (Kd.V_mono HO194.out (fun k_ hk => (⟨hk, hk.2.1⟩ : _ ∧ k_ ≠ gb188))) (fun _ hk => hk.2) (.slice A0_3 y195.length c0_3)) (fun _ hk => ⟨hk.1.1, ⟨hk.1.2.1, hk.1.2.2⟩⟩)))⟩; have n5_ : Aside0 (Kd.V Kd.string 9 w19 w.heap.size (fun k_ => ((P0_2_ k_ ∨ P0_3_ k_ ∨ P0_4_ k_ ∨ P0_5_ k_) ∨ w.heap.size ≤ k_) ∧ k_ ≠ gb188 ∧ k_ ≠ gb189) (.slice A0_3 y195.length c0_3) y195) := ⟨(by rw [hw]; exact (by exact Kd.V_mono (Kd.V_far (p := ⟨gb188, 3, none⟩) (Kd.V_mono HO199.out (fun k_ hk => (⟨hk, hk.2.1⟩ : _ ∧ k_ ≠ gb188))) (fun _ hk => hk.2) (.slice A0_3 y195.length c0_3)) (fun _ hk => ⟨hk.1.1, ⟨hk.1.2.1, hk.1.2.2⟩⟩)))⟩; have n6_ : Aside0 (w19.heap[gb188]? = some (.cells #[.bool a0_0, .bool a0_1, .slice A0_2 y190.length c0_2, .slice A0_3 y195.length c0_3, .slice A0_4 l0_4.length c0_4, .slice A0_5 l0_5.length c0_5, .bool a0_6, .bool a0_7] 25 (0, 0))) := ⟨(by rw [hw]; exact (by refine blk_put (cs := #[.bool a0_0, .bool a0_1, .slice A0_2 y190.length c0_2, .slice A0_3 l0_3.length c0_3, .slice A0_4 l0_4.length c0_4, .slice A0_5 l0_5.length c0_5, .bool a0_6, .bool a0_7]) ?_ 3 _ rfl; exact BK188.out))⟩; have n7_ : Aside0 (w19.heap[gb189]? = some (.cells #[.bool false, .bool false, .slice none 0 0, .slice none 0 0, .slice none 0 0, .slice none 0 0, .bool false, .bool false] 25 (0, 0))) := ⟨(by rw [hw]; exact (by refine blk_far ?_ NB189_188.out _; exact BK189.out))⟩; have n8_ : Aside0 (Below w.heap.size w w19) := ⟨(by rw [hw]; exact (by repeat (first | (with_reducible first | exact HB.out | apply below_alloc | apply pw_below_drewN | apply below_drew1 | refine below_set ?_ GE188.out | refine below_set ?_ GE189.out) | exact HB.out)))⟩; clear hw; clear HO0_2; clear HO0_3; clear HO0_4; clear HO0_5; clear HO194; clear HO199; clear BK188; clear BK189; clear HB; have HO0_2 := n0_; have HO0_3 := n1_; have HO0_4 := n2_; have HO0_5 := n3_; have HO194 := n4_; have HO199 := n5_; have BK188 := n6_; have BK189 := n7_; have HB := n8_; clear n0_ n1_ n2_ n3_ n4_ n5_ n6_ n7_ n8_; have hcz20_0 : w19.cell? ⟨gb188, 0, none⟩ = some (.bool a0_0) := (blk_cell BK188.out 0).trans rfl; have hcz20_1 : w19.cell? ⟨gb188, 1, none⟩ = some (.bool a0_1) := (blk_cell BK188.out 1).trans rfl; have hcz20_2 : w19.cell? ⟨gb188, 2, none⟩ = some (.slice A0_2 y190.length c0_2) := (blk_cell BK188.out 2).trans rfl; have hcz20_3 : w19.cell? ⟨gb188, 3, none⟩ = some (.slice A0_3 y195.length c0_3) := (blk_cell BK188.out 3).trans rfl; have hcz20_4 : w19.cell? ⟨gb188, 4, none⟩ = some (.slice A0_4 l0_4.length c0_4) := (blk_cell BK188.out 4).trans rfl; have hcz20_5 : w19.cell? ⟨gb188, 5, none⟩ = some (.slice A0_5 l0_5.length c0_5) := (blk_cell BK188.out 5).trans rfl; have hcz20_6 : w19.cell? ⟨gb188, 6, none⟩ = some (.bool a0_6) := (blk_cell BK188.out 6).trans rfl; have hcz20_7 : w19.cell? ⟨gb188, 7, none⟩ = some (.bool a0_7) := (blk_cell BK188.out 7).trans rfl; have hfz20_0 := blk_frozen BK188.out 0; have hfz20_1 := blk_frozen BK188.out 1; have hfz20_2 := blk_frozen BK188.out 2; have hfz20_3 := blk_frozen BK188.out 3; have hfz20_4 := blk_frozen BK188.out 4; have hfz20_5 := blk_frozen BK188.out 5; have hfz20_6 := blk_frozen BK188.out 6; have hfz20_7 := blk_frozen BK188.out 7; have q21 : ((ji8) : Int) ≤ ((l0_4.length : Int) : Int) := of_decide_eq_true (by first | (with_reducible assumption) | assumption); obtain ⟨i021, hi021, _, hsz21, _⟩ := info_parts info9; have hroom21 : l0_4.length ≤ c0_4 := (Kd.V_reads' HO0_4.out).2.1; have hC21 : Kd.F Kd.string _ _ A0_4 l0_4.length l0_4 := (Kd.V_at (base := w.heap.size) HO0_4.out).2.2; have hcut21 := cut_to (P := Try.prog) 22 9 .i64 Try.underlying22 hi021 A0_4 l0_4.length c0_4 (ji8) (of_decide_eq_true (by first | (with_reducible assumption) | assumption)) q21 hroom21; have hr21 := Kd.F_take (m := ((ji8) : Int).toNat) hC21 (by omega); have hy21 : y200.length = ((ji8) : Int).toNat := (by rw [Ny200.out, List.length_take]; omega); rw [← Ny200.out] at hr21; rw [← hy21] at hcut21; have HO204 := Aside0.mk (show Kd.V Kd.string 9 _ w.heap.size _ (.slice A0_4 y200.length c0_4) y200 from Kd.V_mk (by omega) hr21); have HC204 := Aside0.mk (show y200.length ≤ c0_4 from by omega); clear hr21 hC21 hroom21 hi021 hsz21; have KY21 := Aside0.mk hy21; clear hy21; replace q21 := eq_true q21) | ((with_reducible refine gate_dst (N := 29) rfl ?_); refine Kd.N_lit k35 _ 35 ?hg (N' := 29) ?hd (xs := ([] : List (S35))) (inner := []) (ok := (fun k_ => ((P0_2_ k_ ∨ P0_3_ k_ ∨ P0_4_ k_ ∨ P0_5_ k_) ∨ w.heap.size ≤ k_) ∧ k_ ≠ gb188 ∧ k_ ≠ gb189)) (okp := (fun k_ => ((P0_2_ k_ ∨ P0_3_ k_ ∨ P0_4_ k_ ∨ P0_5_ k_) ∨ w.heap.size ≤ k_) ∧ k_ ≠ gb188 ∧ k_ ≠ gb189)) ?hr ?hp (fun _ hk => hk) ((show ∀ k_, w19.heap.size ≤ k_ → (fun k_ => ((P0_2_ k_ ∨ P0_3_ k_ ∨ P0_4_ k_ ∨ P0_5_ k_) ∨ w.heap.size ≤ k_) ∧ k_ ≠ gb188 ∧ k_ ≠ gb189) k_ from fun k_ hk => ⟨(.inr (Nat.le_trans (below_size (by repeat (first | (with_reducible first | exact HB.out | apply below_alloc | apply pw_below_drewN | apply below_drew1 | refine below_set ?_ GE188.out | refine below_set ?_ GE189.out) | exact HB.out))) hk)), Kd.freshB (g := gb188) BK188.out k_ hk, Kd.freshB (g := gb189) BK189.out k_ hk⟩) _ (by first | exact Nat.le_refl _ | exact Nat.le_of_eq (World.size_setCell ..).symm)) (Below.refl _ _) (Nat.le_refl _) (by simp) ?_; (case hd => rfl); (case hg => rfl); (case hr => first | (go_simp; done) | (go_simp; rfl)); (case hp => exact (Reps.none _ _)); intro v206 w22 ho23 hb hg_ hnew_; clear hg_ hnew_; (first | rw [← Ny205.out] at ho23 | (simp only [Int.reduceToNat] at ho23; rw [← Ny205.out] at ho23)); have n0_ := Aside0.mk (Kd.V_elder' (by exact (Kd.V_mono (Kd.V_far (p := ⟨gb188, 4, none⟩) (Kd.V_mono HO0_2.out (fun k_ hk => (⟨hk, hk.2.1⟩ : _ ∧ k_ ≠ gb188))) (fun _ hk => hk.2) (.slice A0_4 y200.length c0_4)) (fun _ h_ => h_.1))) (Kd.N_base ho23) hb); have n1_ := Aside0.mk (Kd.V_elder' (by exact (Kd.V_mono (Kd.V_far (p := ⟨gb188, 4, none⟩) (Kd.V_mono HO0_3.out (fun k_ hk => (⟨hk, hk.2.1⟩ : _ ∧ k_ ≠ gb188))) (fun _ hk => hk.2) (.slice A0_4 y200.length c0_4)) (fun _ h_ => h_.1))) (Kd.N_base ho23) hb); have n2_ := Aside0.mk (Kd.V_elder' (by exact (Kd.V_mono (Kd.V_far (p := ⟨gb188, 4, none⟩) (Kd.V_mono HO0_4.out (fun k_ hk => (⟨hk, hk.2.1⟩ : _ ∧ k_ ≠ gb188))) (fun _ hk => hk.2) (.slice A0_4 y200.length c0_4)) (fun _ h_ => h_.1))) (Kd.N_base ho23) hb); have n3_ := Aside0.mk (Kd.V_elder' (by exact (Kd.V_mono (Kd.V_far (p := ⟨gb188, 4, none⟩) (Kd.V_mono HO0_5.out (fun k_ hk => (⟨hk, hk.2.1⟩ : _ ∧ k_ ≠ gb188))) (fun _ hk => hk.2) (.slice A0_4 y200.length c0_4)) (fun _ h_ => h_.1))) (Kd.N_base ho23) hb); have n4_ := Aside0.mk (Kd.V_elder' (by exact (Kd.V_mono (Kd.V_far (p := ⟨gb188, 4, none⟩) (Kd.V_mono HO194.out (fun k_ hk => (⟨hk, hk.2.1⟩ : _ ∧ k_ ≠ gb188))) (fun _ hk => hk.2) (.slice A0_4 y200.length c0_4)) (fun _ h_ => h_.1))) (Kd.N_base ho23) hb); have n5_ := Aside0.mk (Kd.V_elder' (by exact (Kd.V_mono (Kd.V_far (p := ⟨gb188, 4, none⟩) (Kd.V_mono HO199.out (fun k_ hk => (⟨hk, hk.2.1⟩ : _ ∧ k_ ≠ gb188))) (fun _ hk => hk.2) (.slice A0_4 y200.length c0_4)) (fun _ h_ => h_.1))) (Kd.N_base ho23) hb); have n6_ := Aside0.mk (Kd.V_elder' (by exact (Kd.V_mono (Kd.V_far (p := ⟨gb188, 4, none⟩) (Kd.V_mono HO204.out (fun k_ hk => (⟨hk, hk.2.1⟩ : _ ∧ k_ ≠ gb188))) (fun _ hk => hk.2) (.slice A0_4 y200.length c0_4)) (fun _ h_ => h_.1))) (Kd.N_base ho23) hb); have n7_ := Aside0.mk (Kd.N_lower ho23 (below_size (by repeat (first | (with_reducible first | exact HB.out | apply below_alloc | apply pw_below_drewN | apply below_drew1 | refine below_set ?_ GE188.out | refine below_set ?_ GE189.out) | exact HB.out)))); have n8_ := Aside0.mk (blk_below (g := gb188) (o := .cells #[.bool a0_0, .bool a0_1, .slice A0_2 y190.length c0_2, .slice A0_3 y195.length c0_3, .slice A0_4 y200.length c0_4, .slice A0_5 l0_5.length c0_5, .bool a0_6, .bool a0_7] 25 (0, 0)) (by refine blk_put (cs := #[.bool a0_0, .bool a0_1, .slice A0_2 y190.length c0_2, .slice A0_3 y195.length c0_3, .slice A0_4 l0_4.length c0_4, .slice A0_5 l0_5.length c0_5, .bool a0_6, .bool a0_7]) ?_ 4 _ rfl; exact BK188.out) hb); have n9_ := Aside0.mk (blk_below (g := gb189) (o := .cells #[.bool false, .bool false, .slice none 0 0, .slice none 0 0, .slice none 0 0, .slice none 0 0, .bool false, .bool false] 25 (0, 0)) (by refine blk_far ?_ NB189_188.out _; exact BK189.out) hb); have n10_ := Aside0.mk (below_step (by repeat (first | (with_reducible first | exact HB.out | apply below_alloc | apply pw_below_drewN | apply below_drew1 | refine below_set ?_ GE188.out | refine below_set ?_ GE189.out) | exact HB.out)) hb); clear HO0_2; clear HO0_3; clear HO0_4; clear HO0_5; clear HO194; clear HO199; clear HO204; clear BK188; clear BK189; clear HB; have HO0_2 := n0_; have HO0_3 := n1_; have HO0_4 := n2_; have HO0_5 := n3_; have HO194 := n4_; have HO199 := n5_; have HO204 := n6_; have HO207 := n7_; have BK188 := n8_; have BK189 := n9_; have HB := n10_; clear n0_ n1_ n2_ n3_ n4_ n5_ n6_ n7_ n8_ n9_ n10_; clear hb ho23))
       go_loopg [3, 4] k (fun kq v3 v4 w' => ∃ (x3_1 : List (S35)) (x4_1 : Int), v4 = .int .i64 x4_1 ∧ Aside0 (boltinglaw12_Bound.l0 kq x3_1 x4_1 a0_0 a0_1 y190 y195 y200 l0_5 a0_6 a0_7 = some (r1, r2, r3, r4, r5, r6, r7, r8)) ∧ Aside0 (kq ≤ k) ∧ Aside0 (Kd.N k35 35 w' w.heap.size (fun k_ => ((P0_2_ k_ ∨ P0_3_ k_ ∨ P0_4_ k_ ∨ P0_5_ k_) ∨ w.heap.size ≤ k_) ∧ k_ ≠ gb188 ∧ k_ ≠ gb189) v3 x3_1) ∧ Aside0 (Kd.V Kd.string 9 w' w.heap.size (fun k_ => ((P0_2_ k_ ∨ P0_3_ k_ ∨ P0_4_ k_ ∨ P0_5_ k_) ∨ w.heap.size ≤ k_) ∧ some k_ ≠ (v3 : Value).ownBlock ∧ k_ ≠ gb188 ∧ k_ ≠ gb189) (.slice A0_2 y190.length c0_2) y190) ∧ Aside0 (Kd.V Kd.string 9 w' w.heap.size (fun k_ => ((P0_2_ k_ ∨ P0_3_ k_ ∨ P0_4_ k_ ∨ P0_5_ k_) ∨ w.heap.size ≤ k_) ∧ some k_ ≠ (v3 : Value).ownBlock ∧ k_ ≠ gb188 ∧ k_ ≠ gb189) (.slice A0_3 y195.length c0_3) y195) ∧ Aside0 (Kd.V Kd.string 9 w' w.heap.size (fun k_ => ((P0_2_ k_ ∨ P0_3_ k_ ∨ P0_4_ k_ ∨ P0_5_ k_) ∨ w.heap.size ≤ k_) ∧ some k_ ≠ (v3 : Value).ownBlock ∧ k_ ≠ gb188 ∧ k_ ≠ gb189) (.slice A0_4 y200.length c0_4) y200) ∧ Aside0 (Kd.V k35 35 w' w.heap.size (fun k_ => ((P0_2_ k_ ∨ P0_3_ k_ ∨ P0_4_ k_ ∨ P0_5_ k_) ∨ w.heap.size ≤ k_) ∧ some k_ ≠ (v3 : Value).ownBlock ∧ k_ ≠ gb188 ∧ k_ ≠ gb189) (.slice A0_5 l0_5.length c0_5) l0_5) ∧ Aside0 (w'.heap[gb188]? = some (.cells #[.bool a0_0, .bool a0_1, (.slice A0_2 y190.length c0_2), (.slice A0_3 y195.length c0_3), (.slice A0_4 y200.length c0_4), (.slice A0_5 l0_5.length c0_5), .bool a0_6, .bool a0_7] 25 (0, 0))) ∧ Aside0 (w'.heap[gb189]? = some (.cells #[.bool false, .bool false, (.slice none 0 0), (.slice none 0 0), (.slice none 0 0), (.slice none 0 0), .bool false, .bool false] 25 (0, 0))) ∧ Aside0 (Below w.heap.size w w'))
       case atStart => exact ⟨(y205), (0), (by first | rfl | (simp; done) | (simp [*]; done)), H', ⟨Nat.le_refl _⟩, ⟨by exact HO207.out⟩, ⟨by exact Kd.V_mono HO194.out (fun _ hk => ⟨hk.1.1, ⟨hk.2, ⟨hk.1.2.1, hk.1.2.2⟩⟩⟩)⟩, ⟨by exact Kd.V_mono HO199.out (fun _ hk => ⟨hk.1.1, ⟨hk.2, ⟨hk.1.2.1, hk.1.2.2⟩⟩⟩)⟩, ⟨by exact Kd.V_mono HO204.out (fun _ hk => ⟨hk.1.1, ⟨hk.2, ⟨hk.1.2.1, hk.1.2.2⟩⟩⟩)⟩, ⟨by exact Kd.V_mono HO0_5.out (fun _ hk => ⟨hk.1.1, ⟨hk.2, ⟨hk.1.2.1, hk.1.2.2⟩⟩⟩)⟩, ⟨by exact BK188.out⟩, ⟨by exact BK189.out⟩, ⟨by repeat (first | (with_reducible first | exact HB.out | apply below_alloc | apply pw_below_drewN | apply below_drew1 | refine below_set ?_ GE188.out | refine below_set ?_ GE189.out) | exact HB.out)⟩⟩
       case round =>
        clear H'
        try clear c1
        try clear q1
        try clear p2
        try clear q2
        try clear c3
        try clear c3b0
        try clear c3b1
        try clear c4
        try clear c4b0
        try clear c4b1
        try clear c6
        try clear c6b0
        try clear c6b1
        try clear c7
        try clear c7b0
        try clear c7b1
        try clear c9
        try clear c9b0
        try clear c9b1
        try clear c10
        try clear c10b0
        try clear c10b1
        try clear c11
        try clear c13
        try clear q15
        try clear q18
        try clear q21
        try clear hcz14_0
        try clear hcz14_1
        try clear hcz14_2
        try clear hcz14_3
        try clear hcz14_4
        try clear hcz14_5
        try clear hcz14_6
        try clear hcz14_7
        try clear hcz17_0
        try clear hcz17_1
        try clear hcz17_2
        try clear hcz17_3
        try clear hcz17_4
        try clear hcz17_5
        try clear hcz17_6
        try clear hcz17_7
        try clear hcz20_0
        try clear hcz20_1
        try clear hcz20_2
        try clear hcz20_3
        try clear hcz20_4
        try clear hcz20_5
        try clear hcz20_6
        try clear hcz20_7
        try clear hfz14_0
        try clear hfz14_1
        try clear hfz14_2
        try clear hfz14_3
        try clear hfz14_4
        try clear hfz14_5
        try clear hfz14_6
        try clear hfz14_7
        try clear hfz17_0
        try clear hfz17_1
        try clear hfz17_2
        try clear hfz17_3
        try clear hfz17_4
        try clear hfz17_5
        try clear hfz17_6
        try clear hfz17_7
        try clear hfz20_0
        try clear hfz20_1
        try clear hfz20_2
        try clear hfz20_3
        try clear hfz20_4
        try clear hfz20_5
        try clear hfz20_6
        try clear hfz20_7
        try clear q15
        try clear q18
        try clear q21
        obtain ⟨x3_1, x4_1, rfl, HA, HK1, HO_3, HO_189002, HO_189003, HO_189004, HO_189005, BK188, BK189, HB⟩ := hrel
        cases gk with
        | zero => exact absurd HA.out (by simp [boltinglaw12_Bound.l0])
        | succ k1 =>
         have H := HA.out
         clear HA
         simp only [boltinglaw12_Bound.l0] at H
         by_cases c24 : x4_1 < (l0_5.length : Int)
         ·rw [if_pos c24] at H
          have c24b0 : decide (x4_1 < (l0_5.length : Int)) = true := decide_eq_true c24
          clear c24
          by_cases c25 : x4_1 < 12
          ·rw [if_pos c25] at H
           have c25b0 : decide (x4_1 < 12) = true := decide_eq_true c25
           clear c25
           by_cases c26 : 0 ≤ x4_1
           ·rw [if_pos c26] at H
            have c26b0 : decide (0 ≤ x4_1) = true := decide_eq_true c26
            clear c26
            obtain ⟨ji27, hji27⟩ : ∃ j_ : Int, (mn (((rd_T35 l0_5 x4_1).f1).length : Int) 70) = j_ := ⟨_, rfl⟩
            replace H : (if 0 ≤ (ji27) then (if (ji27) ≤ (((rd_T35 l0_5 x4_1).f1).length : Int) then (if x3_1.length < 3518437208883 then (boltinglaw12_Bound.l0 k1 (x3_1 ++ [(⟨(rd_T35 l0_5 x4_1).f0, (((rd_T35 l0_5 x4_1).f1).take ((ji27) : Int).toNat)⟩ : S35)]) (wrap64 (x4_1 + 1)) a0_0 a0_1 y190 y195 y200 l0_5 a0_6 a0_7) else (none)) else (none)) else (none)) = some (r1, r2, r3, r4, r5, r6, r7, r8) := by first | (rw [hji27] at H; exact H) | (simp only [hji27] at H ⊢; exact H)
            have hji27_ : (if 70 < (((rd_T35 l0_5 x4_1).f1).length : Int) then 70 else (((rd_T35 l0_5 x4_1).f1).length : Int)) = ji27 := hji27
            by_cases c28 : 0 ≤ (ji27)
            ·rw [if_pos c28] at H
             have c28b0 := eq_true c28
             have c28b1 : decide (0 ≤ (ji27)) = true := decide_eq_true c28
             clear c28
             by_cases c29 : (ji27) ≤ (((rd_T35 l0_5 x4_1).f1).length : Int)
             ·rw [if_pos c29] at H
              have c29b0 := eq_true c29
              have c29b1 : decide ((ji27) ≤ (((rd_T35 l0_5 x4_1).f1).length : Int)) = true := decide_eq_true c29
              clear c29
              obtain ⟨y211, hy211⟩ : ∃ y_ : List ByteArray, y_ = (((rd_T35 l0_5 x4_1).f1).take ((ji27) : Int).toNat) := ⟨_, rfl⟩
              replace H : (if x3_1.length < 3518437208883 then (boltinglaw12_Bound.l0 k1 (x3_1 ++ [(⟨(rd_T35 l0_5 x4_1).f0, y211⟩ : S35)]) (wrap64 (x4_1 + 1)) a0_0 a0_1 y190 y195 y200 l0_5 a0_6 a0_7) else (none)) = some (r1, r2, r3, r4, r5, r6, r7, r8) := by first | (rw [hy211]; with_reducible exact H) | (have H2_ := (Option.bind_some _ _).symm.trans H; rw [hy211]; with_reducible exact H2_) | (have H2_ := (Option.bind_some _ _).symm.trans H; with_reducible exact H2_) | with_reducible exact H | (rw [hy211]; exact H) | exact H
              have Ny211 := Aside0.mk hy211
              clear hy211
              by_cases c30 : x3_1.length < 3518437208883
              ·rw [if_pos c30] at H
               have LMc30 := Aside0.mk c30
               clear c30
               obtain ⟨y216, hy216⟩ : ∃ y_ : List (S35), y_ = (x3_1 ++ [(⟨(rd_T35 l0_5 x4_1).f0, y211⟩ : S35)]) := ⟨_, rfl⟩
               replace H : (boltinglaw12_Bound.l0 k1 y216 (wrap64 (x4_1 + 1)) a0_0 a0_1 y190 y195 y200 l0_5 a0_6 a0_7) = some (r1, r2, r3, r4, r5, r6, r7, r8) := by first | (rw [hy216]; with_reducible exact H) | (have H2_ := (Option.bind_some _ _).symm.trans H; rw [hy216]; with_reducible exact H2_) | (have H2_ := (Option.bind_some _ _).symm.trans H; with_reducible exact H2_) | with_reducible exact H | (rw [hy216]; exact H) | exact H
               have Ny216 := Aside0.mk hy216
               clear hy216
               have H' := Aside0.mk H
               clear H
               have hnb31 := NB188_189.out
               have hnc31 := NB189_188.out
               have hcz32_0 : wr.cell? ⟨gb188, 0, none⟩ = some (.bool a0_0) := (blk_cell BK188.out 0).trans rfl
               have hcz32_1 : wr.cell? ⟨gb188, 1, none⟩ = some (.bool a0_1) := (blk_cell BK188.out 1).trans rfl
               have hcz32_2 : wr.cell? ⟨gb188, 2, none⟩ = some (.slice A0_2 y190.length c0_2) := (blk_cell BK188.out 2).trans rfl
               have hcz32_3 : wr.cell? ⟨gb188, 3, none⟩ = some (.slice A0_3 y195.length c0_3) := (blk_cell BK188.out 3).trans rfl
               have hcz32_4 : wr.cell? ⟨gb188, 4, none⟩ = some (.slice A0_4 y200.length c0_4) := (blk_cell BK188.out 4).trans rfl
               have hcz32_5 : wr.cell? ⟨gb188, 5, none⟩ = some (.slice A0_5 l0_5.length c0_5) := (blk_cell BK188.out 5).trans rfl
               have hcz32_6 : wr.cell? ⟨gb188, 6, none⟩ = some (.bool a0_6) := (blk_cell BK188.out 6).trans rfl
               have hcz32_7 : wr.cell? ⟨gb188, 7, none⟩ = some (.bool a0_7) := (blk_cell BK188.out 7).trans rfl
               have hfz32_0 := blk_frozen BK188.out 0
               have hfz32_1 := blk_frozen BK188.out 1
               have hfz32_2 := blk_frozen BK188.out 2
               have hfz32_3 := blk_frozen BK188.out 3
               have hfz32_4 := blk_frozen BK188.out 4
               have hfz32_5 := blk_frozen BK188.out 5
               have hfz32_6 := blk_frozen BK188.out 6
               have hfz32_7 := blk_frozen BK188.out 7
               try go_wp2
               have n0_ := Aside0.mk (Kd.N_drew HO_3.out)
               have n1_ := Aside0.mk (Kd.V_drew HO_189002.out)
               have n2_ := Aside0.mk (Kd.V_drew HO_189003.out)
               have n3_ := Aside0.mk (Kd.V_drew HO_189004.out)
               have n4_ := Aside0.mk (Kd.V_drew HO_189005.out)
               have n5_ := Aside0.mk (blk_drew BK188.out)
               have n6_ := Aside0.mk (blk_drew BK189.out)
               have n7_ := Aside0.mk (below_drew1 HB.out)
               clear HO_3
               clear HO_189002
               clear HO_189003
               clear HO_189004
               clear HO_189005
               clear BK188
               clear BK189
               clear HB
               have HO_3 := n0_
               have HO_189002 := n1_
               have HO_189003 := n2_
               have HO_189004 := n3_
               have HO_189005 := n4_
               have BK188 := n5_
               have BK189 := n6_
               have HB := n7_
               clear n0_ n1_ n2_ n3_ n4_ n5_ n6_ n7_
               have p208 : 0 ≤ (x4_1 : Int) := of_decide_eq_true (by first | (with_reducible assumption) | assumption)
               have q208 : x4_1 < (l0_5.length : Int) := of_decide_eq_true (by first | (with_reducible assumption) | assumption)
               obtain ⟨ad208, A208_1, c208_1, e208, hx208_0, hx208_1, hl208_1, hi208_1⟩ := at_T35 (Kd.V_reads' HO_189005.out).2.2 x4_1 p208 q208
               cases e208
               obtain ⟨ce208, hce208, hMe208, hcc208⟩ := Kd.V_get HO_189005.out z35 x4_1 p208 (by first | exact q208 | exact of_decide_eq_true (by first | (with_reducible assumption) | assumption) | (have e_ := (Kd.V_reads' HO_189005.out).1; omega))
               obtain ⟨ua208_1, uc208_1, rfl, ul208_1, ge208_1⟩ := k35_openF hMe208
               have hv208_1 := hcc208 1 _ rfl
               rw [add_field _ _ 1 (by omega)] at hv208_1
               replace hv208_1 := Option.some.inj (hv208_1.symm.trans hx208_1)
               injection hv208_1 with hva_ hvn_ hvc_
               rw [hva_] at ge208_1
               rw [hvc_] at ul208_1
               have HL208_1 := Aside0.mk (show Kd.V Kd.string 9 _ w.heap.size _ _ ((rd_T35 l0_5 x4_1).f1) from Kd.V_mk ul208_1 ge208_1)
               clear hva_ hvn_ hvc_ ge208_1 ul208_1
               clear hcc208 hce208
               have HR208_1 := Aside0.mk hi208_1
               have HC208_1 := Aside0.mk hl208_1
               clear hi208_1 hl208_1
               replace p208 := eq_true p208
               replace q208 := eq_true q208
               have p209 : 0 ≤ (x4_1 : Int) := of_decide_eq_true (by first | (with_reducible assumption) | assumption)
               have q209 : x4_1 < (l0_5.length : Int) := of_decide_eq_true (by first | (with_reducible assumption) | assumption)
               obtain ⟨ad209, A209_1, c209_1, e209, hx209_0, hx209_1, hl209_1, hi209_1⟩ := at_T35 (Kd.V_reads' HO_189005.out).2.2 x4_1 p209 q209
               obtain rfl : ad208 = ad209 := (by injection e209)
               obtain ⟨ce209, hce209, hMe209, hcc209⟩ := Kd.V_get HO_189005.out z35 x4_1 p209 (by first | exact q209 | exact of_decide_eq_true (by first | (with_reducible assumption) | assumption) | (have e_ := (Kd.V_reads' HO_189005.out).1; omega))
               obtain ⟨ua209_1, uc209_1, rfl, ul209_1, ge209_1⟩ := k35_openF hMe209
               have hv209_1 := hcc209 1 _ rfl
               rw [add_field _ _ 1 (by omega)] at hv209_1
               replace hv209_1 := Option.some.inj (hv209_1.symm.trans hx209_1)
               injection hv209_1 with hva_ hvn_ hvc_
               rw [hva_] at ge209_1
               rw [hvc_] at ul209_1
               have HL209_1 := Aside0.mk (show Kd.V Kd.string 9 _ w.heap.size _ _ ((rd_T35 l0_5 x4_1).f1) from Kd.V_mk ul209_1 ge209_1)
               clear hva_ hvn_ hvc_ ge209_1 ul209_1
               clear hcc209 hce209
               have HR209_1 := Aside0.mk hi209_1
               have HC209_1 := Aside0.mk hl209_1
               clear hi209_1 hl209_1
               replace p209 := eq_true p209
               replace q209 := eq_true q209
               have ea_ := Option.some.inj (hx208_1.symm.trans hx209_1)
               injection ea_ with ea_ en_ ec_
               subst ea_
               subst ec_
               clear en_
               have p210 : 0 ≤ (x4_1 : Int) := of_decide_eq_true (by first | (with_reducible assumption) | assumption)
               have q210 : x4_1 < (l0_5.length : Int) := of_decide_eq_true (by first | (with_reducible assumption) | assumption)
               obtain ⟨ad210, A210_1, c210_1, e210, hx210_0, hx210_1, hl210_1, hi210_1⟩ := at_T35 (Kd.V_reads' HO_189005.out).2.2 x4_1 p210 q210
               obtain rfl : ad208 = ad210 := (by injection e210)
               obtain ⟨ce210, hce210, hMe210, hcc210⟩ := Kd.V_get HO_189005.out z35 x4_1 p210 (by first | exact q210 | exact of_decide_eq_true (by first | (with_reducible assumption) | assumption) | (have e_ := (Kd.V_reads' HO_189005.out).1; omega))
               obtain ⟨ua210_1, uc210_1, rfl, ul210_1, ge210_1⟩ := k35_openF hMe210
               have hv210_1 := hcc210 1 _ rfl
               rw [add_field _ _ 1 (by omega)] at hv210_1
               replace hv210_1 := Option.some.inj (hv210_1.symm.trans hx210_1)
               injection hv210_1 with hva_ hvn_ hvc_
               rw [hva_] at ge210_1
               rw [hvc_] at ul210_1
               have HL210_1 := Aside0.mk (show Kd.V Kd.string 9 _ w.heap.size _ _ ((rd_T35 l0_5 x4_1).f1) from Kd.V_mk ul210_1 ge210_1)
               clear hva_ hvn_ hvc_ ge210_1 ul210_1
               clear hcc210 hce210
               have HR210_1 := Aside0.mk hi210_1
               have HC210_1 := Aside0.mk hl210_1
               clear hi210_1 hl210_1
               replace p210 := eq_true p210
               replace q210 := eq_true q210
               have ea_ := Option.some.inj (hx208_1.symm.trans hx210_1)
               injection ea_ with ea_ en_ ec_
               subst ea_
               subst ec_
               clear en_
               have q34 : ((ji27) : Int) ≤ ((((rd_T35 l0_5 x4_1).f1).length : Int) : Int) := of_decide_eq_true (by first | (with_reducible assumption) | assumption)
               obtain ⟨i034, hi034, _, hsz34, _⟩ := info_parts info9
               have hroom34 : ((rd_T35 l0_5 x4_1).f1).length ≤ c208_1 := HC209_1.out
               have hC34 : Kd.F Kd.string _ _ A208_1 ((rd_T35 l0_5 x4_1).f1).length ((rd_T35 l0_5 x4_1).f1) := (Kd.V_at (base := w.heap.size) HL209_1.out).2.2
               have hcut34 := cut_to (P := Try.prog) 22 9 .i64 Try.underlying22 hi034 A208_1 ((rd_T35 l0_5 x4_1).f1).length c208_1 (ji27) (of_decide_eq_true (by first | (with_reducible assumption) | assumption)) q34 hroom34
               have hr34 := Kd.F_take (m := ((ji27) : Int).toNat) hC34 (by omega)
               have hy34 : y211.length = ((ji27) : Int).toNat := (by rw [Ny211.out, List.length_take]; omega)
               rw [← Ny211.out] at hr34
               rw [← hy34] at hcut34
               have HO215 := Aside0.mk (show Kd.V Kd.string 9 _ w.heap.size _ (.slice A208_1 y211.length c208_1) y211 from Kd.V_mk (by omega) hr34)
               have HC215 := Aside0.mk (show y211.length ≤ c208_1 from by omega)
               clear hr34 hC34 hroom34 hi034 hsz34
               have KY34 := Aside0.mk hy34
               clear hy34
               replace q34 := eq_true q34
               refine start_ (n := 26) (S := fun w' => w'.cell? ⟨gb188, 0, none⟩ = some (.bool a0_0) ∧ w'.cell? ⟨gb188, 1, none⟩ = some (.bool a0_1) ∧ w'.cell? ⟨gb188, 2, none⟩ = some (.slice A0_2 y190.length c0_2) ∧ w'.cell? ⟨gb188, 3, none⟩ = some (.slice A0_3 y195.length c0_3) ∧ w'.cell? ⟨gb188, 4, none⟩ = some (.slice A0_4 y200.length c0_4) ∧ w'.cell? ⟨gb188, 5, none⟩ = some (.slice (some ad208) l0_5.length c0_5) ∧ w'.cell? ⟨gb188, 6, none⟩ = some (.bool a0_6) ∧ w'.cell? ⟨gb188, 7, none⟩ = some (.bool a0_7) ∧ w'.cell? (ad208.add ((x4_1).toNat * 2)) = some (.string ((rd_T35 l0_5 x4_1).f0)) ∧ w'.cell? ⟨(ad208.add ((x4_1).toNat * 2)).block, (ad208.add ((x4_1).toNat * 2)).off + 1, none⟩ = some (.slice A208_1 ((rd_T35 l0_5 x4_1).f1).length c208_1) ∧ w'.cell? (ad208.add ((x4_1).toNat * 2)) = some (.string ((rd_T35 l0_5 x4_1).f0)) ∧ w'.cell? ⟨(ad208.add ((x4_1).toNat * 2)).block, (ad208.add ((x4_1).toNat * 2)).off + 1, none⟩ = some (.slice A208_1 ((rd_T35 l0_5 x4_1).f1).length c208_1) ∧ w'.cell? (ad208.add ((x4_1).toNat * 2)) = some (.string ((rd_T35 l0_5 x4_1).f0)) ∧ w'.cell? ⟨(ad208.add ((x4_1).toNat * 2)).block, (ad208.add ((x4_1).toNat * 2)).off + 1, none⟩ = some (.slice A208_1 ((rd_T35 l0_5 x4_1).f1).length c208_1)) (ds := [23, 24]) (tf 0 26) (by kernel_rfl) rfl rfl ⟨(blk_cell BK188.out 0).trans rfl, (blk_cell BK188.out 1).trans rfl, (blk_cell BK188.out 2).trans rfl, (blk_cell BK188.out 3).trans rfl, (blk_cell BK188.out 4).trans rfl, (blk_cell BK188.out 5).trans rfl, (blk_cell BK188.out 6).trans rfl, (blk_cell BK188.out 7).trans rfl, hx208_0, hx208_1, hx209_0, hx209_1, hx210_0, hx210_1⟩ (fun hHeld => ?_); refine with_tabW boltinglaw12_Bound.tab8 boltinglaw12_Bound.bits8 (fun HT_ HW_ => ?_)
               generalize wr.drew = w33 at HO_3 HO_189002 HO_189003 HO_189004 HO_189005 BK188 BK189 HB HL208_1 HL209_1 HL210_1 HO215 HR208_1 HR209_1 HR210_1 hx208_0 hx208_1 hx209_0 hx209_1 hx210_0 hx210_1 hHeld ⊢
               refine pure_ (i := 0) (N := some 41) (v := ?_) (a' := ?_) (tf 1 25) rfl rfl (any_of HT_.out (by kernel_rfl)) (fun _ _ _ h => h) (Or.inl ⟨by rfl, ?_⟩) ?_ ?_
               rotate_left
               ·intro w'
                go_simp
                with_reducible rfl
               rotate_left
               ·simp only [Act.put, List.setIfInBounds_toArray, List.set_cons_zero, List.set_cons_succ, i64_w, i32_w]
                rfl
               refine pure_ (i := 1) (N := some 42) (v := ?_) (a' := ?_) (tf 2 24) rfl rfl (any_of HT_.out (by kernel_rfl)) (fun _ _ _ h => h) (Or.inl ⟨by rfl, ?_⟩) ?_ ?_
               rotate_left
               ·intro w'
                go_simp
                with_reducible rfl
               rotate_left
               ·simp only [Act.put, List.setIfInBounds_toArray, List.set_cons_zero, List.set_cons_succ, i64_w, i32_w]
                rfl
               refine pure_ (i := 3) (N := some 44) (v := ?_) (a' := ?_) #[true, true, false, true, false, false, false, false, false, false, false, false, false, false, false, false, false, false, false, false, false, false, false, false, false, false] rfl rfl (any_of HT_.out (by kernel_rfl)) (fun _ _ _ h => h) (Or.inl ⟨by rfl, ?_⟩) ?_ ?_
               rotate_left
               ·intro w'
                go_simp
                with_reducible rfl
               rotate_left
               ·simp only [Act.put, List.setIfInBounds_toArray, List.set_cons_zero, List.set_cons_succ, i64_w, i32_w]
                rfl
               refine pure_ (i := 7) (N := some 48) (v := ?_) (a' := ?_) #[true, true, false, true, false, false, false, true, false, false, false, false, false, false, false, false, false, false, false, false, false, false, false, false, false, false] rfl rfl (any_of HT_.out (by kernel_rfl)) (fun _ _ _ h => h) (Or.inl ⟨by rfl, ?_⟩) ?_ ?_
               rotate_left
               ·intro w'
                go_simp
                with_reducible rfl
               rotate_left
               ·simp only [Act.put, List.setIfInBounds_toArray, List.set_cons_zero, List.set_cons_succ, i64_w, i32_w]
                rfl
               refine pure_ (i := 9) (N := some 50) (v := ?_) (a' := ?_) #[true, true, false, true, false, false, false, true, false, true, false, false, false, false, false, false, false, false, false, false, false, false, false, false, false, false] rfl rfl (any_of HT_.out (by kernel_rfl)) (fun _ _ _ h => h) (Or.inl ⟨by rfl, ?_⟩) ?_ ?_
               rotate_left
               ·intro w'
                go_simp
                with_reducible rfl
               rotate_left
               ·simp only [Act.put, List.setIfInBounds_toArray, List.set_cons_zero, List.set_cons_succ, i64_w, i32_w]
                rfl
               refine pure_ (i := 13) (N := some 54) (v := ?_) (a' := ?_) #[true, true, false, true, false, false, false, true, false, true, false, false, false, true, false, false, false, false, false, false, false, false, false, false, false, false] rfl rfl (any_of HT_.out (by kernel_rfl)) (fun _ _ _ h => h) (Or.inl ⟨by rfl, ?_⟩) ?_ ?_
               rotate_left
               ·intro w'
                go_simp
                with_reducible rfl
               rotate_left
               ·simp only [Act.put, List.setIfInBounds_toArray, List.set_cons_zero, List.set_cons_succ, i64_w, i32_w]
                rfl
               refine pure_ (i := 15) (N := some 56) (v := ?_) (a' := ?_) #[true, true, false, true, false, false, false, true, false, true, false, false, false, true, false, true, false, false, false, false, false, false, false, false, false, false] rfl rfl (any_of HT_.out (by kernel_rfl)) (fun _ _ _ h => h) (Or.inl ⟨by rfl, ?_⟩) ?_ ?_
               rotate_left
               ·intro w'
                go_simp
                with_reducible rfl
               rotate_left
               ·simp only [Act.put, List.setIfInBounds_toArray, List.set_cons_zero, List.set_cons_succ, i64_w, i32_w]
                rfl
               refine take_ (i := 2) (N := some 43) (v := ?_) (a' := ?_) #[true, true, true, true, false, false, false, true, false, true, false, false, false, true, false, true, false, false, false, false, false, false, false, false, false, false] rfl rfl (take_ofW HT_.out HW_.out (by kernel_rfl)) (fun _ _ _ h => h) (Or.inl ⟨by rfl, ?_⟩) hHeld ?_ ?_
               rotate_left
               ·rintro w' ⟨s0, s1, s2, s3, s4, s5, s6, s7, s8, s9, s10, s11, s12, s13⟩
                go_simp
                with_reducible rfl
               rotate_left
               ·simp only [Act.put, List.setIfInBounds_toArray, List.set_cons_zero, List.set_cons_succ, i64_w, i32_w]
                rfl
               refine pure_ (i := 4) (N := some 45) (v := ?_) (a' := ?_) #[true, true, true, true, true, false, false, true, false, true, false, false, false, true, false, true, false, false, false, false, false, false, false, false, false, false] rfl rfl (any_of HT_.out (by kernel_rfl)) (fun _ _ _ h => h) (Or.inl ⟨by rfl, ?_⟩) ?_ ?_
               rotate_left
               ·intro w'
                go_simp
                with_reducible rfl
               rotate_left
               ·simp only [Act.put, List.setIfInBounds_toArray, List.set_cons_zero, List.set_cons_succ, i64_w, i32_w]
                rfl
               refine pure_ (i := 5) (N := some 46) (v := ?_) (a' := ?_) #[true, true, true, true, true, true, false, true, false, true, false, false, false, true, false, true, false, false, false, false, false, false, false, false, false, false] rfl rfl (any_of HT_.out (by kernel_rfl)) (fun _ _ _ h => h) (Or.inl ⟨by rfl, ?_⟩) ?_ ?_
               rotate_left
               ·intro w'
                go_simp
                with_reducible rfl
               rotate_left
               ·simp only [Act.put, List.setIfInBounds_toArray, List.set_cons_zero, List.set_cons_succ, i64_w, i32_w]
                rfl
               refine take_ (i := 6) (N := some 47) (v := ?_) (a' := ?_) #[true, true, true, true, true, true, true, true, false, true, false, false, false, true, false, true, false, false, false, false, false, false, false, false, false, false] rfl rfl (take_ofW HT_.out HW_.out (by kernel_rfl)) (fun _ _ _ h => h) (Or.inl ⟨by rfl, ?_⟩) hHeld ?_ ?_
               rotate_left
               ·rintro w' ⟨s0, s1, s2, s3, s4, s5, s6, s7, s8, s9, s10, s11, s12, s13⟩
                go_simp
                with_reducible rfl
               rotate_left
               ·simp only [Act.put, List.setIfInBounds_toArray, List.set_cons_zero, List.set_cons_succ, i64_w, i32_w]
                rfl
               refine take_ (i := 8) (N := some 49) (v := ?_) (a' := ?_) #[true, true, true, true, true, true, true, true, true, true, false, false, false, true, false, true, false, false, false, false, false, false, false, false, false, false] rfl rfl (take_ofW HT_.out HW_.out (by kernel_rfl)) (fun _ _ _ h => h) (Or.inl ⟨by rfl, ?_⟩) hHeld ?_ ?_
               rotate_left
               ·rintro w' ⟨s0, s1, s2, s3, s4, s5, s6, s7, s8, s9, s10, s11, s12, s13⟩
                go_simp
                with_reducible rfl
               rotate_left
               ·simp only [Act.put, List.setIfInBounds_toArray, List.set_cons_zero, List.set_cons_succ, i64_w, i32_w]
                rfl
               refine pure_ (i := 10) (N := some 51) (v := ?_) (a' := ?_) #[true, true, true, true, true, true, true, true, true, true, true, false, false, true, false, true, false, false, false, false, false, false, false, false, false, false] rfl rfl (any_of HT_.out (by kernel_rfl)) (fun _ _ _ h => h) (Or.inl ⟨by rfl, ?_⟩) ?_ ?_
               rotate_left
               ·intro w'
                go_simp
                with_reducible rfl
               rotate_left
               ·simp only [Act.put, List.setIfInBounds_toArray, List.set_cons_zero, List.set_cons_succ, i64_w, i32_w]
                rfl
               refine pure_ (i := 11) (N := some 52) (v := ?_) (a' := ?_) #[true, true, true, true, true, true, true, true, true, true, true, true, false, true, false, true, false, false, false, false, false, false, false, false, false, false] rfl rfl (any_of HT_.out (by kernel_rfl)) (fun _ _ _ h => h) (Or.inl ⟨by rfl, ?_⟩) ?_ ?_
               rotate_left
               ·intro w'
                go_simp
                with_reducible rfl
               rotate_left
               ·simp only [Act.put, List.setIfInBounds_toArray, List.set_cons_zero, List.set_cons_succ, i64_w, i32_w]
                rfl
               refine take_ (i := 12) (N := some 53) (v := ?_) (a' := ?_) #[true, true, true, true, true, true, true, true, true, true, true, true, true, true, false, true, false, false, false, false, false, false, false, false, false, false] rfl rfl (take_ofW HT_.out HW_.out (by kernel_rfl)) (fun _ _ _ h => h) (Or.inl ⟨by rfl, ?_⟩) hHeld ?_ ?_
               rotate_left
               ·rintro w' ⟨s0, s1, s2, s3, s4, s5, s6, s7, s8, s9, s10, s11, s12, s13⟩
                go_simp
                with_reducible rfl
               rotate_left
               ·simp only [Act.put, List.setIfInBounds_toArray, List.set_cons_zero, List.set_cons_succ, i64_w, i32_w]
                rfl
               refine take_ (i := 14) (N := some 55) (v := ?_) (a' := ?_) (tf 16 10) rfl rfl (take_ofW HT_.out HW_.out (by kernel_rfl)) (fun _ _ _ h => h) (Or.inl ⟨by rfl, ?_⟩) hHeld ?_ ?_
               rotate_left
               ·rintro w' ⟨s0, s1, s2, s3, s4, s5, s6, s7, s8, s9, s10, s11, s12, s13⟩
                go_simp
                with_reducible rfl
               rotate_left
               ·simp only [Act.put, List.setIfInBounds_toArray, List.set_cons_zero, List.set_cons_succ, i64_w, i32_w]
                rfl
               refine pure_ (i := 16) (N := some 57) (v := ?_) (a' := ?_) (tf 17 9) rfl rfl (any_of HT_.out (by kernel_rfl)) (fun _ _ _ h => h) (Or.inl ⟨by rfl, ?_⟩) ?_ ?_
               rotate_left
               ·intro w'
                go_simp
                with_reducible rfl
               rotate_left
               ·simp only [Act.put, List.setIfInBounds_toArray, List.set_cons_zero, List.set_cons_succ, i64_w, i32_w]
                rfl
               refine pure_ (i := 17) (N := some 58) (v := ?_) (a' := ?_) (tf 18 8) rfl rfl (any_of HT_.out (by kernel_rfl)) (fun _ _ _ h => h) (Or.inl ⟨by rfl, ?_⟩) ?_ ?_
               rotate_left
               ·intro w'
                go_simp
                with_reducible rfl
               rotate_left
               ·simp only [Act.put, List.setIfInBounds_toArray, List.set_cons_zero, List.set_cons_succ, i64_w, i32_w]
                rfl
               refine take_ (i := 18) (N := some 59) (v := ?_) (a' := ?_) (tf 19 7) rfl rfl (take_ofW HT_.out HW_.out (by kernel_rfl)) (fun _ _ _ h => h) (Or.inl ⟨by rfl, ?_⟩) hHeld ?_ ?_
               rotate_left
               ·rintro w' ⟨s0, s1, s2, s3, s4, s5, s6, s7, s8, s9, s10, s11, s12, s13⟩
                go_simp
                with_reducible rfl
               rotate_left
               ·simp only [Act.put, List.setIfInBounds_toArray, List.set_cons_zero, List.set_cons_succ, i64_w, i32_w]
                rfl
               refine pure_ (i := 19) (N := some 60) (v := ?_) (a' := ?_) (tf 20 6) rfl rfl (any_of HT_.out (by kernel_rfl)) (fun _ _ _ h => h) (Or.inl ⟨by rfl, ?_⟩) ?_ ?_
               rotate_left
               ·intro w'
                go_simp
                with_reducible rfl
               rotate_left
               ·simp only [Act.put, List.setIfInBounds_toArray, List.set_cons_zero, List.set_cons_succ, i64_w, i32_w]
                rfl
               refine pure_ (i := 20) (N := some 61) (v := ?_) (a' := ?_) (tf 21 5) rfl rfl (any_of HT_.out (by kernel_rfl)) (fun _ _ _ h => h) (Or.inl ⟨by rfl, ?_⟩) ?_ ?_
               rotate_left
               ·intro w'
                go_simp
                with_reducible rfl
               rotate_left
               ·simp only [Act.put, List.setIfInBounds_toArray, List.set_cons_zero, List.set_cons_succ, i64_w, i32_w]
                rfl
               refine pure_ (i := 21) (N := some 62) (v := ?_) (a' := ?_) (tf 22 4) rfl rfl (any_of HT_.out (by kernel_rfl)) (fun _ _ _ h => h) (Or.inl ⟨by rfl, ?_⟩) ?_ ?_
               rotate_left
               ·intro w'
                go_simp
                with_reducible rfl
               rotate_left
               ·simp only [Act.put, List.setIfInBounds_toArray, List.set_cons_zero, List.set_cons_succ, i64_w, i32_w]
                rfl
               refine pure_ (i := 22) (N := some 63) (v := ?_) (a' := ?_) (tf 23 3) rfl rfl (any_of HT_.out (by kernel_rfl)) (fun _ _ _ h => h) (Or.inl ⟨by rfl, ?_⟩) ?_ ?_
               rotate_left
               ·intro w'
                go_simp
                with_reducible rfl
               rotate_left
               ·simp only [Act.put, List.setIfInBounds_toArray, List.set_cons_zero, List.set_cons_succ, i64_w, i32_w]
                rfl
               refine last_ (i := 23) (N := some 64) (tf 24 2) rfl rfl (one_of HT_.out (by kernel_rfl)) (by decide) (fun K hK => ?_)
               refine value_ (w1 := ?_) (v := ?_) (by rfl) rfl ?_ ?_
               rotate_left 2
               ·go_simp
                constructor
                ·rfl
                ·rfl
               refine hK.out _ _ ?_
               clear hK K
               refine norm_ (a' := ?_) ?_ ?_
               rotate_left
               ·show Act.put _ (some 64) _ = _
                simp only [Act.put, List.setIfInBounds_toArray, List.set_cons_zero, List.set_cons_succ, i64_w, i32_w]
                rfl
               refine last_ (i := 24) (N := some 65) (tf 25 1) rfl rfl (one_of HT_.out (by kernel_rfl)) (by decide) (fun K hK => ?_)
               refine Kd.N_append_step k35 (w0 := w) w.heap.size (by rfl) (.tmp 41) (.tmp 64) 23 35 (.agg #[(.string ⟨#[]⟩), (.slice none 0 0)]) 40 rfl Try.underlying23 info35 rfl (by decide) (by omega) u3 x3_1 (⟨(rd_T35 l0_5 x4_1).f0, y211⟩ : S35) [.string ((rd_T35 l0_5 x4_1).f0), .slice A208_1 y211.length c208_1] (fun k_ => ((P0_2_ k_ ∨ P0_3_ k_ ∨ P0_4_ k_ ∨ P0_5_ k_) ∨ w.heap.size ≤ k_) ∧ k_ ≠ gb188 ∧ k_ ≠ gb189) (fun k_ => ((fun k_ => ((P0_2_ k_ ∨ P0_3_ k_ ∨ P0_4_ k_ ∨ P0_5_ k_) ∨ w.heap.size ≤ k_) ∧ k_ ≠ gb188 ∧ k_ ≠ gb189)) k_ ∧ some k_ ≠ (u3 : Value).ownBlock) rfl rfl ?aP (fun _ hk => hk) ?aF ?aO ?aB ?aS ?aL ?_
               (case aP => exact (k35_mkF _ _ (⟨(rd_T35 l0_5 x4_1).f0, y211⟩ : S35) (Kd.V_reads' (Kd.V_mono (ok' := (fun k_ => ((fun k_ => ((P0_2_ k_ ∨ P0_3_ k_ ∨ P0_4_ k_ ∨ P0_5_ k_) ∨ w.heap.size ≤ k_) ∧ k_ ≠ gb188 ∧ k_ ≠ gb189)) k_ ∧ some k_ ≠ (u3 : Value).ownBlock)) (HO215.out) (fun k_ hk => ⟨⟨hk.1, ⟨hk.2.2.1, hk.2.2.2⟩⟩, hk.2.1⟩))).2.1 (Kd.V_F (Kd.V_mono (ok' := (fun k_ => ((fun k_ => ((P0_2_ k_ ∨ P0_3_ k_ ∨ P0_4_ k_ ∨ P0_5_ k_) ∨ w.heap.size ≤ k_) ∧ k_ ≠ gb188 ∧ k_ ≠ gb189)) k_ ∧ some k_ ≠ (u3 : Value).ownBlock)) (HO215.out) (fun k_ hk => ⟨⟨hk.1, ⟨hk.2.2.1, hk.2.2.2⟩⟩, hk.2.1⟩)))))
               (case aB => exact (by repeat (first | (with_reducible first | exact HB.out | apply below_alloc | apply pw_below_drewN | apply below_drew1 | refine below_set ?_ GE188.out | refine below_set ?_ GE189.out) | exact HB.out)))
               (case aF => exact (fun k_ hk => ⟨(.inr (Nat.le_trans (below_size (by repeat (first | (with_reducible first | exact HB.out | apply below_alloc | apply pw_below_drewN | apply below_drew1 | refine below_set ?_ GE188.out | refine below_set ?_ GE189.out) | exact HB.out))) hk)), Kd.freshB (g := gb188) (o := .cells #[.bool a0_0, .bool a0_1, .slice A0_2 y190.length c0_2, .slice A0_3 y195.length c0_3, .slice A0_4 y200.length c0_4, .slice (some ad208) l0_5.length c0_5, .bool a0_6, .bool a0_7] 25 (0, 0)) (by exact BK188.out) k_ hk, Kd.freshB (g := gb189) (o := .cells #[.bool false, .bool false, .slice none 0 0, .slice none 0 0, .slice none 0 0, .slice none 0 0, .bool false, .bool false] 25 (0, 0)) (by exact BK189.out) k_ hk⟩))
               (case aO => exact (by exact HO_3.out))
               (case aS => exact (below_size (by repeat (first | (with_reducible first | exact HB.out | apply below_alloc | apply pw_below_drewN | apply below_drew1 | refine below_set ?_ GE188.out | refine below_set ?_ GE189.out) | exact HB.out))))
               (case aL => have := LMc30.out; omega)
               intro v217 w35 ho hb hg hat
               rw [← Ny216.out] at ho
               have n0_ := Aside0.mk (Kd.V_afterv (ok := (fun k_ => ((P0_2_ k_ ∨ P0_3_ k_ ∨ P0_4_ k_ ∨ P0_5_ k_) ∨ w.heap.size ≤ k_) ∧ k_ ≠ gb188 ∧ k_ ≠ gb189)) (by exact Kd.V_mono HO_189002.out (fun _ hk => ⟨⟨hk.1, ⟨hk.2.2.1, hk.2.2.2⟩⟩, hk.2.1⟩)) hg hat)
               have n1_ := Aside0.mk (Kd.V_afterv (ok := (fun k_ => ((P0_2_ k_ ∨ P0_3_ k_ ∨ P0_4_ k_ ∨ P0_5_ k_) ∨ w.heap.size ≤ k_) ∧ k_ ≠ gb188 ∧ k_ ≠ gb189)) (by exact Kd.V_mono HO_189003.out (fun _ hk => ⟨⟨hk.1, ⟨hk.2.2.1, hk.2.2.2⟩⟩, hk.2.1⟩)) hg hat)
               have n2_ := Aside0.mk (Kd.V_afterv (ok := (fun k_ => ((P0_2_ k_ ∨ P0_3_ k_ ∨ P0_4_ k_ ∨ P0_5_ k_) ∨ w.heap.size ≤ k_) ∧ k_ ≠ gb188 ∧ k_ ≠ gb189)) (by exact Kd.V_mono HO_189004.out (fun _ hk => ⟨⟨hk.1, ⟨hk.2.2.1, hk.2.2.2⟩⟩, hk.2.1⟩)) hg hat)
               have n3_ := Aside0.mk (Kd.V_afterv (ok := (fun k_ => ((P0_2_ k_ ∨ P0_3_ k_ ∨ P0_4_ k_ ∨ P0_5_ k_) ∨ w.heap.size ≤ k_) ∧ k_ ≠ gb188 ∧ k_ ≠ gb189)) (by exact Kd.V_mono HO_189005.out (fun _ hk => ⟨⟨hk.1, ⟨hk.2.2.1, hk.2.2.2⟩⟩, hk.2.1⟩)) hg hat)
               have n4_ := Aside0.mk (blk_grown (g := gb188) (o := .cells #[.bool a0_0, .bool a0_1, .slice A0_2 y190.length c0_2, .slice A0_3 y195.length c0_3, .slice A0_4 y200.length c0_4, .slice (some ad208) l0_5.length c0_5, .bool a0_6, .bool a0_7] 25 (0, 0)) (by exact BK188.out) hg (Kd.N_ne HO_3.out BK188.out (by decide)))
               have n5_ := Aside0.mk (blk_grown (g := gb189) (o := .cells #[.bool false, .bool false, .slice none 0 0, .slice none 0 0, .slice none 0 0, .slice none 0 0, .bool false, .bool false] 25 (0, 0)) (by exact BK189.out) hg (Kd.N_ne HO_3.out BK189.out (by decide)))
               have n6_ := Aside0.mk (Kd.V_afterv (ok := (fun k_ => ((P0_2_ k_ ∨ P0_3_ k_ ∨ P0_4_ k_ ∨ P0_5_ k_) ∨ w.heap.size ≤ k_) ∧ k_ ≠ gb188 ∧ k_ ≠ gb189)) (by exact Kd.V_mono HL208_1.out (fun _ hk => ⟨⟨hk.1, ⟨hk.2.2.1, hk.2.2.2⟩⟩, hk.2.1⟩)) hg hat)
               have n7_ := Aside0.mk (Kd.V_afterv (ok := (fun k_ => ((P0_2_ k_ ∨ P0_3_ k_ ∨ P0_4_ k_ ∨ P0_5_ k_) ∨ w.heap.size ≤ k_) ∧ k_ ≠ gb188 ∧ k_ ≠ gb189)) (by exact Kd.V_mono HL209_1.out (fun _ hk => ⟨⟨hk.1, ⟨hk.2.2.1, hk.2.2.2⟩⟩, hk.2.1⟩)) hg hat)
               have n8_ := Aside0.mk (Kd.V_afterv (ok := (fun k_ => ((P0_2_ k_ ∨ P0_3_ k_ ∨ P0_4_ k_ ∨ P0_5_ k_) ∨ w.heap.size ≤ k_) ∧ k_ ≠ gb188 ∧ k_ ≠ gb189)) (by exact Kd.V_mono HL210_1.out (fun _ hk => ⟨⟨hk.1, ⟨hk.2.2.1, hk.2.2.2⟩⟩, hk.2.1⟩)) hg hat)
               have n9_ := Aside0.mk (Kd.V_afterv (ok := (fun k_ => ((P0_2_ k_ ∨ P0_3_ k_ ∨ P0_4_ k_ ∨ P0_5_ k_) ∨ w.heap.size ≤ k_) ∧ k_ ≠ gb188 ∧ k_ ≠ gb189)) (by exact Kd.V_mono HO215.out (fun _ hk => ⟨⟨hk.1, ⟨hk.2.2.1, hk.2.2.2⟩⟩, hk.2.1⟩)) hg hat)
               have n10_ := Aside0.mk (hb)
               have n11_ := Aside0.mk (ho)
               clear HO_189002
               clear HO_189003
               clear HO_189004
               clear HO_189005
               clear BK188
               clear BK189
               clear HL208_1
               clear HL209_1
               clear HL210_1
               clear HO215
               clear HB
               clear HO_3
               have HO_189002 := n0_
               have HO_189003 := n1_
               have HO_189004 := n2_
               have HO_189005 := n3_
               have BK188 := n4_
               have BK189 := n5_
               have HL208_1 := n6_
               have HL209_1 := n7_
               have HL210_1 := n8_
               have HO215 := n9_
               have HB := n10_
               have HO218 := n11_
               clear n0_ n1_ n2_ n3_ n4_ n5_ n6_ n7_ n8_ n9_ n10_ n11_
               clear ho hb hg hat
               refine hK.out _ _ ?_
               clear hK K
               refine norm_ (a' := ?_) ?_ ?_
               rotate_left
               ·show Act.put _ (some 65) _ = _
                simp only [Act.put, List.setIfInBounds_toArray, List.set_cons_zero, List.set_cons_succ, i64_w, i32_w]
                rfl
               refine pure_ (i := 25) (N := some 3) (v := ?_) (a' := ?_) (tf 26 0) rfl rfl (any_of HT_.out (by kernel_rfl)) (fun _ _ _ h => h) (Or.inl ⟨by rfl, ?_⟩) ?_ ?_
               rotate_left
               ·intro w'
                go_simp
                with_reducible rfl
               rotate_left
               ·simp only [Act.put, List.setIfInBounds_toArray, List.set_cons_zero, List.set_cons_succ, i64_w, i32_w]
                rfl
               refine done_ (done_of HT_.out (by kernel_rfl)) ?_
               try go_wp2
               go_roundg k1
               case measure => have := HK1.out; omega
               case rel => exact ⟨(y216), (wrap64 (x4_1 + 1)), (by first | rfl | (simp; done) | (simp [*]; done)), H', ⟨by have := HK1.out; omega⟩, ⟨by exact HO218.out⟩, ⟨by exact Kd.V_mono HO_189002.out (fun _ hk => ⟨hk.1.1, ⟨hk.2, ⟨hk.1.2.1, hk.1.2.2⟩⟩⟩)⟩, ⟨by exact Kd.V_mono HO_189003.out (fun _ hk => ⟨hk.1.1, ⟨hk.2, ⟨hk.1.2.1, hk.1.2.2⟩⟩⟩)⟩, ⟨by exact Kd.V_mono HO_189004.out (fun _ hk => ⟨hk.1.1, ⟨hk.2, ⟨hk.1.2.1, hk.1.2.2⟩⟩⟩)⟩, ⟨by exact Kd.V_mono HO_189005.out (fun _ hk => ⟨hk.1.1, ⟨hk.2, ⟨hk.1.2.1, hk.1.2.2⟩⟩⟩)⟩, ⟨by exact BK188.out⟩, ⟨by exact BK189.out⟩, ⟨by repeat (first | (with_reducible first | exact HB.out | apply below_alloc | apply pw_below_drewN | apply below_drew1 | refine below_set ?_ GE188.out | refine below_set ?_ GE189.out) | exact HB.out)⟩⟩
              ·rw [if_neg c30] at H
               exact absurd H (by simp)
             ·rw [if_neg c29] at H
              exact absurd H (by simp)
            ·rw [if_neg c28] at H
             exact absurd H (by simp)
           ·rw [if_neg c26] at H
            exact absurd H (by simp)
          ·rw [if_neg c25] at H
           have c25b0 : decide (x4_1 < 12) = false := decide_eq_false c25
           clear c25
           simp only [Option.some.injEq, Prod.mk.injEq] at H
           obtain ⟨rfl, rfl, rfl, rfl, rfl, rfl, rfl, rfl⟩ := H
           have hnb36 := NB188_189.out
           have hnc36 := NB189_188.out
           have hcz37_0 : wr.cell? ⟨gb188, 0, none⟩ = some (.bool a0_0) := (blk_cell BK188.out 0).trans rfl
           have hcz37_1 : wr.cell? ⟨gb188, 1, none⟩ = some (.bool a0_1) := (blk_cell BK188.out 1).trans rfl
           have hcz37_2 : wr.cell? ⟨gb188, 2, none⟩ = some (.slice A0_2 y190.length c0_2) := (blk_cell BK188.out 2).trans rfl
           have hcz37_3 : wr.cell? ⟨gb188, 3, none⟩ = some (.slice A0_3 y195.length c0_3) := (blk_cell BK188.out 3).trans rfl
           have hcz37_4 : wr.cell? ⟨gb188, 4, none⟩ = some (.slice A0_4 y200.length c0_4) := (blk_cell BK188.out 4).trans rfl
           have hcz37_5 : wr.cell? ⟨gb188, 5, none⟩ = some (.slice A0_5 l0_5.length c0_5) := (blk_cell BK188.out 5).trans rfl
           have hcz37_6 : wr.cell? ⟨gb188, 6, none⟩ = some (.bool a0_6) := (blk_cell BK188.out 6).trans rfl
           have hcz37_7 : wr.cell? ⟨gb188, 7, none⟩ = some (.bool a0_7) := (blk_cell BK188.out 7).trans rfl
           have hfz37_0 := blk_frozen BK188.out 0
           have hfz37_1 := blk_frozen BK188.out 1
           have hfz37_2 := blk_frozen BK188.out 2
           have hfz37_3 := blk_frozen BK188.out 3
           have hfz37_4 := blk_frozen BK188.out 4
           have hfz37_5 := blk_frozen BK188.out 5
           have hfz37_6 := blk_frozen BK188.out 6
           have hfz37_7 := blk_frozen BK188.out 7
           obtain ⟨Ao38, co38, eo38⟩ := Kd.N_slice HO_3.out
           subst eo38
           have hcz39_0 : wr.cell? ⟨gb189, 0, none⟩ = some (.bool false) := (blk_cell BK189.out 0).trans rfl
           have hcz39_1 : wr.cell? ⟨gb189, 1, none⟩ = some (.bool false) := (blk_cell BK189.out 1).trans rfl
           have hcz39_2 : wr.cell? ⟨gb189, 2, none⟩ = some (.slice none 0 0) := (blk_cell BK189.out 2).trans rfl
           have hcz39_3 : wr.cell? ⟨gb189, 3, none⟩ = some (.slice none 0 0) := (blk_cell BK189.out 3).trans rfl
           have hcz39_4 : wr.cell? ⟨gb189, 4, none⟩ = some (.slice none 0 0) := (blk_cell BK189.out 4).trans rfl
           have hcz39_5 : wr.cell? ⟨gb189, 5, none⟩ = some (.slice none 0 0) := (blk_cell BK189.out 5).trans rfl
           have hcz39_6 : wr.cell? ⟨gb189, 6, none⟩ = some (.bool false) := (blk_cell BK189.out 6).trans rfl
           have hcz39_7 : wr.cell? ⟨gb189, 7, none⟩ = some (.bool false) := (blk_cell BK189.out 7).trans rfl
           have hfz39_0 := blk_frozen BK189.out 0
           have hfz39_1 := blk_frozen BK189.out 1
           have hfz39_2 := blk_frozen BK189.out 2
           have hfz39_3 := blk_frozen BK189.out 3
           have hfz39_4 := blk_frozen BK189.out 4
           have hfz39_5 := blk_frozen BK189.out 5
           have hfz39_6 := blk_frozen BK189.out 6
           have hfz39_7 := blk_frozen BK189.out 7
           go_wp2
           refine bodyPost_ret (results_cell_row rfl _ _ gb189 25 #[.bool a0_0, .bool a0_1, .slice A0_2 y190.length c0_2, .slice A0_3 y195.length c0_3, .slice A0_4 y200.length c0_4, .slice Ao38 x3_1.length co38, .bool a0_6, .bool a0_7] (0, 0) _ rfl (by refine blk_put (cs := #[.bool a0_0, .bool a0_1, .slice A0_2 y190.length c0_2, .slice A0_3 y195.length c0_3, .slice A0_4 y200.length c0_4, .slice Ao38 x3_1.length co38, .bool a0_6, .bool false]) ?_ 7 _ rfl; refine blk_put (cs := #[.bool a0_0, .bool a0_1, .slice A0_2 y190.length c0_2, .slice A0_3 y195.length c0_3, .slice A0_4 y200.length c0_4, .slice Ao38 x3_1.length co38, .bool false, .bool false]) ?_ 6 _ rfl; refine blk_put (cs := #[.bool a0_0, .bool a0_1, .slice A0_2 y190.length c0_2, .slice A0_3 y195.length c0_3, .slice A0_4 y200.length c0_4, .slice none 0 0, .bool false, .bool false]) ?_ 5 _ rfl; refine blk_put (cs := #[.bool a0_0, .bool a0_1, .slice A0_2 y190.length c0_2, .slice A0_3 y195.length c0_3, .slice none 0 0, .slice none 0 0, .bool false, .bool false]) ?_ 4 _ rfl; refine blk_put (cs := #[.bool a0_0, .bool a0_1, .slice A0_2 y190.length c0_2, .slice none 0 0, .slice none 0 0, .slice none 0 0, .bool false, .bool false]) ?_ 3 _ rfl; refine blk_put (cs := #[.bool a0_0, .bool a0_1, .slice none 0 0, .slice none 0 0, .slice none 0 0, .slice none 0 0, .bool false, .bool false]) ?_ 2 _ rfl; refine blk_put (cs := #[.bool a0_0, .bool false, .slice none 0 0, .slice none 0 0, .slice none 0 0, .slice none 0 0, .bool false, .bool false]) ?_ 1 _ rfl; refine blk_put (cs := #[.bool false, .bool false, .slice none 0 0, .slice none 0 0, .slice none 0 0, .slice none 0 0, .bool false, .bool false]) ?_ 0 _ rfl; refine blk_far ?_ NB189_188.out _; exact BK189.out) Try.underlying25 rfl (by kernel_rfl)) rfl ?_
           exact ⟨_, _, _, _, by first | rfl | (simp [errW_none, errW_some] <;> rfl) | (simp only [← hji2, ← hji5, ← hji8]; first | rfl | (simp [errW_none, errW_some] <;> rfl)) | (simp [*, errW_none, errW_some] <;> rfl), by exact Kd.V_mono (Kd.V_far (p := ⟨gb189, 7, none⟩) (Kd.V_far (p := ⟨gb189, 6, none⟩) (Kd.V_far (p := ⟨gb189, 5, none⟩) (Kd.V_far (p := ⟨gb189, 4, none⟩) (Kd.V_far (p := ⟨gb189, 3, none⟩) (Kd.V_far (p := ⟨gb189, 2, none⟩) (Kd.V_far (p := ⟨gb189, 1, none⟩) (Kd.V_far (p := ⟨gb189, 0, none⟩) (Kd.V_far (p := ⟨gb188, 5, none⟩) (Kd.V_mono (Kd.V_mono HO_189002.out (fun k_ hk => (⟨hk, hk.2.2.1⟩ : _ ∧ k_ ≠ gb188))) (fun k_ hk => (⟨hk, hk.1.2.2.2⟩ : _ ∧ k_ ≠ gb189))) (fun _ hk => hk.1.2) (.slice Ao38 x3_1.length co38)) (fun _ hk => hk.2) (.bool a0_0)) (fun _ hk => hk.2) (.bool a0_1)) (fun _ hk => hk.2) (.slice A0_2 y190.length c0_2)) (fun _ hk => hk.2) (.slice A0_3 y195.length c0_3)) (fun _ hk => hk.2) (.slice A0_4 y200.length c0_4)) (fun _ hk => hk.2) (.slice Ao38 x3_1.length co38)) (fun _ hk => hk.2) (.bool a0_6)) (fun _ hk => hk.2) (.bool a0_7)) (fun _ hk => ⟨hk.1.1.1, hk.1.1.2.1⟩), by exact Kd.V_mono (Kd.V_far (p := ⟨gb189, 7, none⟩) (Kd.V_far (p := ⟨gb189, 6, none⟩) (Kd.V_far (p := ⟨gb189, 5, none⟩) (Kd.V_far (p := ⟨gb189, 4, none⟩) (Kd.V_far (p := ⟨gb189, 3, none⟩) (Kd.V_far (p := ⟨gb189, 2, none⟩) (Kd.V_far (p := ⟨gb189, 1, none⟩) (Kd.V_far (p := ⟨gb189, 0, none⟩) (Kd.V_far (p := ⟨gb188, 5, none⟩) (Kd.V_mono (Kd.V_mono HO_189003.out (fun k_ hk => (⟨hk, hk.2.2.1⟩ : _ ∧ k_ ≠ gb188))) (fun k_ hk => (⟨hk, hk.1.2.2.2⟩ : _ ∧ k_ ≠ gb189))) (fun _ hk => hk.1.2) (.slice Ao38 x3_1.length co38)) (fun _ hk => hk.2) (.bool a0_0)) (fun _ hk => hk.2) (.bool a0_1)) (fun _ hk => hk.2) (.slice A0_2 y190.length c0_2)) (fun _ hk => hk.2) (.slice A0_3 y195.length c0_3)) (fun _ hk => hk.2) (.slice A0_4 y200.length c0_4)) (fun _ hk => hk.2) (.slice Ao38 x3_1.length co38)) (fun _ hk => hk.2) (.bool a0_6)) (fun _ hk => hk.2) (.bool a0_7)) (fun _ hk => ⟨hk.1.1.1, hk.1.1.2.1⟩), by exact Kd.V_mono (Kd.V_far (p := ⟨gb189, 7, none⟩) (Kd.V_far (p := ⟨gb189, 6, none⟩) (Kd.V_far (p := ⟨gb189, 5, none⟩) (Kd.V_far (p := ⟨gb189, 4, none⟩) (Kd.V_far (p := ⟨gb189, 3, none⟩) (Kd.V_far (p := ⟨gb189, 2, none⟩) (Kd.V_far (p := ⟨gb189, 1, none⟩) (Kd.V_far (p := ⟨gb189, 0, none⟩) (Kd.V_far (p := ⟨gb188, 5, none⟩) (Kd.V_mono (Kd.V_mono HO_189004.out (fun k_ hk => (⟨hk, hk.2.2.1⟩ : _ ∧ k_ ≠ gb188))) (fun k_ hk => (⟨hk, hk.1.2.2.2⟩ : _ ∧ k_ ≠ gb189))) (fun _ hk => hk.1.2) (.slice Ao38 x3_1.length co38)) (fun _ hk => hk.2) (.bool a0_0)) (fun _ hk => hk.2) (.bool a0_1)) (fun _ hk => hk.2) (.slice A0_2 y190.length c0_2)) (fun _ hk => hk.2) (.slice A0_3 y195.length c0_3)) (fun _ hk => hk.2) (.slice A0_4 y200.length c0_4)) (fun _ hk => hk.2) (.slice Ao38 x3_1.length co38)) (fun _ hk => hk.2) (.bool a0_6)) (fun _ hk => hk.2) (.bool a0_7)) (fun _ hk => ⟨hk.1.1.1, hk.1.1.2.1⟩), by exact Kd.N_mono (Kd.N_far (p := ⟨gb189, 7, none⟩) (Kd.N_far (p := ⟨gb189, 6, none⟩) (Kd.N_far (p := ⟨gb189, 5, none⟩) (Kd.N_far (p := ⟨gb189, 4, none⟩) (Kd.N_far (p := ⟨gb189, 3, none⟩) (Kd.N_far (p := ⟨gb189, 2, none⟩) (Kd.N_far (p := ⟨gb189, 1, none⟩) (Kd.N_far (p := ⟨gb189, 0, none⟩) (Kd.N_far (p := ⟨gb188, 5, none⟩) (Kd.N_mono (Kd.N_mono HO_3.out (fun k_ hk => (⟨hk, hk.2.1⟩ : _ ∧ k_ ≠ gb188))) (fun k_ hk => (⟨hk, hk.1.2.2⟩ : _ ∧ k_ ≠ gb189))) (fun _ hk => hk.1.2) (.slice Ao38 x3_1.length co38)) (fun _ hk => hk.2) (.bool a0_0)) (fun _ hk => hk.2) (.bool a0_1)) (fun _ hk => hk.2) (.slice A0_2 y190.length c0_2)) (fun _ hk => hk.2) (.slice A0_3 y195.length c0_3)) (fun _ hk => hk.2) (.slice A0_4 y200.length c0_4)) (fun _ hk => hk.2) (.slice Ao38 x3_1.length co38)) (fun _ hk => hk.2) (.bool a0_6)) (fun _ hk => hk.2) (.bool a0_7)) (fun _ hk => hk.1.1.1), by repeat (first | (with_reducible first | exact HB.out | apply below_alloc | apply pw_below_drewN | apply below_drew1 | refine below_set ?_ GE188.out | refine below_set ?_ GE189.out) | exact HB.out)⟩
         ·rw [if_neg c24] at H
          have c24b0 : decide (x4_1 < (l0_5.length : Int)) = false := decide_eq_false c24
          clear c24
          simp only [Option.some.injEq, Prod.mk.injEq] at H
          obtain ⟨rfl, rfl, rfl, rfl, rfl, rfl, rfl, rfl⟩ := H
          have hnb40 := NB188_189.out
          have hnc40 := NB189_188.out
          have hcz41_0 : wr.cell? ⟨gb188, 0, none⟩ = some (.bool a0_0) := (blk_cell BK188.out 0).trans rfl
          have hcz41_1 : wr.cell? ⟨gb188, 1, none⟩ = some (.bool a0_1) := (blk_cell BK188.out 1).trans rfl
          have hcz41_2 : wr.cell? ⟨gb188, 2, none⟩ = some (.slice A0_2 y190.length c0_2) := (blk_cell BK188.out 2).trans rfl
          have hcz41_3 : wr.cell? ⟨gb188, 3, none⟩ = some (.slice A0_3 y195.length c0_3) := (blk_cell BK188.out 3).trans rfl
          have hcz41_4 : wr.cell? ⟨gb188, 4, none⟩ = some (.slice A0_4 y200.length c0_4) := (blk_cell BK188.out 4).trans rfl
          have hcz41_5 : wr.cell? ⟨gb188, 5, none⟩ = some (.slice A0_5 l0_5.length c0_5) := (blk_cell BK188.out 5).trans rfl
          have hcz41_6 : wr.cell? ⟨gb188, 6, none⟩ = some (.bool a0_6) := (blk_cell BK188.out 6).trans rfl
          have hcz41_7 : wr.cell? ⟨gb188, 7, none⟩ = some (.bool a0_7) := (blk_cell BK188.out 7).trans rfl
          have hfz41_0 := blk_frozen BK188.out 0
          have hfz41_1 := blk_frozen BK188.out 1
          have hfz41_2 := blk_frozen BK188.out 2
          have hfz41_3 := blk_frozen BK188.out 3
          have hfz41_4 := blk_frozen BK188.out 4
          have hfz41_5 := blk_frozen BK188.out 5
          have hfz41_6 := blk_frozen BK188.out 6
          have hfz41_7 := blk_frozen BK188.out 7
          obtain ⟨Ao42, co42, eo42⟩ := Kd.N_slice HO_3.out
          subst eo42
          have hcz43_0 : wr.cell? ⟨gb189, 0, none⟩ = some (.bool false) := (blk_cell BK189.out 0).trans rfl
          have hcz43_1 : wr.cell? ⟨gb189, 1, none⟩ = some (.bool false) := (blk_cell BK189.out 1).trans rfl
          have hcz43_2 : wr.cell? ⟨gb189, 2, none⟩ = some (.slice none 0 0) := (blk_cell BK189.out 2).trans rfl
          have hcz43_3 : wr.cell? ⟨gb189, 3, none⟩ = some (.slice none 0 0) := (blk_cell BK189.out 3).trans rfl
          have hcz43_4 : wr.cell? ⟨gb189, 4, none⟩ = some (.slice none 0 0) := (blk_cell BK189.out 4).trans rfl
          have hcz43_5 : wr.cell? ⟨gb189, 5, none⟩ = some (.slice none 0 0) := (blk_cell BK189.out 5).trans rfl
          have hcz43_6 : wr.cell? ⟨gb189, 6, none⟩ = some (.bool false) := (blk_cell BK189.out 6).trans rfl
          have hcz43_7 : wr.cell? ⟨gb189, 7, none⟩ = some (.bool false) := (blk_cell BK189.out 7).trans rfl
          have hfz43_0 := blk_frozen BK189.out 0
          have hfz43_1 := blk_frozen BK189.out 1
          have hfz43_2 := blk_frozen BK189.out 2
          have hfz43_3 := blk_frozen BK189.out 3
          have hfz43_4 := blk_frozen BK189.out 4
          have hfz43_5 := blk_frozen BK189.out 5
          have hfz43_6 := blk_frozen BK189.out 6
          have hfz43_7 := blk_frozen BK189.out 7
          go_wp2
          refine bodyPost_ret (results_cell_row rfl _ _ gb189 25 #[.bool a0_0, .bool a0_1, .slice A0_2 y190.length c0_2, .slice A0_3 y195.length c0_3, .slice A0_4 y200.length c0_4, .slice Ao42 x3_1.length co42, .bool a0_6, .bool a0_7] (0, 0) _ rfl (by refine blk_put (cs := #[.bool a0_0, .bool a0_1, .slice A0_2 y190.length c0_2, .slice A0_3 y195.length c0_3, .slice A0_4 y200.length c0_4, .slice Ao42 x3_1.length co42, .bool a0_6, .bool false]) ?_ 7 _ rfl; refine blk_put (cs := #[.bool a0_0, .bool a0_1, .slice A0_2 y190.length c0_2, .slice A0_3 y195.length c0_3, .slice A0_4 y200.length c0_4, .slice Ao42 x3_1.length co42, .bool false, .bool false]) ?_ 6 _ rfl; refine blk_put (cs := #[.bool a0_0, .bool a0_1, .slice A0_2 y190.length c0_2, .slice A0_3 y195.length c0_3, .slice A0_4 y200.length c0_4, .slice none 0 0, .bool false, .bool false]) ?_ 5 _ rfl; refine blk_put (cs := #[.bool a0_0, .bool a0_1, .slice A0_2 y190.length c0_2, .slice A0_3 y195.length c0_3, .slice none 0 0, .slice none 0 0, .bool false, .bool false]) ?_ 4 _ rfl; refine blk_put (cs := #[.bool a0_0, .bool a0_1, .slice A0_2 y190.length c0_2, .slice none 0 0, .slice none 0 0, .slice none 0 0, .bool false, .bool false]) ?_ 3 _ rfl; refine blk_put (cs := #[.bool a0_0, .bool a0_1, .slice none 0 0, .slice none 0 0, .slice none 0 0, .slice none 0 0, .bool false, .bool false]) ?_ 2 _ rfl; refine blk_put (cs := #[.bool a0_0, .bool false, .slice none 0 0, .slice none 0 0, .slice none 0 0, .slice none 0 0, .bool false, .bool false]) ?_ 1 _ rfl; refine blk_put (cs := #[.bool false, .bool false, .slice none 0 0, .slice none 0 0, .slice none 0 0, .slice none 0 0, .bool false, .bool false]) ?_ 0 _ rfl; refine blk_far ?_ NB189_188.out _; exact BK189.out) Try.underlying25 rfl (by kernel_rfl)) rfl ?_
          exact ⟨_, _, _, _, by first | rfl | (simp [errW_none, errW_some] <;> rfl) | (simp only [← hji2, ← hji5, ← hji8]; first | rfl | (simp [errW_none, errW_some] <;> rfl)) | (simp [*, errW_none, errW_some] <;> rfl), by exact Kd.V_mono (Kd.V_far (p := ⟨gb189, 7, none⟩) (Kd.V_far (p := ⟨gb189, 6, none⟩) (Kd.V_far (p := ⟨gb189, 5, none⟩) (Kd.V_far (p := ⟨gb189, 4, none⟩) (Kd.V_far (p := ⟨gb189, 3, none⟩) (Kd.V_far (p := ⟨gb189, 2, none⟩) (Kd.V_far (p := ⟨gb189, 1, none⟩) (Kd.V_far (p := ⟨gb189, 0, none⟩) (Kd.V_far (p := ⟨gb188, 5, none⟩) (Kd.V_mono (Kd.V_mono HO_189002.out (fun k_ hk => (⟨hk, hk.2.2.1⟩ : _ ∧ k_ ≠ gb188))) (fun k_ hk => (⟨hk, hk.1.2.2.2⟩ : _ ∧ k_ ≠ gb189))) (fun _ hk => hk.1.2) (.slice Ao42 x3_1.length co42)) (fun _ hk => hk.2) (.bool a0_0)) (fun _ hk => hk.2) (.bool a0_1)) (fun _ hk => hk.2) (.slice A0_2 y190.length c0_2)) (fun _ hk => hk.2) (.slice A0_3 y195.length c0_3)) (fun _ hk => hk.2) (.slice A0_4 y200.length c0_4)) (fun _ hk => hk.2) (.slice Ao42 x3_1.length co42)) (fun _ hk => hk.2) (.bool a0_6)) (fun _ hk => hk.2) (.bool a0_7)) (fun _ hk => ⟨hk.1.1.1, hk.1.1.2.1⟩), by exact Kd.V_mono (Kd.V_far (p := ⟨gb189, 7, none⟩) (Kd.V_far (p := ⟨gb189, 6, none⟩) (Kd.V_far (p := ⟨gb189, 5, none⟩) (Kd.V_far (p := ⟨gb189, 4, none⟩) (Kd.V_far (p := ⟨gb189, 3, none⟩) (Kd.V_far (p := ⟨gb189, 2, none⟩) (Kd.V_far (p := ⟨gb189, 1, none⟩) (Kd.V_far (p := ⟨gb189, 0, none⟩) (Kd.V_far (p := ⟨gb188, 5, none⟩) (Kd.V_mono (Kd.V_mono HO_189003.out (fun k_ hk => (⟨hk, hk.2.2.1⟩ : _ ∧ k_ ≠ gb188))) (fun k_ hk => (⟨hk, hk.1.2.2.2⟩ : _ ∧ k_ ≠ gb189))) (fun _ hk => hk.1.2) (.slice Ao42 x3_1.length co42)) (fun _ hk => hk.2) (.bool a0_0)) (fun _ hk => hk.2) (.bool a0_1)) (fun _ hk => hk.2) (.slice A0_2 y190.length c0_2)) (fun _ hk => hk.2) (.slice A0_3 y195.length c0_3)) (fun _ hk => hk.2) (.slice A0_4 y200.length c0_4)) (fun _ hk => hk.2) (.slice Ao42 x3_1.length co42)) (fun _ hk => hk.2) (.bool a0_6)) (fun _ hk => hk.2) (.bool a0_7)) (fun _ hk => ⟨hk.1.1.1, hk.1.1.2.1⟩), by exact Kd.V_mono (Kd.V_far (p := ⟨gb189, 7, none⟩) (Kd.V_far (p := ⟨gb189, 6, none⟩) (Kd.V_far (p := ⟨gb189, 5, none⟩) (Kd.V_far (p := ⟨gb189, 4, none⟩) (Kd.V_far (p := ⟨gb189, 3, none⟩) (Kd.V_far (p := ⟨gb189, 2, none⟩) (Kd.V_far (p := ⟨gb189, 1, none⟩) (Kd.V_far (p := ⟨gb189, 0, none⟩) (Kd.V_far (p := ⟨gb188, 5, none⟩) (Kd.V_mono (Kd.V_mono HO_189004.out (fun k_ hk => (⟨hk, hk.2.2.1⟩ : _ ∧ k_ ≠ gb188))) (fun k_ hk => (⟨hk, hk.1.2.2.2⟩ : _ ∧ k_ ≠ gb189))) (fun _ hk => hk.1.2) (.slice Ao42 x3_1.length co42)) (fun _ hk => hk.2) (.bool a0_0)) (fun _ hk => hk.2) (.bool a0_1)) (fun _ hk => hk.2) (.slice A0_2 y190.length c0_2)) (fun _ hk => hk.2) (.slice A0_3 y195.length c0_3)) (fun _ hk => hk.2) (.slice A0_4 y200.length c0_4)) (fun _ hk => hk.2) (.slice Ao42 x3_1.length co42)) (fun _ hk => hk.2) (.bool a0_6)) (fun _ hk => hk.2) (.bool a0_7)) (fun _ hk => ⟨hk.1.1.1, hk.1.1.2.1⟩), by exact Kd.N_mono (Kd.N_far (p := ⟨gb189, 7, none⟩) (Kd.N_far (p := ⟨gb189, 6, none⟩) (Kd.N_far (p := ⟨gb189, 5, none⟩) (Kd.N_far (p := ⟨gb189, 4, none⟩) (Kd.N_far (p := ⟨gb189, 3, none⟩) (Kd.N_far (p := ⟨gb189, 2, none⟩) (Kd.N_far (p := ⟨gb189, 1, none⟩) (Kd.N_far (p := ⟨gb189, 0, none⟩) (Kd.N_far (p := ⟨gb188, 5, none⟩) (Kd.N_mono (Kd.N_mono HO_3.out (fun k_ hk => (⟨hk, hk.2.1⟩ : _ ∧ k_ ≠ gb188))) (fun k_ hk => (⟨hk, hk.1.2.2⟩ : _ ∧ k_ ≠ gb189))) (fun _ hk => hk.1.2) (.slice Ao42 x3_1.length co42)) (fun _ hk => hk.2) (.bool a0_0)) (fun _ hk => hk.2) (.bool a0_1)) (fun _ hk => hk.2) (.slice A0_2 y190.length c0_2)) (fun _ hk => hk.2) (.slice A0_3 y195.length c0_3)) (fun _ hk => hk.2) (.slice A0_4 y200.length c0_4)) (fun _ hk => hk.2) (.slice Ao42 x3_1.length co42)) (fun _ hk => hk.2) (.bool a0_6)) (fun _ hk => hk.2) (.bool a0_7)) (fun _ hk => hk.1.1.1), by repeat (first | (with_reducible first | exact HB.out | apply below_alloc | apply pw_below_drewN | apply below_drew1 | refine below_set ?_ GE188.out | refine below_set ?_ GE189.out) | exact HB.out)⟩
      ·rw [if_neg c10] at H
       exact absurd H (by simp)
     ·rw [if_neg c9] at H
      exact absurd H (by simp)
    ·rw [if_neg c7] at H
     exact absurd H (by simp)
   ·rw [if_neg c6] at H
    exact absurd H (by simp)
  ·rw [if_neg c4] at H
   exact absurd H (by simp)
 ·rw [if_neg c3] at H
  exact absurd H (by simp)

end Go.Proofs.Ytjofofpplpmgjaa.Pr
/- Bound, and what the laws of chapter 12 ask, in plain words. -/
namespace Go.Proofs.Ytjofofpplpmgjaa.Pure
set_option linter.unusedVariables false
set_option linter.unusedSimpArgs false
open Go.RowKit Go.Lib Go.Shelf Go.Proofs.YtjofofpplpmgjaaW.PrintWords Go.Proofs.YtjofofpplpmgjaaW.PrintLast Go.Proofs.YtjofofpplpmgjaaW.PrintMore Go.Proofs.Ytjofofpplpmgjaa.Pr

def cutP (p : S35) : S35 := ⟨p.f0, p.f1.take 70⟩
def bound (c : Cf) : Cf := { c with els := c.els.take 70, rep := c.rep.take 70, ats := c.ats.take 70, per := (c.per.take 12).map cutP }
theorem mn70 (n : Nat) : 0 ≤ mn (n : Int) 70 ∧ mn (n : Int) 70 ≤ (n : Int) ∧ (mn (n : Int) 70).toNat = min n 70 := by
  unfold mn; split <;> omega
theorem take_min {α : Type} (l : List α) (n : Nat) : l.take (min l.length n) = l.take n := by
  rcases Nat.le_total l.length n with h | h
  · rw [Nat.min_eq_left h, List.take_length, List.take_of_length_le h]
  · rw [Nat.min_eq_right h]
theorem take70 {α : Type} (l : List α) : l.take (mn (l.length : Int) 70).toNat = l.take 70 := by rw [(mn70 _).2.2, take_min]
theorem bound_l0 (c : Cf) (a2 a3 a4 : List ByteArray) : ∀ (d i : Nat) (acc : List S35), i + d = min c.per.length 12 → acc.length = i → ∀ k, d < k →
    boltinglaw12_Bound.l0 k acc (i : Int) c.al c.aal a2 a3 a4 c.per c.com c.dt = some (c.al, c.aal, a2, a3, a4, acc ++ ((c.per.drop i).take d).map cutP, c.com, c.dt)
  | 0, i, acc, h, ha, k, hk => by
    obtain ⟨k, rfl⟩ : ∃ m, k = m + 1 := ⟨k - 1, by omega⟩
    unfold boltinglaw12_Bound.l0
    simp only [List.take_zero, List.map_nil, List.append_nil]
    by_cases h1 : (i : Int) < (c.per.length : Int)
    · rw [if_pos h1, if_neg (by omega)]
    · rw [if_neg h1]
  | d + 1, i, acc, h, ha, k, hk => by
    obtain ⟨k, rfl⟩ : ∃ m, k = m + 1 := ⟨k - 1, by omega⟩
    have hi : i < c.per.length := by omega
    have hx : c.per[i]? = some c.per[i] := List.getElem?_eq_getElem hi
    have hr := rd35_at hx
    unfold boltinglaw12_Bound.l0
    rw [hr, if_pos (by omega), if_pos (by omega), if_pos (by omega), if_pos (mn70 _).1, if_pos (mn70 _).2.1, if_pos (by omega), take70, wrap_succ (by omega) (by omega)]
    rw [show ((i : Int) + 1) = ((i + 1 : Nat) : Int) from by omega, bound_l0 c a2 a3 a4 d (i + 1) _ (by omega) (by simp [ha]) k (by omega)]
    have hd : c.per.drop i = c.per[i] :: c.per.drop (i + 1) := List.drop_eq_getElem_cons hi
    rw [hd, List.take_succ_cons, List.map_cons, List.append_assoc]
    rfl
theorem bound_f (c : Cf) {k : Nat} (hk : 13 < k) : boltinglaw12_Bound.f k c.al c.aal c.els c.rep c.ats c.per c.com c.dt = some (c.al, c.aal, (bound c).els, (bound c).rep, (bound c).ats, (bound c).per, c.com, c.dt) := by
  unfold boltinglaw12_Bound.f
  rw [if_pos (mn70 _).1, if_pos (mn70 _).2.1, if_pos (mn70 _).1, if_pos (mn70 _).2.1, if_pos (mn70 _).1, if_pos (mn70 _).2.1, take70, take70, take70]
  have := bound_l0 c (c.els.take 70) (c.rep.take 70) (c.ats.take 70) (min c.per.length 12) 0 [] (by omega) rfl k (by omega)
  rw [List.drop_zero, take_min, List.nil_append] at this
  exact this
theorem bound_short (c : Cf) : (bound c).els.length ≤ 70 ∧ (bound c).rep.length ≤ 70 ∧ (bound c).ats.length ≤ 70 ∧ (bound c).per.length ≤ 12 ∧ ∀ p ∈ (bound c).per, p.f1.length ≤ 70 := by
  refine ⟨List.length_take_le _ _, List.length_take_le _ _, List.length_take_le _ _, ?_, ?_⟩
  · show ((c.per.take 12).map cutP).length ≤ 12
    rw [List.length_map]; exact List.length_take_le _ _
  · intro p hp
    obtain ⟨q, _, rfl⟩ := List.mem_map.1 (show p ∈ (c.per.take 12).map cutP from hp)
    exact List.length_take_le _ _
theorem bound_fit (c : Cf) : Fit (bound c) := by
  obtain ⟨h1, h2, h3, h4, h5⟩ := bound_short c
  exact ⟨by omega, by omega, by omega, by omega, fun p hp => by have := h5 p hp; omega⟩
theorem elem_k {c : Cf} (hf : Fit c) (n : ByteArray) {k : Nat} (hk : 2000 ≤ k) : config_Element.f k c.al c.aal c.els c.rep c.ats c.per c.com c.dt n = some (elemI c n) := by
  unfold config_Element.f elemI
  rw [contains_f _ _ (by have := hf.rep; omega) (by have := hf.rep; omega), Option.bind_some, contains_f _ _ (by have := hf.els; omega) (by have := hf.els; omega), Option.bind_some]
  split <;> (try split) <;> rfl
theorem attr_k {c : Cf} (hf : Fit c) (e a : ByteArray) : config_Attr.f c.al c.aal c.els c.rep c.ats c.per c.com c.dt e a = some (attrB c e a) := if_pos (of_fit hf)
theorem strip_k {c : Cf} (hf : Fit c) : config_Strip.f c.al c.aal c.els c.rep c.ats c.per c.com c.dt = some (c.al, c.aal, (stripC c).els, (stripC c).rep, c.ats, c.per, c.com, c.dt) := if_pos (of_fit hf)
theorem check_k {c : Cf} (hf : Fit c) (ht : Text c) : config_Check.f c.al c.aal c.els c.rep c.ats c.per c.com c.dt = some (checkI c) := if_pos ⟨of_fit hf, of_text ht⟩
end Go.Proofs.Ytjofofpplpmgjaa.Pure
/- A configuration that comes in: laid open. -/
namespace Go.Proofs.Ytjofofpplpmgjaa
set_option linter.unusedVariables false
set_option linter.unusedSimpArgs false
open Go.ChangeShapes Go.WideShapes Go.RowKit Go.Proofs.Ytjofofpplpmgjaa.Pr Go.Proofs.Ytjofofpplpmgjaa.Pure Go.Proofs.YtjofofpplpmgjaaW.PrintWords
abbrev Short (s : ByteArray) : Prop := s.size ≤ 140737488351232
/-- The texts of a configuration are no longer than a call can hold. -/
structure Sized (c : Cf) : Prop where
  els : ∀ x ∈ c.els, Short x
  rep : ∀ x ∈ c.rep, Short x
  ats : ∀ x ∈ c.ats, Short x
  per : ∀ p ∈ c.per, Short p.f0 ∧ ∀ x ∈ p.f1, Short x
abbrev kStr : Kd (List ByteArray) := Kd.slice 9 Kd.string
abbrev kC : Kd (Bool × Bool × List ByteArray × List ByteArray × List ByteArray × List S35 × Bool × Bool) :=
  Kd.pair Kd.bool (Kd.pair Kd.bool (Kd.pair kStr (Kd.pair kStr (Kd.pair kStr (Kd.pair (Kd.slice 35 k35) (Kd.pair Kd.bool Kd.bool))))))
theorem opens_strs : OpensS Try.prog 22 kStr (fun l => ∀ x ∈ l, Short x) := opensS_slice (by kernel_rfl) Try.underlying22 (opensS_string (by kernel_rfl) Try.underlying9)
theorem opens_bool_ : OpensS Try.prog 4 Kd.bool (fun _ => True) := opensS_bool (by kernel_rfl) Try.underlying4
theorem opens_str_ : OpensS Try.prog 9 Kd.string Short := opensS_string (by kernel_rfl) Try.underlying9
theorem opens_per : OpensS Try.prog 35 k35 (fun x => Short x.f0 ∧ ∀ y ∈ x.f1, Short y) := by
  have h := opensS_struct (P := Try.prog) (d := Kd.pair Kd.string kStr) (S := fun x => Short x.1 ∧ ∀ y ∈ x.2, Short y) (fun x : S35 => (x.f0, x.f1)) Try.underlying35 rfl (by kernel_rfl)
    (opensTail_cons (S := Short) (T := fun l => ∀ y ∈ l, Short y) rfl opens_str_ (opensTail_last (d := kStr) rfl opens_strs)) (fun a => ⟨⟨a.1, a.2⟩, rfl⟩)
  exact h
theorem opens_pers : OpensS Try.prog 23 (Kd.slice 35 k35) (fun l => ∀ p ∈ l, Short p.f0 ∧ ∀ y ∈ p.f1, Short y) := opensS_slice (by kernel_rfl) Try.underlying23 opens_per
theorem opens_conf : OpensS Try.prog 25 (Kd.iso kC (fun x => x)) (fun x => True ∧ True ∧ (∀ y ∈ x.2.2.1, Short y) ∧ (∀ y ∈ x.2.2.2.1, Short y) ∧ (∀ y ∈ x.2.2.2.2.1, Short y) ∧ (∀ p ∈ x.2.2.2.2.2.1, Short p.f0 ∧ ∀ y ∈ p.f1, Short y) ∧ True ∧ True) := by
  have h7 : OpensTail Try.prog [⟨"DataAttrs", 4, 7, false, "", "", 105⟩] 7 Kd.bool (fun _ => True) := opensTail_last rfl opens_bool_
  have h6 : OpensTail Try.prog [⟨"Comments", 4, 6, false, "", "", 104⟩, ⟨"DataAttrs", 4, 7, false, "", "", 105⟩] 6 (Kd.pair Kd.bool Kd.bool) (fun (x : Bool × Bool) => (True) ∧ (True)) := opensTail_cons (S := fun (x : Bool) => True) (T := fun (x : Bool) => (True)) rfl opens_bool_ h7
  have h5 : OpensTail Try.prog [⟨"Per", 23, 5, false, "", "", 80⟩, ⟨"Comments", 4, 6, false, "", "", 104⟩, ⟨"DataAttrs", 4, 7, false, "", "", 105⟩] 5 (Kd.pair (Kd.slice 35 k35) (Kd.pair Kd.bool Kd.bool)) (fun (x : List S35 × Bool × Bool) => (∀ p ∈ x.1, Short p.f0 ∧ ∀ y ∈ p.f1, Short y) ∧ (True) ∧ (True)) := opensTail_cons (S := fun (x : List S35) => ∀ p ∈ x, Short p.f0 ∧ ∀ y ∈ p.f1, Short y) (T := fun (x : Bool × Bool) => (True) ∧ (True)) rfl opens_pers h6
  have h4 : OpensTail Try.prog [⟨"Attrs", 22, 4, false, "", "", 56⟩, ⟨"Per", 23, 5, false, "", "", 80⟩, ⟨"Comments", 4, 6, false, "", "", 104⟩, ⟨"DataAttrs", 4, 7, false, "", "", 105⟩] 4 (Kd.pair kStr (Kd.pair (Kd.slice 35 k35) (Kd.pair Kd.bool Kd.bool))) (fun (x : List ByteArray × List S35 × Bool × Bool) => (∀ y ∈ x.1, Short y) ∧ (∀ p ∈ x.2.1, Short p.f0 ∧ ∀ y ∈ p.f1, Short y) ∧ (True) ∧ (True)) := opensTail_cons (S := fun (x : List ByteArray) => ∀ y ∈ x, Short y) (T := fun (x : List S35 × Bool × Bool) => (∀ p ∈ x.1, Short p.f0 ∧ ∀ y ∈ p.f1, Short y) ∧ (True) ∧ (True)) rfl opens_strs h5
  have h3 : OpensTail Try.prog [⟨"Replace", 22, 3, false, "", "", 32⟩, ⟨"Attrs", 22, 4, false, "", "", 56⟩, ⟨"Per", 23, 5, false, "", "", 80⟩, ⟨"Comments", 4, 6, false, "", "", 104⟩, ⟨"DataAttrs", 4, 7, false, "", "", 105⟩] 3 (Kd.pair kStr (Kd.pair kStr (Kd.pair (Kd.slice 35 k35) (Kd.pair Kd.bool Kd.bool)))) (fun (x : List ByteArray × List ByteArray × List S35 × Bool × Bool) => (∀ y ∈ x.1, Short y) ∧ (∀ y ∈ x.2.1, Short y) ∧ (∀ p ∈ x.2.2.1, Short p.f0 ∧ ∀ y ∈ p.f1, Short y) ∧ (True) ∧ (True)) := opensTail_cons (S := fun (x : List ByteArray) => ∀ y ∈ x, Short y) (T := fun (x : List ByteArray × List S35 × Bool × Bool) => (∀ y ∈ x.1, Short y) ∧ (∀ p ∈ x.2.1, Short p.f0 ∧ ∀ y ∈ p.f1, Short y) ∧ (True) ∧ (True)) rfl opens_strs h4
  have h2 : OpensTail Try.prog [⟨"Elements", 22, 2, false, "", "", 8⟩, ⟨"Replace", 22, 3, false, "", "", 32⟩, ⟨"Attrs", 22, 4, false, "", "", 56⟩, ⟨"Per", 23, 5, false, "", "", 80⟩, ⟨"Comments", 4, 6, false, "", "", 104⟩, ⟨"DataAttrs", 4, 7, false, "", "", 105⟩] 2 (Kd.pair kStr (Kd.pair kStr (Kd.pair kStr (Kd.pair (Kd.slice 35 k35) (Kd.pair Kd.bool Kd.bool))))) (fun (x : List ByteArray × List ByteArray × List ByteArray × List S35 × Bool × Bool) => (∀ y ∈ x.1, Short y) ∧ (∀ y ∈ x.2.1, Short y) ∧ (∀ y ∈ x.2.2.1, Short y) ∧ (∀ p ∈ x.2.2.2.1, Short p.f0 ∧ ∀ y ∈ p.f1, Short y) ∧ (True) ∧ (True)) := opensTail_cons (S := fun (x : List ByteArray) => ∀ y ∈ x, Short y) (T := fun (x : List ByteArray × List ByteArray × List S35 × Bool × Bool) => (∀ y ∈ x.1, Short y) ∧ (∀ y ∈ x.2.1, Short y) ∧ (∀ p ∈ x.2.2.1, Short p.f0 ∧ ∀ y ∈ p.f1, Short y) ∧ (True) ∧ (True)) rfl opens_strs h3
  have h1 : OpensTail Try.prog [⟨"AttrsAllow", 4, 1, false, "", "", 1⟩, ⟨"Elements", 22, 2, false, "", "", 8⟩, ⟨"Replace", 22, 3, false, "", "", 32⟩, ⟨"Attrs", 22, 4, false, "", "", 56⟩, ⟨"Per", 23, 5, false, "", "", 80⟩, ⟨"Comments", 4, 6, false, "", "", 104⟩, ⟨"DataAttrs", 4, 7, false, "", "", 105⟩] 1 (Kd.pair Kd.bool (Kd.pair kStr (Kd.pair kStr (Kd.pair kStr (Kd.pair (Kd.slice 35 k35) (Kd.pair Kd.bool Kd.bool)))))) (fun (x : Bool × List ByteArray × List ByteArray × List ByteArray × List S35 × Bool × Bool) => (True) ∧ (∀ y ∈ x.2.1, Short y) ∧ (∀ y ∈ x.2.2.1, Short y) ∧ (∀ y ∈ x.2.2.2.1, Short y) ∧ (∀ p ∈ x.2.2.2.2.1, Short p.f0 ∧ ∀ y ∈ p.f1, Short y) ∧ (True) ∧ (True)) := opensTail_cons (S := fun (x : Bool) => True) (T := fun (x : List ByteArray × List ByteArray × List ByteArray × List S35 × Bool × Bool) => (∀ y ∈ x.1, Short y) ∧ (∀ y ∈ x.2.1, Short y) ∧ (∀ y ∈ x.2.2.1, Short y) ∧ (∀ p ∈ x.2.2.2.1, Short p.f0 ∧ ∀ y ∈ p.f1, Short y) ∧ (True) ∧ (True)) rfl opens_bool_ h2
  have h0 : OpensTail Try.prog [⟨"Allow", 4, 0, false, "", "", 0⟩, ⟨"AttrsAllow", 4, 1, false, "", "", 1⟩, ⟨"Elements", 22, 2, false, "", "", 8⟩, ⟨"Replace", 22, 3, false, "", "", 32⟩, ⟨"Attrs", 22, 4, false, "", "", 56⟩, ⟨"Per", 23, 5, false, "", "", 80⟩, ⟨"Comments", 4, 6, false, "", "", 104⟩, ⟨"DataAttrs", 4, 7, false, "", "", 105⟩] 0 (Kd.pair Kd.bool (Kd.pair Kd.bool (Kd.pair kStr (Kd.pair kStr (Kd.pair kStr (Kd.pair (Kd.slice 35 k35) (Kd.pair Kd.bool Kd.bool))))))) (fun (x : Bool × Bool × List ByteArray × List ByteArray × List ByteArray × List S35 × Bool × Bool) => (True) ∧ (True) ∧ (∀ y ∈ x.2.2.1, Short y) ∧ (∀ y ∈ x.2.2.2.1, Short y) ∧ (∀ y ∈ x.2.2.2.2.1, Short y) ∧ (∀ p ∈ x.2.2.2.2.2.1, Short p.f0 ∧ ∀ y ∈ p.f1, Short y) ∧ (True) ∧ (True)) := opensTail_cons (S := fun (x : Bool) => True) (T := fun (x : Bool × List ByteArray × List ByteArray × List ByteArray × List S35 × Bool × Bool) => (True) ∧ (∀ y ∈ x.2.1, Short y) ∧ (∀ y ∈ x.2.2.1, Short y) ∧ (∀ y ∈ x.2.2.2.1, Short y) ∧ (∀ p ∈ x.2.2.2.2.1, Short p.f0 ∧ ∀ y ∈ p.f1, Short y) ∧ (True) ∧ (True)) rfl opens_bool_ h1
  exact opensS_struct (d := kC) (fun x => x) Try.underlying25 rfl (by kernel_rfl) h0 (fun a => ⟨a, rfl⟩)
theorem open_conf {H : Type} {enc : TypeId × Value → H} {w : World} {base : Nat} {spare : Nat → Bool} {held : Bool} {v : Value} {d : DataW H} {p : List MemPlace} {r : Reach} {b0 : Nat}
    (hv : Value.okWide Try.prog w r b0 25 v) (h : DataW.Trod enc Try.prog w base spare held 25 v d p) (hw : ∀ n ∈ d.weights Try.prog 25, n ≤ reachBytes) :
    ∃ (c : Cf) (A2 : Option Addr) (c2 : Nat) (A3 : Option Addr) (c3 : Nat) (A4 : Option Addr) (c4 : Nat) (A5 : Option Addr) (c5 : Nat), v = .agg #[.bool c.al, .bool c.aal, .slice A2 c.els.length c2, .slice A3 c.rep.length c3, .slice A4 c.ats.length c4, .slice A5 c.per.length c5, .bool c.com, .bool c.dt] ∧
      (c.els.length ≤ c2 ∧ Kd.string.C w A2 c.els.length c.els) ∧ (c.rep.length ≤ c3 ∧ Kd.string.C w A3 c.rep.length c.rep) ∧ (c.ats.length ≤ c4 ∧ Kd.string.C w A4 c.ats.length c.ats) ∧ (c.per.length ≤ c5 ∧ k35.C w A5 c.per.length c.per) ∧ Sized c := by
  obtain ⟨cs, rfl, hsz⟩ := okWide_struct Try.underlying25 hv
  obtain ⟨fuel, hf⟩ := h
  obtain ⟨⟨a0, a1, l2, l3, l4, l5, a6, a7⟩, hK, hS⟩ := opens_conf.2 enc w base spare held fuel _ _ hf hw
  obtain ⟨_, _, hcs, rfl, ⟨_, _, rfl, rfl, ⟨_, _, rfl, ⟨A2, c2, rfl, k2, g2⟩, ⟨_, _, rfl, ⟨A3, c3, rfl, k3, g3⟩, ⟨_, _, rfl, ⟨A4, c4, rfl, k4, g4⟩, ⟨_, _, rfl, ⟨A5, c5, rfl, k5, g5⟩, ⟨_, _, rfl, rfl, rfl⟩⟩⟩⟩⟩⟩⟩ := hK
  obtain ⟨_, _, s2, s3, s4, s5, _, _⟩ := hS
  refine ⟨⟨a0, a1, l2, l3, l4, l5, a6, a7⟩, A2, c2, A3, c3, A4, c4, A5, c5, ?_, ⟨k2, g2⟩, ⟨k3, g3⟩, ⟨k4, g4⟩, ⟨k5, g5⟩, ⟨s2, s3, s4, s5⟩⟩
  obtain ⟨l⟩ := cs
  simp only [Value.cells] at hcs
  rw [show l = _ from hcs]
  rfl
end Go.Proofs.Ytjofofpplpmgjaa
-- SLIMMED
namespace Go.Proofs.Ytjofofpplpmgjaa.Pr
open Go.RowKit Go.Proofs.YtjofofpplpmgjaaW.PrintWords Go.Proofs.YtjofofpplpmgjaaW.PrintLast Go.Proofs.YtjofofpplpmgjaaW.PrintMore
attribute [local go_sem] max2_int min2_int max_two min_two max_three min_three max_four min_four   -- for this text's walks alone
set_option linter.unusedVariables false
set_option linter.unusedSimpArgs false

/-! ### boltinglaw12_ConfigStrip: function 4 -/
def boltinglaw12_ConfigStrip.j0 : Nat → ByteArray → Int → Bool → Bool → Bool → List ByteArray → List ByteArray → List ByteArray → List (S35) → Bool → Bool → Option (Bool)
 | 0, _, _, _, _, _, _, _, _, _, _, _ => none
 | k + 1, x1, x8, x42, x556000, x556001, x556002, x556003, x556004, x556005, x556006, x556007 => if x42 = true then (some false) else ((boltingref10_Unsafe.f).bind fun t599 => ((boltingref02_Has.f k t599 x1).bind fun t602 => (if t602 = true then (if x8 = 1 then ((boltinglaw12_fixed.f).bind fun t603 => (some t603)) else (some false)) else ((config_Element.f k x556000 x556001 x556002 x556003 x556004 x556005 x556006 x556007 x1).bind fun t604 => (if x8 = t604 then ((boltinglaw12_fixed.f).bind fun t605 => (some t605)) else (some false))))))
def boltinglaw12_ConfigStrip.f (k : Nat) (a0_0 : Bool) (a0_1 : Bool) (l0_2 : List ByteArray) (l0_3 : List ByteArray) (l0_4 : List ByteArray) (l0_5 : List (S35)) (a0_6 : Bool) (a0_7 : Bool) (a1 : ByteArray) (a2 : ByteArray) : Option (Bool) := (boltinglaw12_Bound.f k a0_0 a0_1 l0_2 l0_3 l0_4 l0_5 a0_6 a0_7).bind fun bt556 => (if 0 ≤ (mn (bt556.2.2.1.length : Int) 50) then (if (mn (bt556.2.2.1.length : Int) 50) ≤ (bt556.2.2.1.length : Int) then ((some (bt556.2.2.1.take ((mn (bt556.2.2.1.length : Int) 50) : Int).toNat : List ByteArray)).bind fun y572 => ((config_Strip.f bt556.1 bt556.2.1 y572 bt556.2.2.2.1 bt556.2.2.2.2.1 bt556.2.2.2.2.2.1 bt556.2.2.2.2.2.2.1 bt556.2.2.2.2.2.2.2).bind fun bt577 => ((config_Element.f k bt577.1 bt577.2.1 bt577.2.2.1 bt577.2.2.2.1 bt577.2.2.2.2.1 bt577.2.2.2.2.2.1 bt577.2.2.2.2.2.2.1 bt577.2.2.2.2.2.2.2 a1).bind fun t594 => ((config_Attr.f bt556.1 bt556.2.1 y572 bt556.2.2.2.1 bt556.2.2.2.2.1 bt556.2.2.2.2.2.1 bt556.2.2.2.2.2.2.1 bt556.2.2.2.2.2.2.2 a1 a2).bind fun t595 => ((config_Attr.f bt577.1 bt577.2.1 bt577.2.2.1 bt577.2.2.2.1 bt577.2.2.2.2.1 bt577.2.2.2.2.2.1 bt577.2.2.2.2.2.2.1 bt577.2.2.2.2.2.2.2 a1 a2).bind fun t596 => (if (t595 != t596) = true then (boltinglaw12_ConfigStrip.j0 k a1 t594 true bt556.1 bt556.2.1 y572 bt556.2.2.2.1 bt556.2.2.2.2.1 bt556.2.2.2.2.2.1 bt556.2.2.2.2.2.2.1 bt556.2.2.2.2.2.2.2) else ((config_Check.f bt556.1 bt556.2.1 y572 bt556.2.2.2.1 bt556.2.2.2.2.1 bt556.2.2.2.2.2.1 bt556.2.2.2.2.2.2.1 bt556.2.2.2.2.2.2.2).bind fun t597 => (if t597 = 0 then ((config_Check.f bt577.1 bt577.2.1 bt577.2.2.1 bt577.2.2.2.1 bt577.2.2.2.2.1 bt577.2.2.2.2.2.1 bt577.2.2.2.2.2.2.1 bt577.2.2.2.2.2.2.2).bind fun t598 => (boltinglaw12_ConfigStrip.j0 k a1 t594 (t598 != 0) bt556.1 bt556.2.1 y572 bt556.2.2.2.1 bt556.2.2.2.2.1 bt556.2.2.2.2.2.1 bt556.2.2.2.2.2.2.1 bt556.2.2.2.2.2.2.2)) else (boltinglaw12_ConfigStrip.j0 k a1 t594 false bt556.1 bt556.2.1 y572 bt556.2.2.2.1 bt556.2.2.2.2.1 bt556.2.2.2.2.2.1 bt556.2.2.2.2.2.2.1 bt556.2.2.2.2.2.2.2))))))))) else (none)) else (none))
def boltinglaw12_ConfigStrip.T5 : Bool × List (List Nat × List Nat) := (true, [([], []), ([], []), ([], []), ([0, 1, 2], [0, 1, 2]), ([], []), ([], []), ([], []), ([4, 5, 6, 3], [4, 5, 6]), ([3, 7], [3, 7]), ([8, 7], [8]), ([9], [9]), ([10, 9, 9], [9, 10]), ([11, 9], [9, 11]), ([12, 11, 9], [9, 12]), ([13], [13]), ([14, 13, 13], [13, 14]), ([15, 13], [13, 15]), ([13, 16, 9], [9, 13, 16]), ([9, 17], [9, 17])])
def boltinglaw12_ConfigStrip.B5 : List Nat := [0, 0, 0, 7, 0, 0, 0, 127, 255, 511, 1023, 2047, 4095, 8191, 16383, 32767, 65535, 131071, 262143]
theorem boltinglaw12_ConfigStrip.tab5 : rtab .any (opsOf Try.f4 5) = boltinglaw12_ConfigStrip.T5 := by kernel_rfl
theorem boltinglaw12_ConfigStrip.bits5 : waitsOk boltinglaw12_ConfigStrip.T5.2 boltinglaw12_ConfigStrip.B5 = true := by kernel_rfl
set_option maxHeartbeats 8000000 in
set_option maxRecDepth 100000 in
theorem boltinglaw12_ConfigStrip.calls (k : Nat) (a0_0 : Bool) (a0_1 : Bool) (A0_2 : Option Addr) (c0_2 : Nat) (l0_2 : List ByteArray) (A0_3 : Option Addr) (c0_3 : Nat) (l0_3 : List ByteArray) (A0_4 : Option Addr) (c0_4 : Nat) (l0_4 : List ByteArray) (A0_5 : Option Addr) (c0_5 : Nat) (l0_5 : List (S35)) (a0_6 : Bool) (a0_7 : Bool) (a1 : ByteArray) (a2 : ByteArray) (r : Bool) (w : World) (hr0_2 : Kd.C Kd.string w A0_2 l0_2.length l0_2) (hc0_2 : l0_2.length ≤ c0_2) (hr0_3 : Kd.C Kd.string w A0_3 l0_3.length l0_3) (hc0_3 : l0_3.length ≤ c0_3) (hr0_4 : Kd.C Kd.string w A0_4 l0_4.length l0_4) (hc0_4 : l0_4.length ≤ c0_4) (hr0_5 : Kd.C k35 w A0_5 l0_5.length l0_5) (hc0_5 : l0_5.length ≤ c0_5) (h : boltinglaw12_ConfigStrip.f k a0_0 a0_1 l0_2 l0_3 l0_4 l0_5 a0_6 a0_7 a1 a2 = some r) (hT : Aside0 (r = true) := by exact Aside0.mk rfl) :
  Calls Try.prog 4 #[.agg #[.bool a0_0, .bool a0_1, .slice A0_2 l0_2.length c0_2, .slice A0_3 l0_3.length c0_3, .slice A0_4 l0_4.length c0_4, .slice A0_5 l0_5.length c0_5, .bool a0_6, .bool a0_7], .string a1, .string a2] w fun e w' => e = .returned (.bool r) ∧ Below w.heap.size w w' := by
 have hu25 := Try.underlying25
 have HR0_2 := Aside0.mk hr0_2
 have HC0_2 := Aside0.mk hc0_2
 clear hr0_2 hc0_2
 have HR0_3 := Aside0.mk hr0_3
 have HC0_3 := Aside0.mk hc0_3
 clear hr0_3 hc0_3
 have HR0_4 := Aside0.mk hr0_4
 have HC0_4 := Aside0.mk hc0_4
 clear hr0_4 hc0_4
 have HR0_5 := Aside0.mk hr0_5
 have HC0_5 := Aside0.mk hc0_5
 clear hr0_5 hc0_5
 have HB := Aside0.mk (Below.refl w.heap.size w)
 have H : ((boltinglaw12_Bound.f k a0_0 a0_1 l0_2 l0_3 l0_4 l0_5 a0_6 a0_7).bind fun bt556 => (if 0 ≤ (mn (bt556.2.2.1.length : Int) 50) then (if (mn (bt556.2.2.1.length : Int) 50) ≤ (bt556.2.2.1.length : Int) then ((some (bt556.2.2.1.take ((mn (bt556.2.2.1.length : Int) 50) : Int).toNat : List ByteArray)).bind fun y572 => ((config_Strip.f bt556.1 bt556.2.1 y572 bt556.2.2.2.1 bt556.2.2.2.2.1 bt556.2.2.2.2.2.1 bt556.2.2.2.2.2.2.1 bt556.2.2.2.2.2.2.2).bind fun bt577 => ((config_Element.f k bt577.1 bt577.2.1 bt577.2.2.1 bt577.2.2.2.1 bt577.2.2.2.2.1 bt577.2.2.2.2.2.1 bt577.2.2.2.2.2.2.1 bt577.2.2.2.2.2.2.2 a1).bind fun t594 => ((config_Attr.f bt556.1 bt556.2.1 y572 bt556.2.2.2.1 bt556.2.2.2.2.1 bt556.2.2.2.2.2.1 bt556.2.2.2.2.2.2.1 bt556.2.2.2.2.2.2.2 a1 a2).bind fun t595 => ((config_Attr.f bt577.1 bt577.2.1 bt577.2.2.1 bt577.2.2.2.1 bt577.2.2.2.2.1 bt577.2.2.2.2.2.1 bt577.2.2.2.2.2.2.1 bt577.2.2.2.2.2.2.2 a1 a2).bind fun t596 => (if (t595 != t596) = true then (boltinglaw12_ConfigStrip.j0 k a1 t594 true bt556.1 bt556.2.1 y572 bt556.2.2.2.1 bt556.2.2.2.2.1 bt556.2.2.2.2.2.1 bt556.2.2.2.2.2.2.1 bt556.2.2.2.2.2.2.2) else ((config_Check.f bt556.1 bt556.2.1 y572 bt556.2.2.2.1 bt556.2.2.2.2.1 bt556.2.2.2.2.2.1 bt556.2.2.2.2.2.2.1 bt556.2.2.2.2.2.2.2).bind fun t597 => (if t597 = 0 then ((config_Check.f bt577.1 bt577.2.1 bt577.2.2.1 bt577.2.2.2.1 bt577.2.2.2.2.1 bt577.2.2.2.2.2.1 bt577.2.2.2.2.2.2.1 bt577.2.2.2.2.2.2.2).bind fun t598 => (boltinglaw12_ConfigStrip.j0 k a1 t594 (t598 != 0) bt556.1 bt556.2.1 y572 bt556.2.2.2.1 bt556.2.2.2.2.1 bt556.2.2.2.2.2.1 bt556.2.2.2.2.2.2.1 bt556.2.2.2.2.2.2.2)) else (boltinglaw12_ConfigStrip.j0 k a1 t594 false bt556.1 bt556.2.1 y572 bt556.2.2.2.1 bt556.2.2.2.2.1 bt556.2.2.2.2.2.1 bt556.2.2.2.2.2.2.1 bt556.2.2.2.2.2.2.2))))))))) else (none)) else (none))) = some r := h
 clear h
 replace H := Option.bind_eq_some_iff.mp H
 obtain ⟨⟨t556, t557, t558, t561, t564, t567, t570, t571⟩, A40, H⟩ := H
 try dsimp only at H
 have A4 := Aside0.mk A40
 clear A40
 obtain ⟨ji5, hji5⟩ : ∃ j_ : Int, (mn (t558.length : Int) 50) = j_ := ⟨_, rfl⟩
 replace H : (if 0 ≤ (ji5) then (if (ji5) ≤ (t558.length : Int) then ((some (t558.take ((ji5) : Int).toNat : List ByteArray)).bind fun y572 => ((config_Strip.f t556 t557 y572 t561 t564 t567 t570 t571).bind fun bt577 => ((config_Element.f k bt577.1 bt577.2.1 bt577.2.2.1 bt577.2.2.2.1 bt577.2.2.2.2.1 bt577.2.2.2.2.2.1 bt577.2.2.2.2.2.2.1 bt577.2.2.2.2.2.2.2 a1).bind fun t594 => ((config_Attr.f t556 t557 y572 t561 t564 t567 t570 t571 a1 a2).bind fun t595 => ((config_Attr.f bt577.1 bt577.2.1 bt577.2.2.1 bt577.2.2.2.1 bt577.2.2.2.2.1 bt577.2.2.2.2.2.1 bt577.2.2.2.2.2.2.1 bt577.2.2.2.2.2.2.2 a1 a2).bind fun t596 => (if (t595 != t596) = true then (boltinglaw12_ConfigStrip.j0 k a1 t594 true t556 t557 y572 t561 t564 t567 t570 t571) else ((config_Check.f t556 t557 y572 t561 t564 t567 t570 t571).bind fun t597 => (if t597 = 0 then ((config_Check.f bt577.1 bt577.2.1 bt577.2.2.1 bt577.2.2.2.1 bt577.2.2.2.2.1 bt577.2.2.2.2.2.1 bt577.2.2.2.2.2.2.1 bt577.2.2.2.2.2.2.2).bind fun t598 => (boltinglaw12_ConfigStrip.j0 k a1 t594 (t598 != 0) t556 t557 y572 t561 t564 t567 t570 t571)) else (boltinglaw12_ConfigStrip.j0 k a1 t594 false t556 t557 y572 t561 t564 t567 t570 t571))))))))) else (none)) else (none)) = some r := by first | (rw [hji5] at H; exact H) | (simp only [hji5] at H ⊢; exact H)
 (try rw [hji5] at A4)
 (try (have hji5h : ji5 ≤ 50 := by (rw [← hji5]; unfold mn; (repeat' split) <;> omega)))
 (try (have hji5g : ji5 ≤ 64 := by omega))
 (try (have hji5l : 0 ≤ ji5 := by (rw [← hji5]; unfold mn; (repeat' split) <;> omega)))
 (try (have hji5m : 0 ≤ ji5 := by omega))
 have hji5_ : (if 50 < (t558.length : Int) then 50 else (t558.length : Int)) = ji5 := hji5
 by_cases c6 : 0 ≤ (ji5)
 ·rw [if_pos c6] at H
  have c6b0 := eq_true c6
  have c6b1 : decide (0 ≤ (ji5)) = true := decide_eq_true c6
  clear c6
  by_cases c7 : (ji5) ≤ (t558.length : Int)
  ·rw [if_pos c7] at H
   have c7b0 := eq_true c7
   have c7b1 : decide ((ji5) ≤ (t558.length : Int)) = true := decide_eq_true c7
   clear c7
   obtain ⟨y572, hy572⟩ : ∃ y_ : List ByteArray, y_ = (t558.take ((ji5) : Int).toNat) := ⟨_, rfl⟩
   replace H : ((config_Strip.f t556 t557 y572 t561 t564 t567 t570 t571).bind fun bt577 => ((config_Element.f k bt577.1 bt577.2.1 bt577.2.2.1 bt577.2.2.2.1 bt577.2.2.2.2.1 bt577.2.2.2.2.2.1 bt577.2.2.2.2.2.2.1 bt577.2.2.2.2.2.2.2 a1).bind fun t594 => ((config_Attr.f t556 t557 y572 t561 t564 t567 t570 t571 a1 a2).bind fun t595 => ((config_Attr.f bt577.1 bt577.2.1 bt577.2.2.1 bt577.2.2.2.1 bt577.2.2.2.2.1 bt577.2.2.2.2.2.1 bt577.2.2.2.2.2.2.1 bt577.2.2.2.2.2.2.2 a1 a2).bind fun t596 => (if (t595 != t596) = true then (boltinglaw12_ConfigStrip.j0 k a1 t594 true t556 t557 y572 t561 t564 t567 t570 t571) else ((config_Check.f t556 t557 y572 t561 t564 t567 t570 t571).bind fun t597 => (if t597 = 0 then ((config_Check.f bt577.1 bt577.2.1 bt577.2.2.1 bt577.2.2.2.1 bt577.2.2.2.2.1 bt577.2.2.2.2.2.1 bt577.2.2.2.2.2.2.1 bt577.2.2.2.2.2.2.2).bind fun t598 => (boltinglaw12_ConfigStrip.j0 k a1 t594 (t598 != 0) t556 t557 y572 t561 t564 t567 t570 t571)) else (boltinglaw12_ConfigStrip.j0 k a1 t594 false t556 t557 y572 t561 t564 t567 t570 t571)))))))) = some r := by first | (rw [hy572]; with_reducible exact H) | (have H2_ := (Option.bind_some _ _).symm.trans H; rw [hy572]; with_reducible exact H2_) | (have H2_ := (Option.bind_some _ _).symm.trans H; with_reducible exact H2_) | with_reducible exact H | (rw [hy572]; exact H) | exact H
   have Ny572 := Aside0.mk hy572
   clear hy572
   replace H := Option.bind_eq_some_iff.mp H
   obtain ⟨⟨t577, t578, t579, t582, t585, t588, t591, t592⟩, A80, H⟩ := H
   try dsimp only at H
   have A8 := Aside0.mk A80
   clear A80
   replace H := Option.bind_eq_some_iff.mp H
   obtain ⟨t594, A90, H⟩ := H
   have A9 := Aside0.mk A90
   clear A90
   have HC10 := Aside0.mk H
   clear H
   go_enter Try.func4, Try.ntmps4
   go_upto_region 5 with (first | ((with_reducible refine gate_dst (N := 3) rfl ?_); refine box_event ?hg (N := 3) ?hd (cs := #[.bool a0_0, .bool a0_1, .slice A0_2 l0_2.length c0_2, .slice A0_3 l0_3.length c0_3, .slice A0_4 l0_4.length c0_4, .slice A0_5 l0_5.length c0_5, .bool a0_6, .bool a0_7]) (t := 25) ?hr ?_; (case hd => rfl); (case hg => rfl); (case hr => first | (go_simp; done) | (go_simp; rfl)); intro gb555 hg w11 hbox hb; have n0_ := Aside0.mk (below_step (by repeat (first | (with_reducible first | exact HB.out | apply below_alloc | apply pw_below_drewN | apply below_drew1) | exact HB.out)) hb); have n1_ := Aside0.mk (hbox); have n2_ := Aside0.mk ((by rw [hg]; exact (below_size (by repeat (first | (with_reducible first | exact HB.out | apply below_alloc | apply pw_below_drewN | apply below_drew1) | exact HB.out))) : w.heap.size ≤ gb555)); have n3_ := Aside0.mk ((by rw [hg]; exact (below_size (by repeat (first | (with_reducible first | exact HB.out | apply below_alloc | apply pw_below_drewN | apply below_drew1) | exact HB.out))) : w.heap.size ≤ gb555)); clear HB; have HB := n0_; have BK555 := n1_; have GW555 := n2_; have GE555 := n3_; clear n0_ n1_ n2_ n3_; clear hb hbox hg; have hcz12_0 : w11.cell? ⟨gb555, 0, none⟩ = some (.bool a0_0) := (blk_cell BK555.out 0).trans rfl; have hcz12_1 : w11.cell? ⟨gb555, 1, none⟩ = some (.bool a0_1) := (blk_cell BK555.out 1).trans rfl; have hcz12_2 : w11.cell? ⟨gb555, 2, none⟩ = some (.slice A0_2 l0_2.length c0_2) := (blk_cell BK555.out 2).trans rfl; have hcz12_3 : w11.cell? ⟨gb555, 3, none⟩ = some (.slice A0_3 l0_3.length c0_3) := (blk_cell BK555.out 3).trans rfl; have hcz12_4 : w11.cell? ⟨gb555, 4, none⟩ = some (.slice A0_4 l0_4.length c0_4) := (blk_cell BK555.out 4).trans rfl; have hcz12_5 : w11.cell? ⟨gb555, 5, none⟩ = some (.slice A0_5 l0_5.length c0_5) := (blk_cell BK555.out 5).trans rfl; have hcz12_6 : w11.cell? ⟨gb555, 6, none⟩ = some (.bool a0_6) := (blk_cell BK555.out 6).trans rfl; have hcz12_7 : w11.cell? ⟨gb555, 7, none⟩ = some (.bool a0_7) := (blk_cell BK555.out 7).trans rfl; have hfz12_0 := blk_frozen BK555.out 0; have hfz12_1 := blk_frozen BK555.out 1; have hfz12_2 := blk_frozen BK555.out 2; have hfz12_3 := blk_frozen BK555.out 3; have hfz12_4 := blk_frozen BK555.out 4; have hfz12_5 := blk_frozen BK555.out 5; have hfz12_6 := blk_frozen BK555.out 6; have hfz12_7 := blk_frozen BK555.out 7) | ((with_reducible refine gate_callee (f := 11) rfl ?_); refine goesL_ (some 10) rfl rfl Try.func11 (by kernel_rfl) rfl #[.agg #[.bool a0_0, .bool a0_1, .slice A0_2 l0_2.length c0_2, .slice A0_3 l0_3.length c0_3, .slice A0_4 l0_4.length c0_4, .slice A0_5 l0_5.length c0_5, .bool a0_6, .bool a0_7]] rfl (by (try simp only [List.map_toArray, List.map_cons, List.map_nil]); first | done | rfl | (simp only [List.length_drop, List.length_take]; rfl)) ?_; (with_reducible refine (boltinglaw12_Bound.calls k a0_0 a0_1 (fun k_ => k_ < w.heap.size) _ _ l0_2 (fun k_ => k_ < w.heap.size) _ _ l0_3 (fun k_ => k_ < w.heap.size) _ _ l0_4 (fun k_ => k_ < w.heap.size) _ _ l0_5 a0_6 a0_7 t556 t557 t558 t561 t564 t567 t570 t571 _ ?side1 ?side2 ?side3 ?side4 A4.out).mono ?_); (case side1 => exact Kd.V_mk HC0_2.out (Kd.F_below (Kd.C_F Kd.heap_string HR0_2.out) (by repeat (first | (with_reducible first | exact HB.out | apply below_alloc | apply pw_below_drewN | apply below_drew1 | refine below_set ?_ GE555.out) | exact HB.out)))); (case side2 => exact Kd.V_mk HC0_3.out (Kd.F_below (Kd.C_F Kd.heap_string HR0_3.out) (by repeat (first | (with_reducible first | exact HB.out | apply below_alloc | apply pw_below_drewN | apply below_drew1 | refine below_set ?_ GE555.out) | exact HB.out)))); (case side3 => exact Kd.V_mk HC0_4.out (Kd.F_below (Kd.C_F Kd.heap_string HR0_4.out) (by repeat (first | (with_reducible first | exact HB.out | apply below_alloc | apply pw_below_drewN | apply below_drew1 | refine below_set ?_ GE555.out) | exact HB.out)))); (case side4 => exact Kd.V_mk HC0_5.out (Kd.F_below (Kd.C_F k35_heap HR0_5.out) (by repeat (first | (with_reducible first | exact HB.out | apply below_alloc | apply pw_below_drewN | apply below_drew1 | refine below_set ?_ GE555.out) | exact HB.out)))); rintro e w13 ⟨v559, v562, v565, v568, rfl, ho0, ho1, ho2, ho3, hb⟩; refine ⟨_, rfl, ?_⟩; have n0_ := Aside0.mk (Kd.V_lower (Kd.V_mono (ok' := fun k_ => some k_ ≠ (v568 : Value).ownBlock ∧ k_ ≠ gb555) ho0 (fun k_ hk_ => ⟨hk_.2, Or.elim hk_.1 (fun hs_ => Or.elim hs_ (fun hs_ => fun e_ => Nat.not_le.2 hs_ (by rw [e_]; exact GW555.out)) (fun hs_ => Or.elim hs_ (fun hs_ => fun e_ => Nat.not_le.2 hs_ (by rw [e_]; exact GW555.out)) (fun hs_ => Or.elim hs_ (fun hs_ => fun e_ => Nat.not_le.2 hs_ (by rw [e_]; exact GW555.out)) (fun hs_ => fun e_ => Nat.not_le.2 hs_ (by rw [e_]; exact GW555.out))))) (fun hn_ => (Kd.freshB (g := gb555) (o := .cells #[.bool a0_0, .bool a0_1, .slice A0_2 l0_2.length c0_2, .slice A0_3 l0_3.length c0_3, .slice A0_4 l0_4.length c0_4, .slice A0_5 l0_5.length c0_5, .bool a0_6, .bool a0_7] 25 (0, 0)) (by exact BK555.out) k_ hn_))⟩)) (below_size (by repeat (first | (with_reducible first | exact HB.out | apply below_alloc | apply pw_below_drewN | apply below_drew1 | refine below_set ?_ GE555.out) | exact HB.out)))); have n1_ := Aside0.mk (Kd.V_lower (Kd.V_mono (ok' := fun k_ => some k_ ≠ (v568 : Value).ownBlock ∧ k_ ≠ gb555) ho1 (fun k_ hk_ => ⟨hk_.2, Or.elim hk_.1 (fun hs_ => Or.elim hs_ (fun hs_ => fun e_ => Nat.not_le.2 hs_ (by rw [e_]; exact GW555.out)) (fun hs_ => Or.elim hs_ (fun hs_ => fun e_ => Nat.not_le.2 hs_ (by rw [e_]; exact GW555.out)) (fun hs_ => Or.elim hs_ (fun hs_ => fun e_ => Nat.not_le.2 hs_ (by rw [e_]; exact GW555.out)) (fun hs_ => fun e_ => Nat.not_le.2 hs_ (by rw [e_]; exact GW555.out))))) (fun hn_ => (Kd.freshB (g := gb555) (o := .cells #[.bool a0_0, .bool a0_1, .slice A0_2 l0_2.length c0_2, .slice A0_3 l0_3.length c0_3, .slice A0_4 l0_4.length c0_4, .slice A0_5 l0_5.length c0_5, .bool a0_6, .bool a0_7] 25 (0, 0)) (by exact BK555.out) k_ hn_))⟩)) (below_size (by repeat (first | (with_reducible first | exact HB.out | apply below_alloc | apply pw_below_drewN | apply below_drew1 | refine below_set ?_ GE555.out) | exact HB.out)))); have n2_ := Aside0.mk (Kd.V_lower (Kd.V_mono (ok' := fun k_ => some k_ ≠ (v568 : Value).ownBlock ∧ k_ ≠ gb555) ho2 (fun k_ hk_ => ⟨hk_.2, Or.elim hk_.1 (fun hs_ => Or.elim hs_ (fun hs_ => fun e_ => Nat.not_le.2 hs_ (by rw [e_]; exact GW555.out)) (fun hs_ => Or.elim hs_ (fun hs_ => fun e_ => Nat.not_le.2 hs_ (by rw [e_]; exact GW555.out)) (fun hs_ => Or.elim hs_ (fun hs_ => fun e_ => Nat.not_le.2 hs_ (by rw [e_]; exact GW555.out)) (fun hs_ => fun e_ => Nat.not_le.2 hs_ (by rw [e_]; exact GW555.out))))) (fun hn_ => (Kd.freshB (g := gb555) (o := .cells #[.bool a0_0, .bool a0_1, .slice A0_2 l0_2.length c0_2, .slice A0_3 l0_3.length c0_3, .slice A0_4 l0_4.length c0_4, .slice A0_5 l0_5.length c0_5, .bool a0_6, .bool a0_7] 25 (0, 0)) (by exact BK555.out) k_ hn_))⟩)) (below_size (by repeat (first | (with_reducible first | exact HB.out | apply below_alloc | apply pw_below_drewN | apply below_drew1 | refine below_set ?_ GE555.out) | exact HB.out)))); have n3_ := Aside0.mk (Kd.N_lower (Kd.N_mono (ok' := fun k_ => k_ ≠ gb555) ho3 (fun k_ hk_ => Or.elim hk_ (fun hs_ => Or.elim hs_ (fun hs_ => fun e_ => Nat.not_le.2 hs_ (by rw [e_]; exact GW555.out)) (fun hs_ => Or.elim hs_ (fun hs_ => fun e_ => Nat.not_le.2 hs_ (by rw [e_]; exact GW555.out)) (fun hs_ => Or.elim hs_ (fun hs_ => fun e_ => Nat.not_le.2 hs_ (by rw [e_]; exact GW555.out)) (fun hs_ => fun e_ => Nat.not_le.2 hs_ (by rw [e_]; exact GW555.out))))) (fun hn_ => (Kd.freshB (g := gb555) (o := .cells #[.bool a0_0, .bool a0_1, .slice A0_2 l0_2.length c0_2, .slice A0_3 l0_3.length c0_3, .slice A0_4 l0_4.length c0_4, .slice A0_5 l0_5.length c0_5, .bool a0_6, .bool a0_7] 25 (0, 0)) (by exact BK555.out) k_ hn_)))) (below_size (by repeat (first | (with_reducible first | exact HB.out | apply below_alloc | apply pw_below_drewN | apply below_drew1 | refine below_set ?_ GE555.out) | exact HB.out)))); have n4_ := Aside0.mk (blk_below (g := gb555) (o := .cells #[.bool a0_0, .bool a0_1, .slice A0_2 l0_2.length c0_2, .slice A0_3 l0_3.length c0_3, .slice A0_4 l0_4.length c0_4, .slice A0_5 l0_5.length c0_5, .bool a0_6, .bool a0_7] 25 (0, 0)) (by exact BK555.out) hb); have n5_ := Aside0.mk (below_step (by repeat (first | (with_reducible first | exact HB.out | apply below_alloc | apply pw_below_drewN | apply below_drew1 | refine below_set ?_ GE555.out) | exact HB.out)) hb); clear BK555; clear HB; have HO560 := n0_; have HO563 := n1_; have HO566 := n2_; have HO569 := n3_; have BK555 := n4_; have HB := n5_; clear n0_ n1_ n2_ n3_ n4_ n5_; (try clear hb); (try clear hb2); (try clear hk); (try clear hi); (try clear ho0); (try clear ho1); (try clear ho2); (try clear ho3); have hcz14_0 : w13.cell? ⟨gb555, 0, none⟩ = some (.bool a0_0) := (blk_cell BK555.out 0).trans rfl; have hcz14_1 : w13.cell? ⟨gb555, 1, none⟩ = some (.bool a0_1) := (blk_cell BK555.out 1).trans rfl; have hcz14_2 : w13.cell? ⟨gb555, 2, none⟩ = some (.slice A0_2 l0_2.length c0_2) := (blk_cell BK555.out 2).trans rfl; have hcz14_3 : w13.cell? ⟨gb555, 3, none⟩ = some (.slice A0_3 l0_3.length c0_3) := (blk_cell BK555.out 3).trans rfl; have hcz14_4 : w13.cell? ⟨gb555, 4, none⟩ = some (.slice A0_4 l0_4.length c0_4) := (blk_cell BK555.out 4).trans rfl; have hcz14_5 : w13.cell? ⟨gb555, 5, none⟩ = some (.slice A0_5 l0_5.length c0_5) := (blk_cell BK555.out 5).trans rfl; have hcz14_6 : w13.cell? ⟨gb555, 6, none⟩ = some (.bool a0_6) := (blk_cell BK555.out 6).trans rfl; have hcz14_7 : w13.cell? ⟨gb555, 7, none⟩ = some (.bool a0_7) := (blk_cell BK555.out 7).trans rfl; have hfz14_0 := blk_frozen BK555.out 0; have hfz14_1 := blk_frozen BK555.out 1; have hfz14_2 := blk_frozen BK555.out 2; have hfz14_3 := blk_frozen BK555.out 3; have hfz14_4 := blk_frozen BK555.out 4; have hfz14_5 := blk_frozen BK555.out 5; have hfz14_6 := blk_frozen BK555.out 6; have hfz14_7 := blk_frozen BK555.out 7; obtain ⟨Ao15, co15, eo15⟩ := Kd.V_slice HO560.out; subst eo15; obtain ⟨Ao16, co16, eo16⟩ := Kd.V_slice HO563.out; subst eo16; obtain ⟨Ao17, co17, eo17⟩ := Kd.V_slice HO566.out; subst eo17; obtain ⟨Ao18, co18, eo18⟩ := Kd.N_slice HO569.out; subst eo18) | ((with_reducible refine gate_store (t := 25) (p := 3) rfl ?_); refine store_event (t := 25) (p := 3) (v := ?vo_w19) (w1 := ((((((((w13.setCell ⟨gb555, 0, none⟩ (.bool t556)).setCell ⟨gb555, 1, none⟩ (.bool t557)).setCell ⟨gb555, 2, none⟩ (.slice Ao15 t558.length co15)).setCell ⟨gb555, 3, none⟩ (.slice Ao16 t561.length co16)).setCell ⟨gb555, 4, none⟩ (.slice Ao17 t564.length co17)).setCell ⟨gb555, 5, none⟩ (.slice Ao18 t567.length co18)).setCell ⟨gb555, 6, none⟩ (.bool t570)).setCell ⟨gb555, 7, none⟩ (.bool t571))) ?hg ?ho ?hn ?hr ?_; (case ho => rfl); (case hg => rfl); (case hn => rfl); (case hr => first | (go_simp; done) | (go_simp; rfl)); intro w19 hw; have n0_ : Aside0 (Kd.V Kd.string 9 w19 w.heap.size (fun k_ => some k_ ≠ (.slice Ao18 t567.length co18 : Value).ownBlock ∧ k_ ≠ gb555) (.slice Ao15 t558.length co15) t558) := ⟨(by rw [hw]; exact (by exact Kd.V_mono (Kd.V_far (p := ⟨gb555, 7, none⟩) (Kd.V_far (p := ⟨gb555, 6, none⟩) (Kd.V_far (p := ⟨gb555, 5, none⟩) (Kd.V_far (p := ⟨gb555, 4, none⟩) (Kd.V_far (p := ⟨gb555, 3, none⟩) (Kd.V_far (p := ⟨gb555, 2, none⟩) (Kd.V_far (p := ⟨gb555, 1, none⟩) (Kd.V_far (p := ⟨gb555, 0, none⟩) (Kd.V_mono HO560.out (fun k_ hk => (⟨hk, hk.2⟩ : _ ∧ k_ ≠ gb555))) (fun _ hk => hk.2) (.bool t556)) (fun _ hk => hk.2) (.bool t557)) (fun _ hk => hk.2) (.slice Ao15 t558.length co15)) (fun _ hk => hk.2) (.slice Ao16 t561.length co16)) (fun _ hk => hk.2) (.slice Ao17 t564.length co17)) (fun _ hk => hk.2) (.slice Ao18 t567.length co18)) (fun _ hk => hk.2) (.bool t570)) (fun _ hk => hk.2) (.bool t571)) (fun _ hk => ⟨hk.1.1, hk.1.2⟩)))⟩; have n1_ : Aside0 (Kd.V Kd.string 9 w19 w.heap.size (fun k_ => some k_ ≠ (.slice Ao18 t567.length co18 : Value).ownBlock ∧ k_ ≠ gb555) (.slice Ao16 t561.length co16) t561) := ⟨(by rw [hw]; exact (by exact Kd.V_mono (Kd.V_far (p := ⟨gb555, 7, none⟩) (Kd.V_far (p := ⟨gb555, 6, none⟩) (Kd.V_far (p := ⟨gb555, 5, none⟩) (Kd.V_far (p := ⟨gb555, 4, none⟩) (Kd.V_far (p := ⟨gb555, 3, none⟩) (Kd.V_far (p := ⟨gb555, 2, none⟩) (Kd.V_far (p := ⟨gb555, 1, none⟩) (Kd.V_far (p := ⟨gb555, 0, none⟩) (Kd.V_mono HO563.out (fun k_ hk => (⟨hk, hk.2⟩ : _ ∧ k_ ≠ gb555))) (fun _ hk => hk.2) (.bool t556)) (fun _ hk => hk.2) (.bool t557)) (fun _ hk => hk.2) (.slice Ao15 t558.length co15)) (fun _ hk => hk.2) (.slice Ao16 t561.length co16)) (fun _ hk => hk.2) (.slice Ao17 t564.length co17)) (fun _ hk => hk.2) (.slice Ao18 t567.length co18)) (fun _ hk => hk.2) (.bool t570)) (fun _ hk => hk.2) (.bool t571)) (fun _ hk => ⟨hk.1.1, hk.1.2⟩)))⟩; have n2_ : Aside0 (Kd.V Kd.string 9 w19 w.heap.size (fun k_ => some k_ ≠ (.slice Ao18 t567.length co18 : Value).ownBlock ∧ k_ ≠ gb555) (.slice Ao17 t564.length co17) t564) := ⟨(by rw [hw]; exact (by exact Kd.V_mono (Kd.V_far (p := ⟨gb555, 7, none⟩) (Kd.V_far (p := ⟨gb555, 6, none⟩) (Kd.V_far (p := ⟨gb555, 5, none⟩) (Kd.V_far (p := ⟨gb555, 4, none⟩) (Kd.V_far (p := ⟨gb555, 3, none⟩) (Kd.V_far (p := ⟨gb555, 2, none⟩) (Kd.V_far (p := ⟨gb555, 1, none⟩) (Kd.V_far (p := ⟨gb555, 0, none⟩) (Kd.V_mono HO566.out (fun k_ hk => (⟨hk, hk.2⟩ : _ ∧ k_ ≠ gb555))) (fun _ hk => hk.2) (.bool t556)) (fun _ hk => hk.2) (.bool t557)) (fun _ hk => hk.2) (.slice Ao15 t558.length co15)) (fun _ hk => hk.2) (.slice Ao16 t561.length co16)) (fun _ hk => hk.2) (.slice Ao17 t564.length co17)) (fun _ hk => hk.2) (.slice Ao18 t567.length co18)) (fun _ hk => hk.2) (.bool t570)) (fun _ hk => hk.2) (.bool t571)) (fun _ hk => ⟨hk.1.1, hk.1.2⟩)))⟩; have n3_ : Aside0 (Kd.N k35 35 w19 w.heap.size (fun k_ => k_ ≠ gb555) (.slice Ao18 t567.length co18) t567) := ⟨(by rw [hw]; exact (by exact Kd.N_mono (N_far8 (g := gb555) (Kd.N_mono HO569.out (fun k_ hk => (⟨hk, hk⟩ : _ ∧ k_ ≠ gb555))) (fun _ hk => hk.2) (.bool t556) (.bool t557) (.slice Ao15 t558.length co15) (.slice Ao16 t561.length co16) (.slice Ao17 t564.length co17) (.slice Ao18 t567.length co18) (.bool t570) (.bool t571)) (fun _ hk => hk.1)))⟩; have n4_ : Aside0 (w19.heap[gb555]? = some (.cells #[.bool t556, .bool t557, .slice Ao15 t558.length co15, .slice Ao16 t561.length co16, .slice Ao17 t564.length co17, .slice Ao18 t567.length co18, .bool t570, .bool t571] 25 (0, 0))) := ⟨(by rw [hw]; exact (by refine blk_put (cs := #[.bool t556, .bool t557, .slice Ao15 t558.length co15, .slice Ao16 t561.length co16, .slice Ao17 t564.length co17, .slice Ao18 t567.length co18, .bool t570, .bool a0_7]) ?_ 7 _ rfl; refine blk_put (cs := #[.bool t556, .bool t557, .slice Ao15 t558.length co15, .slice Ao16 t561.length co16, .slice Ao17 t564.length co17, .slice Ao18 t567.length co18, .bool a0_6, .bool a0_7]) ?_ 6 _ rfl; refine blk_put (cs := #[.bool t556, .bool t557, .slice Ao15 t558.length co15, .slice Ao16 t561.length co16, .slice Ao17 t564.length co17, .slice A0_5 l0_5.length c0_5, .bool a0_6, .bool a0_7]) ?_ 5 _ rfl; refine blk_put (cs := #[.bool t556, .bool t557, .slice Ao15 t558.length co15, .slice Ao16 t561.length co16, .slice A0_4 l0_4.length c0_4, .slice A0_5 l0_5.length c0_5, .bool a0_6, .bool a0_7]) ?_ 4 _ rfl; refine blk_put (cs := #[.bool t556, .bool t557, .slice Ao15 t558.length co15, .slice A0_3 l0_3.length c0_3, .slice A0_4 l0_4.length c0_4, .slice A0_5 l0_5.length c0_5, .bool a0_6, .bool a0_7]) ?_ 3 _ rfl; refine blk_put (cs := #[.bool t556, .bool t557, .slice A0_2 l0_2.length c0_2, .slice A0_3 l0_3.length c0_3, .slice A0_4 l0_4.length c0_4, .slice A0_5 l0_5.length c0_5, .bool a0_6, .bool a0_7]) ?_ 2 _ rfl; refine blk_put (cs := #[.bool t556, .bool a0_1, .slice A0_2 l0_2.length c0_2, .slice A0_3 l0_3.length c0_3, .slice A0_4 l0_4.length c0_4, .slice A0_5 l0_5.length c0_5, .bool a0_6, .bool a0_7]) ?_ 1 _ rfl; refine blk_put (cs := #[.bool a0_0, .bool a0_1, .slice A0_2 l0_2.length c0_2, .slice A0_3 l0_3.length c0_3, .slice A0_4 l0_4.length c0_4, .slice A0_5 l0_5.length c0_5, .bool a0_6, .bool a0_7]) ?_ 0 _ rfl; exact BK555.out))⟩; have n5_ : Aside0 (Below w.heap.size w w19) := ⟨(by rw [hw]; exact (by repeat (first | (with_reducible first | exact HB.out | apply below_alloc | apply pw_below_drewN | apply below_drew1 | refine below_set ?_ GE555.out) | exact HB.out)))⟩; clear hw; clear HO560; clear HO563; clear HO566; clear HO569; clear BK555; clear HB; have HO560 := n0_; have HO563 := n1_; have HO566 := n2_; have HO569 := n3_; have BK555 := n4_; have HB := n5_; clear n0_ n1_ n2_ n3_ n4_ n5_; have hcz20_0 : w19.cell? ⟨gb555, 0, none⟩ = some (.bool t556) := (blk_cell BK555.out 0).trans rfl; have hcz20_1 : w19.cell? ⟨gb555, 1, none⟩ = some (.bool t557) := (blk_cell BK555.out 1).trans rfl; have hcz20_2 : w19.cell? ⟨gb555, 2, none⟩ = some (.slice Ao15 t558.length co15) := (blk_cell BK555.out 2).trans rfl; have hcz20_3 : w19.cell? ⟨gb555, 3, none⟩ = some (.slice Ao16 t561.length co16) := (blk_cell BK555.out 3).trans rfl; have hcz20_4 : w19.cell? ⟨gb555, 4, none⟩ = some (.slice Ao17 t564.length co17) := (blk_cell BK555.out 4).trans rfl; have hcz20_5 : w19.cell? ⟨gb555, 5, none⟩ = some (.slice Ao18 t567.length co18) := (blk_cell BK555.out 5).trans rfl; have hcz20_6 : w19.cell? ⟨gb555, 6, none⟩ = some (.bool t570) := (blk_cell BK555.out 6).trans rfl; have hcz20_7 : w19.cell? ⟨gb555, 7, none⟩ = some (.bool t571) := (blk_cell BK555.out 7).trans rfl; have hfz20_0 := blk_frozen BK555.out 0; have hfz20_1 := blk_frozen BK555.out 1; have hfz20_2 := blk_frozen BK555.out 2; have hfz20_3 := blk_frozen BK555.out 3; have hfz20_4 := blk_frozen BK555.out 4; have hfz20_5 := blk_frozen BK555.out 5; have hfz20_6 := blk_frozen BK555.out 6; have hfz20_7 := blk_frozen BK555.out 7; have q21 : ((ji5) : Int) ≤ ((t558.length : Int) : Int) := of_decide_eq_true (by first | (with_reducible assumption) | assumption); obtain ⟨i021, hi021, _, hsz21, _⟩ := info_parts info9; have hroom21 : t558.length ≤ co15 := (Kd.V_reads' HO560.out).2.1; have hC21 : Kd.F Kd.string _ _ Ao15 t558.length t558 := (Kd.V_at (base := w.heap.size) HO560.out).2.2; have hcut21 := cut_to (P := Try.prog) 22 9 .i64 Try.underlying22 hi021 Ao15 t558.length co15 (ji5) (of_decide_eq_true (by first | (with_reducible assumption) | assumption)) q21 hroom21; have hr21 := Kd.F_take (m := ((ji5) : Int).toNat) hC21 (by omega); have hy21 : y572.length = ((ji5) : Int).toNat := (by rw [Ny572.out, List.length_take]; omega); rw [← Ny572.out] at hr21; rw [← hy21] at hcut21; have HO576 := Aside0.mk (show Kd.V Kd.string 9 _ w.heap.size _ (.slice Ao15 y572.length co15) y572 from Kd.V_mk (by omega) hr21); have HC576 := Aside0.mk (show y572.length ≤ co15 from by omega); clear hr21 hC21 hroom21 hi021 hsz21; have KY21 := Aside0.mk hy21; clear hy21; replace q21 := eq_true q21) | ((with_reducible refine gate_callee (f := 17) rfl ?_); refine goesL_ (some 20) rfl rfl Try.func17 (by kernel_rfl) rfl #[.agg #[.bool t556, .bool t557, .slice Ao15 y572.length co15, .slice Ao16 t561.length co16, .slice Ao17 t564.length co17, .slice Ao18 t567.length co18, .bool t570, .bool t571]] rfl (by (try simp only [List.map_toArray, List.map_cons, List.map_nil]); first | done | rfl | (simp only [List.length_drop, List.length_take]; rfl)) ?_; (with_reducible refine (config_Strip.calls t556 t557 _ _ y572 _ _ t561 _ _ t564 _ _ t567 t570 t571 t577 t578 t579 t582 t585 t588 t591 t592 _ ?side1 ?side2 ?side3 ?side4 ?side5 ?side6 ?okp7 ?side7 ?side8 A8.out).mono ?_); (case side1 => refine (Kd.V_reads' (e := 9) (base := w.heap.size) (ok := fun k_ => (some k_ ≠ (.slice Ao18 t567.length co18 : Value).ownBlock ∧ k_ ≠ gb555)) (n := y572.length) (c := co15) ?_).2.2; exact (by exact (Kd.V_mono (Kd.V_far (p := ⟨gb555, 2, none⟩) (Kd.V_mono HO576.out (fun k_ hk => (⟨hk, hk.2⟩ : _ ∧ k_ ≠ gb555))) (fun _ hk => hk.2) (.slice Ao15 y572.length co15)) (fun _ h_ => h_.1)))); (case side2 => exact (Kd.V_reads' HO576.out).2.1); (case side3 => refine (Kd.V_reads' (e := 9) (base := w.heap.size) (ok := fun k_ => (some k_ ≠ (.slice Ao18 t567.length co18 : Value).ownBlock ∧ k_ ≠ gb555)) (n := t561.length) (c := co16) ?_).2.2; exact (by exact (Kd.V_mono (Kd.V_far (p := ⟨gb555, 2, none⟩) (Kd.V_mono HO563.out (fun k_ hk => (⟨hk, hk.2⟩ : _ ∧ k_ ≠ gb555))) (fun _ hk => hk.2) (.slice Ao15 y572.length co15)) (fun _ h_ => h_.1)))); (case side4 => exact (Kd.V_reads' HO563.out).2.1); (case side5 => refine (Kd.V_reads' (e := 9) (base := w.heap.size) (ok := fun k_ => (some k_ ≠ (.slice Ao18 t567.length co18 : Value).ownBlock ∧ k_ ≠ gb555)) (n := t564.length) (c := co17) ?_).2.2; exact (by exact (Kd.V_mono (Kd.V_far (p := ⟨gb555, 2, none⟩) (Kd.V_mono HO566.out (fun k_ hk => (⟨hk, hk.2⟩ : _ ∧ k_ ≠ gb555))) (fun _ hk => hk.2) (.slice Ao15 y572.length co15)) (fun _ h_ => h_.1)))); (case side6 => exact (Kd.V_reads' HO566.out).2.1); (case side7 => refine Shares.of_N (e := 35) (base := w.heap.size) (ok := fun k_ => k_ ≠ gb555) (n := t567.length) (c := co18) ?_; exact (by exact (Kd.N_mono (Kd.N_far (p := ⟨gb555, 2, none⟩) (Kd.N_mono HO569.out (fun k_ hk => (⟨hk, hk⟩ : _ ∧ k_ ≠ gb555))) (fun _ hk => hk.2) (.slice Ao15 y572.length co15)) (fun _ h_ => h_.1)))); (case side8 => exact (Kd.N_reads' HO569.out).2.1); rintro e w22 ⟨v580, v583, v586, v589, rfl, ho0, ho1, ho2, ho3, hb⟩; refine ⟨_, rfl, ?_⟩; have n0_ := Aside0.mk (Kd.V_mono (Kd.V_told (Kd.V_told (Kd.V_told (Kd.V_told (Kd.V_old (by exact (Kd.V_mono (Kd.V_far (p := ⟨gb555, 2, none⟩) (Kd.V_mono HO560.out (fun k_ hk => (⟨hk, hk.2⟩ : _ ∧ k_ ≠ gb555))) (fun _ hk => hk.2) (.slice Ao15 y572.length co15)) (fun _ h_ => h_.1))) hb) (Kd.R_base ho0)) (Kd.R_base ho1)) (Kd.R_base ho2)) (Kd.N_base ho3)) (fun _ h_ => h_.1)); have n1_ := Aside0.mk (Kd.V_mono (Kd.V_told (Kd.V_told (Kd.V_told (Kd.V_told (Kd.V_old (by exact (Kd.V_mono (Kd.V_far (p := ⟨gb555, 2, none⟩) (Kd.V_mono HO563.out (fun k_ hk => (⟨hk, hk.2⟩ : _ ∧ k_ ≠ gb555))) (fun _ hk => hk.2) (.slice Ao15 y572.length co15)) (fun _ h_ => h_.1))) hb) (Kd.R_base ho0)) (Kd.R_base ho1)) (Kd.R_base ho2)) (Kd.N_base ho3)) (fun _ h_ => h_.1)); have n2_ := Aside0.mk (Kd.V_mono (Kd.V_told (Kd.V_told (Kd.V_told (Kd.V_told (Kd.V_old (by exact (Kd.V_mono (Kd.V_far (p := ⟨gb555, 2, none⟩) (Kd.V_mono HO566.out (fun k_ hk => (⟨hk, hk.2⟩ : _ ∧ k_ ≠ gb555))) (fun _ hk => hk.2) (.slice Ao15 y572.length co15)) (fun _ h_ => h_.1))) hb) (Kd.R_base ho0)) (Kd.R_base ho1)) (Kd.R_base ho2)) (Kd.N_base ho3)) (fun _ h_ => h_.1)); have n3_ := Aside0.mk (Kd.N_mono (Kd.N_told (Kd.N_told (Kd.N_told (Kd.N_told (Kd.N_old (by exact (Kd.N_mono (Kd.N_far (p := ⟨gb555, 2, none⟩) (Kd.N_mono HO569.out (fun k_ hk => (⟨hk, hk⟩ : _ ∧ k_ ≠ gb555))) (fun _ hk => hk.2) (.slice Ao15 y572.length co15)) (fun _ h_ => h_.1))) hb) (Kd.R_base ho0)) (Kd.R_base ho1)) (Kd.R_base ho2)) (Kd.N_base ho3)) (fun _ h_ => h_.1)); have n4_ := Aside0.mk (Kd.V_mono (Kd.V_told (Kd.V_told (Kd.V_told (Kd.V_told (Kd.V_old (by exact (Kd.V_mono (Kd.V_far (p := ⟨gb555, 2, none⟩) (Kd.V_mono HO576.out (fun k_ hk => (⟨hk, hk.2⟩ : _ ∧ k_ ≠ gb555))) (fun _ hk => hk.2) (.slice Ao15 y572.length co15)) (fun _ h_ => h_.1))) hb) (Kd.R_base ho0)) (Kd.R_base ho1)) (Kd.R_base ho2)) (Kd.N_base ho3)) (fun _ h_ => h_.1)); have n5_ := Aside0.mk (Kd.R_lower ho0 (below_size (by repeat (first | (with_reducible first | exact HB.out | apply below_alloc | apply pw_below_drewN | apply below_drew1 | refine below_set ?_ GE555.out) | exact HB.out)))); have n6_ := Aside0.mk (Kd.R_lower ho1 (below_size (by repeat (first | (with_reducible first | exact HB.out | apply below_alloc | apply pw_below_drewN | apply below_drew1 | refine below_set ?_ GE555.out) | exact HB.out)))); have n7_ := Aside0.mk (Kd.R_lower ho2 (below_size (by repeat (first | (with_reducible first | exact HB.out | apply below_alloc | apply pw_below_drewN | apply below_drew1 | refine below_set ?_ GE555.out) | exact HB.out)))); have n8_ := Aside0.mk (Kd.N_lower (Kd.N_mono (ok' := fun k_ => some k_ ≠ (v580 : Value).ownBlock ∧ some k_ ≠ (v583 : Value).ownBlock ∧ some k_ ≠ (v586 : Value).ownBlock ∧ some k_ ≠ (.slice Ao18 t567.length co18 : Value).ownBlock ∧ k_ ≠ gb555) ho3 (fun k_ hk_ => ⟨hk_.1.1, hk_.1.2.1, hk_.1.2.2, (hk_.2.elim (fun h_ => (Kd.fresh' (Kd.N_lt (by exact (Kd.N_mono (Kd.N_far (p := ⟨gb555, 2, none⟩) (Kd.N_mono HO569.out (fun k_ hk => (⟨hk, hk⟩ : _ ∧ k_ ≠ gb555))) (fun _ hk => hk.2) (.slice Ao15 y572.length co15)) (fun _ h_ => h_.1)))) k_ h_)) (fun h_ => by first | exact h_.2 | exact h_.1 | exact h_.1.1 | exact h_.1.2 | exact h_.1.2.1 | exact h_.1.2.2 | exact h_.1.2.2.1 | exact h_.1.2.2.2 | exact h_.1.2.2.2.1 | exact h_.1.2.2.2.2 | (obtain ⟨h1_, h2_⟩ := h_; simp only [ne_eq, Value.ownBlock] at *; (repeat' (obtain ⟨_, h1_⟩ := h1_)); assumption))), (hk_.2.elim (fun h_ => (Kd.freshB (g := gb555) (o := .cells #[.bool t556, .bool t557, .slice Ao15 y572.length co15, .slice Ao16 t561.length co16, .slice Ao17 t564.length co17, .slice Ao18 t567.length co18, .bool t570, .bool t571] 25 (0, 0)) (by refine blk_put (cs := #[.bool t556, .bool t557, .slice Ao15 t558.length co15, .slice Ao16 t561.length co16, .slice Ao17 t564.length co17, .slice Ao18 t567.length co18, .bool t570, .bool t571]) ?_ 2 _ rfl; exact BK555.out) k_ h_)) (fun h_ => by first | exact h_.2 | exact h_.1 | exact h_.1.1 | exact h_.1.2 | exact h_.1.2.1 | exact h_.1.2.2 | exact h_.1.2.2.1 | exact h_.1.2.2.2 | exact h_.1.2.2.2.1 | exact h_.1.2.2.2.2 | (obtain ⟨h1_, h2_⟩ := h_; simp only [ne_eq, Value.ownBlock] at *; (repeat' (obtain ⟨_, h1_⟩ := h1_)); assumption)))⟩)) (below_size (by repeat (first | (with_reducible first | exact HB.out | apply below_alloc | apply pw_below_drewN | apply below_drew1 | refine below_set ?_ GE555.out) | exact HB.out)))); have n9_ := Aside0.mk (blk_below (g := gb555) (o := .cells #[.bool t556, .bool t557, .slice Ao15 y572.length co15, .slice Ao16 t561.length co16, .slice Ao17 t564.length co17, .slice Ao18 t567.length co18, .bool t570, .bool t571] 25 (0, 0)) (by refine blk_put (cs := #[.bool t556, .bool t557, .slice Ao15 t558.length co15, .slice Ao16 t561.length co16, .slice Ao17 t564.length co17, .slice Ao18 t567.length co18, .bool t570, .bool t571]) ?_ 2 _ rfl; exact BK555.out) hb); have n10_ := Aside0.mk (below_step (by repeat (first | (with_reducible first | exact HB.out | apply below_alloc | apply pw_below_drewN | apply below_drew1 | refine below_set ?_ GE555.out) | exact HB.out)) hb); clear HO560; clear HO563; clear HO566; clear HO569; clear HO576; clear BK555; clear HB; have HO560 := n0_; have HO563 := n1_; have HO566 := n2_; have HO569 := n3_; have HO576 := n4_; have HO581 := n5_; have HO584 := n6_; have HO587 := n7_; have HO590 := n8_; have BK555 := n9_; have HB := n10_; clear n0_ n1_ n2_ n3_ n4_ n5_ n6_ n7_ n8_ n9_ n10_; (try clear hb); (try clear hb2); (try clear hk); (try clear hi); (try clear ho0); (try clear ho1); (try clear ho2); (try clear ho3)) | ((with_reducible refine gate_dst (N := 7) rfl ?_); refine box_event ?hg (N := 7) ?hd (cs := #[.bool false, .bool false, .slice none 0 0, .slice none 0 0, .slice none 0 0, .slice none 0 0, .bool false, .bool false]) (t := 25) ?hr ?_; (case hd => rfl); (case hg => rfl); (case hr => first | (go_simp; done) | (go_simp; rfl)); intro gb593 hg w23 hbox hb; have n0_ := Aside0.mk (Kd.V_below (Kd.V_elderB (by exact HO560.out) gb593 (Nat.le_of_eq hg.symm)) hb); have n1_ := Aside0.mk (Kd.V_below (Kd.V_elderB (by exact HO563.out) gb593 (Nat.le_of_eq hg.symm)) hb); have n2_ := Aside0.mk (Kd.V_below (Kd.V_elderB (by exact HO566.out) gb593 (Nat.le_of_eq hg.symm)) hb); have n3_ := Aside0.mk (Kd.N_below (Kd.N_elderB (by exact HO569.out) gb593 (Nat.le_of_eq hg.symm)) hb); have n4_ := Aside0.mk (Kd.V_below (Kd.V_elderB (by exact HO576.out) gb593 (Nat.le_of_eq hg.symm)) hb); have n5_ := Aside0.mk (Kd.R_below (by exact HO581.out) hb); have n6_ := Aside0.mk (Kd.R_below (by exact HO584.out) hb); have n7_ := Aside0.mk (Kd.R_below (by exact HO587.out) hb); have n8_ := Aside0.mk (Kd.N_below (Kd.N_elderB (by exact HO590.out) gb593 (Nat.le_of_eq hg.symm)) hb); have n9_ := Aside0.mk (blk_below (g := gb555) (o := .cells #[.bool t556, .bool t557, .slice Ao15 y572.length co15, .slice Ao16 t561.length co16, .slice Ao17 t564.length co17, .slice Ao18 t567.length co18, .bool t570, .bool t571] 25 (0, 0)) (by exact BK555.out) hb); have n10_ := Aside0.mk (below_step (by repeat (first | (with_reducible first | exact HB.out | apply below_alloc | apply pw_below_drewN | apply below_drew1 | refine below_set ?_ GE555.out) | exact HB.out)) hb); have n11_ := Aside0.mk (hbox); have n12_ := Aside0.mk ((by rw [hg]; exact (below_size (by repeat (first | (with_reducible first | exact HB.out | apply below_alloc | apply pw_below_drewN | apply below_drew1 | refine below_set ?_ GE555.out) | exact HB.out))) : w.heap.size ≤ gb593)); have n13_ := Aside0.mk ((by rw [hg]; exact (below_size (by repeat (first | (with_reducible first | exact HB.out | apply below_alloc | apply pw_below_drewN | apply below_drew1 | refine below_set ?_ GE555.out) | exact HB.out))) : w.heap.size ≤ gb593)); have n14_ := Aside0.mk ((by rw [hg]; exact Nat.ne_of_lt (blk_lt (g := gb555) (o := .cells #[.bool t556, .bool t557, .slice Ao15 y572.length co15, .slice Ao16 t561.length co16, .slice Ao17 t564.length co17, .slice Ao18 t567.length co18, .bool t570, .bool t571] 25 (0, 0)) (by exact BK555.out)) : gb555 ≠ gb593)); have n15_ := Aside0.mk ((by rw [hg]; exact Nat.ne_of_gt (blk_lt (g := gb555) (o := .cells #[.bool t556, .bool t557, .slice Ao15 y572.length co15, .slice Ao16 t561.length co16, .slice Ao17 t564.length co17, .slice Ao18 t567.length co18, .bool t570, .bool t571] 25 (0, 0)) (by exact BK555.out)) : gb593 ≠ gb555)); clear HO560; clear HO563; clear HO566; clear HO569; clear HO576; clear HO581; clear HO584; clear HO587; clear HO590; clear BK555; clear HB; have HO560 := n0_; have HO563 := n1_; have HO566 := n2_; have HO569 := n3_; have HO576 := n4_; have HO581 := n5_; have HO584 := n6_; have HO587 := n7_; have HO590 := n8_; have BK555 := n9_; have HB := n10_; have BK593 := n11_; have GW593 := n12_; have GE593 := n13_; have NB555_593 := n14_; have NB593_555 := n15_; clear n0_ n1_ n2_ n3_ n4_ n5_ n6_ n7_ n8_ n9_ n10_ n11_ n12_ n13_ n14_ n15_; clear hb hbox hg; have hnb24 := NB593_555.out; have hnc24 := NB555_593.out; have hcz25_0 : w23.cell? ⟨gb593, 0, none⟩ = some (.bool false) := (blk_cell BK593.out 0).trans rfl; have hcz25_1 : w23.cell? ⟨gb593, 1, none⟩ = some (.bool false) := (blk_cell BK593.out 1).trans rfl; have hcz25_2 : w23.cell? ⟨gb593, 2, none⟩ = some (.slice none 0 0) := (blk_cell BK593.out 2).trans rfl; have hcz25_3 : w23.cell? ⟨gb593, 3, none⟩ = some (.slice none 0 0) := (blk_cell BK593.out 3).trans rfl; have hcz25_4 : w23.cell? ⟨gb593, 4, none⟩ = some (.slice none 0 0) := (blk_cell BK593.out 4).trans rfl; have hcz25_5 : w23.cell? ⟨gb593, 5, none⟩ = some (.slice none 0 0) := (blk_cell BK593.out 5).trans rfl; have hcz25_6 : w23.cell? ⟨gb593, 6, none⟩ = some (.bool false) := (blk_cell BK593.out 6).trans rfl; have hcz25_7 : w23.cell? ⟨gb593, 7, none⟩ = some (.bool false) := (blk_cell BK593.out 7).trans rfl; have hfz25_0 := blk_frozen BK593.out 0; have hfz25_1 := blk_frozen BK593.out 1; have hfz25_2 := blk_frozen BK593.out 2; have hfz25_3 := blk_frozen BK593.out 3; have hfz25_4 := blk_frozen BK593.out 4; have hfz25_5 := blk_frozen BK593.out 5; have hfz25_6 := blk_frozen BK593.out 6; have hfz25_7 := blk_frozen BK593.out 7; obtain ⟨Ao26, co26, eo26⟩ := Kd.R_slice HO581.out; subst eo26; obtain ⟨Ao27, co27, eo27⟩ := Kd.R_slice HO584.out; subst eo27; obtain ⟨Ao28, co28, eo28⟩ := Kd.R_slice HO587.out; subst eo28; obtain ⟨Ao29, co29, eo29⟩ := Kd.N_slice HO590.out; subst eo29) | ((with_reducible refine gate_callee (f := 13) rfl ?_); refine goesL_ (some 23) rfl rfl Try.func13 (by kernel_rfl) rfl #[.agg #[.bool t577, .bool t578, .slice Ao26 t579.length co26, .slice Ao27 t582.length co27, .slice Ao28 t585.length co28, .slice Ao29 t588.length co29, .bool t591, .bool t592], .string a1] rfl (by (try simp only [List.map_toArray, List.map_cons, List.map_nil]); first | done | rfl | (simp only [List.length_drop, List.length_take]; rfl)) ?_; (with_reducible refine (config_Element.calls k t577 t578 _ _ t579 _ _ t582 _ _ t585 _ _ t588 t591 t592 a1 t594 _ ?side1 ?side2 ?side3 ?side4 ?side5 ?side6 ?side7 ?side8 A9.out).mono ?_); (case side1 => refine (Kd.R_reads' (e := 9) (base := w.heap.size) (ok := fun k_ => (some k_ ≠ (.slice Ao27 t582.length co27 : Value).ownBlock ∧ some k_ ≠ (.slice Ao28 t585.length co28 : Value).ownBlock)) (n := t579.length) (c := co26) ?_).2.2; exact (by exact (Kd.R_mono (R_far8 (g := gb593) (Kd.R_types HO581.out BK593.out (by decide)) (fun _ hk => hk.2) (.bool t577) (.bool t578) (.slice Ao26 t579.length co26) (.slice Ao27 t582.length co27) (.slice Ao28 t585.length co28) (.slice Ao29 t588.length co29) (.bool t591) (.bool t592)) (fun _ h_ => h_.1)))); (case side2 => exact (Kd.R_reads' HO581.out).2.1); (case side3 => refine (Kd.R_reads' (e := 9) (base := w.heap.size) (ok := fun k_ => (some k_ ≠ (.slice Ao26 t579.length co26 : Value).ownBlock ∧ some k_ ≠ (.slice Ao28 t585.length co28 : Value).ownBlock)) (n := t582.length) (c := co27) ?_).2.2; exact (by exact (Kd.R_mono (R_far8 (g := gb593) (Kd.R_types HO584.out BK593.out (by decide)) (fun _ hk => hk.2) (.bool t577) (.bool t578) (.slice Ao26 t579.length co26) (.slice Ao27 t582.length co27) (.slice Ao28 t585.length co28) (.slice Ao29 t588.length co29) (.bool t591) (.bool t592)) (fun _ h_ => h_.1)))); (case side4 => exact (Kd.R_reads' HO584.out).2.1); (case side5 => refine (Kd.R_reads' (e := 9) (base := w.heap.size) (ok := fun k_ => (some k_ ≠ (.slice Ao26 t579.length co26 : Value).ownBlock ∧ some k_ ≠ (.slice Ao27 t582.length co27 : Value).ownBlock)) (n := t585.length) (c := co28) ?_).2.2; exact (by exact (Kd.R_mono (R_far8 (g := gb593) (Kd.R_types HO587.out BK593.out (by decide)) (fun _ hk => hk.2) (.bool t577) (.bool t578) (.slice Ao26 t579.length co26) (.slice Ao27 t582.length co27) (.slice Ao28 t585.length co28) (.slice Ao29 t588.length co29) (.bool t591) (.bool t592)) (fun _ h_ => h_.1)))); (case side6 => exact (Kd.R_reads' HO587.out).2.1); (case side7 => refine (Kd.N_reads' (e := 35) (base := w.heap.size) (ok := fun k_ => ((some k_ ≠ (.slice Ao26 t579.length co26 : Value).ownBlock ∧ (some k_ ≠ (.slice Ao27 t582.length co27 : Value).ownBlock ∧ (some k_ ≠ (.slice Ao28 t585.length co28 : Value).ownBlock ∧ (some k_ ≠ (.slice Ao18 t567.length co18 : Value).ownBlock ∧ k_ ≠ gb555)))) ∧ k_ ≠ gb593)) (n := t588.length) (c := co29) ?_).2.2; exact (by exact (Kd.N_mono (N_far8 (g := gb593) (Kd.N_mono HO590.out (fun k_ hk => (⟨hk, hk.2⟩ : _ ∧ k_ ≠ gb593))) (fun _ hk => hk.2) (.bool t577) (.bool t578) (.slice Ao26 t579.length co26) (.slice Ao27 t582.length co27) (.slice Ao28 t585.length co28) (.slice Ao29 t588.length co29) (.bool t591) (.bool t592)) (fun _ h_ => h_.1)))); (case side8 => exact (Kd.N_reads' HO590.out).2.1); rintro e w30 ⟨rfl, hb⟩; refine ⟨_, rfl, ?_⟩; have n0_ := Aside0.mk (Kd.V_below (by exact (Kd.V_mono (Kd.V_far (p := ⟨gb593, 7, none⟩) (Kd.V_far (p := ⟨gb593, 6, none⟩) (Kd.V_far (p := ⟨gb593, 5, none⟩) (Kd.V_far (p := ⟨gb593, 4, none⟩) (Kd.V_far (p := ⟨gb593, 3, none⟩) (Kd.V_far (p := ⟨gb593, 2, none⟩) (Kd.V_far (p := ⟨gb593, 1, none⟩) (Kd.V_far (p := ⟨gb593, 0, none⟩) (Kd.V_mono HO560.out (fun k_ hk => (⟨hk, hk.2⟩ : _ ∧ k_ ≠ gb593))) (fun _ hk => hk.2) (.bool t577)) (fun _ hk => hk.2) (.bool t578)) (fun _ hk => hk.2) (.slice Ao26 t579.length co26)) (fun _ hk => hk.2) (.slice Ao27 t582.length co27)) (fun _ hk => hk.2) (.slice Ao28 t585.length co28)) (fun _ hk => hk.2) (.slice Ao29 t588.length co29)) (fun _ hk => hk.2) (.bool t591)) (fun _ hk => hk.2) (.bool t592)) (fun _ h_ => h_.1))) hb); have n1_ := Aside0.mk (Kd.V_below (by exact (Kd.V_mono (Kd.V_far (p := ⟨gb593, 7, none⟩) (Kd.V_far (p := ⟨gb593, 6, none⟩) (Kd.V_far (p := ⟨gb593, 5, none⟩) (Kd.V_far (p := ⟨gb593, 4, none⟩) (Kd.V_far (p := ⟨gb593, 3, none⟩) (Kd.V_far (p := ⟨gb593, 2, none⟩) (Kd.V_far (p := ⟨gb593, 1, none⟩) (Kd.V_far (p := ⟨gb593, 0, none⟩) (Kd.V_mono HO563.out (fun k_ hk => (⟨hk, hk.2⟩ : _ ∧ k_ ≠ gb593))) (fun _ hk => hk.2) (.bool t577)) (fun _ hk => hk.2) (.bool t578)) (fun _ hk => hk.2) (.slice Ao26 t579.length co26)) (fun _ hk => hk.2) (.slice Ao27 t582.length co27)) (fun _ hk => hk.2) (.slice Ao28 t585.length co28)) (fun _ hk => hk.2) (.slice Ao29 t588.length co29)) (fun _ hk => hk.2) (.bool t591)) (fun _ hk => hk.2) (.bool t592)) (fun _ h_ => h_.1))) hb); have n2_ := Aside0.mk (Kd.V_below (by exact (Kd.V_mono (Kd.V_far (p := ⟨gb593, 7, none⟩) (Kd.V_far (p := ⟨gb593, 6, none⟩) (Kd.V_far (p := ⟨gb593, 5, none⟩) (Kd.V_far (p := ⟨gb593, 4, none⟩) (Kd.V_far (p := ⟨gb593, 3, none⟩) (Kd.V_far (p := ⟨gb593, 2, none⟩) (Kd.V_far (p := ⟨gb593, 1, none⟩) (Kd.V_far (p := ⟨gb593, 0, none⟩) (Kd.V_mono HO566.out (fun k_ hk => (⟨hk, hk.2⟩ : _ ∧ k_ ≠ gb593))) (fun _ hk => hk.2) (.bool t577)) (fun _ hk => hk.2) (.bool t578)) (fun _ hk => hk.2) (.slice Ao26 t579.length co26)) (fun _ hk => hk.2) (.slice Ao27 t582.length co27)) (fun _ hk => hk.2) (.slice Ao28 t585.length co28)) (fun _ hk => hk.2) (.slice Ao29 t588.length co29)) (fun _ hk => hk.2) (.bool t591)) (fun _ hk => hk.2) (.bool t592)) (fun _ h_ => h_.1))) hb); have n3_ := Aside0.mk (Kd.N_below (by exact (Kd.N_mono (N_far8 (g := gb593) (Kd.N_mono HO569.out (fun k_ hk => (⟨hk, hk.2⟩ : _ ∧ k_ ≠ gb593))) (fun _ hk => hk.2) (.bool t577) (.bool t578) (.slice Ao26 t579.length co26) (.slice Ao27 t582.length co27) (.slice Ao28 t585.length co28) (.slice Ao29 t588.length co29) (.bool t591) (.bool t592)) (fun _ h_ => h_.1))) hb); have n4_ := Aside0.mk (Kd.V_below (by exact (Kd.V_mono (Kd.V_far (p := ⟨gb593, 7, none⟩) (Kd.V_far (p := ⟨gb593, 6, none⟩) (Kd.V_far (p := ⟨gb593, 5, none⟩) (Kd.V_far (p := ⟨gb593, 4, none⟩) (Kd.V_far (p := ⟨gb593, 3, none⟩) (Kd.V_far (p := ⟨gb593, 2, none⟩) (Kd.V_far (p := ⟨gb593, 1, none⟩) (Kd.V_far (p := ⟨gb593, 0, none⟩) (Kd.V_mono HO576.out (fun k_ hk => (⟨hk, hk.2⟩ : _ ∧ k_ ≠ gb593))) (fun _ hk => hk.2) (.bool t577)) (fun _ hk => hk.2) (.bool t578)) (fun _ hk => hk.2) (.slice Ao26 t579.length co26)) (fun _ hk => hk.2) (.slice Ao27 t582.length co27)) (fun _ hk => hk.2) (.slice Ao28 t585.length co28)) (fun _ hk => hk.2) (.slice Ao29 t588.length co29)) (fun _ hk => hk.2) (.bool t591)) (fun _ hk => hk.2) (.bool t592)) (fun _ h_ => h_.1))) hb); have n5_ := Aside0.mk (Kd.R_below (by exact (Kd.R_mono (R_far8 (g := gb593) (Kd.R_types HO581.out BK593.out (by decide)) (fun _ hk => hk.2) (.bool t577) (.bool t578) (.slice Ao26 t579.length co26) (.slice Ao27 t582.length co27) (.slice Ao28 t585.length co28) (.slice Ao29 t588.length co29) (.bool t591) (.bool t592)) (fun _ h_ => h_.1))) hb); have n6_ := Aside0.mk (Kd.R_below (by exact (Kd.R_mono (R_far8 (g := gb593) (Kd.R_types HO584.out BK593.out (by decide)) (fun _ hk => hk.2) (.bool t577) (.bool t578) (.slice Ao26 t579.length co26) (.slice Ao27 t582.length co27) (.slice Ao28 t585.length co28) (.slice Ao29 t588.length co29) (.bool t591) (.bool t592)) (fun _ h_ => h_.1))) hb); have n7_ := Aside0.mk (Kd.R_below (by exact (Kd.R_mono (R_far8 (g := gb593) (Kd.R_types HO587.out BK593.out (by decide)) (fun _ hk => hk.2) (.bool t577) (.bool t578) (.slice Ao26 t579.length co26) (.slice Ao27 t582.length co27) (.slice Ao28 t585.length co28) (.slice Ao29 t588.length co29) (.bool t591) (.bool t592)) (fun _ h_ => h_.1))) hb); have n8_ := Aside0.mk (Kd.N_below (by exact (Kd.N_mono (N_far8 (g := gb593) (Kd.N_mono HO590.out (fun k_ hk => (⟨hk, hk.2⟩ : _ ∧ k_ ≠ gb593))) (fun _ hk => hk.2) (.bool t577) (.bool t578) (.slice Ao26 t579.length co26) (.slice Ao27 t582.length co27) (.slice Ao28 t585.length co28) (.slice Ao29 t588.length co29) (.bool t591) (.bool t592)) (fun _ h_ => h_.1))) hb); have n9_ := Aside0.mk (blk_below (g := gb555) (o := .cells #[.bool t556, .bool t557, .slice Ao15 y572.length co15, .slice Ao16 t561.length co16, .slice Ao17 t564.length co17, .slice Ao18 t567.length co18, .bool t570, .bool t571] 25 (0, 0)) (by refine blk_far ?_ NB555_593.out _; refine blk_far ?_ NB555_593.out _; refine blk_far ?_ NB555_593.out _; refine blk_far ?_ NB555_593.out _; refine blk_far ?_ NB555_593.out _; refine blk_far ?_ NB555_593.out _; refine blk_far ?_ NB555_593.out _; refine blk_far ?_ NB555_593.out _; exact BK555.out) hb); have n10_ := Aside0.mk (blk_below (g := gb593) (o := .cells #[.bool t577, .bool t578, .slice Ao26 t579.length co26, .slice Ao27 t582.length co27, .slice Ao28 t585.length co28, .slice Ao29 t588.length co29, .bool t591, .bool t592] 25 (0, 0)) (by refine blk_put (cs := #[.bool t577, .bool t578, .slice Ao26 t579.length co26, .slice Ao27 t582.length co27, .slice Ao28 t585.length co28, .slice Ao29 t588.length co29, .bool t591, .bool false]) ?_ 7 _ rfl; refine blk_put (cs := #[.bool t577, .bool t578, .slice Ao26 t579.length co26, .slice Ao27 t582.length co27, .slice Ao28 t585.length co28, .slice Ao29 t588.length co29, .bool false, .bool false]) ?_ 6 _ rfl; refine blk_put (cs := #[.bool t577, .bool t578, .slice Ao26 t579.length co26, .slice Ao27 t582.length co27, .slice Ao28 t585.length co28, .slice none 0 0, .bool false, .bool false]) ?_ 5 _ rfl; refine blk_put (cs := #[.bool t577, .bool t578, .slice Ao26 t579.length co26, .slice Ao27 t582.length co27, .slice none 0 0, .slice none 0 0, .bool false, .bool false]) ?_ 4 _ rfl; refine blk_put (cs := #[.bool t577, .bool t578, .slice Ao26 t579.length co26, .slice none 0 0, .slice none 0 0, .slice none 0 0, .bool false, .bool false]) ?_ 3 _ rfl; refine blk_put (cs := #[.bool t577, .bool t578, .slice none 0 0, .slice none 0 0, .slice none 0 0, .slice none 0 0, .bool false, .bool false]) ?_ 2 _ rfl; refine blk_put (cs := #[.bool t577, .bool false, .slice none 0 0, .slice none 0 0, .slice none 0 0, .slice none 0 0, .bool false, .bool false]) ?_ 1 _ rfl; refine blk_put (cs := #[.bool false, .bool false, .slice none 0 0, .slice none 0 0, .slice none 0 0, .slice none 0 0, .bool false, .bool false]) ?_ 0 _ rfl; exact BK593.out) hb); have n11_ := Aside0.mk (below_step (by repeat (first | (with_reducible first | exact HB.out | apply below_alloc | apply pw_below_drewN | apply below_drew1 | refine below_set ?_ GE555.out | refine below_set ?_ GE593.out) | exact HB.out)) hb); clear HO560; clear HO563; clear HO566; clear HO569; clear HO576; clear HO581; clear HO584; clear HO587; clear HO590; clear BK555; clear BK593; clear HB; have HO560 := n0_; have HO563 := n1_; have HO566 := n2_; have HO569 := n3_; have HO576 := n4_; have HO581 := n5_; have HO584 := n6_; have HO587 := n7_; have HO590 := n8_; have BK555 := n9_; have BK593 := n10_; have HB := n11_; clear n0_ n1_ n2_ n3_ n4_ n5_ n6_ n7_ n8_ n9_ n10_ n11_; (try clear hb); (try clear hb2); (try clear hk); (try clear hi)))
   (try simp only [Act.put, List.setIfInBounds_toArray, List.set_cons_zero, List.set_cons_succ])
   go_cut [42] (fun v42 wc => ∃ (kq : Nat) (x42_9 : Bool), v42 = .bool x42_9 ∧ Aside0 (boltinglaw12_ConfigStrip.j0 kq a1 t594 x42_9 t556 t557 y572 t561 t564 t567 t570 t571 = some r) ∧ Aside0 (kq ≤ k) ∧ Aside0 (Kd.V Kd.string 9 wc w.heap.size (fun k_ => some k_ ≠ ((.slice Ao18 t567.length co18) : Value).ownBlock ∧ some k_ ≠ ((.slice Ao26 t579.length co26) : Value).ownBlock ∧ some k_ ≠ ((.slice Ao27 t582.length co27) : Value).ownBlock ∧ some k_ ≠ ((.slice Ao28 t585.length co28) : Value).ownBlock ∧ some k_ ≠ ((.slice Ao29 t588.length co29) : Value).ownBlock ∧ k_ ≠ gb555 ∧ k_ ≠ gb593) (.slice Ao15 y572.length co15) y572) ∧ Aside0 (Kd.V Kd.string 9 wc w.heap.size (fun k_ => some k_ ≠ ((.slice Ao18 t567.length co18) : Value).ownBlock ∧ some k_ ≠ ((.slice Ao26 t579.length co26) : Value).ownBlock ∧ some k_ ≠ ((.slice Ao27 t582.length co27) : Value).ownBlock ∧ some k_ ≠ ((.slice Ao28 t585.length co28) : Value).ownBlock ∧ some k_ ≠ ((.slice Ao29 t588.length co29) : Value).ownBlock ∧ k_ ≠ gb555 ∧ k_ ≠ gb593) (.slice Ao16 t561.length co16) t561) ∧ Aside0 (Kd.V Kd.string 9 wc w.heap.size (fun k_ => some k_ ≠ ((.slice Ao18 t567.length co18) : Value).ownBlock ∧ some k_ ≠ ((.slice Ao26 t579.length co26) : Value).ownBlock ∧ some k_ ≠ ((.slice Ao27 t582.length co27) : Value).ownBlock ∧ some k_ ≠ ((.slice Ao28 t585.length co28) : Value).ownBlock ∧ some k_ ≠ ((.slice Ao29 t588.length co29) : Value).ownBlock ∧ k_ ≠ gb555 ∧ k_ ≠ gb593) (.slice Ao17 t564.length co17) t564) ∧ Aside0 (Kd.N k35 35 wc w.heap.size (fun k_ => some k_ ≠ ((.slice Ao26 t579.length co26) : Value).ownBlock ∧ some k_ ≠ ((.slice Ao27 t582.length co27) : Value).ownBlock ∧ some k_ ≠ ((.slice Ao28 t585.length co28) : Value).ownBlock ∧ some k_ ≠ ((.slice Ao29 t588.length co29) : Value).ownBlock ∧ k_ ≠ gb555 ∧ k_ ≠ gb593) (.slice Ao18 t567.length co18) t567) ∧ Aside0 (Kd.R Kd.string 9 wc w.heap.size (fun k_ => some k_ ≠ ((.slice Ao27 t582.length co27) : Value).ownBlock ∧ some k_ ≠ ((.slice Ao28 t585.length co28) : Value).ownBlock) (.slice Ao26 t579.length co26) t579) ∧ Aside0 (Kd.R Kd.string 9 wc w.heap.size (fun k_ => some k_ ≠ ((.slice Ao26 t579.length co26) : Value).ownBlock ∧ some k_ ≠ ((.slice Ao28 t585.length co28) : Value).ownBlock) (.slice Ao27 t582.length co27) t582) ∧ Aside0 (Kd.R Kd.string 9 wc w.heap.size (fun k_ => some k_ ≠ ((.slice Ao26 t579.length co26) : Value).ownBlock ∧ some k_ ≠ ((.slice Ao27 t582.length co27) : Value).ownBlock) (.slice Ao28 t585.length co28) t585) ∧ Aside0 (Kd.N k35 35 wc w.heap.size (fun k_ => some k_ ≠ ((.slice Ao18 t567.length co18) : Value).ownBlock ∧ some k_ ≠ ((.slice Ao26 t579.length co26) : Value).ownBlock ∧ some k_ ≠ ((.slice Ao27 t582.length co27) : Value).ownBlock ∧ some k_ ≠ ((.slice Ao28 t585.length co28) : Value).ownBlock ∧ k_ ≠ gb555 ∧ k_ ≠ gb593) (.slice Ao29 t588.length co29) t588) ∧ Aside0 (wc.heap[gb555]? = some (.cells #[.bool t556, .bool t557, (.slice Ao15 y572.length co15), (.slice Ao16 t561.length co16), (.slice Ao17 t564.length co17), (.slice Ao18 t567.length co18), .bool t570, .bool t571] 25 (0, 0))) ∧ Aside0 (wc.heap[gb593]? = some (.cells #[.bool t577, .bool t578, (.slice Ao26 t579.length co26), (.slice Ao27 t582.length co27), (.slice Ao28 t585.length co28), (.slice Ao29 t588.length co29), .bool t591, .bool t592] 25 (0, 0))) ∧ Aside0 (Below w.heap.size w wc))
   case first =>
    have H := HC10.out
    clear HC10
    replace H := Option.bind_eq_some_iff.mp H
    obtain ⟨t595, A310, H⟩ := H
    have A31 := Aside0.mk A310
    clear A310
    replace H := Option.bind_eq_some_iff.mp H
    obtain ⟨t596, A320, H⟩ := H
    have A32 := Aside0.mk A320
    clear A320
    by_cases c33 : (t595 != t596) = true
    ·rw [if_pos c33] at H
     have c33b0 : (t595 != t596) = true := c33
     (try (have c33b1 : decide (t595 = t596) = false := by simpa using c33))
     (try (have c33b2 : (t595 == t596) = false := by simpa using c33))
     (try (have c33b3 : ¬ (t595 = t596) := by simpa using c33))
     clear c33
     (first | rw [c33b0] | (simp only [i64_w, i32_w]; rw [c33b0]) | skip)
     have H' := Aside0.mk H
     clear H
     try go_wp2
     have n0_ := Aside0.mk (Kd.V_drew HO560.out)
     have n1_ := Aside0.mk (Kd.V_drew HO563.out)
     have n2_ := Aside0.mk (Kd.V_drew HO566.out)
     have n3_ := Aside0.mk (Kd.N_drew HO569.out)
     have n4_ := Aside0.mk (Kd.V_drew HO576.out)
     have n5_ := Aside0.mk (Kd.R_drew HO581.out)
     have n6_ := Aside0.mk (Kd.R_drew HO584.out)
     have n7_ := Aside0.mk (Kd.R_drew HO587.out)
     have n8_ := Aside0.mk (Kd.N_drew HO590.out)
     have n9_ := Aside0.mk (blk_drew BK555.out)
     have n10_ := Aside0.mk (blk_drew BK593.out)
     have n11_ := Aside0.mk (below_drew1 HB.out)
     clear HO560
     clear HO563
     clear HO566
     clear HO569
     clear HO576
     clear HO581
     clear HO584
     clear HO587
     clear HO590
     clear BK555
     clear BK593
     clear HB
     have HO560 := n0_
     have HO563 := n1_
     have HO566 := n2_
     have HO569 := n3_
     have HO576 := n4_
     have HO581 := n5_
     have HO584 := n6_
     have HO587 := n7_
     have HO590 := n8_
     have BK555 := n9_
     have BK593 := n10_
     have HB := n11_
     clear n0_ n1_ n2_ n3_ n4_ n5_ n6_ n7_ n8_ n9_ n10_ n11_
     refine start_ (n := 19) (S := fun w' => w'.cell? ⟨gb555, 0, none⟩ = some (.bool t556) ∧ w'.cell? ⟨gb555, 1, none⟩ = some (.bool t557) ∧ w'.cell? ⟨gb555, 2, none⟩ = some (.slice Ao15 y572.length co15) ∧ w'.cell? ⟨gb555, 3, none⟩ = some (.slice Ao16 t561.length co16) ∧ w'.cell? ⟨gb555, 4, none⟩ = some (.slice Ao17 t564.length co17) ∧ w'.cell? ⟨gb555, 5, none⟩ = some (.slice Ao18 t567.length co18) ∧ w'.cell? ⟨gb555, 6, none⟩ = some (.bool t570) ∧ w'.cell? ⟨gb555, 7, none⟩ = some (.bool t571) ∧ w'.cell? ⟨gb593, 0, none⟩ = some (.bool t577) ∧ w'.cell? ⟨gb593, 1, none⟩ = some (.bool t578) ∧ w'.cell? ⟨gb593, 2, none⟩ = some (.slice Ao26 t579.length co26) ∧ w'.cell? ⟨gb593, 3, none⟩ = some (.slice Ao27 t582.length co27) ∧ w'.cell? ⟨gb593, 4, none⟩ = some (.slice Ao28 t585.length co28) ∧ w'.cell? ⟨gb593, 5, none⟩ = some (.slice Ao29 t588.length co29) ∧ w'.cell? ⟨gb593, 6, none⟩ = some (.bool t591) ∧ w'.cell? ⟨gb593, 7, none⟩ = some (.bool t592)) (ds := []) (tf 0 19) (by kernel_rfl) rfl rfl ⟨(blk_cell BK555.out 0).trans rfl, (blk_cell BK555.out 1).trans rfl, (blk_cell BK555.out 2).trans rfl, (blk_cell BK555.out 3).trans rfl, (blk_cell BK555.out 4).trans rfl, (blk_cell BK555.out 5).trans rfl, (blk_cell BK555.out 6).trans rfl, (blk_cell BK555.out 7).trans rfl, (blk_cell BK593.out 0).trans rfl, (blk_cell BK593.out 1).trans rfl, (blk_cell BK593.out 2).trans rfl, (blk_cell BK593.out 3).trans rfl, (blk_cell BK593.out 4).trans rfl, (blk_cell BK593.out 5).trans rfl, (blk_cell BK593.out 6).trans rfl, (blk_cell BK593.out 7).trans rfl⟩ (fun hHeld => ?_); refine with_tabW boltinglaw12_ConfigStrip.tab5 boltinglaw12_ConfigStrip.bits5 (fun HT_ HW_ => ?_)
     generalize w30.drew = w34 at HO560 HO563 HO566 HO569 HO576 HO581 HO584 HO587 HO590 BK555 BK593 HB hHeld ⊢
     refine pure_ (i := 1) (N := some 25) (v := ?_) (a' := ?_) #[false, true, false, false, false, false, false, false, false, false, false, false, false, false, false, false, false, false, false] rfl rfl (any_of HT_.out (by kernel_rfl)) (fun _ _ _ h => h) (Or.inl ⟨by rfl, ?_⟩) ?_ ?_
     rotate_left
     ·intro w'
      go_simp
      with_reducible rfl
     rotate_left
     ·simp only [Act.put, List.setIfInBounds_toArray, List.set_cons_zero, List.set_cons_succ, i64_w, i32_w]
      rfl
     refine pure_ (i := 2) (N := some 26) (v := ?_) (a' := ?_) #[false, true, true, false, false, false, false, false, false, false, false, false, false, false, false, false, false, false, false] rfl rfl (any_of HT_.out (by kernel_rfl)) (fun _ _ _ h => h) (Or.inl ⟨by rfl, ?_⟩) ?_ ?_
     rotate_left
     ·intro w'
      go_simp
      with_reducible rfl
     rotate_left
     ·simp only [Act.put, List.setIfInBounds_toArray, List.set_cons_zero, List.set_cons_succ, i64_w, i32_w]
      rfl
     refine pure_ (i := 5) (N := some 29) (v := ?_) (a' := ?_) #[false, true, true, false, false, true, false, false, false, false, false, false, false, false, false, false, false, false, false] rfl rfl (any_of HT_.out (by kernel_rfl)) (fun _ _ _ h => h) (Or.inl ⟨by rfl, ?_⟩) ?_ ?_
     rotate_left
     ·intro w'
      go_simp
      with_reducible rfl
     rotate_left
     ·simp only [Act.put, List.setIfInBounds_toArray, List.set_cons_zero, List.set_cons_succ, i64_w, i32_w]
      rfl
     refine pure_ (i := 6) (N := some 30) (v := ?_) (a' := ?_) #[false, true, true, false, false, true, true, false, false, false, false, false, false, false, false, false, false, false, false] rfl rfl (any_of HT_.out (by kernel_rfl)) (fun _ _ _ h => h) (Or.inl ⟨by rfl, ?_⟩) ?_ ?_
     rotate_left
     ·intro w'
      go_simp
      with_reducible rfl
     rotate_left
     ·simp only [Act.put, List.setIfInBounds_toArray, List.set_cons_zero, List.set_cons_succ, i64_w, i32_w]
      rfl
     refine take_ (i := 0) (N := some 24) (v := ?_) (a' := ?_) #[true, true, true, false, false, true, true, false, false, false, false, false, false, false, false, false, false, false, false] rfl rfl (take_ofW HT_.out HW_.out (by kernel_rfl)) (fun _ _ _ h => h) (Or.inl ⟨by rfl, ?_⟩) hHeld ?_ ?_
     rotate_left
     ·rintro w' ⟨s0, s1, s2, s3, s4, s5, s6, s7, s8, s9, s10, s11, s12, s13, s14, s15⟩
      go_simp
      with_reducible rfl
     rotate_left
     ·simp only [Act.put, List.setIfInBounds_toArray, List.set_cons_zero, List.set_cons_succ, i64_w, i32_w]
      rfl
     refine take_ (i := 4) (N := some 28) (v := ?_) (a' := ?_) #[true, true, true, false, true, true, true, false, false, false, false, false, false, false, false, false, false, false, false] rfl rfl (take_ofW HT_.out HW_.out (by kernel_rfl)) (fun _ _ _ h => h) (Or.inl ⟨by rfl, ?_⟩) hHeld ?_ ?_
     rotate_left
     ·rintro w' ⟨s0, s1, s2, s3, s4, s5, s6, s7, s8, s9, s10, s11, s12, s13, s14, s15⟩
      go_simp
      with_reducible rfl
     rotate_left
     ·simp only [Act.put, List.setIfInBounds_toArray, List.set_cons_zero, List.set_cons_succ, i64_w, i32_w]
      rfl
     refine one_ (i := 3) (N := some 27) (tf 7 12) rfl rfl (one_of HT_.out (by kernel_rfl)) (by decide) (fun K hK => ?_)
     refine goes_ Try.func15 (by kernel_rfl) rfl #[.agg #[.bool t556, .bool t557, .slice Ao15 y572.length co15, .slice Ao16 t561.length co16, .slice Ao17 t564.length co17, .slice Ao18 t567.length co18, .bool t570, .bool t571], .string a1, .string a2] (by rfl) rfl rfl (by (try simp only [List.map_toArray, List.map_cons, List.map_nil]); first | done | rfl | (simp only [List.length_drop, List.length_take]; rfl)) ?_
     with_reducible refine (config_Attr.calls t556 t557 _ _ y572 _ _ t561 _ _ t564 _ _ t567 t570 t571 a1 a2 t595 _ ?side1 ?side2 ?side3 ?side4 ?side5 ?side6 ?side7 ?side8 A31.out).mono ?_
     (case side1 => repeat (first | exact (Kd.V_reads' HO576.out).2.2 | (with_reducible refine Kd.C_alloc ?_ _) | (with_reducible refine Kd.C_drewN ?_ _) | (with_reducible refine Kd.C_drew ?_)))
     (case side2 => exact (Kd.V_reads' HO576.out).2.1)
     (case side3 => repeat (first | exact (Kd.V_reads' HO563.out).2.2 | (with_reducible refine Kd.C_alloc ?_ _) | (with_reducible refine Kd.C_drewN ?_ _) | (with_reducible refine Kd.C_drew ?_)))
     (case side4 => exact (Kd.V_reads' HO563.out).2.1)
     (case side5 => repeat (first | exact (Kd.V_reads' HO566.out).2.2 | (with_reducible refine Kd.C_alloc ?_ _) | (with_reducible refine Kd.C_drewN ?_ _) | (with_reducible refine Kd.C_drew ?_)))
     (case side6 => exact (Kd.V_reads' HO566.out).2.1)
     (case side7 => repeat (first | exact (Kd.N_reads' HO569.out).2.2 | (with_reducible refine Kd.C_alloc ?_ _) | (with_reducible refine Kd.C_drewN ?_ _) | (with_reducible refine Kd.C_drew ?_)))
     (case side8 => exact (Kd.N_reads' HO569.out).2.1)
     rintro e w35 ⟨rfl, hb⟩
     refine ⟨_, rfl, ?_⟩
     have n0_ := Aside0.mk (Kd.V_below (by exact HO560.out) hb)
     have n1_ := Aside0.mk (Kd.V_below (by exact HO563.out) hb)
     have n2_ := Aside0.mk (Kd.V_below (by exact HO566.out) hb)
     have n3_ := Aside0.mk (Kd.N_below (by exact HO569.out) hb)
     have n4_ := Aside0.mk (Kd.V_below (by exact HO576.out) hb)
     have n5_ := Aside0.mk (Kd.R_below (by exact HO581.out) hb)
     have n6_ := Aside0.mk (Kd.R_below (by exact HO584.out) hb)
     have n7_ := Aside0.mk (Kd.R_below (by exact HO587.out) hb)
     have n8_ := Aside0.mk (Kd.N_below (by exact HO590.out) hb)
     have n9_ := Aside0.mk (blk_below (g := gb555) (o := .cells #[.bool t556, .bool t557, .slice Ao15 y572.length co15, .slice Ao16 t561.length co16, .slice Ao17 t564.length co17, .slice Ao18 t567.length co18, .bool t570, .bool t571] 25 (0, 0)) (by exact BK555.out) hb)
     have n10_ := Aside0.mk (blk_below (g := gb593) (o := .cells #[.bool t577, .bool t578, .slice Ao26 t579.length co26, .slice Ao27 t582.length co27, .slice Ao28 t585.length co28, .slice Ao29 t588.length co29, .bool t591, .bool t592] 25 (0, 0)) (by exact BK593.out) hb)
     have n11_ := Aside0.mk (below_step (by repeat (first | (with_reducible first | exact HB.out | apply below_alloc | apply pw_below_drewN | apply below_drew1 | refine below_set ?_ GE555.out | refine below_set ?_ GE593.out) | exact HB.out)) hb)
     clear HO560
     clear HO563
     clear HO566
     clear HO569
     clear HO576
     clear HO581
     clear HO584
     clear HO587
     clear HO590
     clear BK555
     clear BK593
     clear HB
     have HO560 := n0_
     have HO563 := n1_
     have HO566 := n2_
     have HO569 := n3_
     have HO576 := n4_
     have HO581 := n5_
     have HO584 := n6_
     have HO587 := n7_
     have HO590 := n8_
     have BK555 := n9_
     have BK593 := n10_
     have HB := n11_
     clear n0_ n1_ n2_ n3_ n4_ n5_ n6_ n7_ n8_ n9_ n10_ n11_
     (try clear hb)
     (try clear hb2)
     (try clear hk)
     (try clear hi)
     refine hK.out _ _ ⟨(blk_cell BK555.out 0).trans rfl, (blk_cell BK555.out 1).trans rfl, (blk_cell BK555.out 2).trans rfl, (blk_cell BK555.out 3).trans rfl, (blk_cell BK555.out 4).trans rfl, (blk_cell BK555.out 5).trans rfl, (blk_cell BK555.out 6).trans rfl, (blk_cell BK555.out 7).trans rfl, (blk_cell BK593.out 0).trans rfl, (blk_cell BK593.out 1).trans rfl, (blk_cell BK593.out 2).trans rfl, (blk_cell BK593.out 3).trans rfl, (blk_cell BK593.out 4).trans rfl, (blk_cell BK593.out 5).trans rfl, (blk_cell BK593.out 6).trans rfl, (blk_cell BK593.out 7).trans rfl⟩ (fun hHeld => ?_)
     clear hK K
     refine norm_ (a' := ?_) ?_ ?_
     rotate_left
     ·show Act.put _ (some 27) _ = _
      simp only [Act.put, List.setIfInBounds_toArray, List.set_cons_zero, List.set_cons_succ, i64_w, i32_w]
      rfl
     refine one_ (i := 7) (N := some 31) (tf 8 11) rfl rfl (one_of HT_.out (by kernel_rfl)) (by decide) (fun K hK => ?_)
     refine goes_ Try.func15 (by kernel_rfl) rfl #[.agg #[.bool t577, .bool t578, .slice Ao26 t579.length co26, .slice Ao27 t582.length co27, .slice Ao28 t585.length co28, .slice Ao29 t588.length co29, .bool t591, .bool t592], .string a1, .string a2] (by rfl) rfl rfl (by (try simp only [List.map_toArray, List.map_cons, List.map_nil]); first | done | rfl | (simp only [List.length_drop, List.length_take]; rfl)) ?_
     with_reducible refine (config_Attr.calls t577 t578 _ _ t579 _ _ t582 _ _ t585 _ _ t588 t591 t592 a1 a2 t596 _ ?side1 ?side2 ?side3 ?side4 ?side5 ?side6 ?side7 ?side8 A32.out).mono ?_
     (case side1 => repeat (first | exact (Kd.R_reads' HO581.out).2.2 | (with_reducible refine Kd.C_alloc ?_ _) | (with_reducible refine Kd.C_drewN ?_ _) | (with_reducible refine Kd.C_drew ?_)))
     (case side2 => exact (Kd.R_reads' HO581.out).2.1)
     (case side3 => repeat (first | exact (Kd.R_reads' HO584.out).2.2 | (with_reducible refine Kd.C_alloc ?_ _) | (with_reducible refine Kd.C_drewN ?_ _) | (with_reducible refine Kd.C_drew ?_)))
     (case side4 => exact (Kd.R_reads' HO584.out).2.1)
     (case side5 => repeat (first | exact (Kd.R_reads' HO587.out).2.2 | (with_reducible refine Kd.C_alloc ?_ _) | (with_reducible refine Kd.C_drewN ?_ _) | (with_reducible refine Kd.C_drew ?_)))
     (case side6 => exact (Kd.R_reads' HO587.out).2.1)
     (case side7 => repeat (first | exact (Kd.N_reads' HO590.out).2.2 | (with_reducible refine Kd.C_alloc ?_ _) | (with_reducible refine Kd.C_drewN ?_ _) | (with_reducible refine Kd.C_drew ?_)))
     (case side8 => exact (Kd.N_reads' HO590.out).2.1)
     rintro e w36 ⟨rfl, hb⟩
     refine ⟨_, rfl, ?_⟩
     have n0_ := Aside0.mk (Kd.V_below (by exact HO560.out) hb)
     have n1_ := Aside0.mk (Kd.V_below (by exact HO563.out) hb)
     have n2_ := Aside0.mk (Kd.V_below (by exact HO566.out) hb)
     have n3_ := Aside0.mk (Kd.N_below (by exact HO569.out) hb)
     have n4_ := Aside0.mk (Kd.V_below (by exact HO576.out) hb)
     have n5_ := Aside0.mk (Kd.R_below (by exact HO581.out) hb)
     have n6_ := Aside0.mk (Kd.R_below (by exact HO584.out) hb)
     have n7_ := Aside0.mk (Kd.R_below (by exact HO587.out) hb)
     have n8_ := Aside0.mk (Kd.N_below (by exact HO590.out) hb)
     have n9_ := Aside0.mk (blk_below (g := gb555) (o := .cells #[.bool t556, .bool t557, .slice Ao15 y572.length co15, .slice Ao16 t561.length co16, .slice Ao17 t564.length co17, .slice Ao18 t567.length co18, .bool t570, .bool t571] 25 (0, 0)) (by exact BK555.out) hb)
     have n10_ := Aside0.mk (blk_below (g := gb593) (o := .cells #[.bool t577, .bool t578, .slice Ao26 t579.length co26, .slice Ao27 t582.length co27, .slice Ao28 t585.length co28, .slice Ao29 t588.length co29, .bool t591, .bool t592] 25 (0, 0)) (by exact BK593.out) hb)
     have n11_ := Aside0.mk (below_step (by repeat (first | (with_reducible first | exact HB.out | apply below_alloc | apply pw_below_drewN | apply below_drew1 | refine below_set ?_ GE555.out | refine below_set ?_ GE593.out) | exact HB.out)) hb)
     clear HO560
     clear HO563
     clear HO566
     clear HO569
     clear HO576
     clear HO581
     clear HO584
     clear HO587
     clear HO590
     clear BK555
     clear BK593
     clear HB
     have HO560 := n0_
     have HO563 := n1_
     have HO566 := n2_
     have HO569 := n3_
     have HO576 := n4_
     have HO581 := n5_
     have HO584 := n6_
     have HO587 := n7_
     have HO590 := n8_
     have BK555 := n9_
     have BK593 := n10_
     have HB := n11_
     clear n0_ n1_ n2_ n3_ n4_ n5_ n6_ n7_ n8_ n9_ n10_ n11_
     (try clear hb)
     (try clear hb2)
     (try clear hk)
     (try clear hi)
     refine hK.out _ _ ⟨(blk_cell BK555.out 0).trans rfl, (blk_cell BK555.out 1).trans rfl, (blk_cell BK555.out 2).trans rfl, (blk_cell BK555.out 3).trans rfl, (blk_cell BK555.out 4).trans rfl, (blk_cell BK555.out 5).trans rfl, (blk_cell BK555.out 6).trans rfl, (blk_cell BK555.out 7).trans rfl, (blk_cell BK593.out 0).trans rfl, (blk_cell BK593.out 1).trans rfl, (blk_cell BK593.out 2).trans rfl, (blk_cell BK593.out 3).trans rfl, (blk_cell BK593.out 4).trans rfl, (blk_cell BK593.out 5).trans rfl, (blk_cell BK593.out 6).trans rfl, (blk_cell BK593.out 7).trans rfl⟩ (fun hHeld => ?_)
     clear hK K
     refine norm_ (a' := ?_) ?_ ?_
     rotate_left
     ·show Act.put _ (some 31) _ = _
      simp only [Act.put, List.setIfInBounds_toArray, List.set_cons_zero, List.set_cons_succ, i64_w, i32_w]
      rfl
     refine pure_ (i := 8) (N := some 32) (v := ?_) (a' := ?_) (tf 9 10) rfl rfl (any_of HT_.out (by kernel_rfl)) (fun _ _ _ h => h) (Or.inl ⟨by rfl, ?_⟩) ?_ ?_
     rotate_left
     ·intro w'
      go_simp
      with_reducible rfl
     rotate_left
     ·simp only [Act.put, List.setIfInBounds_toArray, List.set_cons_zero, List.set_cons_succ, i64_w, i32_w]
      rfl
     refine pure_ (i := 9) (N := some 33) (v := ?_) (a' := ?_) (tf 10 9) rfl rfl (any_of HT_.out (by kernel_rfl)) (fun _ _ _ h => h) (Or.inl ⟨by rfl, ?_⟩) ?_ ?_
     rotate_left
     ·intro w'
      go_simp
      with_reducible rfl
     rotate_left
     ·simp only [Act.put, List.setIfInBounds_toArray, List.set_cons_zero, List.set_cons_succ, i64_w, i32_w]
      rfl
     refine pure_ (i := 10) (N := some 34) (v := undef) (a' := ?_) (tf 11 8) rfl rfl (any_of HT_.out (by kernel_rfl)) (fun _ _ _ h => h) (Or.inr ⟨by rfl, rfl⟩) ?_ ?_
     rotate_left
     ·simp only [Act.put, List.setIfInBounds_toArray, List.set_cons_zero, List.set_cons_succ, i64_w, i32_w]
      rfl
     refine pure_ (i := 11) (N := some 35) (v := undef) (a' := ?_) (tf 12 7) rfl rfl (any_of HT_.out (by kernel_rfl)) (fun _ _ _ h => h) (Or.inr ⟨by rfl, rfl⟩) ?_ ?_
     rotate_left
     ·simp only [Act.put, List.setIfInBounds_toArray, List.set_cons_zero, List.set_cons_succ, i64_w, i32_w]
      rfl
     refine pure_ (i := 12) (N := some 36) (v := undef) (a' := ?_) (tf 13 6) rfl rfl (any_of HT_.out (by kernel_rfl)) (fun _ _ _ h => h) (Or.inr ⟨by rfl, rfl⟩) ?_ ?_
     rotate_left
     ·simp only [Act.put, List.setIfInBounds_toArray, List.set_cons_zero, List.set_cons_succ, i64_w, i32_w]
      rfl
     refine pure_ (i := 13) (N := some 37) (v := undef) (a' := ?_) (tf 14 5) rfl rfl (any_of HT_.out (by kernel_rfl)) (fun _ _ _ h => h) (Or.inr ⟨by rfl, rfl⟩) ?_ ?_
     rotate_left
     ·simp only [Act.put, List.setIfInBounds_toArray, List.set_cons_zero, List.set_cons_succ, i64_w, i32_w]
      rfl
     refine pure_ (i := 14) (N := some 38) (v := undef) (a' := ?_) (tf 15 4) rfl rfl (any_of HT_.out (by kernel_rfl)) (fun _ _ _ h => h) (Or.inr ⟨by rfl, rfl⟩) ?_ ?_
     rotate_left
     ·simp only [Act.put, List.setIfInBounds_toArray, List.set_cons_zero, List.set_cons_succ, i64_w, i32_w]
      rfl
     refine pure_ (i := 15) (N := some 39) (v := undef) (a' := ?_) (tf 16 3) rfl rfl (any_of HT_.out (by kernel_rfl)) (fun _ _ _ h => h) (Or.inr ⟨by rfl, rfl⟩) ?_ ?_
     rotate_left
     ·simp only [Act.put, List.setIfInBounds_toArray, List.set_cons_zero, List.set_cons_succ, i64_w, i32_w]
      rfl
     refine pure_ (i := 16) (N := some 40) (v := undef) (a' := ?_) (tf 17 2) rfl rfl (any_of HT_.out (by kernel_rfl)) (fun _ _ _ h => h) (Or.inr ⟨by rfl, rfl⟩) ?_ ?_
     rotate_left
     ·simp only [Act.put, List.setIfInBounds_toArray, List.set_cons_zero, List.set_cons_succ, i64_w, i32_w]
      rfl
     refine pure_ (i := 17) (N := some 41) (v := undef) (a' := ?_) (tf 18 1) rfl rfl (any_of HT_.out (by kernel_rfl)) (fun _ _ _ h => h) (Or.inr ⟨by rfl, rfl⟩) ?_ ?_
     rotate_left
     ·simp only [Act.put, List.setIfInBounds_toArray, List.set_cons_zero, List.set_cons_succ, i64_w, i32_w]
      rfl
     refine pure_ (i := 18) (N := some 42) (v := ?_) (a' := ?_) (tf 19 0) rfl rfl (any_of HT_.out (by kernel_rfl)) (fun _ _ _ h => h) (Or.inl ⟨by rfl, ?_⟩) ?_ ?_
     rotate_left
     ·intro w'
      go_simp
      with_reducible rfl
     rotate_left
     ·simp only [Act.put, List.setIfInBounds_toArray, List.set_cons_zero, List.set_cons_succ, i64_w, i32_w]
      rfl
     refine done_ (done_of HT_.out (by kernel_rfl)) ?_
     try go_wp2
     go_meet
     case rel => exact ⟨_, (true), (by first | rfl | (simp; done) | (simp [*]; done)), H', ⟨by first | omega | exact Nat.le_refl _⟩, ⟨by exact Kd.V_mono HO576.out (fun _ hk => ⟨hk.1.1.1.1.1.1, ⟨hk.1.1.1.1.2, ⟨hk.1.1.1.2, ⟨hk.1.1.2, ⟨hk.1.2, ⟨hk.1.1.1.1.1.2, hk.2⟩⟩⟩⟩⟩⟩)⟩, ⟨by exact Kd.V_mono HO563.out (fun _ hk => ⟨hk.1.1.1.1.1.1, ⟨hk.1.1.1.1.2, ⟨hk.1.1.1.2, ⟨hk.1.1.2, ⟨hk.1.2, ⟨hk.1.1.1.1.1.2, hk.2⟩⟩⟩⟩⟩⟩)⟩, ⟨by exact Kd.V_mono HO566.out (fun _ hk => ⟨hk.1.1.1.1.1.1, ⟨hk.1.1.1.1.2, ⟨hk.1.1.1.2, ⟨hk.1.1.2, ⟨hk.1.2, ⟨hk.1.1.1.1.1.2, hk.2⟩⟩⟩⟩⟩⟩)⟩, ⟨by exact Kd.N_mono HO569.out (fun _ hk => ⟨hk.1.1.1.1.2, ⟨hk.1.1.1.2, ⟨hk.1.1.2, ⟨hk.1.2, ⟨hk.1.1.1.1.1, hk.2⟩⟩⟩⟩⟩)⟩, ⟨by exact HO581.out⟩, ⟨by exact HO584.out⟩, ⟨by exact HO587.out⟩, ⟨by exact Kd.N_mono HO590.out (fun _ hk => ⟨hk.1.2.2.2.1, ⟨hk.1.1, ⟨hk.1.2.1, ⟨hk.1.2.2.1, ⟨hk.1.2.2.2.2, hk.2⟩⟩⟩⟩⟩)⟩, ⟨by exact BK555.out⟩, ⟨by exact BK593.out⟩, ⟨by repeat (first | (with_reducible first | exact HB.out | apply below_alloc | apply pw_below_drewN | apply below_drew1 | refine below_set ?_ GE555.out | refine below_set ?_ GE593.out) | exact HB.out)⟩⟩
    ·rw [if_neg c33] at H
     have c33b0 : (t595 != t596) = false := by simpa using c33
     (try (have c33b1 : decide (t595 = t596) = true := by simpa using c33))
     (try (have c33b2 : (t595 == t596) = true := by simpa using c33))
     clear c33
     (first | rw [c33b0] | (simp only [i64_w, i32_w]; rw [c33b0]) | skip)
     replace H := Option.bind_eq_some_iff.mp H
     obtain ⟨t597, A370, H⟩ := H
     have A37 := Aside0.mk A370
     clear A370
     by_cases c38 : t597 = 0
     ·rw [if_pos c38] at H
      have c38b0 : (t597 == 0) = true := beq_iff_eq.mpr c38
      have c38b1 : (t597 != 0) = false := bne_eq_false_iff_eq.mpr c38
      clear c38
      replace H := Option.bind_eq_some_iff.mp H
      obtain ⟨t598, A390, H⟩ := H
      have A39 := Aside0.mk A390
      clear A390
      have H' := Aside0.mk H
      clear H
      try go_wp2
      have n0_ := Aside0.mk (Kd.V_drew HO560.out)
      have n1_ := Aside0.mk (Kd.V_drew HO563.out)
      have n2_ := Aside0.mk (Kd.V_drew HO566.out)
      have n3_ := Aside0.mk (Kd.N_drew HO569.out)
      have n4_ := Aside0.mk (Kd.V_drew HO576.out)
      have n5_ := Aside0.mk (Kd.R_drew HO581.out)
      have n6_ := Aside0.mk (Kd.R_drew HO584.out)
      have n7_ := Aside0.mk (Kd.R_drew HO587.out)
      have n8_ := Aside0.mk (Kd.N_drew HO590.out)
      have n9_ := Aside0.mk (blk_drew BK555.out)
      have n10_ := Aside0.mk (blk_drew BK593.out)
      have n11_ := Aside0.mk (below_drew1 HB.out)
      clear HO560
      clear HO563
      clear HO566
      clear HO569
      clear HO576
      clear HO581
      clear HO584
      clear HO587
      clear HO590
      clear BK555
      clear BK593
      clear HB
      have HO560 := n0_
      have HO563 := n1_
      have HO566 := n2_
      have HO569 := n3_
      have HO576 := n4_
      have HO581 := n5_
      have HO584 := n6_
      have HO587 := n7_
      have HO590 := n8_
      have BK555 := n9_
      have BK593 := n10_
      have HB := n11_
      clear n0_ n1_ n2_ n3_ n4_ n5_ n6_ n7_ n8_ n9_ n10_ n11_
      refine start_ (n := 19) (S := fun w' => w'.cell? ⟨gb555, 0, none⟩ = some (.bool t556) ∧ w'.cell? ⟨gb555, 1, none⟩ = some (.bool t557) ∧ w'.cell? ⟨gb555, 2, none⟩ = some (.slice Ao15 y572.length co15) ∧ w'.cell? ⟨gb555, 3, none⟩ = some (.slice Ao16 t561.length co16) ∧ w'.cell? ⟨gb555, 4, none⟩ = some (.slice Ao17 t564.length co17) ∧ w'.cell? ⟨gb555, 5, none⟩ = some (.slice Ao18 t567.length co18) ∧ w'.cell? ⟨gb555, 6, none⟩ = some (.bool t570) ∧ w'.cell? ⟨gb555, 7, none⟩ = some (.bool t571) ∧ w'.cell? ⟨gb593, 0, none⟩ = some (.bool t577) ∧ w'.cell? ⟨gb593, 1, none⟩ = some (.bool t578) ∧ w'.cell? ⟨gb593, 2, none⟩ = some (.slice Ao26 t579.length co26) ∧ w'.cell? ⟨gb593, 3, none⟩ = some (.slice Ao27 t582.length co27) ∧ w'.cell? ⟨gb593, 4, none⟩ = some (.slice Ao28 t585.length co28) ∧ w'.cell? ⟨gb593, 5, none⟩ = some (.slice Ao29 t588.length co29) ∧ w'.cell? ⟨gb593, 6, none⟩ = some (.bool t591) ∧ w'.cell? ⟨gb593, 7, none⟩ = some (.bool t592)) (ds := []) (tf 0 19) (by kernel_rfl) rfl rfl ⟨(blk_cell BK555.out 0).trans rfl, (blk_cell BK555.out 1).trans rfl, (blk_cell BK555.out 2).trans rfl, (blk_cell BK555.out 3).trans rfl, (blk_cell BK555.out 4).trans rfl, (blk_cell BK555.out 5).trans rfl, (blk_cell BK555.out 6).trans rfl, (blk_cell BK555.out 7).trans rfl, (blk_cell BK593.out 0).trans rfl, (blk_cell BK593.out 1).trans rfl, (blk_cell BK593.out 2).trans rfl, (blk_cell BK593.out 3).trans rfl, (blk_cell BK593.out 4).trans rfl, (blk_cell BK593.out 5).trans rfl, (blk_cell BK593.out 6).trans rfl, (blk_cell BK593.out 7).trans rfl⟩ (fun hHeld => ?_); refine with_tabW boltinglaw12_ConfigStrip.tab5 boltinglaw12_ConfigStrip.bits5 (fun HT_ HW_ => ?_)
      generalize w30.drew = w40 at HO560 HO563 HO566 HO569 HO576 HO581 HO584 HO587 HO590 BK555 BK593 HB hHeld ⊢
      refine pure_ (i := 1) (N := some 25) (v := ?_) (a' := ?_) #[false, true, false, false, false, false, false, false, false, false, false, false, false, false, false, false, false, false, false] rfl rfl (any_of HT_.out (by kernel_rfl)) (fun _ _ _ h => h) (Or.inl ⟨by rfl, ?_⟩) ?_ ?_
      rotate_left
      ·intro w'
       go_simp
       with_reducible rfl
      rotate_left
      ·simp only [Act.put, List.setIfInBounds_toArray, List.set_cons_zero, List.set_cons_succ, i64_w, i32_w]
       rfl
      refine pure_ (i := 2) (N := some 26) (v := ?_) (a' := ?_) #[false, true, true, false, false, false, false, false, false, false, false, false, false, false, false, false, false, false, false] rfl rfl (any_of HT_.out (by kernel_rfl)) (fun _ _ _ h => h) (Or.inl ⟨by rfl, ?_⟩) ?_ ?_
      rotate_left
      ·intro w'
       go_simp
       with_reducible rfl
      rotate_left
      ·simp only [Act.put, List.setIfInBounds_toArray, List.set_cons_zero, List.set_cons_succ, i64_w, i32_w]
       rfl
      refine pure_ (i := 5) (N := some 29) (v := ?_) (a' := ?_) #[false, true, true, false, false, true, false, false, false, false, false, false, false, false, false, false, false, false, false] rfl rfl (any_of HT_.out (by kernel_rfl)) (fun _ _ _ h => h) (Or.inl ⟨by rfl, ?_⟩) ?_ ?_
      rotate_left
      ·intro w'
       go_simp
       with_reducible rfl
      rotate_left
      ·simp only [Act.put, List.setIfInBounds_toArray, List.set_cons_zero, List.set_cons_succ, i64_w, i32_w]
       rfl
      refine pure_ (i := 6) (N := some 30) (v := ?_) (a' := ?_) #[false, true, true, false, false, true, true, false, false, false, false, false, false, false, false, false, false, false, false] rfl rfl (any_of HT_.out (by kernel_rfl)) (fun _ _ _ h => h) (Or.inl ⟨by rfl, ?_⟩) ?_ ?_
      rotate_left
      ·intro w'
       go_simp
       with_reducible rfl
      rotate_left
      ·simp only [Act.put, List.setIfInBounds_toArray, List.set_cons_zero, List.set_cons_succ, i64_w, i32_w]
       rfl
      refine take_ (i := 0) (N := some 24) (v := ?_) (a' := ?_) #[true, true, true, false, false, true, true, false, false, false, false, false, false, false, false, false, false, false, false] rfl rfl (take_ofW HT_.out HW_.out (by kernel_rfl)) (fun _ _ _ h => h) (Or.inl ⟨by rfl, ?_⟩) hHeld ?_ ?_
      rotate_left
      ·rintro w' ⟨s0, s1, s2, s3, s4, s5, s6, s7, s8, s9, s10, s11, s12, s13, s14, s15⟩
       go_simp
       with_reducible rfl
      rotate_left
      ·simp only [Act.put, List.setIfInBounds_toArray, List.set_cons_zero, List.set_cons_succ, i64_w, i32_w]
       rfl
      refine take_ (i := 4) (N := some 28) (v := ?_) (a' := ?_) #[true, true, true, false, true, true, true, false, false, false, false, false, false, false, false, false, false, false, false] rfl rfl (take_ofW HT_.out HW_.out (by kernel_rfl)) (fun _ _ _ h => h) (Or.inl ⟨by rfl, ?_⟩) hHeld ?_ ?_
      rotate_left
      ·rintro w' ⟨s0, s1, s2, s3, s4, s5, s6, s7, s8, s9, s10, s11, s12, s13, s14, s15⟩
       go_simp
       with_reducible rfl
      rotate_left
      ·simp only [Act.put, List.setIfInBounds_toArray, List.set_cons_zero, List.set_cons_succ, i64_w, i32_w]
       rfl
      refine one_ (i := 3) (N := some 27) (tf 7 12) rfl rfl (one_of HT_.out (by kernel_rfl)) (by decide) (fun K hK => ?_)
      refine goes_ Try.func15 (by kernel_rfl) rfl #[.agg #[.bool t556, .bool t557, .slice Ao15 y572.length co15, .slice Ao16 t561.length co16, .slice Ao17 t564.length co17, .slice Ao18 t567.length co18, .bool t570, .bool t571], .string a1, .string a2] (by rfl) rfl rfl (by (try simp only [List.map_toArray, List.map_cons, List.map_nil]); first | done | rfl | (simp only [List.length_drop, List.length_take]; rfl)) ?_
      with_reducible refine (config_Attr.calls t556 t557 _ _ y572 _ _ t561 _ _ t564 _ _ t567 t570 t571 a1 a2 t595 _ ?side1 ?side2 ?side3 ?side4 ?side5 ?side6 ?side7 ?side8 A31.out).mono ?_
      (case side1 => repeat (first | exact (Kd.V_reads' HO576.out).2.2 | (with_reducible refine Kd.C_alloc ?_ _) | (with_reducible refine Kd.C_drewN ?_ _) | (with_reducible refine Kd.C_drew ?_)))
      (case side2 => exact (Kd.V_reads' HO576.out).2.1)
      (case side3 => repeat (first | exact (Kd.V_reads' HO563.out).2.2 | (with_reducible refine Kd.C_alloc ?_ _) | (with_reducible refine Kd.C_drewN ?_ _) | (with_reducible refine Kd.C_drew ?_)))
      (case side4 => exact (Kd.V_reads' HO563.out).2.1)
      (case side5 => repeat (first | exact (Kd.V_reads' HO566.out).2.2 | (with_reducible refine Kd.C_alloc ?_ _) | (with_reducible refine Kd.C_drewN ?_ _) | (with_reducible refine Kd.C_drew ?_)))
      (case side6 => exact (Kd.V_reads' HO566.out).2.1)
      (case side7 => repeat (first | exact (Kd.N_reads' HO569.out).2.2 | (with_reducible refine Kd.C_alloc ?_ _) | (with_reducible refine Kd.C_drewN ?_ _) | (with_reducible refine Kd.C_drew ?_)))
      (case side8 => exact (Kd.N_reads' HO569.out).2.1)
      rintro e w41 ⟨rfl, hb⟩
      refine ⟨_, rfl, ?_⟩
      have n0_ := Aside0.mk (Kd.V_below (by exact HO560.out) hb)
      have n1_ := Aside0.mk (Kd.V_below (by exact HO563.out) hb)
      have n2_ := Aside0.mk (Kd.V_below (by exact HO566.out) hb)
      have n3_ := Aside0.mk (Kd.N_below (by exact HO569.out) hb)
      have n4_ := Aside0.mk (Kd.V_below (by exact HO576.out) hb)
      have n5_ := Aside0.mk (Kd.R_below (by exact HO581.out) hb)
      have n6_ := Aside0.mk (Kd.R_below (by exact HO584.out) hb)
      have n7_ := Aside0.mk (Kd.R_below (by exact HO587.out) hb)
      have n8_ := Aside0.mk (Kd.N_below (by exact HO590.out) hb)
      have n9_ := Aside0.mk (blk_below (g := gb555) (o := .cells #[.bool t556, .bool t557, .slice Ao15 y572.length co15, .slice Ao16 t561.length co16, .slice Ao17 t564.length co17, .slice Ao18 t567.length co18, .bool t570, .bool t571] 25 (0, 0)) (by exact BK555.out) hb)
      have n10_ := Aside0.mk (blk_below (g := gb593) (o := .cells #[.bool t577, .bool t578, .slice Ao26 t579.length co26, .slice Ao27 t582.length co27, .slice Ao28 t585.length co28, .slice Ao29 t588.length co29, .bool t591, .bool t592] 25 (0, 0)) (by exact BK593.out) hb)
      have n11_ := Aside0.mk (below_step (by repeat (first | (with_reducible first | exact HB.out | apply below_alloc | apply pw_below_drewN | apply below_drew1 | refine below_set ?_ GE555.out | refine below_set ?_ GE593.out) | exact HB.out)) hb)
      clear HO560
      clear HO563
      clear HO566
      clear HO569
      clear HO576
      clear HO581
      clear HO584
      clear HO587
      clear HO590
      clear BK555
      clear BK593
      clear HB
      have HO560 := n0_
      have HO563 := n1_
      have HO566 := n2_
      have HO569 := n3_
      have HO576 := n4_
      have HO581 := n5_
      have HO584 := n6_
      have HO587 := n7_
      have HO590 := n8_
      have BK555 := n9_
      have BK593 := n10_
      have HB := n11_
      clear n0_ n1_ n2_ n3_ n4_ n5_ n6_ n7_ n8_ n9_ n10_ n11_
      (try clear hb)
      (try clear hb2)
      (try clear hk)
      (try clear hi)
      refine hK.out _ _ ⟨(blk_cell BK555.out 0).trans rfl, (blk_cell BK555.out 1).trans rfl, (blk_cell BK555.out 2).trans rfl, (blk_cell BK555.out 3).trans rfl, (blk_cell BK555.out 4).trans rfl, (blk_cell BK555.out 5).trans rfl, (blk_cell BK555.out 6).trans rfl, (blk_cell BK555.out 7).trans rfl, (blk_cell BK593.out 0).trans rfl, (blk_cell BK593.out 1).trans rfl, (blk_cell BK593.out 2).trans rfl, (blk_cell BK593.out 3).trans rfl, (blk_cell BK593.out 4).trans rfl, (blk_cell BK593.out 5).trans rfl, (blk_cell BK593.out 6).trans rfl, (blk_cell BK593.out 7).trans rfl⟩ (fun hHeld => ?_)
      clear hK K
      refine norm_ (a' := ?_) ?_ ?_
      rotate_left
      ·show Act.put _ (some 27) _ = _
       simp only [Act.put, List.setIfInBounds_toArray, List.set_cons_zero, List.set_cons_succ, i64_w, i32_w]
       rfl
      refine one_ (i := 7) (N := some 31) (tf 8 11) rfl rfl (one_of HT_.out (by kernel_rfl)) (by decide) (fun K hK => ?_)
      refine goes_ Try.func15 (by kernel_rfl) rfl #[.agg #[.bool t577, .bool t578, .slice Ao26 t579.length co26, .slice Ao27 t582.length co27, .slice Ao28 t585.length co28, .slice Ao29 t588.length co29, .bool t591, .bool t592], .string a1, .string a2] (by rfl) rfl rfl (by (try simp only [List.map_toArray, List.map_cons, List.map_nil]); first | done | rfl | (simp only [List.length_drop, List.length_take]; rfl)) ?_
      with_reducible refine (config_Attr.calls t577 t578 _ _ t579 _ _ t582 _ _ t585 _ _ t588 t591 t592 a1 a2 t596 _ ?side1 ?side2 ?side3 ?side4 ?side5 ?side6 ?side7 ?side8 A32.out).mono ?_
      (case side1 => repeat (first | exact (Kd.R_reads' HO581.out).2.2 | (with_reducible refine Kd.C_alloc ?_ _) | (with_reducible refine Kd.C_drewN ?_ _) | (with_reducible refine Kd.C_drew ?_)))
      (case side2 => exact (Kd.R_reads' HO581.out).2.1)
      (case side3 => repeat (first | exact (Kd.R_reads' HO584.out).2.2 | (with_reducible refine Kd.C_alloc ?_ _) | (with_reducible refine Kd.C_drewN ?_ _) | (with_reducible refine Kd.C_drew ?_)))
      (case side4 => exact (Kd.R_reads' HO584.out).2.1)
      (case side5 => repeat (first | exact (Kd.R_reads' HO587.out).2.2 | (with_reducible refine Kd.C_alloc ?_ _) | (with_reducible refine Kd.C_drewN ?_ _) | (with_reducible refine Kd.C_drew ?_)))
      (case side6 => exact (Kd.R_reads' HO587.out).2.1)
      (case side7 => repeat (first | exact (Kd.N_reads' HO590.out).2.2 | (with_reducible refine Kd.C_alloc ?_ _) | (with_reducible refine Kd.C_drewN ?_ _) | (with_reducible refine Kd.C_drew ?_)))
      (case side8 => exact (Kd.N_reads' HO590.out).2.1)
      rintro e w42 ⟨rfl, hb⟩
      refine ⟨_, rfl, ?_⟩
      have n0_ := Aside0.mk (Kd.V_below (by exact HO560.out) hb)
      have n1_ := Aside0.mk (Kd.V_below (by exact HO563.out) hb)
      have n2_ := Aside0.mk (Kd.V_below (by exact HO566.out) hb)
      have n3_ := Aside0.mk (Kd.N_below (by exact HO569.out) hb)
      have n4_ := Aside0.mk (Kd.V_below (by exact HO576.out) hb)
      have n5_ := Aside0.mk (Kd.R_below (by exact HO581.out) hb)
      have n6_ := Aside0.mk (Kd.R_below (by exact HO584.out) hb)
      have n7_ := Aside0.mk (Kd.R_below (by exact HO587.out) hb)
      have n8_ := Aside0.mk (Kd.N_below (by exact HO590.out) hb)
      have n9_ := Aside0.mk (blk_below (g := gb555) (o := .cells #[.bool t556, .bool t557, .slice Ao15 y572.length co15, .slice Ao16 t561.length co16, .slice Ao17 t564.length co17, .slice Ao18 t567.length co18, .bool t570, .bool t571] 25 (0, 0)) (by exact BK555.out) hb)
      have n10_ := Aside0.mk (blk_below (g := gb593) (o := .cells #[.bool t577, .bool t578, .slice Ao26 t579.length co26, .slice Ao27 t582.length co27, .slice Ao28 t585.length co28, .slice Ao29 t588.length co29, .bool t591, .bool t592] 25 (0, 0)) (by exact BK593.out) hb)
      have n11_ := Aside0.mk (below_step (by repeat (first | (with_reducible first | exact HB.out | apply below_alloc | apply pw_below_drewN | apply below_drew1 | refine below_set ?_ GE555.out | refine below_set ?_ GE593.out) | exact HB.out)) hb)
      clear HO560
      clear HO563
      clear HO566
      clear HO569
      clear HO576
      clear HO581
      clear HO584
      clear HO587
      clear HO590
      clear BK555
      clear BK593
      clear HB
      have HO560 := n0_
      have HO563 := n1_
      have HO566 := n2_
      have HO569 := n3_
      have HO576 := n4_
      have HO581 := n5_
      have HO584 := n6_
      have HO587 := n7_
      have HO590 := n8_
      have BK555 := n9_
      have BK593 := n10_
      have HB := n11_
      clear n0_ n1_ n2_ n3_ n4_ n5_ n6_ n7_ n8_ n9_ n10_ n11_
      (try clear hb)
      (try clear hb2)
      (try clear hk)
      (try clear hi)
      refine hK.out _ _ ⟨(blk_cell BK555.out 0).trans rfl, (blk_cell BK555.out 1).trans rfl, (blk_cell BK555.out 2).trans rfl, (blk_cell BK555.out 3).trans rfl, (blk_cell BK555.out 4).trans rfl, (blk_cell BK555.out 5).trans rfl, (blk_cell BK555.out 6).trans rfl, (blk_cell BK555.out 7).trans rfl, (blk_cell BK593.out 0).trans rfl, (blk_cell BK593.out 1).trans rfl, (blk_cell BK593.out 2).trans rfl, (blk_cell BK593.out 3).trans rfl, (blk_cell BK593.out 4).trans rfl, (blk_cell BK593.out 5).trans rfl, (blk_cell BK593.out 6).trans rfl, (blk_cell BK593.out 7).trans rfl⟩ (fun hHeld => ?_)
      clear hK K
      refine norm_ (a' := ?_) ?_ ?_
      rotate_left
      ·show Act.put _ (some 31) _ = _
       simp only [Act.put, List.setIfInBounds_toArray, List.set_cons_zero, List.set_cons_succ, i64_w, i32_w]
       rfl
      refine pure_ (i := 8) (N := some 32) (v := ?_) (a' := ?_) (tf 9 10) rfl rfl (any_of HT_.out (by kernel_rfl)) (fun _ _ _ h => h) (Or.inl ⟨by rfl, ?_⟩) ?_ ?_
      rotate_left
      ·intro w'
       go_simp
       with_reducible rfl
      rotate_left
      ·simp only [Act.put, List.setIfInBounds_toArray, List.set_cons_zero, List.set_cons_succ, i64_w, i32_w]
       rfl
      refine pure_ (i := 9) (N := some 33) (v := ?_) (a' := ?_) (tf 10 9) rfl rfl (any_of HT_.out (by kernel_rfl)) (fun _ _ _ h => h) (Or.inl ⟨by rfl, ?_⟩) ?_ ?_
      rotate_left
      ·intro w'
       go_simp
       with_reducible rfl
      rotate_left
      ·simp only [Act.put, List.setIfInBounds_toArray, List.set_cons_zero, List.set_cons_succ, i64_w, i32_w]
       rfl
      refine take_ (i := 10) (N := some 34) (v := ?_) (a' := ?_) (tf 11 8) rfl rfl (take_ofW HT_.out HW_.out (by kernel_rfl)) (fun _ _ _ h => h) (Or.inl ⟨by rfl, ?_⟩) hHeld ?_ ?_
      rotate_left
      ·rintro w' ⟨s0, s1, s2, s3, s4, s5, s6, s7, s8, s9, s10, s11, s12, s13, s14, s15⟩
       go_simp
       with_reducible rfl
      rotate_left
      ·simp only [Act.put, List.setIfInBounds_toArray, List.set_cons_zero, List.set_cons_succ, i64_w, i32_w]
       rfl
      refine one_ (i := 11) (N := some 35) (tf 12 7) rfl rfl (one_of HT_.out (by kernel_rfl)) (by decide) (fun K hK => ?_)
      refine goes_ Try.func18 (by kernel_rfl) rfl #[.agg #[.bool t556, .bool t557, .slice Ao15 y572.length co15, .slice Ao16 t561.length co16, .slice Ao17 t564.length co17, .slice Ao18 t567.length co18, .bool t570, .bool t571]] (by rfl) rfl rfl (by (try simp only [List.map_toArray, List.map_cons, List.map_nil]); first | done | rfl | (simp only [List.length_drop, List.length_take]; rfl)) ?_
      with_reducible refine (config_Check.calls t556 t557 _ _ y572 _ _ t561 _ _ t564 _ _ t567 t570 t571 t597 _ ?side1 ?side2 ?side3 ?side4 ?side5 ?side6 ?side7 ?side8 A37.out).mono ?_
      (case side1 => repeat (first | exact (Kd.V_reads' HO576.out).2.2 | (with_reducible refine Kd.C_alloc ?_ _) | (with_reducible refine Kd.C_drewN ?_ _) | (with_reducible refine Kd.C_drew ?_)))
      (case side2 => exact (Kd.V_reads' HO576.out).2.1)
      (case side3 => repeat (first | exact (Kd.V_reads' HO563.out).2.2 | (with_reducible refine Kd.C_alloc ?_ _) | (with_reducible refine Kd.C_drewN ?_ _) | (with_reducible refine Kd.C_drew ?_)))
      (case side4 => exact (Kd.V_reads' HO563.out).2.1)
      (case side5 => repeat (first | exact (Kd.V_reads' HO566.out).2.2 | (with_reducible refine Kd.C_alloc ?_ _) | (with_reducible refine Kd.C_drewN ?_ _) | (with_reducible refine Kd.C_drew ?_)))
      (case side6 => exact (Kd.V_reads' HO566.out).2.1)
      (case side7 => repeat (first | exact (Kd.N_reads' HO569.out).2.2 | (with_reducible refine Kd.C_alloc ?_ _) | (with_reducible refine Kd.C_drewN ?_ _) | (with_reducible refine Kd.C_drew ?_)))
      (case side8 => exact (Kd.N_reads' HO569.out).2.1)
      rintro e w43 ⟨rfl, hb⟩
      refine ⟨_, rfl, ?_⟩
      have n0_ := Aside0.mk (Kd.V_below (by exact HO560.out) hb)
      have n1_ := Aside0.mk (Kd.V_below (by exact HO563.out) hb)
      have n2_ := Aside0.mk (Kd.V_below (by exact HO566.out) hb)
      have n3_ := Aside0.mk (Kd.N_below (by exact HO569.out) hb)
      have n4_ := Aside0.mk (Kd.V_below (by exact HO576.out) hb)
      have n5_ := Aside0.mk (Kd.R_below (by exact HO581.out) hb)
      have n6_ := Aside0.mk (Kd.R_below (by exact HO584.out) hb)
      have n7_ := Aside0.mk (Kd.R_below (by exact HO587.out) hb)
      have n8_ := Aside0.mk (Kd.N_below (by exact HO590.out) hb)
      have n9_ := Aside0.mk (blk_below (g := gb555) (o := .cells #[.bool t556, .bool t557, .slice Ao15 y572.length co15, .slice Ao16 t561.length co16, .slice Ao17 t564.length co17, .slice Ao18 t567.length co18, .bool t570, .bool t571] 25 (0, 0)) (by exact BK555.out) hb)
      have n10_ := Aside0.mk (blk_below (g := gb593) (o := .cells #[.bool t577, .bool t578, .slice Ao26 t579.length co26, .slice Ao27 t582.length co27, .slice Ao28 t585.length co28, .slice Ao29 t588.length co29, .bool t591, .bool t592] 25 (0, 0)) (by exact BK593.out) hb)
      have n11_ := Aside0.mk (below_step (by repeat (first | (with_reducible first | exact HB.out | apply below_alloc | apply pw_below_drewN | apply below_drew1 | refine below_set ?_ GE555.out | refine below_set ?_ GE593.out) | exact HB.out)) hb)
      clear HO560
      clear HO563
      clear HO566
      clear HO569
      clear HO576
      clear HO581
      clear HO584
      clear HO587
      clear HO590
      clear BK555
      clear BK593
      clear HB
      have HO560 := n0_
      have HO563 := n1_
      have HO566 := n2_
      have HO569 := n3_
      have HO576 := n4_
      have HO581 := n5_
      have HO584 := n6_
      have HO587 := n7_
      have HO590 := n8_
      have BK555 := n9_
      have BK593 := n10_
      have HB := n11_
      clear n0_ n1_ n2_ n3_ n4_ n5_ n6_ n7_ n8_ n9_ n10_ n11_
      (try clear hb)
      (try clear hb2)
      (try clear hk)
      (try clear hi)
      refine hK.out _ _ ⟨(blk_cell BK555.out 0).trans rfl, (blk_cell BK555.out 1).trans rfl, (blk_cell BK555.out 2).trans rfl, (blk_cell BK555.out 3).trans rfl, (blk_cell BK555.out 4).trans rfl, (blk_cell BK555.out 5).trans rfl, (blk_cell BK555.out 6).trans rfl, (blk_cell BK555.out 7).trans rfl, (blk_cell BK593.out 0).trans rfl, (blk_cell BK593.out 1).trans rfl, (blk_cell BK593.out 2).trans rfl, (blk_cell BK593.out 3).trans rfl, (blk_cell BK593.out 4).trans rfl, (blk_cell BK593.out 5).trans rfl, (blk_cell BK593.out 6).trans rfl, (blk_cell BK593.out 7).trans rfl⟩ (fun hHeld => ?_)
      clear hK K
      refine norm_ (a' := ?_) ?_ ?_
      rotate_left
      ·show Act.put _ (some 35) _ = _
       simp only [Act.put, List.setIfInBounds_toArray, List.set_cons_zero, List.set_cons_succ, i64_w, i32_w]
       rfl
      refine pure_ (i := 12) (N := some 36) (v := ?_) (a' := ?_) (tf 13 6) rfl rfl (any_of HT_.out (by kernel_rfl)) (fun _ _ _ h => h) (Or.inl ⟨by rfl, ?_⟩) ?_ ?_
      rotate_left
      ·intro w'
       go_simp
       with_reducible rfl
      rotate_left
      ·simp only [Act.put, List.setIfInBounds_toArray, List.set_cons_zero, List.set_cons_succ, i64_w, i32_w]
       rfl
      refine pure_ (i := 13) (N := some 37) (v := ?_) (a' := ?_) (tf 14 5) rfl rfl (any_of HT_.out (by kernel_rfl)) (fun _ _ _ h => h) (Or.inl ⟨by rfl, ?_⟩) ?_ ?_
      rotate_left
      ·intro w'
       go_simp
       with_reducible rfl
      rotate_left
      ·simp only [Act.put, List.setIfInBounds_toArray, List.set_cons_zero, List.set_cons_succ, i64_w, i32_w]
       rfl
      refine take_ (i := 14) (N := some 38) (v := ?_) (a' := ?_) (tf 15 4) rfl rfl (take_ofW HT_.out HW_.out (by kernel_rfl)) (fun _ _ _ h => h) (Or.inl ⟨by rfl, ?_⟩) hHeld ?_ ?_
      rotate_left
      ·rintro w' ⟨s0, s1, s2, s3, s4, s5, s6, s7, s8, s9, s10, s11, s12, s13, s14, s15⟩
       go_simp
       with_reducible rfl
      rotate_left
      ·simp only [Act.put, List.setIfInBounds_toArray, List.set_cons_zero, List.set_cons_succ, i64_w, i32_w]
       rfl
      refine one_ (i := 15) (N := some 39) (tf 16 3) rfl rfl (one_of HT_.out (by kernel_rfl)) (by decide) (fun K hK => ?_)
      refine goes_ Try.func18 (by kernel_rfl) rfl #[.agg #[.bool t577, .bool t578, .slice Ao26 t579.length co26, .slice Ao27 t582.length co27, .slice Ao28 t585.length co28, .slice Ao29 t588.length co29, .bool t591, .bool t592]] (by rfl) rfl rfl (by (try simp only [List.map_toArray, List.map_cons, List.map_nil]); first | done | rfl | (simp only [List.length_drop, List.length_take]; rfl)) ?_
      with_reducible refine (config_Check.calls t577 t578 _ _ t579 _ _ t582 _ _ t585 _ _ t588 t591 t592 t598 _ ?side1 ?side2 ?side3 ?side4 ?side5 ?side6 ?side7 ?side8 A39.out).mono ?_
      (case side1 => repeat (first | exact (Kd.R_reads' HO581.out).2.2 | (with_reducible refine Kd.C_alloc ?_ _) | (with_reducible refine Kd.C_drewN ?_ _) | (with_reducible refine Kd.C_drew ?_)))
      (case side2 => exact (Kd.R_reads' HO581.out).2.1)
      (case side3 => repeat (first | exact (Kd.R_reads' HO584.out).2.2 | (with_reducible refine Kd.C_alloc ?_ _) | (with_reducible refine Kd.C_drewN ?_ _) | (with_reducible refine Kd.C_drew ?_)))
      (case side4 => exact (Kd.R_reads' HO584.out).2.1)
      (case side5 => repeat (first | exact (Kd.R_reads' HO587.out).2.2 | (with_reducible refine Kd.C_alloc ?_ _) | (with_reducible refine Kd.C_drewN ?_ _) | (with_reducible refine Kd.C_drew ?_)))
      (case side6 => exact (Kd.R_reads' HO587.out).2.1)
      (case side7 => repeat (first | exact (Kd.N_reads' HO590.out).2.2 | (with_reducible refine Kd.C_alloc ?_ _) | (with_reducible refine Kd.C_drewN ?_ _) | (with_reducible refine Kd.C_drew ?_)))
      (case side8 => exact (Kd.N_reads' HO590.out).2.1)
      rintro e w44 ⟨rfl, hb⟩
      refine ⟨_, rfl, ?_⟩
      have n0_ := Aside0.mk (Kd.V_below (by exact HO560.out) hb)
      have n1_ := Aside0.mk (Kd.V_below (by exact HO563.out) hb)
      have n2_ := Aside0.mk (Kd.V_below (by exact HO566.out) hb)
      have n3_ := Aside0.mk (Kd.N_below (by exact HO569.out) hb)
      have n4_ := Aside0.mk (Kd.V_below (by exact HO576.out) hb)
      have n5_ := Aside0.mk (Kd.R_below (by exact HO581.out) hb)
      have n6_ := Aside0.mk (Kd.R_below (by exact HO584.out) hb)
      have n7_ := Aside0.mk (Kd.R_below (by exact HO587.out) hb)
      have n8_ := Aside0.mk (Kd.N_below (by exact HO590.out) hb)
      have n9_ := Aside0.mk (blk_below (g := gb555) (o := .cells #[.bool t556, .bool t557, .slice Ao15 y572.length co15, .slice Ao16 t561.length co16, .slice Ao17 t564.length co17, .slice Ao18 t567.length co18, .bool t570, .bool t571] 25 (0, 0)) (by exact BK555.out) hb)
      have n10_ := Aside0.mk (blk_below (g := gb593) (o := .cells #[.bool t577, .bool t578, .slice Ao26 t579.length co26, .slice Ao27 t582.length co27, .slice Ao28 t585.length co28, .slice Ao29 t588.length co29, .bool t591, .bool t592] 25 (0, 0)) (by exact BK593.out) hb)
      have n11_ := Aside0.mk (below_step (by repeat (first | (with_reducible first | exact HB.out | apply below_alloc | apply pw_below_drewN | apply below_drew1 | refine below_set ?_ GE555.out | refine below_set ?_ GE593.out) | exact HB.out)) hb)
      clear HO560
      clear HO563
      clear HO566
      clear HO569
      clear HO576
      clear HO581
      clear HO584
      clear HO587
      clear HO590
      clear BK555
      clear BK593
      clear HB
      have HO560 := n0_
      have HO563 := n1_
      have HO566 := n2_
      have HO569 := n3_
      have HO576 := n4_
      have HO581 := n5_
      have HO584 := n6_
      have HO587 := n7_
      have HO590 := n8_
      have BK555 := n9_
      have BK593 := n10_
      have HB := n11_
      clear n0_ n1_ n2_ n3_ n4_ n5_ n6_ n7_ n8_ n9_ n10_ n11_
      (try clear hb)
      (try clear hb2)
      (try clear hk)
      (try clear hi)
      refine hK.out _ _ ⟨(blk_cell BK555.out 0).trans rfl, (blk_cell BK555.out 1).trans rfl, (blk_cell BK555.out 2).trans rfl, (blk_cell BK555.out 3).trans rfl, (blk_cell BK555.out 4).trans rfl, (blk_cell BK555.out 5).trans rfl, (blk_cell BK555.out 6).trans rfl, (blk_cell BK555.out 7).trans rfl, (blk_cell BK593.out 0).trans rfl, (blk_cell BK593.out 1).trans rfl, (blk_cell BK593.out 2).trans rfl, (blk_cell BK593.out 3).trans rfl, (blk_cell BK593.out 4).trans rfl, (blk_cell BK593.out 5).trans rfl, (blk_cell BK593.out 6).trans rfl, (blk_cell BK593.out 7).trans rfl⟩ (fun hHeld => ?_)
      clear hK K
      refine norm_ (a' := ?_) ?_ ?_
      rotate_left
      ·show Act.put _ (some 39) _ = _
       simp only [Act.put, List.setIfInBounds_toArray, List.set_cons_zero, List.set_cons_succ, i64_w, i32_w]
       rfl
      refine pure_ (i := 16) (N := some 40) (v := ?_) (a' := ?_) (tf 17 2) rfl rfl (any_of HT_.out (by kernel_rfl)) (fun _ _ _ h => h) (Or.inl ⟨by rfl, ?_⟩) ?_ ?_
      rotate_left
      ·intro w'
       go_simp
       with_reducible rfl
      rotate_left
      ·simp only [Act.put, List.setIfInBounds_toArray, List.set_cons_zero, List.set_cons_succ, i64_w, i32_w]
       rfl
      refine pure_ (i := 17) (N := some 41) (v := ?_) (a' := ?_) (tf 18 1) rfl rfl (any_of HT_.out (by kernel_rfl)) (fun _ _ _ h => h) (Or.inl ⟨by rfl, ?_⟩) ?_ ?_
      rotate_left
      ·intro w'
       go_simp
       with_reducible rfl
      rotate_left
      ·simp only [Act.put, List.setIfInBounds_toArray, List.set_cons_zero, List.set_cons_succ, i64_w, i32_w]
       rfl
      refine pure_ (i := 18) (N := some 42) (v := ?_) (a' := ?_) (tf 19 0) rfl rfl (any_of HT_.out (by kernel_rfl)) (fun _ _ _ h => h) (Or.inl ⟨by rfl, ?_⟩) ?_ ?_
      rotate_left
      ·intro w'
       go_simp
       with_reducible rfl
      rotate_left
      ·simp only [Act.put, List.setIfInBounds_toArray, List.set_cons_zero, List.set_cons_succ, i64_w, i32_w]
       rfl
      refine done_ (done_of HT_.out (by kernel_rfl)) ?_
      try go_wp2
      go_meet
      case rel => exact ⟨_, ((t598 != 0)), (by first | rfl | (simp; done) | (simp [*]; done)), H', ⟨by first | omega | exact Nat.le_refl _⟩, ⟨by exact Kd.V_mono HO576.out (fun _ hk => ⟨hk.1.1.1.1.1.1, ⟨hk.1.1.1.1.2, ⟨hk.1.1.1.2, ⟨hk.1.1.2, ⟨hk.1.2, ⟨hk.1.1.1.1.1.2, hk.2⟩⟩⟩⟩⟩⟩)⟩, ⟨by exact Kd.V_mono HO563.out (fun _ hk => ⟨hk.1.1.1.1.1.1, ⟨hk.1.1.1.1.2, ⟨hk.1.1.1.2, ⟨hk.1.1.2, ⟨hk.1.2, ⟨hk.1.1.1.1.1.2, hk.2⟩⟩⟩⟩⟩⟩)⟩, ⟨by exact Kd.V_mono HO566.out (fun _ hk => ⟨hk.1.1.1.1.1.1, ⟨hk.1.1.1.1.2, ⟨hk.1.1.1.2, ⟨hk.1.1.2, ⟨hk.1.2, ⟨hk.1.1.1.1.1.2, hk.2⟩⟩⟩⟩⟩⟩)⟩, ⟨by exact Kd.N_mono HO569.out (fun _ hk => ⟨hk.1.1.1.1.2, ⟨hk.1.1.1.2, ⟨hk.1.1.2, ⟨hk.1.2, ⟨hk.1.1.1.1.1, hk.2⟩⟩⟩⟩⟩)⟩, ⟨by exact HO581.out⟩, ⟨by exact HO584.out⟩, ⟨by exact HO587.out⟩, ⟨by exact Kd.N_mono HO590.out (fun _ hk => ⟨hk.1.2.2.2.1, ⟨hk.1.1, ⟨hk.1.2.1, ⟨hk.1.2.2.1, ⟨hk.1.2.2.2.2, hk.2⟩⟩⟩⟩⟩)⟩, ⟨by exact BK555.out⟩, ⟨by exact BK593.out⟩, ⟨by repeat (first | (with_reducible first | exact HB.out | apply below_alloc | apply pw_below_drewN | apply below_drew1 | refine below_set ?_ GE555.out | refine below_set ?_ GE593.out) | exact HB.out)⟩⟩
     ·rw [if_neg c38] at H
      have c38b0 : (t597 == 0) = false := beq_eq_false_iff_ne.mpr c38
      have c38b1 : (t597 != 0) = true := bne_iff_ne.mpr c38
      have H' := Aside0.mk H
      clear H
      try go_wp2
      have n0_ := Aside0.mk (Kd.V_drew HO560.out)
      have n1_ := Aside0.mk (Kd.V_drew HO563.out)
      have n2_ := Aside0.mk (Kd.V_drew HO566.out)
      have n3_ := Aside0.mk (Kd.N_drew HO569.out)
      have n4_ := Aside0.mk (Kd.V_drew HO576.out)
      have n5_ := Aside0.mk (Kd.R_drew HO581.out)
      have n6_ := Aside0.mk (Kd.R_drew HO584.out)
      have n7_ := Aside0.mk (Kd.R_drew HO587.out)
      have n8_ := Aside0.mk (Kd.N_drew HO590.out)
      have n9_ := Aside0.mk (blk_drew BK555.out)
      have n10_ := Aside0.mk (blk_drew BK593.out)
      have n11_ := Aside0.mk (below_drew1 HB.out)
      clear HO560
      clear HO563
      clear HO566
      clear HO569
      clear HO576
      clear HO581
      clear HO584
      clear HO587
      clear HO590
      clear BK555
      clear BK593
      clear HB
      have HO560 := n0_
      have HO563 := n1_
      have HO566 := n2_
      have HO569 := n3_
      have HO576 := n4_
      have HO581 := n5_
      have HO584 := n6_
      have HO587 := n7_
      have HO590 := n8_
      have BK555 := n9_
      have BK593 := n10_
      have HB := n11_
      clear n0_ n1_ n2_ n3_ n4_ n5_ n6_ n7_ n8_ n9_ n10_ n11_
      refine start_ (n := 19) (S := fun w' => w'.cell? ⟨gb555, 0, none⟩ = some (.bool t556) ∧ w'.cell? ⟨gb555, 1, none⟩ = some (.bool t557) ∧ w'.cell? ⟨gb555, 2, none⟩ = some (.slice Ao15 y572.length co15) ∧ w'.cell? ⟨gb555, 3, none⟩ = some (.slice Ao16 t561.length co16) ∧ w'.cell? ⟨gb555, 4, none⟩ = some (.slice Ao17 t564.length co17) ∧ w'.cell? ⟨gb555, 5, none⟩ = some (.slice Ao18 t567.length co18) ∧ w'.cell? ⟨gb555, 6, none⟩ = some (.bool t570) ∧ w'.cell? ⟨gb555, 7, none⟩ = some (.bool t571) ∧ w'.cell? ⟨gb593, 0, none⟩ = some (.bool t577) ∧ w'.cell? ⟨gb593, 1, none⟩ = some (.bool t578) ∧ w'.cell? ⟨gb593, 2, none⟩ = some (.slice Ao26 t579.length co26) ∧ w'.cell? ⟨gb593, 3, none⟩ = some (.slice Ao27 t582.length co27) ∧ w'.cell? ⟨gb593, 4, none⟩ = some (.slice Ao28 t585.length co28) ∧ w'.cell? ⟨gb593, 5, none⟩ = some (.slice Ao29 t588.length co29) ∧ w'.cell? ⟨gb593, 6, none⟩ = some (.bool t591) ∧ w'.cell? ⟨gb593, 7, none⟩ = some (.bool t592)) (ds := []) (tf 0 19) (by kernel_rfl) rfl rfl ⟨(blk_cell BK555.out 0).trans rfl, (blk_cell BK555.out 1).trans rfl, (blk_cell BK555.out 2).trans rfl, (blk_cell BK555.out 3).trans rfl, (blk_cell BK555.out 4).trans rfl, (blk_cell BK555.out 5).trans rfl, (blk_cell BK555.out 6).trans rfl, (blk_cell BK555.out 7).trans rfl, (blk_cell BK593.out 0).trans rfl, (blk_cell BK593.out 1).trans rfl, (blk_cell BK593.out 2).trans rfl, (blk_cell BK593.out 3).trans rfl, (blk_cell BK593.out 4).trans rfl, (blk_cell BK593.out 5).trans rfl, (blk_cell BK593.out 6).trans rfl, (blk_cell BK593.out 7).trans rfl⟩ (fun hHeld => ?_); refine with_tabW boltinglaw12_ConfigStrip.tab5 boltinglaw12_ConfigStrip.bits5 (fun HT_ HW_ => ?_)
      generalize w30.drew = w45 at HO560 HO563 HO566 HO569 HO576 HO581 HO584 HO587 HO590 BK555 BK593 HB hHeld ⊢
      refine pure_ (i := 1) (N := some 25) (v := ?_) (a' := ?_) #[false, true, false, false, false, false, false, false, false, false, false, false, false, false, false, false, false, false, false] rfl rfl (any_of HT_.out (by kernel_rfl)) (fun _ _ _ h => h) (Or.inl ⟨by rfl, ?_⟩) ?_ ?_
      rotate_left
      ·intro w'
       go_simp
       with_reducible rfl
      rotate_left
      ·simp only [Act.put, List.setIfInBounds_toArray, List.set_cons_zero, List.set_cons_succ, i64_w, i32_w]
       rfl
      refine pure_ (i := 2) (N := some 26) (v := ?_) (a' := ?_) #[false, true, true, false, false, false, false, false, false, false, false, false, false, false, false, false, false, false, false] rfl rfl (any_of HT_.out (by kernel_rfl)) (fun _ _ _ h => h) (Or.inl ⟨by rfl, ?_⟩) ?_ ?_
      rotate_left
      ·intro w'
       go_simp
       with_reducible rfl
      rotate_left
      ·simp only [Act.put, List.setIfInBounds_toArray, List.set_cons_zero, List.set_cons_succ, i64_w, i32_w]
       rfl
      refine pure_ (i := 5) (N := some 29) (v := ?_) (a' := ?_) #[false, true, true, false, false, true, false, false, false, false, false, false, false, false, false, false, false, false, false] rfl rfl (any_of HT_.out (by kernel_rfl)) (fun _ _ _ h => h) (Or.inl ⟨by rfl, ?_⟩) ?_ ?_
      rotate_left
      ·intro w'
       go_simp
       with_reducible rfl
      rotate_left
      ·simp only [Act.put, List.setIfInBounds_toArray, List.set_cons_zero, List.set_cons_succ, i64_w, i32_w]
       rfl
      refine pure_ (i := 6) (N := some 30) (v := ?_) (a' := ?_) #[false, true, true, false, false, true, true, false, false, false, false, false, false, false, false, false, false, false, false] rfl rfl (any_of HT_.out (by kernel_rfl)) (fun _ _ _ h => h) (Or.inl ⟨by rfl, ?_⟩) ?_ ?_
      rotate_left
      ·intro w'
       go_simp
       with_reducible rfl
      rotate_left
      ·simp only [Act.put, List.setIfInBounds_toArray, List.set_cons_zero, List.set_cons_succ, i64_w, i32_w]
       rfl
      refine take_ (i := 0) (N := some 24) (v := ?_) (a' := ?_) #[true, true, true, false, false, true, true, false, false, false, false, false, false, false, false, false, false, false, false] rfl rfl (take_ofW HT_.out HW_.out (by kernel_rfl)) (fun _ _ _ h => h) (Or.inl ⟨by rfl, ?_⟩) hHeld ?_ ?_
      rotate_left
      ·rintro w' ⟨s0, s1, s2, s3, s4, s5, s6, s7, s8, s9, s10, s11, s12, s13, s14, s15⟩
       go_simp
       with_reducible rfl
      rotate_left
      ·simp only [Act.put, List.setIfInBounds_toArray, List.set_cons_zero, List.set_cons_succ, i64_w, i32_w]
       rfl
      refine take_ (i := 4) (N := some 28) (v := ?_) (a' := ?_) #[true, true, true, false, true, true, true, false, false, false, false, false, false, false, false, false, false, false, false] rfl rfl (take_ofW HT_.out HW_.out (by kernel_rfl)) (fun _ _ _ h => h) (Or.inl ⟨by rfl, ?_⟩) hHeld ?_ ?_
      rotate_left
      ·rintro w' ⟨s0, s1, s2, s3, s4, s5, s6, s7, s8, s9, s10, s11, s12, s13, s14, s15⟩
       go_simp
       with_reducible rfl
      rotate_left
      ·simp only [Act.put, List.setIfInBounds_toArray, List.set_cons_zero, List.set_cons_succ, i64_w, i32_w]
       rfl
      refine one_ (i := 3) (N := some 27) (tf 7 12) rfl rfl (one_of HT_.out (by kernel_rfl)) (by decide) (fun K hK => ?_)
      refine goes_ Try.func15 (by kernel_rfl) rfl #[.agg #[.bool t556, .bool t557, .slice Ao15 y572.length co15, .slice Ao16 t561.length co16, .slice Ao17 t564.length co17, .slice Ao18 t567.length co18, .bool t570, .bool t571], .string a1, .string a2] (by rfl) rfl rfl (by (try simp only [List.map_toArray, List.map_cons, List.map_nil]); first | done | rfl | (simp only [List.length_drop, List.length_take]; rfl)) ?_
      with_reducible refine (config_Attr.calls t556 t557 _ _ y572 _ _ t561 _ _ t564 _ _ t567 t570 t571 a1 a2 t595 _ ?side1 ?side2 ?side3 ?side4 ?side5 ?side6 ?side7 ?side8 A31.out).mono ?_
      (case side1 => repeat (first | exact (Kd.V_reads' HO576.out).2.2 | (with_reducible refine Kd.C_alloc ?_ _) | (with_reducible refine Kd.C_drewN ?_ _) | (with_reducible refine Kd.C_drew ?_)))
      (case side2 => exact (Kd.V_reads' HO576.out).2.1)
      (case side3 => repeat (first | exact (Kd.V_reads' HO563.out).2.2 | (with_reducible refine Kd.C_alloc ?_ _) | (with_reducible refine Kd.C_drewN ?_ _) | (with_reducible refine Kd.C_drew ?_)))
      (case side4 => exact (Kd.V_reads' HO563.out).2.1)
      (case side5 => repeat (first | exact (Kd.V_reads' HO566.out).2.2 | (with_reducible refine Kd.C_alloc ?_ _) | (with_reducible refine Kd.C_drewN ?_ _) | (with_reducible refine Kd.C_drew ?_)))
      (case side6 => exact (Kd.V_reads' HO566.out).2.1)
      (case side7 => repeat (first | exact (Kd.N_reads' HO569.out).2.2 | (with_reducible refine Kd.C_alloc ?_ _) | (with_reducible refine Kd.C_drewN ?_ _) | (with_reducible refine Kd.C_drew ?_)))
      (case side8 => exact (Kd.N_reads' HO569.out).2.1)
      rintro e w46 ⟨rfl, hb⟩
      refine ⟨_, rfl, ?_⟩
      have n0_ := Aside0.mk (Kd.V_below (by exact HO560.out) hb)
      have n1_ := Aside0.mk (Kd.V_below (by exact HO563.out) hb)
      have n2_ := Aside0.mk (Kd.V_below (by exact HO566.out) hb)
      have n3_ := Aside0.mk (Kd.N_below (by exact HO569.out) hb)
      have n4_ := Aside0.mk (Kd.V_below (by exact HO576.out) hb)
      have n5_ := Aside0.mk (Kd.R_below (by exact HO581.out) hb)
      have n6_ := Aside0.mk (Kd.R_below (by exact HO584.out) hb)
      have n7_ := Aside0.mk (Kd.R_below (by exact HO587.out) hb)
      have n8_ := Aside0.mk (Kd.N_below (by exact HO590.out) hb)
      have n9_ := Aside0.mk (blk_below (g := gb555) (o := .cells #[.bool t556, .bool t557, .slice Ao15 y572.length co15, .slice Ao16 t561.length co16, .slice Ao17 t564.length co17, .slice Ao18 t567.length co18, .bool t570, .bool t571] 25 (0, 0)) (by exact BK555.out) hb)
      have n10_ := Aside0.mk (blk_below (g := gb593) (o := .cells #[.bool t577, .bool t578, .slice Ao26 t579.length co26, .slice Ao27 t582.length co27, .slice Ao28 t585.length co28, .slice Ao29 t588.length co29, .bool t591, .bool t592] 25 (0, 0)) (by exact BK593.out) hb)
      have n11_ := Aside0.mk (below_step (by repeat (first | (with_reducible first | exact HB.out | apply below_alloc | apply pw_below_drewN | apply below_drew1 | refine below_set ?_ GE555.out | refine below_set ?_ GE593.out) | exact HB.out)) hb)
      clear HO560
      clear HO563
      clear HO566
      clear HO569
      clear HO576
      clear HO581
      clear HO584
      clear HO587
      clear HO590
      clear BK555
      clear BK593
      clear HB
      have HO560 := n0_
      have HO563 := n1_
      have HO566 := n2_
      have HO569 := n3_
      have HO576 := n4_
      have HO581 := n5_
      have HO584 := n6_
      have HO587 := n7_
      have HO590 := n8_
      have BK555 := n9_
      have BK593 := n10_
      have HB := n11_
      clear n0_ n1_ n2_ n3_ n4_ n5_ n6_ n7_ n8_ n9_ n10_ n11_
      (try clear hb)
      (try clear hb2)
      (try clear hk)
      (try clear hi)
      refine hK.out _ _ ⟨(blk_cell BK555.out 0).trans rfl, (blk_cell BK555.out 1).trans rfl, (blk_cell BK555.out 2).trans rfl, (blk_cell BK555.out 3).trans rfl, (blk_cell BK555.out 4).trans rfl, (blk_cell BK555.out 5).trans rfl, (blk_cell BK555.out 6).trans rfl, (blk_cell BK555.out 7).trans rfl, (blk_cell BK593.out 0).trans rfl, (blk_cell BK593.out 1).trans rfl, (blk_cell BK593.out 2).trans rfl, (blk_cell BK593.out 3).trans rfl, (blk_cell BK593.out 4).trans rfl, (blk_cell BK593.out 5).trans rfl, (blk_cell BK593.out 6).trans rfl, (blk_cell BK593.out 7).trans rfl⟩ (fun hHeld => ?_)
      clear hK K
      refine norm_ (a' := ?_) ?_ ?_
      rotate_left
      ·show Act.put _ (some 27) _ = _
       simp only [Act.put, List.setIfInBounds_toArray, List.set_cons_zero, List.set_cons_succ, i64_w, i32_w]
       rfl
      refine one_ (i := 7) (N := some 31) (tf 8 11) rfl rfl (one_of HT_.out (by kernel_rfl)) (by decide) (fun K hK => ?_)
      refine goes_ Try.func15 (by kernel_rfl) rfl #[.agg #[.bool t577, .bool t578, .slice Ao26 t579.length co26, .slice Ao27 t582.length co27, .slice Ao28 t585.length co28, .slice Ao29 t588.length co29, .bool t591, .bool t592], .string a1, .string a2] (by rfl) rfl rfl (by (try simp only [List.map_toArray, List.map_cons, List.map_nil]); first | done | rfl | (simp only [List.length_drop, List.length_take]; rfl)) ?_
      with_reducible refine (config_Attr.calls t577 t578 _ _ t579 _ _ t582 _ _ t585 _ _ t588 t591 t592 a1 a2 t596 _ ?side1 ?side2 ?side3 ?side4 ?side5 ?side6 ?side7 ?side8 A32.out).mono ?_
      (case side1 => repeat (first | exact (Kd.R_reads' HO581.out).2.2 | (with_reducible refine Kd.C_alloc ?_ _) | (with_reducible refine Kd.C_drewN ?_ _) | (with_reducible refine Kd.C_drew ?_)))
      (case side2 => exact (Kd.R_reads' HO581.out).2.1)
      (case side3 => repeat (first | exact (Kd.R_reads' HO584.out).2.2 | (with_reducible refine Kd.C_alloc ?_ _) | (with_reducible refine Kd.C_drewN ?_ _) | (with_reducible refine Kd.C_drew ?_)))
      (case side4 => exact (Kd.R_reads' HO584.out).2.1)
      (case side5 => repeat (first | exact (Kd.R_reads' HO587.out).2.2 | (with_reducible refine Kd.C_alloc ?_ _) | (with_reducible refine Kd.C_drewN ?_ _) | (with_reducible refine Kd.C_drew ?_)))
      (case side6 => exact (Kd.R_reads' HO587.out).2.1)
      (case side7 => repeat (first | exact (Kd.N_reads' HO590.out).2.2 | (with_reducible refine Kd.C_alloc ?_ _) | (with_reducible refine Kd.C_drewN ?_ _) | (with_reducible refine Kd.C_drew ?_)))
      (case side8 => exact (Kd.N_reads' HO590.out).2.1)
      rintro e w47 ⟨rfl, hb⟩
      refine ⟨_, rfl, ?_⟩
      have n0_ := Aside0.mk (Kd.V_below (by exact HO560.out) hb)
      have n1_ := Aside0.mk (Kd.V_below (by exact HO563.out) hb)
      have n2_ := Aside0.mk (Kd.V_below (by exact HO566.out) hb)
      have n3_ := Aside0.mk (Kd.N_below (by exact HO569.out) hb)
      have n4_ := Aside0.mk (Kd.V_below (by exact HO576.out) hb)
      have n5_ := Aside0.mk (Kd.R_below (by exact HO581.out) hb)
      have n6_ := Aside0.mk (Kd.R_below (by exact HO584.out) hb)
      have n7_ := Aside0.mk (Kd.R_below (by exact HO587.out) hb)
      have n8_ := Aside0.mk (Kd.N_below (by exact HO590.out) hb)
      have n9_ := Aside0.mk (blk_below (g := gb555) (o := .cells #[.bool t556, .bool t557, .slice Ao15 y572.length co15, .slice Ao16 t561.length co16, .slice Ao17 t564.length co17, .slice Ao18 t567.length co18, .bool t570, .bool t571] 25 (0, 0)) (by exact BK555.out) hb)
      have n10_ := Aside0.mk (blk_below (g := gb593) (o := .cells #[.bool t577, .bool t578, .slice Ao26 t579.length co26, .slice Ao27 t582.length co27, .slice Ao28 t585.length co28, .slice Ao29 t588.length co29, .bool t591, .bool t592] 25 (0, 0)) (by exact BK593.out) hb)
      have n11_ := Aside0.mk (below_step (by repeat (first | (with_reducible first | exact HB.out | apply below_alloc | apply pw_below_drewN | apply below_drew1 | refine below_set ?_ GE555.out | refine below_set ?_ GE593.out) | exact HB.out)) hb)
      clear HO560
      clear HO563
      clear HO566
      clear HO569
      clear HO576
      clear HO581
      clear HO584
      clear HO587
      clear HO590
      clear BK555
      clear BK593
      clear HB
      have HO560 := n0_
      have HO563 := n1_
      have HO566 := n2_
      have HO569 := n3_
      have HO576 := n4_
      have HO581 := n5_
      have HO584 := n6_
      have HO587 := n7_
      have HO590 := n8_
      have BK555 := n9_
      have BK593 := n10_
      have HB := n11_
      clear n0_ n1_ n2_ n3_ n4_ n5_ n6_ n7_ n8_ n9_ n10_ n11_
      (try clear hb)
      (try clear hb2)
      (try clear hk)
      (try clear hi)
      refine hK.out _ _ ⟨(blk_cell BK555.out 0).trans rfl, (blk_cell BK555.out 1).trans rfl, (blk_cell BK555.out 2).trans rfl, (blk_cell BK555.out 3).trans rfl, (blk_cell BK555.out 4).trans rfl, (blk_cell BK555.out 5).trans rfl, (blk_cell BK555.out 6).trans rfl, (blk_cell BK555.out 7).trans rfl, (blk_cell BK593.out 0).trans rfl, (blk_cell BK593.out 1).trans rfl, (blk_cell BK593.out 2).trans rfl, (blk_cell BK593.out 3).trans rfl, (blk_cell BK593.out 4).trans rfl, (blk_cell BK593.out 5).trans rfl, (blk_cell BK593.out 6).trans rfl, (blk_cell BK593.out 7).trans rfl⟩ (fun hHeld => ?_)
      clear hK K
      refine norm_ (a' := ?_) ?_ ?_
      rotate_left
      ·show Act.put _ (some 31) _ = _
       simp only [Act.put, List.setIfInBounds_toArray, List.set_cons_zero, List.set_cons_succ, i64_w, i32_w]
       rfl
      refine pure_ (i := 8) (N := some 32) (v := ?_) (a' := ?_) (tf 9 10) rfl rfl (any_of HT_.out (by kernel_rfl)) (fun _ _ _ h => h) (Or.inl ⟨by rfl, ?_⟩) ?_ ?_
      rotate_left
      ·intro w'
       go_simp
       with_reducible rfl
      rotate_left
      ·simp only [Act.put, List.setIfInBounds_toArray, List.set_cons_zero, List.set_cons_succ, i64_w, i32_w]
       rfl
      refine pure_ (i := 9) (N := some 33) (v := ?_) (a' := ?_) (tf 10 9) rfl rfl (any_of HT_.out (by kernel_rfl)) (fun _ _ _ h => h) (Or.inl ⟨by rfl, ?_⟩) ?_ ?_
      rotate_left
      ·intro w'
       go_simp
       with_reducible rfl
      rotate_left
      ·simp only [Act.put, List.setIfInBounds_toArray, List.set_cons_zero, List.set_cons_succ, i64_w, i32_w]
       rfl
      refine take_ (i := 10) (N := some 34) (v := ?_) (a' := ?_) (tf 11 8) rfl rfl (take_ofW HT_.out HW_.out (by kernel_rfl)) (fun _ _ _ h => h) (Or.inl ⟨by rfl, ?_⟩) hHeld ?_ ?_
      rotate_left
      ·rintro w' ⟨s0, s1, s2, s3, s4, s5, s6, s7, s8, s9, s10, s11, s12, s13, s14, s15⟩
       go_simp
       with_reducible rfl
      rotate_left
      ·simp only [Act.put, List.setIfInBounds_toArray, List.set_cons_zero, List.set_cons_succ, i64_w, i32_w]
       rfl
      refine one_ (i := 11) (N := some 35) (tf 12 7) rfl rfl (one_of HT_.out (by kernel_rfl)) (by decide) (fun K hK => ?_)
      refine goes_ Try.func18 (by kernel_rfl) rfl #[.agg #[.bool t556, .bool t557, .slice Ao15 y572.length co15, .slice Ao16 t561.length co16, .slice Ao17 t564.length co17, .slice Ao18 t567.length co18, .bool t570, .bool t571]] (by rfl) rfl rfl (by (try simp only [List.map_toArray, List.map_cons, List.map_nil]); first | done | rfl | (simp only [List.length_drop, List.length_take]; rfl)) ?_
      with_reducible refine (config_Check.calls t556 t557 _ _ y572 _ _ t561 _ _ t564 _ _ t567 t570 t571 t597 _ ?side1 ?side2 ?side3 ?side4 ?side5 ?side6 ?side7 ?side8 A37.out).mono ?_
      (case side1 => repeat (first | exact (Kd.V_reads' HO576.out).2.2 | (with_reducible refine Kd.C_alloc ?_ _) | (with_reducible refine Kd.C_drewN ?_ _) | (with_reducible refine Kd.C_drew ?_)))
      (case side2 => exact (Kd.V_reads' HO576.out).2.1)
      (case side3 => repeat (first | exact (Kd.V_reads' HO563.out).2.2 | (with_reducible refine Kd.C_alloc ?_ _) | (with_reducible refine Kd.C_drewN ?_ _) | (with_reducible refine Kd.C_drew ?_)))
      (case side4 => exact (Kd.V_reads' HO563.out).2.1)
      (case side5 => repeat (first | exact (Kd.V_reads' HO566.out).2.2 | (with_reducible refine Kd.C_alloc ?_ _) | (with_reducible refine Kd.C_drewN ?_ _) | (with_reducible refine Kd.C_drew ?_)))
      (case side6 => exact (Kd.V_reads' HO566.out).2.1)
      (case side7 => repeat (first | exact (Kd.N_reads' HO569.out).2.2 | (with_reducible refine Kd.C_alloc ?_ _) | (with_reducible refine Kd.C_drewN ?_ _) | (with_reducible refine Kd.C_drew ?_)))
      (case side8 => exact (Kd.N_reads' HO569.out).2.1)
      rintro e w48 ⟨rfl, hb⟩
      refine ⟨_, rfl, ?_⟩
      have n0_ := Aside0.mk (Kd.V_below (by exact HO560.out) hb)
      have n1_ := Aside0.mk (Kd.V_below (by exact HO563.out) hb)
      have n2_ := Aside0.mk (Kd.V_below (by exact HO566.out) hb)
      have n3_ := Aside0.mk (Kd.N_below (by exact HO569.out) hb)
      have n4_ := Aside0.mk (Kd.V_below (by exact HO576.out) hb)
      have n5_ := Aside0.mk (Kd.R_below (by exact HO581.out) hb)
      have n6_ := Aside0.mk (Kd.R_below (by exact HO584.out) hb)
      have n7_ := Aside0.mk (Kd.R_below (by exact HO587.out) hb)
      have n8_ := Aside0.mk (Kd.N_below (by exact HO590.out) hb)
      have n9_ := Aside0.mk (blk_below (g := gb555) (o := .cells #[.bool t556, .bool t557, .slice Ao15 y572.length co15, .slice Ao16 t561.length co16, .slice Ao17 t564.length co17, .slice Ao18 t567.length co18, .bool t570, .bool t571] 25 (0, 0)) (by exact BK555.out) hb)
      have n10_ := Aside0.mk (blk_below (g := gb593) (o := .cells #[.bool t577, .bool t578, .slice Ao26 t579.length co26, .slice Ao27 t582.length co27, .slice Ao28 t585.length co28, .slice Ao29 t588.length co29, .bool t591, .bool t592] 25 (0, 0)) (by exact BK593.out) hb)
      have n11_ := Aside0.mk (below_step (by repeat (first | (with_reducible first | exact HB.out | apply below_alloc | apply pw_below_drewN | apply below_drew1 | refine below_set ?_ GE555.out | refine below_set ?_ GE593.out) | exact HB.out)) hb)
      clear HO560
      clear HO563
      clear HO566
      clear HO569
      clear HO576
      clear HO581
      clear HO584
      clear HO587
      clear HO590
      clear BK555
      clear BK593
      clear HB
      have HO560 := n0_
      have HO563 := n1_
      have HO566 := n2_
      have HO569 := n3_
      have HO576 := n4_
      have HO581 := n5_
      have HO584 := n6_
      have HO587 := n7_
      have HO590 := n8_
      have BK555 := n9_
      have BK593 := n10_
      have HB := n11_
      clear n0_ n1_ n2_ n3_ n4_ n5_ n6_ n7_ n8_ n9_ n10_ n11_
      (try clear hb)
      (try clear hb2)
      (try clear hk)
      (try clear hi)
      refine hK.out _ _ ⟨(blk_cell BK555.out 0).trans rfl, (blk_cell BK555.out 1).trans rfl, (blk_cell BK555.out 2).trans rfl, (blk_cell BK555.out 3).trans rfl, (blk_cell BK555.out 4).trans rfl, (blk_cell BK555.out 5).trans rfl, (blk_cell BK555.out 6).trans rfl, (blk_cell BK555.out 7).trans rfl, (blk_cell BK593.out 0).trans rfl, (blk_cell BK593.out 1).trans rfl, (blk_cell BK593.out 2).trans rfl, (blk_cell BK593.out 3).trans rfl, (blk_cell BK593.out 4).trans rfl, (blk_cell BK593.out 5).trans rfl, (blk_cell BK593.out 6).trans rfl, (blk_cell BK593.out 7).trans rfl⟩ (fun hHeld => ?_)
      clear hK K
      refine norm_ (a' := ?_) ?_ ?_
      rotate_left
      ·show Act.put _ (some 35) _ = _
       simp only [Act.put, List.setIfInBounds_toArray, List.set_cons_zero, List.set_cons_succ, i64_w, i32_w]
       rfl
      refine pure_ (i := 12) (N := some 36) (v := ?_) (a' := ?_) (tf 13 6) rfl rfl (any_of HT_.out (by kernel_rfl)) (fun _ _ _ h => h) (Or.inl ⟨by rfl, ?_⟩) ?_ ?_
      rotate_left
      ·intro w'
       go_simp
       with_reducible rfl
      rotate_left
      ·simp only [Act.put, List.setIfInBounds_toArray, List.set_cons_zero, List.set_cons_succ, i64_w, i32_w]
       rfl
      refine pure_ (i := 13) (N := some 37) (v := ?_) (a' := ?_) (tf 14 5) rfl rfl (any_of HT_.out (by kernel_rfl)) (fun _ _ _ h => h) (Or.inl ⟨by rfl, ?_⟩) ?_ ?_
      rotate_left
      ·intro w'
       go_simp
       with_reducible rfl
      rotate_left
      ·simp only [Act.put, List.setIfInBounds_toArray, List.set_cons_zero, List.set_cons_succ, i64_w, i32_w]
       rfl
      refine pure_ (i := 14) (N := some 38) (v := undef) (a' := ?_) (tf 15 4) rfl rfl (any_of HT_.out (by kernel_rfl)) (fun _ _ _ h => h) (Or.inr ⟨by rfl, rfl⟩) ?_ ?_
      rotate_left
      ·simp only [Act.put, List.setIfInBounds_toArray, List.set_cons_zero, List.set_cons_succ, i64_w, i32_w]
       rfl
      refine pure_ (i := 15) (N := some 39) (v := undef) (a' := ?_) (tf 16 3) rfl rfl (any_of HT_.out (by kernel_rfl)) (fun _ _ _ h => h) (Or.inr ⟨by rfl, rfl⟩) ?_ ?_
      rotate_left
      ·simp only [Act.put, List.setIfInBounds_toArray, List.set_cons_zero, List.set_cons_succ, i64_w, i32_w]
       rfl
      refine pure_ (i := 16) (N := some 40) (v := undef) (a' := ?_) (tf 17 2) rfl rfl (any_of HT_.out (by kernel_rfl)) (fun _ _ _ h => h) (Or.inr ⟨by rfl, rfl⟩) ?_ ?_
      rotate_left
      ·simp only [Act.put, List.setIfInBounds_toArray, List.set_cons_zero, List.set_cons_succ, i64_w, i32_w]
       rfl
      refine pure_ (i := 17) (N := some 41) (v := ?_) (a' := ?_) (tf 18 1) rfl rfl (any_of HT_.out (by kernel_rfl)) (fun _ _ _ h => h) (Or.inl ⟨by rfl, ?_⟩) ?_ ?_
      rotate_left
      ·intro w'
       go_simp
       with_reducible rfl
      rotate_left
      ·simp only [Act.put, List.setIfInBounds_toArray, List.set_cons_zero, List.set_cons_succ, i64_w, i32_w]
       rfl
      refine pure_ (i := 18) (N := some 42) (v := ?_) (a' := ?_) (tf 19 0) rfl rfl (any_of HT_.out (by kernel_rfl)) (fun _ _ _ h => h) (Or.inl ⟨by rfl, ?_⟩) ?_ ?_
      rotate_left
      ·intro w'
       go_simp
       with_reducible rfl
      rotate_left
      ·simp only [Act.put, List.setIfInBounds_toArray, List.set_cons_zero, List.set_cons_succ, i64_w, i32_w]
       rfl
      refine done_ (done_of HT_.out (by kernel_rfl)) ?_
      try go_wp2
      go_meet
      case rel => exact ⟨_, (false), (by first | rfl | (simp; done) | (simp [*]; done)), H', ⟨by first | omega | exact Nat.le_refl _⟩, ⟨by exact Kd.V_mono HO576.out (fun _ hk => ⟨hk.1.1.1.1.1.1, ⟨hk.1.1.1.1.2, ⟨hk.1.1.1.2, ⟨hk.1.1.2, ⟨hk.1.2, ⟨hk.1.1.1.1.1.2, hk.2⟩⟩⟩⟩⟩⟩)⟩, ⟨by exact Kd.V_mono HO563.out (fun _ hk => ⟨hk.1.1.1.1.1.1, ⟨hk.1.1.1.1.2, ⟨hk.1.1.1.2, ⟨hk.1.1.2, ⟨hk.1.2, ⟨hk.1.1.1.1.1.2, hk.2⟩⟩⟩⟩⟩⟩)⟩, ⟨by exact Kd.V_mono HO566.out (fun _ hk => ⟨hk.1.1.1.1.1.1, ⟨hk.1.1.1.1.2, ⟨hk.1.1.1.2, ⟨hk.1.1.2, ⟨hk.1.2, ⟨hk.1.1.1.1.1.2, hk.2⟩⟩⟩⟩⟩⟩)⟩, ⟨by exact Kd.N_mono HO569.out (fun _ hk => ⟨hk.1.1.1.1.2, ⟨hk.1.1.1.2, ⟨hk.1.1.2, ⟨hk.1.2, ⟨hk.1.1.1.1.1, hk.2⟩⟩⟩⟩⟩)⟩, ⟨by exact HO581.out⟩, ⟨by exact HO584.out⟩, ⟨by exact HO587.out⟩, ⟨by exact Kd.N_mono HO590.out (fun _ hk => ⟨hk.1.2.2.2.1, ⟨hk.1.1, ⟨hk.1.2.1, ⟨hk.1.2.2.1, ⟨hk.1.2.2.2.2, hk.2⟩⟩⟩⟩⟩)⟩, ⟨by exact BK555.out⟩, ⟨by exact BK593.out⟩, ⟨by repeat (first | (with_reducible first | exact HB.out | apply below_alloc | apply pw_below_drewN | apply below_drew1 | refine below_set ?_ GE555.out | refine below_set ?_ GE593.out) | exact HB.out)⟩⟩
   case rest =>
    clear HC10
    try clear c1
    try clear p2
    try clear c3
    try clear c15
    try clear c18
    try clear c38
    try clear c38b0
    try clear c38b1
    obtain ⟨kq, x42_9, rfl, HA, HJ9, HO_556002, HO_556003, HO_556004, HO_556005, HO_594002, HO_594003, HO_594004, HO_594005, BK555, BK593, HB⟩ := hcut
    cases kq with
    | zero => exact absurd HA.out (by simp [boltinglaw12_ConfigStrip.j0])
    | succ kj9 =>
     have H := HA.out
     clear HA
     simp only [boltinglaw12_ConfigStrip.j0] at H
     by_cases c49 : x42_9 = true
     ·subst c49
      replace H : (some false) = some r := by rw [if_pos rfl] at H; exact H
      exact absurd (Option.some.inj H) (by rw [hT.out]; decide)
     ·replace c49 := Bool.eq_false_iff.mpr c49
      subst c49
      replace H : ((boltingref10_Unsafe.f).bind fun t599 => ((boltingref02_Has.f kj9 t599 a1).bind fun t602 => (if t602 = true then (if t594 = 1 then ((boltinglaw12_fixed.f).bind fun t603 => (some t603)) else (some false)) else ((config_Element.f kj9 t556 t557 y572 t561 t564 t567 t570 t571 a1).bind fun t604 => (if t594 = t604 then ((boltinglaw12_fixed.f).bind fun t605 => (some t605)) else (some false)))))) = some r := by rw [if_neg (show ¬ (false = true) by decide)] at H; exact H
      replace H := Option.bind_eq_some_iff.mp H
      obtain ⟨t599, A500, H⟩ := H
      have A50 := Aside0.mk A500
      clear A500
      replace H := Option.bind_eq_some_iff.mp H
      obtain ⟨t602, A510, H⟩ := H
      have A51 := Aside0.mk A510
      clear A510
      by_cases c52 : t602 = true
      ·subst c52
       replace H : (if t594 = 1 then ((boltinglaw12_fixed.f).bind fun t603 => (some t603)) else (some false)) = some r := by rw [if_pos rfl] at H; exact H
       by_cases c53 : t594 = 1
       ·rw [if_pos c53] at H
        have c53b0 : (t594 == 1) = true := beq_iff_eq.mpr c53
        have c53b1 : (t594 != 1) = false := bne_eq_false_iff_eq.mpr c53
        clear c53
        replace H := Option.bind_eq_some_iff.mp H
        obtain ⟨t603, A540, H⟩ := H
        replace H : (some t603) = some r := H
        have A54 := Aside0.mk A540
        clear A540
        obtain rfl := Option.some.inj H
        go_wp2_with (first | ((with_reducible refine gate_callee (f := 20) rfl ?_); refine goesL_ (some 43) rfl rfl Try.func20 (by kernel_rfl) rfl #[] rfl (by (try simp only [List.map_toArray, List.map_cons, List.map_nil]); first | done | rfl | (simp only [List.length_drop, List.length_take]; rfl)) ?_; (with_reducible refine (boltingref10_Unsafe.calls  t599 _ A50.out).mono ?_); rintro e w55 ⟨v600, rfl, ho0, hb⟩; refine ⟨_, rfl, ?_⟩; have n0_ := Aside0.mk (Kd.V_elder' (by (with_reducible repeat (first | apply Kd.V_alloc | apply Kd.V_drewN | apply Kd.V_drew)); exact HO_556002.out) (Kd.R_base ho0) hb); have n1_ := Aside0.mk (Kd.V_elder' (by (with_reducible repeat (first | apply Kd.V_alloc | apply Kd.V_drewN | apply Kd.V_drew)); exact HO_556003.out) (Kd.R_base ho0) hb); have n2_ := Aside0.mk (Kd.V_elder' (by (with_reducible repeat (first | apply Kd.V_alloc | apply Kd.V_drewN | apply Kd.V_drew)); exact HO_556004.out) (Kd.R_base ho0) hb); have n3_ := Aside0.mk (Kd.N_elder' (by (with_reducible repeat (first | apply Kd.N_alloc | apply Kd.N_drewN | apply Kd.N_drew)); exact HO_556005.out) (Kd.R_base ho0) hb); have n4_ := Aside0.mk (Kd.R_elder' (by (with_reducible repeat (first | apply Kd.R_alloc | apply Kd.R_drewN | apply Kd.R_drew)); exact HO_594002.out) (Kd.R_base ho0) hb); have n5_ := Aside0.mk (Kd.R_elder' (by (with_reducible repeat (first | apply Kd.R_alloc | apply Kd.R_drewN | apply Kd.R_drew)); exact HO_594003.out) (Kd.R_base ho0) hb); have n6_ := Aside0.mk (Kd.R_elder' (by (with_reducible repeat (first | apply Kd.R_alloc | apply Kd.R_drewN | apply Kd.R_drew)); exact HO_594004.out) (Kd.R_base ho0) hb); have n7_ := Aside0.mk (Kd.N_elder' (by (with_reducible repeat (first | apply Kd.N_alloc | apply Kd.N_drewN | apply Kd.N_drew)); exact HO_594005.out) (Kd.R_base ho0) hb); have n8_ := Aside0.mk (Kd.R_lower (Kd.R_new' (Kd.R_new' (Kd.R_new' ho0 (Kd.R_lt (by (with_reducible repeat (first | apply Kd.R_alloc | apply Kd.R_drewN | apply Kd.R_drew)); exact HO_594002.out))) (Kd.R_lt (by (with_reducible repeat (first | apply Kd.R_alloc | apply Kd.R_drewN | apply Kd.R_drew)); exact HO_594003.out))) (Kd.R_lt (by (with_reducible repeat (first | apply Kd.R_alloc | apply Kd.R_drewN | apply Kd.R_drew)); exact HO_594004.out))) (below_size (by repeat (first | (with_reducible first | exact HB.out | apply below_alloc | apply pw_below_drewN | apply below_drew1 | refine below_set ?_ GE555.out | refine below_set ?_ GE593.out) | exact HB.out)))); have n9_ := Aside0.mk (blk_below (g := gb555) (o := .cells #[.bool t556, .bool t557, .slice Ao15 y572.length co15, .slice Ao16 t561.length co16, .slice Ao17 t564.length co17, .slice Ao18 t567.length co18, .bool t570, .bool t571] 25 (0, 0)) (by (with_reducible repeat (first | refine blk_drewN ?_ _ | refine blk_drew ?_ | refine blk_alloc ?_ _)); exact BK555.out) hb); have n10_ := Aside0.mk (blk_below (g := gb593) (o := .cells #[.bool t577, .bool t578, .slice Ao26 t579.length co26, .slice Ao27 t582.length co27, .slice Ao28 t585.length co28, .slice Ao29 t588.length co29, .bool t591, .bool t592] 25 (0, 0)) (by (with_reducible repeat (first | refine blk_drewN ?_ _ | refine blk_drew ?_ | refine blk_alloc ?_ _)); exact BK593.out) hb); have n11_ := Aside0.mk (below_step (by repeat (first | (with_reducible first | exact HB.out | apply below_alloc | apply pw_below_drewN | apply below_drew1 | refine below_set ?_ GE555.out | refine below_set ?_ GE593.out) | exact HB.out)) hb); clear HO_556002; clear HO_556003; clear HO_556004; clear HO_556005; clear HO_594002; clear HO_594003; clear HO_594004; clear HO_594005; clear BK555; clear BK593; clear HB; have HO_556002 := n0_; have HO_556003 := n1_; have HO_556004 := n2_; have HO_556005 := n3_; have HO_594002 := n4_; have HO_594003 := n5_; have HO_594004 := n6_; have HO_594005 := n7_; have HO601 := n8_; have BK555 := n9_; have BK593 := n10_; have HB := n11_; clear n0_ n1_ n2_ n3_ n4_ n5_ n6_ n7_ n8_ n9_ n10_ n11_; (try clear hb); (try clear hb2); (try clear hk); (try clear hi); (try clear ho0); obtain ⟨Ao56, co56, eo56⟩ := Kd.R_slice HO601.out; subst eo56) | ((with_reducible refine gate_callee (f := 19) rfl ?_); refine goesL_ (some 45) rfl rfl Try.func19 (by kernel_rfl) rfl #[.slice Ao56 t599.length co56, .string a1] rfl (by (try simp only [List.map_toArray, List.map_cons, List.map_nil]); first | done | rfl | (simp only [List.length_drop, List.length_take]; rfl)) ?_; (with_reducible refine (boltingref02_Has.calls kj9 _ _ t599 a1 true _ ?side1 ?side2 A51.out).mono ?_); (case side1 => repeat (first | exact (Kd.R_reads' HO601.out).2.2 | (with_reducible refine Kd.C_alloc ?_ _) | (with_reducible refine Kd.C_drewN ?_ _) | (with_reducible refine Kd.C_drew ?_))); (case side2 => exact (Kd.R_reads' HO601.out).2.1); rintro e w' ⟨rfl, ⟨nd, rfl⟩⟩; refine ⟨_, rfl, ?_⟩) | (go_at_call 12; (with_reducible refine (boltinglaw12_fixed.calls  t603 _ A54.out).mono ?_); rintro e w57 ⟨rfl, hb⟩; have n0_ := Aside0.mk (Kd.V_below (by (with_reducible repeat (first | apply Kd.V_alloc | apply Kd.V_drewN | apply Kd.V_drew)); exact HO_556002.out) hb); have n1_ := Aside0.mk (Kd.V_below (by (with_reducible repeat (first | apply Kd.V_alloc | apply Kd.V_drewN | apply Kd.V_drew)); exact HO_556003.out) hb); have n2_ := Aside0.mk (Kd.V_below (by (with_reducible repeat (first | apply Kd.V_alloc | apply Kd.V_drewN | apply Kd.V_drew)); exact HO_556004.out) hb); have n3_ := Aside0.mk (Kd.N_below (by (with_reducible repeat (first | apply Kd.N_alloc | apply Kd.N_drewN | apply Kd.N_drew)); exact HO_556005.out) hb); have n4_ := Aside0.mk (Kd.R_below (by (with_reducible repeat (first | apply Kd.R_alloc | apply Kd.R_drewN | apply Kd.R_drew)); exact HO_594002.out) hb); have n5_ := Aside0.mk (Kd.R_below (by (with_reducible repeat (first | apply Kd.R_alloc | apply Kd.R_drewN | apply Kd.R_drew)); exact HO_594003.out) hb); have n6_ := Aside0.mk (Kd.R_below (by (with_reducible repeat (first | apply Kd.R_alloc | apply Kd.R_drewN | apply Kd.R_drew)); exact HO_594004.out) hb); have n7_ := Aside0.mk (Kd.N_below (by (with_reducible repeat (first | apply Kd.N_alloc | apply Kd.N_drewN | apply Kd.N_drew)); exact HO_594005.out) hb); have n8_ := Aside0.mk (Kd.R_below (by (with_reducible repeat (first | apply Kd.R_alloc | apply Kd.R_drewN | apply Kd.R_drew)); exact HO601.out) hb); have n9_ := Aside0.mk (blk_below (g := gb555) (o := .cells #[.bool t556, .bool t557, .slice Ao15 y572.length co15, .slice Ao16 t561.length co16, .slice Ao17 t564.length co17, .slice Ao18 t567.length co18, .bool t570, .bool t571] 25 (0, 0)) (by (with_reducible repeat (first | refine blk_drewN ?_ _ | refine blk_drew ?_ | refine blk_alloc ?_ _)); exact BK555.out) hb); have n10_ := Aside0.mk (blk_below (g := gb593) (o := .cells #[.bool t577, .bool t578, .slice Ao26 t579.length co26, .slice Ao27 t582.length co27, .slice Ao28 t585.length co28, .slice Ao29 t588.length co29, .bool t591, .bool t592] 25 (0, 0)) (by (with_reducible repeat (first | refine blk_drewN ?_ _ | refine blk_drew ?_ | refine blk_alloc ?_ _)); exact BK593.out) hb); have n11_ := Aside0.mk (below_step (by repeat (first | (with_reducible first | exact HB.out | apply below_alloc | apply pw_below_drewN | apply below_drew1 | refine below_set ?_ GE555.out | refine below_set ?_ GE593.out) | exact HB.out)) hb); clear HO_556002; clear HO_556003; clear HO_556004; clear HO_556005; clear HO_594002; clear HO_594003; clear HO_594004; clear HO_594005; clear HO601; clear BK555; clear BK593; clear HB; have HO_556002 := n0_; have HO_556003 := n1_; have HO_556004 := n2_; have HO_556005 := n3_; have HO_594002 := n4_; have HO_594003 := n5_; have HO_594004 := n6_; have HO_594005 := n7_; have HO601 := n8_; have BK555 := n9_; have BK593 := n10_; have HB := n11_; clear n0_ n1_ n2_ n3_ n4_ n5_ n6_ n7_ n8_ n9_ n10_ n11_; (try clear hb); (try clear hb2); (try clear hk); (try clear hi)))
        go_ret
        exact ⟨by first | rfl | (simp [errW_none, errW_some] <;> rfl) | (simp only [← hji5]; first | rfl | (simp [errW_none, errW_some] <;> rfl)) | (simp [*, errW_none, errW_some] <;> rfl), by repeat (first | (with_reducible first | exact HB.out | apply below_alloc | apply pw_below_drewN | apply below_drew1 | refine below_set ?_ GE555.out | refine below_set ?_ GE593.out) | exact HB.out)⟩
       ·rw [if_neg c53] at H
        have c53b0 : (t594 == 1) = false := beq_eq_false_iff_ne.mpr c53
        have c53b1 : (t594 != 1) = true := bne_iff_ne.mpr c53
        exact absurd (Option.some.inj H) (by rw [hT.out]; decide)
      ·replace c52 := Bool.eq_false_iff.mpr c52
       subst c52
       replace H : ((config_Element.f kj9 t556 t557 y572 t561 t564 t567 t570 t571 a1).bind fun t604 => (if t594 = t604 then ((boltinglaw12_fixed.f).bind fun t605 => (some t605)) else (some false))) = some r := by rw [if_neg (show ¬ (false = true) by decide)] at H; exact H
       replace H := Option.bind_eq_some_iff.mp H
       obtain ⟨t604, A600, H⟩ := H
       have A60 := Aside0.mk A600
       clear A600
       by_cases c61 : t594 = t604
       ·rw [if_pos c61] at H
        have c61b0 : (t594 == t604) = true := beq_iff_eq.mpr c61
        have c61b1 : (t594 != t604) = false := bne_eq_false_iff_eq.mpr c61
        clear c61
        replace H := Option.bind_eq_some_iff.mp H
        obtain ⟨t605, A620, H⟩ := H
        replace H : (some t605) = some r := H
        have A62 := Aside0.mk A620
        clear A620
        obtain rfl := Option.some.inj H
        go_wp2_with (first | ((with_reducible refine gate_callee (f := 20) rfl ?_); refine goesL_ (some 43) rfl rfl Try.func20 (by kernel_rfl) rfl #[] rfl (by (try simp only [List.map_toArray, List.map_cons, List.map_nil]); first | done | rfl | (simp only [List.length_drop, List.length_take]; rfl)) ?_; (with_reducible refine (boltingref10_Unsafe.calls  t599 _ A50.out).mono ?_); rintro e w63 ⟨v600, rfl, ho0, hb⟩; refine ⟨_, rfl, ?_⟩; have n0_ := Aside0.mk (Kd.V_elder' (by (with_reducible repeat (first | apply Kd.V_alloc | apply Kd.V_drewN | apply Kd.V_drew)); exact HO_556002.out) (Kd.R_base ho0) hb); have n1_ := Aside0.mk (Kd.V_elder' (by (with_reducible repeat (first | apply Kd.V_alloc | apply Kd.V_drewN | apply Kd.V_drew)); exact HO_556003.out) (Kd.R_base ho0) hb); have n2_ := Aside0.mk (Kd.V_elder' (by (with_reducible repeat (first | apply Kd.V_alloc | apply Kd.V_drewN | apply Kd.V_drew)); exact HO_556004.out) (Kd.R_base ho0) hb); have n3_ := Aside0.mk (Kd.N_elder' (by (with_reducible repeat (first | apply Kd.N_alloc | apply Kd.N_drewN | apply Kd.N_drew)); exact HO_556005.out) (Kd.R_base ho0) hb); have n4_ := Aside0.mk (Kd.R_elder' (by (with_reducible repeat (first | apply Kd.R_alloc | apply Kd.R_drewN | apply Kd.R_drew)); exact HO_594002.out) (Kd.R_base ho0) hb); have n5_ := Aside0.mk (Kd.R_elder' (by (with_reducible repeat (first | apply Kd.R_alloc | apply Kd.R_drewN | apply Kd.R_drew)); exact HO_594003.out) (Kd.R_base ho0) hb); have n6_ := Aside0.mk (Kd.R_elder' (by (with_reducible repeat (first | apply Kd.R_alloc | apply Kd.R_drewN | apply Kd.R_drew)); exact HO_594004.out) (Kd.R_base ho0) hb); have n7_ := Aside0.mk (Kd.N_elder' (by (with_reducible repeat (first | apply Kd.N_alloc | apply Kd.N_drewN | apply Kd.N_drew)); exact HO_594005.out) (Kd.R_base ho0) hb); have n8_ := Aside0.mk (Kd.R_lower (Kd.R_new' (Kd.R_new' (Kd.R_new' ho0 (Kd.R_lt (by (with_reducible repeat (first | apply Kd.R_alloc | apply Kd.R_drewN | apply Kd.R_drew)); exact HO_594002.out))) (Kd.R_lt (by (with_reducible repeat (first | apply Kd.R_alloc | apply Kd.R_drewN | apply Kd.R_drew)); exact HO_594003.out))) (Kd.R_lt (by (with_reducible repeat (first | apply Kd.R_alloc | apply Kd.R_drewN | apply Kd.R_drew)); exact HO_594004.out))) (below_size (by repeat (first | (with_reducible first | exact HB.out | apply below_alloc | apply pw_below_drewN | apply below_drew1 | refine below_set ?_ GE555.out | refine below_set ?_ GE593.out) | exact HB.out)))); have n9_ := Aside0.mk (blk_below (g := gb555) (o := .cells #[.bool t556, .bool t557, .slice Ao15 y572.length co15, .slice Ao16 t561.length co16, .slice Ao17 t564.length co17, .slice Ao18 t567.length co18, .bool t570, .bool t571] 25 (0, 0)) (by (with_reducible repeat (first | refine blk_drewN ?_ _ | refine blk_drew ?_ | refine blk_alloc ?_ _)); exact BK555.out) hb); have n10_ := Aside0.mk (blk_below (g := gb593) (o := .cells #[.bool t577, .bool t578, .slice Ao26 t579.length co26, .slice Ao27 t582.length co27, .slice Ao28 t585.length co28, .slice Ao29 t588.length co29, .bool t591, .bool t592] 25 (0, 0)) (by (with_reducible repeat (first | refine blk_drewN ?_ _ | refine blk_drew ?_ | refine blk_alloc ?_ _)); exact BK593.out) hb); have n11_ := Aside0.mk (below_step (by repeat (first | (with_reducible first | exact HB.out | apply below_alloc | apply pw_below_drewN | apply below_drew1 | refine below_set ?_ GE555.out | refine below_set ?_ GE593.out) | exact HB.out)) hb); clear HO_556002; clear HO_556003; clear HO_556004; clear HO_556005; clear HO_594002; clear HO_594003; clear HO_594004; clear HO_594005; clear BK555; clear BK593; clear HB; have HO_556002 := n0_; have HO_556003 := n1_; have HO_556004 := n2_; have HO_556005 := n3_; have HO_594002 := n4_; have HO_594003 := n5_; have HO_594004 := n6_; have HO_594005 := n7_; have HO601 := n8_; have BK555 := n9_; have BK593 := n10_; have HB := n11_; clear n0_ n1_ n2_ n3_ n4_ n5_ n6_ n7_ n8_ n9_ n10_ n11_; (try clear hb); (try clear hb2); (try clear hk); (try clear hi); (try clear ho0); obtain ⟨Ao64, co64, eo64⟩ := Kd.R_slice HO601.out; subst eo64) | ((with_reducible refine gate_callee (f := 19) rfl ?_); refine goesL_ (some 45) rfl rfl Try.func19 (by kernel_rfl) rfl #[.slice Ao64 t599.length co64, .string a1] rfl (by (try simp only [List.map_toArray, List.map_cons, List.map_nil]); first | done | rfl | (simp only [List.length_drop, List.length_take]; rfl)) ?_; (with_reducible refine (boltingref02_Has.calls kj9 _ _ t599 a1 false _ ?side1 ?side2 A51.out).mono ?_); (case side1 => repeat (first | exact (Kd.R_reads' HO601.out).2.2 | (with_reducible refine Kd.C_alloc ?_ _) | (with_reducible refine Kd.C_drewN ?_ _) | (with_reducible refine Kd.C_drew ?_))); (case side2 => exact (Kd.R_reads' HO601.out).2.1); rintro e w' ⟨rfl, ⟨nd, rfl⟩⟩; refine ⟨_, rfl, ?_⟩; have hnb65 := NB555_593.out; have hnc65 := NB593_555.out; have hcz66_0 : w63.cell? ⟨gb555, 0, none⟩ = some (.bool t556) := (blk_cell BK555.out 0).trans rfl; have hcz66_1 : w63.cell? ⟨gb555, 1, none⟩ = some (.bool t557) := (blk_cell BK555.out 1).trans rfl; have hcz66_2 : w63.cell? ⟨gb555, 2, none⟩ = some (.slice Ao15 y572.length co15) := (blk_cell BK555.out 2).trans rfl; have hcz66_3 : w63.cell? ⟨gb555, 3, none⟩ = some (.slice Ao16 t561.length co16) := (blk_cell BK555.out 3).trans rfl; have hcz66_4 : w63.cell? ⟨gb555, 4, none⟩ = some (.slice Ao17 t564.length co17) := (blk_cell BK555.out 4).trans rfl; have hcz66_5 : w63.cell? ⟨gb555, 5, none⟩ = some (.slice Ao18 t567.length co18) := (blk_cell BK555.out 5).trans rfl; have hcz66_6 : w63.cell? ⟨gb555, 6, none⟩ = some (.bool t570) := (blk_cell BK555.out 6).trans rfl; have hcz66_7 : w63.cell? ⟨gb555, 7, none⟩ = some (.bool t571) := (blk_cell BK555.out 7).trans rfl; have hfz66_0 := blk_frozen BK555.out 0; have hfz66_1 := blk_frozen BK555.out 1; have hfz66_2 := blk_frozen BK555.out 2; have hfz66_3 := blk_frozen BK555.out 3; have hfz66_4 := blk_frozen BK555.out 4; have hfz66_5 := blk_frozen BK555.out 5; have hfz66_6 := blk_frozen BK555.out 6; have hfz66_7 := blk_frozen BK555.out 7) | ((with_reducible refine gate_callee (f := 13) rfl ?_); refine goesL_ (some 54) rfl rfl Try.func13 (by kernel_rfl) rfl #[.agg #[.bool t556, .bool t557, .slice Ao15 y572.length co15, .slice Ao16 t561.length co16, .slice Ao17 t564.length co17, .slice Ao18 t567.length co18, .bool t570, .bool t571], .string a1] rfl (by (try simp only [List.map_toArray, List.map_cons, List.map_nil]); first | done | rfl | (simp only [List.length_drop, List.length_take]; rfl)) ?_; (with_reducible refine (config_Element.calls kj9 t556 t557 _ _ y572 _ _ t561 _ _ t564 _ _ t567 t570 t571 a1 t604 _ ?side1 ?side2 ?side3 ?side4 ?side5 ?side6 ?side7 ?side8 A60.out).mono ?_); (case side1 => repeat (first | exact (Kd.V_reads' HO_556002.out).2.2 | (with_reducible refine Kd.C_alloc ?_ _) | (with_reducible refine Kd.C_drewN ?_ _) | (with_reducible refine Kd.C_drew ?_))); (case side2 => exact (Kd.V_reads' HO_556002.out).2.1); (case side3 => repeat (first | exact (Kd.V_reads' HO_556003.out).2.2 | (with_reducible refine Kd.C_alloc ?_ _) | (with_reducible refine Kd.C_drewN ?_ _) | (with_reducible refine Kd.C_drew ?_))); (case side4 => exact (Kd.V_reads' HO_556003.out).2.1); (case side5 => repeat (first | exact (Kd.V_reads' HO_556004.out).2.2 | (with_reducible refine Kd.C_alloc ?_ _) | (with_reducible refine Kd.C_drewN ?_ _) | (with_reducible refine Kd.C_drew ?_))); (case side6 => exact (Kd.V_reads' HO_556004.out).2.1); (case side7 => repeat (first | exact (Kd.N_reads' HO_556005.out).2.2 | (with_reducible refine Kd.C_alloc ?_ _) | (with_reducible refine Kd.C_drewN ?_ _) | (with_reducible refine Kd.C_drew ?_))); (case side8 => exact (Kd.N_reads' HO_556005.out).2.1); rintro e w67 ⟨rfl, hb⟩; refine ⟨_, rfl, ?_⟩; have n0_ := Aside0.mk (Kd.V_below (by (with_reducible repeat (first | apply Kd.V_alloc | apply Kd.V_drewN | apply Kd.V_drew)); exact HO_556002.out) hb); have n1_ := Aside0.mk (Kd.V_below (by (with_reducible repeat (first | apply Kd.V_alloc | apply Kd.V_drewN | apply Kd.V_drew)); exact HO_556003.out) hb); have n2_ := Aside0.mk (Kd.V_below (by (with_reducible repeat (first | apply Kd.V_alloc | apply Kd.V_drewN | apply Kd.V_drew)); exact HO_556004.out) hb); have n3_ := Aside0.mk (Kd.N_below (by (with_reducible repeat (first | apply Kd.N_alloc | apply Kd.N_drewN | apply Kd.N_drew)); exact HO_556005.out) hb); have n4_ := Aside0.mk (Kd.R_below (by (with_reducible repeat (first | apply Kd.R_alloc | apply Kd.R_drewN | apply Kd.R_drew)); exact HO_594002.out) hb); have n5_ := Aside0.mk (Kd.R_below (by (with_reducible repeat (first | apply Kd.R_alloc | apply Kd.R_drewN | apply Kd.R_drew)); exact HO_594003.out) hb); have n6_ := Aside0.mk (Kd.R_below (by (with_reducible repeat (first | apply Kd.R_alloc | apply Kd.R_drewN | apply Kd.R_drew)); exact HO_594004.out) hb); have n7_ := Aside0.mk (Kd.N_below (by (with_reducible repeat (first | apply Kd.N_alloc | apply Kd.N_drewN | apply Kd.N_drew)); exact HO_594005.out) hb); have n8_ := Aside0.mk (Kd.R_below (by (with_reducible repeat (first | apply Kd.R_alloc | apply Kd.R_drewN | apply Kd.R_drew)); exact HO601.out) hb); have n9_ := Aside0.mk (blk_below (g := gb555) (o := .cells #[.bool t556, .bool t557, .slice Ao15 y572.length co15, .slice Ao16 t561.length co16, .slice Ao17 t564.length co17, .slice Ao18 t567.length co18, .bool t570, .bool t571] 25 (0, 0)) (by (with_reducible repeat (first | refine blk_drewN ?_ _ | refine blk_drew ?_ | refine blk_alloc ?_ _)); exact BK555.out) hb); have n10_ := Aside0.mk (blk_below (g := gb593) (o := .cells #[.bool t577, .bool t578, .slice Ao26 t579.length co26, .slice Ao27 t582.length co27, .slice Ao28 t585.length co28, .slice Ao29 t588.length co29, .bool t591, .bool t592] 25 (0, 0)) (by (with_reducible repeat (first | refine blk_drewN ?_ _ | refine blk_drew ?_ | refine blk_alloc ?_ _)); exact BK593.out) hb); have n11_ := Aside0.mk (below_step (by repeat (first | (with_reducible first | exact HB.out | apply below_alloc | apply pw_below_drewN | apply below_drew1 | refine below_set ?_ GE555.out | refine below_set ?_ GE593.out) | exact HB.out)) hb); clear HO_556002; clear HO_556003; clear HO_556004; clear HO_556005; clear HO_594002; clear HO_594003; clear HO_594004; clear HO_594005; clear HO601; clear BK555; clear BK593; clear HB; have HO_556002 := n0_; have HO_556003 := n1_; have HO_556004 := n2_; have HO_556005 := n3_; have HO_594002 := n4_; have HO_594003 := n5_; have HO_594004 := n6_; have HO_594005 := n7_; have HO601 := n8_; have BK555 := n9_; have BK593 := n10_; have HB := n11_; clear n0_ n1_ n2_ n3_ n4_ n5_ n6_ n7_ n8_ n9_ n10_ n11_; (try clear hb); (try clear hb2); (try clear hk); (try clear hi)) | (go_at_call 12; (with_reducible refine (boltinglaw12_fixed.calls  t605 _ A62.out).mono ?_); rintro e w68 ⟨rfl, hb⟩; have n0_ := Aside0.mk (Kd.V_below (by (with_reducible repeat (first | apply Kd.V_alloc | apply Kd.V_drewN | apply Kd.V_drew)); exact HO_556002.out) hb); have n1_ := Aside0.mk (Kd.V_below (by (with_reducible repeat (first | apply Kd.V_alloc | apply Kd.V_drewN | apply Kd.V_drew)); exact HO_556003.out) hb); have n2_ := Aside0.mk (Kd.V_below (by (with_reducible repeat (first | apply Kd.V_alloc | apply Kd.V_drewN | apply Kd.V_drew)); exact HO_556004.out) hb); have n3_ := Aside0.mk (Kd.N_below (by (with_reducible repeat (first | apply Kd.N_alloc | apply Kd.N_drewN | apply Kd.N_drew)); exact HO_556005.out) hb); have n4_ := Aside0.mk (Kd.R_below (by (with_reducible repeat (first | apply Kd.R_alloc | apply Kd.R_drewN | apply Kd.R_drew)); exact HO_594002.out) hb); have n5_ := Aside0.mk (Kd.R_below (by (with_reducible repeat (first | apply Kd.R_alloc | apply Kd.R_drewN | apply Kd.R_drew)); exact HO_594003.out) hb); have n6_ := Aside0.mk (Kd.R_below (by (with_reducible repeat (first | apply Kd.R_alloc | apply Kd.R_drewN | apply Kd.R_drew)); exact HO_594004.out) hb); have n7_ := Aside0.mk (Kd.N_below (by (with_reducible repeat (first | apply Kd.N_alloc | apply Kd.N_drewN | apply Kd.N_drew)); exact HO_594005.out) hb); have n8_ := Aside0.mk (Kd.R_below (by (with_reducible repeat (first | apply Kd.R_alloc | apply Kd.R_drewN | apply Kd.R_drew)); exact HO601.out) hb); have n9_ := Aside0.mk (blk_below (g := gb555) (o := .cells #[.bool t556, .bool t557, .slice Ao15 y572.length co15, .slice Ao16 t561.length co16, .slice Ao17 t564.length co17, .slice Ao18 t567.length co18, .bool t570, .bool t571] 25 (0, 0)) (by (with_reducible repeat (first | refine blk_drewN ?_ _ | refine blk_drew ?_ | refine blk_alloc ?_ _)); exact BK555.out) hb); have n10_ := Aside0.mk (blk_below (g := gb593) (o := .cells #[.bool t577, .bool t578, .slice Ao26 t579.length co26, .slice Ao27 t582.length co27, .slice Ao28 t585.length co28, .slice Ao29 t588.length co29, .bool t591, .bool t592] 25 (0, 0)) (by (with_reducible repeat (first | refine blk_drewN ?_ _ | refine blk_drew ?_ | refine blk_alloc ?_ _)); exact BK593.out) hb); have n11_ := Aside0.mk (below_step (by repeat (first | (with_reducible first | exact HB.out | apply below_alloc | apply pw_below_drewN | apply below_drew1 | refine below_set ?_ GE555.out | refine below_set ?_ GE593.out) | exact HB.out)) hb); clear HO_556002; clear HO_556003; clear HO_556004; clear HO_556005; clear HO_594002; clear HO_594003; clear HO_594004; clear HO_594005; clear HO601; clear BK555; clear BK593; clear HB; have HO_556002 := n0_; have HO_556003 := n1_; have HO_556004 := n2_; have HO_556005 := n3_; have HO_594002 := n4_; have HO_594003 := n5_; have HO_594004 := n6_; have HO_594005 := n7_; have HO601 := n8_; have BK555 := n9_; have BK593 := n10_; have HB := n11_; clear n0_ n1_ n2_ n3_ n4_ n5_ n6_ n7_ n8_ n9_ n10_ n11_; (try clear hb); (try clear hb2); (try clear hk); (try clear hi)))
        go_ret
        exact ⟨by first | rfl | (simp [errW_none, errW_some] <;> rfl) | (simp only [← hji5]; first | rfl | (simp [errW_none, errW_some] <;> rfl)) | (simp [*, errW_none, errW_some] <;> rfl), by repeat (first | (with_reducible first | exact HB.out | apply below_alloc | apply pw_below_drewN | apply below_drew1 | refine below_set ?_ GE555.out | refine below_set ?_ GE593.out) | exact HB.out)⟩
       ·rw [if_neg c61] at H
        have c61b0 : (t594 == t604) = false := beq_eq_false_iff_ne.mpr c61
        have c61b1 : (t594 != t604) = true := bne_iff_ne.mpr c61
        exact absurd (Option.some.inj H) (by rw [hT.out]; decide)
  ·rw [if_neg c7] at H
   exact absurd H (by simp)
 ·rw [if_neg c6] at H
  exact absurd H (by simp)

end Go.Proofs.Ytjofofpplpmgjaa.Pr
