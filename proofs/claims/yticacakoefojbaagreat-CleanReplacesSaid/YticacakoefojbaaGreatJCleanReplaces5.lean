import Derived.Test.YticacakoefojbaaGreatJCleanReplaces4
import Derived.Test.YticacakoefojbaaGreatJCleanReplaces2
import Derived.Test.YticacakoefojbaaGreatJCleanReplaces1
import Derived.Test.YticacakoefojbaaGreatJCleanReplaces3
import Derived.OpenShut
import Derived.ShutString
import Derived.SizedLaws
import Derived.WalkKit
import Derived.ProofKit
import Derived.ChangeOld
import Derived.Below
import Derived.Test.YticacakoefojbaaGreatRows
namespace Go.Proofs.YticacakoefojbaaGreat.Pr
open Go.RowKit Go.Proofs.YticacakoefojbaaGreatW.PrintWords Go.Proofs.YticacakoefojbaaGreatW.PrintLast Go.Proofs.YticacakoefojbaaGreatW.PrintMore
attribute [local go_sem] max2_int min2_int max_two min_two max_three min_three max_four min_four   -- for this text's walks alone
set_option linter.unusedVariables false
set_option linter.unusedSimpArgs false

mutual
def boltinglaw13_CleanReplaces.j0 : Nat → List (S38) → List (S38) → Bool → Option (Bool)
 | 0, _, _, _ => none
 | k + 1, x0, x1, x31 => if x31 = true then ((boltinglaw13_fixed.f).bind fun t782 => (some t782)) else ((boltingref04_Moved.f k x1 1).bind fun t786 => ((boltingref04_Join.f k (([(⟨0, 0, (⟨#[120, 45, 103, 111, 110, 101]⟩ : ByteArray), (⟨#[]⟩ : ByteArray), ([] : List (S45))⟩ : S38)] : List (S38))) t786).bind fun t789 => ((boltingref04_Join.f k x0 t789).bind fun t792 => ((clean_Rows.f k t792 false false ([] : List ByteArray) (([(⟨#[120, 45, 103, 111, 110, 101]⟩ : ByteArray)] : List ByteArray)) ([] : List ByteArray) ([] : List (S60)) true false false).bind fun bt798 => ((boltingref04_Join.f k x0 x1).bind fun t802 => ((clean_Rows.f k t802 false false ([] : List ByteArray) (([(⟨#[120, 45, 103, 111, 110, 101]⟩ : ByteArray)] : List ByteArray)) ([] : List ByteArray) ([] : List (S60)) true false false).bind fun bt808 => (if bt798.2 = 0 then (boltinglaw13_CleanReplaces.j1 k bt798.1 bt798.2 bt808.1 bt808.2 (bt808.2 != 0)) else (boltinglaw13_CleanReplaces.j1 k bt798.1 bt798.2 bt808.1 bt808.2 true))))))))
def boltinglaw13_CleanReplaces.j1 : Nat → List (S38) → Int → List (S38) → Int → Bool → Option (Bool)
 | 0, _, _, _, _, _ => none
 | k + 1, x6, x7, x8, x9, x61 => if x61 = true then (if x7 = 2 then ((boltinglaw13_fixed.f).bind fun t812 => (some t812)) else (if x9 = 0 then ((boltinglaw13_fixed.f).bind fun t813 => (some t813)) else (some false))) else ((boltingref04_Same.f k x6 x8).bind fun t814 => (if t814 = true then ((boltinglaw13_fixed.f).bind fun t815 => (some t815)) else (some false)))
end
def boltinglaw13_CleanReplaces.f (k : Nat) (l0 : List (S38)) (l1 : List (S38)) : Option (Bool) := (boltinglaw13_bound.f k l0).bind fun t768 => ((boltinglaw13_bound.f k l1).bind fun t771 => (if 0 ≤ (mn (t768.length : Int) 20) then (if (mn (t768.length : Int) 20) ≤ (t768.length : Int) then ((some (t768.take ((mn (t768.length : Int) 20) : Int).toNat : List (S38))).bind fun y774 => (if 0 ≤ (mn (t771.length : Int) 20) then (if (mn (t771.length : Int) 20) ≤ (t771.length : Int) then ((some (t771.take ((mn (t771.length : Int) 20) : Int).toNat : List (S38))).bind fun y777 => ((boltingref04_Check.f k y774).bind fun t780 => (if t780 = 0 then ((boltingref04_Check.f k y777).bind fun t781 => (boltinglaw13_CleanReplaces.j0 k y774 y777 (t781 != 0))) else (boltinglaw13_CleanReplaces.j0 k y774 y777 true)))) else (none)) else (none))) else (none)) else (none)))
set_option maxHeartbeats 8000000 in
set_option maxRecDepth 100000 in
theorem boltinglaw13_CleanReplaces.calls (k : Nat) (A0 : Option Addr) (c0 : Nat) (l0 : List (S38)) (A1 : Option Addr) (c1 : Nat) (l1 : List (S38)) (r : Bool) (w : World) (hr0 : Kd.C k38 w A0 l0.length l0) (hc0 : l0.length ≤ c0) (hr1 : Kd.C k38 w A1 l1.length l1) (hc1 : l1.length ≤ c1) (h : boltinglaw13_CleanReplaces.f k l0 l1 = some r) (hT : Aside0 (r = true) := by exact ⟨rfl⟩) :
  Calls Tryz.prog 8 #[.slice A0 l0.length c0, .slice A1 l1.length c1] w fun e w' => e = .returned (.bool r) ∧ Below w.heap.size w w' := by
 have hu38 := Tryz.underlying38
 have hu32 := Tryz.underlying32
 have HR0 := Aside0.mk hr0
 have HC0 := Aside0.mk hc0
 clear hr0 hc0
 have HR1 := Aside0.mk hr1
 have HC1 := Aside0.mk hc1
 clear hr1 hc1
 have HB := Aside0.mk (Below.refl w.heap.size w)
 have H : ((boltinglaw13_bound.f k l0).bind fun t768 => ((boltinglaw13_bound.f k l1).bind fun t771 => (if 0 ≤ (mn (t768.length : Int) 20) then (if (mn (t768.length : Int) 20) ≤ (t768.length : Int) then ((some (t768.take ((mn (t768.length : Int) 20) : Int).toNat : List (S38))).bind fun y774 => (if 0 ≤ (mn (t771.length : Int) 20) then (if (mn (t771.length : Int) 20) ≤ (t771.length : Int) then ((some (t771.take ((mn (t771.length : Int) 20) : Int).toNat : List (S38))).bind fun y777 => ((boltingref04_Check.f k y774).bind fun t780 => (if t780 = 0 then ((boltingref04_Check.f k y777).bind fun t781 => (boltinglaw13_CleanReplaces.j0 k y774 y777 (t781 != 0))) else (boltinglaw13_CleanReplaces.j0 k y774 y777 true)))) else (none)) else (none))) else (none)) else (none)))) = some r := h
 clear h
 replace H := Option.bind_eq_some_iff.mp H
 obtain ⟨t768, A30, H⟩ := H
 have A3 := Aside0.mk A30
 clear A30
 replace H := Option.bind_eq_some_iff.mp H
 obtain ⟨t771, A40, H⟩ := H
 have A4 := Aside0.mk A40
 clear A40
 obtain ⟨ji5, hji5⟩ : ∃ j_ : Int, (mn (t768.length : Int) 20) = j_ := ⟨_, rfl⟩
 replace H : (if 0 ≤ (ji5) then (if (ji5) ≤ (t768.length : Int) then ((some (t768.take ((ji5) : Int).toNat : List (S38))).bind fun y774 => (if 0 ≤ (mn (t771.length : Int) 20) then (if (mn (t771.length : Int) 20) ≤ (t771.length : Int) then ((some (t771.take ((mn (t771.length : Int) 20) : Int).toNat : List (S38))).bind fun y777 => ((boltingref04_Check.f k y774).bind fun t780 => (if t780 = 0 then ((boltingref04_Check.f k y777).bind fun t781 => (boltinglaw13_CleanReplaces.j0 k y774 y777 (t781 != 0))) else (boltinglaw13_CleanReplaces.j0 k y774 y777 true)))) else (none)) else (none))) else (none)) else (none)) = some r := by first | (rw [hji5] at H; exact H) | (simp only [hji5] at H ⊢; exact H)
 (try rw [hji5] at A3)
 (try rw [hji5] at A4)
 (try (have hji5h : ji5 ≤ 20 := by (rw [← hji5]; unfold mn; (repeat' split) <;> omega)))
 (try (have hji5g : ji5 ≤ 64 := by omega))
 (try (have hji5l : 0 ≤ ji5 := by (rw [← hji5]; unfold mn; (repeat' split) <;> omega)))
 (try (have hji5m : 0 ≤ ji5 := by omega))
 have hji5_ : (if 20 < (t768.length : Int) then 20 else (t768.length : Int)) = ji5 := hji5
 by_cases c6 : 0 ≤ (ji5)
 ·rw [if_pos c6] at H
  have c6b0 := eq_true c6
  have c6b1 : decide (0 ≤ (ji5)) = true := decide_eq_true c6
  clear c6
  by_cases c7 : (ji5) ≤ (t768.length : Int)
  ·rw [if_pos c7] at H
   have c7b0 := eq_true c7
   have c7b1 : decide ((ji5) ≤ (t768.length : Int)) = true := decide_eq_true c7
   clear c7
   obtain ⟨y774, hy774⟩ : ∃ y_ : List (S38), y_ = (t768.take ((ji5) : Int).toNat) := ⟨_, rfl⟩
   replace H : (if 0 ≤ (mn (t771.length : Int) 20) then (if (mn (t771.length : Int) 20) ≤ (t771.length : Int) then ((some (t771.take ((mn (t771.length : Int) 20) : Int).toNat : List (S38))).bind fun y777 => ((boltingref04_Check.f k y774).bind fun t780 => (if t780 = 0 then ((boltingref04_Check.f k y777).bind fun t781 => (boltinglaw13_CleanReplaces.j0 k y774 y777 (t781 != 0))) else (boltinglaw13_CleanReplaces.j0 k y774 y777 true)))) else (none)) else (none)) = some r := by first | (rw [hy774]; with_reducible exact H) | (have H2_ := (Option.bind_some _ _).symm.trans H; rw [hy774]; with_reducible exact H2_) | (have H2_ := (Option.bind_some _ _).symm.trans H; with_reducible exact H2_) | with_reducible exact H | (rw [hy774]; exact H) | exact H
   have Ny774 := Aside0.mk hy774
   clear hy774
   obtain ⟨ji8, hji8⟩ : ∃ j_ : Int, (mn (t771.length : Int) 20) = j_ := ⟨_, rfl⟩
   replace H : (if 0 ≤ (ji8) then (if (ji8) ≤ (t771.length : Int) then ((some (t771.take ((ji8) : Int).toNat : List (S38))).bind fun y777 => ((boltingref04_Check.f k y774).bind fun t780 => (if t780 = 0 then ((boltingref04_Check.f k y777).bind fun t781 => (boltinglaw13_CleanReplaces.j0 k y774 y777 (t781 != 0))) else (boltinglaw13_CleanReplaces.j0 k y774 y777 true)))) else (none)) else (none)) = some r := by first | (rw [hji8] at H; exact H) | (simp only [hji8] at H ⊢; exact H)
   (try rw [hji8] at A3)
   (try rw [hji8] at A4)
   (try (have hji8h : ji8 ≤ 20 := by (rw [← hji8]; unfold mn; (repeat' split) <;> omega)))
   (try (have hji8g : ji8 ≤ 64 := by omega))
   (try (have hji8l : 0 ≤ ji8 := by (rw [← hji8]; unfold mn; (repeat' split) <;> omega)))
   (try (have hji8m : 0 ≤ ji8 := by omega))
   have hji8_ : (if 20 < (t771.length : Int) then 20 else (t771.length : Int)) = ji8 := hji8
   by_cases c9 : 0 ≤ (ji8)
   ·rw [if_pos c9] at H
    have c9b0 := eq_true c9
    have c9b1 : decide (0 ≤ (ji8)) = true := decide_eq_true c9
    clear c9
    by_cases c10 : (ji8) ≤ (t771.length : Int)
    ·rw [if_pos c10] at H
     have c10b0 := eq_true c10
     have c10b1 : decide ((ji8) ≤ (t771.length : Int)) = true := decide_eq_true c10
     clear c10
     obtain ⟨y777, hy777⟩ : ∃ y_ : List (S38), y_ = (t771.take ((ji8) : Int).toNat) := ⟨_, rfl⟩
     replace H : ((boltingref04_Check.f k y774).bind fun t780 => (if t780 = 0 then ((boltingref04_Check.f k y777).bind fun t781 => (boltinglaw13_CleanReplaces.j0 k y774 y777 (t781 != 0))) else (boltinglaw13_CleanReplaces.j0 k y774 y777 true))) = some r := by first | (rw [hy777]; with_reducible exact H) | (have H2_ := (Option.bind_some _ _).symm.trans H; rw [hy777]; with_reducible exact H2_) | (have H2_ := (Option.bind_some _ _).symm.trans H; with_reducible exact H2_) | with_reducible exact H | (rw [hy777]; exact H) | exact H
     have Ny777 := Aside0.mk hy777
     clear hy777
     have HC11 := Aside0.mk H
     clear H
     go_enter Tryz.func8, Tryz.ntmps8
     go_upto_region 5 with (first | ((with_reducible refine gate_callee (f := 10) rfl ?_); refine goesL_ (some 11) rfl rfl Tryz.func10 (by kernel_rfl) rfl #[.slice A0 l0.length c0] rfl zm ?_; (with_reducible refine (boltinglaw13_bound.calls k (fun k_ => k_ < w.heap.size) _ _ l0 t768 _ ?side1 A3.out).mono ?_); (case side1 => exact Kd.V_mk HC0.out (Kd.F_below (Kd.C_F k38_heap HR0.out) (zb HB))); rintro e w12 ⟨v769, rfl, ho0, hb⟩; refine ⟨_, rfl, ?_⟩; have n0_ := Aside0.mk (Kd.N_lower (Kd.N_mono (ok' := fun k_ => True) ho0 (fun k_ hk_ => trivial)) (below_size (zb HB))); have n1_ := Aside0.mk (below_step (zb HB) hb); clear HB; have HO770 := n0_; have HB := n1_; clear n0_ n1_; (try clear hb); (try clear ho0)) | ((with_reducible refine gate_callee (f := 10) rfl ?_); refine goesL_ (some 13) rfl rfl Tryz.func10 (by kernel_rfl) rfl #[.slice A1 l1.length c1] rfl zm ?_; (with_reducible refine (boltinglaw13_bound.calls k (fun k_ => k_ < w.heap.size) _ _ l1 t771 _ ?side1 A4.out).mono ?_); (case side1 => exact Kd.V_mk HC1.out (Kd.F_below (Kd.C_F k38_heap HR1.out) (zb HB))); rintro e w13 ⟨v772, rfl, ho0, hb⟩; refine ⟨_, rfl, ?_⟩; have n0_ := Aside0.mk (Kd.N_elder' (by exact HO770.out) (zn ho0) hb); have n1_ := Aside0.mk (Kd.N_lower (Kd.N_mono (ok' := fun k_ => some k_ ≠ (v769 : Value).ownBlock) ho0 (fun k_ hk_ => Or.elim hk_ (fun hs_ => fun e_ => Nat.not_le.2 hs_ (Kd.N_base HO770.out k_ e_.symm)) (fun hn_ => (Kd.fresh' (Kd.N_lt (by exact HO770.out)) k_ hn_)))) (below_size (zb HB))); have n2_ := Aside0.mk (below_step (zb HB) hb); clear HO770; clear HB; have HO770 := n0_; have HO773 := n1_; have HB := n2_; clear n0_ n1_ n2_; (try clear hb); (try clear ho0); obtain ⟨Ao14, co14, eo14⟩ := Kd.N_slice HO770.out; subst eo14; have q15 : ((ji5) : Int) ≤ ((t768.length : Int) : Int) := of_decide_eq_true za; obtain ⟨i015, hi015, _, hsz15, _⟩ := info_parts info38; have hcut15 := cut_to (P := Tryz.prog) 22 38 .i64 Tryz.underlying22 hi015 Ao14 t768.length co14 (ji5) (of_decide_eq_true za) q15 (Kd.N_reads' HO770.out).2.1; have hr15 := Kd.N_take (m := ((ji5) : Int).toNat) HO770.out (by omega); have hy15 : y774.length = ((ji5) : Int).toNat := (by rw [Ny774.out, List.length_take]; omega); rw [← Ny774.out] at hr15; rw [← hy15] at hr15 hcut15; clear hy15 hi015 hsz15 HO770; have HO776 := Aside0.mk hr15; clear hr15; replace q15 := eq_true q15; obtain ⟨Ao16, co16, eo16⟩ := Kd.N_slice HO773.out; subst eo16; have q17 : ((ji8) : Int) ≤ ((t771.length : Int) : Int) := of_decide_eq_true za; obtain ⟨i017, hi017, _, hsz17, _⟩ := info_parts info38; have hcut17 := cut_to (P := Tryz.prog) 22 38 .i64 Tryz.underlying22 hi017 Ao16 t771.length co16 (ji8) (of_decide_eq_true za) q17 (Kd.N_reads' HO773.out).2.1; have hr17 := Kd.N_take (m := ((ji8) : Int).toNat) HO773.out (by omega); have hy17 : y777.length = ((ji8) : Int).toNat := (by rw [Ny777.out, List.length_take]; omega); rw [← Ny777.out] at hr17; rw [← hy17] at hr17 hcut17; clear hy17 hi017 hsz17 HO773; have HO779 := Aside0.mk hr17; clear hr17; replace q17 := eq_true q17))
     (try simp only [Act.put, List.setIfInBounds_toArray, List.set_cons_zero, List.set_cons_succ])
     go_cut [31] (fun v31 wc => ∃ (kq : Nat) (x31_10 : Bool), v31 = .bool x31_10 ∧ Aside0 (boltinglaw13_CleanReplaces.j0 kq y774 y777 x31_10 = some r) ∧ Aside0 (kq ≤ k) ∧ Aside0 (Kd.N k38 38 wc w.heap.size (fun k_ => some k_ ≠ ((.slice Ao16 y777.length co16) : Value).ownBlock) (.slice Ao14 y774.length co14) y774) ∧ Aside0 (Kd.N k38 38 wc w.heap.size (fun k_ => some k_ ≠ ((.slice Ao14 y774.length co14) : Value).ownBlock) (.slice Ao16 y777.length co16) y777) ∧ Aside0 (Below w.heap.size w wc))
     case first =>
      have H := HC11.out
      clear HC11
      replace H := Option.bind_eq_some_iff.mp H
      obtain ⟨t780, A180, H⟩ := H
      have A18 := Aside0.mk A180
      clear A180
      by_cases c19 : t780 = 0
      ·rw [if_pos c19] at H
       have c19b0 : (t780 == 0) = true := beq_iff_eq.mpr c19
       have c19b1 : (t780 != 0) = false := bne_eq_false_iff_eq.mpr c19
       clear c19
       (first | rw [c19b0] | (simp only [i64_w, i32_w]; rw [c19b0]) | skip)
       replace H := Option.bind_eq_some_iff.mp H
       obtain ⟨t781, A200, H⟩ := H
       have A20 := Aside0.mk A200
       clear A200
       have H' := Aside0.mk H
       clear H
       go_wp2_with (first | ((with_reducible refine gate_callee (f := 11) rfl ?_); refine goesL_ (some 25) rfl rfl Tryz.func11 (by kernel_rfl) rfl #[.slice Ao14 y774.length co14] rfl zm ?_; (with_reducible refine (boltingref04_Check.calls k _ _ y774 t780 _ ?side1 ?side2 A18.out).mono ?_); (case side1 => exact zc (Kd.N_reads' HO776.out).2.2); (case side2 => exact (Kd.N_reads' HO776.out).2.1); rintro e w21 ⟨rfl, hb⟩; refine ⟨_, rfl, ?_⟩; have n0_ := Aside0.mk (Kd.N_below (by exact HO776.out) hb); have n1_ := Aside0.mk (Kd.N_below (by exact HO779.out) hb); have n2_ := Aside0.mk (below_step (zb HB) hb); clear HO776; clear HO779; clear HB; have HO776 := n0_; have HO779 := n1_; have HB := n2_; clear n0_ n1_ n2_; (try clear hb)) | (go_at_call 11; (with_reducible refine (boltingref04_Check.calls k _ _ y777 t781 _ ?side1 ?side2 A20.out).mono ?_); (case side1 => exact zc (Kd.N_reads' HO779.out).2.2); (case side2 => exact (Kd.N_reads' HO779.out).2.1); rintro e w22 ⟨rfl, hb⟩; have n0_ := Aside0.mk (Kd.N_below (by exact HO776.out) hb); have n1_ := Aside0.mk (Kd.N_below (by exact HO779.out) hb); have n2_ := Aside0.mk (below_step (zb HB) hb); clear HO776; clear HO779; clear HB; have HO776 := n0_; have HO779 := n1_; have HB := n2_; clear n0_ n1_ n2_; (try clear hb)))
       go_meet
       case rel => exact ⟨_, ((t781 != 0)), zr, H', ⟨by first | omega | exact Nat.le_refl _⟩, ⟨by (with_reducible repeat (first | apply Kd.N_alloc | apply Kd.N_drewN | apply Kd.N_drew)); first | exact Kd.N_mono HO776.out (fun _ hk => hk.2) | (refine Kd.N_mono HO776.out (fun _ hk => ?_); simp only [own_ob] at hk ⊢; exact hk.2)⟩, ⟨by (with_reducible repeat (first | apply Kd.N_alloc | apply Kd.N_drewN | apply Kd.N_drew)); first | exact HO779.out | (have h_ := HO779.out; simp only [own_ob] at h_ ⊢; exact h_)⟩, ⟨zb HB⟩⟩
      ·rw [if_neg c19] at H
       have c19b0 : (t780 == 0) = false := beq_eq_false_iff_ne.mpr c19
       have c19b1 : (t780 != 0) = true := bne_iff_ne.mpr c19
       (first | rw [c19b0] | (simp only [i64_w, i32_w]; rw [c19b0]) | skip)
       have H' := Aside0.mk H
       clear H
       go_wp2_with (first | ((with_reducible refine gate_callee (f := 11) rfl ?_); refine goesL_ (some 25) rfl rfl Tryz.func11 (by kernel_rfl) rfl #[.slice Ao14 y774.length co14] rfl zm ?_; (with_reducible refine (boltingref04_Check.calls k _ _ y774 t780 _ ?side1 ?side2 A18.out).mono ?_); (case side1 => exact zc (Kd.N_reads' HO776.out).2.2); (case side2 => exact (Kd.N_reads' HO776.out).2.1); rintro e w23 ⟨rfl, hb⟩; refine ⟨_, rfl, ?_⟩; have n0_ := Aside0.mk (Kd.N_below (by exact HO776.out) hb); have n1_ := Aside0.mk (Kd.N_below (by exact HO779.out) hb); have n2_ := Aside0.mk (below_step (zb HB) hb); clear HO776; clear HO779; clear HB; have HO776 := n0_; have HO779 := n1_; have HB := n2_; clear n0_ n1_ n2_; (try clear hb)))
       go_meet
       case rel => exact ⟨_, (true), zr, H', ⟨by first | omega | exact Nat.le_refl _⟩, ⟨by (with_reducible repeat (first | apply Kd.N_alloc | apply Kd.N_drewN | apply Kd.N_drew)); first | exact Kd.N_mono HO776.out (fun _ hk => hk.2) | (refine Kd.N_mono HO776.out (fun _ hk => ?_); simp only [own_ob] at hk ⊢; exact hk.2)⟩, ⟨by (with_reducible repeat (first | apply Kd.N_alloc | apply Kd.N_drewN | apply Kd.N_drew)); first | exact HO779.out | (have h_ := HO779.out; simp only [own_ob] at h_ ⊢; exact h_)⟩, ⟨zb HB⟩⟩
     case rest =>
      clear HC11
      try clear c1
      try clear q1
      try clear p2
      try clear c6
      try clear c6b0
      try clear c6b1
      try clear c7
      try clear c7b0
      try clear c7b1
      try clear c8
      try clear c9
      try clear c9b0
      try clear c9b1
      try clear c10
      try clear c10b0
      try clear c10b1
      try clear c11
      try clear q15
      try clear q17
      try clear c19
      try clear c19b0
      try clear c19b1
      try clear q15
      try clear q17
      obtain ⟨kq, x31_10, rfl, HA, HJ10, HO_0, HO_1, HB⟩ := hcut
      cases kq with
      | zero => exact absurd HA.out (by simp [boltinglaw13_CleanReplaces.j0])
      | succ kj10 =>
       have H := HA.out
       clear HA
       simp only [boltinglaw13_CleanReplaces.j0] at H
       by_cases c24 : x31_10 = true
       ·subst c24
        replace H : ((boltinglaw13_fixed.f).bind fun t782 => (some t782)) = some r := by rw [if_pos rfl] at H; exact H
        replace H := Option.bind_eq_some_iff.mp H
        obtain ⟨t782, A250, H⟩ := H
        replace H : (some t782) = some r := H
        have A25 := Aside0.mk A250
        clear A250
        obtain rfl := Option.some.inj H
        go_wp2_with (first | ((with_reducible refine gate_callee (f := 12) rfl ?_); refine goesL_ (some 32) rfl rfl Tryz.func12 (by kernel_rfl) rfl #[] rfl zm ?_; (with_reducible refine (boltinglaw13_fixed.calls  t782 _ A25.out).mono ?_); rintro e w26 ⟨rfl, hb⟩; refine ⟨_, rfl, ?_⟩; have n2_ := Aside0.mk (below_step (zb HB) hb); clear HO_0; clear HO_1; clear HB; have HB := n2_; clear n2_; (try clear hb)))
        go_ret
        exact ⟨by first | rfl | (simp [errW_none, errW_some] <;> rfl) | (simp only [← hji5, ← hji8]; first | rfl | (simp [errW_none, errW_some] <;> rfl)) | (simp [*, errW_none, errW_some] <;> rfl), zb HB⟩
       ·replace c24 := Bool.eq_false_iff.mpr c24
        subst c24
        replace H : ((boltingref04_Moved.f kj10 y777 1).bind fun t786 => ((boltingref04_Join.f kj10 (([(⟨0, 0, (⟨#[120, 45, 103, 111, 110, 101]⟩ : ByteArray), (⟨#[]⟩ : ByteArray), ([] : List (S45))⟩ : S38)] : List (S38))) t786).bind fun t789 => ((boltingref04_Join.f kj10 y774 t789).bind fun t792 => ((clean_Rows.f kj10 t792 false false ([] : List ByteArray) (([(⟨#[120, 45, 103, 111, 110, 101]⟩ : ByteArray)] : List ByteArray)) ([] : List ByteArray) ([] : List (S60)) true false false).bind fun bt798 => ((boltingref04_Join.f kj10 y774 y777).bind fun t802 => ((clean_Rows.f kj10 t802 false false ([] : List ByteArray) (([(⟨#[120, 45, 103, 111, 110, 101]⟩ : ByteArray)] : List ByteArray)) ([] : List ByteArray) ([] : List (S60)) true false false).bind fun bt808 => (if bt798.2 = 0 then (boltinglaw13_CleanReplaces.j1 kj10 bt798.1 bt798.2 bt808.1 bt808.2 (bt808.2 != 0)) else (boltinglaw13_CleanReplaces.j1 kj10 bt798.1 bt798.2 bt808.1 bt808.2 true)))))))) = some r := by rw [if_neg (show ¬ (false = true) by decide)] at H; exact H
        obtain ⟨y783, hy783⟩ : ∃ y_ : List (S38), y_ = (([(⟨0, 0, (⟨#[120, 45, 103, 111, 110, 101]⟩ : ByteArray), (⟨#[]⟩ : ByteArray), ([] : List (S45))⟩ : S38)] : List (S38))) := ⟨_, rfl⟩
        replace H : ((boltingref04_Moved.f kj10 y777 1).bind fun t786 => ((boltingref04_Join.f kj10 y783 t786).bind fun t789 => ((boltingref04_Join.f kj10 y774 t789).bind fun t792 => ((clean_Rows.f kj10 t792 false false ([] : List ByteArray) (([(⟨#[120, 45, 103, 111, 110, 101]⟩ : ByteArray)] : List ByteArray)) ([] : List ByteArray) ([] : List (S60)) true false false).bind fun bt798 => ((boltingref04_Join.f kj10 y774 y777).bind fun t802 => ((clean_Rows.f kj10 t802 false false ([] : List ByteArray) (([(⟨#[120, 45, 103, 111, 110, 101]⟩ : ByteArray)] : List ByteArray)) ([] : List ByteArray) ([] : List (S60)) true false false).bind fun bt808 => (if bt798.2 = 0 then (boltinglaw13_CleanReplaces.j1 kj10 bt798.1 bt798.2 bt808.1 bt808.2 (bt808.2 != 0)) else (boltinglaw13_CleanReplaces.j1 kj10 bt798.1 bt798.2 bt808.1 bt808.2 true)))))))) = some r := by first | (rw [hy783]; with_reducible exact H) | (have H2_ := (Option.bind_some _ _).symm.trans H; rw [hy783]; with_reducible exact H2_) | (have H2_ := (Option.bind_some _ _).symm.trans H; with_reducible exact H2_) | with_reducible exact H | (rw [hy783]; exact H) | exact H
        have Ny783 := Aside0.mk hy783
        clear hy783
        replace H := Option.bind_eq_some_iff.mp H
        obtain ⟨t786, A270, H⟩ := H
        have A27 := Aside0.mk A270
        clear A270
        replace H := Option.bind_eq_some_iff.mp H
        obtain ⟨t789, A280, H⟩ := H
        have A28 := Aside0.mk A280
        clear A280
        replace H := Option.bind_eq_some_iff.mp H
        obtain ⟨t792, A290, H⟩ := H
        have A29 := Aside0.mk A290
        clear A290
        obtain ⟨y795, hy795⟩ : ∃ y_ : List ByteArray, y_ = (([(⟨#[120, 45, 103, 111, 110, 101]⟩ : ByteArray)] : List ByteArray)) := ⟨_, rfl⟩
        replace H : ((clean_Rows.f kj10 t792 false false ([] : List ByteArray) y795 ([] : List ByteArray) ([] : List (S60)) true false false).bind fun bt798 => ((boltingref04_Join.f kj10 y774 y777).bind fun t802 => ((clean_Rows.f kj10 t802 false false ([] : List ByteArray) (([(⟨#[120, 45, 103, 111, 110, 101]⟩ : ByteArray)] : List ByteArray)) ([] : List ByteArray) ([] : List (S60)) true false false).bind fun bt808 => (if bt798.2 = 0 then (boltinglaw13_CleanReplaces.j1 kj10 bt798.1 bt798.2 bt808.1 bt808.2 (bt808.2 != 0)) else (boltinglaw13_CleanReplaces.j1 kj10 bt798.1 bt798.2 bt808.1 bt808.2 true))))) = some r := by first | (rw [hy795]; with_reducible exact H) | (have H2_ := (Option.bind_some _ _).symm.trans H; rw [hy795]; with_reducible exact H2_) | (have H2_ := (Option.bind_some _ _).symm.trans H; with_reducible exact H2_) | with_reducible exact H | (rw [hy795]; exact H) | exact H
        have Ny795 := Aside0.mk hy795
        clear hy795
        replace H := Option.bind_eq_some_iff.mp H
        obtain ⟨⟨t798, t801⟩, A300, H⟩ := H
        try dsimp only at H
        have A30 := Aside0.mk A300
        clear A300
        replace H := Option.bind_eq_some_iff.mp H
        obtain ⟨t802, A310, H⟩ := H
        have A31 := Aside0.mk A310
        clear A310
        obtain ⟨y805, hy805⟩ : ∃ y_ : List ByteArray, y_ = (([(⟨#[120, 45, 103, 111, 110, 101]⟩ : ByteArray)] : List ByteArray)) := ⟨_, rfl⟩
        replace H : ((clean_Rows.f kj10 t802 false false ([] : List ByteArray) y805 ([] : List ByteArray) ([] : List (S60)) true false false).bind fun bt808 => (if t801 = 0 then (boltinglaw13_CleanReplaces.j1 kj10 t798 t801 bt808.1 bt808.2 (bt808.2 != 0)) else (boltinglaw13_CleanReplaces.j1 kj10 t798 t801 bt808.1 bt808.2 true))) = some r := by first | (rw [hy805]; with_reducible exact H) | (have H2_ := (Option.bind_some _ _).symm.trans H; rw [hy805]; with_reducible exact H2_) | (have H2_ := (Option.bind_some _ _).symm.trans H; with_reducible exact H2_) | with_reducible exact H | (rw [hy805]; exact H) | exact H
        have Ny805 := Aside0.mk hy805
        clear hy805
        replace H := Option.bind_eq_some_iff.mp H
        obtain ⟨⟨t808, t811⟩, A320, H⟩ := H
        try dsimp only at H
        have A32 := Aside0.mk A320
        clear A320
        have HC33 := Aside0.mk H
        clear H
        go_upto_region 10 with (first | ((with_reducible refine gate_dst (N := 34) rfl ?_); refine Kd.N_lit k38 _ 38 ?hg (N' := 34) ?hd (xs := ([(⟨0, 0, (⟨#[120, 45, 103, 111, 110, 101]⟩ : ByteArray), (⟨#[]⟩ : ByteArray), ([] : List (S45))⟩ : S38)] : List (S38))) (inner := [.int .i64 0, .int .i64 0, .string (⟨#[120, 45, 103, 111, 110, 101]⟩ : ByteArray), .string (⟨#[]⟩ : ByteArray), .slice none 0 0]) (ok := (fun k_ => some k_ ≠ (.slice Ao14 y774.length co14 : Value).ownBlock ∧ some k_ ≠ (.slice Ao16 y777.length co16 : Value).ownBlock)) (okp := (fun k_ => some k_ ≠ (.slice Ao14 y774.length co14 : Value).ownBlock ∧ some k_ ≠ (.slice Ao16 y777.length co16 : Value).ownBlock)) ?hr ?hp (fun _ hk => hk) ((show ∀ k_, wc.heap.size ≤ k_ → (fun k_ => some k_ ≠ (.slice Ao14 y774.length co14 : Value).ownBlock ∧ some k_ ≠ (.slice Ao16 y777.length co16 : Value).ownBlock) k_ from fun k_ hk => ⟨Kd.fresh' (Kd.N_lt (by exact HO_0.out)) k_ hk, Kd.fresh' (Kd.N_lt (by exact HO_1.out)) k_ hk⟩) _ (Nat.le_refl _)) (Below.refl _ _) (Nat.le_refl _) (by simp) ?_; (case hd => rfl); (case hg => rfl); (case hr => first | (go_simp; done) | (go_simp; rfl)); (case hp => exact (Reps.c5 (show Kd.FK k38 _ _ (⟨0, 0, (⟨#[120, 45, 103, 111, 110, 101]⟩ : ByteArray), (⟨#[]⟩ : ByteArray), ([] : List (S45))⟩ : S38) [.int .i64 0, .int .i64 0, .string (⟨#[120, 45, 103, 111, 110, 101]⟩ : ByteArray), .string (⟨#[]⟩ : ByteArray), .slice none 0 0] from (k38_mkF _ _ (⟨0, 0, (⟨#[120, 45, 103, 111, 110, 101]⟩ : ByteArray), (⟨#[]⟩ : ByteArray), ([] : List (S45))⟩ : S38) (Nat.le_refl _) (Kd.F_nil _ _ _))) (Reps.none _ _))); intro v784 w34 ho35 hb hg_ hnew_; clear hg_ hnew_; (first | rw [← Ny783.out] at ho35 | (simp only [Int.reduceToNat] at ho35; rw [← Ny783.out] at ho35)); have n0_ := Aside0.mk (Kd.N_elder' (by exact HO_0.out) (by first | exact Kd.N_base ho35 | exact Kd.N_base (Kd.S_N ho35) | exact Kd.N_base (Kd.S_N (Kd.S_bound ho35))) hb); have n1_ := Aside0.mk (Kd.N_elder' (by exact HO_1.out) (by first | exact Kd.N_base ho35 | exact Kd.N_base (Kd.S_N ho35) | exact Kd.N_base (Kd.S_N (Kd.S_bound ho35))) hb); have n2_ := Aside0.mk (Kd.N_lower ho35 (below_size (zb HB))); have n3_ := Aside0.mk (below_step (zb HB) hb); clear HO_0; clear HO_1; clear HB; have HO_0 := n0_; have HO_1 := n1_; have HO785 := n2_; have HB := n3_; clear n0_ n1_ n2_ n3_; clear hb ho35) | ((with_reducible refine gate_callee (f := 21) rfl ?_); refine goesL_ (some 36) rfl rfl Tryz.func21 (by kernel_rfl) rfl #[.slice Ao16 y777.length co16, .int .i64 1] rfl zm ?_; (with_reducible refine (boltingref04_Moved.calls kj10 _ _ y777 1 t786 _ ?side1 ?side2 A27.out).mono ?_); (case side1 => exact zc (Kd.N_reads' HO_1.out).2.2); (case side2 => exact (Kd.N_reads' HO_1.out).2.1); rintro e w36 ⟨v787, rfl, ho0, hb⟩; refine ⟨_, rfl, ?_⟩; have n0_ := Aside0.mk (Kd.N_elder' (by exact HO_0.out) (zn ho0) hb); have n1_ := Aside0.mk (Kd.N_elder' (by exact HO_1.out) (zn ho0) hb); have n2_ := Aside0.mk (Kd.N_elder' (by exact HO785.out) (zn ho0) hb); have n3_ := Aside0.mk (Kd.N_lower (Kd.N_mono (ok' := fun k_ => some k_ ≠ (.slice Ao14 y774.length co14 : Value).ownBlock ∧ some k_ ≠ (.slice Ao16 y777.length co16 : Value).ownBlock ∧ some k_ ≠ (v784 : Value).ownBlock) (Kd.S_N (Kd.S_bound ho0)) (fun k_ hk_ => ⟨(Kd.fresh' (Kd.N_lt (by exact HO_0.out)) k_ hk_.2.1), (Kd.fresh' (Kd.N_lt (by exact HO_1.out)) k_ hk_.2.1), (Kd.fresh' (Kd.N_lt (by exact HO785.out)) k_ hk_.2.1)⟩)) (below_size (zb HB))); have n4_ := Aside0.mk (below_step (zb HB) hb); clear HO_0; clear HO_1; clear HO785; clear HB; have HO_0 := n0_; have HO_1 := n1_; have HO785 := n2_; have HO788 := n3_; have HB := n4_; clear n0_ n1_ n2_ n3_ n4_; (try clear hb); (try clear ho0); obtain ⟨Ao37, co37, eo37⟩ := Kd.N_slice HO785.out; subst eo37; obtain ⟨Ao38, co38, eo38⟩ := Kd.N_slice HO788.out; subst eo38) | ((with_reducible refine gate_callee (f := 28) rfl ?_); refine goesL_ (some 37) rfl rfl Tryz.func28 (by kernel_rfl) rfl #[.slice Ao37 y783.length co37, .slice Ao38 t786.length co38] rfl zm ?_; (with_reducible refine (boltingref04_Join.calls kj10 _ _ y783 _ _ t786 t789 _ ?side1 ?side2 ?side3 ?side4 A28.out).mono ?_); (case side1 => exact zc (Kd.N_reads' HO785.out).2.2); (case side2 => exact (Kd.N_reads' HO785.out).2.1); (case side3 => exact zc (Kd.N_reads' HO788.out).2.2); (case side4 => exact (Kd.N_reads' HO788.out).2.1); rintro e w39 ⟨v790, rfl, ho0, hb⟩; refine ⟨_, rfl, ?_⟩; have n0_ := Aside0.mk (Kd.N_elder' (by exact HO_0.out) (zn ho0) hb); have n1_ := Aside0.mk (Kd.N_elder' (by exact HO_1.out) (zn ho0) hb); have n2_ := Aside0.mk (Kd.N_elder' (by exact HO785.out) (zn ho0) hb); have n3_ := Aside0.mk (Kd.N_elder' (by exact HO788.out) (zn ho0) hb); have n4_ := Aside0.mk (Kd.N_lower (Kd.N_mono (ok' := fun k_ => some k_ ≠ (.slice Ao14 y774.length co14 : Value).ownBlock ∧ some k_ ≠ (.slice Ao16 y777.length co16 : Value).ownBlock ∧ some k_ ≠ (.slice Ao37 y783.length co37 : Value).ownBlock ∧ some k_ ≠ (.slice Ao38 t786.length co38 : Value).ownBlock) ho0 (fun k_ hk_ => ⟨(Kd.fresh' (Kd.N_lt (by exact HO_0.out)) k_ hk_), (Kd.fresh' (Kd.N_lt (by exact HO_1.out)) k_ hk_), (Kd.fresh' (Kd.N_lt (by exact HO785.out)) k_ hk_), (Kd.fresh' (Kd.N_lt (by exact HO788.out)) k_ hk_)⟩)) (below_size (zb HB))); have n5_ := Aside0.mk (below_step (zb HB) hb); clear HO_0; clear HO_1; clear HO785; clear HO788; clear HB; have HO_0 := n0_; have HO_1 := n1_; have HO785 := n2_; have HO788 := n3_; have HO791 := n4_; have HB := n5_; clear n0_ n1_ n2_ n3_ n4_ n5_; (try clear hb); (try clear ho0); obtain ⟨Ao40, co40, eo40⟩ := Kd.N_slice HO791.out; subst eo40) | ((with_reducible refine gate_callee (f := 28) rfl ?_); refine goesL_ (some 41) rfl rfl Tryz.func28 (by kernel_rfl) rfl #[.slice Ao14 y774.length co14, .slice Ao40 t789.length co40] rfl zm ?_; (with_reducible refine (boltingref04_Join.calls kj10 _ _ y774 _ _ t789 t792 _ ?side1 ?side2 ?side3 ?side4 A29.out).mono ?_); (case side1 => exact zc (Kd.N_reads' HO_0.out).2.2); (case side2 => exact (Kd.N_reads' HO_0.out).2.1); (case side3 => exact zc (Kd.N_reads' HO791.out).2.2); (case side4 => exact (Kd.N_reads' HO791.out).2.1); rintro e w41 ⟨v793, rfl, ho0, hb⟩; refine ⟨_, rfl, ?_⟩; have n0_ := Aside0.mk (Kd.N_elder' (by exact HO_0.out) (zn ho0) hb); have n1_ := Aside0.mk (Kd.N_elder' (by exact HO_1.out) (zn ho0) hb); have n2_ := Aside0.mk (Kd.N_elder' (by exact HO785.out) (zn ho0) hb); have n3_ := Aside0.mk (Kd.N_elder' (by exact HO788.out) (zn ho0) hb); have n4_ := Aside0.mk (Kd.N_elder' (by exact HO791.out) (zn ho0) hb); have n5_ := Aside0.mk (Kd.N_lower (Kd.N_mono (ok' := fun k_ => some k_ ≠ (.slice Ao14 y774.length co14 : Value).ownBlock ∧ some k_ ≠ (.slice Ao16 y777.length co16 : Value).ownBlock ∧ some k_ ≠ (.slice Ao37 y783.length co37 : Value).ownBlock ∧ some k_ ≠ (.slice Ao38 t786.length co38 : Value).ownBlock ∧ some k_ ≠ (.slice Ao40 t789.length co40 : Value).ownBlock) ho0 (fun k_ hk_ => ⟨(Kd.fresh' (Kd.N_lt (by exact HO_0.out)) k_ hk_), (Kd.fresh' (Kd.N_lt (by exact HO_1.out)) k_ hk_), (Kd.fresh' (Kd.N_lt (by exact HO785.out)) k_ hk_), (Kd.fresh' (Kd.N_lt (by exact HO788.out)) k_ hk_), (Kd.fresh' (Kd.N_lt (by exact HO791.out)) k_ hk_)⟩)) (below_size (zb HB))); have n6_ := Aside0.mk (below_step (zb HB) hb); clear HO_0; clear HO_1; clear HO785; clear HO788; clear HO791; clear HB; have HO_0 := n0_; have HO_1 := n1_; have HO785 := n2_; have HO788 := n3_; have HO791 := n4_; have HO794 := n5_; have HB := n6_; clear n0_ n1_ n2_ n3_ n4_ n5_ n6_; (try clear hb); (try clear ho0)) | ((with_reducible refine gate_dst (N := 42) rfl ?_); refine Kd.R_lit Kd.string _ 9 ?hg (N := 42) ?hd (xs := ([(⟨#[120, 45, 103, 111, 110, 101]⟩ : ByteArray)] : List ByteArray)) (inner := [.string (⟨#[120, 45, 103, 111, 110, 101]⟩ : ByteArray)]) (ok := fun _ => True) (okp := fun _ => True) ?hr ?hp (fun _ hk => hk) trivial (Below.refl _ _) (Nat.le_refl _) (by simp) ?_; (case hd => rfl); (case hg => rfl); (case hr => first | (go_simp; done) | (go_simp; rfl)); (case hp => exact (Reps.one (show Kd.M Kd.string _ _ _ (⟨#[120, 45, 103, 111, 110, 101]⟩ : ByteArray) [.string (⟨#[120, 45, 103, 111, 110, 101]⟩ : ByteArray)] from rfl) (Reps.none _ _))); intro v796 w42 ho43 hb hg_ hnew_; clear hg_ hnew_; (first | rw [← Ny795.out] at ho43 | (simp only [Int.reduceToNat] at ho43; rw [← Ny795.out] at ho43)); have n0_ := Aside0.mk (Kd.N_elder' (by exact HO_0.out) (Kd.R_base ho43) hb); have n1_ := Aside0.mk (Kd.N_elder' (by exact HO_1.out) (Kd.R_base ho43) hb); have n2_ := Aside0.mk (Kd.N_elder' (by exact HO785.out) (Kd.R_base ho43) hb); have n3_ := Aside0.mk (Kd.N_elder' (by exact HO788.out) (Kd.R_base ho43) hb); have n4_ := Aside0.mk (Kd.N_elder' (by exact HO791.out) (Kd.R_base ho43) hb); have n5_ := Aside0.mk (Kd.N_elder' (by exact HO794.out) (Kd.R_base ho43) hb); have n6_ := Aside0.mk (Kd.R_lower ho43 (below_size (zb HB))); have n7_ := Aside0.mk (below_step (zb HB) hb); clear HO_0; clear HO_1; clear HO785; clear HO788; clear HO791; clear HO794; clear HB; have HO_0 := n0_; have HO_1 := n1_; have HO785 := n2_; have HO788 := n3_; have HO791 := n4_; have HO794 := n5_; have HO797 := n6_; have HB := n7_; clear n0_ n1_ n2_ n3_ n4_ n5_ n6_ n7_; clear hb ho43; obtain ⟨Ao44, co44, eo44⟩ := Kd.R_slice HO797.out; subst eo44; obtain ⟨Ao45, co45, eo45⟩ := Kd.N_slice HO794.out; subst eo45) | ((with_reducible refine gate_callee (f := 14) rfl ?_); refine goesL_ (some 44) rfl rfl Tryz.func14 (by kernel_rfl) rfl #[.slice Ao45 t792.length co45, .agg #[.bool false, .bool false, .slice none 0 0, .slice Ao44 y795.length co44, .slice none 0 0, .slice none 0 0, .bool true, .bool false], .bool false] rfl zm ?_; (refine (clean_Rows.calls kj10 _ _ t792 false false _ _ ([] : List ByteArray) _ _ y795 _ _ ([] : List ByteArray) _ _ ([] : List (S60)) true false false t798 t801 _ ?side1 ?side2 ?side3 ?side4 ?side5 ?side6 ?side7 ?side8 ?side9 ?side10 A30.out).mono ?_); (case side1 => exact zc (Kd.N_reads' HO794.out).2.2); (case side2 => exact (Kd.N_reads' HO794.out).2.1); (case side3 => exact Kd.C_nil _ _); (case side4 => exact Nat.le_refl _); (case side5 => exact zc (Kd.R_reads' HO797.out).2.2); (case side6 => exact (Kd.R_reads' HO797.out).2.1); (case side7 => exact Kd.C_nil _ _); (case side8 => exact Nat.le_refl _); (case side9 => exact Kd.C_nil _ _); (case side10 => exact Nat.le_refl _); rintro e w46 ⟨v799, rfl, ho0, hb⟩; refine ⟨_, rfl, ?_⟩; have n0_ := Aside0.mk (Kd.N_elder' (by exact HO_0.out) (zn ho0) hb); have n1_ := Aside0.mk (Kd.N_elder' (by exact HO_1.out) (zn ho0) hb); have n2_ := Aside0.mk (Kd.N_elder' (by exact HO785.out) (zn ho0) hb); have n3_ := Aside0.mk (Kd.N_elder' (by exact HO788.out) (zn ho0) hb); have n4_ := Aside0.mk (Kd.N_elder' (by exact HO791.out) (zn ho0) hb); have n5_ := Aside0.mk (Kd.N_elder' (by exact HO794.out) (zn ho0) hb); have n6_ := Aside0.mk (Kd.R_below (by exact HO797.out) hb); have n7_ := Aside0.mk (Kd.N_lower (Kd.N_mono (ok' := fun k_ => some k_ ≠ (.slice Ao14 y774.length co14 : Value).ownBlock ∧ some k_ ≠ (.slice Ao16 y777.length co16 : Value).ownBlock ∧ some k_ ≠ (.slice Ao37 y783.length co37 : Value).ownBlock ∧ some k_ ≠ (.slice Ao38 t786.length co38 : Value).ownBlock ∧ some k_ ≠ (.slice Ao40 t789.length co40 : Value).ownBlock ∧ some k_ ≠ (.slice Ao45 t792.length co45 : Value).ownBlock ∧ some k_ ≠ (.slice Ao44 y795.length co44 : Value).ownBlock) ho0 (fun k_ hk_ => ⟨(Kd.fresh' (Kd.N_lt (by exact HO_0.out)) k_ hk_), (Kd.fresh' (Kd.N_lt (by exact HO_1.out)) k_ hk_), (Kd.fresh' (Kd.N_lt (by exact HO785.out)) k_ hk_), (Kd.fresh' (Kd.N_lt (by exact HO788.out)) k_ hk_), (Kd.fresh' (Kd.N_lt (by exact HO791.out)) k_ hk_), (Kd.fresh' (Kd.N_lt (by exact HO794.out)) k_ hk_), (Kd.fresh' (Kd.R_lt (by exact HO797.out)) k_ hk_)⟩)) (below_size (zb HB))); have n8_ := Aside0.mk (below_step (zb HB) hb); clear HO_0; clear HO_1; clear HO785; clear HO788; clear HO791; clear HO794; clear HO797; clear HB; have HO_0 := n0_; have HO_1 := n1_; have HO785 := n2_; have HO788 := n3_; have HO791 := n4_; have HO794 := n5_; have HO797 := n6_; have HO800 := n7_; have HB := n8_; clear n0_ n1_ n2_ n3_ n4_ n5_ n6_ n7_ n8_; (try clear hb); (try clear ho0)) | ((with_reducible refine gate_callee (f := 28) rfl ?_); refine goesL_ (some 50) rfl rfl Tryz.func28 (by kernel_rfl) rfl #[.slice Ao14 y774.length co14, .slice Ao16 y777.length co16] rfl zm ?_; (with_reducible refine (boltingref04_Join.calls kj10 _ _ y774 _ _ y777 t802 _ ?side1 ?side2 ?side3 ?side4 A31.out).mono ?_); (case side1 => exact zc (Kd.N_reads' HO_0.out).2.2); (case side2 => exact (Kd.N_reads' HO_0.out).2.1); (case side3 => exact zc (Kd.N_reads' HO_1.out).2.2); (case side4 => exact (Kd.N_reads' HO_1.out).2.1); rintro e w47 ⟨v803, rfl, ho0, hb⟩; refine ⟨_, rfl, ?_⟩; have n0_ := Aside0.mk (Kd.N_elder' (by exact HO_0.out) (zn ho0) hb); have n1_ := Aside0.mk (Kd.N_elder' (by exact HO_1.out) (zn ho0) hb); have n2_ := Aside0.mk (Kd.N_elder' (by exact HO785.out) (zn ho0) hb); have n3_ := Aside0.mk (Kd.N_elder' (by exact HO788.out) (zn ho0) hb); have n4_ := Aside0.mk (Kd.N_elder' (by exact HO791.out) (zn ho0) hb); have n5_ := Aside0.mk (Kd.N_elder' (by exact HO794.out) (zn ho0) hb); have n6_ := Aside0.mk (Kd.R_below (by exact HO797.out) hb); have n7_ := Aside0.mk (Kd.N_elder' (by exact HO800.out) (zn ho0) hb); have n8_ := Aside0.mk (Kd.N_lower (Kd.N_mono (ok' := fun k_ => some k_ ≠ (.slice Ao14 y774.length co14 : Value).ownBlock ∧ some k_ ≠ (.slice Ao16 y777.length co16 : Value).ownBlock ∧ some k_ ≠ (.slice Ao37 y783.length co37 : Value).ownBlock ∧ some k_ ≠ (.slice Ao38 t786.length co38 : Value).ownBlock ∧ some k_ ≠ (.slice Ao40 t789.length co40 : Value).ownBlock ∧ some k_ ≠ (.slice Ao45 t792.length co45 : Value).ownBlock ∧ some k_ ≠ (.slice Ao44 y795.length co44 : Value).ownBlock ∧ some k_ ≠ (v799 : Value).ownBlock) ho0 (fun k_ hk_ => ⟨(Kd.fresh' (Kd.N_lt (by exact HO_0.out)) k_ hk_), (Kd.fresh' (Kd.N_lt (by exact HO_1.out)) k_ hk_), (Kd.fresh' (Kd.N_lt (by exact HO785.out)) k_ hk_), (Kd.fresh' (Kd.N_lt (by exact HO788.out)) k_ hk_), (Kd.fresh' (Kd.N_lt (by exact HO791.out)) k_ hk_), (Kd.fresh' (Kd.N_lt (by exact HO794.out)) k_ hk_), (Kd.fresh' (Kd.R_lt (by exact HO797.out)) k_ hk_), (Kd.fresh' (Kd.N_lt (by exact HO800.out)) k_ hk_)⟩)) (below_size (zb HB))); have n9_ := Aside0.mk (below_step (zb HB) hb); clear HO_0; clear HO_1; clear HO785; clear HO788; clear HO791; clear HO794; clear HO797; clear HO800; clear HB; have HO_0 := n0_; have HO_1 := n1_; have HO785 := n2_; have HO788 := n3_; have HO791 := n4_; have HO794 := n5_; have HO797 := n6_; have HO800 := n7_; have HO804 := n8_; have HB := n9_; clear n0_ n1_ n2_ n3_ n4_ n5_ n6_ n7_ n8_ n9_; (try clear hb); (try clear ho0)) | ((with_reducible refine gate_dst (N := 51) rfl ?_); refine Kd.R_lit Kd.string _ 9 ?hg (N := 51) ?hd (xs := ([(⟨#[120, 45, 103, 111, 110, 101]⟩ : ByteArray)] : List ByteArray)) (inner := [.string (⟨#[120, 45, 103, 111, 110, 101]⟩ : ByteArray)]) (ok := fun _ => True) (okp := fun _ => True) ?hr ?hp (fun _ hk => hk) trivial (Below.refl _ _) (Nat.le_refl _) (by simp) ?_; (case hd => rfl); (case hg => rfl); (case hr => first | (go_simp; done) | (go_simp; rfl)); (case hp => exact (Reps.one (show Kd.M Kd.string _ _ _ (⟨#[120, 45, 103, 111, 110, 101]⟩ : ByteArray) [.string (⟨#[120, 45, 103, 111, 110, 101]⟩ : ByteArray)] from rfl) (Reps.none _ _))); intro v806 w48 ho49 hb hg_ hnew_; clear hg_ hnew_; (first | rw [← Ny805.out] at ho49 | (simp only [Int.reduceToNat] at ho49; rw [← Ny805.out] at ho49)); have n0_ := Aside0.mk (Kd.N_elder' (by exact HO_0.out) (Kd.R_base ho49) hb); have n1_ := Aside0.mk (Kd.N_elder' (by exact HO_1.out) (Kd.R_base ho49) hb); have n2_ := Aside0.mk (Kd.N_elder' (by exact HO785.out) (Kd.R_base ho49) hb); have n3_ := Aside0.mk (Kd.N_elder' (by exact HO788.out) (Kd.R_base ho49) hb); have n4_ := Aside0.mk (Kd.N_elder' (by exact HO791.out) (Kd.R_base ho49) hb); have n5_ := Aside0.mk (Kd.N_elder' (by exact HO794.out) (Kd.R_base ho49) hb); have n6_ := Aside0.mk (Kd.R_elder' (by exact HO797.out) (Kd.R_base ho49) hb); have n7_ := Aside0.mk (Kd.N_elder' (by exact HO800.out) (Kd.R_base ho49) hb); have n8_ := Aside0.mk (Kd.N_elder' (by exact HO804.out) (Kd.R_base ho49) hb); have n9_ := Aside0.mk (Kd.R_lower (Kd.R_new' ho49 (Kd.R_lt (by exact HO797.out))) (below_size (zb HB))); have n10_ := Aside0.mk (below_step (zb HB) hb); clear HO_0; clear HO_1; clear HO785; clear HO788; clear HO791; clear HO794; clear HO797; clear HO800; clear HO804; clear HB; have HO_0 := n0_; have HO_1 := n1_; have HO785 := n2_; have HO788 := n3_; have HO791 := n4_; have HO794 := n5_; have HO797 := n6_; have HO800 := n7_; have HO804 := n8_; have HO807 := n9_; have HB := n10_; clear n0_ n1_ n2_ n3_ n4_ n5_ n6_ n7_ n8_ n9_ n10_; clear hb ho49; obtain ⟨Ao50, co50, eo50⟩ := Kd.R_slice HO807.out; subst eo50; obtain ⟨Ao51, co51, eo51⟩ := Kd.N_slice HO804.out; subst eo51) | ((with_reducible refine gate_callee (f := 14) rfl ?_); refine goesL_ (some 53) rfl rfl Tryz.func14 (by kernel_rfl) rfl #[.slice Ao51 t802.length co51, .agg #[.bool false, .bool false, .slice none 0 0, .slice Ao50 y805.length co50, .slice none 0 0, .slice none 0 0, .bool true, .bool false], .bool false] rfl zm ?_; (refine (clean_Rows.calls kj10 _ _ t802 false false _ _ ([] : List ByteArray) _ _ y805 _ _ ([] : List ByteArray) _ _ ([] : List (S60)) true false false t808 t811 _ ?side1 ?side2 ?side3 ?side4 ?side5 ?side6 ?side7 ?side8 ?side9 ?side10 A32.out).mono ?_); (case side1 => exact zc (Kd.N_reads' HO804.out).2.2); (case side2 => exact (Kd.N_reads' HO804.out).2.1); (case side3 => exact Kd.C_nil _ _); (case side4 => exact Nat.le_refl _); (case side5 => exact zc (Kd.R_reads' HO807.out).2.2); (case side6 => exact (Kd.R_reads' HO807.out).2.1); (case side7 => exact Kd.C_nil _ _); (case side8 => exact Nat.le_refl _); (case side9 => exact Kd.C_nil _ _); (case side10 => exact Nat.le_refl _); rintro e w52 ⟨v809, rfl, ho0, hb⟩; refine ⟨_, rfl, ?_⟩; have n0_ := Aside0.mk (Kd.N_elder' (by exact HO_0.out) (zn ho0) hb); have n1_ := Aside0.mk (Kd.N_elder' (by exact HO_1.out) (zn ho0) hb); have n2_ := Aside0.mk (Kd.N_elder' (by exact HO785.out) (zn ho0) hb); have n3_ := Aside0.mk (Kd.N_elder' (by exact HO788.out) (zn ho0) hb); have n4_ := Aside0.mk (Kd.N_elder' (by exact HO791.out) (zn ho0) hb); have n5_ := Aside0.mk (Kd.N_elder' (by exact HO794.out) (zn ho0) hb); have n6_ := Aside0.mk (Kd.R_below (by exact HO797.out) hb); have n7_ := Aside0.mk (Kd.N_elder' (by exact HO800.out) (zn ho0) hb); have n8_ := Aside0.mk (Kd.N_elder' (by exact HO804.out) (zn ho0) hb); have n9_ := Aside0.mk (Kd.R_below (by exact HO807.out) hb); have n10_ := Aside0.mk (Kd.N_lower (Kd.N_mono (ok' := fun k_ => some k_ ≠ (.slice Ao14 y774.length co14 : Value).ownBlock ∧ some k_ ≠ (.slice Ao16 y777.length co16 : Value).ownBlock ∧ some k_ ≠ (.slice Ao37 y783.length co37 : Value).ownBlock ∧ some k_ ≠ (.slice Ao38 t786.length co38 : Value).ownBlock ∧ some k_ ≠ (.slice Ao40 t789.length co40 : Value).ownBlock ∧ some k_ ≠ (.slice Ao45 t792.length co45 : Value).ownBlock ∧ some k_ ≠ (.slice Ao44 y795.length co44 : Value).ownBlock ∧ some k_ ≠ (v799 : Value).ownBlock ∧ some k_ ≠ (.slice Ao51 t802.length co51 : Value).ownBlock ∧ some k_ ≠ (.slice Ao50 y805.length co50 : Value).ownBlock) ho0 (fun k_ hk_ => ⟨(Kd.fresh' (Kd.N_lt (by exact HO_0.out)) k_ hk_), (Kd.fresh' (Kd.N_lt (by exact HO_1.out)) k_ hk_), (Kd.fresh' (Kd.N_lt (by exact HO785.out)) k_ hk_), (Kd.fresh' (Kd.N_lt (by exact HO788.out)) k_ hk_), (Kd.fresh' (Kd.N_lt (by exact HO791.out)) k_ hk_), (Kd.fresh' (Kd.N_lt (by exact HO794.out)) k_ hk_), (Kd.fresh' (Kd.R_lt (by exact HO797.out)) k_ hk_), (Kd.fresh' (Kd.N_lt (by exact HO800.out)) k_ hk_), (Kd.fresh' (Kd.N_lt (by exact HO804.out)) k_ hk_), (Kd.fresh' (Kd.R_lt (by exact HO807.out)) k_ hk_)⟩)) (below_size (zb HB))); have n11_ := Aside0.mk (below_step (zb HB) hb); clear HO_0; clear HO_1; clear HO785; clear HO788; clear HO791; clear HO794; clear HO797; clear HO800; clear HO804; clear HO807; clear HB; have HO_0 := n0_; have HO_1 := n1_; have HO785 := n2_; have HO788 := n3_; have HO791 := n4_; have HO794 := n5_; have HO797 := n6_; have HO800 := n7_; have HO804 := n8_; have HO807 := n9_; have HO810 := n10_; have HB := n11_; clear n0_ n1_ n2_ n3_ n4_ n5_ n6_ n7_ n8_ n9_ n10_ n11_; (try clear hb); (try clear ho0)))
        (try simp only [Act.put, List.setIfInBounds_toArray, List.set_cons_zero, List.set_cons_succ])
        go_cut [61] (fun v61 wc => ∃ (kq : Nat) (x61_32 : Bool), v61 = .bool x61_32 ∧ Aside0 (boltinglaw13_CleanReplaces.j1 kq t798 t801 t808 t811 x61_32 = some r) ∧ Aside0 (kq ≤ kj10) ∧ Aside0 (Kd.N k38 38 wc w.heap.size (fun k_ => some k_ ≠ (v809 : Value).ownBlock) v799 t798) ∧ Aside0 (Kd.N k38 38 wc w.heap.size (fun k_ => some k_ ≠ (v799 : Value).ownBlock) v809 t808) ∧ Aside0 (Below w.heap.size w wc))
        case first =>
         have H := HC33.out
         clear HC33
         by_cases c53 : t801 = 0
         ·rw [if_pos c53] at H
          have c53b0 : (t801 == 0) = true := beq_iff_eq.mpr c53
          have c53b1 : (t801 != 0) = false := bne_eq_false_iff_eq.mpr c53
          clear c53
          (first | rw [c53b0] | (simp only [i64_w, i32_w]; rw [c53b0]) | skip)
          have H' := Aside0.mk H
          clear H
          go_wp2
          go_meet
          case rel => exact ⟨_, ((t811 != 0)), zr, H', ⟨by have := HJ10.out; first | omega | exact Nat.le_refl _⟩, ⟨by (with_reducible repeat (first | apply Kd.N_alloc | apply Kd.N_drewN | apply Kd.N_drew)); first | exact Kd.N_mono HO800.out (fun _ hk => hk.2) | (refine Kd.N_mono HO800.out (fun _ hk => ?_); simp only [own_ob] at hk ⊢; exact hk.2)⟩, ⟨by exact Kd.N_mono HO810.out (fun _ hk => hk.2.2.2.2.2.2.2.1)⟩, ⟨zb HB⟩⟩
         ·rw [if_neg c53] at H
          have c53b0 : (t801 == 0) = false := beq_eq_false_iff_ne.mpr c53
          have c53b1 : (t801 != 0) = true := bne_iff_ne.mpr c53
          (first | rw [c53b0] | (simp only [i64_w, i32_w]; rw [c53b0]) | skip)
          have H' := Aside0.mk H
          clear H
          go_wp2
          go_meet
          case rel => exact ⟨_, (true), zr, H', ⟨by have := HJ10.out; first | omega | exact Nat.le_refl _⟩, ⟨by (with_reducible repeat (first | apply Kd.N_alloc | apply Kd.N_drewN | apply Kd.N_drew)); first | exact Kd.N_mono HO800.out (fun _ hk => hk.2) | (refine Kd.N_mono HO800.out (fun _ hk => ?_); simp only [own_ob] at hk ⊢; exact hk.2)⟩, ⟨by exact Kd.N_mono HO810.out (fun _ hk => hk.2.2.2.2.2.2.2.1)⟩, ⟨zb HB⟩⟩
        case rest =>
         clear HC33
         try clear c1
         try clear q1
         try clear c2
         try clear p2
         try clear c5
         try clear c6
         try clear c6b0
         try clear c6b1
         try clear c7
         try clear c7b0
         try clear c7b1
         try clear c8
         try clear c9
         try clear c9b0
         try clear c9b1
         try clear c10
         try clear c10b0
         try clear c10b1
         try clear c11
         try clear c12
         try clear c14
         try clear q15
         try clear q17
         try clear c19
         try clear c19b0
         try clear c19b1
         try clear c21
         try clear c24
         try clear c28
         try clear c53
         try clear c53b0
         try clear c53b1
         try clear p2
         try clear q1
         try clear q15
         try clear q17
         obtain ⟨kq, x61_32, rfl, HA, HJ32, HO_6, HO_8, HB⟩ := hcut
         cases kq with
         | zero => exact absurd HA.out (by simp [boltinglaw13_CleanReplaces.j1])
         | succ kj32 =>
          have H := HA.out
          clear HA
          simp only [boltinglaw13_CleanReplaces.j1] at H
          by_cases c54 : x61_32 = true
          ·subst c54
           replace H : (if t801 = 2 then ((boltinglaw13_fixed.f).bind fun t812 => (some t812)) else (if t811 = 0 then ((boltinglaw13_fixed.f).bind fun t813 => (some t813)) else (some false))) = some r := by rw [if_pos rfl] at H; exact H
           by_cases c55 : t801 = 2
           ·rw [if_pos c55] at H
            have c55b0 : (t801 == 2) = true := beq_iff_eq.mpr c55
            have c55b1 : (t801 != 2) = false := bne_eq_false_iff_eq.mpr c55
            clear c55
            replace H := Option.bind_eq_some_iff.mp H
            obtain ⟨t812, A560, H⟩ := H
            replace H : (some t812) = some r := H
            have A56 := Aside0.mk A560
            clear A560
            obtain rfl := Option.some.inj H
            go_wp2_with (first | (go_at_call 12; (with_reducible refine (boltinglaw13_fixed.calls  t812 _ A56.out).mono ?_); rintro e w57 ⟨rfl, hb⟩; have n2_ := Aside0.mk (below_step (zb HB) hb); clear HO_6; clear HO_8; clear HB; have HB := n2_; clear n2_; (try clear hb)))
            go_ret
            exact ⟨by first | rfl | (simp [errW_none, errW_some] <;> rfl) | (simp only [← hji5, ← hji8]; first | rfl | (simp [errW_none, errW_some] <;> rfl)) | (simp [*, errW_none, errW_some] <;> rfl), zb HB⟩
           ·rw [if_neg c55] at H
            have c55b0 : (t801 == 2) = false := beq_eq_false_iff_ne.mpr c55
            have c55b1 : (t801 != 2) = true := bne_iff_ne.mpr c55
            by_cases c58 : t811 = 0
            ·rw [if_pos c58] at H
             have c58b0 : (t811 == 0) = true := beq_iff_eq.mpr c58
             have c58b1 : (t811 != 0) = false := bne_eq_false_iff_eq.mpr c58
             clear c58
             replace H := Option.bind_eq_some_iff.mp H
             obtain ⟨t813, A590, H⟩ := H
             replace H : (some t813) = some r := H
             have A59 := Aside0.mk A590
             clear A590
             obtain rfl := Option.some.inj H
             go_wp2_with (first | (go_at_call 12; (with_reducible refine (boltinglaw13_fixed.calls  t813 _ A59.out).mono ?_); rintro e w60 ⟨rfl, hb⟩; have n2_ := Aside0.mk (below_step (zb HB) hb); clear HO_6; clear HO_8; clear HB; have HB := n2_; clear n2_; (try clear hb)))
             go_ret
             exact ⟨by first | rfl | (simp [errW_none, errW_some] <;> rfl) | (simp only [← hji5, ← hji8]; first | rfl | (simp [errW_none, errW_some] <;> rfl)) | (simp [*, errW_none, errW_some] <;> rfl), zb HB⟩
            ·rw [if_neg c58] at H
             have c58b0 : (t811 == 0) = false := beq_eq_false_iff_ne.mpr c58
             have c58b1 : (t811 != 0) = true := bne_iff_ne.mpr c58
             exact absurd (Option.some.inj H) (by rw [hT.out]; decide)
          ·replace c54 := Bool.eq_false_iff.mpr c54
           subst c54
           replace H : ((boltingref04_Same.f kj32 t798 t808).bind fun t814 => (if t814 = true then ((boltinglaw13_fixed.f).bind fun t815 => (some t815)) else (some false))) = some r := by rw [if_neg (show ¬ (false = true) by decide)] at H; exact H
           replace H := Option.bind_eq_some_iff.mp H
           obtain ⟨t814, A610, H⟩ := H
           have A61 := Aside0.mk A610
           clear A610
           by_cases c62 : t814 = true
           ·subst c62
            replace H : ((boltinglaw13_fixed.f).bind fun t815 => (some t815)) = some r := by rw [if_pos rfl] at H; exact H
            replace H := Option.bind_eq_some_iff.mp H
            obtain ⟨t815, A630, H⟩ := H
            replace H : (some t815) = some r := H
            have A63 := Aside0.mk A630
            clear A630
            obtain rfl := Option.some.inj H
            obtain ⟨Ao64, co64, eo64⟩ := Kd.N_slice HO_6.out
            subst eo64
            obtain ⟨Ao65, co65, eo65⟩ := Kd.N_slice HO_8.out
            subst eo65
            go_wp2_with (first | ((with_reducible refine gate_callee (f := 16) rfl ?_); refine goesL_ (some 73) rfl rfl Tryz.func16 (by kernel_rfl) rfl #[.slice Ao64 t798.length co64, .slice Ao65 t808.length co65] rfl zm ?_; (with_reducible refine (boltingref04_Same.calls kj32 _ _ t798 _ _ t808 true _ ?side1 ?side2 ?side3 ?side4 A61.out).mono ?_); (case side1 => exact zc (Kd.N_reads' HO_6.out).2.2); (case side2 => exact (Kd.N_reads' HO_6.out).2.1); (case side3 => exact zc (Kd.N_reads' HO_8.out).2.2); (case side4 => exact (Kd.N_reads' HO_8.out).2.1); rintro e w66 ⟨rfl, hb⟩; refine ⟨_, rfl, ?_⟩; have n2_ := Aside0.mk (below_step (zb HB) hb); clear HO_6; clear HO_8; clear HB; have HB := n2_; clear n2_; (try clear hb)) | (go_at_call 12; (with_reducible refine (boltinglaw13_fixed.calls  t815 _ A63.out).mono ?_); rintro e w67 ⟨rfl, hb⟩; have n2_ := Aside0.mk (below_step (zb HB) hb); clear HB; have HB := n2_; clear n2_; (try clear hb)))
            go_ret
            exact ⟨by first | rfl | (simp [errW_none, errW_some] <;> rfl) | (simp only [← hji5, ← hji8]; first | rfl | (simp [errW_none, errW_some] <;> rfl)) | (simp [*, errW_none, errW_some] <;> rfl), zb HB⟩
           ·replace c62 := Bool.eq_false_iff.mpr c62
            subst c62
            replace H : (some false) = some r := by rw [if_neg (show ¬ (false = true) by decide)] at H; exact H
            exact absurd (Option.some.inj H) (by rw [hT.out]; decide)
    ·rw [if_neg c10] at H
     exact absurd H (by simp)
   ·rw [if_neg c9] at H
    exact absurd H (by simp)
  ·rw [if_neg c7] at H
   exact absurd H (by simp)
 ·rw [if_neg c6] at H
  exact absurd H (by simp)

end Go.Proofs.YticacakoefojbaaGreat.Pr
namespace Go.Proofs.YticacakoefojbaaGreat.Pr
abbrev Rw := S38
abbrev Atr := S45
end Go.Proofs.YticacakoefojbaaGreat.Pr
namespace Go.Proofs.YticacakoefojbaaGreat.Fo
set_option linter.unusedVariables false
set_option linter.unusedSimpArgs false
open Go.Proofs.YticacakoefojbaaGreat.Pr

inductive Fo where
  | nil
  | cons (x : Rw) (k r : Fo)
def Fo.app : Fo → Fo → Fo
  | .nil, G => G
  | .cons x k r, G => .cons x k (r.app G)
def Fo.size : Fo → Nat
  | .nil => 0
  | .cons _ k r => 1 + k.size + r.size
def Fo.height : Fo → Nat
  | .nil => 0
  | .cons _ k r => max (1 + k.height) r.height
theorem app_nil : ∀ F : Fo, F.app .nil = F
  | .nil => rfl
  | .cons x k r => by rw [Fo.app, app_nil r]
theorem app_assoc : ∀ A B C : Fo, (A.app B).app C = A.app (B.app C)
  | .nil, B, C => rfl
  | .cons x k r, B, C => by rw [Fo.app, Fo.app, Fo.app, app_assoc r]
theorem size_app : ∀ A B : Fo, (A.app B).size = A.size + B.size
  | .nil, B => by simp [Fo.app, Fo.size]
  | .cons x k r, B => by rw [Fo.app, Fo.size, Fo.size, size_app r]; omega
theorem height_app : ∀ A B : Fo, (A.app B).height = max A.height B.height
  | .nil, B => by simp [Fo.app, Fo.height]
  | .cons x k r, B => by rw [Fo.app, Fo.height, Fo.height, height_app r]; omega
def Fo.All (P : Rw → Prop) : Fo → Prop
  | .nil => True
  | .cons x k r => P x ∧ k.All P ∧ r.All P
theorem all_app {P : Rw → Prop} : ∀ {A B : Fo}, A.All P → B.All P → (A.app B).All P
  | .nil, B, _, h => h
  | .cons x k r, B, h, h2 => ⟨h.1, h.2.1, all_app h.2.2 h2⟩
theorem all_imp {P Q : Rw → Prop} (h : ∀ x, P x → Q x) : ∀ {A : Fo}, A.All P → A.All Q
  | .nil, _ => trivial
  | .cons x k r, g => ⟨h x g.1, all_imp h g.2.1, all_imp h g.2.2⟩
def Fo.Leaf : Fo → Prop
  | .nil => True
  | .cons x k r => (x.f1 ≠ 0 → k = .nil) ∧ k.Leaf ∧ r.Leaf
theorem leaf_app : ∀ {A B : Fo}, A.Leaf → B.Leaf → (A.app B).Leaf
  | .nil, B, _, h => h
  | .cons x k r, B, h, h2 => ⟨h.1, h.2.1, leaf_app h.2.2 h2⟩

def flat : Int → Fo → List Rw
  | _, .nil => []
  | d, .cons x k r => { x with f0 := d } :: (flat (d + 1) k ++ flat d r)
theorem flat_len : ∀ (F : Fo) (d : Int), (flat d F).length = F.size
  | .nil, d => rfl
  | .cons x k r, d => by rw [flat, List.length_cons, List.length_append, flat_len k, flat_len r, Fo.size]; omega
theorem flat_app : ∀ (A B : Fo) (d : Int), flat d (A.app B) = flat d A ++ flat d B
  | .nil, B, d => rfl
  | .cons x k r, B, d => by rw [Fo.app, flat, flat, flat_app r]; simp
theorem flat_ge : ∀ (F : Fo) (d : Int), ∀ x ∈ flat d F, d ≤ x.f0
  | .nil, d, x, h => by cases h
  | .cons y k r, d, x, h => by
    rw [flat, List.mem_cons, List.mem_append] at h
    rcases h with rfl | h | h
    · exact Int.le_refl _
    · have := flat_ge k (d + 1) x h; omega
    · exact flat_ge r d x h
theorem flat_lt : ∀ (F : Fo) (d : Int), ∀ x ∈ flat d F, x.f0 < d + F.height
  | .nil, d, x, h => by cases h
  | .cons y k r, d, x, h => by
    rw [flat, List.mem_cons, List.mem_append] at h
    rw [Fo.height]
    rcases h with rfl | h | h
    · show d < _; omega
    · have := flat_lt k (d + 1) x h; omega
    · have := flat_lt r d x h; omega
theorem height_of : ∀ (F : Fo) (d : Int) (m : Nat), (∀ x ∈ flat d F, x.f0 < d + m) → F.height ≤ m
  | .nil, d, m, h => Nat.zero_le _
  | .cons y k r, d, m, h => by
    rw [flat] at h
    have h0 : d < d + (m : Int) := h { y with f0 := d } (List.mem_cons_self ..)
    have hk := height_of k (d + 1) (m - 1) (fun x hx => by have := h x (List.mem_cons_of_mem _ (List.mem_append_left _ hx)); omega)
    have hr := height_of r d m (fun x hx => h x (List.mem_cons_of_mem _ (List.mem_append_right _ hx)))
    rw [Fo.height]; omega
theorem flat_all {P : Rw → Prop} (hP : ∀ x d, P x → P { x with f0 := d }) : ∀ (F : Fo) (d : Int), F.All P → ∀ x ∈ flat d F, P x
  | .nil, d, _, x, h => by cases h
  | .cons y k r, d, hA, x, h => by
    rw [flat, List.mem_cons, List.mem_append] at h
    rcases h with rfl | h | h
    · exact hP y d hA.1
    · exact flat_all hP k (d + 1) hA.2.1 x h
    · exact flat_all hP r d hA.2.2 x h
theorem all_flat {P : Rw → Prop} (hP : ∀ x d, P { x with f0 := d } → P x) : ∀ (F : Fo) (d : Int), (∀ x ∈ flat d F, P x) → F.All P
  | .nil, d, _ => trivial
  | .cons y k r, d, h => by
    rw [flat] at h
    exact ⟨hP y d (h _ (List.mem_cons_self ..)), all_flat hP k (d + 1) (fun x hx => h x (List.mem_cons_of_mem _ (List.mem_append_left _ hx))), all_flat hP r d (fun x hx => h x (List.mem_cons_of_mem _ (List.mem_append_right _ hx)))⟩

def RightL (ok : Rw → Prop) : Int → List Rw → Prop
  | _, [] => True
  | m, x :: t => 0 ≤ x.f0 ∧ x.f0 ≤ m ∧ ok x ∧ RightL ok (if x.f1 = 0 then x.f0 + 1 else x.f0) t
theorem RightL.head {ok : Rw → Prop} {m m' : Int} : ∀ {l : List Rw}, RightL ok m l → (∀ x, l.head? = some x → x.f0 ≤ m') → RightL ok m' l
  | [], _, _ => trivial
  | x :: t, h, h2 => ⟨h.1, h2 x rfl, h.2.2⟩
theorem parse_at (ok : Rw → Prop) : ∀ (n : Nat) (l : List Rw) (d : Int), l.length ≤ n → RightL ok d l → 0 ≤ d →
    ∃ F rest, l = flat d F ++ rest ∧ F.Leaf ∧ F.All (fun x => ok x ∧ 0 ≤ x.f0) ∧ (∀ x, rest.head? = some x → x.f0 < d) ∧ RightL ok (d - 1) rest := by
  intro n
  induction n with
  | zero =>
    intro l d hl hR hd
    have : l = [] := List.length_eq_zero_iff.1 (by omega)
    subst this
    exact ⟨.nil, [], rfl, trivial, trivial, (fun x h => by cases h), trivial⟩
  | succ n ih =>
    intro l d hl hR hd
    cases l with
    | nil => exact ⟨.nil, [], rfl, trivial, trivial, (fun x h => by cases h), trivial⟩
    | cons x t =>
      obtain ⟨h0, h1, hok, hT⟩ := hR
      by_cases hx : x.f0 = d
      · have hxd : ({ x with f0 := d } : Rw) = x := by rw [← hx]
        by_cases hk : x.f1 = 0
        · rw [if_pos hk, hx] at hT
          obtain ⟨K, r1, e1, l1, a1, b1, c1⟩ := ih t (d + 1) (by simpa using hl) hT (by omega)
          have hlen : r1.length ≤ n := by
            have := congrArg List.length e1
            rw [List.length_append] at this
            have : t.length ≤ n := by simpa using hl
            omega
          rw [show d + 1 - 1 = d by omega] at c1
          obtain ⟨R, r2, e2, l2, a2, b2, c2⟩ := ih r1 d hlen c1 hd
          refine ⟨.cons x K R, r2, ?_, ⟨fun h => absurd hk h, l1, l2⟩, ⟨⟨hok, h0⟩, a1, a2⟩, b2, c2⟩
          rw [flat, hxd, List.cons_append, List.append_assoc, ← e2, ← e1]
        · rw [if_neg hk, hx] at hT
          obtain ⟨R, r2, e2, l2, a2, b2, c2⟩ := ih t d (by simpa using hl) hT hd
          refine ⟨.cons x .nil R, r2, ?_, ⟨fun h => rfl, trivial, l2⟩, ⟨⟨hok, h0⟩, trivial, a2⟩, b2, c2⟩
          rw [flat, hxd, flat, List.nil_append, List.cons_append, ← e2]
      · exact ⟨.nil, x :: t, rfl, trivial, trivial, (fun y h => by cases h; omega), ⟨h0, by omega, hok, hT⟩⟩
theorem parse {ok : Rw → Prop} {l : List Rw} (h : RightL ok 0 l) : ∃ F, l = flat 0 F ∧ F.Leaf ∧ F.All ok := by
  obtain ⟨F, rest, e, hl, ha, hb, hc⟩ := parse_at ok l.length l 0 (Nat.le_refl _) h (Int.le_refl _)
  cases rest with
  | nil => exact ⟨F, by simpa using e, hl, all_imp (fun x h => h.1) ha⟩
  | cons x t =>
    have h1 := hc.1
    have h2 := hc.2.1
    omega
theorem right_append {ok : Rw → Prop} : ∀ {a b : List Rw} {m d : Int}, RightL ok m a → (∀ x ∈ a, d ≤ x.f0) → RightL ok d b → d ≤ m → RightL ok m (a ++ b)
  | [], b, m, d, _, _, hb, hm => hb.head (fun x hx => by
      cases b with
      | nil => cases hx
      | cons y t => cases hx; have := hb.2.1; omega)
  | x :: t, b, m, d, ha, hd, hb, hm => by
    refine ⟨ha.1, ha.2.1, ha.2.2.1, ?_⟩
    have hx := hd x (List.mem_cons_self ..)
    exact right_append (d := d) ha.2.2.2 (fun y hy => hd y (List.mem_cons_of_mem _ hy)) hb (by split <;> omega)
theorem right_flat {ok : Rw → Prop} (hP : ∀ x d, ok x → ok { x with f0 := d }) : ∀ (F : Fo) (d : Int), 0 ≤ d → F.Leaf → F.All ok → RightL ok d (flat d F)
  | .nil, d, _, _, _ => trivial
  | .cons x k r, d, hd, hl, ha => by
    rw [flat]
    refine ⟨hd, Int.le_refl _, hP x d ha.1, ?_⟩
    have hr := right_flat hP r d hd hl.2.2 ha.2.2
    by_cases hk : x.f1 = 0
    · rw [if_pos (show ({ x with f0 := d } : Rw).f1 = 0 from hk)]
      refine right_append (d := d) (right_flat hP k (d + 1) (by omega) hl.2.1 ha.2.1) (fun y hy => ?_) hr (by show d ≤ d + 1; omega)
      have := flat_ge k (d + 1) y hy
      omega
    · rw [if_neg (show ¬ ({ x with f0 := d } : Rw).f1 = 0 from hk), hl.1 hk]
      exact hr

def keepF (what : Rw → Int) (upd : Rw → Rw) : Fo → Fo
  | .nil => .nil
  | .cons x k r => if what x = 1 then keepF what upd r else if what x = 2 then (keepF what upd k).app (keepF what upd r) else .cons (upd x) (keepF what upd k) (keepF what upd r)
theorem keep_app (what : Rw → Int) (upd : Rw → Rw) : ∀ A B : Fo, keepF what upd (A.app B) = (keepF what upd A).app (keepF what upd B)
  | .nil, B => rfl
  | .cons x k r, B => by
    rw [Fo.app, keepF, keepF, keep_app what upd r B]
    split
    · rfl
    · split
      · rw [app_assoc]
      · rfl
theorem keep_size (what : Rw → Int) (upd : Rw → Rw) : ∀ F : Fo, (keepF what upd F).size ≤ F.size
  | .nil => Nat.le_refl _
  | .cons x k r => by
    have h1 := keep_size what upd k
    have h2 := keep_size what upd r
    rw [keepF, Fo.size]
    split
    · omega
    · split
      · rw [size_app]; omega
      · rw [Fo.size]; omega
theorem keep_height (what : Rw → Int) (upd : Rw → Rw) : ∀ F : Fo, (keepF what upd F).height ≤ F.height
  | .nil => Nat.le_refl _
  | .cons x k r => by
    have h1 := keep_height what upd k
    have h2 := keep_height what upd r
    rw [keepF, Fo.height]
    split
    · omega
    · split
      · rw [height_app]; omega
      · rw [Fo.height]; omega
theorem keep_all {what : Rw → Int} {upd : Rw → Rw} {P Q : Rw → Prop} (h : ∀ x, P x → what x ≠ 1 → what x ≠ 2 → Q (upd x)) : ∀ {F : Fo}, F.All P → (keepF what upd F).All Q
  | .nil, _ => trivial
  | .cons x k r, hA => by
    rw [keepF]
    split
    · exact keep_all h hA.2.2
    · split
      · exact all_app (keep_all h hA.2.1) (keep_all h hA.2.2)
      · exact ⟨h x hA.1 (by assumption) (by assumption), keep_all h hA.2.1, keep_all h hA.2.2⟩
theorem keep_leaf {what : Rw → Int} {upd : Rw → Rw} (h : ∀ x, (upd x).f1 = x.f1) : ∀ {F : Fo}, F.Leaf → (keepF what upd F).Leaf
  | .nil, _ => trivial
  | .cons x k r, hL => by
    rw [keepF]
    split
    · exact keep_leaf h hL.2.2
    · split
      · exact leaf_app (keep_leaf h hL.2.1) (keep_leaf h hL.2.2)
      · exact ⟨fun g => by rw [hL.1 (by rw [← h x]; exact g)]; rfl, keep_leaf h hL.2.1, keep_leaf h hL.2.2⟩
def pre (x : Rw) (k F : Fo) : Fo :=
  if x.f1 = 1 then
    if x.f3.size = 0 then F else
    match F with
    | .nil => .cons x k .nil
    | .cons y ky r => if y.f1 = 1 then .cons { x with f3 := x.f3 ++ y.f3 } k r else .cons x k F
  else .cons x k F
def normF : Fo → Fo
  | .nil => .nil
  | .cons x k r => pre x (normF k) (normF r)
def preL (x : Rw) (l : List Rw) : List Rw :=
  if x.f1 = 1 then
    if x.f3.size = 0 then l else
    match l with
    | [] => [x]
    | y :: t => if y.f1 = 1 ∧ y.f0 = x.f0 then { x with f3 := x.f3 ++ y.f3 } :: t else x :: l
  else x :: l
def normL : List Rw → List Rw
  | [] => []
  | x :: t => preL x (normL t)
theorem preL_ne {x : Rw} {l : List Rw} (h : ∀ y, l.head? = some y → y.f0 ≠ x.f0) : preL x l = if x.f1 = 1 ∧ x.f3.size = 0 then l else x :: l := by
  unfold preL
  by_cases h1 : x.f1 = 1
  · rw [if_pos h1]
    by_cases h2 : x.f3.size = 0
    · rw [if_pos h2, if_pos ⟨h1, h2⟩]
    · rw [if_neg h2, if_neg (fun g => h2 g.2)]
      cases l with
      | nil => rfl
      | cons y t => simp only []; rw [if_neg (fun g => h y rfl g.2)]
  · rw [if_neg h1, if_neg (fun g => h1 g.1)]
theorem normL_head : ∀ {l : List Rw} {y : Rw}, (normL l).head? = some y → ∃ x ∈ l, x.f0 = y.f0
  | [], y, h => by cases h
  | x :: t, y, h => by
    have tail_ : (normL t).head? = some y → ∃ z ∈ x :: t, z.f0 = y.f0 := fun g => by
      obtain ⟨z, hz, e⟩ := normL_head g
      exact ⟨z, List.mem_cons_of_mem _ hz, e⟩
    rw [normL] at h
    unfold preL at h
    split at h
    · split at h
      · exact tail_ h
      · split at h
        · cases h; exact ⟨x, List.mem_cons_self .., rfl⟩
        · split at h
          · cases h; exact ⟨x, List.mem_cons_self .., rfl⟩
          · cases h; exact ⟨x, List.mem_cons_self .., rfl⟩
    · cases h; exact ⟨x, List.mem_cons_self .., rfl⟩
theorem normL_app {d : Int} : ∀ {a b : List Rw}, (∀ x ∈ a, d < x.f0) → (∀ y ∈ b, y.f0 ≤ d) ∨ (∀ y, (normL b).head? = some y → y.f0 ≤ d) → normL (a ++ b) = normL a ++ normL b
  | [], b, _, _ => rfl
  | x :: t, b, h, hb => by
    have hb2 : ∀ y, (normL b).head? = some y → y.f0 ≤ d := by
      rcases hb with g | g
      · intro y hy
        obtain ⟨z, hz, e⟩ := normL_head hy
        have := g z hz; omega
      · exact g
    have ih := normL_app (fun z hz => h z (List.mem_cons_of_mem _ hz)) (.inr hb2)
    have hx := h x (List.mem_cons_self ..)
    rw [List.cons_append, normL, normL, ih]
    cases ht : normL t with
    | nil =>
      rw [List.nil_append, preL_ne (fun y hy => by have := hb2 y hy; omega), preL_ne (fun y hy => by cases hy)]
      split <;> rfl
    | cons z u =>
      unfold preL
      split
      · split
        · rfl
        · simp only [List.cons_append]
          split
          · rfl
          · rfl
      · rfl
theorem flat_head_norm {F : Fo} {d : Int} : ∀ y, (flat d F).head? = some y → y.f0 = d := by
  intro y h
  cases F with
  | nil => cases h
  | cons x k r => rw [flat] at h; cases h; rfl
theorem normL_flat : ∀ (F : Fo) (d : Int), F.Leaf → normL (flat d F) = flat d (normF F)
  | .nil, d, _ => rfl
  | .cons x k r, d, h => by
    have hk := normL_flat k (d + 1) h.2.1
    have hr := normL_flat r d h.2.2
    have hap : normL (flat (d + 1) k ++ flat d r) = flat (d + 1) (normF k) ++ flat d (normF r) := by
      rw [normL_app (d := d) (fun y hy => by have := flat_ge k (d + 1) y hy; omega) (.inr (fun y hy => by rw [hr] at hy; rw [flat_head_norm y hy]; exact Int.le_refl _)), hk, hr]
    rw [flat, normL, hap, normF]
    by_cases hx : x.f1 = 1
    · have hkn : k = .nil := h.1 (by rw [hx]; decide)
      subst hkn
      simp only [normF, flat, List.nil_append]
      unfold preL pre
      rw [if_pos (show ({ x with f0 := d } : Rw).f1 = 1 from hx), if_pos hx]
      by_cases h3 : x.f3.size = 0
      · rw [if_pos h3, if_pos (show ({ x with f0 := d } : Rw).f3.size = 0 from h3)]
      · rw [if_neg h3, if_neg (show ¬ ({ x with f0 := d } : Rw).f3.size = 0 from h3)]
        cases hn : normF r with
        | nil => rfl
        | cons y ky s =>
          simp only [flat]
          by_cases hy : y.f1 = 1
          · rw [if_pos ⟨hy, trivial⟩, if_pos hy]
            have hky : ky = .nil := by
              have := leaf_norm r h.2.2
              rw [hn] at this
              exact this.1 (by rw [hy]; decide)
            subst hky
            rfl
          · rw [if_neg (fun g => hy g.1), if_neg hy]
            rfl
    · unfold preL pre
      rw [if_neg (show ¬ ({ x with f0 := d } : Rw).f1 = 1 from hx), if_neg hx]
      rfl
where leaf_norm : ∀ F : Fo, F.Leaf → (normF F).Leaf
  | .nil, _ => trivial
  | .cons x k r, h => by
    have hk := leaf_norm k h.2.1
    have hr := leaf_norm r h.2.2
    have h0 : x.f1 ≠ 0 → normF k = .nil := fun g => by rw [h.1 g]; rfl
    rw [normF]
    unfold pre
    split
    · split
      · exact hr
      · split
        · exact ⟨h0, hk, trivial⟩
        · rename_i hn
          rw [hn] at hr
          split
          · exact ⟨h0, hk, hr.2.2⟩
          · exact ⟨h0, hk, by rw [hn]; exact hr⟩
    · exact ⟨h0, hk, hr⟩

def foldpre : Fo → Fo → Fo
  | .nil, G => G
  | .cons x k r, G => pre x (normF k) (foldpre r G)
def TextStays (what : Rw → Int) (upd : Rw → Rw) : Prop := ∀ x : Rw, x.f1 = 1 → what x ≠ 1 ∧ what x ≠ 2 ∧ upd x = x
theorem norm_leaf (F : Fo) (h : F.Leaf) : (normF F).Leaf := normL_flat.leaf_norm F h
theorem pre_size (x : Rw) (k F : Fo) : (pre x k F).size ≤ 1 + k.size + F.size := by
  unfold pre
  split
  · split
    · omega
    · split
      · simp only [Fo.size]; omega
      · split <;> simp only [Fo.size] <;> omega
  · simp only [Fo.size]; omega
theorem norm_size : ∀ F : Fo, (normF F).size ≤ F.size
  | .nil => Nat.le_refl _
  | .cons x k r => by
    have h1 := norm_size k
    have h2 := norm_size r
    have h3 := pre_size x (normF k) (normF r)
    rw [normF, Fo.size]; omega
theorem pre_height (x : Rw) (k F : Fo) : (pre x k F).height ≤ max (1 + k.height) F.height := by
  unfold pre
  split
  · split
    · omega
    · split
      · simp only [Fo.height]; omega
      · split <;> simp only [Fo.height] <;> omega
  · simp only [Fo.height]; omega
theorem norm_height : ∀ F : Fo, (normF F).height ≤ F.height
  | .nil => Nat.le_refl _
  | .cons x k r => by
    have h1 := norm_height k
    have h2 := norm_height r
    have h3 := pre_height x (normF k) (normF r)
    rw [normF, Fo.height]; omega
theorem pre_all {P : Rw → Prop} (hP : ∀ x b, P x → x.f1 = 1 → P { x with f3 := b }) {x : Rw} {k F : Fo} (hx : P x) (hk : k.All P) (hF : F.All P) : (pre x k F).All P := by
  unfold pre
  split
  · split
    · exact hF
    · split
      · exact ⟨hx, hk, trivial⟩
      · split
        · exact ⟨hP _ _ hx (by assumption), hk, hF.2.2⟩
        · exact ⟨hx, hk, hF⟩
  · exact ⟨hx, hk, hF⟩
theorem norm_all {P : Rw → Prop} (hP : ∀ x b, P x → x.f1 = 1 → P { x with f3 := b }) : ∀ {F : Fo}, F.All P → (normF F).All P
  | .nil, _ => trivial
  | .cons x k r, h => pre_all hP h.1 (norm_all hP h.2.1) (norm_all hP h.2.2)

def tx (x : Rw) : List UInt8 := if x.f1 = 1 then x.f3.data.toList else []
def textF : Fo → List UInt8
  | .nil => []
  | .cons x k r => tx x ++ (textF k ++ textF r)
def textL : List Rw → List UInt8
  | [] => []
  | x :: t => tx x ++ textL t
def wt (x : Rw) : Nat := if x.f1 = 1 then 0 else 1 + x.f4.length
def wF : Fo → Nat
  | .nil => 0
  | .cons x k r => wt x + wF k + wF r
def wL : List Rw → Nat
  | [] => 0
  | x :: t => wt x + wL t
end Go.Proofs.YticacakoefojbaaGreat.Fo
namespace Go.Proofs.YticacakoefojbaaGreat.Pr
open Go.RowKit Go.Proofs.YticacakoefojbaaGreatW.PrintWords Go.Proofs.YticacakoefojbaaGreatW.PrintLast Go.Proofs.YticacakoefojbaaGreatW.PrintMore
attribute [local go_sem] max2_int min2_int max_two min_two max_three min_three max_four min_four   -- for this text's walks alone
set_option linter.unusedVariables false
set_option linter.unusedSimpArgs false

def boltingref04_Normal.l0 : Nat → List (S38) → List (S38) → Int → Option ((List (S38)))
 | 0, _, _, _ => none
 | k + 1, x0, x3, x4 => if x4 < (x0.length : Int) then (if 0 ≤ x4 then (if x4 ≤ (wrap64 (x4 + 1)) then (if (wrap64 (x4 + 1)) ≤ (x0.length : Int) then ((boltingref04_Moved.f k ((x0.take ((wrap64 (x4 + 1)) : Int).toNat).drop (x4 : Int).toNat) 0).bind fun t340 => (if ((rd_T38 x0 x4).f1) = 1 then (if ((rd_T38 x0 x4).f3).toList = ([] : List UInt8) then (boltingref04_Normal.l0 k x0 x3 (wrap64 (x4 + 1))) else (if (x3.length : Int) > 0 then (if 0 ≤ (wrap64 ((x3.length : Int) - 1)) then (if (wrap64 ((x3.length : Int) - 1)) < (x3.length : Int) then (if ((rd_T38 x3 (wrap64 ((x3.length : Int) - 1))).f1) = 1 then (if ((rd_T38 x3 (wrap64 ((x3.length : Int) - 1))).f0) = ((rd_T38 x0 x4).f0) then (if ((rd_T38 x3 (wrap64 ((x3.length : Int) - 1))).f3).size + ((rd_T38 x0 x4).f3).size ≤ 9223372036854775807 then (boltingref04_Normal.l0 k x0 (x3.set ((wrap64 ((x3.length : Int) - 1)) : Int).toNat (⟨(rd_T38 x3 (wrap64 ((x3.length : Int) - 1))).f0, (rd_T38 x3 (wrap64 ((x3.length : Int) - 1))).f1, (rd_T38 x3 (wrap64 ((x3.length : Int) - 1))).f2, ((rd_T38 x3 (wrap64 ((x3.length : Int) - 1))).f3) ++ ((rd_T38 x0 x4).f3), (rd_T38 x3 (wrap64 ((x3.length : Int) - 1))).f4⟩ : S38)) (wrap64 (x4 + 1))) else (none)) else (if x3.length + t340.length < 1954687338268 then (boltingref04_Normal.l0 k x0 (x3 ++ t340) (wrap64 (x4 + 1))) else (none))) else (if x3.length + t340.length < 1954687338268 then (boltingref04_Normal.l0 k x0 (x3 ++ t340) (wrap64 (x4 + 1))) else (none))) else (none)) else (none)) else (if x3.length + t340.length < 1954687338268 then (boltingref04_Normal.l0 k x0 (x3 ++ t340) (wrap64 (x4 + 1))) else (none)))) else (if x3.length + t340.length < 1954687338268 then (boltingref04_Normal.l0 k x0 (x3 ++ t340) (wrap64 (x4 + 1))) else (none)))) else (none)) else (none)) else (none)) else (some x3)
def boltingref04_Normal.f (k : Nat) (l0 : List (S38)) : Option ((List (S38))) := boltingref04_Normal.l0 k l0 (([] : List (S38))) 0
def boltingref04_Normal.T8 : Bool × List (List Nat × List Nat) := (true, [([], []), ([], []), ([0, 1], [0, 1]), ([2], [2]), ([3], [3]), ([4], [4]), ([5], [5]), ([6], [6]), ([7, 6], [6, 7]), ([6, 8], [6, 8]), ([9, 6], [9]), ([10], [10]), ([10], [10]), ([12, 10], [10, 12]), ([11, 13, 10], [10, 11, 13]), ([14, 10], [10, 14]), ([15, 10], [10, 15]), ([16, 10], [10, 16]), ([10, 17], [10, 17]), ([18, 10], [18]), ([19], [19]), ([19], [19]), ([21, 19], [19, 21]), ([20, 22, 19], [19, 20, 22]), ([23, 19], [19, 23]), ([24, 19], [19, 24]), ([19], [19]), ([19], [19]), ([26, 27, 19], [19, 26, 27]), ([28, 19], [19, 28]), ([29, 19], [19, 29]), ([25, 30, 19], [19, 25, 30]), ([19, 31], [19, 31])])
def boltingref04_Normal.B8 : List Nat := [0, 0, 3, 7, 15, 31, 63, 127, 255, 511, 1023, 2047, 2047, 6143, 16383, 32767, 65535, 131071, 262143, 524287, 1048575, 1048575, 3145727, 8388607, 16777215, 33554431, 1048575, 1048575, 202375167, 470810623, 1007681535, 2147483647, 4294967295]
def boltingref04_Normal.T10 : Bool × List (List Nat × List Nat) := (true, [([], []), ([0], [0]), ([], []), ([], []), ([2, 3], [2, 3]), ([4], [4]), ([5], [5]), ([1, 6], [1, 6]), ([0, 1, 2, 3, 4, 5, 6, 7], []), ([8, 7, 0, 1, 2, 3, 4, 5, 6, 7], [7, 8])])
def boltingref04_Normal.B10 : List Nat := [0, 1, 0, 0, 12, 28, 60, 127, 255, 511]
end Go.Proofs.YticacakoefojbaaGreat.Pr
namespace Go.Proofs.YticacakoefojbaaGreat.Pure
set_option linter.unusedVariables false
set_option linter.unusedSimpArgs false
open Go.RowKit Go.Proofs.YticacakoefojbaaGreat.Pr Go.Proofs.YticacakoefojbaaGreat.Fo Go.Proofs.YticacakoefojbaaGreatW.PrintWords Go.Proofs.YticacakoefojbaaGreatW.PrintLast Go.Proofs.YticacakoefojbaaGreatW.PrintMore

theorem rdR_at {l : List Rw} {i : Nat} {x : Rw} (h : l[i]? = some x) : rd_T38 l (i : Int) = x := by
  unfold rd_T38
  rw [Int.toNat_natCast, List.getD_eq_getElem?_getD, h]
  rfl
theorem rdA_at {l : List Atr} {i : Nat} {x : Atr} (h : l[i]? = some x) : rd_T45 l (i : Int) = x := by
  unfold rd_T45
  rw [Int.toNat_natCast, List.getD_eq_getElem?_getD, h]
  rfl
def Okx (x : Rw) : Prop := wrap64 x.f0 = x.f0 ∧ x.f4.length ≤ 50
theorem attr_f (l : List Atr) (h : l.length ≤ 50) : api_Attr.f l = some l := if_pos (by omega)
theorem moved_l0 (l : List Rw) (hl : l.length ≤ 200) (hx : ∀ x ∈ l, Okx x) : ∀ (d i : Nat) (acc : List Rw), i + d = l.length → acc.length ≤ i → ∀ k, d < k →
    rows_moved.l0 k 0 acc l (l.length : Int) (i : Int) = some (acc ++ l.drop i)
  | 0, i, acc, h, ha, k, hk => by
    obtain ⟨k, rfl⟩ : ∃ m, k = m + 1 := ⟨k - 1, by omega⟩
    simp only [rows_moved.l0]
    rw [if_neg (by omega), List.drop_of_length_le (by omega), List.append_nil]
  | d + 1, i, acc, h, ha, k, hk => by
    obtain ⟨k, rfl⟩ : ∃ m, k = m + 1 := ⟨k - 1, by omega⟩
    obtain ⟨x, h0⟩ := get_some (show i < l.length by omega)
    obtain ⟨h1, h2⟩ := hx x (List.mem_of_getElem? h0)
    simp only [rows_moved.l0]
    rw [if_pos (by omega), if_pos (by omega), if_pos (by omega), rdR_at h0, attr_f _ h2, Option.bind_some, if_pos (by omega), wrap_succ (by omega) (by omega), drop_at h0, Int.add_zero, h1]
    have := moved_l0 l hl hx d (i + 1) (acc ++ [x]) (by omega) (by simp; omega) k (by omega)
    rw [List.append_assoc] at this
    exact this
theorem moved_f (l : List Rw) (hl : l.length ≤ 200) (hx : ∀ x ∈ l, Okx x) {k : Nat} (hk : 300 < k) : rows_moved.f k l 0 = some l :=
  moved_l0 l hl hx l.length 0 [] (by omega) (by simp) k (by omega)
theorem rmoved_l0 (l : List Rw) (by_ : Int) (hl : l.length ≤ 200) (hx : ∀ x ∈ l, x.f4.length ≤ 50) : ∀ (d i : Nat) (acc : List Rw), i + d = l.length → acc.length ≤ i → ∀ k, d < k →
    boltingref04_Moved.l0 k l by_ acc (i : Int) = some (acc ++ (l.drop i).map fun x => { x with f0 := wrap64 (x.f0 + by_) })
  | 0, i, acc, h, ha, k, hk => by
    obtain ⟨k, rfl⟩ : ∃ m, k = m + 1 := ⟨k - 1, by omega⟩
    simp only [boltingref04_Moved.l0]
    rw [if_neg (by omega), List.drop_of_length_le (by omega), List.map_nil, List.append_nil]
  | d + 1, i, acc, h, ha, k, hk => by
    obtain ⟨k, rfl⟩ : ∃ m, k = m + 1 := ⟨k - 1, by omega⟩
    obtain ⟨x, h0⟩ := get_some (show i < l.length by omega)
    have h2 := hx x (List.mem_of_getElem? h0)
    simp only [boltingref04_Moved.l0]
    rw [if_pos (by omega), if_pos (by omega), rdR_at h0]
    simp only [Option.bind_some, List.length_nil, List.nil_append]
    rw [if_pos (by omega), if_pos (by omega), wrap_succ (by omega) (by omega), drop_at h0, List.map_cons]
    have := rmoved_l0 l by_ hl hx d (i + 1) (acc ++ [{ x with f0 := wrap64 (x.f0 + by_) }]) (by omega) (by simp; omega) k (by omega)
    rw [List.append_assoc] at this
    exact this
theorem rmoved_f (l : List Rw) (by_ : Int) (hl : l.length ≤ 200) (hx : ∀ x ∈ l, x.f4.length ≤ 50) {k : Nat} (hk : 300 < k) : boltingref04_Moved.f k l by_ = some (l.map fun x => { x with f0 := wrap64 (x.f0 + by_) }) :=
  rmoved_l0 l by_ hl hx l.length 0 [] (by omega) (by simp) k (by omega)
theorem rmoved_zero (l : List Rw) (hl : l.length ≤ 200) (hx : ∀ x ∈ l, Okx x) {k : Nat} (hk : 300 < k) : boltingref04_Moved.f k l 0 = some l := by
  rw [rmoved_f l 0 hl (fun x h => (hx x h).2) hk]
  have e : (l.map fun x => ({ x with f0 := wrap64 (x.f0 + 0) } : Rw)) = l := by
    conv => rhs; rw [← List.map_id l]
    refine List.map_congr_left (fun x h => ?_)
    rw [Int.add_zero, (hx x h).1]; rfl
  rw [e]

def tsz : List Rw → Nat
  | [] => 0
  | x :: t => x.f3.size + tsz t
theorem tsz_app : ∀ a b : List Rw, tsz (a ++ b) = tsz a + tsz b
  | [], b => by simp [tsz]
  | x :: t, b => by rw [List.cons_append, tsz, tsz, tsz_app t]; omega
def jz (z : Rw) : List Rw → List Rw
  | [] => [z]
  | y :: t => if z.f1 = 1 ∧ y.f1 = 1 ∧ z.f0 = y.f0 then { z with f3 := z.f3 ++ y.f3 } :: t else z :: y :: t
theorem jz_cons (z y : Rw) (t : List Rw) : jz z (y :: t) = if z.f1 = 1 ∧ y.f1 = 1 ∧ z.f0 = y.f0 then { z with f3 := z.f3 ++ y.f3 } :: t else z :: y :: t := rfl
def joinL (out L : List Rw) : List Rw := match out.getLast? with
  | none => L
  | some z => out.dropLast ++ jz z L
theorem joinL_snoc (o : List Rw) (z : Rw) (L : List Rw) : joinL (o ++ [z]) L = o ++ jz z L := by unfold joinL; rw [List.getLast?_concat, List.dropLast_concat]
theorem joinL_end (out : List Rw) : joinL out [] = out := by
  rcases List.eq_nil_or_concat out with rfl | ⟨o, z, rfl⟩
  · rfl
  · rw [List.concat_eq_append, joinL_snoc]; rfl
def nstep (out : List Rw) (x : Rw) : List Rw :=
  if x.f1 = 1 ∧ x.f3.size = 0 then out else match out.getLast? with
    | none => [x]
    | some z => if z.f1 = 1 ∧ x.f1 = 1 ∧ z.f0 = x.f0 then out.dropLast ++ [{ z with f3 := z.f3 ++ x.f3 }] else out ++ [x]
theorem preL_jz (x : Rw) (L : List Rw) : preL x L = if x.f1 = 1 ∧ x.f3.size = 0 then L else jz x L := by
  unfold preL jz
  by_cases h1 : x.f1 = 1
  · rw [if_pos h1]
    by_cases h2 : x.f3.size = 0
    · rw [if_pos h2, if_pos ⟨h1, h2⟩]
    · rw [if_neg h2, if_neg (fun g => h2 g.2)]
      cases L with
      | nil => rfl
      | cons y t =>
        simp only []
        by_cases c : y.f1 = 1 ∧ y.f0 = x.f0
        · rw [if_pos c, if_pos ⟨h1, c.1, c.2.symm⟩]
        · rw [if_neg c, if_neg (fun g => c ⟨g.2.1, g.2.2.symm⟩)]
  · rw [if_neg h1, if_neg (fun g => h1 g.1)]
    cases L with
    | nil => rfl
    | cons y t => simp only []; rw [if_neg (fun g => h1 g.1)]
theorem jz_not {z x : Rw} (h : ¬ (z.f1 = 1 ∧ x.f1 = 1 ∧ z.f0 = x.f0)) (L : List Rw) : jz z (jz x L) = z :: jz x L := by
  cases L with
  | nil => show jz z [x] = _; rw [jz_cons, if_neg h]; rfl
  | cons y t =>
    rw [jz_cons x]
    by_cases c : x.f1 = 1 ∧ y.f1 = 1 ∧ x.f0 = y.f0
    · rw [if_pos c, jz_cons, if_neg h]
    · rw [if_neg c, jz_cons, if_neg h]
theorem jz_yes {z x : Rw} (h : z.f1 = 1 ∧ x.f1 = 1 ∧ z.f0 = x.f0) (L : List Rw) : jz z (jz x L) = jz { z with f3 := z.f3 ++ x.f3 } L := by
  cases L with
  | nil => show jz z [x] = [_]; rw [jz_cons, if_pos h]
  | cons y t =>
    rw [jz_cons x, jz_cons { z with f3 := z.f3 ++ x.f3 }]
    by_cases c : x.f1 = 1 ∧ y.f1 = 1 ∧ x.f0 = y.f0
    · rw [if_pos c, jz_cons, if_pos h, if_pos (show z.f1 = 1 ∧ y.f1 = 1 ∧ z.f0 = y.f0 from ⟨h.1, c.2.1, h.2.2.trans c.2.2⟩)]
      simp only [ByteArray.append_assoc]
    · rw [if_neg c, jz_cons, if_pos h, if_neg (show ¬ (z.f1 = 1 ∧ y.f1 = 1 ∧ z.f0 = y.f0) from fun g => c ⟨h.2.1, g.2.1, h.2.2.symm.trans g.2.2⟩)]
theorem nstep_join (out : List Rw) (x : Rw) (L : List Rw) : joinL (nstep out x) L = joinL out (preL x L) := by
  rw [preL_jz]
  unfold nstep
  by_cases h : x.f1 = 1 ∧ x.f3.size = 0
  · rw [if_pos h, if_pos h]
  · rw [if_neg h, if_neg h]
    rcases List.eq_nil_or_concat out with rfl | ⟨o, z, rfl⟩
    · show joinL ([] ++ [x]) L = jz x L
      rw [joinL_snoc]; rfl
    · rw [List.concat_eq_append, List.getLast?_concat, List.dropLast_concat, joinL_snoc]
      simp only []
      by_cases c : z.f1 = 1 ∧ x.f1 = 1 ∧ z.f0 = x.f0
      · rw [if_pos c, joinL_snoc, jz_yes c]
      · rw [if_neg c, joinL_snoc, jz_not c, List.append_assoc]; rfl
theorem fold_join : ∀ (l out : List Rw), l.foldl nstep out = joinL out (normL l)
  | [], out => (joinL_end out).symm
  | x :: t, out => by rw [List.foldl_cons, fold_join t, nstep_join, normL]
theorem fold_norm' (l : List Rw) : l.foldl nstep [] = normL l := fold_join l []
theorem nstep_tsz (out : List Rw) (x : Rw) : tsz (nstep out x) ≤ tsz out + x.f3.size := by
  unfold nstep
  split
  · omega
  · rcases List.eq_nil_or_concat out with rfl | ⟨o, z, rfl⟩
    · show tsz [x] ≤ _; simp [tsz]
    · rw [List.concat_eq_append, List.getLast?_concat, List.dropLast_concat]
      simp only []
      split
      · rw [tsz_app, tsz_app]
        show tsz o + ((z.f3 ++ x.f3).size + 0) ≤ tsz o + (z.f3.size + 0) + _
        rw [ByteArray.size_append]; omega
      · rw [tsz_app, tsz_app]
        show tsz o + (z.f3.size + 0) + (x.f3.size + 0) ≤ _
        simp [tsz]
theorem nstep_len (out : List Rw) (x : Rw) : (nstep out x).length ≤ out.length + 1 := by
  unfold nstep
  split
  · omega
  · rcases List.eq_nil_or_concat out with rfl | ⟨o, z, rfl⟩
    · simp
    · rw [List.concat_eq_append, List.getLast?_concat, List.dropLast_concat]
      simp only []
      split <;> simp
theorem nstep_empty {out : List Rw} {x : Rw} (h : x.f1 = 1 ∧ x.f3.size = 0) : nstep out x = out := by unfold nstep; rw [if_pos h]
theorem nstep_nil {x : Rw} (h : ¬ (x.f1 = 1 ∧ x.f3.size = 0)) : nstep [] x = [x] := by unfold nstep; rw [if_neg h]; rfl
theorem nstep_snoc {o : List Rw} {z x : Rw} (h : ¬ (x.f1 = 1 ∧ x.f3.size = 0)) : nstep (o ++ [z]) x = if z.f1 = 1 ∧ x.f1 = 1 ∧ z.f0 = x.f0 then o ++ [{ z with f3 := z.f3 ++ x.f3 }] else o ++ [z] ++ [x] := by
  unfold nstep
  rw [if_neg h, List.getLast?_concat, List.dropLast_concat]
theorem nstep_code {α : Type} (out : List Rw) (x : Rw) (L : List Rw → Option α) (hs : tsz out + x.f3.size ≤ 9223372036854775807) (hl : out.length < 1954687338268) (A : List Rw → Option α) (hA : A (out ++ [x]) = L (out ++ [x])) :
    (if x.f1 = 1 then (if x.f3.toList = ([] : List UInt8) then L out else (if (out.length : Int) > 0 then (if 0 ≤ (wrap64 ((out.length : Int) - 1)) then (if (wrap64 ((out.length : Int) - 1)) < (out.length : Int) then (if ((rd_T38 out (wrap64 ((out.length : Int) - 1))).f1) = 1 then (if ((rd_T38 out (wrap64 ((out.length : Int) - 1))).f0) = x.f0 then (if ((rd_T38 out (wrap64 ((out.length : Int) - 1))).f3).size + x.f3.size ≤ 9223372036854775807 then (L (out.set ((wrap64 ((out.length : Int) - 1)) : Int).toNat (⟨(rd_T38 out (wrap64 ((out.length : Int) - 1))).f0, (rd_T38 out (wrap64 ((out.length : Int) - 1))).f1, (rd_T38 out (wrap64 ((out.length : Int) - 1))).f2, ((rd_T38 out (wrap64 ((out.length : Int) - 1))).f3) ++ x.f3, (rd_T38 out (wrap64 ((out.length : Int) - 1))).f4⟩ : Rw))) else (none)) else A (out ++ [x])) else A (out ++ [x])) else (none)) else (none)) else A (out ++ [x]))) else A (out ++ [x])) = L (nstep out x) := by
  by_cases h1 : x.f1 = 1
  · rw [if_pos h1]
    by_cases h2 : x.f3.size = 0
    · have e : x.f3.toList = [] := by
        rw [Lib.toList_data]
        have e : x.f3.data = #[] := Array.size_eq_zero_iff.1 h2
        rw [e]
      rw [if_pos e, nstep_empty ⟨h1, h2⟩]
    · have e : ¬ x.f3.toList = [] := fun e => h2 (by
        rw [Lib.toList_data] at e
        have := congrArg List.length e
        simpa using this)
      have hn : ¬ (x.f1 = 1 ∧ x.f3.size = 0) := fun g => h2 g.2
      rw [if_neg e]
      rcases List.eq_nil_or_concat out with rfl | ⟨o, z, rfl⟩
      · rw [if_neg (by simp), hA, nstep_nil hn]; rfl
      · rw [List.concat_eq_append] at *
        have hlen : ((o ++ [z]).length : Int) = (o.length : Int) + 1 := by simp
        have hol : o.length < 1954687338268 := by simp at hl; omega
        have hw : wrap64 (((o ++ [z]).length : Int) - 1) = (o.length : Int) := by
          rw [hlen, show (o.length : Int) + 1 - 1 = o.length by omega, wrap_id (by omega) (by omega)]
        have hz : (o ++ [z])[o.length]? = some z := by simp
        have ht : z.f3.size ≤ tsz (o ++ [z]) := by rw [tsz_app]; show _ ≤ tsz o + (z.f3.size + 0); omega
        rw [if_pos (by omega), hw, rdR_at hz, if_pos (by omega), if_pos (by omega), nstep_snoc hn]
        by_cases h3 : z.f1 = 1
        · rw [if_pos h3]
          by_cases h4 : z.f0 = x.f0
          · rw [if_pos h4, if_pos (by omega), if_pos ⟨h3, h1, h4⟩, Int.toNat_natCast, List.set_append_right _ _ (Nat.le_refl _)]
            simp
          · rw [if_neg h4, if_neg (fun g => h4 g.2.2), hA]
        · rw [if_neg h3, if_neg (fun g => h3 g.1), hA]
  · have hn : ¬ (x.f1 = 1 ∧ x.f3.size = 0) := fun g => h1 g.1
    rw [if_neg h1, hA]
    rcases List.eq_nil_or_concat out with rfl | ⟨o, z, rfl⟩
    · rw [nstep_nil hn]; rfl
    · rw [List.concat_eq_append, nstep_snoc hn, if_neg (fun g => h1 g.2.1)]
theorem normal_l0 (l : List Rw) (hl : l.length ≤ 200) : ∀ (d i : Nat) (out : List Rw), i + d = l.length → out.length ≤ i → tsz out + tsz (l.drop i) ≤ 4000000000000000000 → ∀ k, d < k →
    rows_Normal.l0 k out l (l.length : Int) (i : Int) = some ((l.drop i).foldl nstep out)
  | 0, i, out, h, ho, ht, k, hk => by
    obtain ⟨k, rfl⟩ : ∃ m, k = m + 1 := ⟨k - 1, by omega⟩
    simp only [rows_Normal.l0]
    rw [if_neg (by omega), List.drop_of_length_le (by omega)]; rfl
  | d + 1, i, out, h, ho, ht, k, hk => by
    obtain ⟨k, rfl⟩ : ∃ m, k = m + 1 := ⟨k - 1, by omega⟩
    obtain ⟨x, h0⟩ := get_some (show i < l.length by omega)
    rw [drop_at h0, tsz] at ht
    have h1 := nstep_tsz out x
    have h2 := nstep_len out x
    have ih := normal_l0 l hl d (i + 1) (nstep out x) (by omega) (by omega) (by omega) k (by omega)
    simp only [rows_Normal.l0]
    rw [if_pos (by omega), if_pos (by omega), if_pos (by omega), rdR_at h0, wrap_succ (by omega) (by omega), drop_at h0, List.foldl_cons]
    rw [← ih]
    exact nstep_code out x (fun o => rows_Normal.l0 k o l (l.length : Int) ((i : Int) + 1)) (by omega) (by omega) (fun o => if out.length < 1954687338268 then rows_Normal.l0 k o l (l.length : Int) ((i : Int) + 1) else none) (if_pos (by omega))
theorem normal_f (l : List Rw) (hl : l.length ≤ 200) (hx : ∀ x ∈ l, Okx x) (ht : tsz l ≤ 4000000000000000000) {k : Nat} (hk : 300 < k) : rows_Normal.f k l = some (normL l) := by
  unfold rows_Normal.f
  rw [moved_f l hl hx hk, Option.bind_some]
  have := normal_l0 l hl l.length 0 [] (by omega) (by simp) (by simpa [tsz] using ht) k (by omega)
  rw [List.drop_zero, fold_norm'] at this
  exact this
end Go.Proofs.YticacakoefojbaaGreat.Pure
namespace Go.Proofs.YticacakoefojbaaGreat.Pure
set_option linter.unusedVariables false
set_option linter.unusedSimpArgs false
open Go.RowKit Go.Proofs.YticacakoefojbaaGreat.Pr Go.Proofs.YticacakoefojbaaGreat.Fo Go.Proofs.YticacakoefojbaaGreatW.PrintWords Go.Proofs.YticacakoefojbaaGreatW.PrintLast Go.Proofs.YticacakoefojbaaGreatW.PrintMore

def uniq : List Atr → List Atr → Bool
  | _, [] => true
  | seen, a :: t => seen.all (fun b => !decide (a.f0 = b.f0)) && uniq (seen ++ [a]) t
def empB (s : ByteArray) : Bool := decide (s.size = 0)
def rowB (x : Rw) : Bool := if x.f1 = 1 ∨ x.f1 = 2 then empB x.f2 && decide (x.f4.length = 0) else decide (x.f1 = 0) && !empB x.f2 && empB x.f3 && uniq [] x.f4
theorem emp_iff (s : ByteArray) : s.toList = ([] : List UInt8) ↔ s.size = 0 := by
  rw [Lib.toList_data]
  constructor
  · intro e
    have := congrArg List.length e
    simpa using this
  · intro e
    have e : s.data = #[] := Array.size_eq_zero_iff.1 e
    rw [e]
theorem emp_true {s : ByteArray} (h : s.size = 0) : empB s = true := decide_eq_true h
theorem emp_false {s : ByteArray} (h : ¬ s.size = 0) : empB s = false := decide_eq_false h
theorem emp_b (s : ByteArray) : (s.toList == ([] : List UInt8)) = empB s := by
  unfold empB
  rw [Bool.eq_iff_iff, beq_iff_eq, decide_eq_true_eq]
  exact emp_iff s
theorem emp_n (s : ByteArray) : (s.toList != ([] : List UInt8)) = !empB s := by rw [bne, emp_b]
theorem name_iff (a b : ByteArray) : a.toList = b.toList ↔ a = b := toList_iff a b
theorem rowB_text {x : Rw} (h : x.f1 = 1 ∨ x.f1 = 2) : rowB x = (empB x.f2 && decide (x.f4.length = 0)) := by unfold rowB; rw [if_pos h]
theorem rowB_el {x : Rw} (h : ¬ (x.f1 = 1 ∨ x.f1 = 2)) : rowB x = (decide (x.f1 = 0) && !empB x.f2 && empB x.f3 && uniq [] x.f4) := by unfold rowB; rw [if_neg h]
theorem row_l1 (L : List Atr) (hL : L.length ≤ 50) (i : Nat) (a : Atr) (hi : L[i]? = some a) (d0 d1 : Int) (d2 d3 : ByteArray) : ∀ (d j : Nat), j + d = i → ∀ m k, k = m + d + 1 →
    rows_row.l1 k L (L.length : Int) (i : Int) (L.take i) ((L.take i).length : Int) (j : Int) d0 d1 d2 d3 L a.f0 a.f1 = if ((L.take i).drop j).all (fun b => !decide (a.f0 = b.f0)) = true then rows_row.l0 m L (L.length : Int) ((i : Int) + 1) d0 d1 d2 d3 L else some false
  | 0, j, h, m, k, hk => by
    obtain rfl : k = m + 1 := hk
    have hil : i < L.length := (List.getElem?_eq_some_iff.1 hi).1
    have ht : (L.take i).length = i := by rw [List.length_take]; omega
    simp only [rows_row.l1]
    rw [if_neg (by omega), List.drop_of_length_le (by omega), wrap_succ (by omega) (by omega)]; rfl
  | d + 1, j, h, m, k, hk => by
    obtain ⟨k, rfl⟩ : ∃ q, k = q + 1 := ⟨k - 1, by omega⟩
    have hil : i < L.length := (List.getElem?_eq_some_iff.1 hi).1
    have ht : (L.take i).length = i := by rw [List.length_take]; omega
    obtain ⟨b, hb⟩ := get_some (l := L.take i) (show j < (L.take i).length by omega)
    simp only [rows_row.l1]
    rw [if_pos (by omega), if_pos (by omega), if_pos (by omega), rdA_at hb, drop_at hb, List.all_cons]
    by_cases e : a.f0 = b.f0
    · rw [if_pos (by rw [e]), decide_eq_true e]; rfl
    · rw [if_neg (fun g => e ((name_iff _ _).1 g)), decide_eq_false e, wrap_succ (by omega) (by omega)]
      exact row_l1 L hL i a hi d0 d1 d2 d3 d (j + 1) (by omega) m k (by omega)
theorem row_l0 (L : List Atr) (hL : L.length ≤ 50) (d0 d1 : Int) (d2 d3 : ByteArray) : ∀ (d i : Nat), i + d = L.length → ∀ k, d * 60 < k →
    rows_row.l0 k L (L.length : Int) (i : Int) d0 d1 d2 d3 L = some (uniq (L.take i) (L.drop i))
  | 0, i, h, k, hk => by
    obtain ⟨k, rfl⟩ : ∃ q, k = q + 1 := ⟨k - 1, by omega⟩
    simp only [rows_row.l0]
    rw [if_neg (by omega), List.drop_of_length_le (by omega)]; rfl
  | d + 1, i, h, k, hk => by
    obtain ⟨k, rfl⟩ : ∃ q, k = q + 1 := ⟨k - 1, by omega⟩
    obtain ⟨a, ha⟩ := get_some (l := L) (show i < L.length by omega)
    have hk2 : (d + 1) * 60 = d * 60 + 60 := Nat.succ_mul _ _
    simp only [rows_row.l0]
    rw [if_pos (by omega), if_pos (by omega), if_pos (by omega), if_pos (by omega)]
    simp only [Option.bind_some, Int.toNat_natCast, rdA_at ha]
    have := row_l1 L hL i a ha d0 d1 d2 d3 i 0 (by omega) (k - i - 1) k (by omega)
    rw [show ((0 : Nat) : Int) = 0 from rfl] at this
    rw [this, List.drop_zero, drop_at ha]
    show _ = some ((L.take i).all _ && uniq (L.take i ++ [a]) (L.drop (i + 1)))
    rw [← take_at ha]
    have ih := row_l0 L hL d0 d1 d2 d3 d (i + 1) (by omega) (k - i - 1) (by omega)
    rw [show ((i + 1 : Nat) : Int) = (i : Int) + 1 from rfl] at ih
    rw [ih]
    cases (L.take i).all (fun b => !decide (a.f0 = b.f0)) with
    | true => rw [if_pos rfl, Bool.true_and]
    | false => rw [if_neg (by simp), Bool.false_and]
theorem row_f (x : Rw) (hx : x.f4.length ≤ 50) {k : Nat} (hk : 4000 < k) : rows_row.f k x.f0 x.f1 x.f2 x.f3 x.f4 = some (rowB x) := by
  obtain ⟨k, rfl⟩ : ∃ q, k = q + 2 := ⟨k - 2, by omega⟩
  have hl0 := row_l0 x.f4 hx x.f0 x.f1 x.f2 x.f3 x.f4.length 0 (by omega) k (by omega)
  rw [show ((0 : Nat) : Int) = 0 from rfl, List.take_zero, List.drop_zero] at hl0
  have hlen : ((x.f4.length : Int) == 0) = decide (x.f4.length = 0) := by rw [Bool.eq_iff_iff, beq_iff_eq, decide_eq_true_eq]; omega
  have j1 : ∀ b, rows_row.j1 (k + 1) b x.f0 x.f1 x.f2 x.f3 x.f4 = some (!b && uniq [] x.f4) := fun b => by
    simp only [rows_row.j1]
    cases b with
    | true => rw [if_pos rfl]; rfl
    | false => rw [if_neg (by simp), hl0]; rfl
  unfold rows_row.f
  by_cases h1 : x.f1 = 1
  · rw [if_pos h1, rowB_text (.inl h1)]
    simp only [rows_row.j0]
    rw [if_pos trivial, hlen]
    by_cases h2 : x.f2.size = 0
    · rw [if_pos ((emp_iff _).2 h2), emp_true h2, Bool.true_and]
    · rw [if_neg (fun g => h2 ((emp_iff _).1 g)), emp_false h2, Bool.false_and]
  · rw [if_neg h1]
    by_cases h2 : x.f1 = 2
    · rw [rowB_text (.inr h2), show (x.f1 == 2) = true from beq_iff_eq.2 h2]
      simp only [rows_row.j0]
      rw [if_pos trivial, hlen]
      by_cases h3 : x.f2.size = 0
      · rw [if_pos ((emp_iff _).2 h3), emp_true h3, Bool.true_and]
      · rw [if_neg (fun g => h3 ((emp_iff _).1 g)), emp_false h3, Bool.false_and]
    · rw [rowB_el (fun g => g.elim h1 h2), show (x.f1 == 2) = false from beq_eq_false_iff_ne.2 h2]
      simp only [rows_row.j0]
      rw [if_neg (by simp), j1, j1, emp_n]
      by_cases h0 : x.f1 = 0
      · rw [if_pos h0, decide_eq_true h0]
        by_cases h3 : x.f2.size = 0
        · rw [if_pos ((emp_iff _).2 h3), emp_true h3]; rfl
        · rw [if_neg (fun g => h3 ((emp_iff _).1 g)), emp_false h3, Bool.not_not]; rfl
      · rw [if_neg h0, decide_eq_false h0]; rfl
theorem rrow_l1 (x : Rw) (hx : x.f4.length ≤ 50) (i : Nat) (a : Atr) (hi : x.f4[i]? = some a) : ∀ (d j : Nat), j + d = i → ∀ m k, k = m + d + 1 →
    boltingref04_Row.l1 k (i : Int) (j : Int) x.f0 x.f1 x.f2 x.f3 x.f4 = if ((x.f4.take i).drop j).all (fun b => !decide (a.f0 = b.f0)) = true then boltingref04_Row.l0 m ((i : Int) + 1) x.f0 x.f1 x.f2 x.f3 x.f4 else some false
  | 0, j, h, m, k, hk => by
    obtain rfl : k = m + 1 := hk
    have hil : i < x.f4.length := (List.getElem?_eq_some_iff.1 hi).1
    have ht : (x.f4.take i).length = i := by rw [List.length_take]; omega
    simp only [boltingref04_Row.l1]
    rw [if_neg (by omega), List.drop_of_length_le (by omega), wrap_succ (by omega) (by omega)]; rfl
  | d + 1, j, h, m, k, hk => by
    obtain ⟨k, rfl⟩ : ∃ q, k = q + 1 := ⟨k - 1, by omega⟩
    have hil : i < x.f4.length := (List.getElem?_eq_some_iff.1 hi).1
    obtain ⟨b, hb⟩ := get_some (l := x.f4) (show j < x.f4.length by omega)
    have hb2 : (x.f4.take i)[j]? = some b := by rw [List.getElem?_take, if_pos (by omega)]; exact hb
    simp only [boltingref04_Row.l1]
    rw [if_pos (by omega), if_pos (by omega), if_pos (by omega), if_pos (by omega), if_pos (by omega), rdA_at hb, rdA_at hi, drop_at hb2, List.all_cons]
    by_cases e : a.f0 = b.f0
    · rw [if_pos (by rw [e]), decide_eq_true e]; rfl
    · rw [if_neg (fun g => e ((name_iff _ _).1 g)), decide_eq_false e, wrap_succ (by omega) (by omega)]
      exact rrow_l1 x hx i a hi d (j + 1) (by omega) m k (by omega)
theorem rrow_l0 (x : Rw) (hx : x.f4.length ≤ 50) : ∀ (d i : Nat), i + d = x.f4.length → ∀ k, d * 60 < k →
    boltingref04_Row.l0 k (i : Int) x.f0 x.f1 x.f2 x.f3 x.f4 = some (uniq (x.f4.take i) (x.f4.drop i) && (decide (x.f1 = 0) && !empB x.f2 && empB x.f3))
  | 0, i, h, k, hk => by
    obtain ⟨k, rfl⟩ : ∃ q, k = q + 1 := ⟨k - 1, by omega⟩
    simp only [boltingref04_Row.l0]
    rw [if_neg (by omega), List.drop_of_length_le (by omega), emp_b]
    show _ = some (true && _)
    rw [Bool.true_and]
    by_cases h0 : x.f1 = 0
    · rw [if_pos h0, decide_eq_true h0]
      by_cases h3 : x.f2.size = 0
      · rw [if_pos ((emp_iff _).2 h3), emp_true h3]; rfl
      · rw [if_neg (fun g => h3 ((emp_iff _).1 g)), emp_false h3]; rfl
    · rw [if_neg h0, decide_eq_false h0]; rfl
  | d + 1, i, h, k, hk => by
    obtain ⟨k, rfl⟩ : ∃ q, k = q + 1 := ⟨k - 1, by omega⟩
    obtain ⟨a, ha⟩ := get_some (l := x.f4) (show i < x.f4.length by omega)
    have hk2 : (d + 1) * 60 = d * 60 + 60 := Nat.succ_mul _ _
    simp only [boltingref04_Row.l0]
    rw [if_pos (by omega)]
    have := rrow_l1 x hx i a ha i 0 (by omega) (k - i - 1) k (by omega)
    rw [show ((0 : Nat) : Int) = 0 from rfl] at this
    rw [this, List.drop_zero, drop_at ha]
    show _ = some (((x.f4.take i).all _ && uniq (x.f4.take i ++ [a]) (x.f4.drop (i + 1))) && _)
    rw [← take_at ha]
    have ih := rrow_l0 x hx d (i + 1) (by omega) (k - i - 1) (by omega)
    rw [show ((i + 1 : Nat) : Int) = (i : Int) + 1 from rfl] at ih
    rw [ih]
    cases (x.f4.take i).all (fun b => !decide (a.f0 = b.f0)) with
    | true => rw [if_pos rfl, Bool.true_and]
    | false => rw [if_neg (by simp), Bool.false_and, Bool.false_and]
theorem rrow_f (x : Rw) (hx : x.f4.length ≤ 50) {k : Nat} (hk : 4000 < k) : boltingref04_Row.f k x.f0 x.f1 x.f2 x.f3 x.f4 = some (rowB x) := by
  obtain ⟨k, rfl⟩ : ∃ q, k = q + 1 := ⟨k - 1, by omega⟩
  have hl0 := rrow_l0 x hx x.f4.length 0 (by omega) k (by omega)
  rw [show ((0 : Nat) : Int) = 0 from rfl, List.take_zero, List.drop_zero] at hl0
  have hlen : ((x.f4.length : Int) == 0) = decide (x.f4.length = 0) := by rw [Bool.eq_iff_iff, beq_iff_eq, decide_eq_true_eq]; omega
  unfold boltingref04_Row.f
  by_cases h1 : x.f1 = 1
  · rw [if_pos h1, rowB_text (.inl h1)]
    simp only [boltingref04_Row.j0]
    rw [if_pos trivial, hlen]
    by_cases h2 : x.f2.size = 0
    · rw [if_pos ((emp_iff _).2 h2), emp_true h2, Bool.true_and]
    · rw [if_neg (fun g => h2 ((emp_iff _).1 g)), emp_false h2, Bool.false_and]
  · rw [if_neg h1]
    by_cases h2 : x.f1 = 2
    · rw [rowB_text (.inr h2), show (x.f1 == 2) = true from beq_iff_eq.2 h2]
      simp only [boltingref04_Row.j0]
      rw [if_pos trivial, hlen]
      by_cases h3 : x.f2.size = 0
      · rw [if_pos ((emp_iff _).2 h3), emp_true h3, Bool.true_and]
      · rw [if_neg (fun g => h3 ((emp_iff _).1 g)), emp_false h3, Bool.false_and]
    · rw [rowB_el (fun g => g.elim h1 h2), show (x.f1 == 2) = false from beq_eq_false_iff_ne.2 h2]
      simp only [boltingref04_Row.j0]
      rw [if_neg (by simp), hl0, Bool.and_comm]
def rightB : Int → List Rw → Bool
  | _, [] => true
  | m, x :: t => decide (0 ≤ x.f0) && decide (x.f0 ≤ m) && rowB x && rightB (if x.f1 = 0 then x.f0 + 1 else x.f0) t
theorem right_iff : ∀ (l : List Rw) (m : Int), rightB m l = true ↔ RightL (fun x => rowB x = true) m l
  | [], m => ⟨fun _ => trivial, fun _ => rfl⟩
  | x :: t, m => by
    show (decide (0 ≤ x.f0) && decide (x.f0 ≤ m) && rowB x && rightB _ t) = true ↔ (0 ≤ x.f0 ∧ x.f0 ≤ m ∧ rowB x = true ∧ RightL _ _ t)
    rw [Bool.and_eq_true, Bool.and_eq_true, Bool.and_eq_true, decide_eq_true_eq, decide_eq_true_eq, right_iff t]
    constructor
    · rintro ⟨⟨⟨a, b⟩, c⟩, d⟩; exact ⟨a, b, c, d⟩
    · rintro ⟨a, b, c, d⟩; exact ⟨⟨⟨a, b⟩, c⟩, d⟩
theorem rights_l0 (l : List Rw) (hl : l.length ≤ 200) (hx : ∀ x ∈ l, x.f4.length ≤ 50) : ∀ (d i : Nat) (m : Int), i + d = l.length → m ≤ i → ∀ k, 2 * d + 4001 < k →
    rows_right.l0 k m l (l.length : Int) (i : Int) = some (rightB m (l.drop i))
  | 0, i, m, h, hm, k, hk => by
    obtain ⟨k, rfl⟩ : ∃ q, k = q + 1 := ⟨k - 1, by omega⟩
    simp only [rows_right.l0]
    rw [if_neg (by omega), List.drop_of_length_le (by omega)]; rfl
  | d + 1, i, m, h, hm, k, hk => by
    obtain ⟨k, rfl⟩ : ∃ q, k = q + 2 := ⟨k - 2, by omega⟩
    obtain ⟨x, h0⟩ := get_some (l := l) (show i < l.length by omega)
    simp only [rows_right.l0]
    rw [if_pos (by omega), if_pos (by omega), if_pos (by omega), rdR_at h0, row_f x (hx x (List.mem_of_getElem? h0)) (by omega), drop_at h0]
    simp only [rows_right.j1, Option.bind_some]
    show _ = some (decide (0 ≤ x.f0) && decide (x.f0 ≤ m) && rowB x && rightB (if x.f1 = 0 then x.f0 + 1 else x.f0) (l.drop (i + 1)))
    by_cases a : x.f0 < 0
    · rw [if_pos a, if_pos trivial, decide_eq_false (show ¬ 0 ≤ x.f0 by omega)]; rfl
    · rw [if_neg a, decide_eq_true (show 0 ≤ x.f0 by omega)]
      by_cases b : x.f0 > m
      · rw [if_pos b, if_pos trivial, decide_eq_false (show ¬ x.f0 ≤ m by omega)]; rfl
      · rw [if_neg b, decide_eq_true (show x.f0 ≤ m by omega)]
        cases hr : rowB x with
        | false => rw [if_pos (by simp)]; rfl
        | true =>
          rw [if_neg (by simp), wrap_succ (i := (i : Int)) (by omega) (by omega), wrap_succ (i := x.f0) (by omega) (by omega)]
          have e1 := rights_l0 l hl hx d (i + 1) (x.f0 + 1) (by omega) (by omega) k (by omega)
          have e2 := rights_l0 l hl hx d (i + 1) x.f0 (by omega) (by omega) k (by omega)
          rw [show ((i + 1 : Nat) : Int) = (i : Int) + 1 from rfl] at e1 e2
          rw [e1, e2]
          split <;> rfl
theorem rights_f (l : List Rw) (hl : l.length ≤ 200) (hx : ∀ x ∈ l, x.f4.length ≤ 50) {k : Nat} (hk : 5000 < k) : rows_right.f k l = some (rightB 0 l) := by
  have := rights_l0 l hl hx l.length 0 0 (by omega) (by omega) k (by omega)
  exact this
def mostAt (l : List Rw) (i : Nat) : Int := if i = 0 then 0 else match l[i - 1]? with
  | none => 0
  | some p => if p.f1 = 0 then p.f0 + 1 else p.f0
theorem rrights_l0 (l : List Rw) (hl : l.length ≤ 200) (hx : ∀ x ∈ l, x.f4.length ≤ 50) : ∀ (d i : Nat), i + d = l.length → (∀ p, 0 < i → l[i - 1]? = some p → 0 ≤ p.f0 ∧ p.f0 + 1 ≤ i) → ∀ k, 2 * d + 4001 < k →
    boltingref04_Right.l0 k l (i : Int) = some (rightB (mostAt l i) (l.drop i))
  | 0, i, h, hp, k, hk => by
    obtain ⟨k, rfl⟩ : ∃ q, k = q + 1 := ⟨k - 1, by omega⟩
    simp only [boltingref04_Right.l0]
    rw [if_neg (by omega), List.drop_of_length_le (by omega)]; rfl
  | d + 1, i, h, hp, k, hk => by
    obtain ⟨k, rfl⟩ : ∃ q, k = q + 2 := ⟨k - 2, by omega⟩
    obtain ⟨x, h0⟩ := get_some (l := l) (show i < l.length by omega)
    simp only [boltingref04_Right.l0]
    rw [if_pos (by omega), if_pos (by omega), rdR_at h0, rrow_f x (hx x (List.mem_of_getElem? h0)) (by omega), Option.bind_some, drop_at h0]
    simp only [boltingref04_Right.j1]
    rw [if_pos trivial]
    show _ = some (decide (0 ≤ x.f0) && decide (x.f0 ≤ mostAt l i) && rowB x && rightB (if x.f1 = 0 then x.f0 + 1 else x.f0) (l.drop (i + 1)))
    cases hr : rowB x with
    | false => rw [if_neg (by simp)]; simp
    | true =>
      rw [if_pos rfl, Bool.and_true, wrap_succ (i := (i : Int)) (by omega) (by omega)]
      by_cases a : x.f0 < 0
      · rw [if_pos a, decide_eq_false (show ¬ 0 ≤ x.f0 by omega)]; rfl
      · rw [if_neg a, decide_eq_true (show 0 ≤ x.f0 by omega), Bool.true_and]
        have hnext : x.f0 ≤ mostAt l i → boltingref04_Right.l0 k l ((i : Int) + 1) = some (rightB (if x.f1 = 0 then x.f0 + 1 else x.f0) (l.drop (i + 1))) := fun hle => by
          have hm : mostAt l i ≤ i := by
            unfold mostAt
            split
            · omega
            · rename_i hi0
              obtain ⟨p, hp0⟩ := get_some (l := l) (show i - 1 < l.length by omega)
              obtain ⟨q1, q2⟩ := hp p (by omega) hp0
              rw [hp0]
              simp only []
              split <;> omega
          have ih := rrights_l0 l hl hx d (i + 1) (by omega) (fun p _ hp1 => by
            rw [Nat.add_sub_cancel] at hp1
            rw [h0] at hp1
            obtain rfl := Option.some.inj hp1
            exact ⟨by omega, by omega⟩) k (by omega)
          rw [show ((i + 1 : Nat) : Int) = (i : Int) + 1 from rfl] at ih
          rw [ih]
          have : mostAt l (i + 1) = if x.f1 = 0 then x.f0 + 1 else x.f0 := by
            unfold mostAt
            rw [if_neg (by omega), Nat.add_sub_cancel, h0]
          rw [this]
        by_cases h00 : i = 0
        · subst h00
          have hm0 : mostAt l 0 = 0 := rfl
          rw [if_pos (by rfl), hm0]
          by_cases c : x.f0 = 0
          · rw [if_neg (by rw [c]; simp), if_neg (by omega), decide_eq_true (by omega), Bool.true_and]
            exact hnext (by rw [hm0]; omega)
          · rw [if_pos (by simpa using c), decide_eq_false (by omega)]; rfl
        · rw [if_neg (by omega), if_neg (by simp), if_pos (by omega)]
          obtain ⟨p, hp0⟩ := get_some (l := l) (show i - 1 < l.length by omega)
          obtain ⟨q1, q2⟩ := hp p (by omega) hp0
          have e1 : wrap64 ((i : Int) - 1) = ((i - 1 : Nat) : Int) := by rw [wrap_id (by omega) (by omega)]; omega
          have hm : mostAt l i = if p.f1 = 0 then p.f0 + 1 else p.f0 := by
            unfold mostAt
            rw [if_neg h00, hp0]
          rw [e1, if_pos (by omega), if_pos (by omega), rdR_at hp0, wrap_succ (i := p.f0) (by omega) (by omega), hm]
          by_cases c : x.f0 > p.f0 + 1
          · rw [if_pos c, decide_eq_false (by split <;> omega)]; rfl
          · rw [if_neg c]
            by_cases c2 : x.f0 = p.f0 + 1
            · rw [if_pos c2]
              by_cases c3 : p.f1 = 0
              · rw [if_pos c3, if_pos c3, decide_eq_true (by omega), Bool.true_and]
                exact hnext (by rw [hm, if_pos c3]; omega)
              · rw [if_neg c3, if_neg c3, decide_eq_false (by omega)]; rfl
            · rw [if_neg c2, decide_eq_true (by split <;> omega), Bool.true_and]
              exact hnext (by rw [hm]; split <;> omega)
theorem rright_f (l : List Rw) (hl : l.length ≤ 200) (hx : ∀ x ∈ l, x.f4.length ≤ 50) {k : Nat} (hk : 5000 < k) : boltingref04_Right.f k l = some (rightB 0 l) := by
  have := rrights_l0 l hl hx l.length 0 (by omega) (fun p h => by omega) k (by omega)
  exact this
theorem rbig_l0 (l : List Rw) (hl : l.length ≤ 200) : ∀ (d i : Nat), i + d = l.length → ∀ k, d < k → boltingref04_Big.l0 k l (i : Int) = some ((l.drop i).any deepB)
  | 0, i, h, k, hk => by
    obtain ⟨k, rfl⟩ : ∃ q, k = q + 1 := ⟨k - 1, by omega⟩
    simp only [boltingref04_Big.l0]
    rw [if_neg (by omega), List.drop_of_length_le (by omega), decide_eq_false (by omega)]; rfl
  | d + 1, i, h, k, hk => by
    obtain ⟨k, rfl⟩ : ∃ q, k = q + 1 := ⟨k - 1, by omega⟩
    obtain ⟨x, h0⟩ := get_some (l := l) (show i < l.length by omega)
    simp only [boltingref04_Big.l0]
    rw [if_pos (by omega), if_pos (by omega), rdR_at h0, drop_at h0, List.any_cons, wrap_succ (by omega) (by omega)]
    by_cases a : x.f0 ≥ 60
    · rw [if_pos a, show deepB x = true from decide_eq_true a]; rfl
    · rw [if_neg a, show deepB x = false from decide_eq_false a, Bool.false_or]
      exact rbig_l0 l hl d (i + 1) (by omega) k (by omega)
theorem rbig_f (l : List Rw) (hl : l.length ≤ 200) {k : Nat} (hk : 300 < k) : boltingref04_Big.f k l = some (l.any deepB) := by
  have := rbig_l0 l hl l.length 0 (by omega) k (by omega)
  exact this
theorem big_f (l : List Rw) (hl : l.length ≤ 200) : rows_big.f l = some (l.any deepB) := by
  unfold rows_big.f bigL
  rw [decide_eq_false (by omega), Bool.false_or]
def checkR (l : List Rw) : Int := if l.any deepB = true then 2 else if rightB 0 l = true then 0 else 40
theorem rows_check_f (l : List Rw) (hl : l.length ≤ 200) (hx : ∀ x ∈ l, x.f4.length ≤ 50) {k : Nat} (hk : 5000 < k) : rows_Check.f k l = some (checkR l) := by
  unfold rows_Check.f checkR
  rw [big_f l hl, Option.bind_some, rights_f l hl hx hk, Option.bind_some]
  split <;> (try split) <;> rfl
theorem rrows_check_f (l : List Rw) (hl : l.length ≤ 200) (hx : ∀ x ∈ l, x.f4.length ≤ 50) {k : Nat} (hk : 5000 < k) : boltingref04_Check.f k l = some (checkR l) := by
  unfold boltingref04_Check.f checkR
  rw [rbig_f l hl (by omega), Option.bind_some, rright_f l hl hx hk, Option.bind_some]
  split <;> (try split) <;> rfl

theorem end_l0 (l : List Rw) (hl : l.length ≤ 200) (i : Nat) (x : Rw) (hi : l[i]? = some x) : ∀ (d j : Nat), j + d = l.length → ∀ k, d < k →
    rows_End.l0 k l (i : Int) (j : Int) = some ((j + ((l.drop j).takeWhile fun y => decide (x.f0 < y.f0)).length : Nat) : Int)
  | 0, j, h, k, hk => by
    obtain ⟨k, rfl⟩ : ∃ q, k = q + 1 := ⟨k - 1, by omega⟩
    simp only [rows_End.l0]
    rw [if_neg (by omega), List.drop_of_length_le (by omega)]; simp
  | d + 1, j, h, k, hk => by
    obtain ⟨k, rfl⟩ : ∃ q, k = q + 1 := ⟨k - 1, by omega⟩
    have hil : i < l.length := (List.getElem?_eq_some_iff.1 hi).1
    obtain ⟨y, h0⟩ := get_some (l := l) (show j < l.length by omega)
    simp only [rows_End.l0]
    rw [if_pos (by omega), if_pos (by omega), if_pos (by omega), if_pos (by omega), rdR_at h0, rdR_at hi, drop_at h0, List.takeWhile_cons, wrap_succ (by omega) (by omega)]
    by_cases a : y.f0 > x.f0
    · rw [if_pos a, if_pos (decide_eq_true a)]
      have ih := end_l0 l hl i x hi d (j + 1) (by omega) k (by omega)
      rw [show ((j + 1 : Nat) : Int) = (j : Int) + 1 from rfl] at ih
      rw [ih, List.length_cons]
      congr 2; omega
    · rw [if_neg a, if_neg (by rw [decide_eq_true_eq]; omega)]; simp
theorem end_f (l : List Rw) (hl : l.length ≤ 200) (i : Nat) (x : Rw) (hi : l[i]? = some x) {k : Nat} (hk : 300 < k) : rows_End.f k l (i : Int) = some ((i + 1 + ((l.drop (i + 1)).takeWhile fun y => decide (x.f0 < y.f0)).length : Nat) : Int) := by
  have hil : i < l.length := (List.getElem?_eq_some_iff.1 hi).1
  unfold rows_End.f rows_is.f
  rw [if_pos (by omega), Option.bind_some, if_pos (by rw [decide_eq_true_eq]; omega), wrap_succ (by omega) (by omega)]
  exact end_l0 l hl i x hi (l.length - (i + 1)) (i + 1) (by omega) k (by omega)
end Go.Proofs.YticacakoefojbaaGreat.Pure
namespace Go.Proofs.YticacakoefojbaaGreat.Pure
set_option linter.unusedVariables false
set_option linter.unusedSimpArgs false
open Go.RowKit Go.Proofs.YticacakoefojbaaGreat.Pr Go.Proofs.YticacakoefojbaaGreat.Fo Go.Proofs.YticacakoefojbaaGreatW.PrintWords Go.Proofs.YticacakoefojbaaGreatW.PrintLast Go.Proofs.YticacakoefojbaaGreatW.PrintMore

def neverB (n : ByteArray) : Bool := (risk_Element.f n).getD false
theorem never_f (n : ByteArray) : risk_Element.f n = some (neverB n) := by
  unfold neverB
  cases h : risk_Element.f n with
  | some b => rfl
  | none =>
    unfold risk_Element.f at h
    repeat' split at h
    all_goals cases h
def riskB (e n v : ByteArray) : Bool := (risk_Attr.f e n v).getD false
theorem risk_f (e n v : ByteArray) (hv : v.size ≤ 140737488351232) : risk_Attr.f e n v = some (riskB e n v) := by
  unfold riskB
  cases h : risk_Attr.f e n v with
  | some b => rfl
  | none =>
    unfold risk_Attr.f risk_Sink.f risk_Nav.f link_Script.f link_Scheme.f at h
    rw [bnd_of _ hv] at h
    simp only [Option.bind_some] at h
    repeat' split at h
    all_goals cases h

def keepA (c : Cf) (s : Bool) (n : ByteArray) (l : List Atr) : List Atr := l.filter fun a => attrB c n a.f0 && !(s && riskB n a.f0 a.f1)
def VS (l : List Atr) : Prop := ∀ a ∈ l, a.f1.size ≤ 140737488351232
theorem conf_attr_f {c : Cf} (hf : Fit c) (e a : ByteArray) : config_Attr.f c.al c.aal c.els c.rep c.ats c.per c.com c.dt e a = some (attrB c e a) := by
  unfold config_Attr.f
  rw [if_pos (of_fit hf)]
theorem attrs_l0 {c : Cf} (hf : Fit c) (s : Bool) (L : List Atr) (hL : L.length ≤ 50) (hv : VS L) (d0 d1 : Int) (n d3 : ByteArray) (M : List Atr) : ∀ (d i : Nat) (acc : List Atr), i + d = L.length → acc.length ≤ i → ∀ k, d < k →
    clean_Attrs.l0 k s acc L (L.length : Int) (i : Int) d0 d1 n d3 M c.al c.aal c.els c.rep c.ats c.per c.com c.dt = some (acc ++ keepA c s n (L.drop i))
  | 0, i, acc, h, ha, k, hk => by
    obtain ⟨k, rfl⟩ : ∃ q, k = q + 1 := ⟨k - 1, by omega⟩
    simp only [clean_Attrs.l0]
    rw [if_neg (by omega), List.drop_of_length_le (by omega)]; simp [keepA]
  | d + 1, i, acc, h, ha, k, hk => by
    obtain ⟨k, rfl⟩ : ∃ q, k = q + 1 := ⟨k - 1, by omega⟩
    obtain ⟨a, h0⟩ := get_some (l := L) (show i < L.length by omega)
    have hva := hv a (List.mem_of_getElem? h0)
    have e1 := attrs_l0 hf s L hL hv d0 d1 n d3 M d (i + 1) acc (by omega) (by omega) k (by omega)
    have e2 := attrs_l0 hf s L hL hv d0 d1 n d3 M d (i + 1) (acc ++ [a]) (by omega) (by simp; omega) k (by omega)
    rw [show ((i + 1 : Nat) : Int) = (i : Int) + 1 from rfl] at e1 e2
    rw [List.append_assoc] at e2
    simp only [clean_Attrs.l0]
    rw [if_pos (by omega), if_pos (by omega), if_pos (by omega), rdA_at h0, conf_attr_f hf, Option.bind_some, risk_f _ _ _ hva, wrap_succ (by omega) (by omega), drop_at h0]
    have hk1 : keepA c s n (a :: L.drop (i + 1)) = if (attrB c n a.f0 && !(s && riskB n a.f0 a.f1)) = true then a :: keepA c s n (L.drop (i + 1)) else keepA c s n (L.drop (i + 1)) := by
      unfold keepA
      rw [List.filter_cons]
    rw [hk1]
    cases attrB c n a.f0 with
    | false => rw [if_neg (by simp), if_neg (by simp)]; exact e1
    | true =>
      rw [if_pos rfl]
      cases s with
      | false => rw [if_neg (by simp), if_pos (by omega), if_pos (by simp)]; exact e2
      | true =>
        rw [if_pos rfl, Option.bind_some]
        cases riskB n a.f0 a.f1 with
        | false => rw [if_neg (by simp), if_pos (by omega), if_pos (by simp)]; exact e2
        | true => rw [if_pos rfl, if_neg (by simp)]; exact e1
theorem attrs_f {c : Cf} (hf : Fit c) (s : Bool) (d0 d1 : Int) (n d3 : ByteArray) (L : List Atr) (hL : L.length ≤ 50) (hv : VS L) {k : Nat} (hk : 60 < k) :
    clean_Attrs.f k d0 d1 n d3 L c.al c.aal c.els c.rep c.ats c.per c.com c.dt s = some (keepA c s n L) := by
  have := attrs_l0 hf s L hL hv d0 d1 n d3 L L.length 0 [] (by omega) (by simp) k (by omega)
  rw [List.drop_zero, List.nil_append] at this
  exact this
def whatC (c : Cf) (s : Bool) (x : Rw) : Int := if x.f1 = 1 then 0 else if x.f1 = 2 then (if c.com = true then 0 else 1) else if (s && neverB x.f2) = true then 1 else elemI c x.f2
def updC (c : Cf) (s : Bool) (x : Rw) : Rw := if x.f1 = 0 then { x with f4 := keepA c s x.f2 x.f4 } else x
theorem elem_kk {c : Cf} (hf : Fit c) (n : ByteArray) {k : Nat} (hk : 2000 < k) : config_Element.f k c.al c.aal c.els c.rep c.ats c.per c.com c.dt n = some (elemI c n) := by
  unfold config_Element.f elemI
  rw [contains_f _ _ (by have := hf.rep; omega) (by have := hf.rep; omega), Option.bind_some, contains_f _ _ (by have := hf.els; omega) (by have := hf.els; omega), Option.bind_some]
  split <;> (try split) <;> rfl
theorem becomes_f {c : Cf} (hf : Fit c) (s : Bool) (x : Rw) {k : Nat} (hk : 2010 < k) : clean_becomes.f k x.f0 x.f1 x.f2 x.f3 x.f4 c.al c.aal c.els c.rep c.ats c.per c.com c.dt s = some (whatC c s x) := by
  obtain ⟨k, rfl⟩ : ∃ q, k = q + 1 := ⟨k - 1, by omega⟩
  unfold clean_becomes.f whatC
  simp only [clean_becomes.j0]
  rw [never_f, elem_kk hf _ (by omega)]
  simp only [Option.bind_some]
  by_cases h1 : x.f1 = 1
  · rw [if_pos h1, if_pos h1]
  · rw [if_neg h1, if_neg h1]
    by_cases h2 : x.f1 = 2
    · simp only [if_pos h2]
      cases c.com <;> rfl
    · simp only [if_neg h2]
      cases s with
      | false => rfl
      | true =>
        cases neverB x.f2 <;> rfl

theorem rowB_kind {x : Rw} (h : rowB x = true) : x.f1 = 0 ∨ x.f1 = 1 ∨ x.f1 = 2 := by
  by_cases g : x.f1 = 1 ∨ x.f1 = 2
  · exact .inr g
  · rw [rowB_el g] at h
    simp only [Bool.and_eq_true, decide_eq_true_eq] at h
    exact .inl h.1.1.1
theorem rowB_none {x : Rw} (h : rowB x = true) (g : x.f1 = 1 ∨ x.f1 = 2) : x.f4 = [] ∧ x.f2.size = 0 := by
  rw [rowB_text g] at h
  simp only [Bool.and_eq_true, decide_eq_true_eq] at h
  exact ⟨List.eq_nil_of_length_eq_zero h.2, by simpa [empB] using h.1⟩
theorem updC_any {c : Cf} {s : Bool} {x : Rw} (h : rowB x = true) : updC c s x = { x with f4 := keepA c s x.f2 x.f4 } := by
  unfold updC
  rcases rowB_kind h with g | g
  · rw [if_pos g]
  · rw [if_neg (by rcases g with g | g <;> rw [g] <;> decide)]
    have := (rowB_none h g).1
    rw [this]
    show x = { x with f4 := [] }
    rw [← this]
structure Fine (x : Rw) : Prop where
  ok : rowB x = true
  few : x.f4.length ≤ 50
  small : VS x.f4
def up (less : List Int) (d : Nat) : Int := if d = 0 then 0 else less.getD (d - 1) 0
theorem up_take (less : List Int) (d : Nat) : up (less.take d) d = up less d := by
  unfold up
  by_cases h : d = 0
  · rw [if_pos h, if_pos h]
  · rw [if_neg h, if_neg h, List.getD_eq_getElem?_getD, List.getElem?_take, if_pos (by omega), ← List.getD_eq_getElem?_getD]
theorem up_snoc (less : List Int) (d : Nat) (u : Int) (h : less.length = d) : up (less ++ [u]) (d + 1) = u := by
  unfold up
  rw [if_neg (by omega), List.getD_eq_getElem?_getD, show d + 1 - 1 = d by omega, ← h]
  simp
def Low (less : List Int) : Prop := ∀ (j : Nat) (u : Int), less[j]? = some u → 0 ≤ u ∧ u ≤ j + 1
theorem Low.up {less : List Int} (h : Low less) {d : Nat} (hd : d ≤ less.length) : 0 ≤ up less d ∧ up less d ≤ d := by
  unfold Pure.up
  split
  · omega
  · obtain ⟨u, hu⟩ := get_some (l := less) (show d - 1 < less.length by omega)
    rw [List.getD_eq_getElem?_getD, hu]
    have := h _ _ hu
    show 0 ≤ u ∧ u ≤ d
    omega
theorem Low.take {less : List Int} (h : Low less) (d : Nat) : Low (less.take d) := fun j u hj => by
  rw [List.getElem?_take] at hj
  split at hj
  · exact h j u hj
  · cases hj
theorem Low.snoc {less : List Int} (h : Low less) {u : Int} (h0 : 0 ≤ u) (h1 : u ≤ less.length + 1) : Low (less ++ [u]) := fun j v hj => by
  rw [List.getElem?_append] at hj
  split at hj
  · exact h j v hj
  · rename_i g
    have : j - less.length = 0 := by
      cases hq : j - less.length with
      | zero => rfl
      | succ q => rw [hq] at hj; cases hj
    rw [this] at hj
    obtain rfl : u = v := by simpa using hj
    omega
theorem drop_more {l a b : List Rw} {i : Nat} (h : l.drop i = a ++ b) : l.drop (i + a.length) = b := by
  rw [← List.drop_drop, h, List.drop_left]
theorem takeWhile_tree (d : Int) (K : Fo) (rest : List Rw) (h : ∀ y, rest.head? = some y → y.f0 ≤ d) : ((flat (d + 1) K ++ rest).takeWhile fun y => decide (d < y.f0)).length = K.size := by
  have h1 : ∀ y ∈ flat (d + 1) K, decide (d < y.f0) = true := fun y hy => by
    have := flat_ge K (d + 1) y hy
    exact decide_eq_true (by omega)
  rw [List.takeWhile_append_of_pos h1]
  have h2 : rest.takeWhile (fun y => decide (d < y.f0)) = [] := by
    cases rest with
    | nil => rfl
    | cons y t => rw [List.takeWhile_cons, if_neg (by have := h y rfl; rw [decide_eq_true_eq]; omega)]
  rw [h2, List.append_nil, flat_len]
theorem walk {c : Cf} (hf : Fit c) (s : Bool) (l : List Rw) (hl : l.length ≤ 200) : ∀ (F : Fo) (d : Nat) (out : List Rw) (less : List Int) (i : Nat) (rest : List Rw) (k : Nat),
    F.Leaf → F.All Fine → l.drop i = flat d F ++ rest → (∀ y, rest.head? = some y → y.f0 ≤ d) → d ≤ less.length → Low less → less.length ≤ 200 → d + F.height ≤ 200 → out.length ≤ i → i ≤ l.length → 6000 + 2 * F.size < k →
    ∃ k' less', k ≤ k' + 2 * F.size ∧ less'.take d = less.take d ∧ d ≤ less'.length ∧ Low less' ∧ less'.length ≤ 200 ∧
      clean_Rows.l0 k l s out less (i : Int) c.al c.aal c.els c.rep c.ats c.per c.com c.dt = clean_Rows.l0 k' l s (out ++ flat (d - up less d) (keepF (whatC c s) (updC c s) F)) less' ((i + F.size : Nat) : Int) c.al c.aal c.els c.rep c.ats c.per c.com c.dt := by
  intro F
  induction F with
  | nil =>
    intro d out less i rest k _ _ _ _ hd hlow hll _ _ _ _
    refine ⟨k, less, by omega, rfl, hd, hlow, hll, ?_⟩
    show _ = clean_Rows.l0 k l s (out ++ []) less ((i + 0 : Nat) : Int) _ _ _ _ _ _ _ _
    rw [List.append_nil, Nat.add_zero]
  | cons x K R ihK ihR =>
    intro d out less i rest k hleaf hall hdrop hrest hd hlow hll hh hout hi hk
    obtain ⟨hlx, hlK, hlR⟩ := hleaf
    obtain ⟨hfx, haK, haR⟩ := hall
    have hsz : (Fo.cons x K R).size = 1 + K.size + R.size := rfl
    have hht : (Fo.cons x K R).height = max (1 + K.height) R.height := rfl
    rw [hsz] at hk
    rw [hht] at hh
    have hdrop' : l.drop i = { x with f0 := (d : Int) } :: (flat ((d : Int) + 1) K ++ (flat d R ++ rest)) := by rw [hdrop, flat]; simp
    have h0 : l[i]? = some { x with f0 := (d : Int) } := by
      have := congrArg (fun m => m[0]?) hdrop'
      simp only [List.getElem?_drop, Nat.add_zero, List.getElem?_cons_zero] at this
      exact this
    have hil : i < l.length := (List.getElem?_eq_some_iff.1 h0).1
    have hd1 : l.drop (i + 1) = flat (((d + 1 : Nat)) : Int) K ++ (flat d R ++ rest) := by
      have := drop_more (l := l) (i := i) (a := [{ x with f0 := (d : Int) }]) hdrop'
      exact this
    have hlenK : (flat (((d + 1 : Nat)) : Int) K).length = K.size := flat_len _ _
    have hd2 : l.drop (i + 1 + K.size) = flat d R ++ rest := by
      have := drop_more hd1
      rw [hlenK] at this
      exact this
    have hi2 : i + 1 + K.size ≤ l.length := by
      have := congrArg List.length hd1
      rw [List.length_drop, List.length_append, hlenK] at this
      omega
    have hrest2 : ∀ y, (flat (d : Int) R ++ rest).head? = some y → y.f0 ≤ d := fun y hy => by
      cases R with
      | nil => exact hrest y hy
      | cons z kz rz => rw [flat, List.cons_append, List.head?_cons] at hy; cases hy; exact Int.le_refl _
    have hls : (less.take d).length = d := by rw [List.length_take]; omega
    obtain ⟨hu0, hu1⟩ := hlow.up hd
    obtain ⟨u, hu⟩ : ∃ u, up less d = u := ⟨_, rfl⟩
    rw [hu] at hu0 hu1 ⊢
    obtain ⟨k, rfl⟩ : ∃ q, k = q + 2 := ⟨k - 2, by omega⟩
    have hstep : clean_Rows.l0 (k + 2) l s out less (i : Int) c.al c.aal c.els c.rep c.ats c.per c.com c.dt = clean_Rows.j1 (k + 1) l s out (less.take d) (i : Int) u c.al c.aal c.els c.rep c.ats c.per c.com c.dt (d : Int) x.f1 x.f2 x.f3 x.f4 := by
      simp only [clean_Rows.l0]
      rw [if_pos (by omega), if_pos (by omega), rdR_at h0]
      simp only [Option.bind_some, Int.toNat_natCast]
      rw [if_pos (by omega), if_pos (by omega)]
      by_cases hz : d = 0
      · subst hz
        have : u = 0 := by rw [← hu]; rfl
        rw [if_neg (by omega), this]
      · have e1 : wrap64 ((d : Int) - 1) = ((d - 1 : Nat) : Int) := by rw [wrap_id (by omega) (by omega)]; omega
        have e2 : rd (less.take d) ((d - 1 : Nat) : Int) = u := by
          unfold rd
          rw [Int.toNat_natCast, ← hu, ← up_take less d]
          unfold up
          rw [if_neg hz]
        rw [if_pos (by omega), e1, if_pos (by omega), if_pos (by rw [hls]; omega), e2]
    have hbec : clean_becomes.f k (d : Int) x.f1 x.f2 x.f3 x.f4 c.al c.aal c.els c.rep c.ats c.per c.com c.dt s = some (whatC c s x) := becomes_f hf s { x with f0 := (d : Int) } (by omega)
    have hkeep : keepF (whatC c s) (updC c s) (.cons x K R) = if whatC c s x = 1 then keepF (whatC c s) (updC c s) R else if whatC c s x = 2 then (keepF (whatC c s) (updC c s) K).app (keepF (whatC c s) (updC c s) R) else .cons (updC c s x) (keepF (whatC c s) (updC c s) K) (keepF (whatC c s) (updC c s) R) := rfl
    rw [hstep, hkeep, hsz]
    simp only [clean_Rows.j1]
    rw [hbec, Option.bind_some]
    have hlenF : ∀ (G : Fo) (e : Int), (flat e (keepF (whatC c s) (updC c s) G)).length ≤ G.size := fun G e => by rw [flat_len]; exact keep_size _ _ G
    by_cases w1 : whatC c s x = 1
    · rw [if_pos w1, if_pos w1]
      have ht := takeWhile_tree (d : Int) K (flat d R ++ rest) hrest2
      have he : rows_End.f k l (i : Int) = some ((i + 1 + K.size : Nat) : Int) := by
        have h := end_f l hl i _ h0 (k := k) (by omega)
        rw [hd1] at h
        rw [← ht]
        exact h
      rw [he, Option.bind_some]
      obtain ⟨k', less', a1, a2, a3, a4, a5, a6⟩ := ihR d out (less.take d) (i + 1 + K.size) rest k hlR haR hd2 hrest (by omega) (hlow.take d) (by omega) (by omega) (by omega) hi2 (by omega)
      refine ⟨k', less', by omega, by rw [a2, List.take_take, Nat.min_self], a3, a4, a5, ?_⟩
      rw [a6, up_take, hu, show i + 1 + K.size + R.size = i + (1 + K.size + R.size) by omega]
    · rw [if_neg w1, if_neg w1]
      by_cases w2 : whatC c s x = 2
      · rw [if_pos w2, if_pos w2, if_pos (by omega), wrap_succ (i := u) (by omega) (by omega), wrap_succ (i := (i : Int)) (by omega) (by omega)]
        obtain ⟨k1, l1, a1, a2, a3, a4, a5, a6⟩ := ihK (d + 1) out (less.take d ++ [u + 1]) (i + 1) (flat d R ++ rest) k hlK haK hd1 (fun y hy => by have := hrest2 y hy; omega) (by rw [List.length_append, hls]; simp) ((hlow.take d).snoc (by omega) (by rw [hls]; omega)) (by rw [List.length_append, hls]; simp; omega) (by omega) (by omega) (by omega) (by omega)
        rw [up_snoc _ d _ hls] at a6
        have hout1 : (out ++ flat (((d + 1 : Nat) : Int) - (u + 1)) (keepF (whatC c s) (updC c s) K)).length ≤ i + 1 + K.size := by
          rw [List.length_append]
          have := hlenF K (((d + 1 : Nat) : Int) - (u + 1))
          omega
        have ht1 : l1.take d = less.take d := by
          have := congrArg (List.take d) a2
          rw [List.take_take, List.take_take, List.take_append_of_le_length (by rw [hls]; omega), List.take_take] at this
          simpa [Nat.min_eq_left (Nat.le_succ d)] using this
        obtain ⟨k2, l2, b1, b2, b3, b4, b5, b6⟩ := ihR d _ l1 (i + 1 + K.size) rest k1 hlR haR hd2 hrest (by omega) a4 a5 (by omega) hout1 hi2 (by omega)
        have hup1 : up l1 d = u := by rw [← up_take, ht1, up_take, hu]
        refine ⟨k2, l2, by omega, by rw [b2, ht1], b3, b4, b5, ?_⟩
        rw [show ((i : Int) + 1) = ((i + 1 : Nat) : Int) from rfl, a6, b6, hup1, flat_app, List.append_assoc, show ((d + 1 : Nat) : Int) - (u + 1) = (d : Int) - u by omega, show i + 1 + K.size + R.size = i + (1 + K.size + R.size) by omega]
      · rw [if_neg w2, if_neg w2, attrs_f hf s _ _ _ _ _ hfx.few hfx.small (by omega), Option.bind_some, if_pos (by omega), if_pos (by omega), wrap_id (i := (d : Int) - u) (by omega) (by omega), wrap_succ (i := (i : Int)) (by omega) (by omega)]
        obtain ⟨k1, l1, a1, a2, a3, a4, a5, a6⟩ := ihK (d + 1) (out ++ [⟨(d : Int) - u, x.f1, x.f2, x.f3, keepA c s x.f2 x.f4⟩]) (less.take d ++ [u]) (i + 1) (flat d R ++ rest) k hlK haK hd1 (fun y hy => by have := hrest2 y hy; omega) (by rw [List.length_append, hls]; simp) ((hlow.take d).snoc (by omega) (by rw [hls]; omega)) (by rw [List.length_append, hls]; simp; omega) (by omega) (by rw [List.length_append]; simp; omega) (by omega) (by omega)
        rw [up_snoc _ d _ hls] at a6
        have hout1 : (out ++ [(⟨(d : Int) - u, x.f1, x.f2, x.f3, keepA c s x.f2 x.f4⟩ : Rw)] ++ flat (((d + 1 : Nat) : Int) - u) (keepF (whatC c s) (updC c s) K)).length ≤ i + 1 + K.size := by
          rw [List.length_append, List.length_append]
          have := hlenF K (((d + 1 : Nat) : Int) - u)
          simp only [List.length_singleton]
          omega
        have ht1 : l1.take d = less.take d := by
          have := congrArg (List.take d) a2
          rw [List.take_take, List.take_take, List.take_append_of_le_length (by rw [hls]; omega), List.take_take] at this
          simpa [Nat.min_eq_left (Nat.le_succ d)] using this
        obtain ⟨k2, l2, b1, b2, b3, b4, b5, b6⟩ := ihR d _ l1 (i + 1 + K.size) rest k1 hlR haR hd2 hrest (by omega) a4 a5 (by omega) hout1 hi2 (by omega)
        have hup1 : up l1 d = u := by rw [← up_take, ht1, up_take, hu]
        refine ⟨k2, l2, by omega, by rw [b2, ht1], b3, b4, b5, ?_⟩
        rw [show ((i : Int) + 1) = ((i + 1 : Nat) : Int) from rfl, a6, b6, hup1, updC_any hfx.ok, flat, show i + 1 + K.size + R.size = i + (1 + K.size + R.size) by omega]
        congr 1
        simp only [List.append_assoc, List.cons_append, List.nil_append]
        rw [show ((d + 1 : Nat) : Int) - u = (d : Int) - u + 1 by omega]
end Go.Proofs.YticacakoefojbaaGreat.Pure
namespace Go.Proofs.YticacakoefojbaaGreat.Pr
open Go.RowKit Go.Proofs.YticacakoefojbaaGreatW.PrintWords Go.Proofs.YticacakoefojbaaGreatW.PrintLast Go.Proofs.YticacakoefojbaaGreatW.PrintMore
attribute [local go_sem] max2_int min2_int max_two min_two max_three min_three max_four min_four   -- for this text's walks alone
set_option linter.unusedVariables false
set_option linter.unusedSimpArgs false

mutual
def risk_Safe.l0 : Nat → List (S38) → Int → Int → Option (Bool)
 | 0, _, _, _ => none
 | k + 1, x7, x8, x9 => if x9 < x8 then (if 0 ≤ x9 then (if x9 < (x7.length : Int) then (if ((rd_T38 x7 x9).f1) = 0 then ((risk_Element.f ((rd_T38 x7 x9).f2)).bind fun t470 => (if t470 = true then (some false) else (risk_Safe.l1 k x7 x8 x9 ((rd_T38 x7 x9).f4) (((rd_T38 x7 x9).f4).length : Int) 0 ((rd_T38 x7 x9).f0) ((rd_T38 x7 x9).f1) ((rd_T38 x7 x9).f2) ((rd_T38 x7 x9).f3) ((rd_T38 x7 x9).f4)))) else (risk_Safe.l0 k x7 x8 (wrap64 (x9 + 1)))) else (none)) else (none)) else (some true)
def risk_Safe.l1 : Nat → List (S38) → Int → Int → List (S45) → Int → Int → Int → Int → ByteArray → ByteArray → List (S45) → Option (Bool)
 | 0, _, _, _, _, _, _, _, _, _, _, _ => none
 | k + 1, x7, x8, x9, x20, x21, x22, x470000, x470001, x470002, x470003, x470004 => if x22 < x21 then (if 0 ≤ x22 then (if x22 < (x20.length : Int) then ((risk_Attr.f x470002 ((rd_T45 x20 x22).f0) ((rd_T45 x20 x22).f1)).bind fun t473 => (if t473 = true then (some false) else (risk_Safe.l1 k x7 x8 x9 x20 x21 (wrap64 (x22 + 1)) x470000 x470001 x470002 x470003 x470004))) else (none)) else (none)) else (risk_Safe.l0 k x7 x8 (wrap64 (x9 + 1)))
end
def risk_Safe.f (k : Nat) (l0 : List (S38)) : Option (Bool) := risk_Safe.l0 k l0 (l0.length : Int) 0
mutual
def boltingref04_Text.j0 : Nat → List (S38) → Int → ByteArray → Int → Int → Option (ByteArray)
 | 0, _, _, _, _, _ => none
 | k + 1, x0, x1, x5, x6, x7 => boltingref04_Text.l0 k x0 x1 x5 x7 x6
def boltingref04_Text.l0 : Nat → List (S38) → Int → ByteArray → Int → Int → Option (ByteArray)
 | 0, _, _, _, _, _ => none
 | k + 1, x0, x1, x5, x7, x8 => if x8 < x7 then (boltingref04_Text.j2 k x0 x1 x5 x7 x8 (decide (x1 ≥ (-1)))) else (boltingref04_Text.j2 k x0 x1 x5 x7 x8 false)
def boltingref04_Text.j2 : Nat → List (S38) → Int → ByteArray → Int → Int → Bool → Option (ByteArray)
 | 0, _, _, _, _, _, _ => none
 | k + 1, x0, x1, x5, x7, x8, x27 => if x27 = true then (if 0 ≤ x8 then (if x8 < (x0.length : Int) then (if ((rd_T38 x0 x8).f1) = 1 then (if x5.size + ((rd_T38 x0 x8).f3).size ≤ 9223372036854775807 then (boltingref04_Text.l0 k x0 x1 (x5 ++ ((rd_T38 x0 x8).f3)) x7 (wrap64 (x8 + 1))) else (none)) else (boltingref04_Text.l0 k x0 x1 x5 x7 (wrap64 (x8 + 1)))) else (none)) else (none)) else (some x5)
end
def boltingref04_Text.f (k : Nat) (l0 : List (S38)) (a1 : Int) : Option (ByteArray) := if a1 ≥ 0 then ((boltingref04_End.f k l0 a1).bind fun t474 => (boltingref04_Text.j0 k l0 a1 (⟨#[]⟩ : ByteArray) (mn a1 (l0.length : Int)) t474)) else (boltingref04_Text.j0 k l0 a1 (⟨#[]⟩ : ByteArray) 0 (l0.length : Int))
end Go.Proofs.YticacakoefojbaaGreat.Pr
namespace Go.Proofs.YticacakoefojbaaGreat.Pure
set_option linter.unusedVariables false
set_option linter.unusedSimpArgs false
open Go.RowKit Go.Proofs.YticacakoefojbaaGreat.Pr Go.Proofs.YticacakoefojbaaGreat.Fo Go.Proofs.YticacakoefojbaaGreatW.PrintWords Go.Proofs.YticacakoefojbaaGreatW.PrintLast Go.Proofs.YticacakoefojbaaGreatW.PrintMore

structure Tidy (l : List Rw) : Prop where
  len : l.length ≤ 200
  few : ∀ x ∈ l, x.f4.length ≤ 50
  small : ∀ x ∈ l, VS x.f4
  txt : tsz l ≤ 4000000000000000000
structure Good (F : Fo) : Prop where
  leaf : F.Leaf
  fine : F.All Fine
  low : F.height ≤ 60
  few : F.size ≤ 200
  txt : tsz (flat 0 F) ≤ 4000000000000000000
theorem fine_dep (x : Rw) (d : Int) (h : Fine x) : Fine { x with f0 := d } := ⟨h.ok, h.few, h.small⟩
theorem fine_dep' (x : Rw) (d : Int) (h : Fine { x with f0 := d }) : Fine x := ⟨h.ok, h.few, h.small⟩
theorem Good.tidy {F : Fo} (h : Good F) : Tidy (flat 0 F) :=
  ⟨by rw [flat_len]; exact h.few, fun x hx => (flat_all fine_dep F 0 h.fine x hx).few, fun x hx => (flat_all fine_dep F 0 h.fine x hx).small, h.txt⟩
theorem Good.check {F : Fo} (h : Good F) : checkR (flat 0 F) = 0 := by
  have h1 : (flat 0 F).any deepB = false := by
    rw [List.any_eq_false]
    intro x hx
    have := flat_lt F 0 x hx
    have := h.low
    unfold deepB
    rw [decide_eq_true_eq]
    omega
  have h2 : rightB 0 (flat 0 F) = true := (right_iff _ _).2 (right_flat (fun x d g => g) F 0 (Int.le_refl _) h.leaf (all_imp (fun x g => g.ok) h.fine))
  unfold checkR
  rw [h1, h2]
  rfl
theorem check_forest {l : List Rw} (h : Tidy l) (hc : checkR l = 0) : ∃ F, l = flat 0 F ∧ Good F := by
  unfold checkR at hc
  split at hc
  · cases hc
  · rename_i hd
    split at hc
    · rename_i hr
      obtain ⟨F, e, hl, ha⟩ := parse ((right_iff _ _).1 hr)
      have hfine : F.All Fine := all_flat fine_dep' F 0 (fun x hx => by
        rw [← e] at hx
        have hok : rowB x = true := flat_all (P := fun x => rowB x = true) (fun x d g => g) F 0 ha x (by rw [← e]; exact hx)
        exact ⟨hok, h.few x hx, h.small x hx⟩)
      refine ⟨F, e, hl, hfine, ?_, ?_, by rw [← e]; exact h.txt⟩
      · refine height_of F 0 60 (fun x hx => ?_)
        rw [← e] at hx
        have : deepB x = false := by
          have := List.any_eq_false.1 (by simpa using hd) x hx
          simpa using this
        unfold deepB at this
        have := of_decide_eq_false this
        omega
      · have := h.len
        rw [e, flat_len] at this
        exact this
    · cases hc
theorem uniq_filter (p : Atr → Bool) : ∀ (l seen seen' : List Atr), (∀ b ∈ seen', b ∈ seen) → uniq seen l = true → uniq seen' (l.filter p) = true
  | [], _, _, _, _ => rfl
  | a :: t, seen, seen', hs, h => by
    have h' : (seen.all (fun b => !decide (a.f0 = b.f0)) && uniq (seen ++ [a]) t) = true := h
    rw [Bool.and_eq_true] at h'
    rw [List.filter_cons]
    split
    · show (seen'.all (fun b => !decide (a.f0 = b.f0)) && uniq (seen' ++ [a]) (t.filter p)) = true
      rw [Bool.and_eq_true]
      refine ⟨?_, uniq_filter p t _ _ (fun b hb => ?_) h'.2⟩
      · rw [List.all_eq_true] at h' ⊢
        exact fun b hb => h'.1 b (hs b hb)
      · rcases List.mem_append.1 hb with g | g
        · exact List.mem_append_left _ (hs b g)
        · exact List.mem_append_right _ g
    · exact uniq_filter p t _ _ (fun b hb => List.mem_append_left _ (hs b hb)) h'.2
theorem updC_f1 (c : Cf) (s : Bool) (x : Rw) : (updC c s x).f1 = x.f1 := by unfold updC; split <;> rfl
theorem updC_f3 (c : Cf) (s : Bool) (x : Rw) : (updC c s x).f3 = x.f3 := by unfold updC; split <;> rfl
theorem keepA_len (c : Cf) (s : Bool) (n : ByteArray) (l : List Atr) : (keepA c s n l).length ≤ l.length := List.length_filter_le _ _
theorem updC_fine {c : Cf} {s : Bool} {x : Rw} (h : Fine x) : Fine (updC c s x) := by
  unfold updC
  split
  · rename_i h0
    have hne : ¬ (x.f1 = 1 ∨ x.f1 = 2) := by omega
    refine ⟨?_, Nat.le_trans (keepA_len c s x.f2 x.f4) h.few, fun a ha => h.small a (List.mem_filter.1 ha).1⟩
    have hok := h.ok
    rw [rowB_el hne] at hok
    rw [rowB_el (x := { x with f4 := keepA c s x.f2 x.f4 }) hne]
    simp only [Bool.and_eq_true] at hok ⊢
    exact ⟨hok.1, uniq_filter _ _ _ _ (fun b hb => hb) hok.2⟩
  · exact h
theorem tsz_flat_dep : ∀ (F : Fo) (d e : Int), tsz (flat d F) = tsz (flat e F)
  | .nil, d, e => rfl
  | .cons x k r, d, e => by rw [flat, flat, tsz, tsz, tsz_app, tsz_app, tsz_flat_dep k (d + 1) (e + 1), tsz_flat_dep r d e]
theorem tsz_keep (c : Cf) (s : Bool) : ∀ (F : Fo) (d e : Int), tsz (flat d (keepF (whatC c s) (updC c s) F)) ≤ tsz (flat e F)
  | .nil, d, e => Nat.le_refl _
  | .cons x k r, d, e => by
    rw [keepF, flat, tsz, tsz_app]
    split
    · have := tsz_keep c s r d e; omega
    · split
      · rw [flat_app, tsz_app]
        have h1 := tsz_keep c s k d (e + 1)
        have h2 := tsz_keep c s r d e
        omega
      · rw [flat, tsz, tsz_app]
        have h1 := tsz_keep c s k (d + 1) (e + 1)
        have h2 := tsz_keep c s r d e
        have h3 : (updC c s x).f3.size = x.f3.size := by rw [updC_f3]
        show (updC c s x).f3.size + _ ≤ x.f3.size + _
        omega
theorem Good.keep {F : Fo} (h : Good F) (c : Cf) (s : Bool) : Good (keepF (whatC c s) (updC c s) F) :=
  ⟨keep_leaf (updC_f1 c s) h.leaf, keep_all (fun x g _ _ => updC_fine g) h.fine, Nat.le_trans (keep_height _ _ F) h.low, Nat.le_trans (keep_size _ _ F) h.few, Nat.le_trans (tsz_keep c s F 0 0) h.txt⟩
theorem tsz_fold : ∀ (l out : List Rw), tsz (l.foldl nstep out) ≤ tsz out + tsz l
  | [], out => by simp [tsz]
  | x :: t, out => by
    have h1 := tsz_fold t (nstep out x)
    have h2 := nstep_tsz out x
    rw [List.foldl_cons, tsz]
    omega
theorem tsz_norm (l : List Rw) : tsz (normL l) ≤ tsz l := by
  have := tsz_fold l []
  rw [fold_norm'] at this
  simpa [tsz] using this
theorem Good.norm {F : Fo} (h : Good F) : Good (normF F) := by
  refine ⟨norm_leaf F h.leaf, norm_all (fun x b g h1 => ?_) h.fine, Nat.le_trans (norm_height F) h.low, Nat.le_trans (norm_size F) h.few, ?_⟩
  · refine ⟨?_, g.few, g.small⟩
    have hok := g.ok
    rw [rowB_text (.inl h1)] at hok
    rw [rowB_text (x := { x with f3 := b }) (.inl h1)]
    exact hok
  · rw [← normL_flat F 0 h.leaf]
    exact Nat.le_trans (tsz_norm _) h.txt
theorem Good.app {A B : Fo} (h : Good A) (g : Good B) (hs : A.size + B.size ≤ 200) (ht : tsz (flat 0 A) + tsz (flat 0 B) ≤ 4000000000000000000) : Good (A.app B) :=
  ⟨leaf_app h.leaf g.leaf, all_app h.fine g.fine, by rw [height_app]; have := h.low; have := g.low; omega, by rw [size_app]; exact hs, by rw [flat_app, tsz_app]; exact ht⟩
theorem okx_flat {F : Fo} (h : F.All Fine) (hs : F.height ≤ 200) : ∀ x ∈ flat 0 F, Okx x := fun x hx => by
  have h1 := flat_ge F 0 x hx
  have h2 := flat_lt F 0 x hx
  exact ⟨wrap_id (by omega) (by omega), (flat_all fine_dep F 0 h x hx).few⟩
theorem check_kk {c : Cf} (hf : Fit c) (ht : Text c) : config_Check.f c.al c.aal c.els c.rep c.ats c.per c.com c.dt = some (checkI c) := if_pos ⟨of_fit hf, of_text ht⟩
abbrev cleaned (c : Cf) (s : Bool) (F : Fo) : Fo := normF (keepF (whatC c s) (updC c s) F)
theorem Good.cleaned {F : Fo} (h : Good F) (c : Cf) (s : Bool) : Good (cleaned c s F) := (h.keep c s).norm
theorem rows_good {c : Cf} (hf : Fit c) (ht : Text c) (hc : checkI c = 0) (s : Bool) {F : Fo} (h : Good F) {k : Nat} (hk : 8000 < k) :
    clean_Rows.f k (flat 0 F) c.al c.aal c.els c.rep c.ats c.per c.com c.dt s = some (flat 0 (cleaned c s F), 0) := by
  have htd := h.tidy
  have hlow := h.low
  have hfew := h.few
  unfold clean_Rows.f
  rw [check_kk hf ht, Option.bind_some, if_pos hc, rows_check_f _ htd.len htd.few (by omega), Option.bind_some, if_pos h.check]
  obtain ⟨k', less', a1, _, _, _, _, a6⟩ := walk hf s (flat 0 F) htd.len F 0 [] [] 0 [] k h.leaf h.fine (by simp) (fun y hy => by cases hy) (Nat.zero_le _) (fun j u hj => by cases hj) (by simp) (by omega) (by simp) (Nat.zero_le _) (by omega)
  rw [show ((0 : Nat) : Int) = 0 from rfl] at a6
  rw [a6, show (0 : Int) - up [] 0 = 0 from rfl, List.nil_append]
  obtain ⟨k', rfl⟩ : ∃ q, k' = q + 1 := ⟨k' - 1, by omega⟩
  have hg := h.keep c s
  have hgt := hg.tidy
  simp only [clean_Rows.l0]
  rw [if_neg (by rw [flat_len]; omega), normal_f _ hgt.len (okx_flat hg.fine (by have := hg.low; omega)) hgt.txt (by omega), Option.bind_some, normL_flat _ _ hg.leaf]
def whyR (c : Cf) (l : List Rw) : Int := if checkI c = 0 then checkR l else checkI c
theorem attrs_same_l0 (l : List Atr) (hl : l.length ≤ 50) : ∀ (d i : Nat), i + d = l.length → ∀ k, d < k → boltingref04_Attrs.l0 k l l (i : Int) = some true
  | 0, i, h, k, hk => by
    obtain ⟨k, rfl⟩ : ∃ q, k = q + 1 := ⟨k - 1, by omega⟩
    simp only [boltingref04_Attrs.l0]
    rw [if_neg (by omega)]
  | d + 1, i, h, k, hk => by
    obtain ⟨k, rfl⟩ : ∃ q, k = q + 1 := ⟨k - 1, by omega⟩
    simp only [boltingref04_Attrs.l0]
    rw [if_pos (by omega), if_pos (by omega), if_pos (by omega), if_neg (by simp), wrap_succ (by omega) (by omega)]
    exact attrs_same_l0 l hl d (i + 1) (by omega) k (by omega)
theorem attrs_same (l : List Atr) (hl : l.length ≤ 50) {k : Nat} (hk : 60 < k) : boltingref04_Attrs.f k l l = some true := by
  unfold boltingref04_Attrs.f
  rw [if_pos rfl]
  exact attrs_same_l0 l hl l.length 0 (by omega) k (by omega)
theorem same_rows_l0 (l : List Rw) (hl : l.length ≤ 200) (hx : ∀ x ∈ l, x.f4.length ≤ 50) : ∀ (d i : Nat), i + d = l.length → ∀ k, 2 * d + 100 < k → boltingref04_Same.l0 k l l (i : Int) = some true
  | 0, i, h, k, hk => by
    obtain ⟨k, rfl⟩ : ∃ q, k = q + 1 := ⟨k - 1, by omega⟩
    simp only [boltingref04_Same.l0]
    rw [if_neg (by omega)]
  | d + 1, i, h, k, hk => by
    obtain ⟨k, rfl⟩ : ∃ q, k = q + 2 := ⟨k - 2, by omega⟩
    obtain ⟨x, h0⟩ := get_some (l := l) (show i < l.length by omega)
    simp only [boltingref04_Same.l0]
    rw [if_pos (by omega), if_pos (by omega), if_pos (by omega), rdR_at h0, if_pos trivial, if_pos trivial, if_pos trivial, if_pos trivial, attrs_same _ (hx x (List.mem_of_getElem? h0)) (by omega), Option.bind_some]
    simp only [boltingref04_Same.j1]
    rw [if_neg (by simp), wrap_succ (by omega) (by omega)]
    exact same_rows_l0 l hl hx d (i + 1) (by omega) k (by omega)
theorem same_rows (l : List Rw) (hl : l.length ≤ 200) (hx : ∀ x ∈ l, x.f4.length ≤ 50) {k : Nat} (hk : 600 < k) : boltingref04_Same.f k l l = some true := by
  unfold boltingref04_Same.f
  rw [if_pos rfl]
  exact same_rows_l0 l hl hx l.length 0 (by omega) k (by omega)

def safeX (x : Rw) : Bool := !decide (x.f1 = 0) || (!neverB x.f2 && x.f4.all fun a => !riskB x.f2 a.f0 a.f1)
def bndR (l : List Rw) : List Rw := (l.take 40).map fun x => { x with f4 := x.f4.take 8 }
theorem mn8 (n : Nat) : 0 ≤ mn (n : Int) 8 ∧ mn (n : Int) 8 ≤ (n : Int) ∧ (mn (n : Int) 8).toNat = min n 8 := by
  unfold mn; split <;> omega
theorem take_mn8 {α : Type} (l : List α) : l.take (mn (l.length : Int) 8).toNat = l.take 8 := by
  rw [(mn8 _).2.2]
  rcases Nat.le_total l.length 8 with h | h
  · rw [Nat.min_eq_left h, List.take_length, List.take_of_length_le h]
  · rw [Nat.min_eq_right h]
theorem bndr_l0 (l : List Rw) : ∀ (d i : Nat) (acc : List Rw), i + d = min l.length 40 → acc.length = i → ∀ k, d < k →
    boltinglaw13_bound.l0 k l acc (i : Int) = some (acc ++ ((l.drop i).take d).map fun x => { x with f4 := x.f4.take 8 })
  | 0, i, acc, h, ha, k, hk => by
    obtain ⟨k, rfl⟩ : ∃ q, k = q + 1 := ⟨k - 1, by omega⟩
    simp only [boltinglaw13_bound.l0]
    rw [List.take_zero, List.map_nil, List.append_nil]
    by_cases h1 : (i : Int) < (l.length : Int)
    · rw [if_pos h1, if_neg (by omega)]
    · rw [if_neg h1]
  | d + 1, i, acc, h, ha, k, hk => by
    obtain ⟨k, rfl⟩ : ∃ q, k = q + 1 := ⟨k - 1, by omega⟩
    obtain ⟨x, h0⟩ := get_some (l := l) (show i < l.length by omega)
    simp only [boltinglaw13_bound.l0]
    rw [if_pos (by omega), if_pos (by omega), if_pos (by omega), rdR_at h0, if_pos (mn8 _).1, if_pos (mn8 _).2.1, if_pos (by omega), take_mn8, wrap_succ (by omega) (by omega), drop_at h0, List.take_succ_cons, List.map_cons]
    have := bndr_l0 l d (i + 1) (acc ++ [{ x with f4 := x.f4.take 8 }]) (by omega) (by simp [ha]) k (by omega)
    rw [List.append_assoc] at this
    exact this
theorem bndr_f (l : List Rw) {k : Nat} (hk : 50 < k) : boltinglaw13_bound.f k l = some (bndR l) := by
  have := bndr_l0 l (min l.length 40) 0 [] (by omega) rfl k (by omega)
  unfold boltinglaw13_bound.f bndR
  rw [show ((0 : Nat) : Int) = 0 from rfl] at this
  rw [this, List.nil_append, List.drop_zero]
  congr 2
  rcases Nat.le_total l.length 40 with h | h
  · rw [Nat.min_eq_left h, List.take_length, List.take_of_length_le h]
  · rw [Nat.min_eq_right h]
def SizedR (l : List Rw) : Prop := ∀ x ∈ l, x.f3.size ≤ 140737488351232 ∧ VS x.f4
theorem tsz_le {M : Nat} : ∀ l : List Rw, (∀ x ∈ l, x.f3.size ≤ M) → tsz l ≤ l.length * M
  | [], _ => Nat.zero_le _
  | x :: t, h => by
    have h1 := tsz_le t (fun y hy => h y (List.mem_cons_of_mem _ hy))
    have h2 := h x (List.mem_cons_self ..)
    rw [tsz, List.length_cons, Nat.succ_mul]
    omega
theorem bndr_len (l : List Rw) : (bndR l).length ≤ 40 := by unfold bndR; rw [List.length_map]; exact List.length_take_le _ _
theorem bndr_mem {l : List Rw} {x : Rw} (h : x ∈ bndR l) : ∃ y ∈ l, x = { y with f4 := y.f4.take 8 } := by
  obtain ⟨y, hy, e⟩ := List.mem_map.1 h
  exact ⟨y, List.mem_of_mem_take hy, e.symm⟩
theorem bndr_tsz {l : List Rw} (h : SizedR l) : tsz (bndR l) ≤ 5629499534049280 := by
  have h1 := tsz_le (M := 140737488351232) (bndR l) (fun x hx => by
    obtain ⟨y, hy, rfl⟩ := bndr_mem hx
    exact (h y hy).1)
  have h2 := bndr_len l
  have h3 : (bndR l).length * 140737488351232 ≤ 40 * 140737488351232 := Nat.mul_le_mul_right _ h2
  omega
theorem bndr_tidy {l : List Rw} (h : SizedR l) : Tidy (bndR l) := by
  refine ⟨Nat.le_trans (bndr_len l) (by omega), fun x hx => ?_, fun x hx => ?_, Nat.le_trans (bndr_tsz h) (by omega)⟩
  · obtain ⟨y, hy, rfl⟩ := bndr_mem hx
    exact Nat.le_trans (List.length_take_le _ _) (by omega)
  · obtain ⟨y, hy, rfl⟩ := bndr_mem hx
    exact fun a ha => (h y hy).2 a (List.mem_of_mem_take ha)
end Go.Proofs.YticacakoefojbaaGreat.Pure
namespace Go.Proofs.YticacakoefojbaaGreat.Pr
open Go.RowKit Go.Proofs.YticacakoefojbaaGreatW.PrintWords Go.Proofs.YticacakoefojbaaGreatW.PrintLast Go.Proofs.YticacakoefojbaaGreatW.PrintMore
attribute [local go_sem] max2_int min2_int max_two min_two max_three min_three max_four min_four   -- for this text's walks alone
set_option linter.unusedVariables false
set_option linter.unusedSimpArgs false

def boltinglaw12_Bound.l0 : Nat → List (S60) → Int → Bool → Bool → List ByteArray → List ByteArray → List ByteArray → List (S60) → Bool → Bool → Option (Bool × Bool × List ByteArray × List ByteArray × List ByteArray × (List (S60)) × Bool × Bool)
 | 0, _, _, _, _, _, _, _, _, _, _ => none
 | k + 1, x3, x4, x210000, x210001, x210002, x210003, x210004, x210005, x210006, x210007 => if x4 < (x210005.length : Int) then (if x4 < 12 then (if 0 ≤ x4 then (if 0 ≤ (mn (((rd_T60 x210005 x4).f1).length : Int) 70) then (if (mn (((rd_T60 x210005 x4).f1).length : Int) 70) ≤ (((rd_T60 x210005 x4).f1).length : Int) then (if x3.length < 3518437208883 then (boltinglaw12_Bound.l0 k (x3 ++ [(⟨(rd_T60 x210005 x4).f0, (((rd_T60 x210005 x4).f1).take ((mn (((rd_T60 x210005 x4).f1).length : Int) 70) : Int).toNat)⟩ : S60)]) (wrap64 (x4 + 1)) x210000 x210001 x210002 x210003 x210004 x210005 x210006 x210007) else (none)) else (none)) else (none)) else (none)) else (some (x210000, x210001, x210002, x210003, x210004, x3, x210006, x210007))) else (some (x210000, x210001, x210002, x210003, x210004, x3, x210006, x210007))
def boltinglaw12_Bound.f (k : Nat) (a0_0 : Bool) (a0_1 : Bool) (l0_2 : List ByteArray) (l0_3 : List ByteArray) (l0_4 : List ByteArray) (l0_5 : List (S60)) (a0_6 : Bool) (a0_7 : Bool) : Option (Bool × Bool × List ByteArray × List ByteArray × List ByteArray × (List (S60)) × Bool × Bool) := if 0 ≤ (mn (l0_2.length : Int) 70) then (if (mn (l0_2.length : Int) 70) ≤ (l0_2.length : Int) then (if 0 ≤ (mn (l0_3.length : Int) 70) then (if (mn (l0_3.length : Int) 70) ≤ (l0_3.length : Int) then (if 0 ≤ (mn (l0_4.length : Int) 70) then (if (mn (l0_4.length : Int) 70) ≤ (l0_4.length : Int) then (boltinglaw12_Bound.l0 k (([] : List (S60))) 0 a0_0 a0_1 (l0_2.take ((mn (l0_2.length : Int) 70) : Int).toNat) (l0_3.take ((mn (l0_3.length : Int) 70) : Int).toNat) (l0_4.take ((mn (l0_4.length : Int) 70) : Int).toNat) l0_5 a0_6 a0_7) else (none)) else (none)) else (none)) else (none)) else (none)) else (none)
def boltinglaw12_Bound.T8 : Bool × List (List Nat × List Nat) := (true, [([], []), ([], []), ([1], [1]), ([], []), ([2, 3], [2, 3]), ([4], [4]), ([5], [5]), ([], []), ([7], [7]), ([], []), ([8, 9], [8, 9]), ([10], [10]), ([11], [11]), ([], []), ([13], [13]), ([], []), ([14, 15], [14, 15]), ([16], [16]), ([17], [17]), ([18], [18]), ([19], [19]), ([12, 20], [12, 20]), ([6, 21], [6, 21]), ([22], [22]), ([0, 23], [0, 23]), ([24, 24, 0, 1, 2, 3, 4, 5, 6, 7, 8, 9, 10, 11, 12, 13, 14, 15, 16, 17, 18, 19, 20, 21, 22, 23, 24], [0, 24])])
def boltinglaw12_Bound.B8 : List Nat := [0, 0, 2, 0, 14, 30, 62, 0, 128, 0, 896, 1920, 3968, 0, 8192, 0, 57344, 122880, 253952, 516096, 1040384, 2097024, 4194302, 8388606, 16777215, 33554431]
end Go.Proofs.YticacakoefojbaaGreat.Pr
namespace Go.Proofs.YticacakoefojbaaGreat.Pure
set_option linter.unusedVariables false
set_option linter.unusedSimpArgs false
open Go.RowKit Go.Lib Go.Shelf Go.Proofs.YticacakoefojbaaGreatW.PrintWords Go.Proofs.YticacakoefojbaaGreatW.PrintLast Go.Proofs.YticacakoefojbaaGreatW.PrintMore Go.Proofs.YticacakoefojbaaGreat.Pr

def cutP (p : S60) : S60 := ⟨p.f0, p.f1.take 70⟩
def bound (c : Cf) : Cf := { c with els := c.els.take 70, rep := c.rep.take 70, ats := c.ats.take 70, per := (c.per.take 12).map cutP }
end Go.Proofs.YticacakoefojbaaGreat.Pure
namespace Go.Proofs.YticacakoefojbaaGreat
set_option linter.unusedVariables false
set_option maxRecDepth 100000
set_option linter.unusedSimpArgs false
open Go.ChangeShapes Go.WideShapes Go.RowKit Go.Proofs.YticacakoefojbaaGreat.Pr Go.Proofs.YticacakoefojbaaGreat.Pure Go.Proofs.YticacakoefojbaaGreatW.PrintWords
abbrev Short (s : ByteArray) : Prop := s.size ≤ 140737488351232
structure Sized (c : Cf) : Prop where
  els : ∀ x ∈ c.els, Short x
  rep : ∀ x ∈ c.rep, Short x
  ats : ∀ x ∈ c.ats, Short x
  per : ∀ p ∈ c.per, Short p.f0 ∧ ∀ x ∈ p.f1, Short x
abbrev kStr : Kd (List ByteArray) := Kd.slice 9 Kd.string
abbrev kC : Kd (Bool × Bool × List ByteArray × List ByteArray × List ByteArray × List S60 × Bool × Bool) :=
  Kd.pair Kd.bool (Kd.pair Kd.bool (Kd.pair kStr (Kd.pair kStr (Kd.pair kStr (Kd.pair (Kd.slice 60 k60) (Kd.pair Kd.bool Kd.bool))))))
end Go.Proofs.YticacakoefojbaaGreat
namespace Go.Proofs.YticacakoefojbaaGreat.Pr
open Go.RowKit Go.Proofs.YticacakoefojbaaGreatW.PrintWords Go.Proofs.YticacakoefojbaaGreatW.PrintLast Go.Proofs.YticacakoefojbaaGreatW.PrintMore
attribute [local go_sem] max2_int min2_int max_two min_two max_three min_three max_four min_four   -- for this text's walks alone
set_option linter.unusedVariables false
set_option linter.unusedSimpArgs false

attribute [local go_sem high] eqA45
mutual
def boltinglaw13_among.l0 : Nat → List (S45) → List (S45) → Int → Int → Option (Bool)
 | 0, _, _, _, _ => none
 | k + 1, x0, x1, x5, x6 => if x6 < (x1.length : Int) then (boltinglaw13_among.j1 k x0 x1 x5 x6 (decide (x5 < (x0.length : Int)))) else (boltinglaw13_among.j1 k x0 x1 x5 x6 false)
def boltinglaw13_among.j1 : Nat → List (S45) → List (S45) → Int → Int → Bool → Option (Bool)
 | 0, _, _, _, _, _ => none
 | k + 1, x0, x1, x5, x6, x16 => if x16 = true then (if 0 ≤ x5 then (if x5 < (x0.length : Int) then (if 0 ≤ x6 then (if x6 < (x1.length : Int) then (if ((((rd_T45 x0 x5).f0).toList) == (((rd_T45 x1 x6).f0).toList) && ((((rd_T45 x0 x5).f1).toList) == (((rd_T45 x1 x6).f1).toList))) = true then (boltinglaw13_among.l0 k x0 x1 (wrap64 (x5 + 1)) (wrap64 (x6 + 1))) else (boltinglaw13_among.l0 k x0 x1 x5 (wrap64 (x6 + 1)))) else (none)) else (none)) else (none)) else (none)) else (some (x5 == (x0.length : Int)))
end
def boltinglaw13_among.f (k : Nat) (l0 : List (S45)) (l1 : List (S45)) : Option (Bool) := boltinglaw13_among.l0 k l0 l1 0 0
end Go.Proofs.YticacakoefojbaaGreat.Pr
namespace Go.Proofs.YticacakoefojbaaGreat.Pure
set_option linter.unusedVariables false
set_option linter.unusedSimpArgs false
open Go.RowKit Go.Proofs.YticacakoefojbaaGreat.Pr Go.Proofs.YticacakoefojbaaGreat.Fo Go.Proofs.YticacakoefojbaaGreatW.PrintWords Go.Proofs.YticacakoefojbaaGreatW.PrintLast Go.Proofs.YticacakoefojbaaGreatW.PrintMore

def RowIn (x : Rw) : Prop := (Lit.int .i64 x.f0).wf = true ∧ (Lit.int .i64 x.f1).wf = true ∧ x.f2.size ≤ 140737488351232 ∧ x.f3.size ≤ 140737488351232 ∧ ∀ y ∈ x.f4, y.f0.size ≤ 140737488351232 ∧ y.f1.size ≤ 140737488351232
theorem sized_of {l : List Rw} (h : ∀ x ∈ l, RowIn x) : SizedR l := fun x hx => ⟨(h x hx).2.2.2.1, fun a ha => ((h x hx).2.2.2.2 a ha).2⟩
end Go.Proofs.YticacakoefojbaaGreat.Pure
namespace Go.Proofs.YticacakoefojbaaGreat.Pure
set_option linter.unusedVariables false
set_option linter.unusedSimpArgs false
open Go.RowKit Go.Proofs.YticacakoefojbaaGreat.Pr Go.Proofs.YticacakoefojbaaGreat.Pure Go.Proofs.YticacakoefojbaaGreat.Fo Go.Proofs.YticacakoefojbaaGreatW.PrintWords Go.Proofs.YticacakoefojbaaGreatW.PrintLast
theorem height_size : ∀ F : Fo, F.height ≤ F.size
  | .nil => Nat.le_refl _
  | .cons x k r => by
    have h1 := height_size k
    have h2 := height_size r
    rw [Fo.height, Fo.size]; omega
theorem flat_map : ∀ (F : Fo) (d : Int), -1 ≤ d → d + F.height ≤ 1000 → (flat d F).map (fun x => ({ x with f0 := wrap64 (x.f0 + 1) } : Rw)) = flat (d + 1) F
  | .nil, d, _, _ => rfl
  | .cons x k r, d, h0, h1 => by
    rw [Fo.height] at h1
    rw [flat, flat, List.map_cons, List.map_append, flat_map k (d + 1) (by omega) (by omega), flat_map r d h0 (by omega)]
    show ({ x with f0 := wrap64 (d + 1) } : Rw) :: _ = _
    rw [wrap_succ (by omega) (by omega)]
theorem join_f (a b : List Rw) (ha : a.length ≤ 200) (hb : b.length ≤ 200) (hx : ∀ x ∈ a, Okx x) (hy : ∀ x ∈ b, Okx x) {k : Nat} (hk : 300 < k) : boltingref04_Join.f k a b = some (a ++ b) := by
  unfold boltingref04_Join.f
  rw [rmoved_zero a ha hx hk, Option.bind_some, rmoved_zero b hb hy hk, Option.bind_some, if_pos (by omega)]
theorem mn20 (n : Nat) : 0 ≤ mn (n : Int) 20 ∧ mn (n : Int) 20 ≤ (n : Int) ∧ (mn (n : Int) 20).toNat = min n 20 := by
  unfold mn; split <;> omega
theorem take_mn20 {α : Type} (l : List α) : l.take (mn (l.length : Int) 20).toNat = l.take 20 := by
  rw [(mn20 _).2.2]
  rcases Nat.le_total l.length 20 with h | h
  · rw [Nat.min_eq_left h, List.take_length, List.take_of_length_le h]
  · rw [Nat.min_eq_right h]
def xGone : ByteArray := ⟨#[120, 45, 103, 111, 110, 101]⟩
def xRow : Rw := ⟨0, 0, xGone, ⟨#[]⟩, []⟩
abbrev cGone : Cf := ⟨false, false, [], [xGone], [], [], true, false⟩
theorem gone_fit : Fit cGone := ⟨by decide, by decide, by decide, by decide, fun p hp => by cases hp⟩
theorem gone_text : Text cGone := by
  have hE : ∀ l ∈ rowsE cGone, l = [] ∨ l = [xGone] := by
    intro l hl
    have hl : l ∈ [([] : List ByteArray), [xGone], []] := hl
    simp only [List.mem_cons, List.not_mem_nil, or_false] at hl
    rcases hl with h | h | h
    · exact .inl h
    · exact .inr h
    · exact .inl h
  have hA : ∀ l ∈ rowsA cGone, l = [] := by
    intro l hl
    have hl : l ∈ [([] : List ByteArray)] := hl
    simpa using hl
  refine ⟨(fun l hl x hx => ?_), (fun l hl x hx => by rw [hA l hl] at hx; cases hx)⟩
  rcases hE l hl with h | h
  · rw [h] at hx; cases hx
  · rw [h, List.mem_singleton] at hx
    subst hx
    decide
set_option maxRecDepth 100000 in
theorem gone_check : checkI cGone = 0 := by decide +kernel
set_option maxRecDepth 100000 in
theorem gone_what : whatC cGone false xRow = 2 := by decide +kernel
theorem xrow_fine : Fine xRow := ⟨by decide +kernel, by decide, fun a ha => by cases ha⟩
theorem take_tsz (l : List Rw) (n : Nat) : tsz (l.take n) ≤ tsz l := by
  have h : l = l.take n ++ l.drop n := (List.take_append_drop n l).symm
  have h2 := tsz_app (l.take n) (l.drop n)
  rw [← h] at h2
  omega
theorem Tidy.take_ {l : List Rw} (h : Tidy l) (n : Nat) : Tidy (l.take n) :=
  ⟨Nat.le_trans (by rw [List.length_take]; omega) h.len, fun x hx => h.few x (List.mem_of_mem_take hx), fun x hx => h.small x (List.mem_of_mem_take hx), Nat.le_trans (take_tsz l n) h.txt⟩
theorem replaces_j0 (A B : Fo) (hA : Good A) (hB : Good B) (h1 : A.size ≤ 20) (h2 : B.size ≤ 20) (t1 : tsz (flat 0 A) ≤ 5629499534049280) (t2 : tsz (flat 0 B) ≤ 5629499534049280) {k : Nat} (hk : 20000 ≤ k) :
    boltinglaw13_CleanReplaces.j0 (k + 2) (flat 0 A) (flat 0 B) false = some true := by
  have ha := height_size A
  have hb := height_size B
  have hBB : Good (.cons xRow B .nil) := ⟨⟨fun h => absurd rfl h, hB.leaf, trivial⟩, ⟨xrow_fine, hB.fine, trivial⟩, by rw [Fo.height]; show max (1 + B.height) 0 ≤ 60; omega, by rw [Fo.size]; show 1 + B.size + 0 ≤ 200; omega, by
    rw [flat, tsz, tsz_app, tsz_flat_dep B (0 + 1) 0]
    show 0 + (tsz (flat 0 B) + 0) ≤ _
    omega⟩
  have e1 : boltingref04_Moved.f (k + 1) (flat 0 B) 1 = some (flat 1 B) := by
    rw [rmoved_f _ _ hB.tidy.len hB.tidy.few (by omega)]
    have := flat_map B 0 (by omega) (by omega)
    exact congrArg some this
  have okB : ∀ x ∈ flat 1 B, Okx x := fun x hx => by
    have g1 := flat_ge B 1 x hx
    have g2 := flat_lt B 1 x hx
    exact ⟨wrap_id (by omega) (by omega), (flat_all fine_dep B 1 hB.fine x hx).few⟩
  have e2 : boltingref04_Join.f (k + 1) [xRow] (flat 1 B) = some (flat 0 (.cons xRow B .nil)) := by
    rw [join_f _ _ (by simp) (by rw [flat_len]; omega) (fun x hx => by rw [List.mem_singleton] at hx; subst hx; exact ⟨wrap_id (by decide) (by decide), by decide⟩) okB (by omega)]
    rw [flat, flat, List.append_nil]; rfl
  have e3 : boltingref04_Join.f (k + 1) (flat 0 A) (flat 0 (.cons xRow B .nil)) = some (flat 0 (A.app (.cons xRow B .nil))) := by
    rw [join_f _ _ hA.tidy.len hBB.tidy.len (okx_flat hA.fine (by have := hA.low; omega)) (okx_flat hBB.fine (by have := hBB.low; omega)) (by omega), flat_app]
  have e4 : boltingref04_Join.f (k + 1) (flat 0 A) (flat 0 B) = some (flat 0 (A.app B)) := by
    rw [join_f _ _ hA.tidy.len hB.tidy.len (okx_flat hA.fine (by have := hA.low; omega)) (okx_flat hB.fine (by have := hB.low; omega)) (by omega), flat_app]
  have tB : tsz (flat 0 (.cons xRow B .nil)) = tsz (flat 0 B) := by
    rw [flat, tsz, tsz_app, tsz_flat_dep B (0 + 1) 0]
    show 0 + (tsz (flat 0 B) + 0) = _
    omega
  have g1 : Good (A.app (.cons xRow B .nil)) := hA.app hBB (by rw [Fo.size]; show A.size + (1 + B.size + 0) ≤ 200; omega) (by rw [tB]; omega)
  have g2 : Good (A.app B) := hA.app hB (by omega) (by omega)
  have r1 : clean_Rows.f (k + 1) (flat 0 (A.app (.cons xRow B .nil))) false false [] [xGone] [] [] true false false = some (flat 0 (cleaned cGone false (A.app (.cons xRow B .nil))), 0) := rows_good gone_fit gone_text gone_check false g1 (by omega)
  have r2 : clean_Rows.f (k + 1) (flat 0 (A.app B)) false false [] [xGone] [] [] true false false = some (flat 0 (cleaned cGone false (A.app B)), 0) := rows_good gone_fit gone_text gone_check false g2 (by omega)
  have ee : cleaned cGone false (A.app (.cons xRow B .nil)) = cleaned cGone false (A.app B) := by
    unfold cleaned
    rw [keep_app, keep_app]
    congr 2
    rw [keepF, gone_what, if_neg (by decide), if_pos rfl]
    exact app_nil _
  have ht := (g2.cleaned cGone false).tidy
  simp only [boltinglaw13_CleanReplaces.j0]
  rw [if_neg (by simp), e1, Option.bind_some]
  rw [show boltingref04_Join.f (k + 1) [(⟨0, 0, (⟨#[120, 45, 103, 111, 110, 101]⟩ : ByteArray), (⟨#[]⟩ : ByteArray), []⟩ : Rw)] (flat 1 B) = _ from e2, Option.bind_some, e3, Option.bind_some, show clean_Rows.f (k + 1) (flat 0 (A.app (.cons xRow B .nil))) false false [] [(⟨#[120, 45, 103, 111, 110, 101]⟩ : ByteArray)] [] [] true false false = _ from r1, Option.bind_some, e4, Option.bind_some, show clean_Rows.f (k + 1) (flat 0 (A.app B)) false false [] [(⟨#[120, 45, 103, 111, 110, 101]⟩ : ByteArray)] [] [] true false false = _ from r2, Option.bind_some, ee]
  simp only [boltinglaw13_CleanReplaces.j1]
  rw [same_rows _ ht.len ht.few (by omega)]
  simp [boltinglaw13_fixed.f]
theorem replaces_j0_true (l m : List Rw) (k : Nat) : boltinglaw13_CleanReplaces.j0 (k + 1) l m true = some true := by
  simp only [boltinglaw13_CleanReplaces.j0]
  rw [if_pos trivial]; rfl
theorem CleanReplaces (l0 l1 : List Rw) (hS : ∀ x ∈ l0, RowIn x) (hl : l0.length ≤ 9223372036854775807) (hS1 : ∀ x ∈ l1, RowIn x) (hl1 : l1.length ≤ 9223372036854775807) :
    ∃ k, boltinglaw13_CleanReplaces.f k l0 l1 = some true := by
  obtain ⟨k, hk⟩ : ∃ k, 20000 ≤ k := ⟨_, Nat.le_refl _⟩
  refine ⟨k + 2, ?_⟩
  have hT := (bndr_tidy (sized_of hS)).take_ 20
  have hT1 := (bndr_tidy (sized_of hS1)).take_ 20
  have q0 := Nat.le_trans (take_tsz (bndR l0) 20) (bndr_tsz (sized_of hS))
  have q1 := Nat.le_trans (take_tsz (bndR l1) 20) (bndr_tsz (sized_of hS1))
  have n0 : ((bndR l0).take 20).length ≤ 20 := List.length_take_le _ _
  have n1 : ((bndR l1).take 20).length ≤ 20 := List.length_take_le _ _
  unfold boltinglaw13_CleanReplaces.f
  rw [bndr_f l0 (by omega), Option.bind_some, bndr_f l1 (by omega), Option.bind_some, if_pos (mn20 _).1, if_pos (mn20 _).2.1, take_mn20]
  simp only [Option.bind_some]
  rw [if_pos (mn20 _).1, if_pos (mn20 _).2.1, take_mn20]
  obtain ⟨L, hL⟩ : ∃ L, (bndR l0).take 20 = L := ⟨_, rfl⟩
  obtain ⟨M, hM⟩ : ∃ M, (bndR l1).take 20 = M := ⟨_, rfl⟩
  rw [hL] at hT q0 n0 ⊢
  rw [hM] at hT1 q1 n1 ⊢
  (try simp only [Option.bind_some])
  rw [rrows_check_f L hT.len hT.few (by omega), Option.bind_some]
  by_cases hc : checkR L = 0
  · rw [if_pos hc, rrows_check_f M hT1.len hT1.few (by omega), Option.bind_some]
    by_cases hc1 : checkR M = 0
    · obtain ⟨A, rfl, hA⟩ := check_forest hT hc
      obtain ⟨B, rfl, hB⟩ := check_forest hT1 hc1
      rw [flat_len] at n0 n1
      rw [hc1]
      exact replaces_j0 A B hA hB n0 n1 q0 q1 hk
    · rw [show (checkR M != 0) = true from by simpa using hc1]
      exact replaces_j0_true _ _ _
  · rw [if_neg hc]
    exact replaces_j0_true _ _ _
end Go.Proofs.YticacakoefojbaaGreat.Pure
namespace Go.Proofs.YticacakoefojbaaGreat.cleanReplaces
open Go.ChangeShapes Go.WideShapes Go.ChangeAt Go.RowKit
open Go.ChangeMaps (open_string shut_string)
set_option linter.unusedVariables false
set_option linter.unusedSimpArgs false
theorem own : ownKnob Tryz.prog.godebug = none := by kernel_rfl
theorem laidOut : laidOutB Tryz.prog = true := by kernel_rfl
set_option maxRecDepth 100000 in
theorem lifted (os : Os) (started : os.Started) (H : Type) (enc : TypeId × Value → H) :
    ReturnsInHanded {} Tryz.checked os 8 .any (Rows.cleanReplacesSpec.pre6 enc Tryz.prog Tryz.f8 Rows.cleanReplacesRow.domain false) (Rows.cleanReplacesSpec.post enc Tryz.prog Tryz.f8 false true false false) := by
  refine returnsInHanded_of_change_sized (C := Tryz.checked) own started (by kernel_rfl) Tryz.func8
    (ChangeSpec.witness6 (enc := enc) (C := Tryz.checked) false ⟨#[], #[.slice none 0 0, .slice none 0 0], []⟩ 8 (by kernel_rfl) (by kernel_rfl) (by kernel_rfl) (by kernel_rfl)) ?_
  intro W base args ds gs before hval0 hW hcnd hsz0 _
  have hsz : (DataW.weightsEach Tryz.prog (Tryz.f8.params.toList ++ Rows.cleanReplacesSpec.plain.varTypes Tryz.prog) (ds ++ gs)).all (· ≤ reachBytes) = true := hsz0
  have hval : ∀ (j : Nat) t v, Tryz.f8.params[j]? = some t → args[j]? = some v → Value.okWide Tryz.prog W .any base t v := hval0
  have hW' := hW
  obtain ⟨p, q, hA0, hV, rfl, hfz, hnd⟩ := hW
  have hA : DataW.TrodAll enc Tryz.prog W 0 (fun _ => true) true Tryz.f8.params.toList args.toList ds p := hA0
  rw [Tryz.params8] at hA hval hsz
  obtain ⟨v0, vs0, d0, ds0, p0, q0, hargs, rfl, rfl, h0, r0⟩ := trodAll_cons hA
  obtain ⟨v1, vs1, d1, ds1, p1, q1, rfl, rfl, rfl, h1, r1⟩ := trodAll_cons r0
  obtain ⟨rfl, rfl, rfl⟩ := trodAll_nil r1
  obtain rfl : args = #[v0, v1] := by cases args; simp_all
  obtain ⟨rfl, rfl⟩ := trodVars_none hV
  have k1 := h1
  have lt1 : ∀ x ∈ p1, x.block < W.heap.size := by obtain ⟨m, hm⟩ := k1; exact DataW.trod_lt m _ _ _ hm
  have k0 := h0
  have lt0 : ∀ x ∈ p0, x.block < W.heap.size := by obtain ⟨m, hm⟩ := k0; exact DataW.trod_lt m _ _ _ hm
  obtain ⟨sa0, sn0, sc0, rfl⟩ := okWide_slice Tryz.underlying22 (hval 0 22 v0 rfl rfl)
  obtain ⟨fu0, hf0⟩ := h0
  obtain ⟨A0, c0, l0, hv0, hc0, hm0, hr0, hS0⟩ := opensS_row Tryz.underlying22 (opensS_struct (fun x : Pr.S38 => (x.f0, x.f1, x.f2, x.f3, x.f4)) Tryz.underlying38 rfl (by kernel_rfl) (opensTail_cons rfl (opensS_int (by kernel_rfl) Tryz.underlying3) (opensTail_cons rfl (opensS_int (by kernel_rfl) Tryz.underlying3) (opensTail_cons rfl (opensS_string (by kernel_rfl) Tryz.underlying9) (opensTail_cons rfl (opensS_string (by kernel_rfl) Tryz.underlying9) (opensTail_last rfl (opensS_slice (by kernel_rfl) Tryz.underlying36 (opensS_struct (fun x : Pr.S45 => (x.f0, x.f1)) Tryz.underlying45 rfl (by kernel_rfl) (opensTail_cons rfl (opensS_string (by kernel_rfl) Tryz.underlying9) (opensTail_last rfl (opensS_string (by kernel_rfl) Tryz.underlying9))) (fun a => ⟨⟨a.1, a.2⟩, rfl⟩)))))))) (fun a => ⟨⟨a.1, a.2.1, a.2.2.1, a.2.2.2.1, a.2.2.2.2⟩, rfl⟩)) hf0 (fun n hn => by simpa using List.all_eq_true.1 hsz n (DataW.weights_mem_each (j := 0) rfl rfl n hn))
  obtain ⟨rfl, rfl, rfl⟩ : sa0 = A0 ∧ sn0 = l0.length ∧ sc0 = c0 := by simpa [Value.cells] using hv0
  obtain ⟨sa1, sn1, sc1, rfl⟩ := okWide_slice Tryz.underlying22 (hval 1 22 v1 rfl rfl)
  obtain ⟨fu1, hf1⟩ := h1
  obtain ⟨A1, c1, l1, hv1, hc1, hm1, hr1, hS1⟩ := opensS_row Tryz.underlying22 (opensS_struct (fun x : Pr.S38 => (x.f0, x.f1, x.f2, x.f3, x.f4)) Tryz.underlying38 rfl (by kernel_rfl) (opensTail_cons rfl (opensS_int (by kernel_rfl) Tryz.underlying3) (opensTail_cons rfl (opensS_int (by kernel_rfl) Tryz.underlying3) (opensTail_cons rfl (opensS_string (by kernel_rfl) Tryz.underlying9) (opensTail_cons rfl (opensS_string (by kernel_rfl) Tryz.underlying9) (opensTail_last rfl (opensS_slice (by kernel_rfl) Tryz.underlying36 (opensS_struct (fun x : Pr.S45 => (x.f0, x.f1)) Tryz.underlying45 rfl (by kernel_rfl) (opensTail_cons rfl (opensS_string (by kernel_rfl) Tryz.underlying9) (opensTail_last rfl (opensS_string (by kernel_rfl) Tryz.underlying9))) (fun a => ⟨⟨a.1, a.2⟩, rfl⟩)))))))) (fun a => ⟨⟨a.1, a.2.1, a.2.2.1, a.2.2.2.1, a.2.2.2.2⟩, rfl⟩)) hf1 (fun n hn => by simpa using List.all_eq_true.1 hsz n (DataW.weights_mem_each (j := 1) rfl rfl n hn))
  obtain ⟨rfl, rfl, rfl⟩ : sa1 = A1 ∧ sn1 = l1.length ∧ sc1 = c1 := by simpa [Value.cells] using hv1
  clear hA0 hval0 hsz0 hsz
  obtain ⟨k, hk⟩ := Pure.CleanReplaces l0 l1 hS0 (Nat.le_trans hc0 (Nat.le_trans hm0 (by decide))) hS1 (Nat.le_trans hc1 (Nat.le_trans hm1 (by decide)))
  refine (Pr.boltinglaw13_CleanReplaces.calls k sa0 sc0 l0 sa1 sc1 l1 true W hr0 hc0 hr1 hc1 hk (hT := ⟨rfl⟩)).mono fun e W' ⟨he, bel0⟩ => ?_
  have bel : Below W.heap.size W W' := by first | exact bel0 | exact below_of_drawn0 bel0
  subst he
  exact ⟨_, rfl, _, _, _, [], _, [], hW', trodAll_mk1 (shut_bool Tryz.underlying4 _), (trodAll_cons_mk (Below.trod laidOut (by kernel_rfl) (of_decide_eq_true (by kernel_rfl)) k0 bel lt0) (trodAll_cons_mk (Below.trod laidOut (by kernel_rfl) (of_decide_eq_true (by kernel_rfl)) k1 bel lt1) trodAll_mk0)), rfl, bel.frame _, fun h => by cases h⟩
theorem over : Rows.cleanReplacesRow.holds Tryz.pinned (OpenSpec.ofChange Rows.cleanReplacesSpec) :=
  OpenClaim.holds_of_wide 8 Tryz.f8 rfl rfl rfl rfl rfl rfl rfl ⟨rfl, rfl, rfl, rfl, rfl⟩ rfl rfl rfl rfl rfl (by kernel_rfl) Tryz.func8 (by kernel_rfl)
    (of_decide_eq_true (by kernel_rfl)) (by unfold Func.isWrapper; first | (rw [if_pos (by decide +kernel)]; kernel_rfl) | (rw [if_neg (by decide +kernel)]; exact ⟨rfl, rfl⟩))
    (fun os started H enc _ => lifted os started H enc)
theorem proved : Rows.CleanReplacesSaid := over
#print axioms proved
end Go.Proofs.YticacakoefojbaaGreat.cleanReplaces
namespace Go.Proofs.YticacakoefojbaaGreat
theorem cleanReplaces_holds : Rows.CleanReplacesSaid := cleanReplaces.proved
end Go.Proofs.YticacakoefojbaaGreat
