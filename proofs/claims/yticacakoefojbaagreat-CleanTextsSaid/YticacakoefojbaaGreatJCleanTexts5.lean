import Derived.Test.YticacakoefojbaaGreatJCleanTexts1
import Derived.Test.YticacakoefojbaaGreatJCleanTexts2
import Derived.Test.YticacakoefojbaaGreatJCleanTexts3
import Derived.Test.YticacakoefojbaaGreatJCleanTexts4
import Derived.Test.YticacakoefojbaaGreatRows
import Derived.WalkKit
import Derived.ProofKit
import Derived.OpenShut
import Derived.ShutString
import Derived.ChangeOld
import Derived.Below
import Derived.SizedLaws
namespace Go.Proofs.YticacakoefojbaaGreat.Pr
open Go.RowKit Go.Proofs.YticacakoefojbaaGreatW.PrintWords Go.Proofs.YticacakoefojbaaGreatW.PrintLast Go.Proofs.YticacakoefojbaaGreatW.PrintMore
attribute [local go_sem] max2_int min2_int max_two min_two max_three min_three max_four min_four   -- for this text's walks alone
set_option linter.unusedVariables false
set_option linter.unusedSimpArgs false

def boltinglaw13_bound.l0 : Nat → List (S38) → List (S38) → Int → Option ((List (S38)))
 | 0, _, _, _ => none
 | k + 1, x0, x3, x4 => if x4 < (x0.length : Int) then (if x4 < 40 then (if 0 ≤ x4 then (if 0 ≤ (mn (((rd_T38 x0 x4).f4).length : Int) 8) then (if (mn (((rd_T38 x0 x4).f4).length : Int) 8) ≤ (((rd_T38 x0 x4).f4).length : Int) then (if x3.length < 1954687338268 then (boltinglaw13_bound.l0 k x0 (x3 ++ [(⟨(rd_T38 x0 x4).f0, (rd_T38 x0 x4).f1, (rd_T38 x0 x4).f2, (rd_T38 x0 x4).f3, (((rd_T38 x0 x4).f4).take ((mn (((rd_T38 x0 x4).f4).length : Int) 8) : Int).toNat)⟩ : S38)]) (wrap64 (x4 + 1))) else (none)) else (none)) else (none)) else (none)) else (some x3)) else (some x3)
def boltinglaw13_bound.f (k : Nat) (l0 : List (S38)) : Option ((List (S38))) := boltinglaw13_bound.l0 k l0 (([] : List (S38))) 0
set_option maxHeartbeats 8000000 in
set_option maxRecDepth 100000 in
theorem boltinglaw13_bound.calls (k : Nat) (P0_ : Nat → Prop) (A0 : Option Addr) (c0 : Nat) (l0 : List (S38)) (r : List (S38)) (w : World) (hs0 : Kd.V k38 38 w w.heap.size (fun k_ => P0_ k_) (.slice A0 l0.length c0) l0) (h : boltinglaw13_bound.f k l0 = some r) :
  Calls Tryz.prog 10 #[.slice A0 l0.length c0] w fun e w' => ∃ v0_ : Value, e = .returned (v0_) ∧ Kd.N k38 38 w' w.heap.size (fun k_ => (P0_ k_ ∨ w.heap.size ≤ k_)) v0_ r ∧ Below w.heap.size w w' := by
 have hu38 := Tryz.underlying38
 have HO0 := Aside0.mk (show Kd.V k38 38 w w.heap.size (fun k_ => (P0_ k_ ∨ w.heap.size ≤ k_)) (.slice A0 l0.length c0) l0 from Kd.V_mono hs0 (fun k_ hk => .inl hk))
 have HB := Aside0.mk (Below.refl w.heap.size w)
 have H : (boltinglaw13_bound.l0 k l0 (([] : List (S38))) 0) = some r := h
 clear h
 obtain ⟨y294, hy294⟩ : ∃ y_ : List (S38), y_ = (([] : List (S38))) := ⟨_, rfl⟩
 replace H : (boltinglaw13_bound.l0 k l0 y294 0) = some r := by first | (rw [hy294]; with_reducible exact H) | (have H2_ := (Option.bind_some _ _).symm.trans H; rw [hy294]; with_reducible exact H2_) | (have H2_ := (Option.bind_some _ _).symm.trans H; with_reducible exact H2_) | with_reducible exact H | (rw [hy294]; exact H) | exact H
 have Ny294 := Aside0.mk hy294
 clear hy294
 have H' := Aside0.mk H
 clear H
 go_enter Tryz.func10, Tryz.ntmps10
 go_wp2_with (first | ((with_reducible refine gate_dst (N := 6) rfl ?_); refine Kd.N_lit k38 _ 38 ?hg (N' := 6) ?hd (xs := ([] : List (S38))) (inner := []) (ok := (fun k_ => (P0_ k_ ∨ w.heap.size ≤ k_))) (okp := (fun k_ => (P0_ k_ ∨ w.heap.size ≤ k_))) ?hr ?hp (fun _ hk => hk) ((show ∀ k_, w.heap.size ≤ k_ → (fun k_ => (P0_ k_ ∨ w.heap.size ≤ k_)) k_ from fun k_ hk => (.inr (Nat.le_trans (below_size (zb HB)) hk))) _ (Nat.le_refl _)) (Below.refl _ _) (Nat.le_refl _) (by simp) ?_; (case hd => rfl); (case hg => rfl); (case hr => first | (go_simp; done) | (go_simp; rfl)); (case hp => exact (Reps.none _ _)); intro v295 w2 ho3 hb hg_ hnew_; clear hg_ hnew_; (first | rw [← Ny294.out] at ho3 | (simp only [Int.reduceToNat] at ho3; rw [← Ny294.out] at ho3)); have n0_ := Aside0.mk (Kd.V_elder' HO0.out (Kd.N_base ho3) hb); have n1_ := Aside0.mk (Kd.N_lower ho3 (below_size (zb HB))); have n2_ := Aside0.mk (below_step (zb HB) hb); clear HO0; clear HB; have HO0 := n0_; have HO296 := n1_; have HB := n2_; clear n0_ n1_ n2_; clear hb ho3))
 go_loopg [3, 4] k (fun kq v3 v4 w' => ∃ (x3_1 : List (S38)) (x4_1 : Int), v4 = .int .i64 x4_1 ∧ Aside0 (boltinglaw13_bound.l0 kq l0 x3_1 x4_1 = some r) ∧ Aside0 (kq ≤ k) ∧ Aside0 (Kd.V k38 38 w' w.heap.size (fun k_ => (P0_ k_ ∨ w.heap.size ≤ k_) ∧ some k_ ≠ (v3 : Value).ownBlock) (.slice A0 l0.length c0) l0) ∧ Aside0 (Kd.N k38 38 w' w.heap.size (fun k_ => (P0_ k_ ∨ w.heap.size ≤ k_)) v3 x3_1) ∧ Aside0 (Below w.heap.size w w'))
 case atStart => exact ⟨(y294), (0), zr, H', ⟨Nat.le_refl _⟩, ⟨by exact HO0.out⟩, ⟨by exact HO296.out⟩, ⟨zb HB⟩⟩
 case round =>
  clear H'
  try clear c1
  try clear p2
  obtain ⟨x3_1, x4_1, rfl, HA, HK1, HO_0, HO_3, HB⟩ := hrel
  cases gk with
  | zero => exact absurd HA.out (by simp [boltinglaw13_bound.l0])
  | succ k1 =>
   have H := HA.out
   clear HA
   simp only [boltinglaw13_bound.l0] at H
   by_cases c4 : x4_1 < (l0.length : Int)
   ·rw [if_pos c4] at H
    have c4b0 : decide (x4_1 < (l0.length : Int)) = true := decide_eq_true c4
    clear c4
    by_cases c5 : x4_1 < 40
    ·rw [if_pos c5] at H
     have c5b0 : decide (x4_1 < 40) = true := decide_eq_true c5
     clear c5
     by_cases c6 : 0 ≤ x4_1
     ·rw [if_pos c6] at H
      have c6b0 : decide (0 ≤ x4_1) = true := decide_eq_true c6
      clear c6
      obtain ⟨ji7, hji7⟩ : ∃ j_ : Int, (mn (((rd_T38 l0 x4_1).f4).length : Int) 8) = j_ := ⟨_, rfl⟩
      replace H : (if 0 ≤ (ji7) then (if (ji7) ≤ (((rd_T38 l0 x4_1).f4).length : Int) then (if x3_1.length < 1954687338268 then (boltinglaw13_bound.l0 k1 l0 (x3_1 ++ [(⟨(rd_T38 l0 x4_1).f0, (rd_T38 l0 x4_1).f1, (rd_T38 l0 x4_1).f2, (rd_T38 l0 x4_1).f3, (((rd_T38 l0 x4_1).f4).take ((ji7) : Int).toNat)⟩ : S38)]) (wrap64 (x4_1 + 1))) else (none)) else (none)) else (none)) = some r := by first | (rw [hji7] at H; exact H) | (simp only [hji7] at H ⊢; exact H)
      have hji7_ : (if 8 < (((rd_T38 l0 x4_1).f4).length : Int) then 8 else (((rd_T38 l0 x4_1).f4).length : Int)) = ji7 := hji7
      by_cases c8 : 0 ≤ (ji7)
      ·rw [if_pos c8] at H
       have c8b0 := eq_true c8
       have c8b1 : decide (0 ≤ (ji7)) = true := decide_eq_true c8
       clear c8
       by_cases c9 : (ji7) ≤ (((rd_T38 l0 x4_1).f4).length : Int)
       ·rw [if_pos c9] at H
        have c9b0 := eq_true c9
        have c9b1 : decide ((ji7) ≤ (((rd_T38 l0 x4_1).f4).length : Int)) = true := decide_eq_true c9
        clear c9
        obtain ⟨y299, hy299⟩ : ∃ y_ : List (S45), y_ = (((rd_T38 l0 x4_1).f4).take ((ji7) : Int).toNat) := ⟨_, rfl⟩
        replace H : (if x3_1.length < 1954687338268 then (boltinglaw13_bound.l0 k1 l0 (x3_1 ++ [(⟨(rd_T38 l0 x4_1).f0, (rd_T38 l0 x4_1).f1, (rd_T38 l0 x4_1).f2, (rd_T38 l0 x4_1).f3, y299⟩ : S38)]) (wrap64 (x4_1 + 1))) else (none)) = some r := by first | (rw [hy299]; with_reducible exact H) | (have H2_ := (Option.bind_some _ _).symm.trans H; rw [hy299]; with_reducible exact H2_) | (have H2_ := (Option.bind_some _ _).symm.trans H; with_reducible exact H2_) | with_reducible exact H | (rw [hy299]; exact H) | exact H
        have Ny299 := Aside0.mk hy299
        clear hy299
        by_cases c10 : x3_1.length < 1954687338268
        ·rw [if_pos c10] at H
         have LMc10 := Aside0.mk c10
         clear c10
         obtain ⟨y304, hy304⟩ : ∃ y_ : List (S38), y_ = (x3_1 ++ [(⟨(rd_T38 l0 x4_1).f0, (rd_T38 l0 x4_1).f1, (rd_T38 l0 x4_1).f2, (rd_T38 l0 x4_1).f3, y299⟩ : S38)]) := ⟨_, rfl⟩
         replace H : (boltinglaw13_bound.l0 k1 l0 y304 (wrap64 (x4_1 + 1))) = some r := by first | (rw [hy304]; with_reducible exact H) | (have H2_ := (Option.bind_some _ _).symm.trans H; rw [hy304]; with_reducible exact H2_) | (have H2_ := (Option.bind_some _ _).symm.trans H; with_reducible exact H2_) | with_reducible exact H | (rw [hy304]; exact H) | exact H
         have Ny304 := Aside0.mk hy304
         clear hy304
         have H' := Aside0.mk H
         clear H
         have p297 : 0 ≤ (x4_1 : Int) := of_decide_eq_true za
         have q297 : x4_1 < (l0.length : Int) := of_decide_eq_true za
         obtain ⟨ad297, A297_4, c297_4, e297, hx297_0, hx297_1, hx297_2, hx297_3, hx297_4, hl297_4, hi297_4⟩ := at_T38 (Kd.V_reads' HO_0.out).2.2 x4_1 p297 q297
         cases e297
         obtain ⟨ce297, hce297, hMe297, hcc297⟩ := Kd.V_get HO_0.out z38 x4_1 p297 (by first | exact q297 | exact of_decide_eq_true za | (have e_ := (Kd.V_reads' HO_0.out).1; omega))
         obtain ⟨ua297_4, uc297_4, rfl, ul297_4, ge297_4⟩ := k38_openF hMe297
         have hv297_4 := hcc297 4 _ rfl
         rw [add_field _ _ 4 (by omega)] at hv297_4
         replace hv297_4 := Option.some.inj (hv297_4.symm.trans hx297_4)
         injection hv297_4 with hva_ hvn_ hvc_
         rw [hva_] at ge297_4
         rw [hvc_] at ul297_4
         have HL297_4 := Aside0.mk (show Kd.V k45 45 _ w.heap.size _ _ ((rd_T38 l0 x4_1).f4) from Kd.V_mk ul297_4 ge297_4)
         clear hva_ hvn_ hvc_ ge297_4 ul297_4
         clear hcc297 hce297
         have HR297_4 := Aside0.mk hi297_4
         have HC297_4 := Aside0.mk hl297_4
         clear hi297_4 hl297_4
         replace p297 := eq_true p297
         replace q297 := eq_true q297
         go_wp2_with (first | ((with_reducible refine gate_dst (N := 5) rfl ?_); refine box_event ?hg (N := 5) ?hd (cs := #[.int .i64 0, .int .i64 0, .string (⟨#[]⟩ : ByteArray), .string (⟨#[]⟩ : ByteArray), .slice none 0 0]) (t := 38) ?hr ?_; (case hd => rfl); (case hg => rfl); (case hr => first | (go_simp; done) | (go_simp; rfl)); intro gb298 hg w11 hbox hb; have n0_ := Aside0.mk (Kd.V_below (Kd.V_elderB HO_0.out gb298 (Nat.le_of_eq hg.symm)) hb); have n1_ := Aside0.mk (Kd.N_below (Kd.N_elderB HO_3.out gb298 (Nat.le_of_eq hg.symm)) hb); have n2_ := Aside0.mk (Kd.V_below (Kd.V_elderB HL297_4.out gb298 (Nat.le_of_eq hg.symm)) hb); have n4_ := Aside0.mk (below_step (zb HB) hb); have n5_ := Aside0.mk (hbox); have n7_ := Aside0.mk ((by rw [hg]; exact (below_size (zb HB)) : w.heap.size ≤ gb298)); clear HO_0; clear HO_3; clear HL297_4; clear HR297_4; clear HB; have HO_0 := n0_; have HO_3 := n1_; have HL297_4 := n2_; have HB := n4_; have BK298 := n5_; have GE298 := n7_; clear n0_ n1_ n2_ n4_ n5_ n7_; clear hb hbox hg; obtain ⟨hcz12_0, hcz12_1, hcz12_2, hcz12_3, hcz12_4, hfz12_0, hfz12_1, hfz12_2, hfz12_3, hfz12_4⟩ := cz5 BK298.out) | ((with_reducible refine gate_store (t := 38) (p := 5) rfl ?_); refine store_event (t := 38) (p := 5) (v := ?vo_w13) (w1 := (((((w11.setCell ⟨gb298, 0, none⟩ (.int .i64 ((rd_T38 l0 x4_1).f0))).setCell ⟨gb298, 1, none⟩ (.int .i64 ((rd_T38 l0 x4_1).f1))).setCell ⟨gb298, 2, none⟩ (.string ((rd_T38 l0 x4_1).f2))).setCell ⟨gb298, 3, none⟩ (.string ((rd_T38 l0 x4_1).f3))).setCell ⟨gb298, 4, none⟩ (.slice A297_4 ((rd_T38 l0 x4_1).f4).length c297_4))) ?hg ?ho ?hn ?hr ?_; (case ho => rfl); (case hg => rfl); (case hn => rfl); (case hr => first | (go_simp; done) | (go_simp; rfl)); intro w13 hw; have n0_ : Aside0 (Kd.V k38 38 w13 w.heap.size (fun k_ => (P0_ k_ ∨ w.heap.size ≤ k_) ∧ some k_ ≠ (u3 : Value).ownBlock ∧ k_ ≠ gb298) (.slice (some ad297) l0.length c0) l0) := ⟨(by rw [hw]; exact (by exact Kd.V_mono (Vf5 (g := gb298) (Kd.V_mono HO_0.out (fun k_ hk => (⟨hk, hk.2⟩ : _ ∧ k_ ≠ gb298))) (fun _ hk => hk.2) (.int .i64 ((rd_T38 l0 x4_1).f0)) (.int .i64 ((rd_T38 l0 x4_1).f1)) (.string ((rd_T38 l0 x4_1).f2)) (.string ((rd_T38 l0 x4_1).f3)) (.slice A297_4 ((rd_T38 l0 x4_1).f4).length c297_4)) (fun _ hk => ⟨hk.1.1.1, ⟨hk.1.1.2, hk.1.2⟩⟩)))⟩; have n1_ : Aside0 (Kd.N k38 38 w13 w.heap.size (fun k_ => (P0_ k_ ∨ w.heap.size ≤ k_) ∧ k_ ≠ gb298) u3 x3_1) := ⟨(by rw [hw]; exact (by exact Kd.N_mono (Nf5 (g := gb298) (Kd.N_mono HO_3.out (fun k_ hk => (⟨hk, hk.2⟩ : _ ∧ k_ ≠ gb298))) (fun _ hk => hk.2) (.int .i64 ((rd_T38 l0 x4_1).f0)) (.int .i64 ((rd_T38 l0 x4_1).f1)) (.string ((rd_T38 l0 x4_1).f2)) (.string ((rd_T38 l0 x4_1).f3)) (.slice A297_4 ((rd_T38 l0 x4_1).f4).length c297_4)) (fun _ hk => ⟨hk.1.1, hk.1.2⟩)))⟩; have n2_ : Aside0 (Kd.V k45 45 w13 w.heap.size (fun k_ => (P0_ k_ ∨ w.heap.size ≤ k_) ∧ some k_ ≠ (u3 : Value).ownBlock ∧ k_ ≠ gb298) (.slice A297_4 ((rd_T38 l0 x4_1).f4).length c297_4) ((rd_T38 l0 x4_1).f4)) := ⟨(by rw [hw]; exact (by exact Kd.V_mono (Vf5 (g := gb298) (Kd.V_mono HL297_4.out (fun k_ hk => (⟨hk, hk.2⟩ : _ ∧ k_ ≠ gb298))) (fun _ hk => hk.2) (.int .i64 ((rd_T38 l0 x4_1).f0)) (.int .i64 ((rd_T38 l0 x4_1).f1)) (.string ((rd_T38 l0 x4_1).f2)) (.string ((rd_T38 l0 x4_1).f3)) (.slice A297_4 ((rd_T38 l0 x4_1).f4).length c297_4)) (fun _ hk => ⟨hk.1.1.1, ⟨hk.1.1.2, hk.1.2⟩⟩)))⟩; have n3_ : Aside0 (w13.heap[gb298]? = some (.cells #[.int .i64 ((rd_T38 l0 x4_1).f0), .int .i64 ((rd_T38 l0 x4_1).f1), .string ((rd_T38 l0 x4_1).f2), .string ((rd_T38 l0 x4_1).f3), .slice A297_4 ((rd_T38 l0 x4_1).f4).length c297_4] 38 (0, 0))) := ⟨(by rw [hw]; exact (by refine blk_put (cs := #[.int .i64 ((rd_T38 l0 x4_1).f0), .int .i64 ((rd_T38 l0 x4_1).f1), .string ((rd_T38 l0 x4_1).f2), .string ((rd_T38 l0 x4_1).f3), .slice none 0 0]) ?_ 4 _ rfl; refine blk_put (cs := #[.int .i64 ((rd_T38 l0 x4_1).f0), .int .i64 ((rd_T38 l0 x4_1).f1), .string ((rd_T38 l0 x4_1).f2), .string (⟨#[]⟩ : ByteArray), .slice none 0 0]) ?_ 3 _ rfl; refine blk_put (cs := #[.int .i64 ((rd_T38 l0 x4_1).f0), .int .i64 ((rd_T38 l0 x4_1).f1), .string (⟨#[]⟩ : ByteArray), .string (⟨#[]⟩ : ByteArray), .slice none 0 0]) ?_ 2 _ rfl; refine blk_put (cs := #[.int .i64 ((rd_T38 l0 x4_1).f0), .int .i64 0, .string (⟨#[]⟩ : ByteArray), .string (⟨#[]⟩ : ByteArray), .slice none 0 0]) ?_ 1 _ rfl; refine blk_put (cs := #[.int .i64 0, .int .i64 0, .string (⟨#[]⟩ : ByteArray), .string (⟨#[]⟩ : ByteArray), .slice none 0 0]) ?_ 0 _ rfl; exact BK298.out))⟩; have n4_ : Aside0 (Below w.heap.size w w13) := ⟨(by rw [hw]; exact (zb1 HB GE298))⟩; clear hw; clear HO_0; clear HO_3; clear HL297_4; clear BK298; clear HB; have HO_0 := n0_; have HO_3 := n1_; have HL297_4 := n2_; have BK298 := n3_; have HB := n4_; clear n0_ n1_ n2_ n3_ n4_; obtain ⟨hcz14_0, hcz14_1, hcz14_2, hcz14_3, hcz14_4, hfz14_0, hfz14_1, hfz14_2, hfz14_3, hfz14_4⟩ := cz5 BK298.out; have q15 : ((ji7) : Int) ≤ ((((rd_T38 l0 x4_1).f4).length : Int) : Int) := of_decide_eq_true za; obtain ⟨i015, hi015, _, hsz15, _⟩ := info_parts info45; have hroom15 : ((rd_T38 l0 x4_1).f4).length ≤ c297_4 := HC297_4.out; have hC15 : Kd.F k45 _ _ A297_4 ((rd_T38 l0 x4_1).f4).length ((rd_T38 l0 x4_1).f4) := (Kd.V_at (base := w.heap.size) HL297_4.out).2.2; have hcut15 := cut_to (P := Tryz.prog) 36 45 .i64 Tryz.underlying36 hi015 A297_4 ((rd_T38 l0 x4_1).f4).length c297_4 (ji7) (of_decide_eq_true za) q15 hroom15; have hr15 := Kd.F_take (m := ((ji7) : Int).toNat) hC15 (by omega); have hy15 : y299.length = ((ji7) : Int).toNat := (by rw [Ny299.out, List.length_take]; omega); rw [← Ny299.out] at hr15; rw [← hy15] at hcut15; have HO303 := Aside0.mk (show Kd.V k45 45 _ w.heap.size _ (.slice A297_4 y299.length c297_4) y299 from Kd.V_mk (by omega) hr15); have HC303 := Aside0.mk (show y299.length ≤ c297_4 from by omega); clear hr15 hC15 hroom15 hi015 hsz15; have KY15 := Aside0.mk hy15; clear hy15; replace q15 := eq_true q15) | ((with_reducible refine gate_store (t := 36) (p := 28) rfl ?_); refine store_event (t := 36) (p := 28) (v := ?vo_w16) (w1 := (w13.setCell ⟨gb298, 4, none⟩ (.slice A297_4 y299.length c297_4))) ?hg ?ho ?hn ?hr ?_; (case ho => rfl); (case hg => rfl); (case hn => rfl); (case hr => first | (go_simp; done) | (go_simp; rfl)); intro w16 hw; have n0_ : Aside0 (Kd.V k38 38 w16 w.heap.size (fun k_ => (P0_ k_ ∨ w.heap.size ≤ k_) ∧ some k_ ≠ (u3 : Value).ownBlock ∧ k_ ≠ gb298) (.slice (some ad297) l0.length c0) l0) := ⟨(by rw [hw]; exact (by exact Kd.V_mono (Kd.V_far (p := ⟨gb298, 4, none⟩) (Kd.V_mono HO_0.out (fun k_ hk => (⟨hk, hk.2.2⟩ : _ ∧ k_ ≠ gb298))) (fun _ hk => hk.2) (.slice A297_4 y299.length c297_4)) (fun _ hk => ⟨hk.1.1, ⟨hk.1.2.1, hk.1.2.2⟩⟩)))⟩; have n1_ : Aside0 (Kd.N k38 38 w16 w.heap.size (fun k_ => (P0_ k_ ∨ w.heap.size ≤ k_) ∧ k_ ≠ gb298) u3 x3_1) := ⟨(by rw [hw]; exact (by exact Kd.N_mono (Kd.N_far (p := ⟨gb298, 4, none⟩) (Kd.N_mono HO_3.out (fun k_ hk => (⟨hk, hk.2⟩ : _ ∧ k_ ≠ gb298))) (fun _ hk => hk.2) (.slice A297_4 y299.length c297_4)) (fun _ hk => ⟨hk.1.1, hk.1.2⟩)))⟩; have n3_ : Aside0 (Kd.V k45 45 w16 w.heap.size (fun k_ => (P0_ k_ ∨ w.heap.size ≤ k_) ∧ some k_ ≠ (u3 : Value).ownBlock ∧ k_ ≠ gb298) (.slice A297_4 y299.length c297_4) y299) := ⟨(by rw [hw]; exact (by exact Kd.V_mono (Kd.V_far (p := ⟨gb298, 4, none⟩) (Kd.V_mono HO303.out (fun k_ hk => (⟨hk, hk.2.2⟩ : _ ∧ k_ ≠ gb298))) (fun _ hk => hk.2) (.slice A297_4 y299.length c297_4)) (fun _ hk => ⟨hk.1.1, ⟨hk.1.2.1, hk.1.2.2⟩⟩)))⟩; have n4_ : Aside0 (w16.heap[gb298]? = some (.cells #[.int .i64 ((rd_T38 l0 x4_1).f0), .int .i64 ((rd_T38 l0 x4_1).f1), .string ((rd_T38 l0 x4_1).f2), .string ((rd_T38 l0 x4_1).f3), .slice A297_4 y299.length c297_4] 38 (0, 0))) := ⟨(by rw [hw]; exact (by refine blk_put (cs := #[.int .i64 ((rd_T38 l0 x4_1).f0), .int .i64 ((rd_T38 l0 x4_1).f1), .string ((rd_T38 l0 x4_1).f2), .string ((rd_T38 l0 x4_1).f3), .slice A297_4 ((rd_T38 l0 x4_1).f4).length c297_4]) ?_ 4 _ rfl; exact BK298.out))⟩; have n5_ : Aside0 (Below w.heap.size w w16) := ⟨(by rw [hw]; exact (zb1 HB GE298))⟩; clear hw; clear HO_0; clear HO_3; clear HL297_4; clear HO303; clear BK298; clear HB; have HO_0 := n0_; have HO_3 := n1_; have HO303 := n3_; have BK298 := n4_; have HB := n5_; clear n0_ n1_ n3_ n4_ n5_; obtain ⟨hcz17_0, hcz17_1, hcz17_2, hcz17_3, hcz17_4, hfz17_0, hfz17_1, hfz17_2, hfz17_3, hfz17_4⟩ := cz5 BK298.out) | ((with_reducible refine gate_builtin (b := .append) (xs := #[.tmp 29, .tmp 31]) rfl ?_); at_builtin; refine Kd.N_append k38 (w0 := w) w.heap.size rfl (.tmp 29) (.tmp 31) 22 38 (.agg #[(.int .i64 0), (.int .i64 0), (.string ⟨#[]⟩), (.string ⟨#[]⟩), (.slice none 0 0)]) 72 rfl Tryz.underlying22 info38 rfl (by decide) (by omega) u3 x3_1 (⟨(rd_T38 l0 x4_1).f0, (rd_T38 l0 x4_1).f1, (rd_T38 l0 x4_1).f2, (rd_T38 l0 x4_1).f3, y299⟩ : S38) [.int .i64 ((rd_T38 l0 x4_1).f0), .int .i64 ((rd_T38 l0 x4_1).f1), .string ((rd_T38 l0 x4_1).f2), .string ((rd_T38 l0 x4_1).f3), .slice A297_4 y299.length c297_4] (fun k_ => (P0_ k_ ∨ w.heap.size ≤ k_) ∧ k_ ≠ gb298) (fun k_ => ((fun k_ => (P0_ k_ ∨ w.heap.size ≤ k_) ∧ k_ ≠ gb298)) k_ ∧ some k_ ≠ (u3 : Value).ownBlock) rfl rfl ?aP (fun _ hk => hk) ?aF ?aO ?aB ?aS ?aL ?_; (case aP => exact (k38_mkF _ _ (⟨(rd_T38 l0 x4_1).f0, (rd_T38 l0 x4_1).f1, (rd_T38 l0 x4_1).f2, (rd_T38 l0 x4_1).f3, y299⟩ : S38) (Kd.V_reads' (Kd.V_mono (ok' := (fun k_ => ((fun k_ => (P0_ k_ ∨ w.heap.size ≤ k_) ∧ k_ ≠ gb298)) k_ ∧ some k_ ≠ (u3 : Value).ownBlock)) (HO303.out) (fun k_ hk => ⟨⟨hk.1, hk.2.2⟩, hk.2.1⟩))).2.1 (Kd.V_F (Kd.V_mono (ok' := (fun k_ => ((fun k_ => (P0_ k_ ∨ w.heap.size ≤ k_) ∧ k_ ≠ gb298)) k_ ∧ some k_ ≠ (u3 : Value).ownBlock)) (HO303.out) (fun k_ hk => ⟨⟨hk.1, hk.2.2⟩, hk.2.1⟩))))); (case aB => exact (zb1 HB GE298)); (case aF => exact (fun k_ hk => ⟨(.inr (Nat.le_trans (below_size (zb1 HB GE298)) hk)), Kd.freshB BK298.out k_ hk⟩)); (case aO => exact HO_3.out); (case aS => exact (below_size (zb1 HB GE298))); (case aL => have := LMc10.out; omega); intro v305 w18 ho hb hg hat; rw [← Ny304.out] at ho; have n0_ := Aside0.mk (Kd.V_afterv (ok := (fun k_ => (P0_ k_ ∨ w.heap.size ≤ k_) ∧ k_ ≠ gb298)) (by exact Kd.V_mono HO_0.out (fun _ hk => ⟨⟨hk.1, hk.2.2⟩, hk.2.1⟩)) hg hat); have n4_ := Aside0.mk (hb); have n5_ := Aside0.mk (ho); clear HO_0; clear BK298; clear HO303; clear HB; clear HO_3; have HO_0 := n0_; have HB := n4_; have HO306 := n5_; clear n0_ n4_ n5_; clear ho hb hg hat))
         go_roundg k1
         case measure => have := HK1.out; omega
         case rel => exact ⟨(y304), (wrap64 (x4_1 + 1)), zr, H', ⟨by have := HK1.out; omega⟩, ⟨by exact Kd.V_mono HO_0.out (fun _ hk => ⟨hk.1.1, hk.2⟩)⟩, ⟨by exact Kd.N_mono HO306.out (fun _ hk => hk.1)⟩, ⟨zb1 HB GE298⟩⟩
        ·rw [if_neg c10] at H
         exact absurd H (by simp)
       ·rw [if_neg c9] at H
        exact absurd H (by simp)
      ·rw [if_neg c8] at H
       exact absurd H (by simp)
     ·rw [if_neg c6] at H
      exact absurd H (by simp)
    ·rw [if_neg c5] at H
     have c5b0 : decide (x4_1 < 40) = false := decide_eq_false c5
     clear c5
     obtain rfl := Option.some.inj H
     go_wp2
     go_ret
     exact ⟨_, ze, by exact HO_3.out, zb HB⟩
   ·rw [if_neg c4] at H
    have c4b0 : decide (x4_1 < (l0.length : Int)) = false := decide_eq_false c4
    clear c4
    obtain rfl := Option.some.inj H
    go_wp2
    go_ret
    exact ⟨_, ze, by exact HO_3.out, zb HB⟩

end Go.Proofs.YticacakoefojbaaGreat.Pr
namespace Go.Proofs.YticacakoefojbaaGreat.Pr
open Go.RowKit Go.Proofs.YticacakoefojbaaGreatW.PrintWords Go.Proofs.YticacakoefojbaaGreatW.PrintLast Go.Proofs.YticacakoefojbaaGreatW.PrintMore
attribute [local go_sem] max2_int min2_int max_two min_two max_three min_three max_four min_four   -- for this text's walks alone
set_option linter.unusedVariables false
set_option linter.unusedSimpArgs false

mutual
def risk_Safe.l0 : Nat → List (S38) → Int → Int → Option (Bool)
 | 0, _, _, _ => none
 | k + 1, x7, x8, x9 => if x9 < x8 then (if 0 ≤ x9 then (if x9 < (x7.length : Int) then (if ((rd_T38 x7 x9).f1) = 0 then ((risk_Element.f ((rd_T38 x7 x9).f2)).bind fun t470 => (if t470 = true then (some false) else (risk_Safe.l1 k x7 x8 x9 ((rd_T38 x7 x9).f4) (((rd_T38 x7 x9).f4).length : Int) 0 ((rd_T38 x7 x9).f0) ((rd_T38 x7 x9).f1) ((rd_T38 x7 x9).f2) ((rd_T38 x7 x9).f3) ((rd_T38 x7 x9).f4)))) else (risk_Safe.l0 k x7 x8 (wrap64 (x9 + 1)))) else (none)) else (none)) else (some true)
def risk_Safe.l1 : Nat → List (S38) → Int → Int → List (S45) → Int → Int → Int → Int → ByteArray → ByteArray → List (S45) → Option (Bool)
 | 0, _, _, _, _, _, _, _, _, _, _, _ => none
 | k + 1, x7, x8, x9, x20, x21, x22, x470000, x470001, x470002, x470003, x470004 => if x22 < x21 then (if 0 ≤ x22 then (if x22 < (x20.length : Int) then ((risk_Attr.f x470002 ((rd_T45 x20 x22).f0) ((rd_T45 x20 x22).f1)).bind fun t473 => (if t473 = true then (some false) else (risk_Safe.l1 k x7 x8 x9 x20 x21 (wrap64 (x22 + 1)) x470000 x470001 x470002 x470003 x470004))) else (none)) else (none)) else (risk_Safe.l0 k x7 x8 (wrap64 (x9 + 1)))
end
def risk_Safe.f (k : Nat) (l0 : List (S38)) : Option (Bool) := risk_Safe.l0 k l0 (l0.length : Int) 0
mutual
def boltingref04_Text.j0 : Nat → List (S38) → Int → ByteArray → Int → Int → Option (ByteArray)
 | 0, _, _, _, _, _ => none
 | k + 1, x0, x1, x5, x6, x7 => boltingref04_Text.l0 k x0 x1 x5 x7 x6
def boltingref04_Text.l0 : Nat → List (S38) → Int → ByteArray → Int → Int → Option (ByteArray)
 | 0, _, _, _, _, _ => none
 | k + 1, x0, x1, x5, x7, x8 => if x8 < x7 then (boltingref04_Text.j2 k x0 x1 x5 x7 x8 (decide (x1 ≥ (-1)))) else (boltingref04_Text.j2 k x0 x1 x5 x7 x8 false)
def boltingref04_Text.j2 : Nat → List (S38) → Int → ByteArray → Int → Int → Bool → Option (ByteArray)
 | 0, _, _, _, _, _, _ => none
 | k + 1, x0, x1, x5, x7, x8, x27 => if x27 = true then (if 0 ≤ x8 then (if x8 < (x0.length : Int) then (if ((rd_T38 x0 x8).f1) = 1 then (if x5.size + ((rd_T38 x0 x8).f3).size ≤ 9223372036854775807 then (boltingref04_Text.l0 k x0 x1 (x5 ++ ((rd_T38 x0 x8).f3)) x7 (wrap64 (x8 + 1))) else (none)) else (boltingref04_Text.l0 k x0 x1 x5 x7 (wrap64 (x8 + 1)))) else (none)) else (none)) else (some x5)
end
def boltingref04_Text.f (k : Nat) (l0 : List (S38)) (a1 : Int) : Option (ByteArray) := if a1 ≥ 0 then ((boltingref04_End.f k l0 a1).bind fun t474 => (boltingref04_Text.j0 k l0 a1 (⟨#[]⟩ : ByteArray) (mn a1 (l0.length : Int)) t474)) else (boltingref04_Text.j0 k l0 a1 (⟨#[]⟩ : ByteArray) 0 (l0.length : Int))
set_option maxHeartbeats 8000000 in
set_option maxRecDepth 100000 in
theorem boltingref04_Text.calls (k : Nat) (A0 : Option Addr) (c0 : Nat) (l0 : List (S38)) (a1 : Int) (r : ByteArray) (w : World) (hr0 : Kd.C k38 w A0 l0.length l0) (hc0 : l0.length ≤ c0) (h : boltingref04_Text.f k l0 a1 = some r) :
  Calls Tryz.prog 19 #[.slice A0 l0.length c0, .int .i64 a1] w fun e w' => e = .returned (.string r) ∧ Below w.heap.size w w' := by
 have HR0 := Aside0.mk hr0
 have HC0 := Aside0.mk hc0
 clear hr0 hc0
 have HB := Aside0.mk (Below.refl w.heap.size w)
 have H : (if a1 ≥ 0 then ((boltingref04_End.f k l0 a1).bind fun t474 => (boltingref04_Text.j0 k l0 a1 (⟨#[]⟩ : ByteArray) (mn a1 (l0.length : Int)) t474)) else (boltingref04_Text.j0 k l0 a1 (⟨#[]⟩ : ByteArray) 0 (l0.length : Int))) = some r := h
 clear h
 have HC3 := Aside0.mk H
 clear H
 go_enter Tryz.func19, Tryz.ntmps19
 go_upto_if 12 with (fail)
 go_cut [6, 7] (fun v6 v7 wc => ∃ (kq : Nat) (x6_2 : Int) (x7_2 : Int), v6 = .int .i64 x6_2 ∧ v7 = .int .i64 x7_2 ∧ Aside0 (boltingref04_Text.j0 kq l0 a1 (⟨#[]⟩ : ByteArray) x6_2 x7_2 = some r) ∧ Aside0 (kq ≤ k) ∧ Aside0 (Below w.heap.size w wc))
 case first =>
  have H := HC3.out
  clear HC3
  by_cases c4 : a1 ≥ 0
  ·rw [if_pos c4] at H
   have c4b0 : decide (0 ≤ a1) = true := decide_eq_true c4
   clear c4
   (first | rw [c4b0] | (simp only [i64_w, i32_w]; rw [c4b0]) | skip)
   obtain ⟨ji5, hji5⟩ : ∃ j_ : Int, (mn a1 (l0.length : Int)) = j_ := ⟨_, rfl⟩
   replace H : ((boltingref04_End.f k l0 a1).bind fun t474 => (boltingref04_Text.j0 k l0 a1 (⟨#[]⟩ : ByteArray) ji5 t474)) = some r := by first | (rw [hji5] at H; exact H) | (simp only [hji5] at H ⊢; exact H)
   have hji5_ : (if (l0.length : Int) < a1 then (l0.length : Int) else a1) = ji5 := hji5
   replace H := Option.bind_eq_some_iff.mp H
   obtain ⟨t474, A60, H⟩ := H
   have A6 := Aside0.mk A60
   clear A60
   have H' := Aside0.mk H
   clear H
   go_wp2_with (first | ((with_reducible refine gate_callee (f := 43) rfl ?_); refine goesL_ (some 19) rfl rfl Tryz.func43 (by kernel_rfl) rfl #[.slice A0 l0.length c0, .int .i64 a1] rfl zm ?_; (with_reducible refine (boltingref04_End.calls k _ _ l0 a1 t474 _ ?side1 ?side2 A6.out).mono ?_); (case side1 => exact zc (Kd.C_below HR0.out HB.out)); (case side2 => exact HC0.out); rintro e w' ⟨rfl, ⟨nd, rfl⟩⟩; refine ⟨_, rfl, ?_⟩))
   go_meet
   case rel => exact ⟨_, (ji5), (t474), (by first | rfl | (simp; done) | (simp only [← hji5] <;> (first | rfl | simp)) | (simp [*]; done)), zr, H', ⟨by first | omega | exact Nat.le_refl _⟩, ⟨zb HB⟩⟩
  ·rw [if_neg c4] at H
   have c4b0 : decide (0 ≤ a1) = false := decide_eq_false c4
   clear c4
   (first | rw [c4b0] | (simp only [i64_w, i32_w]; rw [c4b0]) | skip)
   have H' := Aside0.mk H
   clear H
   go_wp2
   go_meet
   case rel => exact ⟨_, (0), ((l0.length : Int)), zr, zr, H', ⟨by first | omega | exact Nat.le_refl _⟩, ⟨zb HB⟩⟩
 case rest =>
  clear HC3
  try clear c1
  try clear p2
  try clear c4
  try clear c4b0
  obtain ⟨kq, x6_2, x7_2, rfl, rfl, HA, HJ2, HB⟩ := hcut
  cases kq with
  | zero => exact absurd HA.out (by simp [boltingref04_Text.j0])
  | succ kj2 =>
   have H := HA.out
   clear HA
   simp only [boltingref04_Text.j0] at H
   have H' := Aside0.mk H
   clear H
   go_wp2
   go_loopg [5, 8] kj2 (fun kq v5 v8 w' => ∃ (x5_2 : ByteArray) (x8_2 : Int), v5 = .string x5_2 ∧ v8 = .int .i64 x8_2 ∧ Aside0 (boltingref04_Text.l0 kq l0 a1 x5_2 x7_2 x8_2 = some r) ∧ Aside0 (kq ≤ kj2) ∧ Aside0 (Below w.heap.size w w'))
   case atStart => exact ⟨((⟨#[]⟩ : ByteArray)), (x6_2), zr, zr, H', ⟨Nat.le_refl _⟩, ⟨zb HB⟩⟩
   case round =>
    clear H'
    try clear c1
    try clear p2
    try clear c4
    try clear c4b0
    try clear p2
    obtain ⟨x5_2, x8_2, rfl, rfl, HA, HK2, HB⟩ := hrel
    cases gk with
    | zero => exact absurd HA.out (by simp [boltingref04_Text.l0])
    | succ k2 =>
     have H := HA.out
     clear HA
     simp only [boltingref04_Text.l0] at H
     have HC7 := Aside0.mk H
     clear H
     go_upto_region 6 with (fail)
     go_cut [27] (fun v27 wc => ∃ (kq : Nat) (x27_6 : Bool), v27 = .bool x27_6 ∧ Aside0 (boltingref04_Text.j2 kq l0 a1 x5_2 x7_2 x8_2 x27_6 = some r) ∧ Aside0 (kq ≤ k2) ∧ Aside0 (Below w.heap.size w wc))
     case first =>
      have H := HC7.out
      clear HC7
      by_cases c8 : x8_2 < x7_2
      ·rw [if_pos c8] at H
       have c8b0 : decide (x8_2 < x7_2) = true := decide_eq_true c8
       clear c8
       (first | rw [c8b0] | (simp only [i64_w, i32_w]; rw [c8b0]) | skip)
       have H' := Aside0.mk H
       clear H
       go_wp2
       go_meet
       case rel => exact ⟨_, (decide (a1 ≥ (-1))), zr, H', ⟨by have := HJ2.out; have := HK2.out; first | omega | exact Nat.le_refl _⟩, ⟨zb HB⟩⟩
      ·rw [if_neg c8] at H
       have c8b0 : decide (x8_2 < x7_2) = false := decide_eq_false c8
       clear c8
       (first | rw [c8b0] | (simp only [i64_w, i32_w]; rw [c8b0]) | skip)
       have H' := Aside0.mk H
       clear H
       go_wp2
       go_meet
       case rel => exact ⟨_, (false), zr, H', ⟨by have := HJ2.out; have := HK2.out; first | omega | exact Nat.le_refl _⟩, ⟨zb HB⟩⟩
     case rest =>
      clear HC7
      try clear c1
      try clear p2
      try clear c4
      try clear c4b0
      try clear c8
      try clear c8b0
      try clear p2
      obtain ⟨kq, x27_6, rfl, HA, HJ6, HB⟩ := hcut
      cases kq with
      | zero => exact absurd HA.out (by simp [boltingref04_Text.j2])
      | succ kj6 =>
       have H := HA.out
       clear HA
       simp only [boltingref04_Text.j2] at H
       by_cases c9 : x27_6 = true
       ·subst c9
        replace H : (if 0 ≤ x8_2 then (if x8_2 < (l0.length : Int) then (if ((rd_T38 l0 x8_2).f1) = 1 then (if x5_2.size + ((rd_T38 l0 x8_2).f3).size ≤ 9223372036854775807 then (boltingref04_Text.l0 kj6 l0 a1 (x5_2 ++ ((rd_T38 l0 x8_2).f3)) x7_2 (wrap64 (x8_2 + 1))) else (none)) else (boltingref04_Text.l0 kj6 l0 a1 x5_2 x7_2 (wrap64 (x8_2 + 1)))) else (none)) else (none)) = some r := by rw [if_pos rfl] at H; exact H
        by_cases c10 : 0 ≤ x8_2
        ·rw [if_pos c10] at H
         have c10b0 : decide (0 ≤ x8_2) = true := decide_eq_true c10
         clear c10
         by_cases c11 : x8_2 < (l0.length : Int)
         ·rw [if_pos c11] at H
          have c11b0 : decide (x8_2 < (l0.length : Int)) = true := decide_eq_true c11
          clear c11
          by_cases c12 : ((rd_T38 l0 x8_2).f1) = 1
          ·rw [if_pos c12] at H
           have c12b0 : (((rd_T38 l0 x8_2).f1) == 1) = true := beq_iff_eq.mpr c12
           have c12b1 : (((rd_T38 l0 x8_2).f1) != 1) = false := bne_eq_false_iff_eq.mpr c12
           clear c12
           by_cases c13 : x5_2.size + ((rd_T38 l0 x8_2).f3).size ≤ 9223372036854775807
           ·rw [if_pos c13] at H
            have c13b0 := eq_true c13
            have c13b1 : decide (x5_2.size + ((rd_T38 l0 x8_2).f3).size ≤ 9223372036854775807) = true := decide_eq_true c13
            try have c13b2 : (9223372036854775807 < x5_2.size + ((rd_T38 l0 x8_2).f3).size) = False := eq_false (Nat.not_lt.2 c13)
            have H' := Aside0.mk H
            clear H
            have p475 : 0 ≤ (x8_2 : Int) := of_decide_eq_true za
            have q475 : x8_2 < (l0.length : Int) := of_decide_eq_true za
            obtain ⟨ad475, A475_4, c475_4, e475, hx475_0, hx475_1, hx475_2, hx475_3, hx475_4, hl475_4, hi475_4⟩ := at_T38 HR0.out x8_2 p475 q475
            cases e475
            replace hx475_0 := (HB.out.cell (World.block_lt_of_cell? w _ hx475_0)).trans hx475_0
            replace hx475_1 := (HB.out.cell (World.block_lt_of_cell? w _ hx475_1)).trans hx475_1
            replace hx475_2 := (HB.out.cell (World.block_lt_of_cell? w _ hx475_2)).trans hx475_2
            replace hx475_3 := (HB.out.cell (World.block_lt_of_cell? w _ hx475_3)).trans hx475_3
            replace hx475_4 := (HB.out.cell (World.block_lt_of_cell? w _ hx475_4)).trans hx475_4
            have HR475_4 := Aside0.mk hi475_4
            have HC475_4 := Aside0.mk hl475_4
            clear hi475_4 hl475_4
            replace p475 := eq_true p475
            replace q475 := eq_true q475
            have p476 : 0 ≤ (x8_2 : Int) := of_decide_eq_true za
            have q476 : x8_2 < (l0.length : Int) := of_decide_eq_true za
            obtain ⟨ad476, A476_4, c476_4, e476, hx476_0, hx476_1, hx476_2, hx476_3, hx476_4, hl476_4, hi476_4⟩ := at_T38 HR0.out x8_2 p476 q476
            obtain rfl : ad475 = ad476 := (by injection e476)
            replace hx476_0 := (HB.out.cell (World.block_lt_of_cell? w _ hx476_0)).trans hx476_0
            replace hx476_1 := (HB.out.cell (World.block_lt_of_cell? w _ hx476_1)).trans hx476_1
            replace hx476_2 := (HB.out.cell (World.block_lt_of_cell? w _ hx476_2)).trans hx476_2
            replace hx476_3 := (HB.out.cell (World.block_lt_of_cell? w _ hx476_3)).trans hx476_3
            replace hx476_4 := (HB.out.cell (World.block_lt_of_cell? w _ hx476_4)).trans hx476_4
            have HR476_4 := Aside0.mk hi476_4
            have HC476_4 := Aside0.mk hl476_4
            clear hi476_4 hl476_4
            replace p476 := eq_true p476
            replace q476 := eq_true q476
            have ea_ := Option.some.inj (hx475_4.symm.trans hx476_4)
            injection ea_ with ea_ en_ ec_
            subst ea_
            subst ec_
            clear en_
            go_wp2
            go_roundg kj6
            case measure => have := HJ2.out; have := HK2.out; have := HJ6.out; omega
            case rel => exact ⟨(x5_2 ++ ((rd_T38 l0 x8_2).f3)), (wrap64 (x8_2 + 1)), zr, zr, H', ⟨by have := HJ2.out; have := HK2.out; have := HJ6.out; omega⟩, ⟨zb HB⟩⟩
           ·rw [if_neg c13] at H
            exact absurd H (by simp)
          ·rw [if_neg c12] at H
           have c12b0 : (((rd_T38 l0 x8_2).f1) == 1) = false := beq_eq_false_iff_ne.mpr c12
           have c12b1 : (((rd_T38 l0 x8_2).f1) != 1) = true := bne_iff_ne.mpr c12
           have H' := Aside0.mk H
           clear H
           have p475 : 0 ≤ (x8_2 : Int) := of_decide_eq_true za
           have q475 : x8_2 < (l0.length : Int) := of_decide_eq_true za
           obtain ⟨ad475, A475_4, c475_4, e475, hx475_0, hx475_1, hx475_2, hx475_3, hx475_4, hl475_4, hi475_4⟩ := at_T38 HR0.out x8_2 p475 q475
           cases e475
           replace hx475_0 := (HB.out.cell (World.block_lt_of_cell? w _ hx475_0)).trans hx475_0
           replace hx475_1 := (HB.out.cell (World.block_lt_of_cell? w _ hx475_1)).trans hx475_1
           replace hx475_2 := (HB.out.cell (World.block_lt_of_cell? w _ hx475_2)).trans hx475_2
           replace hx475_3 := (HB.out.cell (World.block_lt_of_cell? w _ hx475_3)).trans hx475_3
           replace hx475_4 := (HB.out.cell (World.block_lt_of_cell? w _ hx475_4)).trans hx475_4
           have HR475_4 := Aside0.mk hi475_4
           have HC475_4 := Aside0.mk hl475_4
           clear hi475_4 hl475_4
           replace p475 := eq_true p475
           replace q475 := eq_true q475
           go_wp2
           go_roundg kj6
           case measure => have := HJ2.out; have := HK2.out; have := HJ6.out; omega
           case rel => exact ⟨(x5_2), (wrap64 (x8_2 + 1)), zr, zr, H', ⟨by have := HJ2.out; have := HK2.out; have := HJ6.out; omega⟩, ⟨zb HB⟩⟩
         ·rw [if_neg c11] at H
          exact absurd H (by simp)
        ·rw [if_neg c10] at H
         exact absurd H (by simp)
       ·replace c9 := Bool.eq_false_iff.mpr c9
        subst c9
        replace H : (some x5_2) = some r := by rw [if_neg (show ¬ (false = true) by decide)] at H; exact H
        obtain rfl := Option.some.inj H
        go_wp2
        go_ret
        exact ⟨ze, zb HB⟩

end Go.Proofs.YticacakoefojbaaGreat.Pr
namespace Go.Proofs.YticacakoefojbaaGreat.Pr
open Go.RowKit Go.Proofs.YticacakoefojbaaGreatW.PrintWords Go.Proofs.YticacakoefojbaaGreatW.PrintLast Go.Proofs.YticacakoefojbaaGreatW.PrintMore
attribute [local go_sem] max2_int min2_int max_two min_two max_three min_three max_four min_four   -- for this text's walks alone
set_option linter.unusedVariables false
set_option linter.unusedSimpArgs false

def boltinglaw13_CleanTexts.l0 : Nat → List (S38) → List (S38) → ByteArray → Bool → Int → Bool → Bool → List ByteArray → List ByteArray → List ByteArray → List (S60) → Bool → Bool → Option (Bool)
 | 0, _, _, _, _, _, _, _, _, _, _, _, _, _ => none
 | k + 1, x0, x5, x7, x8, x9, x695000, x695001, x695002, x695003, x695004, x695005, x695006, x695007 => if x9 < (x0.length : Int) then (if x8 = true then (boltinglaw13_CleanTexts.l0 k x0 x5 x7 true (wrap64 (x9 + 1)) x695000 x695001 x695002 x695003 x695004 x695005 x695006 x695007) else (if 0 ≤ x9 then (if ((rd_T38 x0 x9).f1) = 0 then ((config_Element.f k x695000 x695001 x695002 x695003 x695004 x695005 x695006 x695007 ((rd_T38 x0 x9).f2)).bind fun t722 => (boltinglaw13_CleanTexts.l0 k x0 x5 x7 (t722 == 1) (wrap64 (x9 + 1)) x695000 x695001 x695002 x695003 x695004 x695005 x695006 x695007)) else (boltinglaw13_CleanTexts.l0 k x0 x5 x7 false (wrap64 (x9 + 1)) x695000 x695001 x695002 x695003 x695004 x695005 x695006 x695007)) else (none))) else ((boltingref04_Text.f k x5 (-1)).bind fun t723 => (if (t723.size : Int) ≤ (x7.size : Int) then (if x8 = true then ((boltinglaw13_fixed.f).bind fun t724 => (some t724)) else (if t723.toList = x7.toList then ((boltinglaw13_fixed.f).bind fun t725 => (some t725)) else (some false))) else (some false)))
def boltinglaw13_CleanTexts.f (k : Nat) (l0 : List (S38)) (a1_0 : Bool) (a1_1 : Bool) (l1_2 : List ByteArray) (l1_3 : List ByteArray) (l1_4 : List ByteArray) (l1_5 : List (S60)) (a1_6 : Bool) (a1_7 : Bool) : Option (Bool) := (boltinglaw13_bound.f k l0).bind fun t695 => ((boltinglaw12_Bound.f k a1_0 a1_1 l1_2 l1_3 l1_4 l1_5 a1_6 a1_7).bind fun bt698 => ((clean_Rows.f k t695 bt698.1 bt698.2.1 bt698.2.2.1 bt698.2.2.2.1 bt698.2.2.2.2.1 bt698.2.2.2.2.2.1 bt698.2.2.2.2.2.2.1 bt698.2.2.2.2.2.2.2 false).bind fun bt714 => (if bt714.2 = 0 then ((boltingref04_Text.f k t695 (-1)).bind fun t719 => (boltinglaw13_CleanTexts.l0 k t695 bt714.1 t719 false 0 bt698.1 bt698.2.1 bt698.2.2.1 bt698.2.2.2.1 bt698.2.2.2.2.1 bt698.2.2.2.2.2.1 bt698.2.2.2.2.2.2.1 bt698.2.2.2.2.2.2.2)) else ((boltinglaw13_fixed.f).bind fun t718 => (some t718)))))
def boltinglaw13_CleanTexts.T11 : Bool × List (List Nat × List Nat) := (true, [([], []), ([0], [0]), ([1], [1]), ([1], [1]), ([2, 3, 1], [1, 2, 3]), ([4, 1], [1, 4]), ([5, 1], [1, 5]), ([6, 1], [1, 6]), ([7, 1, 1], [1, 7]), ([8], [8]), ([8], [8]), ([8], [8]), ([10, 11, 8], [8, 10, 11]), ([12, 8], [8, 12]), ([13, 8], [8, 13]), ([9, 14, 8, 8], [8, 9, 14]), ([15, 8], [8, 15]), ([8, 16, 1], [1, 8, 16]), ([1, 17], [1, 17]), ([18, 15, 0, 1, 2, 3, 4, 5, 6, 7, 8, 9, 10, 11, 12, 13, 14, 15, 16, 17, 18], [0, 18])])
def boltinglaw13_CleanTexts.B11 : List Nat := [0, 1, 3, 3, 15, 31, 63, 127, 255, 511, 511, 511, 3583, 7679, 15871, 32767, 65535, 131071, 262143, 524287]
theorem boltinglaw13_CleanTexts.tab11 : rtab .any (opsOf Tryz.f6 11) = boltinglaw13_CleanTexts.T11 := by kernel_rfl
theorem boltinglaw13_CleanTexts.bits11 : waitsOk boltinglaw13_CleanTexts.T11.2 boltinglaw13_CleanTexts.B11 = true := by kernel_rfl
set_option maxHeartbeats 8000000 in
set_option maxRecDepth 100000 in
theorem boltinglaw13_CleanTexts.calls (k : Nat) (A0 : Option Addr) (c0 : Nat) (l0 : List (S38)) (a1_0 : Bool) (a1_1 : Bool) (A1_2 : Option Addr) (c1_2 : Nat) (l1_2 : List ByteArray) (A1_3 : Option Addr) (c1_3 : Nat) (l1_3 : List ByteArray) (A1_4 : Option Addr) (c1_4 : Nat) (l1_4 : List ByteArray) (A1_5 : Option Addr) (c1_5 : Nat) (l1_5 : List (S60)) (a1_6 : Bool) (a1_7 : Bool) (r : Bool) (w : World) (hr0 : Kd.C k38 w A0 l0.length l0) (hc0 : l0.length ≤ c0) (hr1_2 : Kd.C Kd.string w A1_2 l1_2.length l1_2) (hc1_2 : l1_2.length ≤ c1_2) (hr1_3 : Kd.C Kd.string w A1_3 l1_3.length l1_3) (hc1_3 : l1_3.length ≤ c1_3) (hr1_4 : Kd.C Kd.string w A1_4 l1_4.length l1_4) (hc1_4 : l1_4.length ≤ c1_4) (hr1_5 : Kd.C k60 w A1_5 l1_5.length l1_5) (hc1_5 : l1_5.length ≤ c1_5) (h : boltinglaw13_CleanTexts.f k l0 a1_0 a1_1 l1_2 l1_3 l1_4 l1_5 a1_6 a1_7 = some r) (hT : Aside0 (r = true) := by exact ⟨rfl⟩) :
  Calls Tryz.prog 6 #[.slice A0 l0.length c0, .agg #[.bool a1_0, .bool a1_1, .slice A1_2 l1_2.length c1_2, .slice A1_3 l1_3.length c1_3, .slice A1_4 l1_4.length c1_4, .slice A1_5 l1_5.length c1_5, .bool a1_6, .bool a1_7]] w fun e w' => e = .returned (.bool r) ∧ Below w.heap.size w w' := by
 have hu32 := Tryz.underlying32
 have HR0 := Aside0.mk hr0
 have HC0 := Aside0.mk hc0
 clear hr0 hc0
 have HR1_2 := Aside0.mk hr1_2
 have HC1_2 := Aside0.mk hc1_2
 clear hr1_2 hc1_2
 have HR1_3 := Aside0.mk hr1_3
 have HC1_3 := Aside0.mk hc1_3
 clear hr1_3 hc1_3
 have HR1_4 := Aside0.mk hr1_4
 have HC1_4 := Aside0.mk hc1_4
 clear hr1_4 hc1_4
 have HR1_5 := Aside0.mk hr1_5
 have HC1_5 := Aside0.mk hc1_5
 clear hr1_5 hc1_5
 have HB := Aside0.mk (Below.refl w.heap.size w)
 have H : ((boltinglaw13_bound.f k l0).bind fun t695 => ((boltinglaw12_Bound.f k a1_0 a1_1 l1_2 l1_3 l1_4 l1_5 a1_6 a1_7).bind fun bt698 => ((clean_Rows.f k t695 bt698.1 bt698.2.1 bt698.2.2.1 bt698.2.2.2.1 bt698.2.2.2.2.1 bt698.2.2.2.2.2.1 bt698.2.2.2.2.2.2.1 bt698.2.2.2.2.2.2.2 false).bind fun bt714 => (if bt714.2 = 0 then ((boltingref04_Text.f k t695 (-1)).bind fun t719 => (boltinglaw13_CleanTexts.l0 k t695 bt714.1 t719 false 0 bt698.1 bt698.2.1 bt698.2.2.1 bt698.2.2.2.1 bt698.2.2.2.2.1 bt698.2.2.2.2.2.1 bt698.2.2.2.2.2.2.1 bt698.2.2.2.2.2.2.2)) else ((boltinglaw13_fixed.f).bind fun t718 => (some t718)))))) = some r := h
 clear h
 replace H := Option.bind_eq_some_iff.mp H
 obtain ⟨t695, A30, H⟩ := H
 have A3 := Aside0.mk A30
 clear A30
 replace H := Option.bind_eq_some_iff.mp H
 obtain ⟨⟨t698, t699, t700, t703, t706, t709, t712, t713⟩, A40, H⟩ := H
 try dsimp only at H
 have A4 := Aside0.mk A40
 clear A40
 replace H := Option.bind_eq_some_iff.mp H
 obtain ⟨⟨t714, t717⟩, A50, H⟩ := H
 try dsimp only at H
 have A5 := Aside0.mk A50
 clear A50
 by_cases c6 : t717 = 0
 ·rw [if_pos c6] at H
  have c6b0 : (t717 == 0) = true := beq_iff_eq.mpr c6
  have c6b1 : (t717 != 0) = false := bne_eq_false_iff_eq.mpr c6
  clear c6
  replace H := Option.bind_eq_some_iff.mp H
  obtain ⟨t719, A70, H⟩ := H
  have A7 := Aside0.mk A70
  clear A70
  have H' := Aside0.mk H
  clear H
  go_enter Tryz.func6, Tryz.ntmps6
  go_wp2_with (first | ((with_reducible refine gate_dst (N := 3) rfl ?_); refine box_event ?hg (N := 3) ?hd (cs := #[.bool a1_0, .bool a1_1, .slice A1_2 l1_2.length c1_2, .slice A1_3 l1_3.length c1_3, .slice A1_4 l1_4.length c1_4, .slice A1_5 l1_5.length c1_5, .bool a1_6, .bool a1_7]) (t := 32) ?hr ?_; (case hd => rfl); (case hg => rfl); (case hr => first | (go_simp; done) | (go_simp; rfl)); intro gb694 hg w8 hbox hb; have n0_ := Aside0.mk (below_step (zb HB) hb); have n1_ := Aside0.mk (hbox); have n2_ := Aside0.mk ((by rw [hg]; exact (below_size (zb HB)) : w.heap.size ≤ gb694)); have n3_ := Aside0.mk ((by rw [hg]; exact (below_size (zb HB)) : w.heap.size ≤ gb694)); clear HB; have HB := n0_; have BK694 := n1_; have GW694 := n2_; have GE694 := n3_; clear n0_ n1_ n2_ n3_; clear hb hbox hg) | ((with_reducible refine gate_callee (f := 10) rfl ?_); refine goesL_ (some 12) rfl rfl Tryz.func10 (by kernel_rfl) rfl #[.slice A0 l0.length c0] rfl zm ?_; (with_reducible refine (boltinglaw13_bound.calls k (fun k_ => k_ < w.heap.size) _ _ l0 t695 _ ?side1 A3.out).mono ?_); (case side1 => exact Kd.V_mk HC0.out (Kd.F_below (Kd.C_F k38_heap HR0.out) (zb1 HB GE694))); rintro e w9 ⟨v696, rfl, ho0, hb⟩; refine ⟨_, rfl, ?_⟩; have n0_ := Aside0.mk (Kd.N_lower (Kd.N_mono (ok' := fun k_ => k_ ≠ gb694) ho0 (fun k_ hk_ => Or.elim hk_ (fun hs_ => fun e_ => Nat.not_le.2 hs_ (by rw [e_]; exact GW694.out)) (fun hn_ => (Kd.freshB (by exact BK694.out) k_ hn_)))) (below_size (zb1 HB GE694))); have n1_ := Aside0.mk (blk_below (by exact BK694.out) hb); have n2_ := Aside0.mk (below_step (zb1 HB GE694) hb); clear BK694; clear HB; have HO697 := n0_; have BK694 := n1_; have HB := n2_; clear n0_ n1_ n2_; (try clear hb); (try clear ho0); obtain ⟨hcz10_0, hcz10_1, hcz10_2, hcz10_3, hcz10_4, hcz10_5, hcz10_6, hcz10_7, hfz10_0, hfz10_1, hfz10_2, hfz10_3, hfz10_4, hfz10_5, hfz10_6, hfz10_7⟩ := cz8 BK694.out) | ((with_reducible refine gate_callee (f := 20) rfl ?_); refine goesL_ (some 14) rfl rfl Tryz.func20 (by kernel_rfl) rfl #[.agg #[.bool a1_0, .bool a1_1, .slice A1_2 l1_2.length c1_2, .slice A1_3 l1_3.length c1_3, .slice A1_4 l1_4.length c1_4, .slice A1_5 l1_5.length c1_5, .bool a1_6, .bool a1_7]] rfl zm ?_; (with_reducible refine (boltinglaw12_Bound.calls k a1_0 a1_1 (fun k_ => k_ < w.heap.size) _ _ l1_2 (fun k_ => k_ < w.heap.size) _ _ l1_3 (fun k_ => k_ < w.heap.size) _ _ l1_4 (fun k_ => k_ < w.heap.size) _ _ l1_5 a1_6 a1_7 t698 t699 t700 t703 t706 t709 t712 t713 _ ?side1 ?side2 ?side3 ?side4 A4.out).mono ?_); (case side1 => exact Kd.V_mk HC1_2.out (Kd.F_below (Kd.C_F Kd.heap_string HR1_2.out) (zb1 HB GE694))); (case side2 => exact Kd.V_mk HC1_3.out (Kd.F_below (Kd.C_F Kd.heap_string HR1_3.out) (zb1 HB GE694))); (case side3 => exact Kd.V_mk HC1_4.out (Kd.F_below (Kd.C_F Kd.heap_string HR1_4.out) (zb1 HB GE694))); (case side4 => exact Kd.V_mk HC1_5.out (Kd.F_below (Kd.C_F k60_heap HR1_5.out) (zb1 HB GE694))); rintro e w11 ⟨v701, v704, v707, v710, rfl, ho0, ho1, ho2, ho3, hb⟩; refine ⟨_, rfl, ?_⟩; have n0_ := Aside0.mk (Kd.N_elder' (by exact HO697.out) (Kd.N_base ho3) hb); have n1_ := Aside0.mk (Kd.V_lower (Kd.V_mono (ok' := fun k_ => some k_ ≠ (v710 : Value).ownBlock ∧ some k_ ≠ (v696 : Value).ownBlock ∧ k_ ≠ gb694) ho0 (fun k_ hk_ => ⟨hk_.2, Or.elim hk_.1 (fun hs_ => Or.elim hs_ (fun hs_ => fun e_ => Nat.not_le.2 hs_ (Kd.N_base HO697.out k_ e_.symm)) (fun hs_ => Or.elim hs_ (fun hs_ => fun e_ => Nat.not_le.2 hs_ (Kd.N_base HO697.out k_ e_.symm)) (fun hs_ => Or.elim hs_ (fun hs_ => fun e_ => Nat.not_le.2 hs_ (Kd.N_base HO697.out k_ e_.symm)) (fun hs_ => fun e_ => Nat.not_le.2 hs_ (Kd.N_base HO697.out k_ e_.symm))))) (fun hn_ => (Kd.fresh' (Kd.N_lt (by exact HO697.out)) k_ hn_)), Or.elim hk_.1 (fun hs_ => Or.elim hs_ (fun hs_ => fun e_ => Nat.not_le.2 hs_ (by rw [e_]; exact GW694.out)) (fun hs_ => Or.elim hs_ (fun hs_ => fun e_ => Nat.not_le.2 hs_ (by rw [e_]; exact GW694.out)) (fun hs_ => Or.elim hs_ (fun hs_ => fun e_ => Nat.not_le.2 hs_ (by rw [e_]; exact GW694.out)) (fun hs_ => fun e_ => Nat.not_le.2 hs_ (by rw [e_]; exact GW694.out))))) (fun hn_ => (Kd.freshB (by exact BK694.out) k_ hn_))⟩)) (below_size (zb1 HB GE694))); have n2_ := Aside0.mk (Kd.V_lower (Kd.V_mono (ok' := fun k_ => some k_ ≠ (v710 : Value).ownBlock ∧ some k_ ≠ (v696 : Value).ownBlock ∧ k_ ≠ gb694) ho1 (fun k_ hk_ => ⟨hk_.2, Or.elim hk_.1 (fun hs_ => Or.elim hs_ (fun hs_ => fun e_ => Nat.not_le.2 hs_ (Kd.N_base HO697.out k_ e_.symm)) (fun hs_ => Or.elim hs_ (fun hs_ => fun e_ => Nat.not_le.2 hs_ (Kd.N_base HO697.out k_ e_.symm)) (fun hs_ => Or.elim hs_ (fun hs_ => fun e_ => Nat.not_le.2 hs_ (Kd.N_base HO697.out k_ e_.symm)) (fun hs_ => fun e_ => Nat.not_le.2 hs_ (Kd.N_base HO697.out k_ e_.symm))))) (fun hn_ => (Kd.fresh' (Kd.N_lt (by exact HO697.out)) k_ hn_)), Or.elim hk_.1 (fun hs_ => Or.elim hs_ (fun hs_ => fun e_ => Nat.not_le.2 hs_ (by rw [e_]; exact GW694.out)) (fun hs_ => Or.elim hs_ (fun hs_ => fun e_ => Nat.not_le.2 hs_ (by rw [e_]; exact GW694.out)) (fun hs_ => Or.elim hs_ (fun hs_ => fun e_ => Nat.not_le.2 hs_ (by rw [e_]; exact GW694.out)) (fun hs_ => fun e_ => Nat.not_le.2 hs_ (by rw [e_]; exact GW694.out))))) (fun hn_ => (Kd.freshB (by exact BK694.out) k_ hn_))⟩)) (below_size (zb1 HB GE694))); have n3_ := Aside0.mk (Kd.V_lower (Kd.V_mono (ok' := fun k_ => some k_ ≠ (v710 : Value).ownBlock ∧ some k_ ≠ (v696 : Value).ownBlock ∧ k_ ≠ gb694) ho2 (fun k_ hk_ => ⟨hk_.2, Or.elim hk_.1 (fun hs_ => Or.elim hs_ (fun hs_ => fun e_ => Nat.not_le.2 hs_ (Kd.N_base HO697.out k_ e_.symm)) (fun hs_ => Or.elim hs_ (fun hs_ => fun e_ => Nat.not_le.2 hs_ (Kd.N_base HO697.out k_ e_.symm)) (fun hs_ => Or.elim hs_ (fun hs_ => fun e_ => Nat.not_le.2 hs_ (Kd.N_base HO697.out k_ e_.symm)) (fun hs_ => fun e_ => Nat.not_le.2 hs_ (Kd.N_base HO697.out k_ e_.symm))))) (fun hn_ => (Kd.fresh' (Kd.N_lt (by exact HO697.out)) k_ hn_)), Or.elim hk_.1 (fun hs_ => Or.elim hs_ (fun hs_ => fun e_ => Nat.not_le.2 hs_ (by rw [e_]; exact GW694.out)) (fun hs_ => Or.elim hs_ (fun hs_ => fun e_ => Nat.not_le.2 hs_ (by rw [e_]; exact GW694.out)) (fun hs_ => Or.elim hs_ (fun hs_ => fun e_ => Nat.not_le.2 hs_ (by rw [e_]; exact GW694.out)) (fun hs_ => fun e_ => Nat.not_le.2 hs_ (by rw [e_]; exact GW694.out))))) (fun hn_ => (Kd.freshB (by exact BK694.out) k_ hn_))⟩)) (below_size (zb1 HB GE694))); have n4_ := Aside0.mk (Kd.N_lower (Kd.N_mono (ok' := fun k_ => some k_ ≠ (v696 : Value).ownBlock ∧ k_ ≠ gb694) ho3 (fun k_ hk_ => ⟨Or.elim hk_ (fun hs_ => Or.elim hs_ (fun hs_ => fun e_ => Nat.not_le.2 hs_ (Kd.N_base HO697.out k_ e_.symm)) (fun hs_ => Or.elim hs_ (fun hs_ => fun e_ => Nat.not_le.2 hs_ (Kd.N_base HO697.out k_ e_.symm)) (fun hs_ => Or.elim hs_ (fun hs_ => fun e_ => Nat.not_le.2 hs_ (Kd.N_base HO697.out k_ e_.symm)) (fun hs_ => fun e_ => Nat.not_le.2 hs_ (Kd.N_base HO697.out k_ e_.symm))))) (fun hn_ => (Kd.fresh' (Kd.N_lt (by exact HO697.out)) k_ hn_)), Or.elim hk_ (fun hs_ => Or.elim hs_ (fun hs_ => fun e_ => Nat.not_le.2 hs_ (by rw [e_]; exact GW694.out)) (fun hs_ => Or.elim hs_ (fun hs_ => fun e_ => Nat.not_le.2 hs_ (by rw [e_]; exact GW694.out)) (fun hs_ => Or.elim hs_ (fun hs_ => fun e_ => Nat.not_le.2 hs_ (by rw [e_]; exact GW694.out)) (fun hs_ => fun e_ => Nat.not_le.2 hs_ (by rw [e_]; exact GW694.out))))) (fun hn_ => (Kd.freshB (by exact BK694.out) k_ hn_))⟩)) (below_size (zb1 HB GE694))); have n5_ := Aside0.mk (blk_below (by exact BK694.out) hb); have n6_ := Aside0.mk (below_step (zb1 HB GE694) hb); clear HO697; clear BK694; clear HB; have HO697 := n0_; have HO702 := n1_; have HO705 := n2_; have HO708 := n3_; have HO711 := n4_; have BK694 := n5_; have HB := n6_; clear n0_ n1_ n2_ n3_ n4_ n5_ n6_; (try clear hb); (try clear ho0); (try clear ho1); (try clear ho2); (try clear ho3); obtain ⟨hcz12_0, hcz12_1, hcz12_2, hcz12_3, hcz12_4, hcz12_5, hcz12_6, hcz12_7, hfz12_0, hfz12_1, hfz12_2, hfz12_3, hfz12_4, hfz12_5, hfz12_6, hfz12_7⟩ := cz8 BK694.out; obtain ⟨Ao13, co13, eo13⟩ := Kd.V_slice HO702.out; subst eo13; obtain ⟨Ao14, co14, eo14⟩ := Kd.V_slice HO705.out; subst eo14; obtain ⟨Ao15, co15, eo15⟩ := Kd.V_slice HO708.out; subst eo15; obtain ⟨Ao16, co16, eo16⟩ := Kd.N_slice HO711.out; subst eo16; obtain ⟨Ao17, co17, eo17⟩ := Kd.N_slice HO697.out; subst eo17) | ((with_reducible refine gate_callee (f := 14) rfl ?_); refine goesL_ (some 18) rfl rfl Tryz.func14 (by kernel_rfl) rfl #[.slice Ao17 t695.length co17, .agg #[.bool t698, .bool t699, .slice Ao13 t700.length co13, .slice Ao14 t703.length co14, .slice Ao15 t706.length co15, .slice Ao16 t709.length co16, .bool t712, .bool t713], .bool false] rfl zm ?_; (with_reducible refine (clean_Rows.calls k _ _ t695 t698 t699 _ _ t700 _ _ t703 _ _ t706 _ _ t709 t712 t713 false t714 t717 _ ?side1 ?side2 ?side3 ?side4 ?side5 ?side6 ?side7 ?side8 ?side9 ?side10 A5.out).mono ?_); (case side1 => refine (Kd.N_reads' (e := 38) (base := w.heap.size) (ok := fun k_ => (k_ ≠ gb694 ∧ some k_ ≠ (.slice Ao16 t709.length co16 : Value).ownBlock)) (n := t695.length) (c := co17) ?_).2.2; exact (by exact (Kd.N_mono (Nf8 (g := gb694) (Kd.N_mono HO697.out (fun k_ hk => (⟨hk, hk.1⟩ : _ ∧ k_ ≠ gb694))) (fun _ hk => hk.2) (.bool t698) (.bool t699) (.slice Ao13 t700.length co13) (.slice Ao14 t703.length co14) (.slice Ao15 t706.length co15) (.slice Ao16 t709.length co16) (.bool t712) (.bool t713)) (fun _ h_ => h_.1)))); (case side2 => exact (Kd.N_reads' HO697.out).2.1); (case side3 => refine (Kd.V_reads' (e := 9) (base := w.heap.size) (ok := fun k_ => (some k_ ≠ (.slice Ao16 t709.length co16 : Value).ownBlock ∧ (some k_ ≠ (.slice Ao17 t695.length co17 : Value).ownBlock ∧ k_ ≠ gb694))) (n := t700.length) (c := co13) ?_).2.2; exact (by exact (Kd.V_mono (Vf8 (g := gb694) (Kd.V_mono HO702.out (fun k_ hk => (⟨hk, hk.2.2⟩ : _ ∧ k_ ≠ gb694))) (fun _ hk => hk.2) (.bool t698) (.bool t699) (.slice Ao13 t700.length co13) (.slice Ao14 t703.length co14) (.slice Ao15 t706.length co15) (.slice Ao16 t709.length co16) (.bool t712) (.bool t713)) (fun _ h_ => h_.1)))); (case side4 => exact (Kd.V_reads' HO702.out).2.1); (case side5 => refine (Kd.V_reads' (e := 9) (base := w.heap.size) (ok := fun k_ => (some k_ ≠ (.slice Ao16 t709.length co16 : Value).ownBlock ∧ (some k_ ≠ (.slice Ao17 t695.length co17 : Value).ownBlock ∧ k_ ≠ gb694))) (n := t703.length) (c := co14) ?_).2.2; exact (by exact (Kd.V_mono (Vf8 (g := gb694) (Kd.V_mono HO705.out (fun k_ hk => (⟨hk, hk.2.2⟩ : _ ∧ k_ ≠ gb694))) (fun _ hk => hk.2) (.bool t698) (.bool t699) (.slice Ao13 t700.length co13) (.slice Ao14 t703.length co14) (.slice Ao15 t706.length co15) (.slice Ao16 t709.length co16) (.bool t712) (.bool t713)) (fun _ h_ => h_.1)))); (case side6 => exact (Kd.V_reads' HO705.out).2.1); (case side7 => refine (Kd.V_reads' (e := 9) (base := w.heap.size) (ok := fun k_ => (some k_ ≠ (.slice Ao16 t709.length co16 : Value).ownBlock ∧ (some k_ ≠ (.slice Ao17 t695.length co17 : Value).ownBlock ∧ k_ ≠ gb694))) (n := t706.length) (c := co15) ?_).2.2; exact (by exact (Kd.V_mono (Vf8 (g := gb694) (Kd.V_mono HO708.out (fun k_ hk => (⟨hk, hk.2.2⟩ : _ ∧ k_ ≠ gb694))) (fun _ hk => hk.2) (.bool t698) (.bool t699) (.slice Ao13 t700.length co13) (.slice Ao14 t703.length co14) (.slice Ao15 t706.length co15) (.slice Ao16 t709.length co16) (.bool t712) (.bool t713)) (fun _ h_ => h_.1)))); (case side8 => exact (Kd.V_reads' HO708.out).2.1); (case side9 => refine (Kd.N_reads' (e := 60) (base := w.heap.size) (ok := fun k_ => (some k_ ≠ (.slice Ao17 t695.length co17 : Value).ownBlock ∧ k_ ≠ gb694)) (n := t709.length) (c := co16) ?_).2.2; exact (by exact (Kd.N_mono (Nf8 (g := gb694) (Kd.N_mono HO711.out (fun k_ hk => (⟨hk, hk.2⟩ : _ ∧ k_ ≠ gb694))) (fun _ hk => hk.2) (.bool t698) (.bool t699) (.slice Ao13 t700.length co13) (.slice Ao14 t703.length co14) (.slice Ao15 t706.length co15) (.slice Ao16 t709.length co16) (.bool t712) (.bool t713)) (fun _ h_ => h_.1)))); (case side10 => exact (Kd.N_reads' HO711.out).2.1); rintro e w18 ⟨v715, rfl, ho0, hb⟩; refine ⟨_, rfl, ?_⟩; have n0_ := Aside0.mk (Kd.N_elder' (by exact (Kd.N_mono (Nf8 (g := gb694) (Kd.N_mono HO697.out (fun k_ hk => (⟨hk, hk.1⟩ : _ ∧ k_ ≠ gb694))) (fun _ hk => hk.2) (.bool t698) (.bool t699) (.slice Ao13 t700.length co13) (.slice Ao14 t703.length co14) (.slice Ao15 t706.length co15) (.slice Ao16 t709.length co16) (.bool t712) (.bool t713)) (fun _ h_ => h_.1))) (Kd.N_base ho0) hb); have n1_ := Aside0.mk (Kd.V_elder' (by exact (Kd.V_mono (Vf8 (g := gb694) (Kd.V_mono HO702.out (fun k_ hk => (⟨hk, hk.2.2⟩ : _ ∧ k_ ≠ gb694))) (fun _ hk => hk.2) (.bool t698) (.bool t699) (.slice Ao13 t700.length co13) (.slice Ao14 t703.length co14) (.slice Ao15 t706.length co15) (.slice Ao16 t709.length co16) (.bool t712) (.bool t713)) (fun _ h_ => h_.1))) (Kd.N_base ho0) hb); have n2_ := Aside0.mk (Kd.V_elder' (by exact (Kd.V_mono (Vf8 (g := gb694) (Kd.V_mono HO705.out (fun k_ hk => (⟨hk, hk.2.2⟩ : _ ∧ k_ ≠ gb694))) (fun _ hk => hk.2) (.bool t698) (.bool t699) (.slice Ao13 t700.length co13) (.slice Ao14 t703.length co14) (.slice Ao15 t706.length co15) (.slice Ao16 t709.length co16) (.bool t712) (.bool t713)) (fun _ h_ => h_.1))) (Kd.N_base ho0) hb); have n3_ := Aside0.mk (Kd.V_elder' (by exact (Kd.V_mono (Vf8 (g := gb694) (Kd.V_mono HO708.out (fun k_ hk => (⟨hk, hk.2.2⟩ : _ ∧ k_ ≠ gb694))) (fun _ hk => hk.2) (.bool t698) (.bool t699) (.slice Ao13 t700.length co13) (.slice Ao14 t703.length co14) (.slice Ao15 t706.length co15) (.slice Ao16 t709.length co16) (.bool t712) (.bool t713)) (fun _ h_ => h_.1))) (Kd.N_base ho0) hb); have n4_ := Aside0.mk (Kd.N_elder' (by exact (Kd.N_mono (Nf8 (g := gb694) (Kd.N_mono HO711.out (fun k_ hk => (⟨hk, hk.2⟩ : _ ∧ k_ ≠ gb694))) (fun _ hk => hk.2) (.bool t698) (.bool t699) (.slice Ao13 t700.length co13) (.slice Ao14 t703.length co14) (.slice Ao15 t706.length co15) (.slice Ao16 t709.length co16) (.bool t712) (.bool t713)) (fun _ h_ => h_.1))) (Kd.N_base ho0) hb); have n5_ := Aside0.mk (Kd.N_lower (Kd.N_mono (ok' := fun k_ => some k_ ≠ (.slice Ao17 t695.length co17 : Value).ownBlock ∧ some k_ ≠ (.slice Ao16 t709.length co16 : Value).ownBlock ∧ k_ ≠ gb694) ho0 (fun k_ hk_ => ⟨(Kd.fresh' (Kd.N_lt (by exact (Kd.N_mono (Nf8 (g := gb694) (Kd.N_mono HO697.out (fun k_ hk => (⟨hk, hk.1⟩ : _ ∧ k_ ≠ gb694))) (fun _ hk => hk.2) (.bool t698) (.bool t699) (.slice Ao13 t700.length co13) (.slice Ao14 t703.length co14) (.slice Ao15 t706.length co15) (.slice Ao16 t709.length co16) (.bool t712) (.bool t713)) (fun _ h_ => h_.1)))) k_ hk_), (Kd.fresh' (Kd.N_lt (by exact (Kd.N_mono (Nf8 (g := gb694) (Kd.N_mono HO711.out (fun k_ hk => (⟨hk, hk.2⟩ : _ ∧ k_ ≠ gb694))) (fun _ hk => hk.2) (.bool t698) (.bool t699) (.slice Ao13 t700.length co13) (.slice Ao14 t703.length co14) (.slice Ao15 t706.length co15) (.slice Ao16 t709.length co16) (.bool t712) (.bool t713)) (fun _ h_ => h_.1)))) k_ hk_), (Kd.freshB (g := gb694) (o := .cells #[.bool t698, .bool t699, .slice Ao13 t700.length co13, .slice Ao14 t703.length co14, .slice Ao15 t706.length co15, .slice Ao16 t709.length co16, .bool t712, .bool t713] 32 (0, 0)) (by refine blk_put (cs := #[.bool t698, .bool t699, .slice Ao13 t700.length co13, .slice Ao14 t703.length co14, .slice Ao15 t706.length co15, .slice Ao16 t709.length co16, .bool t712, .bool a1_7]) ?_ 7 _ rfl; refine blk_put (cs := #[.bool t698, .bool t699, .slice Ao13 t700.length co13, .slice Ao14 t703.length co14, .slice Ao15 t706.length co15, .slice Ao16 t709.length co16, .bool a1_6, .bool a1_7]) ?_ 6 _ rfl; refine blk_put (cs := #[.bool t698, .bool t699, .slice Ao13 t700.length co13, .slice Ao14 t703.length co14, .slice Ao15 t706.length co15, .slice A1_5 l1_5.length c1_5, .bool a1_6, .bool a1_7]) ?_ 5 _ rfl; refine blk_put (cs := #[.bool t698, .bool t699, .slice Ao13 t700.length co13, .slice Ao14 t703.length co14, .slice A1_4 l1_4.length c1_4, .slice A1_5 l1_5.length c1_5, .bool a1_6, .bool a1_7]) ?_ 4 _ rfl; refine blk_put (cs := #[.bool t698, .bool t699, .slice Ao13 t700.length co13, .slice A1_3 l1_3.length c1_3, .slice A1_4 l1_4.length c1_4, .slice A1_5 l1_5.length c1_5, .bool a1_6, .bool a1_7]) ?_ 3 _ rfl; refine blk_put (cs := #[.bool t698, .bool t699, .slice A1_2 l1_2.length c1_2, .slice A1_3 l1_3.length c1_3, .slice A1_4 l1_4.length c1_4, .slice A1_5 l1_5.length c1_5, .bool a1_6, .bool a1_7]) ?_ 2 _ rfl; refine blk_put (cs := #[.bool t698, .bool a1_1, .slice A1_2 l1_2.length c1_2, .slice A1_3 l1_3.length c1_3, .slice A1_4 l1_4.length c1_4, .slice A1_5 l1_5.length c1_5, .bool a1_6, .bool a1_7]) ?_ 1 _ rfl; refine blk_put (cs := #[.bool a1_0, .bool a1_1, .slice A1_2 l1_2.length c1_2, .slice A1_3 l1_3.length c1_3, .slice A1_4 l1_4.length c1_4, .slice A1_5 l1_5.length c1_5, .bool a1_6, .bool a1_7]) ?_ 0 _ rfl; exact BK694.out) k_ hk_)⟩)) (below_size (zb1 HB GE694))); have n6_ := Aside0.mk (blk_below (g := gb694) (o := .cells #[.bool t698, .bool t699, .slice Ao13 t700.length co13, .slice Ao14 t703.length co14, .slice Ao15 t706.length co15, .slice Ao16 t709.length co16, .bool t712, .bool t713] 32 (0, 0)) (by refine blk_put (cs := #[.bool t698, .bool t699, .slice Ao13 t700.length co13, .slice Ao14 t703.length co14, .slice Ao15 t706.length co15, .slice Ao16 t709.length co16, .bool t712, .bool a1_7]) ?_ 7 _ rfl; refine blk_put (cs := #[.bool t698, .bool t699, .slice Ao13 t700.length co13, .slice Ao14 t703.length co14, .slice Ao15 t706.length co15, .slice Ao16 t709.length co16, .bool a1_6, .bool a1_7]) ?_ 6 _ rfl; refine blk_put (cs := #[.bool t698, .bool t699, .slice Ao13 t700.length co13, .slice Ao14 t703.length co14, .slice Ao15 t706.length co15, .slice A1_5 l1_5.length c1_5, .bool a1_6, .bool a1_7]) ?_ 5 _ rfl; refine blk_put (cs := #[.bool t698, .bool t699, .slice Ao13 t700.length co13, .slice Ao14 t703.length co14, .slice A1_4 l1_4.length c1_4, .slice A1_5 l1_5.length c1_5, .bool a1_6, .bool a1_7]) ?_ 4 _ rfl; refine blk_put (cs := #[.bool t698, .bool t699, .slice Ao13 t700.length co13, .slice A1_3 l1_3.length c1_3, .slice A1_4 l1_4.length c1_4, .slice A1_5 l1_5.length c1_5, .bool a1_6, .bool a1_7]) ?_ 3 _ rfl; refine blk_put (cs := #[.bool t698, .bool t699, .slice A1_2 l1_2.length c1_2, .slice A1_3 l1_3.length c1_3, .slice A1_4 l1_4.length c1_4, .slice A1_5 l1_5.length c1_5, .bool a1_6, .bool a1_7]) ?_ 2 _ rfl; refine blk_put (cs := #[.bool t698, .bool a1_1, .slice A1_2 l1_2.length c1_2, .slice A1_3 l1_3.length c1_3, .slice A1_4 l1_4.length c1_4, .slice A1_5 l1_5.length c1_5, .bool a1_6, .bool a1_7]) ?_ 1 _ rfl; refine blk_put (cs := #[.bool a1_0, .bool a1_1, .slice A1_2 l1_2.length c1_2, .slice A1_3 l1_3.length c1_3, .slice A1_4 l1_4.length c1_4, .slice A1_5 l1_5.length c1_5, .bool a1_6, .bool a1_7]) ?_ 0 _ rfl; exact BK694.out) hb); have n7_ := Aside0.mk (below_step (zb1 HB GE694) hb); clear HO697; clear HO702; clear HO705; clear HO708; clear HO711; clear BK694; clear HB; have HO697 := n0_; have HO702 := n1_; have HO705 := n2_; have HO708 := n3_; have HO711 := n4_; have HO716 := n5_; have BK694 := n6_; have HB := n7_; clear n0_ n1_ n2_ n3_ n4_ n5_ n6_ n7_; (try clear hb); (try clear ho0)) | ((with_reducible refine gate_callee (f := 19) rfl ?_); refine goesL_ (some 25) rfl rfl Tryz.func19 (by kernel_rfl) rfl #[.slice Ao17 t695.length co17, .int .i64 (-1)] rfl zm ?_; (with_reducible refine (boltingref04_Text.calls k _ _ t695 (-1) t719 _ ?side1 ?side2 A7.out).mono ?_); (case side1 => exact zc (Kd.N_reads' HO697.out).2.2); (case side2 => exact (Kd.N_reads' HO697.out).2.1); rintro e w19 ⟨rfl, hb⟩; refine ⟨_, rfl, ?_⟩; have n0_ := Aside0.mk (Kd.N_below (by exact HO697.out) hb); have n1_ := Aside0.mk (Kd.V_below (by exact HO702.out) hb); have n2_ := Aside0.mk (Kd.V_below (by exact HO705.out) hb); have n3_ := Aside0.mk (Kd.V_below (by exact HO708.out) hb); have n4_ := Aside0.mk (Kd.N_below (by exact HO711.out) hb); have n5_ := Aside0.mk (Kd.N_below (by exact HO716.out) hb); have n6_ := Aside0.mk (blk_below (by exact BK694.out) hb); have n7_ := Aside0.mk (below_step (zb1 HB GE694) hb); clear HO697; clear HO702; clear HO705; clear HO708; clear HO711; clear HO716; clear BK694; clear HB; have HO697 := n0_; have HO702 := n1_; have HO705 := n2_; have HO708 := n3_; have HO711 := n4_; have HO716 := n5_; have BK694 := n6_; have HB := n7_; clear n0_ n1_ n2_ n3_ n4_ n5_ n6_ n7_; (try clear hb)))
  go_loopg [8, 9] k (fun kq v8 v9 w' => ∃ (x8_1 : Bool) (x9_1 : Int), v8 = .bool x8_1 ∧ v9 = .int .i64 x9_1 ∧ Aside0 (boltinglaw13_CleanTexts.l0 kq t695 t714 t719 x8_1 x9_1 t698 t699 t700 t703 t706 t709 t712 t713 = some r) ∧ Aside0 (kq ≤ k) ∧ Aside0 (Kd.N k38 38 w' w.heap.size (fun k_ => some k_ ≠ (v715 : Value).ownBlock ∧ some k_ ≠ ((.slice Ao16 t709.length co16) : Value).ownBlock ∧ k_ ≠ gb694) (.slice Ao17 t695.length co17) t695) ∧ Aside0 (Kd.N k38 38 w' w.heap.size (fun k_ => some k_ ≠ ((.slice Ao17 t695.length co17) : Value).ownBlock ∧ some k_ ≠ ((.slice Ao16 t709.length co16) : Value).ownBlock ∧ k_ ≠ gb694) v715 t714) ∧ Aside0 (Kd.V Kd.string 9 w' w.heap.size (fun k_ => some k_ ≠ ((.slice Ao17 t695.length co17) : Value).ownBlock ∧ some k_ ≠ (v715 : Value).ownBlock ∧ some k_ ≠ ((.slice Ao16 t709.length co16) : Value).ownBlock ∧ k_ ≠ gb694) (.slice Ao13 t700.length co13) t700) ∧ Aside0 (Kd.V Kd.string 9 w' w.heap.size (fun k_ => some k_ ≠ ((.slice Ao17 t695.length co17) : Value).ownBlock ∧ some k_ ≠ (v715 : Value).ownBlock ∧ some k_ ≠ ((.slice Ao16 t709.length co16) : Value).ownBlock ∧ k_ ≠ gb694) (.slice Ao14 t703.length co14) t703) ∧ Aside0 (Kd.V Kd.string 9 w' w.heap.size (fun k_ => some k_ ≠ ((.slice Ao17 t695.length co17) : Value).ownBlock ∧ some k_ ≠ (v715 : Value).ownBlock ∧ some k_ ≠ ((.slice Ao16 t709.length co16) : Value).ownBlock ∧ k_ ≠ gb694) (.slice Ao15 t706.length co15) t706) ∧ Aside0 (Kd.N k60 60 w' w.heap.size (fun k_ => some k_ ≠ ((.slice Ao17 t695.length co17) : Value).ownBlock ∧ some k_ ≠ (v715 : Value).ownBlock ∧ k_ ≠ gb694) (.slice Ao16 t709.length co16) t709) ∧ Aside0 (w'.heap[gb694]? = some (.cells #[.bool t698, .bool t699, (.slice Ao13 t700.length co13), (.slice Ao14 t703.length co14), (.slice Ao15 t706.length co15), (.slice Ao16 t709.length co16), .bool t712, .bool t713] 32 (0, 0))) ∧ Aside0 (Below w.heap.size w w'))
  case atStart => exact ⟨(false), (0), zr, zr, H', ⟨Nat.le_refl _⟩, ⟨by exact Kd.N_mono HO697.out (fun _ hk => ⟨hk.2, ⟨hk.1.2, hk.1.1⟩⟩)⟩, ⟨by exact HO716.out⟩, ⟨by exact Kd.V_mono HO702.out (fun _ hk => ⟨hk.1.2.1, ⟨hk.2, ⟨hk.1.1, hk.1.2.2⟩⟩⟩)⟩, ⟨by exact Kd.V_mono HO705.out (fun _ hk => ⟨hk.1.2.1, ⟨hk.2, ⟨hk.1.1, hk.1.2.2⟩⟩⟩)⟩, ⟨by exact Kd.V_mono HO708.out (fun _ hk => ⟨hk.1.2.1, ⟨hk.2, ⟨hk.1.1, hk.1.2.2⟩⟩⟩)⟩, ⟨by exact Kd.N_mono HO711.out (fun _ hk => ⟨hk.1.1, ⟨hk.2, hk.1.2⟩⟩)⟩, ⟨by exact BK694.out⟩, ⟨zb1 HB GE694⟩⟩
  case round =>
   clear H'
   try clear c1
   try clear c2
   try clear p2
   try clear c6
   try clear c6b0
   try clear c6b1
   try clear c10
   try clear c14
   try clear c19
   try clear hcz10_0
   try clear hcz10_1
   try clear hcz10_2
   try clear hcz10_3
   try clear hcz10_4
   try clear hcz10_5
   try clear hcz10_6
   try clear hcz10_7
   try clear hcz12_0
   try clear hcz12_1
   try clear hcz12_2
   try clear hcz12_3
   try clear hcz12_4
   try clear hcz12_5
   try clear hcz12_6
   try clear hcz12_7
   try clear hfz10_0
   try clear hfz10_1
   try clear hfz10_2
   try clear hfz10_3
   try clear hfz10_4
   try clear hfz10_5
   try clear hfz10_6
   try clear hfz10_7
   try clear hfz12_0
   try clear hfz12_1
   try clear hfz12_2
   try clear hfz12_3
   try clear hfz12_4
   try clear hfz12_5
   try clear hfz12_6
   try clear hfz12_7
   obtain ⟨x8_1, x9_1, rfl, rfl, HA, HK1, HO_0, HO_5, HO_695002, HO_695003, HO_695004, HO_695005, BK694, HB⟩ := hrel
   cases gk with
   | zero => exact absurd HA.out (by simp [boltinglaw13_CleanTexts.l0])
   | succ k1 =>
    have H := HA.out
    clear HA
    simp only [boltinglaw13_CleanTexts.l0] at H
    by_cases c20 : x9_1 < (t695.length : Int)
    ·rw [if_pos c20] at H
     have c20b0 : decide (x9_1 < (t695.length : Int)) = true := decide_eq_true c20
     clear c20
     by_cases c21 : x8_1 = true
     ·subst c21
      replace H : (boltinglaw13_CleanTexts.l0 k1 t695 t714 t719 true (wrap64 (x9_1 + 1)) t698 t699 t700 t703 t706 t709 t712 t713) = some r := by rw [if_pos rfl] at H; exact H
      have H' := Aside0.mk H
      clear H
      try go_wp2
      have n0_ := Aside0.mk (Kd.N_drew HO_0.out)
      have n1_ := Aside0.mk (Kd.N_drew HO_5.out)
      have n2_ := Aside0.mk (Kd.V_drew HO_695002.out)
      have n3_ := Aside0.mk (Kd.V_drew HO_695003.out)
      have n4_ := Aside0.mk (Kd.V_drew HO_695004.out)
      have n5_ := Aside0.mk (Kd.N_drew HO_695005.out)
      have n6_ := Aside0.mk (blk_drew BK694.out)
      have n7_ := Aside0.mk (below_drew1 HB.out)
      clear HO_0
      clear HO_5
      clear HO_695002
      clear HO_695003
      clear HO_695004
      clear HO_695005
      clear BK694
      clear HB
      have HO_0 := n0_
      have HO_5 := n1_
      have HO_695002 := n2_
      have HO_695003 := n3_
      have HO_695004 := n4_
      have HO_695005 := n5_
      have BK694 := n6_
      have HB := n7_
      clear n0_ n1_ n2_ n3_ n4_ n5_ n6_ n7_
      go_region
      generalize wr.drew = w22 at HO_0 HO_5 HO_695002 HO_695003 HO_695004 HO_695005 BK694 HB ⊢
      try go_wp2
      go_roundg k1
      case measure => have := HK1.out; omega
      case rel => exact ⟨(true), (wrap64 (x9_1 + 1)), zr, zr, H', ⟨by have := HK1.out; omega⟩, ⟨by exact HO_0.out⟩, ⟨by exact HO_5.out⟩, ⟨by exact HO_695002.out⟩, ⟨by exact HO_695003.out⟩, ⟨by exact HO_695004.out⟩, ⟨by exact HO_695005.out⟩, ⟨by exact BK694.out⟩, ⟨zb1 HB GE694⟩⟩
     ·replace c21 := Bool.eq_false_iff.mpr c21
      subst c21
      replace H : (if 0 ≤ x9_1 then (if ((rd_T38 t695 x9_1).f1) = 0 then ((config_Element.f k1 t698 t699 t700 t703 t706 t709 t712 t713 ((rd_T38 t695 x9_1).f2)).bind fun t722 => (boltinglaw13_CleanTexts.l0 k1 t695 t714 t719 (t722 == 1) (wrap64 (x9_1 + 1)) t698 t699 t700 t703 t706 t709 t712 t713)) else (boltinglaw13_CleanTexts.l0 k1 t695 t714 t719 false (wrap64 (x9_1 + 1)) t698 t699 t700 t703 t706 t709 t712 t713)) else (none)) = some r := by rw [if_neg (show ¬ (false = true) by decide)] at H; exact H
      by_cases c23 : 0 ≤ x9_1
      ·rw [if_pos c23] at H
       have c23b0 : decide (0 ≤ x9_1) = true := decide_eq_true c23
       clear c23
       by_cases c24 : ((rd_T38 t695 x9_1).f1) = 0
       ·rw [if_pos c24] at H
        have c24b0 : (((rd_T38 t695 x9_1).f1) == 0) = true := beq_iff_eq.mpr c24
        have c24b1 : (((rd_T38 t695 x9_1).f1) != 0) = false := bne_eq_false_iff_eq.mpr c24
        clear c24
        replace H := Option.bind_eq_some_iff.mp H
        obtain ⟨t722, A250, H⟩ := H
        have A25 := Aside0.mk A250
        clear A250
        have H' := Aside0.mk H
        clear H
        try go_wp2
        have n0_ := Aside0.mk (Kd.N_drew HO_0.out)
        have n1_ := Aside0.mk (Kd.N_drew HO_5.out)
        have n2_ := Aside0.mk (Kd.V_drew HO_695002.out)
        have n3_ := Aside0.mk (Kd.V_drew HO_695003.out)
        have n4_ := Aside0.mk (Kd.V_drew HO_695004.out)
        have n5_ := Aside0.mk (Kd.N_drew HO_695005.out)
        have n6_ := Aside0.mk (blk_drew BK694.out)
        have n7_ := Aside0.mk (below_drew1 HB.out)
        clear HO_0
        clear HO_5
        clear HO_695002
        clear HO_695003
        clear HO_695004
        clear HO_695005
        clear BK694
        clear HB
        have HO_0 := n0_
        have HO_5 := n1_
        have HO_695002 := n2_
        have HO_695003 := n3_
        have HO_695004 := n4_
        have HO_695005 := n5_
        have BK694 := n6_
        have HB := n7_
        clear n0_ n1_ n2_ n3_ n4_ n5_ n6_ n7_
        have p720 : 0 ≤ (x9_1 : Int) := of_decide_eq_true za
        have q720 : x9_1 < (t695.length : Int) := of_decide_eq_true za
        obtain ⟨ad720, A720_4, c720_4, e720, hx720_0, hx720_1, hx720_2, hx720_3, hx720_4, hl720_4, hi720_4⟩ := at_T38 (Kd.N_reads' HO_0.out).2.2 x9_1 p720 q720
        cases e720
        obtain ⟨ce720, hce720, hMe720, hcc720⟩ := Kd.N_get HO_0.out z38 x9_1 p720 (by first | exact q720 | exact of_decide_eq_true za | (have e_ := (Kd.N_reads' HO_0.out).1; omega))
        obtain ⟨ua720_4, uc720_4, rfl, ul720_4, ge720_4⟩ := k38_openF hMe720
        have hv720_4 := hcc720 4 _ rfl
        rw [add_field _ _ 4 (by omega)] at hv720_4
        replace hv720_4 := Option.some.inj (hv720_4.symm.trans hx720_4)
        injection hv720_4 with hva_ hvn_ hvc_
        rw [hva_] at ge720_4
        rw [hvc_] at ul720_4
        have HL720_4 := Aside0.mk (show Kd.V k45 45 _ w.heap.size _ _ ((rd_T38 t695 x9_1).f4) from Kd.V_mk ul720_4 ge720_4)
        clear hva_ hvn_ hvc_ ge720_4 ul720_4
        clear hcc720 hce720
        have HR720_4 := Aside0.mk hi720_4
        have HC720_4 := Aside0.mk hl720_4
        clear hi720_4 hl720_4
        replace p720 := eq_true p720
        replace q720 := eq_true q720
        have p721 : 0 ≤ (x9_1 : Int) := of_decide_eq_true za
        have q721 : x9_1 < (t695.length : Int) := of_decide_eq_true za
        obtain ⟨ad721, A721_4, c721_4, e721, hx721_0, hx721_1, hx721_2, hx721_3, hx721_4, hl721_4, hi721_4⟩ := at_T38 (Kd.N_reads' HO_0.out).2.2 x9_1 p721 q721
        obtain rfl : ad720 = ad721 := (by injection e721)
        obtain ⟨ce721, hce721, hMe721, hcc721⟩ := Kd.N_get HO_0.out z38 x9_1 p721 (by first | exact q721 | exact of_decide_eq_true za | (have e_ := (Kd.N_reads' HO_0.out).1; omega))
        obtain ⟨ua721_4, uc721_4, rfl, ul721_4, ge721_4⟩ := k38_openF hMe721
        have hv721_4 := hcc721 4 _ rfl
        rw [add_field _ _ 4 (by omega)] at hv721_4
        replace hv721_4 := Option.some.inj (hv721_4.symm.trans hx721_4)
        injection hv721_4 with hva_ hvn_ hvc_
        rw [hva_] at ge721_4
        rw [hvc_] at ul721_4
        have HL721_4 := Aside0.mk (show Kd.V k45 45 _ w.heap.size _ _ ((rd_T38 t695 x9_1).f4) from Kd.V_mk ul721_4 ge721_4)
        clear hva_ hvn_ hvc_ ge721_4 ul721_4
        clear hcc721 hce721
        have HR721_4 := Aside0.mk hi721_4
        have HC721_4 := Aside0.mk hl721_4
        clear hi721_4 hl721_4
        replace p721 := eq_true p721
        replace q721 := eq_true q721
        have ea_ := Option.some.inj (hx720_4.symm.trans hx721_4)
        injection ea_ with ea_ en_ ec_
        subst ea_
        subst ec_
        clear en_
        refine start_ (n := 20) (S := fun w' => w'.cell? ⟨gb694, 0, none⟩ = some (.bool t698) ∧ w'.cell? ⟨gb694, 1, none⟩ = some (.bool t699) ∧ w'.cell? ⟨gb694, 2, none⟩ = some (.slice Ao13 t700.length co13) ∧ w'.cell? ⟨gb694, 3, none⟩ = some (.slice Ao14 t703.length co14) ∧ w'.cell? ⟨gb694, 4, none⟩ = some (.slice Ao15 t706.length co15) ∧ w'.cell? ⟨gb694, 5, none⟩ = some (.slice Ao16 t709.length co16) ∧ w'.cell? ⟨gb694, 6, none⟩ = some (.bool t712) ∧ w'.cell? ⟨gb694, 7, none⟩ = some (.bool t713) ∧ w'.cell? (ad720.add ((x9_1).toNat * 5)) = some (.int .i64 ((rd_T38 t695 x9_1).f0)) ∧ w'.cell? ⟨(ad720.add ((x9_1).toNat * 5)).block, (ad720.add ((x9_1).toNat * 5)).off + 1, none⟩ = some (.int .i64 ((rd_T38 t695 x9_1).f1)) ∧ w'.cell? ⟨(ad720.add ((x9_1).toNat * 5)).block, (ad720.add ((x9_1).toNat * 5)).off + 2, none⟩ = some (.string ((rd_T38 t695 x9_1).f2)) ∧ w'.cell? ⟨(ad720.add ((x9_1).toNat * 5)).block, (ad720.add ((x9_1).toNat * 5)).off + 3, none⟩ = some (.string ((rd_T38 t695 x9_1).f3)) ∧ w'.cell? ⟨(ad720.add ((x9_1).toNat * 5)).block, (ad720.add ((x9_1).toNat * 5)).off + 4, none⟩ = some (.slice A720_4 ((rd_T38 t695 x9_1).f4).length c720_4) ∧ w'.cell? (ad720.add ((x9_1).toNat * 5)) = some (.int .i64 ((rd_T38 t695 x9_1).f0)) ∧ w'.cell? ⟨(ad720.add ((x9_1).toNat * 5)).block, (ad720.add ((x9_1).toNat * 5)).off + 1, none⟩ = some (.int .i64 ((rd_T38 t695 x9_1).f1)) ∧ w'.cell? ⟨(ad720.add ((x9_1).toNat * 5)).block, (ad720.add ((x9_1).toNat * 5)).off + 2, none⟩ = some (.string ((rd_T38 t695 x9_1).f2)) ∧ w'.cell? ⟨(ad720.add ((x9_1).toNat * 5)).block, (ad720.add ((x9_1).toNat * 5)).off + 3, none⟩ = some (.string ((rd_T38 t695 x9_1).f3)) ∧ w'.cell? ⟨(ad720.add ((x9_1).toNat * 5)).block, (ad720.add ((x9_1).toNat * 5)).off + 4, none⟩ = some (.slice A720_4 ((rd_T38 t695 x9_1).f4).length c720_4)) (ds := []) (tf 0 20) (by kernel_rfl) rfl rfl ⟨(blk_cell BK694.out 0).trans rfl, (blk_cell BK694.out 1).trans rfl, (blk_cell BK694.out 2).trans rfl, (blk_cell BK694.out 3).trans rfl, (blk_cell BK694.out 4).trans rfl, (blk_cell BK694.out 5).trans rfl, (blk_cell BK694.out 6).trans rfl, (blk_cell BK694.out 7).trans rfl, hx720_0, hx720_1, hx720_2, hx720_3, hx720_4, hx721_0, hx721_1, hx721_2, hx721_3, hx721_4⟩ (fun hHeld => ?_); refine with_tabW boltinglaw13_CleanTexts.tab11 boltinglaw13_CleanTexts.bits11 (fun HT_ HW_ => ?_)
        generalize wr.drew = w26 at HO_0 HO_5 HO_695002 HO_695003 HO_695004 HO_695005 BK694 HB HL720_4 HL721_4 HR720_4 HR721_4 hx720_0 hx720_1 hx720_2 hx720_3 hx720_4 hx721_0 hx721_1 hx721_2 hx721_3 hx721_4 hHeld ⊢
        refine pure_ (i := 0) (N := some 32) (v := ?_) (a' := ?_) (tf 1 19) rfl rfl (any_of HT_.out (by kernel_rfl)) (fun _ _ _ h => h) (Or.inl ⟨by rfl, ?_⟩) ?_ ?_
        rotate_left
        ·intro w'
         go_simp
         with_reducible rfl
        rotate_left
        ·simp only [Act.put, List.setIfInBounds_toArray, List.set_cons_zero, List.set_cons_succ, i64_w, i32_w]
         rfl
        refine pure_ (i := 1) (N := some 33) (v := ?_) (a' := ?_) (tf 2 18) rfl rfl (any_of HT_.out (by kernel_rfl)) (fun _ _ _ h => h) (Or.inl ⟨by rfl, ?_⟩) ?_ ?_
        rotate_left
        ·intro w'
         go_simp
         with_reducible rfl
        rotate_left
        ·simp only [Act.put, List.setIfInBounds_toArray, List.set_cons_zero, List.set_cons_succ, i64_w, i32_w]
         rfl
        refine pure_ (i := 2) (N := some 34) (v := ?_) (a' := ?_) (tf 3 17) rfl rfl (any_of HT_.out (by kernel_rfl)) (fun _ _ _ h => h) (Or.inl ⟨by rfl, ?_⟩) ?_ ?_
        rotate_left
        ·intro w'
         go_simp
         with_reducible rfl
        rotate_left
        ·simp only [Act.put, List.setIfInBounds_toArray, List.set_cons_zero, List.set_cons_succ, i64_w, i32_w]
         rfl
        refine pure_ (i := 3) (N := some 35) (v := ?_) (a' := ?_) (tf 4 16) rfl rfl (any_of HT_.out (by kernel_rfl)) (fun _ _ _ h => h) (Or.inl ⟨by rfl, ?_⟩) ?_ ?_
        rotate_left
        ·intro w'
         go_simp
         with_reducible rfl
        rotate_left
        ·simp only [Act.put, List.setIfInBounds_toArray, List.set_cons_zero, List.set_cons_succ, i64_w, i32_w]
         rfl
        refine pure_ (i := 4) (N := some 36) (v := ?_) (a' := ?_) (tf 5 15) rfl rfl (any_of HT_.out (by kernel_rfl)) (fun _ _ _ h => h) (Or.inl ⟨by rfl, ?_⟩) ?_ ?_
        rotate_left
        ·intro w'
         go_simp
         with_reducible rfl
        rotate_left
        ·simp only [Act.put, List.setIfInBounds_toArray, List.set_cons_zero, List.set_cons_succ, i64_w, i32_w]
         rfl
        refine pure_ (i := 5) (N := some 37) (v := ?_) (a' := ?_) (tf 6 14) rfl rfl (any_of HT_.out (by kernel_rfl)) (fun _ _ _ h => h) (Or.inl ⟨by rfl, ?_⟩) ?_ ?_
        rotate_left
        ·intro w'
         go_simp
         with_reducible rfl
        rotate_left
        ·simp only [Act.put, List.setIfInBounds_toArray, List.set_cons_zero, List.set_cons_succ, i64_w, i32_w]
         rfl
        refine take_ (i := 6) (N := some 38) (v := ?_) (a' := ?_) (tf 7 13) rfl rfl (take_ofW HT_.out HW_.out (by kernel_rfl)) (fun _ _ _ h => h) (Or.inl ⟨by rfl, ?_⟩) hHeld ?_ ?_
        rotate_left
        ·rintro w' ⟨s0, s1, s2, s3, s4, s5, s6, s7, s8, s9, s10, s11, s12, s13, s14, s15, s16, s17⟩
         go_simp
         with_reducible rfl
        rotate_left
        ·simp only [Act.put, List.setIfInBounds_toArray, List.set_cons_zero, List.set_cons_succ, i64_w, i32_w]
         rfl
        refine pure_ (i := 7) (N := some 39) (v := ?_) (a' := ?_) (tf 8 12) rfl rfl (any_of HT_.out (by kernel_rfl)) (fun _ _ _ h => h) (Or.inl ⟨by rfl, ?_⟩) ?_ ?_
        rotate_left
        ·intro w'
         go_simp
         with_reducible rfl
        rotate_left
        ·simp only [Act.put, List.setIfInBounds_toArray, List.set_cons_zero, List.set_cons_succ, i64_w, i32_w]
         rfl
        refine pure_ (i := 8) (N := some 40) (v := ?_) (a' := ?_) (tf 9 11) rfl rfl (any_of HT_.out (by kernel_rfl)) (fun _ _ _ h => h) (Or.inl ⟨by rfl, ?_⟩) ?_ ?_
        rotate_left
        ·intro w'
         go_simp
         with_reducible rfl
        rotate_left
        ·simp only [Act.put, List.setIfInBounds_toArray, List.set_cons_zero, List.set_cons_succ, i64_w, i32_w]
         rfl
        refine pure_ (i := 10) (N := some 42) (v := ?_) (a' := ?_) #[true, true, true, true, true, true, true, true, true, false, true, false, false, false, false, false, false, false, false, false] rfl rfl (any_of HT_.out (by kernel_rfl)) (fun _ _ _ h => h) (Or.inl ⟨by rfl, ?_⟩) ?_ ?_
        rotate_left
        ·intro w'
         go_simp
         with_reducible rfl
        rotate_left
        ·simp only [Act.put, List.setIfInBounds_toArray, List.set_cons_zero, List.set_cons_succ, i64_w, i32_w]
         rfl
        refine pure_ (i := 11) (N := some 43) (v := ?_) (a' := ?_) #[true, true, true, true, true, true, true, true, true, false, true, true, false, false, false, false, false, false, false, false] rfl rfl (any_of HT_.out (by kernel_rfl)) (fun _ _ _ h => h) (Or.inl ⟨by rfl, ?_⟩) ?_ ?_
        rotate_left
        ·intro w'
         go_simp
         with_reducible rfl
        rotate_left
        ·simp only [Act.put, List.setIfInBounds_toArray, List.set_cons_zero, List.set_cons_succ, i64_w, i32_w]
         rfl
        refine pure_ (i := 12) (N := some 44) (v := ?_) (a' := ?_) #[true, true, true, true, true, true, true, true, true, false, true, true, true, false, false, false, false, false, false, false] rfl rfl (any_of HT_.out (by kernel_rfl)) (fun _ _ _ h => h) (Or.inl ⟨by rfl, ?_⟩) ?_ ?_
        rotate_left
        ·intro w'
         go_simp
         with_reducible rfl
        rotate_left
        ·simp only [Act.put, List.setIfInBounds_toArray, List.set_cons_zero, List.set_cons_succ, i64_w, i32_w]
         rfl
        refine pure_ (i := 13) (N := some 45) (v := ?_) (a' := ?_) #[true, true, true, true, true, true, true, true, true, false, true, true, true, true, false, false, false, false, false, false] rfl rfl (any_of HT_.out (by kernel_rfl)) (fun _ _ _ h => h) (Or.inl ⟨by rfl, ?_⟩) ?_ ?_
        rotate_left
        ·intro w'
         go_simp
         with_reducible rfl
        rotate_left
        ·simp only [Act.put, List.setIfInBounds_toArray, List.set_cons_zero, List.set_cons_succ, i64_w, i32_w]
         rfl
        refine take_ (i := 9) (N := some 41) (v := ?_) (a' := ?_) (tf 14 6) rfl rfl (take_ofW HT_.out HW_.out (by kernel_rfl)) (fun _ _ _ h => h) (Or.inl ⟨by rfl, ?_⟩) hHeld ?_ ?_
        rotate_left
        ·rintro w' ⟨s0, s1, s2, s3, s4, s5, s6, s7, s8, s9, s10, s11, s12, s13, s14, s15, s16, s17⟩
         go_simp
         with_reducible rfl
        rotate_left
        ·simp only [Act.put, List.setIfInBounds_toArray, List.set_cons_zero, List.set_cons_succ, i64_w, i32_w]
         rfl
        refine take_ (i := 14) (N := some 46) (v := ?_) (a' := ?_) (tf 15 5) rfl rfl (take_ofW HT_.out HW_.out (by kernel_rfl)) (fun _ _ _ h => h) (Or.inl ⟨by rfl, ?_⟩) hHeld ?_ ?_
        rotate_left
        ·rintro w' ⟨s0, s1, s2, s3, s4, s5, s6, s7, s8, s9, s10, s11, s12, s13, s14, s15, s16, s17⟩
         go_simp
         with_reducible rfl
        rotate_left
        ·simp only [Act.put, List.setIfInBounds_toArray, List.set_cons_zero, List.set_cons_succ, i64_w, i32_w]
         rfl
        refine one_ (i := 15) (N := some 47) (tf 16 4) rfl rfl (one_of HT_.out (by kernel_rfl)) (by decide) (fun K hK => ?_)
        refine goes_ Tryz.func26 (by kernel_rfl) rfl #[.agg #[.bool t698, .bool t699, .slice Ao13 t700.length co13, .slice Ao14 t703.length co14, .slice Ao15 t706.length co15, .slice Ao16 t709.length co16, .bool t712, .bool t713], .string ((rd_T38 t695 x9_1).f2)] (by rfl) rfl rfl zm ?_
        with_reducible refine (config_Element.calls k1 t698 t699 _ _ t700 _ _ t703 _ _ t706 _ _ t709 t712 t713 ((rd_T38 t695 x9_1).f2) t722 _ ?side1 ?side2 ?side3 ?side4 ?side5 ?side6 ?side7 ?side8 A25.out).mono ?_
        (case side1 => exact zc (Kd.V_reads' HO_695002.out).2.2)
        (case side2 => exact (Kd.V_reads' HO_695002.out).2.1)
        (case side3 => exact zc (Kd.V_reads' HO_695003.out).2.2)
        (case side4 => exact (Kd.V_reads' HO_695003.out).2.1)
        (case side5 => exact zc (Kd.V_reads' HO_695004.out).2.2)
        (case side6 => exact (Kd.V_reads' HO_695004.out).2.1)
        (case side7 => exact zc (Kd.N_reads' HO_695005.out).2.2)
        (case side8 => exact (Kd.N_reads' HO_695005.out).2.1)
        rintro e w27 ⟨rfl, hb⟩
        have HS8_ := (hb.cell (World.block_lt_of_cell? _ _ (hHeld.2.2.2.2.2.2.2.2.1))).trans (hHeld.2.2.2.2.2.2.2.2.1)
        have HS9_ := (hb.cell (World.block_lt_of_cell? _ _ (hHeld.2.2.2.2.2.2.2.2.2.1))).trans (hHeld.2.2.2.2.2.2.2.2.2.1)
        have HS10_ := (hb.cell (World.block_lt_of_cell? _ _ (hHeld.2.2.2.2.2.2.2.2.2.2.1))).trans (hHeld.2.2.2.2.2.2.2.2.2.2.1)
        have HS11_ := (hb.cell (World.block_lt_of_cell? _ _ (hHeld.2.2.2.2.2.2.2.2.2.2.2.1))).trans (hHeld.2.2.2.2.2.2.2.2.2.2.2.1)
        have HS12_ := (hb.cell (World.block_lt_of_cell? _ _ (hHeld.2.2.2.2.2.2.2.2.2.2.2.2.1))).trans (hHeld.2.2.2.2.2.2.2.2.2.2.2.2.1)
        have HS13_ := (hb.cell (World.block_lt_of_cell? _ _ (hHeld.2.2.2.2.2.2.2.2.2.2.2.2.2.1))).trans (hHeld.2.2.2.2.2.2.2.2.2.2.2.2.2.1)
        have HS14_ := (hb.cell (World.block_lt_of_cell? _ _ (hHeld.2.2.2.2.2.2.2.2.2.2.2.2.2.2.1))).trans (hHeld.2.2.2.2.2.2.2.2.2.2.2.2.2.2.1)
        have HS15_ := (hb.cell (World.block_lt_of_cell? _ _ (hHeld.2.2.2.2.2.2.2.2.2.2.2.2.2.2.2.1))).trans (hHeld.2.2.2.2.2.2.2.2.2.2.2.2.2.2.2.1)
        have HS16_ := (hb.cell (World.block_lt_of_cell? _ _ (hHeld.2.2.2.2.2.2.2.2.2.2.2.2.2.2.2.2.1))).trans (hHeld.2.2.2.2.2.2.2.2.2.2.2.2.2.2.2.2.1)
        have HS17_ := (hb.cell (World.block_lt_of_cell? _ _ (hHeld.2.2.2.2.2.2.2.2.2.2.2.2.2.2.2.2.2))).trans (hHeld.2.2.2.2.2.2.2.2.2.2.2.2.2.2.2.2.2)
        refine ⟨_, rfl, ?_⟩
        have n0_ := Aside0.mk (Kd.N_below (by exact HO_0.out) hb)
        have n1_ := Aside0.mk (Kd.N_below (by exact HO_5.out) hb)
        have n2_ := Aside0.mk (Kd.V_below (by exact HO_695002.out) hb)
        have n3_ := Aside0.mk (Kd.V_below (by exact HO_695003.out) hb)
        have n4_ := Aside0.mk (Kd.V_below (by exact HO_695004.out) hb)
        have n5_ := Aside0.mk (Kd.N_below (by exact HO_695005.out) hb)
        have n8_ := Aside0.mk (blk_below (by exact BK694.out) hb)
        have n11_ := Aside0.mk (below_step (zb1 HB GE694) hb)
        clear HO_0
        clear HO_5
        clear HO_695002
        clear HO_695003
        clear HO_695004
        clear HO_695005
        clear HL720_4
        clear HL721_4
        clear BK694
        clear HR720_4
        clear HR721_4
        clear HB
        have HO_0 := n0_
        have HO_5 := n1_
        have HO_695002 := n2_
        have HO_695003 := n3_
        have HO_695004 := n4_
        have HO_695005 := n5_
        have BK694 := n8_
        have HB := n11_
        clear n0_ n1_ n2_ n3_ n4_ n5_ n8_ n11_
        (try clear hb)
        refine hK.out _ _ ⟨(blk_cell BK694.out 0).trans rfl, (blk_cell BK694.out 1).trans rfl, (blk_cell BK694.out 2).trans rfl, (blk_cell BK694.out 3).trans rfl, (blk_cell BK694.out 4).trans rfl, (blk_cell BK694.out 5).trans rfl, (blk_cell BK694.out 6).trans rfl, (blk_cell BK694.out 7).trans rfl, HS8_, HS9_, HS10_, HS11_, HS12_, HS13_, HS14_, HS15_, HS16_, HS17_⟩ (fun hHeld => ?_)
        clear hK K
        refine norm_ (a' := ?_) ?_ ?_
        rotate_left
        ·show Act.put _ (some 47) _ = _
         simp only [Act.put, List.setIfInBounds_toArray, List.set_cons_zero, List.set_cons_succ, i64_w, i32_w]
         rfl
        refine pure_ (i := 16) (N := some 48) (v := ?_) (a' := ?_) (tf 17 3) rfl rfl (any_of HT_.out (by kernel_rfl)) (fun _ _ _ h => h) (Or.inl ⟨by rfl, ?_⟩) ?_ ?_
        rotate_left
        ·intro w'
         go_simp
         with_reducible rfl
        rotate_left
        ·simp only [Act.put, List.setIfInBounds_toArray, List.set_cons_zero, List.set_cons_succ, i64_w, i32_w]
         rfl
        refine pure_ (i := 17) (N := some 49) (v := ?_) (a' := ?_) (tf 18 2) rfl rfl (any_of HT_.out (by kernel_rfl)) (fun _ _ _ h => h) (Or.inl ⟨by rfl, ?_⟩) ?_ ?_
        rotate_left
        ·intro w'
         go_simp
         with_reducible rfl
        rotate_left
        ·simp only [Act.put, List.setIfInBounds_toArray, List.set_cons_zero, List.set_cons_succ, i64_w, i32_w]
         rfl
        refine pure_ (i := 18) (N := some 50) (v := ?_) (a' := ?_) (tf 19 1) rfl rfl (any_of HT_.out (by kernel_rfl)) (fun _ _ _ h => h) (Or.inl ⟨by rfl, ?_⟩) ?_ ?_
        rotate_left
        ·intro w'
         go_simp
         with_reducible rfl
        rotate_left
        ·simp only [Act.put, List.setIfInBounds_toArray, List.set_cons_zero, List.set_cons_succ, i64_w, i32_w]
         rfl
        refine pure_ (i := 19) (N := some 8) (v := ?_) (a' := ?_) (tf 20 0) rfl rfl (any_of HT_.out (by kernel_rfl)) (fun _ _ _ h => h) (Or.inl ⟨by rfl, ?_⟩) ?_ ?_
        rotate_left
        ·intro w'
         go_simp
         with_reducible rfl
        rotate_left
        ·simp only [Act.put, List.setIfInBounds_toArray, List.set_cons_zero, List.set_cons_succ, i64_w, i32_w]
         rfl
        refine done_ (done_of HT_.out (by kernel_rfl)) ?_
        try go_wp2
        go_roundg k1
        case measure => have := HK1.out; omega
        case rel => exact ⟨((t722 == 1)), (wrap64 (x9_1 + 1)), zr, zr, H', ⟨by have := HK1.out; omega⟩, ⟨by exact HO_0.out⟩, ⟨by exact HO_5.out⟩, ⟨by exact HO_695002.out⟩, ⟨by exact HO_695003.out⟩, ⟨by exact HO_695004.out⟩, ⟨by exact HO_695005.out⟩, ⟨by exact BK694.out⟩, ⟨zb1 HB GE694⟩⟩
       ·rw [if_neg c24] at H
        have c24b0 : (((rd_T38 t695 x9_1).f1) == 0) = false := beq_eq_false_iff_ne.mpr c24
        have c24b1 : (((rd_T38 t695 x9_1).f1) != 0) = true := bne_iff_ne.mpr c24
        have H' := Aside0.mk H
        clear H
        try go_wp2
        have n0_ := Aside0.mk (Kd.N_drew HO_0.out)
        have n1_ := Aside0.mk (Kd.N_drew HO_5.out)
        have n2_ := Aside0.mk (Kd.V_drew HO_695002.out)
        have n3_ := Aside0.mk (Kd.V_drew HO_695003.out)
        have n4_ := Aside0.mk (Kd.V_drew HO_695004.out)
        have n5_ := Aside0.mk (Kd.N_drew HO_695005.out)
        have n6_ := Aside0.mk (blk_drew BK694.out)
        have n7_ := Aside0.mk (below_drew1 HB.out)
        clear HO_0
        clear HO_5
        clear HO_695002
        clear HO_695003
        clear HO_695004
        clear HO_695005
        clear BK694
        clear HB
        have HO_0 := n0_
        have HO_5 := n1_
        have HO_695002 := n2_
        have HO_695003 := n3_
        have HO_695004 := n4_
        have HO_695005 := n5_
        have BK694 := n6_
        have HB := n7_
        clear n0_ n1_ n2_ n3_ n4_ n5_ n6_ n7_
        have p720 : 0 ≤ (x9_1 : Int) := of_decide_eq_true za
        have q720 : x9_1 < (t695.length : Int) := of_decide_eq_true za
        obtain ⟨ad720, A720_4, c720_4, e720, hx720_0, hx720_1, hx720_2, hx720_3, hx720_4, hl720_4, hi720_4⟩ := at_T38 (Kd.N_reads' HO_0.out).2.2 x9_1 p720 q720
        cases e720
        obtain ⟨ce720, hce720, hMe720, hcc720⟩ := Kd.N_get HO_0.out z38 x9_1 p720 (by first | exact q720 | exact of_decide_eq_true za | (have e_ := (Kd.N_reads' HO_0.out).1; omega))
        obtain ⟨ua720_4, uc720_4, rfl, ul720_4, ge720_4⟩ := k38_openF hMe720
        have hv720_4 := hcc720 4 _ rfl
        rw [add_field _ _ 4 (by omega)] at hv720_4
        replace hv720_4 := Option.some.inj (hv720_4.symm.trans hx720_4)
        injection hv720_4 with hva_ hvn_ hvc_
        rw [hva_] at ge720_4
        rw [hvc_] at ul720_4
        have HL720_4 := Aside0.mk (show Kd.V k45 45 _ w.heap.size _ _ ((rd_T38 t695 x9_1).f4) from Kd.V_mk ul720_4 ge720_4)
        clear hva_ hvn_ hvc_ ge720_4 ul720_4
        clear hcc720 hce720
        have HR720_4 := Aside0.mk hi720_4
        have HC720_4 := Aside0.mk hl720_4
        clear hi720_4 hl720_4
        replace p720 := eq_true p720
        replace q720 := eq_true q720
        have hz0 : wr.cell? (ad720.add ((x9_1).toNat * 5)) = some (.int .i64 ((rd_T38 t695 x9_1).f0)) := hx720_0
        have hz1 : wr.cell? ⟨(ad720.add ((x9_1).toNat * 5)).block, (ad720.add ((x9_1).toNat * 5)).off + 1, none⟩ = some (.int .i64 ((rd_T38 t695 x9_1).f1)) := hx720_1
        have hz2 : wr.cell? ⟨(ad720.add ((x9_1).toNat * 5)).block, (ad720.add ((x9_1).toNat * 5)).off + 2, none⟩ = some (.string ((rd_T38 t695 x9_1).f2)) := hx720_2
        have hz3 : wr.cell? ⟨(ad720.add ((x9_1).toNat * 5)).block, (ad720.add ((x9_1).toNat * 5)).off + 3, none⟩ = some (.string ((rd_T38 t695 x9_1).f3)) := hx720_3
        have hz4 : wr.cell? ⟨(ad720.add ((x9_1).toNat * 5)).block, (ad720.add ((x9_1).toNat * 5)).off + 4, none⟩ = some (.slice A720_4 ((rd_T38 t695 x9_1).f4).length c720_4) := hx720_4
        go_region
        clear hz0 hz1 hz2 hz3 hz4
        generalize wr.drew = w28 at HO_0 HO_5 HO_695002 HO_695003 HO_695004 HO_695005 BK694 HB HL720_4 HR720_4 hx720_0 hx720_1 hx720_2 hx720_3 hx720_4 ⊢
        try go_wp2
        go_roundg k1
        case measure => have := HK1.out; omega
        case rel => exact ⟨(false), (wrap64 (x9_1 + 1)), zr, zr, H', ⟨by have := HK1.out; omega⟩, ⟨by exact HO_0.out⟩, ⟨by exact HO_5.out⟩, ⟨by exact HO_695002.out⟩, ⟨by exact HO_695003.out⟩, ⟨by exact HO_695004.out⟩, ⟨by exact HO_695005.out⟩, ⟨by exact BK694.out⟩, ⟨zb1 HB GE694⟩⟩
      ·rw [if_neg c23] at H
       exact absurd H (by simp)
    ·rw [if_neg c20] at H
     have c20b0 : decide (x9_1 < (t695.length : Int)) = false := decide_eq_false c20
     clear c20
     replace H := Option.bind_eq_some_iff.mp H
     obtain ⟨t723, A290, H⟩ := H
     have A29 := Aside0.mk A290
     clear A290
     by_cases c30 : (t723.size : Int) ≤ (t719.size : Int)
     ·rw [if_pos c30] at H
      have c30b0 : decide ((t723.size : Int) ≤ (t719.size : Int)) = true := decide_eq_true c30
      have c30b1 : decide (t723.size ≤ t719.size) = true := decide_eq_true (Int.ofNat_le.mp c30)
      clear c30
      by_cases c31 : x8_1 = true
      ·subst c31
       replace H : ((boltinglaw13_fixed.f).bind fun t724 => (some t724)) = some r := by rw [if_pos rfl] at H; exact H
       replace H := Option.bind_eq_some_iff.mp H
       obtain ⟨t724, A320, H⟩ := H
       replace H : (some t724) = some r := H
       have A32 := Aside0.mk A320
       clear A320
       obtain rfl := Option.some.inj H
       obtain ⟨Ao33, co33, eo33⟩ := Kd.N_slice HO_5.out
       subst eo33
       go_wp2_with (first | ((with_reducible refine gate_callee (f := 19) rfl ?_); refine goesL_ (some 52) rfl rfl Tryz.func19 (by kernel_rfl) rfl #[.slice Ao33 t714.length co33, .int .i64 (-1)] rfl zm ?_; (with_reducible refine (boltingref04_Text.calls k1 _ _ t714 (-1) t723 _ ?side1 ?side2 A29.out).mono ?_); (case side1 => exact zc (Kd.N_reads' HO_5.out).2.2); (case side2 => exact (Kd.N_reads' HO_5.out).2.1); rintro e w34 ⟨rfl, hb⟩; refine ⟨_, rfl, ?_⟩; have n7_ := Aside0.mk (below_step (zb1 HB GE694) hb); clear HO_0; clear HO_5; clear HO_695002; clear HO_695003; clear HO_695004; clear HO_695005; clear BK694; clear HB; have HB := n7_; clear n7_; (try clear hb)) | (go_at_call 12; (with_reducible refine (boltinglaw13_fixed.calls  t724 _ A32.out).mono ?_); rintro e w35 ⟨rfl, hb⟩; have n7_ := Aside0.mk (below_step (zb1 HB GE694) hb); clear HB; have HB := n7_; clear n7_; (try clear hb)))
       go_ret
       exact ⟨ze, zb1 HB GE694⟩
      ·replace c31 := Bool.eq_false_iff.mpr c31
       subst c31
       replace H : (if t723.toList = t719.toList then ((boltinglaw13_fixed.f).bind fun t725 => (some t725)) else (some false)) = some r := by rw [if_neg (show ¬ (false = true) by decide)] at H; exact H
       by_cases c36 : t723.toList = t719.toList
       ·rw [if_pos c36] at H
        have c36b0 : (t723.toList == t719.toList) = true := beq_iff_eq.mpr c36
        have c36b1 : (t723.toList != t719.toList) = false := bne_eq_false_iff_eq.mpr c36
        clear c36
        replace H := Option.bind_eq_some_iff.mp H
        obtain ⟨t725, A370, H⟩ := H
        replace H : (some t725) = some r := H
        have A37 := Aside0.mk A370
        clear A370
        obtain rfl := Option.some.inj H
        obtain ⟨Ao38, co38, eo38⟩ := Kd.N_slice HO_5.out
        subst eo38
        go_wp2_with (first | ((with_reducible refine gate_callee (f := 19) rfl ?_); refine goesL_ (some 52) rfl rfl Tryz.func19 (by kernel_rfl) rfl #[.slice Ao38 t714.length co38, .int .i64 (-1)] rfl zm ?_; (with_reducible refine (boltingref04_Text.calls k1 _ _ t714 (-1) t723 _ ?side1 ?side2 A29.out).mono ?_); (case side1 => exact zc (Kd.N_reads' HO_5.out).2.2); (case side2 => exact (Kd.N_reads' HO_5.out).2.1); rintro e w39 ⟨rfl, hb⟩; refine ⟨_, rfl, ?_⟩; have n7_ := Aside0.mk (below_step (zb1 HB GE694) hb); clear HO_0; clear HO_5; clear HO_695002; clear HO_695003; clear HO_695004; clear HO_695005; clear BK694; clear HB; have HB := n7_; clear n7_; (try clear hb)) | (go_at_call 12; (with_reducible refine (boltinglaw13_fixed.calls  t725 _ A37.out).mono ?_); rintro e w40 ⟨rfl, hb⟩; have n7_ := Aside0.mk (below_step (zb1 HB GE694) hb); clear HB; have HB := n7_; clear n7_; (try clear hb)))
        go_ret
        exact ⟨ze, zb1 HB GE694⟩
       ·rw [if_neg c36] at H
        have c36b0 : (t723.toList == t719.toList) = false := beq_eq_false_iff_ne.mpr c36
        have c36b1 : (t723.toList != t719.toList) = true := bne_iff_ne.mpr c36
        exact absurd (Option.some.inj H) (by rw [hT.out]; decide)
     ·rw [if_neg c30] at H
      have c30b0 : decide ((t723.size : Int) ≤ (t719.size : Int)) = false := decide_eq_false c30
      have c30b1 : decide (t723.size ≤ t719.size) = false := decide_eq_false (fun h => c30 (Int.ofNat_le.mpr h))
      clear c30
      exact absurd (Option.some.inj H) (by rw [hT.out]; decide)
 ·rw [if_neg c6] at H
  have c6b0 : (t717 == 0) = false := beq_eq_false_iff_ne.mpr c6
  have c6b1 : (t717 != 0) = true := bne_iff_ne.mpr c6
  replace H := Option.bind_eq_some_iff.mp H
  obtain ⟨t718, A450, H⟩ := H
  replace H : (some t718) = some r := H
  have A45 := Aside0.mk A450
  clear A450
  obtain rfl := Option.some.inj H
  go_enter Tryz.func6, Tryz.ntmps6
  go_wp2_with (first | ((with_reducible refine gate_dst (N := 3) rfl ?_); refine box_event ?hg (N := 3) ?hd (cs := #[.bool a1_0, .bool a1_1, .slice A1_2 l1_2.length c1_2, .slice A1_3 l1_3.length c1_3, .slice A1_4 l1_4.length c1_4, .slice A1_5 l1_5.length c1_5, .bool a1_6, .bool a1_7]) (t := 32) ?hr ?_; (case hd => rfl); (case hg => rfl); (case hr => first | (go_simp; done) | (go_simp; rfl)); intro gb694 hg w46 hbox hb; have n0_ := Aside0.mk (below_step (zb HB) hb); have n1_ := Aside0.mk (hbox); have n2_ := Aside0.mk ((by rw [hg]; exact (below_size (zb HB)) : w.heap.size ≤ gb694)); have n3_ := Aside0.mk ((by rw [hg]; exact (below_size (zb HB)) : w.heap.size ≤ gb694)); clear HB; have HB := n0_; have BK694 := n1_; have GW694 := n2_; have GE694 := n3_; clear n0_ n1_ n2_ n3_; clear hb hbox hg) | ((with_reducible refine gate_callee (f := 10) rfl ?_); refine goesL_ (some 12) rfl rfl Tryz.func10 (by kernel_rfl) rfl #[.slice A0 l0.length c0] rfl zm ?_; (with_reducible refine (boltinglaw13_bound.calls k (fun k_ => k_ < w.heap.size) _ _ l0 t695 _ ?side1 A3.out).mono ?_); (case side1 => exact Kd.V_mk HC0.out (Kd.F_below (Kd.C_F k38_heap HR0.out) (zb1 HB GE694))); rintro e w47 ⟨v696, rfl, ho0, hb⟩; refine ⟨_, rfl, ?_⟩; have n0_ := Aside0.mk (Kd.N_lower (Kd.N_mono (ok' := fun k_ => k_ ≠ gb694) ho0 (fun k_ hk_ => Or.elim hk_ (fun hs_ => fun e_ => Nat.not_le.2 hs_ (by rw [e_]; exact GW694.out)) (fun hn_ => (Kd.freshB (by exact BK694.out) k_ hn_)))) (below_size (zb1 HB GE694))); have n1_ := Aside0.mk (blk_below (by exact BK694.out) hb); have n2_ := Aside0.mk (below_step (zb1 HB GE694) hb); clear BK694; clear HB; have HO697 := n0_; have BK694 := n1_; have HB := n2_; clear n0_ n1_ n2_; (try clear hb); (try clear ho0); obtain ⟨hcz48_0, hcz48_1, hcz48_2, hcz48_3, hcz48_4, hcz48_5, hcz48_6, hcz48_7, hfz48_0, hfz48_1, hfz48_2, hfz48_3, hfz48_4, hfz48_5, hfz48_6, hfz48_7⟩ := cz8 BK694.out) | ((with_reducible refine gate_callee (f := 20) rfl ?_); refine goesL_ (some 14) rfl rfl Tryz.func20 (by kernel_rfl) rfl #[.agg #[.bool a1_0, .bool a1_1, .slice A1_2 l1_2.length c1_2, .slice A1_3 l1_3.length c1_3, .slice A1_4 l1_4.length c1_4, .slice A1_5 l1_5.length c1_5, .bool a1_6, .bool a1_7]] rfl zm ?_; (with_reducible refine (boltinglaw12_Bound.calls k a1_0 a1_1 (fun k_ => k_ < w.heap.size) _ _ l1_2 (fun k_ => k_ < w.heap.size) _ _ l1_3 (fun k_ => k_ < w.heap.size) _ _ l1_4 (fun k_ => k_ < w.heap.size) _ _ l1_5 a1_6 a1_7 t698 t699 t700 t703 t706 t709 t712 t713 _ ?side1 ?side2 ?side3 ?side4 A4.out).mono ?_); (case side1 => exact Kd.V_mk HC1_2.out (Kd.F_below (Kd.C_F Kd.heap_string HR1_2.out) (zb1 HB GE694))); (case side2 => exact Kd.V_mk HC1_3.out (Kd.F_below (Kd.C_F Kd.heap_string HR1_3.out) (zb1 HB GE694))); (case side3 => exact Kd.V_mk HC1_4.out (Kd.F_below (Kd.C_F Kd.heap_string HR1_4.out) (zb1 HB GE694))); (case side4 => exact Kd.V_mk HC1_5.out (Kd.F_below (Kd.C_F k60_heap HR1_5.out) (zb1 HB GE694))); rintro e w49 ⟨v701, v704, v707, v710, rfl, ho0, ho1, ho2, ho3, hb⟩; refine ⟨_, rfl, ?_⟩; have n0_ := Aside0.mk (Kd.N_elder' (by exact HO697.out) (Kd.N_base ho3) hb); have n1_ := Aside0.mk (Kd.V_lower (Kd.V_mono (ok' := fun k_ => some k_ ≠ (v710 : Value).ownBlock ∧ some k_ ≠ (v696 : Value).ownBlock ∧ k_ ≠ gb694) ho0 (fun k_ hk_ => ⟨hk_.2, Or.elim hk_.1 (fun hs_ => Or.elim hs_ (fun hs_ => fun e_ => Nat.not_le.2 hs_ (Kd.N_base HO697.out k_ e_.symm)) (fun hs_ => Or.elim hs_ (fun hs_ => fun e_ => Nat.not_le.2 hs_ (Kd.N_base HO697.out k_ e_.symm)) (fun hs_ => Or.elim hs_ (fun hs_ => fun e_ => Nat.not_le.2 hs_ (Kd.N_base HO697.out k_ e_.symm)) (fun hs_ => fun e_ => Nat.not_le.2 hs_ (Kd.N_base HO697.out k_ e_.symm))))) (fun hn_ => (Kd.fresh' (Kd.N_lt (by exact HO697.out)) k_ hn_)), Or.elim hk_.1 (fun hs_ => Or.elim hs_ (fun hs_ => fun e_ => Nat.not_le.2 hs_ (by rw [e_]; exact GW694.out)) (fun hs_ => Or.elim hs_ (fun hs_ => fun e_ => Nat.not_le.2 hs_ (by rw [e_]; exact GW694.out)) (fun hs_ => Or.elim hs_ (fun hs_ => fun e_ => Nat.not_le.2 hs_ (by rw [e_]; exact GW694.out)) (fun hs_ => fun e_ => Nat.not_le.2 hs_ (by rw [e_]; exact GW694.out))))) (fun hn_ => (Kd.freshB (by exact BK694.out) k_ hn_))⟩)) (below_size (zb1 HB GE694))); have n2_ := Aside0.mk (Kd.V_lower (Kd.V_mono (ok' := fun k_ => some k_ ≠ (v710 : Value).ownBlock ∧ some k_ ≠ (v696 : Value).ownBlock ∧ k_ ≠ gb694) ho1 (fun k_ hk_ => ⟨hk_.2, Or.elim hk_.1 (fun hs_ => Or.elim hs_ (fun hs_ => fun e_ => Nat.not_le.2 hs_ (Kd.N_base HO697.out k_ e_.symm)) (fun hs_ => Or.elim hs_ (fun hs_ => fun e_ => Nat.not_le.2 hs_ (Kd.N_base HO697.out k_ e_.symm)) (fun hs_ => Or.elim hs_ (fun hs_ => fun e_ => Nat.not_le.2 hs_ (Kd.N_base HO697.out k_ e_.symm)) (fun hs_ => fun e_ => Nat.not_le.2 hs_ (Kd.N_base HO697.out k_ e_.symm))))) (fun hn_ => (Kd.fresh' (Kd.N_lt (by exact HO697.out)) k_ hn_)), Or.elim hk_.1 (fun hs_ => Or.elim hs_ (fun hs_ => fun e_ => Nat.not_le.2 hs_ (by rw [e_]; exact GW694.out)) (fun hs_ => Or.elim hs_ (fun hs_ => fun e_ => Nat.not_le.2 hs_ (by rw [e_]; exact GW694.out)) (fun hs_ => Or.elim hs_ (fun hs_ => fun e_ => Nat.not_le.2 hs_ (by rw [e_]; exact GW694.out)) (fun hs_ => fun e_ => Nat.not_le.2 hs_ (by rw [e_]; exact GW694.out))))) (fun hn_ => (Kd.freshB (by exact BK694.out) k_ hn_))⟩)) (below_size (zb1 HB GE694))); have n3_ := Aside0.mk (Kd.V_lower (Kd.V_mono (ok' := fun k_ => some k_ ≠ (v710 : Value).ownBlock ∧ some k_ ≠ (v696 : Value).ownBlock ∧ k_ ≠ gb694) ho2 (fun k_ hk_ => ⟨hk_.2, Or.elim hk_.1 (fun hs_ => Or.elim hs_ (fun hs_ => fun e_ => Nat.not_le.2 hs_ (Kd.N_base HO697.out k_ e_.symm)) (fun hs_ => Or.elim hs_ (fun hs_ => fun e_ => Nat.not_le.2 hs_ (Kd.N_base HO697.out k_ e_.symm)) (fun hs_ => Or.elim hs_ (fun hs_ => fun e_ => Nat.not_le.2 hs_ (Kd.N_base HO697.out k_ e_.symm)) (fun hs_ => fun e_ => Nat.not_le.2 hs_ (Kd.N_base HO697.out k_ e_.symm))))) (fun hn_ => (Kd.fresh' (Kd.N_lt (by exact HO697.out)) k_ hn_)), Or.elim hk_.1 (fun hs_ => Or.elim hs_ (fun hs_ => fun e_ => Nat.not_le.2 hs_ (by rw [e_]; exact GW694.out)) (fun hs_ => Or.elim hs_ (fun hs_ => fun e_ => Nat.not_le.2 hs_ (by rw [e_]; exact GW694.out)) (fun hs_ => Or.elim hs_ (fun hs_ => fun e_ => Nat.not_le.2 hs_ (by rw [e_]; exact GW694.out)) (fun hs_ => fun e_ => Nat.not_le.2 hs_ (by rw [e_]; exact GW694.out))))) (fun hn_ => (Kd.freshB (by exact BK694.out) k_ hn_))⟩)) (below_size (zb1 HB GE694))); have n4_ := Aside0.mk (Kd.N_lower (Kd.N_mono (ok' := fun k_ => some k_ ≠ (v696 : Value).ownBlock ∧ k_ ≠ gb694) ho3 (fun k_ hk_ => ⟨Or.elim hk_ (fun hs_ => Or.elim hs_ (fun hs_ => fun e_ => Nat.not_le.2 hs_ (Kd.N_base HO697.out k_ e_.symm)) (fun hs_ => Or.elim hs_ (fun hs_ => fun e_ => Nat.not_le.2 hs_ (Kd.N_base HO697.out k_ e_.symm)) (fun hs_ => Or.elim hs_ (fun hs_ => fun e_ => Nat.not_le.2 hs_ (Kd.N_base HO697.out k_ e_.symm)) (fun hs_ => fun e_ => Nat.not_le.2 hs_ (Kd.N_base HO697.out k_ e_.symm))))) (fun hn_ => (Kd.fresh' (Kd.N_lt (by exact HO697.out)) k_ hn_)), Or.elim hk_ (fun hs_ => Or.elim hs_ (fun hs_ => fun e_ => Nat.not_le.2 hs_ (by rw [e_]; exact GW694.out)) (fun hs_ => Or.elim hs_ (fun hs_ => fun e_ => Nat.not_le.2 hs_ (by rw [e_]; exact GW694.out)) (fun hs_ => Or.elim hs_ (fun hs_ => fun e_ => Nat.not_le.2 hs_ (by rw [e_]; exact GW694.out)) (fun hs_ => fun e_ => Nat.not_le.2 hs_ (by rw [e_]; exact GW694.out))))) (fun hn_ => (Kd.freshB (by exact BK694.out) k_ hn_))⟩)) (below_size (zb1 HB GE694))); have n5_ := Aside0.mk (blk_below (by exact BK694.out) hb); have n6_ := Aside0.mk (below_step (zb1 HB GE694) hb); clear HO697; clear BK694; clear HB; have HO697 := n0_; have HO702 := n1_; have HO705 := n2_; have HO708 := n3_; have HO711 := n4_; have BK694 := n5_; have HB := n6_; clear n0_ n1_ n2_ n3_ n4_ n5_ n6_; (try clear hb); (try clear ho0); (try clear ho1); (try clear ho2); (try clear ho3); obtain ⟨hcz50_0, hcz50_1, hcz50_2, hcz50_3, hcz50_4, hcz50_5, hcz50_6, hcz50_7, hfz50_0, hfz50_1, hfz50_2, hfz50_3, hfz50_4, hfz50_5, hfz50_6, hfz50_7⟩ := cz8 BK694.out; obtain ⟨Ao51, co51, eo51⟩ := Kd.V_slice HO702.out; subst eo51; obtain ⟨Ao52, co52, eo52⟩ := Kd.V_slice HO705.out; subst eo52; obtain ⟨Ao53, co53, eo53⟩ := Kd.V_slice HO708.out; subst eo53; obtain ⟨Ao54, co54, eo54⟩ := Kd.N_slice HO711.out; subst eo54; obtain ⟨Ao55, co55, eo55⟩ := Kd.N_slice HO697.out; subst eo55) | ((with_reducible refine gate_callee (f := 14) rfl ?_); refine goesL_ (some 18) rfl rfl Tryz.func14 (by kernel_rfl) rfl #[.slice Ao55 t695.length co55, .agg #[.bool t698, .bool t699, .slice Ao51 t700.length co51, .slice Ao52 t703.length co52, .slice Ao53 t706.length co53, .slice Ao54 t709.length co54, .bool t712, .bool t713], .bool false] rfl zm ?_; (with_reducible refine (clean_Rows.calls k _ _ t695 t698 t699 _ _ t700 _ _ t703 _ _ t706 _ _ t709 t712 t713 false t714 t717 _ ?side1 ?side2 ?side3 ?side4 ?side5 ?side6 ?side7 ?side8 ?side9 ?side10 A5.out).mono ?_); (case side1 => refine (Kd.N_reads' (e := 38) (base := w.heap.size) (ok := fun k_ => (k_ ≠ gb694 ∧ some k_ ≠ (.slice Ao54 t709.length co54 : Value).ownBlock)) (n := t695.length) (c := co55) ?_).2.2; exact (by exact (Kd.N_mono (Nf8 (g := gb694) (Kd.N_mono HO697.out (fun k_ hk => (⟨hk, hk.1⟩ : _ ∧ k_ ≠ gb694))) (fun _ hk => hk.2) (.bool t698) (.bool t699) (.slice Ao51 t700.length co51) (.slice Ao52 t703.length co52) (.slice Ao53 t706.length co53) (.slice Ao54 t709.length co54) (.bool t712) (.bool t713)) (fun _ h_ => h_.1)))); (case side2 => exact (Kd.N_reads' HO697.out).2.1); (case side3 => refine (Kd.V_reads' (e := 9) (base := w.heap.size) (ok := fun k_ => (some k_ ≠ (.slice Ao54 t709.length co54 : Value).ownBlock ∧ (some k_ ≠ (.slice Ao55 t695.length co55 : Value).ownBlock ∧ k_ ≠ gb694))) (n := t700.length) (c := co51) ?_).2.2; exact (by exact (Kd.V_mono (Vf8 (g := gb694) (Kd.V_mono HO702.out (fun k_ hk => (⟨hk, hk.2.2⟩ : _ ∧ k_ ≠ gb694))) (fun _ hk => hk.2) (.bool t698) (.bool t699) (.slice Ao51 t700.length co51) (.slice Ao52 t703.length co52) (.slice Ao53 t706.length co53) (.slice Ao54 t709.length co54) (.bool t712) (.bool t713)) (fun _ h_ => h_.1)))); (case side4 => exact (Kd.V_reads' HO702.out).2.1); (case side5 => refine (Kd.V_reads' (e := 9) (base := w.heap.size) (ok := fun k_ => (some k_ ≠ (.slice Ao54 t709.length co54 : Value).ownBlock ∧ (some k_ ≠ (.slice Ao55 t695.length co55 : Value).ownBlock ∧ k_ ≠ gb694))) (n := t703.length) (c := co52) ?_).2.2; exact (by exact (Kd.V_mono (Vf8 (g := gb694) (Kd.V_mono HO705.out (fun k_ hk => (⟨hk, hk.2.2⟩ : _ ∧ k_ ≠ gb694))) (fun _ hk => hk.2) (.bool t698) (.bool t699) (.slice Ao51 t700.length co51) (.slice Ao52 t703.length co52) (.slice Ao53 t706.length co53) (.slice Ao54 t709.length co54) (.bool t712) (.bool t713)) (fun _ h_ => h_.1)))); (case side6 => exact (Kd.V_reads' HO705.out).2.1); (case side7 => refine (Kd.V_reads' (e := 9) (base := w.heap.size) (ok := fun k_ => (some k_ ≠ (.slice Ao54 t709.length co54 : Value).ownBlock ∧ (some k_ ≠ (.slice Ao55 t695.length co55 : Value).ownBlock ∧ k_ ≠ gb694))) (n := t706.length) (c := co53) ?_).2.2; exact (by exact (Kd.V_mono (Vf8 (g := gb694) (Kd.V_mono HO708.out (fun k_ hk => (⟨hk, hk.2.2⟩ : _ ∧ k_ ≠ gb694))) (fun _ hk => hk.2) (.bool t698) (.bool t699) (.slice Ao51 t700.length co51) (.slice Ao52 t703.length co52) (.slice Ao53 t706.length co53) (.slice Ao54 t709.length co54) (.bool t712) (.bool t713)) (fun _ h_ => h_.1)))); (case side8 => exact (Kd.V_reads' HO708.out).2.1); (case side9 => refine (Kd.N_reads' (e := 60) (base := w.heap.size) (ok := fun k_ => (some k_ ≠ (.slice Ao55 t695.length co55 : Value).ownBlock ∧ k_ ≠ gb694)) (n := t709.length) (c := co54) ?_).2.2; exact (by exact (Kd.N_mono (Nf8 (g := gb694) (Kd.N_mono HO711.out (fun k_ hk => (⟨hk, hk.2⟩ : _ ∧ k_ ≠ gb694))) (fun _ hk => hk.2) (.bool t698) (.bool t699) (.slice Ao51 t700.length co51) (.slice Ao52 t703.length co52) (.slice Ao53 t706.length co53) (.slice Ao54 t709.length co54) (.bool t712) (.bool t713)) (fun _ h_ => h_.1)))); (case side10 => exact (Kd.N_reads' HO711.out).2.1); rintro e w56 ⟨v715, rfl, ho0, hb⟩; refine ⟨_, rfl, ?_⟩; have n7_ := Aside0.mk (below_step (zb1 HB GE694) hb); clear HO697; clear HO702; clear HO705; clear HO708; clear HO711; clear BK694; clear HB; have HB := n7_; clear n7_; (try clear hb); (try clear ho0)) | ((with_reducible refine gate_callee (f := 12) rfl ?_); refine goesL_ (some 23) rfl rfl Tryz.func12 (by kernel_rfl) rfl #[] rfl zm ?_; (with_reducible refine (boltinglaw13_fixed.calls  t718 _ A45.out).mono ?_); rintro e w57 ⟨rfl, hb⟩; refine ⟨_, rfl, ?_⟩; have n7_ := Aside0.mk (below_step (zb1 HB GE694) hb); clear HB; have HB := n7_; clear n7_; (try clear hb)))
  go_ret
  exact ⟨ze, zb1 HB GE694⟩

end Go.Proofs.YticacakoefojbaaGreat.Pr
namespace Go.Proofs.YticacakoefojbaaGreat.Pr
abbrev Rw := S38
abbrev Atr := S45
end Go.Proofs.YticacakoefojbaaGreat.Pr
namespace Go.Proofs.YticacakoefojbaaGreat.Fo
set_option linter.unusedVariables false
set_option linter.unusedSimpArgs false
open Go.Proofs.YticacakoefojbaaGreat.Pr

inductive Fo where
  | nil
  | cons (x : Rw) (k r : Fo)
def Fo.app : Fo → Fo → Fo
  | .nil, G => G
  | .cons x k r, G => .cons x k (r.app G)
def Fo.size : Fo → Nat
  | .nil => 0
  | .cons _ k r => 1 + k.size + r.size
def Fo.height : Fo → Nat
  | .nil => 0
  | .cons _ k r => max (1 + k.height) r.height
theorem size_app : ∀ A B : Fo, (A.app B).size = A.size + B.size
  | .nil, B => by simp [Fo.app, Fo.size]
  | .cons x k r, B => by rw [Fo.app, Fo.size, Fo.size, size_app r]; omega
theorem height_app : ∀ A B : Fo, (A.app B).height = max A.height B.height
  | .nil, B => by simp [Fo.app, Fo.height]
  | .cons x k r, B => by rw [Fo.app, Fo.height, Fo.height, height_app r]; omega
def Fo.All (P : Rw → Prop) : Fo → Prop
  | .nil => True
  | .cons x k r => P x ∧ k.All P ∧ r.All P
theorem all_app {P : Rw → Prop} : ∀ {A B : Fo}, A.All P → B.All P → (A.app B).All P
  | .nil, B, _, h => h
  | .cons x k r, B, h, h2 => ⟨h.1, h.2.1, all_app h.2.2 h2⟩
theorem all_imp {P Q : Rw → Prop} (h : ∀ x, P x → Q x) : ∀ {A : Fo}, A.All P → A.All Q
  | .nil, _ => trivial
  | .cons x k r, g => ⟨h x g.1, all_imp h g.2.1, all_imp h g.2.2⟩
def Fo.Leaf : Fo → Prop
  | .nil => True
  | .cons x k r => (x.f1 ≠ 0 → k = .nil) ∧ k.Leaf ∧ r.Leaf
theorem leaf_app : ∀ {A B : Fo}, A.Leaf → B.Leaf → (A.app B).Leaf
  | .nil, B, _, h => h
  | .cons x k r, B, h, h2 => ⟨h.1, h.2.1, leaf_app h.2.2 h2⟩

def flat : Int → Fo → List Rw
  | _, .nil => []
  | d, .cons x k r => { x with f0 := d } :: (flat (d + 1) k ++ flat d r)
theorem flat_len : ∀ (F : Fo) (d : Int), (flat d F).length = F.size
  | .nil, d => rfl
  | .cons x k r, d => by rw [flat, List.length_cons, List.length_append, flat_len k, flat_len r, Fo.size]; omega
theorem flat_app : ∀ (A B : Fo) (d : Int), flat d (A.app B) = flat d A ++ flat d B
  | .nil, B, d => rfl
  | .cons x k r, B, d => by rw [Fo.app, flat, flat, flat_app r]; simp
theorem flat_ge : ∀ (F : Fo) (d : Int), ∀ x ∈ flat d F, d ≤ x.f0
  | .nil, d, x, h => by cases h
  | .cons y k r, d, x, h => by
    rw [flat, List.mem_cons, List.mem_append] at h
    rcases h with rfl | h | h
    · exact Int.le_refl _
    · have := flat_ge k (d + 1) x h; omega
    · exact flat_ge r d x h
theorem flat_lt : ∀ (F : Fo) (d : Int), ∀ x ∈ flat d F, x.f0 < d + F.height
  | .nil, d, x, h => by cases h
  | .cons y k r, d, x, h => by
    rw [flat, List.mem_cons, List.mem_append] at h
    rw [Fo.height]
    rcases h with rfl | h | h
    · show d < _; omega
    · have := flat_lt k (d + 1) x h; omega
    · have := flat_lt r d x h; omega
theorem height_of : ∀ (F : Fo) (d : Int) (m : Nat), (∀ x ∈ flat d F, x.f0 < d + m) → F.height ≤ m
  | .nil, d, m, h => Nat.zero_le _
  | .cons y k r, d, m, h => by
    rw [flat] at h
    have h0 : d < d + (m : Int) := h { y with f0 := d } (List.mem_cons_self ..)
    have hk := height_of k (d + 1) (m - 1) (fun x hx => by have := h x (List.mem_cons_of_mem _ (List.mem_append_left _ hx)); omega)
    have hr := height_of r d m (fun x hx => h x (List.mem_cons_of_mem _ (List.mem_append_right _ hx)))
    rw [Fo.height]; omega
theorem flat_all {P : Rw → Prop} (hP : ∀ x d, P x → P { x with f0 := d }) : ∀ (F : Fo) (d : Int), F.All P → ∀ x ∈ flat d F, P x
  | .nil, d, _, x, h => by cases h
  | .cons y k r, d, hA, x, h => by
    rw [flat, List.mem_cons, List.mem_append] at h
    rcases h with rfl | h | h
    · exact hP y d hA.1
    · exact flat_all hP k (d + 1) hA.2.1 x h
    · exact flat_all hP r d hA.2.2 x h
theorem all_flat {P : Rw → Prop} (hP : ∀ x d, P { x with f0 := d } → P x) : ∀ (F : Fo) (d : Int), (∀ x ∈ flat d F, P x) → F.All P
  | .nil, d, _ => trivial
  | .cons y k r, d, h => by
    rw [flat] at h
    exact ⟨hP y d (h _ (List.mem_cons_self ..)), all_flat hP k (d + 1) (fun x hx => h x (List.mem_cons_of_mem _ (List.mem_append_left _ hx))), all_flat hP r d (fun x hx => h x (List.mem_cons_of_mem _ (List.mem_append_right _ hx)))⟩

def RightL (ok : Rw → Prop) : Int → List Rw → Prop
  | _, [] => True
  | m, x :: t => 0 ≤ x.f0 ∧ x.f0 ≤ m ∧ ok x ∧ RightL ok (if x.f1 = 0 then x.f0 + 1 else x.f0) t
theorem RightL.head {ok : Rw → Prop} {m m' : Int} : ∀ {l : List Rw}, RightL ok m l → (∀ x, l.head? = some x → x.f0 ≤ m') → RightL ok m' l
  | [], _, _ => trivial
  | x :: t, h, h2 => ⟨h.1, h2 x rfl, h.2.2⟩
theorem parse_at (ok : Rw → Prop) : ∀ (n : Nat) (l : List Rw) (d : Int), l.length ≤ n → RightL ok d l → 0 ≤ d →
    ∃ F rest, l = flat d F ++ rest ∧ F.Leaf ∧ F.All (fun x => ok x ∧ 0 ≤ x.f0) ∧ (∀ x, rest.head? = some x → x.f0 < d) ∧ RightL ok (d - 1) rest := by
  intro n
  induction n with
  | zero =>
    intro l d hl hR hd
    have : l = [] := List.length_eq_zero_iff.1 (by omega)
    subst this
    exact ⟨.nil, [], rfl, trivial, trivial, (fun x h => by cases h), trivial⟩
  | succ n ih =>
    intro l d hl hR hd
    cases l with
    | nil => exact ⟨.nil, [], rfl, trivial, trivial, (fun x h => by cases h), trivial⟩
    | cons x t =>
      obtain ⟨h0, h1, hok, hT⟩ := hR
      by_cases hx : x.f0 = d
      · have hxd : ({ x with f0 := d } : Rw) = x := by rw [← hx]
        by_cases hk : x.f1 = 0
        · rw [if_pos hk, hx] at hT
          obtain ⟨K, r1, e1, l1, a1, b1, c1⟩ := ih t (d + 1) (by simpa using hl) hT (by omega)
          have hlen : r1.length ≤ n := by
            have := congrArg List.length e1
            rw [List.length_append] at this
            have : t.length ≤ n := by simpa using hl
            omega
          rw [show d + 1 - 1 = d by omega] at c1
          obtain ⟨R, r2, e2, l2, a2, b2, c2⟩ := ih r1 d hlen c1 hd
          refine ⟨.cons x K R, r2, ?_, ⟨fun h => absurd hk h, l1, l2⟩, ⟨⟨hok, h0⟩, a1, a2⟩, b2, c2⟩
          rw [flat, hxd, List.cons_append, List.append_assoc, ← e2, ← e1]
        · rw [if_neg hk, hx] at hT
          obtain ⟨R, r2, e2, l2, a2, b2, c2⟩ := ih t d (by simpa using hl) hT hd
          refine ⟨.cons x .nil R, r2, ?_, ⟨fun h => rfl, trivial, l2⟩, ⟨⟨hok, h0⟩, trivial, a2⟩, b2, c2⟩
          rw [flat, hxd, flat, List.nil_append, List.cons_append, ← e2]
      · exact ⟨.nil, x :: t, rfl, trivial, trivial, (fun y h => by cases h; omega), ⟨h0, by omega, hok, hT⟩⟩
theorem parse {ok : Rw → Prop} {l : List Rw} (h : RightL ok 0 l) : ∃ F, l = flat 0 F ∧ F.Leaf ∧ F.All ok := by
  obtain ⟨F, rest, e, hl, ha, hb, hc⟩ := parse_at ok l.length l 0 (Nat.le_refl _) h (Int.le_refl _)
  cases rest with
  | nil => exact ⟨F, by simpa using e, hl, all_imp (fun x h => h.1) ha⟩
  | cons x t =>
    have h1 := hc.1
    have h2 := hc.2.1
    omega
theorem right_append {ok : Rw → Prop} : ∀ {a b : List Rw} {m d : Int}, RightL ok m a → (∀ x ∈ a, d ≤ x.f0) → RightL ok d b → d ≤ m → RightL ok m (a ++ b)
  | [], b, m, d, _, _, hb, hm => hb.head (fun x hx => by
      cases b with
      | nil => cases hx
      | cons y t => cases hx; have := hb.2.1; omega)
  | x :: t, b, m, d, ha, hd, hb, hm => by
    refine ⟨ha.1, ha.2.1, ha.2.2.1, ?_⟩
    have hx := hd x (List.mem_cons_self ..)
    exact right_append (d := d) ha.2.2.2 (fun y hy => hd y (List.mem_cons_of_mem _ hy)) hb (by split <;> omega)
theorem right_flat {ok : Rw → Prop} (hP : ∀ x d, ok x → ok { x with f0 := d }) : ∀ (F : Fo) (d : Int), 0 ≤ d → F.Leaf → F.All ok → RightL ok d (flat d F)
  | .nil, d, _, _, _ => trivial
  | .cons x k r, d, hd, hl, ha => by
    rw [flat]
    refine ⟨hd, Int.le_refl _, hP x d ha.1, ?_⟩
    have hr := right_flat hP r d hd hl.2.2 ha.2.2
    by_cases hk : x.f1 = 0
    · rw [if_pos (show ({ x with f0 := d } : Rw).f1 = 0 from hk)]
      refine right_append (d := d) (right_flat hP k (d + 1) (by omega) hl.2.1 ha.2.1) (fun y hy => ?_) hr (by show d ≤ d + 1; omega)
      have := flat_ge k (d + 1) y hy
      omega
    · rw [if_neg (show ¬ ({ x with f0 := d } : Rw).f1 = 0 from hk), hl.1 hk]
      exact hr

def keepF (what : Rw → Int) (upd : Rw → Rw) : Fo → Fo
  | .nil => .nil
  | .cons x k r => if what x = 1 then keepF what upd r else if what x = 2 then (keepF what upd k).app (keepF what upd r) else .cons (upd x) (keepF what upd k) (keepF what upd r)
theorem keep_size (what : Rw → Int) (upd : Rw → Rw) : ∀ F : Fo, (keepF what upd F).size ≤ F.size
  | .nil => Nat.le_refl _
  | .cons x k r => by
    have h1 := keep_size what upd k
    have h2 := keep_size what upd r
    rw [keepF, Fo.size]
    split
    · omega
    · split
      · rw [size_app]; omega
      · rw [Fo.size]; omega
theorem keep_height (what : Rw → Int) (upd : Rw → Rw) : ∀ F : Fo, (keepF what upd F).height ≤ F.height
  | .nil => Nat.le_refl _
  | .cons x k r => by
    have h1 := keep_height what upd k
    have h2 := keep_height what upd r
    rw [keepF, Fo.height]
    split
    · omega
    · split
      · rw [height_app]; omega
      · rw [Fo.height]; omega
theorem keep_all {what : Rw → Int} {upd : Rw → Rw} {P Q : Rw → Prop} (h : ∀ x, P x → what x ≠ 1 → what x ≠ 2 → Q (upd x)) : ∀ {F : Fo}, F.All P → (keepF what upd F).All Q
  | .nil, _ => trivial
  | .cons x k r, hA => by
    rw [keepF]
    split
    · exact keep_all h hA.2.2
    · split
      · exact all_app (keep_all h hA.2.1) (keep_all h hA.2.2)
      · exact ⟨h x hA.1 (by assumption) (by assumption), keep_all h hA.2.1, keep_all h hA.2.2⟩
theorem keep_leaf {what : Rw → Int} {upd : Rw → Rw} (h : ∀ x, (upd x).f1 = x.f1) : ∀ {F : Fo}, F.Leaf → (keepF what upd F).Leaf
  | .nil, _ => trivial
  | .cons x k r, hL => by
    rw [keepF]
    split
    · exact keep_leaf h hL.2.2
    · split
      · exact leaf_app (keep_leaf h hL.2.1) (keep_leaf h hL.2.2)
      · exact ⟨fun g => by rw [hL.1 (by rw [← h x]; exact g)]; rfl, keep_leaf h hL.2.1, keep_leaf h hL.2.2⟩
def pre (x : Rw) (k F : Fo) : Fo :=
  if x.f1 = 1 then
    if x.f3.size = 0 then F else
    match F with
    | .nil => .cons x k .nil
    | .cons y ky r => if y.f1 = 1 then .cons { x with f3 := x.f3 ++ y.f3 } k r else .cons x k F
  else .cons x k F
def normF : Fo → Fo
  | .nil => .nil
  | .cons x k r => pre x (normF k) (normF r)
def preL (x : Rw) (l : List Rw) : List Rw :=
  if x.f1 = 1 then
    if x.f3.size = 0 then l else
    match l with
    | [] => [x]
    | y :: t => if y.f1 = 1 ∧ y.f0 = x.f0 then { x with f3 := x.f3 ++ y.f3 } :: t else x :: l
  else x :: l
def normL : List Rw → List Rw
  | [] => []
  | x :: t => preL x (normL t)
theorem preL_ne {x : Rw} {l : List Rw} (h : ∀ y, l.head? = some y → y.f0 ≠ x.f0) : preL x l = if x.f1 = 1 ∧ x.f3.size = 0 then l else x :: l := by
  unfold preL
  by_cases h1 : x.f1 = 1
  · rw [if_pos h1]
    by_cases h2 : x.f3.size = 0
    · rw [if_pos h2, if_pos ⟨h1, h2⟩]
    · rw [if_neg h2, if_neg (fun g => h2 g.2)]
      cases l with
      | nil => rfl
      | cons y t => simp only []; rw [if_neg (fun g => h y rfl g.2)]
  · rw [if_neg h1, if_neg (fun g => h1 g.1)]
theorem normL_head : ∀ {l : List Rw} {y : Rw}, (normL l).head? = some y → ∃ x ∈ l, x.f0 = y.f0
  | [], y, h => by cases h
  | x :: t, y, h => by
    have tail_ : (normL t).head? = some y → ∃ z ∈ x :: t, z.f0 = y.f0 := fun g => by
      obtain ⟨z, hz, e⟩ := normL_head g
      exact ⟨z, List.mem_cons_of_mem _ hz, e⟩
    rw [normL] at h
    unfold preL at h
    split at h
    · split at h
      · exact tail_ h
      · split at h
        · cases h; exact ⟨x, List.mem_cons_self .., rfl⟩
        · split at h
          · cases h; exact ⟨x, List.mem_cons_self .., rfl⟩
          · cases h; exact ⟨x, List.mem_cons_self .., rfl⟩
    · cases h; exact ⟨x, List.mem_cons_self .., rfl⟩
theorem normL_app {d : Int} : ∀ {a b : List Rw}, (∀ x ∈ a, d < x.f0) → (∀ y ∈ b, y.f0 ≤ d) ∨ (∀ y, (normL b).head? = some y → y.f0 ≤ d) → normL (a ++ b) = normL a ++ normL b
  | [], b, _, _ => rfl
  | x :: t, b, h, hb => by
    have hb2 : ∀ y, (normL b).head? = some y → y.f0 ≤ d := by
      rcases hb with g | g
      · intro y hy
        obtain ⟨z, hz, e⟩ := normL_head hy
        have := g z hz; omega
      · exact g
    have ih := normL_app (fun z hz => h z (List.mem_cons_of_mem _ hz)) (.inr hb2)
    have hx := h x (List.mem_cons_self ..)
    rw [List.cons_append, normL, normL, ih]
    cases ht : normL t with
    | nil =>
      rw [List.nil_append, preL_ne (fun y hy => by have := hb2 y hy; omega), preL_ne (fun y hy => by cases hy)]
      split <;> rfl
    | cons z u =>
      unfold preL
      split
      · split
        · rfl
        · simp only [List.cons_append]
          split
          · rfl
          · rfl
      · rfl
theorem flat_head_norm {F : Fo} {d : Int} : ∀ y, (flat d F).head? = some y → y.f0 = d := by
  intro y h
  cases F with
  | nil => cases h
  | cons x k r => rw [flat] at h; cases h; rfl
theorem normL_flat : ∀ (F : Fo) (d : Int), F.Leaf → normL (flat d F) = flat d (normF F)
  | .nil, d, _ => rfl
  | .cons x k r, d, h => by
    have hk := normL_flat k (d + 1) h.2.1
    have hr := normL_flat r d h.2.2
    have hap : normL (flat (d + 1) k ++ flat d r) = flat (d + 1) (normF k) ++ flat d (normF r) := by
      rw [normL_app (d := d) (fun y hy => by have := flat_ge k (d + 1) y hy; omega) (.inr (fun y hy => by rw [hr] at hy; rw [flat_head_norm y hy]; exact Int.le_refl _)), hk, hr]
    rw [flat, normL, hap, normF]
    by_cases hx : x.f1 = 1
    · have hkn : k = .nil := h.1 (by rw [hx]; decide)
      subst hkn
      simp only [normF, flat, List.nil_append]
      unfold preL pre
      rw [if_pos (show ({ x with f0 := d } : Rw).f1 = 1 from hx), if_pos hx]
      by_cases h3 : x.f3.size = 0
      · rw [if_pos h3, if_pos (show ({ x with f0 := d } : Rw).f3.size = 0 from h3)]
      · rw [if_neg h3, if_neg (show ¬ ({ x with f0 := d } : Rw).f3.size = 0 from h3)]
        cases hn : normF r with
        | nil => rfl
        | cons y ky s =>
          simp only [flat]
          by_cases hy : y.f1 = 1
          · rw [if_pos ⟨hy, trivial⟩, if_pos hy]
            have hky : ky = .nil := by
              have := leaf_norm r h.2.2
              rw [hn] at this
              exact this.1 (by rw [hy]; decide)
            subst hky
            rfl
          · rw [if_neg (fun g => hy g.1), if_neg hy]
            rfl
    · unfold preL pre
      rw [if_neg (show ¬ ({ x with f0 := d } : Rw).f1 = 1 from hx), if_neg hx]
      rfl
where leaf_norm : ∀ F : Fo, F.Leaf → (normF F).Leaf
  | .nil, _ => trivial
  | .cons x k r, h => by
    have hk := leaf_norm k h.2.1
    have hr := leaf_norm r h.2.2
    have h0 : x.f1 ≠ 0 → normF k = .nil := fun g => by rw [h.1 g]; rfl
    rw [normF]
    unfold pre
    split
    · split
      · exact hr
      · split
        · exact ⟨h0, hk, trivial⟩
        · rename_i hn
          rw [hn] at hr
          split
          · exact ⟨h0, hk, hr.2.2⟩
          · exact ⟨h0, hk, by rw [hn]; exact hr⟩
    · exact ⟨h0, hk, hr⟩

theorem pre_empty {x : Rw} {k F : Fo} (h : x.f1 = 1) (h0 : x.f3.size = 0) : pre x k F = F := by unfold pre; rw [if_pos h, if_pos h0]
theorem pre_not {x : Rw} {k F : Fo} (h : ¬ x.f1 = 1) : pre x k F = .cons x k F := by unfold pre; rw [if_neg h]
def foldpre : Fo → Fo → Fo
  | .nil, G => G
  | .cons x k r, G => pre x (normF k) (foldpre r G)
def TextStays (what : Rw → Int) (upd : Rw → Rw) : Prop := ∀ x : Rw, x.f1 = 1 → what x ≠ 1 ∧ what x ≠ 2 ∧ upd x = x
theorem norm_leaf (F : Fo) (h : F.Leaf) : (normF F).Leaf := normL_flat.leaf_norm F h
theorem pre_size (x : Rw) (k F : Fo) : (pre x k F).size ≤ 1 + k.size + F.size := by
  unfold pre
  split
  · split
    · omega
    · split
      · simp only [Fo.size]; omega
      · split <;> simp only [Fo.size] <;> omega
  · simp only [Fo.size]; omega
theorem norm_size : ∀ F : Fo, (normF F).size ≤ F.size
  | .nil => Nat.le_refl _
  | .cons x k r => by
    have h1 := norm_size k
    have h2 := norm_size r
    have h3 := pre_size x (normF k) (normF r)
    rw [normF, Fo.size]; omega
theorem pre_height (x : Rw) (k F : Fo) : (pre x k F).height ≤ max (1 + k.height) F.height := by
  unfold pre
  split
  · split
    · omega
    · split
      · simp only [Fo.height]; omega
      · split <;> simp only [Fo.height] <;> omega
  · simp only [Fo.height]; omega
theorem norm_height : ∀ F : Fo, (normF F).height ≤ F.height
  | .nil => Nat.le_refl _
  | .cons x k r => by
    have h1 := norm_height k
    have h2 := norm_height r
    have h3 := pre_height x (normF k) (normF r)
    rw [normF, Fo.height]; omega
theorem pre_all {P : Rw → Prop} (hP : ∀ x b, P x → x.f1 = 1 → P { x with f3 := b }) {x : Rw} {k F : Fo} (hx : P x) (hk : k.All P) (hF : F.All P) : (pre x k F).All P := by
  unfold pre
  split
  · split
    · exact hF
    · split
      · exact ⟨hx, hk, trivial⟩
      · split
        · exact ⟨hP _ _ hx (by assumption), hk, hF.2.2⟩
        · exact ⟨hx, hk, hF⟩
  · exact ⟨hx, hk, hF⟩
theorem norm_all {P : Rw → Prop} (hP : ∀ x b, P x → x.f1 = 1 → P { x with f3 := b }) : ∀ {F : Fo}, F.All P → (normF F).All P
  | .nil, _ => trivial
  | .cons x k r, h => pre_all hP h.1 (norm_all hP h.2.1) (norm_all hP h.2.2)

def tx (x : Rw) : List UInt8 := if x.f1 = 1 then x.f3.data.toList else []
def textF : Fo → List UInt8
  | .nil => []
  | .cons x k r => tx x ++ (textF k ++ textF r)
def textL : List Rw → List UInt8
  | [] => []
  | x :: t => tx x ++ textL t
theorem textL_app : ∀ a b : List Rw, textL (a ++ b) = textL a ++ textL b
  | [], b => rfl
  | x :: t, b => by rw [List.cons_append, textL, textL, textL_app t, List.append_assoc]
theorem text_flat : ∀ (F : Fo) (d : Int), textL (flat d F) = textF F
  | .nil, d => rfl
  | .cons x k r, d => by rw [flat, textL, textL_app, text_flat k, text_flat r, textF]; rfl
theorem text_app : ∀ A B : Fo, textF (A.app B) = textF A ++ textF B
  | .nil, B => rfl
  | .cons x k r, B => by rw [Fo.app, textF, textF, text_app r]; simp
theorem text_pre {x : Rw} {k F : Fo} (hk : x.f1 = 1 → k = .nil) (hF : F.Leaf) : textF (pre x k F) = tx x ++ (textF k ++ textF F) := by
  by_cases hx : x.f1 = 1
  · have e := hk hx
    subst e
    by_cases h0 : x.f3.size = 0
    · have : x.f3.data.toList = [] := by
        have e : x.f3.data = #[] := Array.size_eq_zero_iff.1 h0
        rw [e]
      rw [pre_empty hx h0, tx, if_pos hx, this]; rfl
    · cases F with
      | nil => unfold pre; rw [if_pos hx, if_neg h0]; rfl
      | cons y ky r =>
        by_cases hy : y.f1 = 1
        · have e : ky = .nil := hF.1 (by rw [hy]; decide)
          subst e
          unfold pre; rw [if_pos hx, if_neg h0]; simp only []; rw [if_pos hy]
          have e1 : tx ({ x with f3 := x.f3 ++ y.f3 } : Rw) = x.f3.data.toList ++ y.f3.data.toList := by
            unfold tx; rw [if_pos (show ({ x with f3 := x.f3 ++ y.f3 } : Rw).f1 = 1 from hx)]; simp
          simp only [textF, e1]
          rw [tx, tx, if_pos hx, if_pos hy]; simp
        · unfold pre; rw [if_pos hx, if_neg h0]; simp only []; rw [if_neg hy]; rfl
  · rw [pre_not hx]; rfl
theorem text_norm : ∀ {F : Fo}, F.Leaf → textF (normF F) = textF F
  | .nil, _ => rfl
  | .cons x k r, h => by
    rw [normF, text_pre (fun g => by rw [h.1 (by rw [g]; decide)]; rfl) (norm_leaf r h.2.2), text_norm h.2.1, text_norm h.2.2, textF]
theorem text_keep_le {what : Rw → Int} {upd : Rw → Rw} (h : ∀ x, tx (upd x) = tx x) : ∀ F : Fo, (textF (keepF what upd F)).length ≤ (textF F).length
  | .nil => Nat.le_refl _
  | .cons x k r => by
    have h1 := text_keep_le (what := what) h k
    have h2 := text_keep_le (what := what) h r
    rw [keepF, textF, List.length_append, List.length_append]
    split
    · omega
    · split
      · rw [text_app, List.length_append]; omega
      · rw [textF, h, List.length_append, List.length_append]; omega
theorem text_keep {what : Rw → Int} {upd : Rw → Rw} (h : ∀ x, tx (upd x) = tx x) : ∀ {F : Fo}, F.Leaf → F.All (fun x => (what x = 1 → x.f1 ≠ 0 ∧ x.f1 ≠ 1) ∧ (what x = 2 → x.f1 ≠ 1)) → textF (keepF what upd F) = textF F
  | .nil, _, _ => rfl
  | .cons x k r, hl, ha => by
    have h1 := text_keep h hl.2.1 ha.2.1
    have h2 := text_keep h hl.2.2 ha.2.2
    rw [keepF, textF]
    split
    · rename_i g
      obtain ⟨g0, g1⟩ := ha.1.1 g
      rw [h2, hl.1 g0, tx, if_neg g1]; rfl
    · split
      · rename_i g
        rw [text_app, h1, h2, tx, if_neg (ha.1.2 g)]; rfl
      · rw [textF, h, h1, h2]
def wt (x : Rw) : Nat := if x.f1 = 1 then 0 else 1 + x.f4.length
def wF : Fo → Nat
  | .nil => 0
  | .cons x k r => wt x + wF k + wF r
def wL : List Rw → Nat
  | [] => 0
  | x :: t => wt x + wL t
end Go.Proofs.YticacakoefojbaaGreat.Fo
namespace Go.Proofs.YticacakoefojbaaGreat.Pr
open Go.RowKit Go.Proofs.YticacakoefojbaaGreatW.PrintWords Go.Proofs.YticacakoefojbaaGreatW.PrintLast Go.Proofs.YticacakoefojbaaGreatW.PrintMore
attribute [local go_sem] max2_int min2_int max_two min_two max_three min_three max_four min_four   -- for this text's walks alone
set_option linter.unusedVariables false
set_option linter.unusedSimpArgs false

def boltingref04_Big.l0 : Nat → List (S38) → Int → Option (Bool)
 | 0, _, _ => none
 | k + 1, x0, x3 => if x3 < (x0.length : Int) then (if 0 ≤ x3 then (if ((rd_T38 x0 x3).f0) ≥ 60 then (some true) else (boltingref04_Big.l0 k x0 (wrap64 (x3 + 1)))) else (none)) else (some (decide ((x0.length : Int) > 4096)))
def boltingref04_Big.f (k : Nat) (l0 : List (S38)) : Option (Bool) := boltingref04_Big.l0 k l0 0
mutual
def boltingref04_Row.j0 : Nat → Bool → Int → Int → ByteArray → ByteArray → List (S45) → Option (Bool)
 | 0, _, _, _, _, _, _ => none
 | k + 1, x12, x309000, x309001, x309002, x309003, x309004 => if x12 = true then (if x309002.toList = ([] : List UInt8) then (some ((x309004.length : Int) == 0)) else (some false)) else (boltingref04_Row.l0 k 0 x309000 x309001 x309002 x309003 x309004)
def boltingref04_Row.l0 : Nat → Int → Int → Int → ByteArray → ByteArray → List (S45) → Option (Bool)
 | 0, _, _, _, _, _, _ => none
 | k + 1, x3, x309000, x309001, x309002, x309003, x309004 => if x3 < (x309004.length : Int) then (boltingref04_Row.l1 k x3 0 x309000 x309001 x309002 x309003 x309004) else (if x309001 = 0 then (if x309002.toList = ([] : List UInt8) then (some false) else (some (x309003.toList == ([] : List UInt8)))) else (some false))
def boltingref04_Row.l1 : Nat → Int → Int → Int → Int → ByteArray → ByteArray → List (S45) → Option (Bool)
 | 0, _, _, _, _, _, _, _ => none
 | k + 1, x3, x4, x309000, x309001, x309002, x309003, x309004 => if x4 < x3 then (if 0 ≤ x3 then (if x3 < (x309004.length : Int) then (if 0 ≤ x4 then (if x4 < (x309004.length : Int) then (if ((rd_T45 x309004 x3).f0).toList = ((rd_T45 x309004 x4).f0).toList then (some false) else (boltingref04_Row.l1 k x3 (wrap64 (x4 + 1)) x309000 x309001 x309002 x309003 x309004)) else (none)) else (none)) else (none)) else (none)) else (boltingref04_Row.l0 k (wrap64 (x3 + 1)) x309000 x309001 x309002 x309003 x309004)
end
def boltingref04_Row.f (k : Nat) (a0_0 : Int) (a0_1 : Int) (a0_2 : ByteArray) (a0_3 : ByteArray) (l0_4 : List (S45)) : Option (Bool) := if a0_1 = 1 then (boltingref04_Row.j0 k true a0_0 a0_1 a0_2 a0_3 l0_4) else (boltingref04_Row.j0 k (a0_1 == 2) a0_0 a0_1 a0_2 a0_3 l0_4)
end Go.Proofs.YticacakoefojbaaGreat.Pr
namespace Go.Proofs.YticacakoefojbaaGreat.Pr
open Go.RowKit Go.Proofs.YticacakoefojbaaGreatW.PrintWords Go.Proofs.YticacakoefojbaaGreatW.PrintLast Go.Proofs.YticacakoefojbaaGreatW.PrintMore
attribute [local go_sem] max2_int min2_int max_two min_two max_three min_three max_four min_four   -- for this text's walks alone
set_option linter.unusedVariables false
set_option linter.unusedSimpArgs false

mutual
def boltingref04_Right.l0 : Nat → List (S38) → Int → Option (Bool)
 | 0, _, _ => none
 | k + 1, x0, x3 => if x3 < (x0.length : Int) then (if 0 ≤ x3 then ((boltingref04_Row.f k ((rd_T38 x0 x3).f0) ((rd_T38 x0 x3).f1) ((rd_T38 x0 x3).f2) ((rd_T38 x0 x3).f3) ((rd_T38 x0 x3).f4)).bind fun t313 => (if t313 = true then (if ((rd_T38 x0 x3).f0) < 0 then (boltingref04_Right.j1 k x0 x3 ((rd_T38 x0 x3).f0) true) else (if x3 = 0 then (boltingref04_Right.j1 k x0 x3 ((rd_T38 x0 x3).f0) (((rd_T38 x0 x3).f0) != 0)) else (boltingref04_Right.j1 k x0 x3 ((rd_T38 x0 x3).f0) false))) else (boltingref04_Right.j1 k x0 x3 ((rd_T38 x0 x3).f0) true))) else (none)) else (some true)
def boltingref04_Right.j1 : Nat → List (S38) → Int → Int → Bool → Option (Bool)
 | 0, _, _, _, _ => none
 | k + 1, x0, x3, x4, x33 => if x33 = true then (some false) else (if x3 > 0 then (if 0 ≤ (wrap64 (x3 - 1)) then (if (wrap64 (x3 - 1)) < (x0.length : Int) then (if x4 > (wrap64 (((rd_T38 x0 (wrap64 (x3 - 1))).f0) + 1)) then (some false) else (if x4 = (wrap64 (((rd_T38 x0 (wrap64 (x3 - 1))).f0) + 1)) then (if ((rd_T38 x0 (wrap64 (x3 - 1))).f1) = 0 then (boltingref04_Right.l0 k x0 (wrap64 (x3 + 1))) else (some false)) else (boltingref04_Right.l0 k x0 (wrap64 (x3 + 1))))) else (none)) else (none)) else (boltingref04_Right.l0 k x0 (wrap64 (x3 + 1))))
end
def boltingref04_Right.f (k : Nat) (l0 : List (S38)) : Option (Bool) := boltingref04_Right.l0 k l0 0
def boltingref04_Check.f (k : Nat) (l0 : List (S38)) : Option (Int) := (boltingref04_Big.f k l0).bind fun t317 => (if t317 = true then (some 2) else ((boltingref04_Right.f k l0).bind fun t318 => (if t318 = true then (some 0) else (some 40))))
def boltingref04_Moved.l0 : Nat → List (S38) → Int → List (S38) → Int → Option ((List (S38)))
 | 0, _, _, _, _ => none
 | k + 1, x0, x1, x5, x6 => if x6 < (x0.length : Int) then (if 0 ≤ x6 then ((some (([] : List (S45)) : List (S45))).bind fun y324 => (if y324.length + ((rd_T38 x0 x6).f4).length < 4398046511104 then (if x5.length < 1954687338268 then (boltingref04_Moved.l0 k x0 x1 (x5 ++ [(⟨wrap64 (((rd_T38 x0 x6).f0) + x1), (rd_T38 x0 x6).f1, (rd_T38 x0 x6).f2, (rd_T38 x0 x6).f3, (y324 ++ ((rd_T38 x0 x6).f4))⟩ : S38)]) (wrap64 (x6 + 1))) else (none)) else (none))) else (none)) else (some x5)
def boltingref04_Moved.f (k : Nat) (l0 : List (S38)) (a1 : Int) : Option ((List (S38))) := boltingref04_Moved.l0 k l0 a1 (([] : List (S38))) 0
end Go.Proofs.YticacakoefojbaaGreat.Pr
namespace Go.Proofs.YticacakoefojbaaGreat.Pr
open Go.RowKit Go.Proofs.YticacakoefojbaaGreatW.PrintWords Go.Proofs.YticacakoefojbaaGreatW.PrintLast Go.Proofs.YticacakoefojbaaGreatW.PrintMore
attribute [local go_sem] max2_int min2_int max_two min_two max_three min_three max_four min_four   -- for this text's walks alone
set_option linter.unusedVariables false
set_option linter.unusedSimpArgs false

def boltingref04_Normal.l0 : Nat → List (S38) → List (S38) → Int → Option ((List (S38)))
 | 0, _, _, _ => none
 | k + 1, x0, x3, x4 => if x4 < (x0.length : Int) then (if 0 ≤ x4 then (if x4 ≤ (wrap64 (x4 + 1)) then (if (wrap64 (x4 + 1)) ≤ (x0.length : Int) then ((boltingref04_Moved.f k ((x0.take ((wrap64 (x4 + 1)) : Int).toNat).drop (x4 : Int).toNat) 0).bind fun t340 => (if ((rd_T38 x0 x4).f1) = 1 then (if ((rd_T38 x0 x4).f3).toList = ([] : List UInt8) then (boltingref04_Normal.l0 k x0 x3 (wrap64 (x4 + 1))) else (if (x3.length : Int) > 0 then (if 0 ≤ (wrap64 ((x3.length : Int) - 1)) then (if (wrap64 ((x3.length : Int) - 1)) < (x3.length : Int) then (if ((rd_T38 x3 (wrap64 ((x3.length : Int) - 1))).f1) = 1 then (if ((rd_T38 x3 (wrap64 ((x3.length : Int) - 1))).f0) = ((rd_T38 x0 x4).f0) then (if ((rd_T38 x3 (wrap64 ((x3.length : Int) - 1))).f3).size + ((rd_T38 x0 x4).f3).size ≤ 9223372036854775807 then (boltingref04_Normal.l0 k x0 (x3.set ((wrap64 ((x3.length : Int) - 1)) : Int).toNat (⟨(rd_T38 x3 (wrap64 ((x3.length : Int) - 1))).f0, (rd_T38 x3 (wrap64 ((x3.length : Int) - 1))).f1, (rd_T38 x3 (wrap64 ((x3.length : Int) - 1))).f2, ((rd_T38 x3 (wrap64 ((x3.length : Int) - 1))).f3) ++ ((rd_T38 x0 x4).f3), (rd_T38 x3 (wrap64 ((x3.length : Int) - 1))).f4⟩ : S38)) (wrap64 (x4 + 1))) else (none)) else (if x3.length + t340.length < 1954687338268 then (boltingref04_Normal.l0 k x0 (x3 ++ t340) (wrap64 (x4 + 1))) else (none))) else (if x3.length + t340.length < 1954687338268 then (boltingref04_Normal.l0 k x0 (x3 ++ t340) (wrap64 (x4 + 1))) else (none))) else (none)) else (none)) else (if x3.length + t340.length < 1954687338268 then (boltingref04_Normal.l0 k x0 (x3 ++ t340) (wrap64 (x4 + 1))) else (none)))) else (if x3.length + t340.length < 1954687338268 then (boltingref04_Normal.l0 k x0 (x3 ++ t340) (wrap64 (x4 + 1))) else (none)))) else (none)) else (none)) else (none)) else (some x3)
def boltingref04_Normal.f (k : Nat) (l0 : List (S38)) : Option ((List (S38))) := boltingref04_Normal.l0 k l0 (([] : List (S38))) 0
def boltingref04_Normal.T8 : Bool × List (List Nat × List Nat) := (true, [([], []), ([], []), ([0, 1], [0, 1]), ([2], [2]), ([3], [3]), ([4], [4]), ([5], [5]), ([6], [6]), ([7, 6], [6, 7]), ([6, 8], [6, 8]), ([9, 6], [9]), ([10], [10]), ([10], [10]), ([12, 10], [10, 12]), ([11, 13, 10], [10, 11, 13]), ([14, 10], [10, 14]), ([15, 10], [10, 15]), ([16, 10], [10, 16]), ([10, 17], [10, 17]), ([18, 10], [18]), ([19], [19]), ([19], [19]), ([21, 19], [19, 21]), ([20, 22, 19], [19, 20, 22]), ([23, 19], [19, 23]), ([24, 19], [19, 24]), ([19], [19]), ([19], [19]), ([26, 27, 19], [19, 26, 27]), ([28, 19], [19, 28]), ([29, 19], [19, 29]), ([25, 30, 19], [19, 25, 30]), ([19, 31], [19, 31])])
def boltingref04_Normal.B8 : List Nat := [0, 0, 3, 7, 15, 31, 63, 127, 255, 511, 1023, 2047, 2047, 6143, 16383, 32767, 65535, 131071, 262143, 524287, 1048575, 1048575, 3145727, 8388607, 16777215, 33554431, 1048575, 1048575, 202375167, 470810623, 1007681535, 2147483647, 4294967295]
def boltingref04_Normal.T10 : Bool × List (List Nat × List Nat) := (true, [([], []), ([0], [0]), ([], []), ([], []), ([2, 3], [2, 3]), ([4], [4]), ([5], [5]), ([1, 6], [1, 6]), ([0, 1, 2, 3, 4, 5, 6, 7], []), ([8, 7, 0, 1, 2, 3, 4, 5, 6, 7], [7, 8])])
def boltingref04_Normal.B10 : List Nat := [0, 1, 0, 0, 12, 28, 60, 127, 255, 511]
end Go.Proofs.YticacakoefojbaaGreat.Pr
namespace Go.Proofs.YticacakoefojbaaGreat.Pure
set_option linter.unusedVariables false
set_option linter.unusedSimpArgs false
open Go.RowKit Go.Proofs.YticacakoefojbaaGreat.Pr Go.Proofs.YticacakoefojbaaGreat.Fo Go.Proofs.YticacakoefojbaaGreatW.PrintWords Go.Proofs.YticacakoefojbaaGreatW.PrintLast Go.Proofs.YticacakoefojbaaGreatW.PrintMore

theorem rdR_at {l : List Rw} {i : Nat} {x : Rw} (h : l[i]? = some x) : rd_T38 l (i : Int) = x := by
  unfold rd_T38
  rw [Int.toNat_natCast, List.getD_eq_getElem?_getD, h]
  rfl
theorem rdA_at {l : List Atr} {i : Nat} {x : Atr} (h : l[i]? = some x) : rd_T45 l (i : Int) = x := by
  unfold rd_T45
  rw [Int.toNat_natCast, List.getD_eq_getElem?_getD, h]
  rfl
def Okx (x : Rw) : Prop := wrap64 x.f0 = x.f0 ∧ x.f4.length ≤ 50
theorem attr_f (l : List Atr) (h : l.length ≤ 50) : api_Attr.f l = some l := if_pos (by omega)
theorem moved_l0 (l : List Rw) (hl : l.length ≤ 200) (hx : ∀ x ∈ l, Okx x) : ∀ (d i : Nat) (acc : List Rw), i + d = l.length → acc.length ≤ i → ∀ k, d < k →
    rows_moved.l0 k 0 acc l (l.length : Int) (i : Int) = some (acc ++ l.drop i)
  | 0, i, acc, h, ha, k, hk => by
    obtain ⟨k, rfl⟩ : ∃ m, k = m + 1 := ⟨k - 1, by omega⟩
    simp only [rows_moved.l0]
    rw [if_neg (by omega), List.drop_of_length_le (by omega), List.append_nil]
  | d + 1, i, acc, h, ha, k, hk => by
    obtain ⟨k, rfl⟩ : ∃ m, k = m + 1 := ⟨k - 1, by omega⟩
    obtain ⟨x, h0⟩ := get_some (show i < l.length by omega)
    obtain ⟨h1, h2⟩ := hx x (List.mem_of_getElem? h0)
    simp only [rows_moved.l0]
    rw [if_pos (by omega), if_pos (by omega), if_pos (by omega), rdR_at h0, attr_f _ h2, Option.bind_some, if_pos (by omega), wrap_succ (by omega) (by omega), drop_at h0, Int.add_zero, h1]
    have := moved_l0 l hl hx d (i + 1) (acc ++ [x]) (by omega) (by simp; omega) k (by omega)
    rw [List.append_assoc] at this
    exact this
theorem moved_f (l : List Rw) (hl : l.length ≤ 200) (hx : ∀ x ∈ l, Okx x) {k : Nat} (hk : 300 < k) : rows_moved.f k l 0 = some l :=
  moved_l0 l hl hx l.length 0 [] (by omega) (by simp) k (by omega)
def tsz : List Rw → Nat
  | [] => 0
  | x :: t => x.f3.size + tsz t
theorem tsz_app : ∀ a b : List Rw, tsz (a ++ b) = tsz a + tsz b
  | [], b => by simp [tsz]
  | x :: t, b => by rw [List.cons_append, tsz, tsz, tsz_app t]; omega
def jz (z : Rw) : List Rw → List Rw
  | [] => [z]
  | y :: t => if z.f1 = 1 ∧ y.f1 = 1 ∧ z.f0 = y.f0 then { z with f3 := z.f3 ++ y.f3 } :: t else z :: y :: t
theorem jz_cons (z y : Rw) (t : List Rw) : jz z (y :: t) = if z.f1 = 1 ∧ y.f1 = 1 ∧ z.f0 = y.f0 then { z with f3 := z.f3 ++ y.f3 } :: t else z :: y :: t := rfl
def joinL (out L : List Rw) : List Rw := match out.getLast? with
  | none => L
  | some z => out.dropLast ++ jz z L
theorem joinL_snoc (o : List Rw) (z : Rw) (L : List Rw) : joinL (o ++ [z]) L = o ++ jz z L := by unfold joinL; rw [List.getLast?_concat, List.dropLast_concat]
theorem joinL_end (out : List Rw) : joinL out [] = out := by
  rcases List.eq_nil_or_concat out with rfl | ⟨o, z, rfl⟩
  · rfl
  · rw [List.concat_eq_append, joinL_snoc]; rfl
def nstep (out : List Rw) (x : Rw) : List Rw :=
  if x.f1 = 1 ∧ x.f3.size = 0 then out else match out.getLast? with
    | none => [x]
    | some z => if z.f1 = 1 ∧ x.f1 = 1 ∧ z.f0 = x.f0 then out.dropLast ++ [{ z with f3 := z.f3 ++ x.f3 }] else out ++ [x]
theorem preL_jz (x : Rw) (L : List Rw) : preL x L = if x.f1 = 1 ∧ x.f3.size = 0 then L else jz x L := by
  unfold preL jz
  by_cases h1 : x.f1 = 1
  · rw [if_pos h1]
    by_cases h2 : x.f3.size = 0
    · rw [if_pos h2, if_pos ⟨h1, h2⟩]
    · rw [if_neg h2, if_neg (fun g => h2 g.2)]
      cases L with
      | nil => rfl
      | cons y t =>
        simp only []
        by_cases c : y.f1 = 1 ∧ y.f0 = x.f0
        · rw [if_pos c, if_pos ⟨h1, c.1, c.2.symm⟩]
        · rw [if_neg c, if_neg (fun g => c ⟨g.2.1, g.2.2.symm⟩)]
  · rw [if_neg h1, if_neg (fun g => h1 g.1)]
    cases L with
    | nil => rfl
    | cons y t => simp only []; rw [if_neg (fun g => h1 g.1)]
theorem jz_not {z x : Rw} (h : ¬ (z.f1 = 1 ∧ x.f1 = 1 ∧ z.f0 = x.f0)) (L : List Rw) : jz z (jz x L) = z :: jz x L := by
  cases L with
  | nil => show jz z [x] = _; rw [jz_cons, if_neg h]; rfl
  | cons y t =>
    rw [jz_cons x]
    by_cases c : x.f1 = 1 ∧ y.f1 = 1 ∧ x.f0 = y.f0
    · rw [if_pos c, jz_cons, if_neg h]
    · rw [if_neg c, jz_cons, if_neg h]
theorem jz_yes {z x : Rw} (h : z.f1 = 1 ∧ x.f1 = 1 ∧ z.f0 = x.f0) (L : List Rw) : jz z (jz x L) = jz { z with f3 := z.f3 ++ x.f3 } L := by
  cases L with
  | nil => show jz z [x] = [_]; rw [jz_cons, if_pos h]
  | cons y t =>
    rw [jz_cons x, jz_cons { z with f3 := z.f3 ++ x.f3 }]
    by_cases c : x.f1 = 1 ∧ y.f1 = 1 ∧ x.f0 = y.f0
    · rw [if_pos c, jz_cons, if_pos h, if_pos (show z.f1 = 1 ∧ y.f1 = 1 ∧ z.f0 = y.f0 from ⟨h.1, c.2.1, h.2.2.trans c.2.2⟩)]
      simp only [ByteArray.append_assoc]
    · rw [if_neg c, jz_cons, if_pos h, if_neg (show ¬ (z.f1 = 1 ∧ y.f1 = 1 ∧ z.f0 = y.f0) from fun g => c ⟨h.2.1, g.2.1, h.2.2.symm.trans g.2.2⟩)]
theorem nstep_join (out : List Rw) (x : Rw) (L : List Rw) : joinL (nstep out x) L = joinL out (preL x L) := by
  rw [preL_jz]
  unfold nstep
  by_cases h : x.f1 = 1 ∧ x.f3.size = 0
  · rw [if_pos h, if_pos h]
  · rw [if_neg h, if_neg h]
    rcases List.eq_nil_or_concat out with rfl | ⟨o, z, rfl⟩
    · show joinL ([] ++ [x]) L = jz x L
      rw [joinL_snoc]; rfl
    · rw [List.concat_eq_append, List.getLast?_concat, List.dropLast_concat, joinL_snoc]
      simp only []
      by_cases c : z.f1 = 1 ∧ x.f1 = 1 ∧ z.f0 = x.f0
      · rw [if_pos c, joinL_snoc, jz_yes c]
      · rw [if_neg c, joinL_snoc, jz_not c, List.append_assoc]; rfl
theorem fold_join : ∀ (l out : List Rw), l.foldl nstep out = joinL out (normL l)
  | [], out => (joinL_end out).symm
  | x :: t, out => by rw [List.foldl_cons, fold_join t, nstep_join, normL]
theorem fold_norm' (l : List Rw) : l.foldl nstep [] = normL l := fold_join l []
theorem nstep_tsz (out : List Rw) (x : Rw) : tsz (nstep out x) ≤ tsz out + x.f3.size := by
  unfold nstep
  split
  · omega
  · rcases List.eq_nil_or_concat out with rfl | ⟨o, z, rfl⟩
    · show tsz [x] ≤ _; simp [tsz]
    · rw [List.concat_eq_append, List.getLast?_concat, List.dropLast_concat]
      simp only []
      split
      · rw [tsz_app, tsz_app]
        show tsz o + ((z.f3 ++ x.f3).size + 0) ≤ tsz o + (z.f3.size + 0) + _
        rw [ByteArray.size_append]; omega
      · rw [tsz_app, tsz_app]
        show tsz o + (z.f3.size + 0) + (x.f3.size + 0) ≤ _
        simp [tsz]
theorem nstep_len (out : List Rw) (x : Rw) : (nstep out x).length ≤ out.length + 1 := by
  unfold nstep
  split
  · omega
  · rcases List.eq_nil_or_concat out with rfl | ⟨o, z, rfl⟩
    · simp
    · rw [List.concat_eq_append, List.getLast?_concat, List.dropLast_concat]
      simp only []
      split <;> simp
theorem nstep_empty {out : List Rw} {x : Rw} (h : x.f1 = 1 ∧ x.f3.size = 0) : nstep out x = out := by unfold nstep; rw [if_pos h]
theorem nstep_nil {x : Rw} (h : ¬ (x.f1 = 1 ∧ x.f3.size = 0)) : nstep [] x = [x] := by unfold nstep; rw [if_neg h]; rfl
theorem nstep_snoc {o : List Rw} {z x : Rw} (h : ¬ (x.f1 = 1 ∧ x.f3.size = 0)) : nstep (o ++ [z]) x = if z.f1 = 1 ∧ x.f1 = 1 ∧ z.f0 = x.f0 then o ++ [{ z with f3 := z.f3 ++ x.f3 }] else o ++ [z] ++ [x] := by
  unfold nstep
  rw [if_neg h, List.getLast?_concat, List.dropLast_concat]
theorem nstep_code {α : Type} (out : List Rw) (x : Rw) (L : List Rw → Option α) (hs : tsz out + x.f3.size ≤ 9223372036854775807) (hl : out.length < 1954687338268) (A : List Rw → Option α) (hA : A (out ++ [x]) = L (out ++ [x])) :
    (if x.f1 = 1 then (if x.f3.toList = ([] : List UInt8) then L out else (if (out.length : Int) > 0 then (if 0 ≤ (wrap64 ((out.length : Int) - 1)) then (if (wrap64 ((out.length : Int) - 1)) < (out.length : Int) then (if ((rd_T38 out (wrap64 ((out.length : Int) - 1))).f1) = 1 then (if ((rd_T38 out (wrap64 ((out.length : Int) - 1))).f0) = x.f0 then (if ((rd_T38 out (wrap64 ((out.length : Int) - 1))).f3).size + x.f3.size ≤ 9223372036854775807 then (L (out.set ((wrap64 ((out.length : Int) - 1)) : Int).toNat (⟨(rd_T38 out (wrap64 ((out.length : Int) - 1))).f0, (rd_T38 out (wrap64 ((out.length : Int) - 1))).f1, (rd_T38 out (wrap64 ((out.length : Int) - 1))).f2, ((rd_T38 out (wrap64 ((out.length : Int) - 1))).f3) ++ x.f3, (rd_T38 out (wrap64 ((out.length : Int) - 1))).f4⟩ : Rw))) else (none)) else A (out ++ [x])) else A (out ++ [x])) else (none)) else (none)) else A (out ++ [x]))) else A (out ++ [x])) = L (nstep out x) := by
  by_cases h1 : x.f1 = 1
  · rw [if_pos h1]
    by_cases h2 : x.f3.size = 0
    · have e : x.f3.toList = [] := by
        rw [Lib.toList_data]
        have e : x.f3.data = #[] := Array.size_eq_zero_iff.1 h2
        rw [e]
      rw [if_pos e, nstep_empty ⟨h1, h2⟩]
    · have e : ¬ x.f3.toList = [] := fun e => h2 (by
        rw [Lib.toList_data] at e
        have := congrArg List.length e
        simpa using this)
      have hn : ¬ (x.f1 = 1 ∧ x.f3.size = 0) := fun g => h2 g.2
      rw [if_neg e]
      rcases List.eq_nil_or_concat out with rfl | ⟨o, z, rfl⟩
      · rw [if_neg (by simp), hA, nstep_nil hn]; rfl
      · rw [List.concat_eq_append] at *
        have hlen : ((o ++ [z]).length : Int) = (o.length : Int) + 1 := by simp
        have hol : o.length < 1954687338268 := by simp at hl; omega
        have hw : wrap64 (((o ++ [z]).length : Int) - 1) = (o.length : Int) := by
          rw [hlen, show (o.length : Int) + 1 - 1 = o.length by omega, wrap_id (by omega) (by omega)]
        have hz : (o ++ [z])[o.length]? = some z := by simp
        have ht : z.f3.size ≤ tsz (o ++ [z]) := by rw [tsz_app]; show _ ≤ tsz o + (z.f3.size + 0); omega
        rw [if_pos (by omega), hw, rdR_at hz, if_pos (by omega), if_pos (by omega), nstep_snoc hn]
        by_cases h3 : z.f1 = 1
        · rw [if_pos h3]
          by_cases h4 : z.f0 = x.f0
          · rw [if_pos h4, if_pos (by omega), if_pos ⟨h3, h1, h4⟩, Int.toNat_natCast, List.set_append_right _ _ (Nat.le_refl _)]
            simp
          · rw [if_neg h4, if_neg (fun g => h4 g.2.2), hA]
        · rw [if_neg h3, if_neg (fun g => h3 g.1), hA]
  · have hn : ¬ (x.f1 = 1 ∧ x.f3.size = 0) := fun g => h1 g.1
    rw [if_neg h1, hA]
    rcases List.eq_nil_or_concat out with rfl | ⟨o, z, rfl⟩
    · rw [nstep_nil hn]; rfl
    · rw [List.concat_eq_append, nstep_snoc hn, if_neg (fun g => h1 g.2.1)]
theorem normal_l0 (l : List Rw) (hl : l.length ≤ 200) : ∀ (d i : Nat) (out : List Rw), i + d = l.length → out.length ≤ i → tsz out + tsz (l.drop i) ≤ 4000000000000000000 → ∀ k, d < k →
    rows_Normal.l0 k out l (l.length : Int) (i : Int) = some ((l.drop i).foldl nstep out)
  | 0, i, out, h, ho, ht, k, hk => by
    obtain ⟨k, rfl⟩ : ∃ m, k = m + 1 := ⟨k - 1, by omega⟩
    simp only [rows_Normal.l0]
    rw [if_neg (by omega), List.drop_of_length_le (by omega)]; rfl
  | d + 1, i, out, h, ho, ht, k, hk => by
    obtain ⟨k, rfl⟩ : ∃ m, k = m + 1 := ⟨k - 1, by omega⟩
    obtain ⟨x, h0⟩ := get_some (show i < l.length by omega)
    rw [drop_at h0, tsz] at ht
    have h1 := nstep_tsz out x
    have h2 := nstep_len out x
    have ih := normal_l0 l hl d (i + 1) (nstep out x) (by omega) (by omega) (by omega) k (by omega)
    simp only [rows_Normal.l0]
    rw [if_pos (by omega), if_pos (by omega), if_pos (by omega), rdR_at h0, wrap_succ (by omega) (by omega), drop_at h0, List.foldl_cons]
    rw [← ih]
    exact nstep_code out x (fun o => rows_Normal.l0 k o l (l.length : Int) ((i : Int) + 1)) (by omega) (by omega) (fun o => if out.length < 1954687338268 then rows_Normal.l0 k o l (l.length : Int) ((i : Int) + 1) else none) (if_pos (by omega))
theorem normal_f (l : List Rw) (hl : l.length ≤ 200) (hx : ∀ x ∈ l, Okx x) (ht : tsz l ≤ 4000000000000000000) {k : Nat} (hk : 300 < k) : rows_Normal.f k l = some (normL l) := by
  unfold rows_Normal.f
  rw [moved_f l hl hx hk, Option.bind_some]
  have := normal_l0 l hl l.length 0 [] (by omega) (by simp) (by simpa [tsz] using ht) k (by omega)
  rw [List.drop_zero, fold_norm'] at this
  exact this
end Go.Proofs.YticacakoefojbaaGreat.Pure
namespace Go.Proofs.YticacakoefojbaaGreat.Pure
set_option linter.unusedVariables false
set_option linter.unusedSimpArgs false
open Go.RowKit Go.Proofs.YticacakoefojbaaGreat.Pr Go.Proofs.YticacakoefojbaaGreat.Fo Go.Proofs.YticacakoefojbaaGreatW.PrintWords Go.Proofs.YticacakoefojbaaGreatW.PrintLast Go.Proofs.YticacakoefojbaaGreatW.PrintMore

def uniq : List Atr → List Atr → Bool
  | _, [] => true
  | seen, a :: t => seen.all (fun b => !decide (a.f0 = b.f0)) && uniq (seen ++ [a]) t
def empB (s : ByteArray) : Bool := decide (s.size = 0)
def rowB (x : Rw) : Bool := if x.f1 = 1 ∨ x.f1 = 2 then empB x.f2 && decide (x.f4.length = 0) else decide (x.f1 = 0) && !empB x.f2 && empB x.f3 && uniq [] x.f4
theorem emp_iff (s : ByteArray) : s.toList = ([] : List UInt8) ↔ s.size = 0 := by
  rw [Lib.toList_data]
  constructor
  · intro e
    have := congrArg List.length e
    simpa using this
  · intro e
    have e : s.data = #[] := Array.size_eq_zero_iff.1 e
    rw [e]
theorem emp_true {s : ByteArray} (h : s.size = 0) : empB s = true := decide_eq_true h
theorem emp_false {s : ByteArray} (h : ¬ s.size = 0) : empB s = false := decide_eq_false h
theorem emp_b (s : ByteArray) : (s.toList == ([] : List UInt8)) = empB s := by
  unfold empB
  rw [Bool.eq_iff_iff, beq_iff_eq, decide_eq_true_eq]
  exact emp_iff s
theorem emp_n (s : ByteArray) : (s.toList != ([] : List UInt8)) = !empB s := by rw [bne, emp_b]
theorem name_iff (a b : ByteArray) : a.toList = b.toList ↔ a = b := toList_iff a b
theorem rowB_text {x : Rw} (h : x.f1 = 1 ∨ x.f1 = 2) : rowB x = (empB x.f2 && decide (x.f4.length = 0)) := by unfold rowB; rw [if_pos h]
theorem rowB_el {x : Rw} (h : ¬ (x.f1 = 1 ∨ x.f1 = 2)) : rowB x = (decide (x.f1 = 0) && !empB x.f2 && empB x.f3 && uniq [] x.f4) := by unfold rowB; rw [if_neg h]
theorem row_l1 (L : List Atr) (hL : L.length ≤ 50) (i : Nat) (a : Atr) (hi : L[i]? = some a) (d0 d1 : Int) (d2 d3 : ByteArray) : ∀ (d j : Nat), j + d = i → ∀ m k, k = m + d + 1 →
    rows_row.l1 k L (L.length : Int) (i : Int) (L.take i) ((L.take i).length : Int) (j : Int) d0 d1 d2 d3 L a.f0 a.f1 = if ((L.take i).drop j).all (fun b => !decide (a.f0 = b.f0)) = true then rows_row.l0 m L (L.length : Int) ((i : Int) + 1) d0 d1 d2 d3 L else some false
  | 0, j, h, m, k, hk => by
    obtain rfl : k = m + 1 := hk
    have hil : i < L.length := (List.getElem?_eq_some_iff.1 hi).1
    have ht : (L.take i).length = i := by rw [List.length_take]; omega
    simp only [rows_row.l1]
    rw [if_neg (by omega), List.drop_of_length_le (by omega), wrap_succ (by omega) (by omega)]; rfl
  | d + 1, j, h, m, k, hk => by
    obtain ⟨k, rfl⟩ : ∃ q, k = q + 1 := ⟨k - 1, by omega⟩
    have hil : i < L.length := (List.getElem?_eq_some_iff.1 hi).1
    have ht : (L.take i).length = i := by rw [List.length_take]; omega
    obtain ⟨b, hb⟩ := get_some (l := L.take i) (show j < (L.take i).length by omega)
    simp only [rows_row.l1]
    rw [if_pos (by omega), if_pos (by omega), if_pos (by omega), rdA_at hb, drop_at hb, List.all_cons]
    by_cases e : a.f0 = b.f0
    · rw [if_pos (by rw [e]), decide_eq_true e]; rfl
    · rw [if_neg (fun g => e ((name_iff _ _).1 g)), decide_eq_false e, wrap_succ (by omega) (by omega)]
      exact row_l1 L hL i a hi d0 d1 d2 d3 d (j + 1) (by omega) m k (by omega)
theorem row_l0 (L : List Atr) (hL : L.length ≤ 50) (d0 d1 : Int) (d2 d3 : ByteArray) : ∀ (d i : Nat), i + d = L.length → ∀ k, d * 60 < k →
    rows_row.l0 k L (L.length : Int) (i : Int) d0 d1 d2 d3 L = some (uniq (L.take i) (L.drop i))
  | 0, i, h, k, hk => by
    obtain ⟨k, rfl⟩ : ∃ q, k = q + 1 := ⟨k - 1, by omega⟩
    simp only [rows_row.l0]
    rw [if_neg (by omega), List.drop_of_length_le (by omega)]; rfl
  | d + 1, i, h, k, hk => by
    obtain ⟨k, rfl⟩ : ∃ q, k = q + 1 := ⟨k - 1, by omega⟩
    obtain ⟨a, ha⟩ := get_some (l := L) (show i < L.length by omega)
    have hk2 : (d + 1) * 60 = d * 60 + 60 := Nat.succ_mul _ _
    simp only [rows_row.l0]
    rw [if_pos (by omega), if_pos (by omega), if_pos (by omega), if_pos (by omega)]
    simp only [Option.bind_some, Int.toNat_natCast, rdA_at ha]
    have := row_l1 L hL i a ha d0 d1 d2 d3 i 0 (by omega) (k - i - 1) k (by omega)
    rw [show ((0 : Nat) : Int) = 0 from rfl] at this
    rw [this, List.drop_zero, drop_at ha]
    show _ = some ((L.take i).all _ && uniq (L.take i ++ [a]) (L.drop (i + 1)))
    rw [← take_at ha]
    have ih := row_l0 L hL d0 d1 d2 d3 d (i + 1) (by omega) (k - i - 1) (by omega)
    rw [show ((i + 1 : Nat) : Int) = (i : Int) + 1 from rfl] at ih
    rw [ih]
    cases (L.take i).all (fun b => !decide (a.f0 = b.f0)) with
    | true => rw [if_pos rfl, Bool.true_and]
    | false => rw [if_neg (by simp), Bool.false_and]
theorem row_f (x : Rw) (hx : x.f4.length ≤ 50) {k : Nat} (hk : 4000 < k) : rows_row.f k x.f0 x.f1 x.f2 x.f3 x.f4 = some (rowB x) := by
  obtain ⟨k, rfl⟩ : ∃ q, k = q + 2 := ⟨k - 2, by omega⟩
  have hl0 := row_l0 x.f4 hx x.f0 x.f1 x.f2 x.f3 x.f4.length 0 (by omega) k (by omega)
  rw [show ((0 : Nat) : Int) = 0 from rfl, List.take_zero, List.drop_zero] at hl0
  have hlen : ((x.f4.length : Int) == 0) = decide (x.f4.length = 0) := by rw [Bool.eq_iff_iff, beq_iff_eq, decide_eq_true_eq]; omega
  have j1 : ∀ b, rows_row.j1 (k + 1) b x.f0 x.f1 x.f2 x.f3 x.f4 = some (!b && uniq [] x.f4) := fun b => by
    simp only [rows_row.j1]
    cases b with
    | true => rw [if_pos rfl]; rfl
    | false => rw [if_neg (by simp), hl0]; rfl
  unfold rows_row.f
  by_cases h1 : x.f1 = 1
  · rw [if_pos h1, rowB_text (.inl h1)]
    simp only [rows_row.j0]
    rw [if_pos trivial, hlen]
    by_cases h2 : x.f2.size = 0
    · rw [if_pos ((emp_iff _).2 h2), emp_true h2, Bool.true_and]
    · rw [if_neg (fun g => h2 ((emp_iff _).1 g)), emp_false h2, Bool.false_and]
  · rw [if_neg h1]
    by_cases h2 : x.f1 = 2
    · rw [rowB_text (.inr h2), show (x.f1 == 2) = true from beq_iff_eq.2 h2]
      simp only [rows_row.j0]
      rw [if_pos trivial, hlen]
      by_cases h3 : x.f2.size = 0
      · rw [if_pos ((emp_iff _).2 h3), emp_true h3, Bool.true_and]
      · rw [if_neg (fun g => h3 ((emp_iff _).1 g)), emp_false h3, Bool.false_and]
    · rw [rowB_el (fun g => g.elim h1 h2), show (x.f1 == 2) = false from beq_eq_false_iff_ne.2 h2]
      simp only [rows_row.j0]
      rw [if_neg (by simp), j1, j1, emp_n]
      by_cases h0 : x.f1 = 0
      · rw [if_pos h0, decide_eq_true h0]
        by_cases h3 : x.f2.size = 0
        · rw [if_pos ((emp_iff _).2 h3), emp_true h3]; rfl
        · rw [if_neg (fun g => h3 ((emp_iff _).1 g)), emp_false h3, Bool.not_not]; rfl
      · rw [if_neg h0, decide_eq_false h0]; rfl
def rightB : Int → List Rw → Bool
  | _, [] => true
  | m, x :: t => decide (0 ≤ x.f0) && decide (x.f0 ≤ m) && rowB x && rightB (if x.f1 = 0 then x.f0 + 1 else x.f0) t
theorem right_iff : ∀ (l : List Rw) (m : Int), rightB m l = true ↔ RightL (fun x => rowB x = true) m l
  | [], m => ⟨fun _ => trivial, fun _ => rfl⟩
  | x :: t, m => by
    show (decide (0 ≤ x.f0) && decide (x.f0 ≤ m) && rowB x && rightB _ t) = true ↔ (0 ≤ x.f0 ∧ x.f0 ≤ m ∧ rowB x = true ∧ RightL _ _ t)
    rw [Bool.and_eq_true, Bool.and_eq_true, Bool.and_eq_true, decide_eq_true_eq, decide_eq_true_eq, right_iff t]
    constructor
    · rintro ⟨⟨⟨a, b⟩, c⟩, d⟩; exact ⟨a, b, c, d⟩
    · rintro ⟨a, b, c, d⟩; exact ⟨⟨⟨a, b⟩, c⟩, d⟩
theorem rights_l0 (l : List Rw) (hl : l.length ≤ 200) (hx : ∀ x ∈ l, x.f4.length ≤ 50) : ∀ (d i : Nat) (m : Int), i + d = l.length → m ≤ i → ∀ k, 2 * d + 4001 < k →
    rows_right.l0 k m l (l.length : Int) (i : Int) = some (rightB m (l.drop i))
  | 0, i, m, h, hm, k, hk => by
    obtain ⟨k, rfl⟩ : ∃ q, k = q + 1 := ⟨k - 1, by omega⟩
    simp only [rows_right.l0]
    rw [if_neg (by omega), List.drop_of_length_le (by omega)]; rfl
  | d + 1, i, m, h, hm, k, hk => by
    obtain ⟨k, rfl⟩ : ∃ q, k = q + 2 := ⟨k - 2, by omega⟩
    obtain ⟨x, h0⟩ := get_some (l := l) (show i < l.length by omega)
    simp only [rows_right.l0]
    rw [if_pos (by omega), if_pos (by omega), if_pos (by omega), rdR_at h0, row_f x (hx x (List.mem_of_getElem? h0)) (by omega), drop_at h0]
    simp only [rows_right.j1, Option.bind_some]
    show _ = some (decide (0 ≤ x.f0) && decide (x.f0 ≤ m) && rowB x && rightB (if x.f1 = 0 then x.f0 + 1 else x.f0) (l.drop (i + 1)))
    by_cases a : x.f0 < 0
    · rw [if_pos a, if_pos trivial, decide_eq_false (show ¬ 0 ≤ x.f0 by omega)]; rfl
    · rw [if_neg a, decide_eq_true (show 0 ≤ x.f0 by omega)]
      by_cases b : x.f0 > m
      · rw [if_pos b, if_pos trivial, decide_eq_false (show ¬ x.f0 ≤ m by omega)]; rfl
      · rw [if_neg b, decide_eq_true (show x.f0 ≤ m by omega)]
        cases hr : rowB x with
        | false => rw [if_pos (by simp)]; rfl
        | true =>
          rw [if_neg (by simp), wrap_succ (i := (i : Int)) (by omega) (by omega), wrap_succ (i := x.f0) (by omega) (by omega)]
          have e1 := rights_l0 l hl hx d (i + 1) (x.f0 + 1) (by omega) (by omega) k (by omega)
          have e2 := rights_l0 l hl hx d (i + 1) x.f0 (by omega) (by omega) k (by omega)
          rw [show ((i + 1 : Nat) : Int) = (i : Int) + 1 from rfl] at e1 e2
          rw [e1, e2]
          split <;> rfl
theorem rights_f (l : List Rw) (hl : l.length ≤ 200) (hx : ∀ x ∈ l, x.f4.length ≤ 50) {k : Nat} (hk : 5000 < k) : rows_right.f k l = some (rightB 0 l) := by
  have := rights_l0 l hl hx l.length 0 0 (by omega) (by omega) k (by omega)
  exact this
def mostAt (l : List Rw) (i : Nat) : Int := if i = 0 then 0 else match l[i - 1]? with
  | none => 0
  | some p => if p.f1 = 0 then p.f0 + 1 else p.f0
theorem big_f (l : List Rw) (hl : l.length ≤ 200) : rows_big.f l = some (l.any deepB) := by
  unfold rows_big.f bigL
  rw [decide_eq_false (by omega), Bool.false_or]
def checkR (l : List Rw) : Int := if l.any deepB = true then 2 else if rightB 0 l = true then 0 else 40
theorem rows_check_f (l : List Rw) (hl : l.length ≤ 200) (hx : ∀ x ∈ l, x.f4.length ≤ 50) {k : Nat} (hk : 5000 < k) : rows_Check.f k l = some (checkR l) := by
  unfold rows_Check.f checkR
  rw [big_f l hl, Option.bind_some, rights_f l hl hx hk, Option.bind_some]
  split <;> (try split) <;> rfl
theorem end_l0 (l : List Rw) (hl : l.length ≤ 200) (i : Nat) (x : Rw) (hi : l[i]? = some x) : ∀ (d j : Nat), j + d = l.length → ∀ k, d < k →
    rows_End.l0 k l (i : Int) (j : Int) = some ((j + ((l.drop j).takeWhile fun y => decide (x.f0 < y.f0)).length : Nat) : Int)
  | 0, j, h, k, hk => by
    obtain ⟨k, rfl⟩ : ∃ q, k = q + 1 := ⟨k - 1, by omega⟩
    simp only [rows_End.l0]
    rw [if_neg (by omega), List.drop_of_length_le (by omega)]; simp
  | d + 1, j, h, k, hk => by
    obtain ⟨k, rfl⟩ : ∃ q, k = q + 1 := ⟨k - 1, by omega⟩
    have hil : i < l.length := (List.getElem?_eq_some_iff.1 hi).1
    obtain ⟨y, h0⟩ := get_some (l := l) (show j < l.length by omega)
    simp only [rows_End.l0]
    rw [if_pos (by omega), if_pos (by omega), if_pos (by omega), if_pos (by omega), rdR_at h0, rdR_at hi, drop_at h0, List.takeWhile_cons, wrap_succ (by omega) (by omega)]
    by_cases a : y.f0 > x.f0
    · rw [if_pos a, if_pos (decide_eq_true a)]
      have ih := end_l0 l hl i x hi d (j + 1) (by omega) k (by omega)
      rw [show ((j + 1 : Nat) : Int) = (j : Int) + 1 from rfl] at ih
      rw [ih, List.length_cons]
      congr 2; omega
    · rw [if_neg a, if_neg (by rw [decide_eq_true_eq]; omega)]; simp
theorem end_f (l : List Rw) (hl : l.length ≤ 200) (i : Nat) (x : Rw) (hi : l[i]? = some x) {k : Nat} (hk : 300 < k) : rows_End.f k l (i : Int) = some ((i + 1 + ((l.drop (i + 1)).takeWhile fun y => decide (x.f0 < y.f0)).length : Nat) : Int) := by
  have hil : i < l.length := (List.getElem?_eq_some_iff.1 hi).1
  unfold rows_End.f rows_is.f
  rw [if_pos (by omega), Option.bind_some, if_pos (by rw [decide_eq_true_eq]; omega), wrap_succ (by omega) (by omega)]
  exact end_l0 l hl i x hi (l.length - (i + 1)) (i + 1) (by omega) k (by omega)
end Go.Proofs.YticacakoefojbaaGreat.Pure
namespace Go.Proofs.YticacakoefojbaaGreat.Pure
set_option linter.unusedVariables false
set_option linter.unusedSimpArgs false
open Go.RowKit Go.Proofs.YticacakoefojbaaGreat.Pr Go.Proofs.YticacakoefojbaaGreat.Fo Go.Proofs.YticacakoefojbaaGreatW.PrintWords Go.Proofs.YticacakoefojbaaGreatW.PrintLast Go.Proofs.YticacakoefojbaaGreatW.PrintMore

def neverB (n : ByteArray) : Bool := (risk_Element.f n).getD false
theorem never_f (n : ByteArray) : risk_Element.f n = some (neverB n) := by
  unfold neverB
  cases h : risk_Element.f n with
  | some b => rfl
  | none =>
    unfold risk_Element.f at h
    repeat' split at h
    all_goals cases h
def riskB (e n v : ByteArray) : Bool := (risk_Attr.f e n v).getD false
theorem risk_f (e n v : ByteArray) (hv : v.size ≤ 140737488351232) : risk_Attr.f e n v = some (riskB e n v) := by
  unfold riskB
  cases h : risk_Attr.f e n v with
  | some b => rfl
  | none =>
    unfold risk_Attr.f risk_Sink.f risk_Nav.f link_Script.f link_Scheme.f at h
    rw [bnd_of _ hv] at h
    simp only [Option.bind_some] at h
    repeat' split at h
    all_goals cases h

def keepA (c : Cf) (s : Bool) (n : ByteArray) (l : List Atr) : List Atr := l.filter fun a => attrB c n a.f0 && !(s && riskB n a.f0 a.f1)
def VS (l : List Atr) : Prop := ∀ a ∈ l, a.f1.size ≤ 140737488351232
theorem conf_attr_f {c : Cf} (hf : Fit c) (e a : ByteArray) : config_Attr.f c.al c.aal c.els c.rep c.ats c.per c.com c.dt e a = some (attrB c e a) := by
  unfold config_Attr.f
  rw [if_pos (of_fit hf)]
theorem attrs_l0 {c : Cf} (hf : Fit c) (s : Bool) (L : List Atr) (hL : L.length ≤ 50) (hv : VS L) (d0 d1 : Int) (n d3 : ByteArray) (M : List Atr) : ∀ (d i : Nat) (acc : List Atr), i + d = L.length → acc.length ≤ i → ∀ k, d < k →
    clean_Attrs.l0 k s acc L (L.length : Int) (i : Int) d0 d1 n d3 M c.al c.aal c.els c.rep c.ats c.per c.com c.dt = some (acc ++ keepA c s n (L.drop i))
  | 0, i, acc, h, ha, k, hk => by
    obtain ⟨k, rfl⟩ : ∃ q, k = q + 1 := ⟨k - 1, by omega⟩
    simp only [clean_Attrs.l0]
    rw [if_neg (by omega), List.drop_of_length_le (by omega)]; simp [keepA]
  | d + 1, i, acc, h, ha, k, hk => by
    obtain ⟨k, rfl⟩ : ∃ q, k = q + 1 := ⟨k - 1, by omega⟩
    obtain ⟨a, h0⟩ := get_some (l := L) (show i < L.length by omega)
    have hva := hv a (List.mem_of_getElem? h0)
    have e1 := attrs_l0 hf s L hL hv d0 d1 n d3 M d (i + 1) acc (by omega) (by omega) k (by omega)
    have e2 := attrs_l0 hf s L hL hv d0 d1 n d3 M d (i + 1) (acc ++ [a]) (by omega) (by simp; omega) k (by omega)
    rw [show ((i + 1 : Nat) : Int) = (i : Int) + 1 from rfl] at e1 e2
    rw [List.append_assoc] at e2
    simp only [clean_Attrs.l0]
    rw [if_pos (by omega), if_pos (by omega), if_pos (by omega), rdA_at h0, conf_attr_f hf, Option.bind_some, risk_f _ _ _ hva, wrap_succ (by omega) (by omega), drop_at h0]
    have hk1 : keepA c s n (a :: L.drop (i + 1)) = if (attrB c n a.f0 && !(s && riskB n a.f0 a.f1)) = true then a :: keepA c s n (L.drop (i + 1)) else keepA c s n (L.drop (i + 1)) := by
      unfold keepA
      rw [List.filter_cons]
    rw [hk1]
    cases attrB c n a.f0 with
    | false => rw [if_neg (by simp), if_neg (by simp)]; exact e1
    | true =>
      rw [if_pos rfl]
      cases s with
      | false => rw [if_neg (by simp), if_pos (by omega), if_pos (by simp)]; exact e2
      | true =>
        rw [if_pos rfl, Option.bind_some]
        cases riskB n a.f0 a.f1 with
        | false => rw [if_neg (by simp), if_pos (by omega), if_pos (by simp)]; exact e2
        | true => rw [if_pos rfl, if_neg (by simp)]; exact e1
theorem attrs_f {c : Cf} (hf : Fit c) (s : Bool) (d0 d1 : Int) (n d3 : ByteArray) (L : List Atr) (hL : L.length ≤ 50) (hv : VS L) {k : Nat} (hk : 60 < k) :
    clean_Attrs.f k d0 d1 n d3 L c.al c.aal c.els c.rep c.ats c.per c.com c.dt s = some (keepA c s n L) := by
  have := attrs_l0 hf s L hL hv d0 d1 n d3 L L.length 0 [] (by omega) (by simp) k (by omega)
  rw [List.drop_zero, List.nil_append] at this
  exact this
def whatC (c : Cf) (s : Bool) (x : Rw) : Int := if x.f1 = 1 then 0 else if x.f1 = 2 then (if c.com = true then 0 else 1) else if (s && neverB x.f2) = true then 1 else elemI c x.f2
def updC (c : Cf) (s : Bool) (x : Rw) : Rw := if x.f1 = 0 then { x with f4 := keepA c s x.f2 x.f4 } else x
theorem elem_kk {c : Cf} (hf : Fit c) (n : ByteArray) {k : Nat} (hk : 2000 < k) : config_Element.f k c.al c.aal c.els c.rep c.ats c.per c.com c.dt n = some (elemI c n) := by
  unfold config_Element.f elemI
  rw [contains_f _ _ (by have := hf.rep; omega) (by have := hf.rep; omega), Option.bind_some, contains_f _ _ (by have := hf.els; omega) (by have := hf.els; omega), Option.bind_some]
  split <;> (try split) <;> rfl
theorem becomes_f {c : Cf} (hf : Fit c) (s : Bool) (x : Rw) {k : Nat} (hk : 2010 < k) : clean_becomes.f k x.f0 x.f1 x.f2 x.f3 x.f4 c.al c.aal c.els c.rep c.ats c.per c.com c.dt s = some (whatC c s x) := by
  obtain ⟨k, rfl⟩ : ∃ q, k = q + 1 := ⟨k - 1, by omega⟩
  unfold clean_becomes.f whatC
  simp only [clean_becomes.j0]
  rw [never_f, elem_kk hf _ (by omega)]
  simp only [Option.bind_some]
  by_cases h1 : x.f1 = 1
  · rw [if_pos h1, if_pos h1]
  · rw [if_neg h1, if_neg h1]
    by_cases h2 : x.f1 = 2
    · simp only [if_pos h2]
      cases c.com <;> rfl
    · simp only [if_neg h2]
      cases s with
      | false => rfl
      | true =>
        cases neverB x.f2 <;> rfl

theorem rowB_kind {x : Rw} (h : rowB x = true) : x.f1 = 0 ∨ x.f1 = 1 ∨ x.f1 = 2 := by
  by_cases g : x.f1 = 1 ∨ x.f1 = 2
  · exact .inr g
  · rw [rowB_el g] at h
    simp only [Bool.and_eq_true, decide_eq_true_eq] at h
    exact .inl h.1.1.1
theorem rowB_none {x : Rw} (h : rowB x = true) (g : x.f1 = 1 ∨ x.f1 = 2) : x.f4 = [] ∧ x.f2.size = 0 := by
  rw [rowB_text g] at h
  simp only [Bool.and_eq_true, decide_eq_true_eq] at h
  exact ⟨List.eq_nil_of_length_eq_zero h.2, by simpa [empB] using h.1⟩
theorem updC_any {c : Cf} {s : Bool} {x : Rw} (h : rowB x = true) : updC c s x = { x with f4 := keepA c s x.f2 x.f4 } := by
  unfold updC
  rcases rowB_kind h with g | g
  · rw [if_pos g]
  · rw [if_neg (by rcases g with g | g <;> rw [g] <;> decide)]
    have := (rowB_none h g).1
    rw [this]
    show x = { x with f4 := [] }
    rw [← this]
structure Fine (x : Rw) : Prop where
  ok : rowB x = true
  few : x.f4.length ≤ 50
  small : VS x.f4
def up (less : List Int) (d : Nat) : Int := if d = 0 then 0 else less.getD (d - 1) 0
theorem up_take (less : List Int) (d : Nat) : up (less.take d) d = up less d := by
  unfold up
  by_cases h : d = 0
  · rw [if_pos h, if_pos h]
  · rw [if_neg h, if_neg h, List.getD_eq_getElem?_getD, List.getElem?_take, if_pos (by omega), ← List.getD_eq_getElem?_getD]
theorem up_snoc (less : List Int) (d : Nat) (u : Int) (h : less.length = d) : up (less ++ [u]) (d + 1) = u := by
  unfold up
  rw [if_neg (by omega), List.getD_eq_getElem?_getD, show d + 1 - 1 = d by omega, ← h]
  simp
def Low (less : List Int) : Prop := ∀ (j : Nat) (u : Int), less[j]? = some u → 0 ≤ u ∧ u ≤ j + 1
theorem Low.up {less : List Int} (h : Low less) {d : Nat} (hd : d ≤ less.length) : 0 ≤ up less d ∧ up less d ≤ d := by
  unfold Pure.up
  split
  · omega
  · obtain ⟨u, hu⟩ := get_some (l := less) (show d - 1 < less.length by omega)
    rw [List.getD_eq_getElem?_getD, hu]
    have := h _ _ hu
    show 0 ≤ u ∧ u ≤ d
    omega
theorem Low.take {less : List Int} (h : Low less) (d : Nat) : Low (less.take d) := fun j u hj => by
  rw [List.getElem?_take] at hj
  split at hj
  · exact h j u hj
  · cases hj
theorem Low.snoc {less : List Int} (h : Low less) {u : Int} (h0 : 0 ≤ u) (h1 : u ≤ less.length + 1) : Low (less ++ [u]) := fun j v hj => by
  rw [List.getElem?_append] at hj
  split at hj
  · exact h j v hj
  · rename_i g
    have : j - less.length = 0 := by
      cases hq : j - less.length with
      | zero => rfl
      | succ q => rw [hq] at hj; cases hj
    rw [this] at hj
    obtain rfl : u = v := by simpa using hj
    omega
theorem drop_more {l a b : List Rw} {i : Nat} (h : l.drop i = a ++ b) : l.drop (i + a.length) = b := by
  rw [← List.drop_drop, h, List.drop_left]
theorem takeWhile_tree (d : Int) (K : Fo) (rest : List Rw) (h : ∀ y, rest.head? = some y → y.f0 ≤ d) : ((flat (d + 1) K ++ rest).takeWhile fun y => decide (d < y.f0)).length = K.size := by
  have h1 : ∀ y ∈ flat (d + 1) K, decide (d < y.f0) = true := fun y hy => by
    have := flat_ge K (d + 1) y hy
    exact decide_eq_true (by omega)
  rw [List.takeWhile_append_of_pos h1]
  have h2 : rest.takeWhile (fun y => decide (d < y.f0)) = [] := by
    cases rest with
    | nil => rfl
    | cons y t => rw [List.takeWhile_cons, if_neg (by have := h y rfl; rw [decide_eq_true_eq]; omega)]
  rw [h2, List.append_nil, flat_len]
theorem walk {c : Cf} (hf : Fit c) (s : Bool) (l : List Rw) (hl : l.length ≤ 200) : ∀ (F : Fo) (d : Nat) (out : List Rw) (less : List Int) (i : Nat) (rest : List Rw) (k : Nat),
    F.Leaf → F.All Fine → l.drop i = flat d F ++ rest → (∀ y, rest.head? = some y → y.f0 ≤ d) → d ≤ less.length → Low less → less.length ≤ 200 → d + F.height ≤ 200 → out.length ≤ i → i ≤ l.length → 6000 + 2 * F.size < k →
    ∃ k' less', k ≤ k' + 2 * F.size ∧ less'.take d = less.take d ∧ d ≤ less'.length ∧ Low less' ∧ less'.length ≤ 200 ∧
      clean_Rows.l0 k l s out less (i : Int) c.al c.aal c.els c.rep c.ats c.per c.com c.dt = clean_Rows.l0 k' l s (out ++ flat (d - up less d) (keepF (whatC c s) (updC c s) F)) less' ((i + F.size : Nat) : Int) c.al c.aal c.els c.rep c.ats c.per c.com c.dt := by
  intro F
  induction F with
  | nil =>
    intro d out less i rest k _ _ _ _ hd hlow hll _ _ _ _
    refine ⟨k, less, by omega, rfl, hd, hlow, hll, ?_⟩
    show _ = clean_Rows.l0 k l s (out ++ []) less ((i + 0 : Nat) : Int) _ _ _ _ _ _ _ _
    rw [List.append_nil, Nat.add_zero]
  | cons x K R ihK ihR =>
    intro d out less i rest k hleaf hall hdrop hrest hd hlow hll hh hout hi hk
    obtain ⟨hlx, hlK, hlR⟩ := hleaf
    obtain ⟨hfx, haK, haR⟩ := hall
    have hsz : (Fo.cons x K R).size = 1 + K.size + R.size := rfl
    have hht : (Fo.cons x K R).height = max (1 + K.height) R.height := rfl
    rw [hsz] at hk
    rw [hht] at hh
    have hdrop' : l.drop i = { x with f0 := (d : Int) } :: (flat ((d : Int) + 1) K ++ (flat d R ++ rest)) := by rw [hdrop, flat]; simp
    have h0 : l[i]? = some { x with f0 := (d : Int) } := by
      have := congrArg (fun m => m[0]?) hdrop'
      simp only [List.getElem?_drop, Nat.add_zero, List.getElem?_cons_zero] at this
      exact this
    have hil : i < l.length := (List.getElem?_eq_some_iff.1 h0).1
    have hd1 : l.drop (i + 1) = flat (((d + 1 : Nat)) : Int) K ++ (flat d R ++ rest) := by
      have := drop_more (l := l) (i := i) (a := [{ x with f0 := (d : Int) }]) hdrop'
      exact this
    have hlenK : (flat (((d + 1 : Nat)) : Int) K).length = K.size := flat_len _ _
    have hd2 : l.drop (i + 1 + K.size) = flat d R ++ rest := by
      have := drop_more hd1
      rw [hlenK] at this
      exact this
    have hi2 : i + 1 + K.size ≤ l.length := by
      have := congrArg List.length hd1
      rw [List.length_drop, List.length_append, hlenK] at this
      omega
    have hrest2 : ∀ y, (flat (d : Int) R ++ rest).head? = some y → y.f0 ≤ d := fun y hy => by
      cases R with
      | nil => exact hrest y hy
      | cons z kz rz => rw [flat, List.cons_append, List.head?_cons] at hy; cases hy; exact Int.le_refl _
    have hls : (less.take d).length = d := by rw [List.length_take]; omega
    obtain ⟨hu0, hu1⟩ := hlow.up hd
    obtain ⟨u, hu⟩ : ∃ u, up less d = u := ⟨_, rfl⟩
    rw [hu] at hu0 hu1 ⊢
    obtain ⟨k, rfl⟩ : ∃ q, k = q + 2 := ⟨k - 2, by omega⟩
    have hstep : clean_Rows.l0 (k + 2) l s out less (i : Int) c.al c.aal c.els c.rep c.ats c.per c.com c.dt = clean_Rows.j1 (k + 1) l s out (less.take d) (i : Int) u c.al c.aal c.els c.rep c.ats c.per c.com c.dt (d : Int) x.f1 x.f2 x.f3 x.f4 := by
      simp only [clean_Rows.l0]
      rw [if_pos (by omega), if_pos (by omega), rdR_at h0]
      simp only [Option.bind_some, Int.toNat_natCast]
      rw [if_pos (by omega), if_pos (by omega)]
      by_cases hz : d = 0
      · subst hz
        have : u = 0 := by rw [← hu]; rfl
        rw [if_neg (by omega), this]
      · have e1 : wrap64 ((d : Int) - 1) = ((d - 1 : Nat) : Int) := by rw [wrap_id (by omega) (by omega)]; omega
        have e2 : rd (less.take d) ((d - 1 : Nat) : Int) = u := by
          unfold rd
          rw [Int.toNat_natCast, ← hu, ← up_take less d]
          unfold up
          rw [if_neg hz]
        rw [if_pos (by omega), e1, if_pos (by omega), if_pos (by rw [hls]; omega), e2]
    have hbec : clean_becomes.f k (d : Int) x.f1 x.f2 x.f3 x.f4 c.al c.aal c.els c.rep c.ats c.per c.com c.dt s = some (whatC c s x) := becomes_f hf s { x with f0 := (d : Int) } (by omega)
    have hkeep : keepF (whatC c s) (updC c s) (.cons x K R) = if whatC c s x = 1 then keepF (whatC c s) (updC c s) R else if whatC c s x = 2 then (keepF (whatC c s) (updC c s) K).app (keepF (whatC c s) (updC c s) R) else .cons (updC c s x) (keepF (whatC c s) (updC c s) K) (keepF (whatC c s) (updC c s) R) := rfl
    rw [hstep, hkeep, hsz]
    simp only [clean_Rows.j1]
    rw [hbec, Option.bind_some]
    have hlenF : ∀ (G : Fo) (e : Int), (flat e (keepF (whatC c s) (updC c s) G)).length ≤ G.size := fun G e => by rw [flat_len]; exact keep_size _ _ G
    by_cases w1 : whatC c s x = 1
    · rw [if_pos w1, if_pos w1]
      have ht := takeWhile_tree (d : Int) K (flat d R ++ rest) hrest2
      have he : rows_End.f k l (i : Int) = some ((i + 1 + K.size : Nat) : Int) := by
        have h := end_f l hl i _ h0 (k := k) (by omega)
        rw [hd1] at h
        rw [← ht]
        exact h
      rw [he, Option.bind_some]
      obtain ⟨k', less', a1, a2, a3, a4, a5, a6⟩ := ihR d out (less.take d) (i + 1 + K.size) rest k hlR haR hd2 hrest (by omega) (hlow.take d) (by omega) (by omega) (by omega) hi2 (by omega)
      refine ⟨k', less', by omega, by rw [a2, List.take_take, Nat.min_self], a3, a4, a5, ?_⟩
      rw [a6, up_take, hu, show i + 1 + K.size + R.size = i + (1 + K.size + R.size) by omega]
    · rw [if_neg w1, if_neg w1]
      by_cases w2 : whatC c s x = 2
      · rw [if_pos w2, if_pos w2, if_pos (by omega), wrap_succ (i := u) (by omega) (by omega), wrap_succ (i := (i : Int)) (by omega) (by omega)]
        obtain ⟨k1, l1, a1, a2, a3, a4, a5, a6⟩ := ihK (d + 1) out (less.take d ++ [u + 1]) (i + 1) (flat d R ++ rest) k hlK haK hd1 (fun y hy => by have := hrest2 y hy; omega) (by rw [List.length_append, hls]; simp) ((hlow.take d).snoc (by omega) (by rw [hls]; omega)) (by rw [List.length_append, hls]; simp; omega) (by omega) (by omega) (by omega) (by omega)
        rw [up_snoc _ d _ hls] at a6
        have hout1 : (out ++ flat (((d + 1 : Nat) : Int) - (u + 1)) (keepF (whatC c s) (updC c s) K)).length ≤ i + 1 + K.size := by
          rw [List.length_append]
          have := hlenF K (((d + 1 : Nat) : Int) - (u + 1))
          omega
        have ht1 : l1.take d = less.take d := by
          have := congrArg (List.take d) a2
          rw [List.take_take, List.take_take, List.take_append_of_le_length (by rw [hls]; omega), List.take_take] at this
          simpa [Nat.min_eq_left (Nat.le_succ d)] using this
        obtain ⟨k2, l2, b1, b2, b3, b4, b5, b6⟩ := ihR d _ l1 (i + 1 + K.size) rest k1 hlR haR hd2 hrest (by omega) a4 a5 (by omega) hout1 hi2 (by omega)
        have hup1 : up l1 d = u := by rw [← up_take, ht1, up_take, hu]
        refine ⟨k2, l2, by omega, by rw [b2, ht1], b3, b4, b5, ?_⟩
        rw [show ((i : Int) + 1) = ((i + 1 : Nat) : Int) from rfl, a6, b6, hup1, flat_app, List.append_assoc, show ((d + 1 : Nat) : Int) - (u + 1) = (d : Int) - u by omega, show i + 1 + K.size + R.size = i + (1 + K.size + R.size) by omega]
      · rw [if_neg w2, if_neg w2, attrs_f hf s _ _ _ _ _ hfx.few hfx.small (by omega), Option.bind_some, if_pos (by omega), if_pos (by omega), wrap_id (i := (d : Int) - u) (by omega) (by omega), wrap_succ (i := (i : Int)) (by omega) (by omega)]
        obtain ⟨k1, l1, a1, a2, a3, a4, a5, a6⟩ := ihK (d + 1) (out ++ [⟨(d : Int) - u, x.f1, x.f2, x.f3, keepA c s x.f2 x.f4⟩]) (less.take d ++ [u]) (i + 1) (flat d R ++ rest) k hlK haK hd1 (fun y hy => by have := hrest2 y hy; omega) (by rw [List.length_append, hls]; simp) ((hlow.take d).snoc (by omega) (by rw [hls]; omega)) (by rw [List.length_append, hls]; simp; omega) (by omega) (by rw [List.length_append]; simp; omega) (by omega) (by omega)
        rw [up_snoc _ d _ hls] at a6
        have hout1 : (out ++ [(⟨(d : Int) - u, x.f1, x.f2, x.f3, keepA c s x.f2 x.f4⟩ : Rw)] ++ flat (((d + 1 : Nat) : Int) - u) (keepF (whatC c s) (updC c s) K)).length ≤ i + 1 + K.size := by
          rw [List.length_append, List.length_append]
          have := hlenF K (((d + 1 : Nat) : Int) - u)
          simp only [List.length_singleton]
          omega
        have ht1 : l1.take d = less.take d := by
          have := congrArg (List.take d) a2
          rw [List.take_take, List.take_take, List.take_append_of_le_length (by rw [hls]; omega), List.take_take] at this
          simpa [Nat.min_eq_left (Nat.le_succ d)] using this
        obtain ⟨k2, l2, b1, b2, b3, b4, b5, b6⟩ := ihR d _ l1 (i + 1 + K.size) rest k1 hlR haR hd2 hrest (by omega) a4 a5 (by omega) hout1 hi2 (by omega)
        have hup1 : up l1 d = u := by rw [← up_take, ht1, up_take, hu]
        refine ⟨k2, l2, by omega, by rw [b2, ht1], b3, b4, b5, ?_⟩
        rw [show ((i : Int) + 1) = ((i + 1 : Nat) : Int) from rfl, a6, b6, hup1, updC_any hfx.ok, flat, show i + 1 + K.size + R.size = i + (1 + K.size + R.size) by omega]
        congr 1
        simp only [List.append_assoc, List.cons_append, List.nil_append]
        rw [show ((d + 1 : Nat) : Int) - u = (d : Int) - u + 1 by omega]
end Go.Proofs.YticacakoefojbaaGreat.Pure
namespace Go.Proofs.YticacakoefojbaaGreat.Pure
set_option linter.unusedVariables false
set_option linter.unusedSimpArgs false
open Go.RowKit Go.Proofs.YticacakoefojbaaGreat.Pr Go.Proofs.YticacakoefojbaaGreat.Fo Go.Proofs.YticacakoefojbaaGreatW.PrintWords Go.Proofs.YticacakoefojbaaGreatW.PrintLast Go.Proofs.YticacakoefojbaaGreatW.PrintMore

structure Tidy (l : List Rw) : Prop where
  len : l.length ≤ 200
  few : ∀ x ∈ l, x.f4.length ≤ 50
  small : ∀ x ∈ l, VS x.f4
  txt : tsz l ≤ 4000000000000000000
structure Good (F : Fo) : Prop where
  leaf : F.Leaf
  fine : F.All Fine
  low : F.height ≤ 60
  few : F.size ≤ 200
  txt : tsz (flat 0 F) ≤ 4000000000000000000
theorem fine_dep (x : Rw) (d : Int) (h : Fine x) : Fine { x with f0 := d } := ⟨h.ok, h.few, h.small⟩
theorem fine_dep' (x : Rw) (d : Int) (h : Fine { x with f0 := d }) : Fine x := ⟨h.ok, h.few, h.small⟩
theorem Good.tidy {F : Fo} (h : Good F) : Tidy (flat 0 F) :=
  ⟨by rw [flat_len]; exact h.few, fun x hx => (flat_all fine_dep F 0 h.fine x hx).few, fun x hx => (flat_all fine_dep F 0 h.fine x hx).small, h.txt⟩
theorem Good.check {F : Fo} (h : Good F) : checkR (flat 0 F) = 0 := by
  have h1 : (flat 0 F).any deepB = false := by
    rw [List.any_eq_false]
    intro x hx
    have := flat_lt F 0 x hx
    have := h.low
    unfold deepB
    rw [decide_eq_true_eq]
    omega
  have h2 : rightB 0 (flat 0 F) = true := (right_iff _ _).2 (right_flat (fun x d g => g) F 0 (Int.le_refl _) h.leaf (all_imp (fun x g => g.ok) h.fine))
  unfold checkR
  rw [h1, h2]
  rfl
theorem check_forest {l : List Rw} (h : Tidy l) (hc : checkR l = 0) : ∃ F, l = flat 0 F ∧ Good F := by
  unfold checkR at hc
  split at hc
  · cases hc
  · rename_i hd
    split at hc
    · rename_i hr
      obtain ⟨F, e, hl, ha⟩ := parse ((right_iff _ _).1 hr)
      have hfine : F.All Fine := all_flat fine_dep' F 0 (fun x hx => by
        rw [← e] at hx
        have hok : rowB x = true := flat_all (P := fun x => rowB x = true) (fun x d g => g) F 0 ha x (by rw [← e]; exact hx)
        exact ⟨hok, h.few x hx, h.small x hx⟩)
      refine ⟨F, e, hl, hfine, ?_, ?_, by rw [← e]; exact h.txt⟩
      · refine height_of F 0 60 (fun x hx => ?_)
        rw [← e] at hx
        have : deepB x = false := by
          have := List.any_eq_false.1 (by simpa using hd) x hx
          simpa using this
        unfold deepB at this
        have := of_decide_eq_false this
        omega
      · have := h.len
        rw [e, flat_len] at this
        exact this
    · cases hc
theorem uniq_filter (p : Atr → Bool) : ∀ (l seen seen' : List Atr), (∀ b ∈ seen', b ∈ seen) → uniq seen l = true → uniq seen' (l.filter p) = true
  | [], _, _, _, _ => rfl
  | a :: t, seen, seen', hs, h => by
    have h' : (seen.all (fun b => !decide (a.f0 = b.f0)) && uniq (seen ++ [a]) t) = true := h
    rw [Bool.and_eq_true] at h'
    rw [List.filter_cons]
    split
    · show (seen'.all (fun b => !decide (a.f0 = b.f0)) && uniq (seen' ++ [a]) (t.filter p)) = true
      rw [Bool.and_eq_true]
      refine ⟨?_, uniq_filter p t _ _ (fun b hb => ?_) h'.2⟩
      · rw [List.all_eq_true] at h' ⊢
        exact fun b hb => h'.1 b (hs b hb)
      · rcases List.mem_append.1 hb with g | g
        · exact List.mem_append_left _ (hs b g)
        · exact List.mem_append_right _ g
    · exact uniq_filter p t _ _ (fun b hb => List.mem_append_left _ (hs b hb)) h'.2
theorem updC_f1 (c : Cf) (s : Bool) (x : Rw) : (updC c s x).f1 = x.f1 := by unfold updC; split <;> rfl
theorem updC_f3 (c : Cf) (s : Bool) (x : Rw) : (updC c s x).f3 = x.f3 := by unfold updC; split <;> rfl
theorem keepA_len (c : Cf) (s : Bool) (n : ByteArray) (l : List Atr) : (keepA c s n l).length ≤ l.length := List.length_filter_le _ _
theorem updC_fine {c : Cf} {s : Bool} {x : Rw} (h : Fine x) : Fine (updC c s x) := by
  unfold updC
  split
  · rename_i h0
    have hne : ¬ (x.f1 = 1 ∨ x.f1 = 2) := by omega
    refine ⟨?_, Nat.le_trans (keepA_len c s x.f2 x.f4) h.few, fun a ha => h.small a (List.mem_filter.1 ha).1⟩
    have hok := h.ok
    rw [rowB_el hne] at hok
    rw [rowB_el (x := { x with f4 := keepA c s x.f2 x.f4 }) hne]
    simp only [Bool.and_eq_true] at hok ⊢
    exact ⟨hok.1, uniq_filter _ _ _ _ (fun b hb => hb) hok.2⟩
  · exact h
theorem tsz_keep (c : Cf) (s : Bool) : ∀ (F : Fo) (d e : Int), tsz (flat d (keepF (whatC c s) (updC c s) F)) ≤ tsz (flat e F)
  | .nil, d, e => Nat.le_refl _
  | .cons x k r, d, e => by
    rw [keepF, flat, tsz, tsz_app]
    split
    · have := tsz_keep c s r d e; omega
    · split
      · rw [flat_app, tsz_app]
        have h1 := tsz_keep c s k d (e + 1)
        have h2 := tsz_keep c s r d e
        omega
      · rw [flat, tsz, tsz_app]
        have h1 := tsz_keep c s k (d + 1) (e + 1)
        have h2 := tsz_keep c s r d e
        have h3 : (updC c s x).f3.size = x.f3.size := by rw [updC_f3]
        show (updC c s x).f3.size + _ ≤ x.f3.size + _
        omega
theorem Good.keep {F : Fo} (h : Good F) (c : Cf) (s : Bool) : Good (keepF (whatC c s) (updC c s) F) :=
  ⟨keep_leaf (updC_f1 c s) h.leaf, keep_all (fun x g _ _ => updC_fine g) h.fine, Nat.le_trans (keep_height _ _ F) h.low, Nat.le_trans (keep_size _ _ F) h.few, Nat.le_trans (tsz_keep c s F 0 0) h.txt⟩
theorem tsz_fold : ∀ (l out : List Rw), tsz (l.foldl nstep out) ≤ tsz out + tsz l
  | [], out => by simp [tsz]
  | x :: t, out => by
    have h1 := tsz_fold t (nstep out x)
    have h2 := nstep_tsz out x
    rw [List.foldl_cons, tsz]
    omega
theorem tsz_norm (l : List Rw) : tsz (normL l) ≤ tsz l := by
  have := tsz_fold l []
  rw [fold_norm'] at this
  simpa [tsz] using this
theorem Good.norm {F : Fo} (h : Good F) : Good (normF F) := by
  refine ⟨norm_leaf F h.leaf, norm_all (fun x b g h1 => ?_) h.fine, Nat.le_trans (norm_height F) h.low, Nat.le_trans (norm_size F) h.few, ?_⟩
  · refine ⟨?_, g.few, g.small⟩
    have hok := g.ok
    rw [rowB_text (.inl h1)] at hok
    rw [rowB_text (x := { x with f3 := b }) (.inl h1)]
    exact hok
  · rw [← normL_flat F 0 h.leaf]
    exact Nat.le_trans (tsz_norm _) h.txt
theorem Good.app {A B : Fo} (h : Good A) (g : Good B) (hs : A.size + B.size ≤ 200) (ht : tsz (flat 0 A) + tsz (flat 0 B) ≤ 4000000000000000000) : Good (A.app B) :=
  ⟨leaf_app h.leaf g.leaf, all_app h.fine g.fine, by rw [height_app]; have := h.low; have := g.low; omega, by rw [size_app]; exact hs, by rw [flat_app, tsz_app]; exact ht⟩
theorem okx_flat {F : Fo} (h : F.All Fine) (hs : F.height ≤ 200) : ∀ x ∈ flat 0 F, Okx x := fun x hx => by
  have h1 := flat_ge F 0 x hx
  have h2 := flat_lt F 0 x hx
  exact ⟨wrap_id (by omega) (by omega), (flat_all fine_dep F 0 h x hx).few⟩
theorem check_kk {c : Cf} (hf : Fit c) (ht : Text c) : config_Check.f c.al c.aal c.els c.rep c.ats c.per c.com c.dt = some (checkI c) := if_pos ⟨of_fit hf, of_text ht⟩
abbrev cleaned (c : Cf) (s : Bool) (F : Fo) : Fo := normF (keepF (whatC c s) (updC c s) F)
theorem Good.cleaned {F : Fo} (h : Good F) (c : Cf) (s : Bool) : Good (cleaned c s F) := (h.keep c s).norm
theorem rows_good {c : Cf} (hf : Fit c) (ht : Text c) (hc : checkI c = 0) (s : Bool) {F : Fo} (h : Good F) {k : Nat} (hk : 8000 < k) :
    clean_Rows.f k (flat 0 F) c.al c.aal c.els c.rep c.ats c.per c.com c.dt s = some (flat 0 (cleaned c s F), 0) := by
  have htd := h.tidy
  have hlow := h.low
  have hfew := h.few
  unfold clean_Rows.f
  rw [check_kk hf ht, Option.bind_some, if_pos hc, rows_check_f _ htd.len htd.few (by omega), Option.bind_some, if_pos h.check]
  obtain ⟨k', less', a1, _, _, _, _, a6⟩ := walk hf s (flat 0 F) htd.len F 0 [] [] 0 [] k h.leaf h.fine (by simp) (fun y hy => by cases hy) (Nat.zero_le _) (fun j u hj => by cases hj) (by simp) (by omega) (by simp) (Nat.zero_le _) (by omega)
  rw [show ((0 : Nat) : Int) = 0 from rfl] at a6
  rw [a6, show (0 : Int) - up [] 0 = 0 from rfl, List.nil_append]
  obtain ⟨k', rfl⟩ : ∃ q, k' = q + 1 := ⟨k' - 1, by omega⟩
  have hg := h.keep c s
  have hgt := hg.tidy
  simp only [clean_Rows.l0]
  rw [if_neg (by rw [flat_len]; omega), normal_f _ hgt.len (okx_flat hg.fine (by have := hg.low; omega)) hgt.txt (by omega), Option.bind_some, normL_flat _ _ hg.leaf]
def whyR (c : Cf) (l : List Rw) : Int := if checkI c = 0 then checkR l else checkI c
theorem rows_why {c : Cf} (hf : Fit c) (ht : Text c) (s : Bool) {l : List Rw} (h : Tidy l) (hw : whyR c l ≠ 0) {k : Nat} (hk : 8000 < k) :
    clean_Rows.f k l c.al c.aal c.els c.rep c.ats c.per c.com c.dt s = some ([], whyR c l) := by
  unfold whyR at hw ⊢
  unfold clean_Rows.f
  rw [check_kk hf ht, Option.bind_some]
  by_cases hc : checkI c = 0
  · rw [if_pos hc] at hw ⊢
    rw [if_pos hc, rows_check_f _ h.len h.few (by omega), Option.bind_some, if_neg hw]
  · rw [if_neg hc, if_neg hc]
theorem why_zero {c : Cf} {l : List Rw} (h : whyR c l = 0) : checkI c = 0 ∧ checkR l = 0 := by
  unfold whyR at h
  by_cases hc : checkI c = 0
  · rw [if_pos hc] at h; exact ⟨hc, h⟩
  · rw [if_neg hc] at h; exact absurd h hc

theorem text_l0 (l : List Rw) (hl : l.length ≤ 200) : ∀ (d i : Nat) (acc : List UInt8), i + d = l.length → acc.length + tsz (l.drop i) ≤ 4000000000000000000 → ∀ k, 2 * d + 1 < k →
    boltingref04_Text.l0 k l (-1) (mkS acc) (l.length : Int) (i : Int) = some (mkS (acc ++ textL (l.drop i)))
  | 0, i, acc, h, ht, k, hk => by
    obtain ⟨k, rfl⟩ : ∃ q, k = q + 2 := ⟨k - 2, by omega⟩
    simp only [boltingref04_Text.l0]
    rw [if_neg (by omega), List.drop_of_length_le (by omega)]
    simp only [boltingref04_Text.j2]
    rw [if_neg (by simp), textL, List.append_nil]
  | d + 1, i, acc, h, ht, k, hk => by
    obtain ⟨k, rfl⟩ : ∃ q, k = q + 2 := ⟨k - 2, by omega⟩
    obtain ⟨x, h0⟩ := get_some (l := l) (show i < l.length by omega)
    rw [drop_at h0, tsz] at ht
    have hxs : x.f3.data.toList.length = x.f3.size := (Lib.size_eq _).symm
    simp only [boltingref04_Text.l0]
    rw [if_pos (by omega)]
    simp only [boltingref04_Text.j2]
    rw [if_pos (by decide), if_pos (by omega), if_pos (by omega), rdR_at h0, wrap_succ (by omega) (by omega), drop_at h0, textL, tx]
    by_cases h1 : x.f1 = 1
    · rw [if_pos h1, if_pos h1, if_pos (by rw [mkS_size]; omega)]
      have ih := text_l0 l hl d (i + 1) (acc ++ x.f3.data.toList) (by omega) (by rw [List.length_append]; omega) k (by omega)
      rw [← mkS_app, mkS_data, List.append_assoc] at ih
      exact ih
    · rw [if_neg h1, if_neg h1, List.nil_append]
      exact text_l0 l hl d (i + 1) acc (by omega) (by omega) k (by omega)
theorem text_f (l : List Rw) (hl : l.length ≤ 200) (ht : tsz l ≤ 4000000000000000000) {k : Nat} (hk : 600 < k) : boltingref04_Text.f k l (-1) = some (mkS (textL l)) := by
  obtain ⟨k, rfl⟩ : ∃ q, k = q + 1 := ⟨k - 1, by omega⟩
  unfold boltingref04_Text.f
  rw [if_neg (by decide)]
  simp only [boltingref04_Text.j0]
  have := text_l0 l hl l.length 0 [] (by omega) (by simpa using ht) k (by omega)
  exact this

def safeX (x : Rw) : Bool := !decide (x.f1 = 0) || (!neverB x.f2 && x.f4.all fun a => !riskB x.f2 a.f0 a.f1)
def bndR (l : List Rw) : List Rw := (l.take 40).map fun x => { x with f4 := x.f4.take 8 }
theorem mn8 (n : Nat) : 0 ≤ mn (n : Int) 8 ∧ mn (n : Int) 8 ≤ (n : Int) ∧ (mn (n : Int) 8).toNat = min n 8 := by
  unfold mn; split <;> omega
theorem take_mn8 {α : Type} (l : List α) : l.take (mn (l.length : Int) 8).toNat = l.take 8 := by
  rw [(mn8 _).2.2]
  rcases Nat.le_total l.length 8 with h | h
  · rw [Nat.min_eq_left h, List.take_length, List.take_of_length_le h]
  · rw [Nat.min_eq_right h]
theorem bndr_l0 (l : List Rw) : ∀ (d i : Nat) (acc : List Rw), i + d = min l.length 40 → acc.length = i → ∀ k, d < k →
    boltinglaw13_bound.l0 k l acc (i : Int) = some (acc ++ ((l.drop i).take d).map fun x => { x with f4 := x.f4.take 8 })
  | 0, i, acc, h, ha, k, hk => by
    obtain ⟨k, rfl⟩ : ∃ q, k = q + 1 := ⟨k - 1, by omega⟩
    simp only [boltinglaw13_bound.l0]
    rw [List.take_zero, List.map_nil, List.append_nil]
    by_cases h1 : (i : Int) < (l.length : Int)
    · rw [if_pos h1, if_neg (by omega)]
    · rw [if_neg h1]
  | d + 1, i, acc, h, ha, k, hk => by
    obtain ⟨k, rfl⟩ : ∃ q, k = q + 1 := ⟨k - 1, by omega⟩
    obtain ⟨x, h0⟩ := get_some (l := l) (show i < l.length by omega)
    simp only [boltinglaw13_bound.l0]
    rw [if_pos (by omega), if_pos (by omega), if_pos (by omega), rdR_at h0, if_pos (mn8 _).1, if_pos (mn8 _).2.1, if_pos (by omega), take_mn8, wrap_succ (by omega) (by omega), drop_at h0, List.take_succ_cons, List.map_cons]
    have := bndr_l0 l d (i + 1) (acc ++ [{ x with f4 := x.f4.take 8 }]) (by omega) (by simp [ha]) k (by omega)
    rw [List.append_assoc] at this
    exact this
theorem bndr_f (l : List Rw) {k : Nat} (hk : 50 < k) : boltinglaw13_bound.f k l = some (bndR l) := by
  have := bndr_l0 l (min l.length 40) 0 [] (by omega) rfl k (by omega)
  unfold boltinglaw13_bound.f bndR
  rw [show ((0 : Nat) : Int) = 0 from rfl] at this
  rw [this, List.nil_append, List.drop_zero]
  congr 2
  rcases Nat.le_total l.length 40 with h | h
  · rw [Nat.min_eq_left h, List.take_length, List.take_of_length_le h]
  · rw [Nat.min_eq_right h]
def SizedR (l : List Rw) : Prop := ∀ x ∈ l, x.f3.size ≤ 140737488351232 ∧ VS x.f4
theorem tsz_le {M : Nat} : ∀ l : List Rw, (∀ x ∈ l, x.f3.size ≤ M) → tsz l ≤ l.length * M
  | [], _ => Nat.zero_le _
  | x :: t, h => by
    have h1 := tsz_le t (fun y hy => h y (List.mem_cons_of_mem _ hy))
    have h2 := h x (List.mem_cons_self ..)
    rw [tsz, List.length_cons, Nat.succ_mul]
    omega
theorem bndr_len (l : List Rw) : (bndR l).length ≤ 40 := by unfold bndR; rw [List.length_map]; exact List.length_take_le _ _
theorem bndr_mem {l : List Rw} {x : Rw} (h : x ∈ bndR l) : ∃ y ∈ l, x = { y with f4 := y.f4.take 8 } := by
  obtain ⟨y, hy, e⟩ := List.mem_map.1 h
  exact ⟨y, List.mem_of_mem_take hy, e.symm⟩
theorem bndr_tsz {l : List Rw} (h : SizedR l) : tsz (bndR l) ≤ 5629499534049280 := by
  have h1 := tsz_le (M := 140737488351232) (bndR l) (fun x hx => by
    obtain ⟨y, hy, rfl⟩ := bndr_mem hx
    exact (h y hy).1)
  have h2 := bndr_len l
  have h3 : (bndR l).length * 140737488351232 ≤ 40 * 140737488351232 := Nat.mul_le_mul_right _ h2
  omega
theorem bndr_tidy {l : List Rw} (h : SizedR l) : Tidy (bndR l) := by
  refine ⟨Nat.le_trans (bndr_len l) (by omega), fun x hx => ?_, fun x hx => ?_, Nat.le_trans (bndr_tsz h) (by omega)⟩
  · obtain ⟨y, hy, rfl⟩ := bndr_mem hx
    exact Nat.le_trans (List.length_take_le _ _) (by omega)
  · obtain ⟨y, hy, rfl⟩ := bndr_mem hx
    exact fun a ha => (h y hy).2 a (List.mem_of_mem_take ha)
end Go.Proofs.YticacakoefojbaaGreat.Pure
namespace Go.Proofs.YticacakoefojbaaGreat.Pr
open Go.RowKit Go.Proofs.YticacakoefojbaaGreatW.PrintWords Go.Proofs.YticacakoefojbaaGreatW.PrintLast Go.Proofs.YticacakoefojbaaGreatW.PrintMore
attribute [local go_sem] max2_int min2_int max_two min_two max_three min_three max_four min_four   -- for this text's walks alone
set_option linter.unusedVariables false
set_option linter.unusedSimpArgs false

attribute [local go_sem high] eqA45
mutual
def boltinglaw13_among.l0 : Nat → List (S45) → List (S45) → Int → Int → Option (Bool)
 | 0, _, _, _, _ => none
 | k + 1, x0, x1, x5, x6 => if x6 < (x1.length : Int) then (boltinglaw13_among.j1 k x0 x1 x5 x6 (decide (x5 < (x0.length : Int)))) else (boltinglaw13_among.j1 k x0 x1 x5 x6 false)
def boltinglaw13_among.j1 : Nat → List (S45) → List (S45) → Int → Int → Bool → Option (Bool)
 | 0, _, _, _, _, _ => none
 | k + 1, x0, x1, x5, x6, x16 => if x16 = true then (if 0 ≤ x5 then (if x5 < (x0.length : Int) then (if 0 ≤ x6 then (if x6 < (x1.length : Int) then (if ((((rd_T45 x0 x5).f0).toList) == (((rd_T45 x1 x6).f0).toList) && ((((rd_T45 x0 x5).f1).toList) == (((rd_T45 x1 x6).f1).toList))) = true then (boltinglaw13_among.l0 k x0 x1 (wrap64 (x5 + 1)) (wrap64 (x6 + 1))) else (boltinglaw13_among.l0 k x0 x1 x5 (wrap64 (x6 + 1)))) else (none)) else (none)) else (none)) else (none)) else (some (x5 == (x0.length : Int)))
end
def boltinglaw13_among.f (k : Nat) (l0 : List (S45)) (l1 : List (S45)) : Option (Bool) := boltinglaw13_among.l0 k l0 l1 0 0
end Go.Proofs.YticacakoefojbaaGreat.Pr
namespace Go.Proofs.YticacakoefojbaaGreat.Pure
set_option linter.unusedVariables false
set_option linter.unusedSimpArgs false
open Go.RowKit Go.Proofs.YticacakoefojbaaGreat.Pr Go.Proofs.YticacakoefojbaaGreat.Fo Go.Proofs.YticacakoefojbaaGreatW.PrintWords Go.Proofs.YticacakoefojbaaGreatW.PrintLast Go.Proofs.YticacakoefojbaaGreatW.PrintMore

def RowIn (x : Rw) : Prop := (Lit.int .i64 x.f0).wf = true ∧ (Lit.int .i64 x.f1).wf = true ∧ x.f2.size ≤ 140737488351232 ∧ x.f3.size ≤ 140737488351232 ∧ ∀ y ∈ x.f4, y.f0.size ≤ 140737488351232 ∧ y.f1.size ≤ 140737488351232
theorem sized_of {l : List Rw} (h : ∀ x ∈ l, RowIn x) : SizedR l := fun x hx => ⟨(h x hx).2.2.2.1, fun a ha => ((h x hx).2.2.2.2 a ha).2⟩
theorem bound_text {c : Cf} (h : Sized c) : Text (bound c) := by
  have hs : ∀ {l : List ByteArray}, (∀ x ∈ l, Short x) → ∀ x ∈ l.take 70, x.size ≤ 4000000000000000000 := fun hl x hx => by
    have : x.size ≤ 140737488351232 := hl x (List.mem_of_mem_take hx)
    omega
  refine ⟨fun l hl x hx => ?_, fun l hl x hx => ?_⟩
  · unfold rowsE at hl
    simp only [List.mem_cons, List.not_mem_nil, or_false] at hl
    rcases hl with rfl | rfl | rfl
    · exact hs h.els x hx
    · exact hs h.rep x hx
    · unfold namesOf at hx
      obtain ⟨p, hp, rfl⟩ := List.mem_map.1 hx
      obtain ⟨q, hq, rfl⟩ := List.mem_map.1 (show p ∈ (c.per.take 12).map cutP from hp)
      have : q.f0.size ≤ 140737488351232 := (h.per q (List.mem_of_mem_take hq)).1
      show q.f0.size ≤ _
      omega
  · unfold rowsA at hl
    rcases List.mem_cons.1 hl with rfl | hl
    · exact hs h.ats x hx
    · obtain ⟨p, hp, rfl⟩ := List.mem_map.1 hl
      obtain ⟨q, hq, rfl⟩ := List.mem_map.1 (show p ∈ (c.per.take 12).map cutP from hp)
      exact hs (h.per q (List.mem_of_mem_take hq)).2 x hx
theorem tx_upd (c : Cf) (s : Bool) (x : Rw) : tx (updC c s x) = tx x := by unfold tx; rw [updC_f1, updC_f3]
end Go.Proofs.YticacakoefojbaaGreat.Pure
namespace Go.Proofs.YticacakoefojbaaGreat
set_option linter.unusedVariables false
set_option linter.unusedSimpArgs false
open Go.RowKit Go.Proofs.YticacakoefojbaaGreat.Pr Go.Proofs.YticacakoefojbaaGreat.Pure Go.Proofs.YticacakoefojbaaGreat.Fo Go.Proofs.YticacakoefojbaaGreatW.PrintWords Go.Proofs.YticacakoefojbaaGreatW.PrintLast
def goneX (c : Cf) (x : Rw) : Bool := decide (x.f1 = 0) && (elemI c x.f2 == 1)
theorem texts_l0 {c : Cf} (hf : Fit c) (l t : List Rw) (hl : l.length ≤ 200) (a b : List UInt8) (ht : ∀ k, 1000 < k → boltingref04_Text.f k t (-1) = some (mkS b)) (hle : b.length ≤ a.length) : ∀ (d i : Nat) (g : Bool), i + d = l.length → ((g || (l.drop i).any (goneX c)) = false → b = a) → ∀ k, d + 3000 < k →
    boltinglaw13_CleanTexts.l0 k l t (mkS a) g (i : Int) c.al c.aal c.els c.rep c.ats c.per c.com c.dt = some true
  | 0, i, g, h, hg, k, hk => by
    obtain ⟨k, rfl⟩ : ∃ q, k = q + 1 := ⟨k - 1, by omega⟩
    rw [List.drop_of_length_le (show l.length ≤ i by omega), List.any_nil, Bool.or_false] at hg
    simp only [boltinglaw13_CleanTexts.l0]
    rw [if_neg (by omega), ht k (by omega)]
    simp only [Option.bind_some]
    rw [if_pos (by rw [mkS_size, mkS_size]; omega)]
    cases g with
    | true => rfl
    | false => rw [if_neg (by simp), hg rfl, if_pos rfl]; rfl
  | d + 1, i, g, h, hg, k, hk => by
    obtain ⟨k, rfl⟩ : ∃ q, k = q + 1 := ⟨k - 1, by omega⟩
    obtain ⟨x, h0⟩ := get_some (l := l) (show i < l.length by omega)
    rw [drop_at h0, List.any_cons] at hg
    simp only [boltinglaw13_CleanTexts.l0]
    rw [if_pos (by omega), wrap_succ (by omega) (by omega)]
    cases g with
    | true =>
      rw [if_pos rfl]
      exact texts_l0 hf l t hl a b ht hle d (i + 1) true (by omega) (fun e => by simp at e) k (by omega)
    | false =>
      rw [if_neg (by simp), if_pos (by omega), rdR_at h0]
      by_cases h1 : x.f1 = 0
      · rw [if_pos h1, elem_kk hf _ (by omega), Option.bind_some]
        exact texts_l0 hf l t hl a b ht hle d (i + 1) _ (by omega) (fun e => hg (by
          unfold goneX
          rw [decide_eq_true h1, Bool.true_and]
          exact e)) k (by omega)
      · rw [if_neg h1]
        exact texts_l0 hf l t hl a b ht hle d (i + 1) false (by omega) (fun e => hg (by
          unfold goneX
          rw [decide_eq_false h1, Bool.false_and]
          exact e)) k (by omega)
theorem Pure.CleanTexts (l0 : List Rw) (c : Cf) (hS : ∀ x ∈ l0, RowIn x) (hl : l0.length ≤ 9223372036854775807) (hz : Sized c) :
    ∃ k, boltinglaw13_CleanTexts.f k l0 c.al c.aal c.els c.rep c.ats c.per c.com c.dt = some true := by
  obtain ⟨k, hk⟩ : ∃ k, 20000 ≤ k := ⟨_, Nat.le_refl _⟩
  refine ⟨k, ?_⟩
  have hT := bndr_tidy (sized_of hS)
  unfold boltinglaw13_CleanTexts.f
  rw [bndr_f l0 (by omega), Option.bind_some, bound_f c (by omega), Option.bind_some]
  have hf := bound_fit c
  have ht := bound_text hz
  obtain ⟨l, hL⟩ : ∃ l, bndR l0 = l := ⟨_, rfl⟩
  rw [hL] at hT ⊢
  by_cases hw : whyR (bound c) l = 0
  · obtain ⟨hc, hr⟩ := why_zero hw
    obtain ⟨F, rfl, hG⟩ := check_forest hT hr
    rw [show clean_Rows.f k (flat 0 F) c.al c.aal (bound c).els (bound c).rep (bound c).ats (bound c).per c.com c.dt false = some (flat 0 (cleaned (bound c) false F), 0) from rows_good hf ht hc false hG (by omega)]
    simp only [Option.bind_some]
    have hgt := (hG.cleaned (bound c) false).tidy
    rw [if_pos trivial, text_f _ hT.len hT.txt (by omega), Option.bind_some, text_flat]
    have hb : ∀ m, 1000 < m → boltingref04_Text.f m (flat 0 (cleaned (bound c) false F)) (-1) = some (mkS (textF (keepF (whatC (bound c) false) (updC (bound c) false) F))) := fun m hm => by
      rw [text_f _ hgt.len hgt.txt (by omega), text_flat, text_norm (hG.keep (bound c) false).leaf]
    refine texts_l0 (c := bound c) hf (flat 0 F) _ hT.len _ _ hb (text_keep_le (tx_upd (bound c) false) F) (flat 0 F).length 0 false (by omega) (fun e => ?_) k (by have := hT.len; omega)
    rw [Bool.false_or, List.drop_zero, List.any_eq_false] at e
    refine text_keep (tx_upd (bound c) false) hG.leaf ?_
    have hall : F.All fun x => Fine x ∧ ¬ goneX (bound c) x = true :=
      all_flat (P := fun x => Fine x ∧ ¬ goneX (bound c) x = true) (fun x d g => ⟨⟨g.1.ok, g.1.few, g.1.small⟩, g.2⟩) F 0 (fun x hx => ⟨flat_all fine_dep F 0 hG.fine x hx, e x hx⟩)
    refine all_imp (fun x g => ⟨fun w => ?_, fun w => ?_⟩) hall
    · unfold whatC at w
      by_cases h1 : x.f1 = 1
      · rw [if_pos h1] at w; cases w
      · refine ⟨fun h0 => ?_, h1⟩
        rw [if_neg h1, if_neg (by rw [h0]; decide), if_neg (by simp)] at w
        refine g.2 ?_
        unfold goneX
        rw [decide_eq_true h0, w]; rfl
    · intro h1
      unfold whatC at w
      rw [if_pos h1] at w; cases w
  · rw [show clean_Rows.f k l c.al c.aal (bound c).els (bound c).rep (bound c).ats (bound c).per c.com c.dt false = some ([], whyR (bound c) l) from rows_why hf ht false hT hw (by omega)]
    simp only [Option.bind_some]
    rw [if_neg hw]
    rfl
end Go.Proofs.YticacakoefojbaaGreat
namespace Go.Proofs.YticacakoefojbaaGreat.cleanTexts
open Go.ChangeShapes Go.WideShapes Go.ChangeAt Go.RowKit
open Go.ChangeMaps (open_string shut_string)
set_option linter.unusedVariables false
set_option linter.unusedSimpArgs false
theorem own : ownKnob Tryz.prog.godebug = none := by kernel_rfl
theorem laidOut : laidOutB Tryz.prog = true := by kernel_rfl
set_option maxRecDepth 100000 in
theorem lifted (os : Os) (started : os.Started) (H : Type) (enc : TypeId × Value → H) :
    ReturnsInHanded {} Tryz.checked os 6 .any (Rows.cleanTextsSpec.pre6 enc Tryz.prog Tryz.f6 Rows.cleanTextsRow.domain false) (Rows.cleanTextsSpec.post enc Tryz.prog Tryz.f6 false true false false) := by
  refine returnsInHanded_of_change_sized (C := Tryz.checked) own started (by kernel_rfl) Tryz.func6
    (ChangeSpec.witness6 (enc := enc) (C := Tryz.checked) false ⟨#[], #[.slice none 0 0, .agg #[.bool false, .bool false, .slice none 0 0, .slice none 0 0, .slice none 0 0, .slice none 0 0, .bool false, .bool false]], []⟩ 8 (by kernel_rfl) (by kernel_rfl) (by kernel_rfl) (by kernel_rfl)) ?_
  intro W base args ds gs before hval0 hW hcnd hsz0 _
  have hsz : (DataW.weightsEach Tryz.prog (Tryz.f6.params.toList ++ Rows.cleanTextsSpec.plain.varTypes Tryz.prog) (ds ++ gs)).all (· ≤ reachBytes) = true := hsz0
  have hval : ∀ (j : Nat) t v, Tryz.f6.params[j]? = some t → args[j]? = some v → Value.okWide Tryz.prog W .any base t v := hval0
  have hW' := hW
  obtain ⟨p, q, hA0, hV, rfl, hfz, hnd⟩ := hW
  have hA : DataW.TrodAll enc Tryz.prog W 0 (fun _ => true) true Tryz.f6.params.toList args.toList ds p := hA0
  rw [Tryz.params6] at hA hval hsz
  obtain ⟨v0, vs0, d0, ds0, p0, q0, hargs, rfl, rfl, h0, r0⟩ := trodAll_cons hA
  obtain ⟨v1, vs1, d1, ds1, p1, q1, rfl, rfl, rfl, h1, r1⟩ := trodAll_cons r0
  obtain ⟨rfl, rfl, rfl⟩ := trodAll_nil r1
  obtain rfl : args = #[v0, v1] := by cases args; simp_all
  obtain ⟨rfl, rfl⟩ := trodVars_none hV
  have k1 := h1
  have lt1 : ∀ x ∈ p1, x.block < W.heap.size := by obtain ⟨m, hm⟩ := k1; exact DataW.trod_lt m _ _ _ hm
  have k0 := h0
  have lt0 : ∀ x ∈ p0, x.block < W.heap.size := by obtain ⟨m, hm⟩ := k0; exact DataW.trod_lt m _ _ _ hm
  obtain ⟨sa0, sn0, sc0, rfl⟩ := okWide_slice Tryz.underlying22 (hval 0 22 v0 rfl rfl)
  obtain ⟨fu0, hf0⟩ := h0
  obtain ⟨A0, c0, l0, hv0, hc0, hm0, hr0, hS0⟩ := opensS_row Tryz.underlying22 (opensS_struct (fun x : Pr.S38 => (x.f0, x.f1, x.f2, x.f3, x.f4)) Tryz.underlying38 rfl (by kernel_rfl) (opensTail_cons rfl (opensS_int (by kernel_rfl) Tryz.underlying3) (opensTail_cons rfl (opensS_int (by kernel_rfl) Tryz.underlying3) (opensTail_cons rfl (opensS_string (by kernel_rfl) Tryz.underlying9) (opensTail_cons rfl (opensS_string (by kernel_rfl) Tryz.underlying9) (opensTail_last rfl (opensS_slice (by kernel_rfl) Tryz.underlying36 (opensS_struct (fun x : Pr.S45 => (x.f0, x.f1)) Tryz.underlying45 rfl (by kernel_rfl) (opensTail_cons rfl (opensS_string (by kernel_rfl) Tryz.underlying9) (opensTail_last rfl (opensS_string (by kernel_rfl) Tryz.underlying9))) (fun a => ⟨⟨a.1, a.2⟩, rfl⟩)))))))) (fun a => ⟨⟨a.1, a.2.1, a.2.2.1, a.2.2.2.1, a.2.2.2.2⟩, rfl⟩)) hf0 (fun n hn => by simpa using List.all_eq_true.1 hsz n (DataW.weights_mem_each (j := 0) rfl rfl n hn))
  obtain ⟨rfl, rfl, rfl⟩ : sa0 = A0 ∧ sn0 = l0.length ∧ sc0 = c0 := by simpa [Value.cells] using hv0
  obtain ⟨b1, A2_1, c2_1, A3_1, c3_1, A4_1, c4_1, A5_1, c5_1, rfl, ⟨x2_1, g2_1⟩, ⟨x3_1, g3_1⟩, ⟨x4_1, g4_1⟩, ⟨x5_1, g5_1⟩, z_1⟩ := open_conf (hval 1 32 v1 rfl rfl) h1 (fun n hn => by simpa using List.all_eq_true.1 hsz n (DataW.weights_mem_each (j := 1) rfl rfl n hn))
  clear hA0 hval0 hsz0 hsz
  obtain ⟨k, hk⟩ := Pure.CleanTexts l0 b1 hS0 (Nat.le_trans hc0 (Nat.le_trans hm0 (by decide))) z_1
  refine (Pr.boltinglaw13_CleanTexts.calls k sa0 sc0 l0 b1.al b1.aal A2_1 c2_1 b1.els A3_1 c3_1 b1.rep A4_1 c4_1 b1.ats A5_1 c5_1 b1.per b1.com b1.dt true W hr0 hc0 g2_1 x2_1 g3_1 x3_1 g4_1 x4_1 g5_1 x5_1 hk (hT := ⟨rfl⟩)).mono fun e W' ⟨he, bel0⟩ => ?_
  have bel : Below W.heap.size W W' := by first | exact bel0 | exact below_of_drawn0 bel0
  subst he
  exact ⟨_, rfl, _, _, _, [], _, [], hW', trodAll_mk1 (shut_bool Tryz.underlying4 _), (trodAll_cons_mk (Below.trod laidOut (by kernel_rfl) (of_decide_eq_true (by kernel_rfl)) k0 bel lt0) (trodAll_cons_mk (Below.trod laidOut (by kernel_rfl) (of_decide_eq_true (by kernel_rfl)) k1 bel lt1) trodAll_mk0)), rfl, bel.frame _, fun h => by cases h⟩
theorem over : Rows.cleanTextsRow.holds Tryz.pinned (OpenSpec.ofChange Rows.cleanTextsSpec) :=
  OpenClaim.holds_of_wide 6 Tryz.f6 rfl rfl rfl rfl rfl rfl rfl ⟨rfl, rfl, rfl, rfl, rfl⟩ rfl rfl rfl rfl rfl (by kernel_rfl) Tryz.func6 (by kernel_rfl)
    (of_decide_eq_true (by kernel_rfl)) (by unfold Func.isWrapper; first | (rw [if_pos (by decide +kernel)]; kernel_rfl) | (rw [if_neg (by decide +kernel)]; exact ⟨rfl, rfl⟩))
    (fun os started H enc _ => lifted os started H enc)
theorem proved : Rows.CleanTextsSaid := over
#print axioms proved
end Go.Proofs.YticacakoefojbaaGreat.cleanTexts
namespace Go.Proofs.YticacakoefojbaaGreat
theorem cleanTexts_holds : Rows.CleanTextsSaid := cleanTexts.proved
end Go.Proofs.YticacakoefojbaaGreat
