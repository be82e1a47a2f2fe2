import Derived.Test.YticacakoefojbaaGreatJCleanSafe1
import Derived.Test.YticacakoefojbaaGreatJCleanSafe2
import Derived.Test.YticacakoefojbaaGreatJCleanSafe3
import Derived.Test.YticacakoefojbaaGreatJCleanSafe4
namespace Go.Proofs.YticacakoefojbaaGreat.Pr
open Go.RowKit Go.Proofs.YticacakoefojbaaGreatW.PrintWords Go.Proofs.YticacakoefojbaaGreatW.PrintLast Go.Proofs.YticacakoefojbaaGreatW.PrintMore
attribute [local go_sem] max2_int min2_int max_two min_two max_three min_three max_four min_four   -- for this text's walks alone
set_option linter.unusedVariables false
set_option linter.unusedSimpArgs false

def boltinglaw13_bound.l0 : Nat → List (S38) → List (S38) → Int → Option ((List (S38)))
 | 0, _, _, _ => none
 | k + 1, x0, x3, x4 => if x4 < (x0.length : Int) then (if x4 < 40 then (if 0 ≤ x4 then (if 0 ≤ (mn (((rd_T38 x0 x4).f4).length : Int) 8) then (if (mn (((rd_T38 x0 x4).f4).length : Int) 8) ≤ (((rd_T38 x0 x4).f4).length : Int) then (if x3.length < 1954687338268 then (boltinglaw13_bound.l0 k x0 (x3 ++ [(⟨(rd_T38 x0 x4).f0, (rd_T38 x0 x4).f1, (rd_T38 x0 x4).f2, (rd_T38 x0 x4).f3, (((rd_T38 x0 x4).f4).take ((mn (((rd_T38 x0 x4).f4).length : Int) 8) : Int).toNat)⟩ : S38)]) (wrap64 (x4 + 1))) else (none)) else (none)) else (none)) else (none)) else (some x3)) else (some x3)
def boltinglaw13_bound.f (k : Nat) (l0 : List (S38)) : Option ((List (S38))) := boltinglaw13_bound.l0 k l0 (([] : List (S38))) 0
set_option maxHeartbeats 8000000 in
set_option maxRecDepth 100000 in
theorem boltinglaw13_bound.calls (k : Nat) (P0_ : Nat → Prop) (A0 : Option Addr) (c0 : Nat) (l0 : List (S38)) (r : List (S38)) (w : World) (hs0 : Kd.V k38 38 w w.heap.size (fun k_ => P0_ k_) (.slice A0 l0.length c0) l0) (h : boltinglaw13_bound.f k l0 = some r) :
  Calls Tryz.prog 10 #[.slice A0 l0.length c0] w fun e w' => ∃ v0_ : Value, e = .returned (v0_) ∧ Kd.N k38 38 w' w.heap.size (fun k_ => (P0_ k_ ∨ w.heap.size ≤ k_)) v0_ r ∧ Below w.heap.size w w' := by
 have hu38 := Tryz.underlying38
 have HO0 := Aside0.mk (show Kd.V k38 38 w w.heap.size (fun k_ => (P0_ k_ ∨ w.heap.size ≤ k_)) (.slice A0 l0.length c0) l0 from Kd.V_mono hs0 (fun k_ hk => .inl hk))
 have HB := Aside0.mk (Below.refl w.heap.size w)
 have H : (boltinglaw13_bound.l0 k l0 (([] : List (S38))) 0) = some r := h
 clear h
 obtain ⟨y294, hy294⟩ : ∃ y_ : List (S38), y_ = (([] : List (S38))) := ⟨_, rfl⟩
 replace H : (boltinglaw13_bound.l0 k l0 y294 0) = some r := by first | (rw [hy294]; with_reducible exact H) | (have H2_ := (Option.bind_some _ _).symm.trans H; rw [hy294]; with_reducible exact H2_) | (have H2_ := (Option.bind_some _ _).symm.trans H; with_reducible exact H2_) | with_reducible exact H | (rw [hy294]; exact H) | exact H
 have Ny294 := Aside0.mk hy294
 clear hy294
 have H' := Aside0.mk H
 clear H
 go_enter Tryz.func10, Tryz.ntmps10
 go_wp2_with (first | ((with_reducible refine gate_dst (N := 6) rfl ?_); refine Kd.N_lit k38 _ 38 ?hg (N' := 6) ?hd (xs := ([] : List (S38))) (inner := []) (ok := (fun k_ => (P0_ k_ ∨ w.heap.size ≤ k_))) (okp := (fun k_ => (P0_ k_ ∨ w.heap.size ≤ k_))) ?hr ?hp (fun _ hk => hk) ((show ∀ k_, w.heap.size ≤ k_ → (fun k_ => (P0_ k_ ∨ w.heap.size ≤ k_)) k_ from fun k_ hk => (.inr (Nat.le_trans (below_size (zb HB)) hk))) _ (Nat.le_refl _)) (Below.refl _ _) (Nat.le_refl _) (by simp) ?_; (case hd => rfl); (case hg => rfl); (case hr => first | (go_simp; done) | (go_simp; rfl)); (case hp => exact (Reps.none _ _)); intro v295 w2 ho3 hb hg_ hnew_; clear hg_ hnew_; (first | rw [← Ny294.out] at ho3 | (simp only [Int.reduceToNat] at ho3; rw [← Ny294.out] at ho3)); have n0_ := Aside0.mk (Kd.V_elder' HO0.out (Kd.N_base ho3) hb); have n1_ := Aside0.mk (Kd.N_lower ho3 (below_size (zb HB))); have n2_ := Aside0.mk (below_step (zb HB) hb); clear HO0; clear HB; have HO0 := n0_; have HO296 := n1_; have HB := n2_; clear n0_ n1_ n2_; clear hb ho3))
 go_loopg [3, 4] k (fun kq v3 v4 w' => ∃ (x3_1 : List (S38)) (x4_1 : Int), v4 = .int .i64 x4_1 ∧ Aside0 (boltinglaw13_bound.l0 kq l0 x3_1 x4_1 = some r) ∧ Aside0 (kq ≤ k) ∧ Aside0 (Kd.V k38 38 w' w.heap.size (fun k_ => (P0_ k_ ∨ w.heap.size ≤ k_) ∧ some k_ ≠ (v3 : Value).ownBlock) (.slice A0 l0.length c0) l0) ∧ Aside0 (Kd.N k38 38 w' w.heap.size (fun k_ => (P0_ k_ ∨ w.heap.size ≤ k_)) v3 x3_1) ∧ Aside0 (Below w.heap.size w w'))
 case atStart => exact ⟨(y294), (0), zr, H', ⟨Nat.le_refl _⟩, ⟨by exact HO0.out⟩, ⟨by exact HO296.out⟩, ⟨zb HB⟩⟩
 case round =>
  clear H'
  try clear c1
  try clear p2
  obtain ⟨x3_1, x4_1, rfl, HA, HK1, HO_0, HO_3, HB⟩ := hrel
  cases gk with
  | zero => exact absurd HA.out (by simp [boltinglaw13_bound.l0])
  | succ k1 =>
   have H := HA.out
   clear HA
   simp only [boltinglaw13_bound.l0] at H
   by_cases c4 : x4_1 < (l0.length : Int)
   ·rw [if_pos c4] at H
    have c4b0 : decide (x4_1 < (l0.length : Int)) = true := decide_eq_true c4
    clear c4
    by_cases c5 : x4_1 < 40
    ·rw [if_pos c5] at H
     have c5b0 : decide (x4_1 < 40) = true := decide_eq_true c5
     clear c5
     by_cases c6 : 0 ≤ x4_1
     ·rw [if_pos c6] at H
      have c6b0 : decide (0 ≤ x4_1) = true := decide_eq_true c6
      clear c6
      obtain ⟨ji7, hji7⟩ : ∃ j_ : Int, (mn (((rd_T38 l0 x4_1).f4).length : Int) 8) = j_ := ⟨_, rfl⟩
      replace H : (if 0 ≤ (ji7) then (if (ji7) ≤ (((rd_T38 l0 x4_1).f4).length : Int) then (if x3_1.length < 1954687338268 then (boltinglaw13_bound.l0 k1 l0 (x3_1 ++ [(⟨(rd_T38 l0 x4_1).f0, (rd_T38 l0 x4_1).f1, (rd_T38 l0 x4_1).f2, (rd_T38 l0 x4_1).f3, (((rd_T38 l0 x4_1).f4).take ((ji7) : Int).toNat)⟩ : S38)]) (wrap64 (x4_1 + 1))) else (none)) else (none)) else (none)) = some r := by first | (rw [hji7] at H; exact H) | (simp only [hji7] at H ⊢; exact H)
      have hji7_ : (if 8 < (((rd_T38 l0 x4_1).f4).length : Int) then 8 else (((rd_T38 l0 x4_1).f4).length : Int)) = ji7 := hji7
      by_cases c8 : 0 ≤ (ji7)
      ·rw [if_pos c8] at H
       have c8b0 := eq_true c8
       have c8b1 : decide (0 ≤ (ji7)) = true := decide_eq_true c8
       clear c8
       by_cases c9 : (ji7) ≤ (((rd_T38 l0 x4_1).f4).length : Int)
       ·rw [if_pos c9] at H
        have c9b0 := eq_true c9
        have c9b1 : decide ((ji7) ≤ (((rd_T38 l0 x4_1).f4).length : Int)) = true := decide_eq_true c9
        clear c9
        obtain ⟨y299, hy299⟩ : ∃ y_ : List (S45), y_ = (((rd_T38 l0 x4_1).f4).take ((ji7) : Int).toNat) := ⟨_, rfl⟩
        replace H : (if x3_1.length < 1954687338268 then (boltinglaw13_bound.l0 k1 l0 (x3_1 ++ [(⟨(rd_T38 l0 x4_1).f0, (rd_T38 l0 x4_1).f1, (rd_T38 l0 x4_1).f2, (rd_T38 l0 x4_1).f3, y299⟩ : S38)]) (wrap64 (x4_1 + 1))) else (none)) = some r := by first | (rw [hy299]; with_reducible exact H) | (have H2_ := (Option.bind_some _ _).symm.trans H; rw [hy299]; with_reducible exact H2_) | (have H2_ := (Option.bind_some _ _).symm.trans H; with_reducible exact H2_) | with_reducible exact H | (rw [hy299]; exact H) | exact H
        have Ny299 := Aside0.mk hy299
        clear hy299
        by_cases c10 : x3_1.length < 1954687338268
        ·rw [if_pos c10] at H
         have LMc10 := Aside0.mk c10
         clear c10
         obtain ⟨y304, hy304⟩ : ∃ y_ : List (S38), y_ = (x3_1 ++ [(⟨(rd_T38 l0 x4_1).f0, (rd_T38 l0 x4_1).f1, (rd_T38 l0 x4_1).f2, (rd_T38 l0 x4_1).f3, y299⟩ : S38)]) := ⟨_, rfl⟩
         replace H : (boltinglaw13_bound.l0 k1 l0 y304 (wrap64 (x4_1 + 1))) = some r := by first | (rw [hy304]; with_reducible exact H) | (have H2_ := (Option.bind_some _ _).symm.trans H; rw [hy304]; with_reducible exact H2_) | (have H2_ := (Option.bind_some _ _).symm.trans H; with_reducible exact H2_) | with_reducible exact H | (rw [hy304]; exact H) | exact H
         have Ny304 := Aside0.mk hy304
         clear hy304
         have H' := Aside0.mk H
         clear H
         have p297 : 0 ≤ (x4_1 : Int) := of_decide_eq_true za
         have q297 : x4_1 < (l0.length : Int) := of_decide_eq_true za
         obtain ⟨ad297, A297_4, c297_4, e297, hx297_0, hx297_1, hx297_2, hx297_3, hx297_4, hl297_4, hi297_4⟩ := at_T38 (Kd.V_reads' HO_0.out).2.2 x4_1 p297 q297
         cases e297
         obtain ⟨ce297, hce297, hMe297, hcc297⟩ := Kd.V_get HO_0.out z38 x4_1 p297 (by first | exact q297 | exact of_decide_eq_true za | (have e_ := (Kd.V_reads' HO_0.out).1; omega))
         obtain ⟨ua297_4, uc297_4, rfl, ul297_4, ge297_4⟩ := k38_openF hMe297
         have hv297_4 := hcc297 4 _ rfl
         rw [add_field _ _ 4 (by omega)] at hv297_4
         replace hv297_4 := Option.some.inj (hv297_4.symm.trans hx297_4)
         injection hv297_4 with hva_ hvn_ hvc_
         rw [hva_] at ge297_4
         rw [hvc_] at ul297_4
         have HL297_4 := Aside0.mk (show Kd.V k45 45 _ w.heap.size _ _ ((rd_T38 l0 x4_1).f4) from Kd.V_mk ul297_4 ge297_4)
         clear hva_ hvn_ hvc_ ge297_4 ul297_4
         clear hcc297 hce297
         have HR297_4 := Aside0.mk hi297_4
         have HC297_4 := Aside0.mk hl297_4
         clear hi297_4 hl297_4
         replace p297 := eq_true p297
         replace q297 := eq_true q297
         go_wp2_with (first | ((with_reducible refine gate_dst (N := 5) rfl ?_); refine box_event ?hg (N := 5) ?hd (cs := #[.int .i64 0, .int .i64 0, .string (⟨#[]⟩ : ByteArray), .string (⟨#[]⟩ : ByteArray), .slice none 0 0]) (t := 38) ?hr ?_; (case hd => rfl); (case hg => rfl); (case hr => first | (go_simp; done) | (go_simp; rfl)); intro gb298 hg w11 hbox hb; have n0_ := Aside0.mk (Kd.V_below (Kd.V_elderB HO_0.out gb298 (Nat.le_of_eq hg.symm)) hb); have n1_ := Aside0.mk (Kd.N_below (Kd.N_elderB HO_3.out gb298 (Nat.le_of_eq hg.symm)) hb); have n2_ := Aside0.mk (Kd.V_below (Kd.V_elderB HL297_4.out gb298 (Nat.le_of_eq hg.symm)) hb); have n4_ := Aside0.mk (below_step (zb HB) hb); have n5_ := Aside0.mk (hbox); have n7_ := Aside0.mk ((by rw [hg]; exact (below_size (zb HB)) : w.heap.size ≤ gb298)); clear HO_0; clear HO_3; clear HL297_4; clear HR297_4; clear HB; have HO_0 := n0_; have HO_3 := n1_; have HL297_4 := n2_; have HB := n4_; have BK298 := n5_; have GE298 := n7_; clear n0_ n1_ n2_ n4_ n5_ n7_; clear hb hbox hg; obtain ⟨hcz12_0, hcz12_1, hcz12_2, hcz12_3, hcz12_4, hfz12_0, hfz12_1, hfz12_2, hfz12_3, hfz12_4⟩ := cz5 BK298.out) | ((with_reducible refine gate_store (t := 38) (p := 5) rfl ?_); refine store_event (t := 38) (p := 5) (v := ?vo_w13) (w1 := (((((w11.setCell ⟨gb298, 0, none⟩ (.int .i64 ((rd_T38 l0 x4_1).f0))).setCell ⟨gb298, 1, none⟩ (.int .i64 ((rd_T38 l0 x4_1).f1))).setCell ⟨gb298, 2, none⟩ (.string ((rd_T38 l0 x4_1).f2))).setCell ⟨gb298, 3, none⟩ (.string ((rd_T38 l0 x4_1).f3))).setCell ⟨gb298, 4, none⟩ (.slice A297_4 ((rd_T38 l0 x4_1).f4).length c297_4))) ?hg ?ho ?hn ?hr ?_; (case ho => rfl); (case hg => rfl); (case hn => rfl); (case hr => first | (go_simp; done) | (go_simp; rfl)); intro w13 hw; have n0_ : Aside0 (Kd.V k38 38 w13 w.heap.size (fun k_ => (P0_ k_ ∨ w.heap.size ≤ k_) ∧ some k_ ≠ (u3 : Value).ownBlock ∧ k_ ≠ gb298) (.slice (some ad297) l0.length c0) l0) := ⟨(by rw [hw]; exact (by exact Kd.V_mono (Vf5 (g := gb298) (Kd.V_mono HO_0.out (fun k_ hk => (⟨hk, hk.2⟩ : _ ∧ k_ ≠ gb298))) (fun _ hk => hk.2) (.int .i64 ((rd_T38 l0 x4_1).f0)) (.int .i64 ((rd_T38 l0 x4_1).f1)) (.string ((rd_T38 l0 x4_1).f2)) (.string ((rd_T38 l0 x4_1).f3)) (.slice A297_4 ((rd_T38 l0 x4_1).f4).length c297_4)) (fun _ hk => ⟨hk.1.1.1, ⟨hk.1.1.2, hk.1.2⟩⟩)))⟩; have n1_ : Aside0 (Kd.N k38 38 w13 w.heap.size (fun k_ => (P0_ k_ ∨ w.heap.size ≤ k_) ∧ k_ ≠ gb298) u3 x3_1) := ⟨(by rw [hw]; exact (by exact Kd.N_mono (Nf5 (g := gb298) (Kd.N_mono HO_3.out (fun k_ hk => (⟨hk, hk.2⟩ : _ ∧ k_ ≠ gb298))) (fun _ hk => hk.2) (.int .i64 ((rd_T38 l0 x4_1).f0)) (.int .i64 ((rd_T38 l0 x4_1).f1)) (.string ((rd_T38 l0 x4_1).f2)) (.string ((rd_T38 l0 x4_1).f3)) (.slice A297_4 ((rd_T38 l0 x4_1).f4).length c297_4)) (fun _ hk => ⟨hk.1.1, hk.1.2⟩)))⟩; have n2_ : Aside0 (Kd.V k45 45 w13 w.heap.size (fun k_ => (P0_ k_ ∨ w.heap.size ≤ k_) ∧ some k_ ≠ (u3 : Value).ownBlock ∧ k_ ≠ gb298) (.slice A297_4 ((rd_T38 l0 x4_1).f4).length c297_4) ((rd_T38 l0 x4_1).f4)) := ⟨(by rw [hw]; exact (by exact Kd.V_mono (Vf5 (g := gb298) (Kd.V_mono HL297_4.out (fun k_ hk => (⟨hk, hk.2⟩ : _ ∧ k_ ≠ gb298))) (fun _ hk => hk.2) (.int .i64 ((rd_T38 l0 x4_1).f0)) (.int .i64 ((rd_T38 l0 x4_1).f1)) (.string ((rd_T38 l0 x4_1).f2)) (.string ((rd_T38 l0 x4_1).f3)) (.slice A297_4 ((rd_T38 l0 x4_1).f4).length c297_4)) (fun _ hk => ⟨hk.1.1.1, ⟨hk.1.1.2, hk.1.2⟩⟩)))⟩; have n3_ : Aside0 (w13.heap[gb298]? = some (.cells #[.int .i64 ((rd_T38 l0 x4_1).f0), .int .i64 ((rd_T38 l0 x4_1).f1), .string ((rd_T38 l0 x4_1).f2), .string ((rd_T38 l0 x4_1).f3), .slice A297_4 ((rd_T38 l0 x4_1).f4).length c297_4] 38 (0, 0))) := ⟨(by rw [hw]; exact (by refine blk_put (cs := #[.int .i64 ((rd_T38 l0 x4_1).f0), .int .i64 ((rd_T38 l0 x4_1).f1), .string ((rd_T38 l0 x4_1).f2), .string ((rd_T38 l0 x4_1).f3), .slice none 0 0]) ?_ 4 _ rfl; refine blk_put (cs := #[.int .i64 ((rd_T38 l0 x4_1).f0), .int .i64 ((rd_T38 l0 x4_1).f1), .string ((rd_T38 l0 x4_1).f2), .string (⟨#[]⟩ : ByteArray), .slice none 0 0]) ?_ 3 _ rfl; refine blk_put (cs := #[.int .i64 ((rd_T38 l0 x4_1).f0), .int .i64 ((rd_T38 l0 x4_1).f1), .string (⟨#[]⟩ : ByteArray), .string (⟨#[]⟩ : ByteArray), .slice none 0 0]) ?_ 2 _ rfl; refine blk_put (cs := #[.int .i64 ((rd_T38 l0 x4_1).f0), .int .i64 0, .string (⟨#[]⟩ : ByteArray), .string (⟨#[]⟩ : ByteArray), .slice none 0 0]) ?_ 1 _ rfl; refine blk_put (cs := #[.int .i64 0, .int .i64 0, .string (⟨#[]⟩ : ByteArray), .string (⟨#[]⟩ : ByteArray), .slice none 0 0]) ?_ 0 _ rfl; exact BK298.out))⟩; have n4_ : Aside0 (Below w.heap.size w w13) := ⟨(by rw [hw]; exact (zb1 HB GE298))⟩; clear hw; clear HO_0; clear HO_3; clear HL297_4; clear BK298; clear HB; have HO_0 := n0_; have HO_3 := n1_; have HL297_4 := n2_; have BK298 := n3_; have HB := n4_; clear n0_ n1_ n2_ n3_ n4_; obtain ⟨hcz14_0, hcz14_1, hcz14_2, hcz14_3, hcz14_4, hfz14_0, hfz14_1, hfz14_2, hfz14_3, hfz14_4⟩ := cz5 BK298.out; have q15 : ((ji7) : Int) ≤ ((((rd_T38 l0 x4_1).f4).length : Int) : Int) := of_decide_eq_true za; obtain ⟨i015, hi015, _, hsz15, _⟩ := info_parts info45; have hroom15 : ((rd_T38 l0 x4_1).f4).length ≤ c297_4 := HC297_4.out; have hC15 : Kd.F k45 _ _ A297_4 ((rd_T38 l0 x4_1).f4).length ((rd_T38 l0 x4_1).f4) := (Kd.V_at (base := w.heap.size) HL297_4.out).2.2; have hcut15 := cut_to (P := Tryz.prog) 36 45 .i64 Tryz.underlying36 hi015 A297_4 ((rd_T38 l0 x4_1).f4).length c297_4 (ji7) (of_decide_eq_true za) q15 hroom15; have hr15 := Kd.F_take (m := ((ji7) : Int).toNat) hC15 (by omega); have hy15 : y299.length = ((ji7) : Int).toNat := (by rw [Ny299.out, List.length_take]; omega); rw [← Ny299.out] at hr15; rw [← hy15] at hcut15; have HO303 := Aside0.mk (show Kd.V k45 45 _ w.heap.size _ (.slice A297_4 y299.length c297_4) y299 from Kd.V_mk (by omega) hr15); have HC303 := Aside0.mk (show y299.length ≤ c297_4 from by omega); clear hr15 hC15 hroom15 hi015 hsz15; have KY15 := Aside0.mk hy15; clear hy15; replace q15 := eq_true q15) | ((with_reducible refine gate_store (t := 36) (p := 28) rfl ?_); refine store_event (t := 36) (p := 28) (v := ?vo_w16) (w1 := (w13.setCell ⟨gb298, 4, none⟩ (.slice A297_4 y299.length c297_4))) ?hg ?ho ?hn ?hr ?_; (case ho => rfl); (case hg => rfl); (case hn => rfl); (case hr => first | (go_simp; done) | (go_simp; rfl)); intro w16 hw; have n0_ : Aside0 (Kd.V k38 38 w16 w.heap.size (fun k_ => (P0_ k_ ∨ w.heap.size ≤ k_) ∧ some k_ ≠ (u3 : Value).ownBlock ∧ k_ ≠ gb298) (.slice (some ad297) l0.length c0) l0) := ⟨(by rw [hw]; exact (by exact Kd.V_mono (Kd.V_far (p := ⟨gb298, 4, none⟩) (Kd.V_mono HO_0.out (fun k_ hk => (⟨hk, hk.2.2⟩ : _ ∧ k_ ≠ gb298))) (fun _ hk => hk.2) (.slice A297_4 y299.length c297_4)) (fun _ hk => ⟨hk.1.1, ⟨hk.1.2.1, hk.1.2.2⟩⟩)))⟩; have n1_ : Aside0 (Kd.N k38 38 w16 w.heap.size (fun k_ => (P0_ k_ ∨ w.heap.size ≤ k_) ∧ k_ ≠ gb298) u3 x3_1) := ⟨(by rw [hw]; exact (by exact Kd.N_mono (Kd.N_far (p := ⟨gb298, 4, none⟩) (Kd.N_mono HO_3.out (fun k_ hk => (⟨hk, hk.2⟩ : _ ∧ k_ ≠ gb298))) (fun _ hk => hk.2) (.slice A297_4 y299.length c297_4)) (fun _ hk => ⟨hk.1.1, hk.1.2⟩)))⟩; have n3_ : Aside0 (Kd.V k45 45 w16 w.heap.size (fun k_ => (P0_ k_ ∨ w.heap.size ≤ k_) ∧ some k_ ≠ (u3 : Value).ownBlock ∧ k_ ≠ gb298) (.slice A297_4 y299.length c297_4) y299) := ⟨(by rw [hw]; exact (by exact Kd.V_mono (Kd.V_far (p := ⟨gb298, 4, none⟩) (Kd.V_mono HO303.out (fun k_ hk => (⟨hk, hk.2.2⟩ : _ ∧ k_ ≠ gb298))) (fun _ hk => hk.2) (.slice A297_4 y299.length c297_4)) (fun _ hk => ⟨hk.1.1, ⟨hk.1.2.1, hk.1.2.2⟩⟩)))⟩; have n4_ : Aside0 (w16.heap[gb298]? = some (.cells #[.int .i64 ((rd_T38 l0 x4_1).f0), .int .i64 ((rd_T38 l0 x4_1).f1), .string ((rd_T38 l0 x4_1).f2), .string ((rd_T38 l0 x4_1).f3), .slice A297_4 y299.length c297_4] 38 (0, 0))) := ⟨(by rw [hw]; exact (by refine blk_put (cs := #[.int .i64 ((rd_T38 l0 x4_1).f0), .int .i64 ((rd_T38 l0 x4_1).f1), .string ((rd_T38 l0 x4_1).f2), .string ((rd_T38 l0 x4_1).f3), .slice A297_4 ((rd_T38 l0 x4_1).f4).length c297_4]) ?_ 4 _ rfl; exact BK298.out))⟩; have n5_ : Aside0 (Below w.heap.size w w16) := ⟨(by rw [hw]; exact (zb1 HB GE298))⟩; clear hw; clear HO_0; clear HO_3; clear HL297_4; clear HO303; clear BK298; clear HB; have HO_0 := n0_; have HO_3 := n1_; have HO303 := n3_; have BK298 := n4_; have HB := n5_; clear n0_ n1_ n3_ n4_ n5_; obtain ⟨hcz17_0, hcz17_1, hcz17_2, hcz17_3, hcz17_4, hfz17_0, hfz17_1, hfz17_2, hfz17_3, hfz17_4⟩ := cz5 BK298.out) | ((with_reducible refine gate_builtin (b := .append) (xs := #[.tmp 29, .tmp 31]) rfl ?_); at_builtin; refine Kd.N_append k38 (w0 := w) w.heap.size rfl (.tmp 29) (.tmp 31) 22 38 (.agg #[(.int .i64 0), (.int .i64 0), (.string ⟨#[]⟩), (.string ⟨#[]⟩), (.slice none 0 0)]) 72 rfl Tryz.underlying22 info38 rfl (by decide) (by omega) u3 x3_1 (⟨(rd_T38 l0 x4_1).f0, (rd_T38 l0 x4_1).f1, (rd_T38 l0 x4_1).f2, (rd_T38 l0 x4_1).f3, y299⟩ : S38) [.int .i64 ((rd_T38 l0 x4_1).f0), .int .i64 ((rd_T38 l0 x4_1).f1), .string ((rd_T38 l0 x4_1).f2), .string ((rd_T38 l0 x4_1).f3), .slice A297_4 y299.length c297_4] (fun k_ => (P0_ k_ ∨ w.heap.size ≤ k_) ∧ k_ ≠ gb298) (fun k_ => ((fun k_ => (P0_ k_ ∨ w.heap.size ≤ k_) ∧ k_ ≠ gb298)) k_ ∧ some k_ ≠ (u3 : Value).ownBlock) rfl rfl ?aP (fun _ hk => hk) ?aF ?aO ?aB ?aS ?aL ?_; (case aP => exact (k38_mkF _ _ (⟨(rd_T38 l0 x4_1).f0, (rd_T38 l0 x4_1).f1, (rd_T38 l0 x4_1).f2, (rd_T38 l0 x4_1).f3, y299⟩ : S38) (Kd.V_reads' (Kd.V_mono (ok' := (fun k_ => ((fun k_ => (P0_ k_ ∨ w.heap.size ≤ k_) ∧ k_ ≠ gb298)) k_ ∧ some k_ ≠ (u3 : Value).ownBlock)) (HO303.out) (fun k_ hk => ⟨⟨hk.1, hk.2.2⟩, hk.2.1⟩))).2.1 (Kd.V_F (Kd.V_mono (ok' := (fun k_ => ((fun k_ => (P0_ k_ ∨ w.heap.size ≤ k_) ∧ k_ ≠ gb298)) k_ ∧ some k_ ≠ (u3 : Value).ownBlock)) (HO303.out) (fun k_ hk => ⟨⟨hk.1, hk.2.2⟩, hk.2.1⟩))))); (case aB => exact (zb1 HB GE298)); (case aF => exact (fun k_ hk => ⟨(.inr (Nat.le_trans (below_size (zb1 HB GE298)) hk)), Kd.freshB BK298.out k_ hk⟩)); (case aO => exact HO_3.out); (case aS => exact (below_size (zb1 HB GE298))); (case aL => have := LMc10.out; omega); intro v305 w18 ho hb hg hat; rw [← Ny304.out] at ho; have n0_ := Aside0.mk (Kd.V_afterv (ok := (fun k_ => (P0_ k_ ∨ w.heap.size ≤ k_) ∧ k_ ≠ gb298)) (by exact Kd.V_mono HO_0.out (fun _ hk => ⟨⟨hk.1, hk.2.2⟩, hk.2.1⟩)) hg hat); have n4_ := Aside0.mk (hb); have n5_ := Aside0.mk (ho); clear HO_0; clear BK298; clear HO303; clear HB; clear HO_3; have HO_0 := n0_; have HB := n4_; have HO306 := n5_; clear n0_ n4_ n5_; clear ho hb hg hat))
         go_roundg k1
         case measure => have := HK1.out; omega
         case rel => exact ⟨(y304), (wrap64 (x4_1 + 1)), zr, H', ⟨by have := HK1.out; omega⟩, ⟨by exact Kd.V_mono HO_0.out (fun _ hk => ⟨hk.1.1, hk.2⟩)⟩, ⟨by exact Kd.N_mono HO306.out (fun _ hk => hk.1)⟩, ⟨zb1 HB GE298⟩⟩
        ·rw [if_neg c10] at H
         exact absurd H (by simp)
       ·rw [if_neg c9] at H
        exact absurd H (by simp)
      ·rw [if_neg c8] at H
       exact absurd H (by simp)
     ·rw [if_neg c6] at H
      exact absurd H (by simp)
    ·rw [if_neg c5] at H
     have c5b0 : decide (x4_1 < 40) = false := decide_eq_false c5
     clear c5
     obtain rfl := Option.some.inj H
     go_wp2
     go_ret
     exact ⟨_, ze, by exact HO_3.out, zb HB⟩
   ·rw [if_neg c4] at H
    have c4b0 : decide (x4_1 < (l0.length : Int)) = false := decide_eq_false c4
    clear c4
    obtain rfl := Option.some.inj H
    go_wp2
    go_ret
    exact ⟨_, ze, by exact HO_3.out, zb HB⟩

end Go.Proofs.YticacakoefojbaaGreat.Pr
namespace Go.Proofs.YticacakoefojbaaGreat.Pr
open Go.RowKit Go.Proofs.YticacakoefojbaaGreatW.PrintWords Go.Proofs.YticacakoefojbaaGreatW.PrintLast Go.Proofs.YticacakoefojbaaGreatW.PrintMore
attribute [local go_sem] max2_int min2_int max_two min_two max_three min_three max_four min_four   -- for this text's walks alone
set_option linter.unusedVariables false
set_option linter.unusedSimpArgs false

def boltingref04_Big.l0 : Nat → List (S38) → Int → Option (Bool)
 | 0, _, _ => none
 | k + 1, x0, x3 => if x3 < (x0.length : Int) then (if 0 ≤ x3 then (if ((rd_T38 x0 x3).f0) ≥ 60 then (some true) else (boltingref04_Big.l0 k x0 (wrap64 (x3 + 1)))) else (none)) else (some (decide ((x0.length : Int) > 4096)))
def boltingref04_Big.f (k : Nat) (l0 : List (S38)) : Option (Bool) := boltingref04_Big.l0 k l0 0
set_option maxHeartbeats 8000000 in
set_option maxRecDepth 100000 in
theorem boltingref04_Big.calls (k : Nat) (A0 : Option Addr) (c0 : Nat) (l0 : List (S38)) (r : Bool) (w : World) (hr0 : Kd.C k38 w A0 l0.length l0) (hc0 : l0.length ≤ c0) (h : boltingref04_Big.f k l0 = some r) :
  Calls Tryz.prog 29 #[.slice A0 l0.length c0] w fun e w' => e = .returned (.bool r) ∧ Drawn0 w w' := by
 have HR0 := Aside0.mk hr0
 have HC0 := Aside0.mk hc0
 clear hr0 hc0
 have H : (boltingref04_Big.l0 k l0 0) = some r := h
 clear h
 have H' := Aside0.mk H
 clear H
 go_enter Tryz.func29, Tryz.ntmps29
 go_wp2
 go_loopg [3] k (fun kq v3 w' => ∃ (x3_1 : Int), v3 = .int .i64 x3_1 ∧ Aside0 (boltingref04_Big.l0 kq l0 x3_1 = some r) ∧ Aside0 (kq ≤ k) ∧ Drawn0 w w')
 case atStart => exact ⟨(0), zr, H', ⟨Nat.le_refl _⟩, zw⟩
 case round =>
  clear H'
  obtain ⟨x3_1, rfl, HA, HK1, ⟨m1, rfl⟩⟩ := hrel
  cases gk with
  | zero => exact absurd HA.out (by simp [boltingref04_Big.l0])
  | succ k1 =>
   have H := HA.out
   clear HA
   simp only [boltingref04_Big.l0] at H
   by_cases c2 : x3_1 < (l0.length : Int)
   ·rw [if_pos c2] at H
    have c2b0 : decide (x3_1 < (l0.length : Int)) = true := decide_eq_true c2
    clear c2
    by_cases c3 : 0 ≤ x3_1
    ·rw [if_pos c3] at H
     have c3b0 : decide (0 ≤ x3_1) = true := decide_eq_true c3
     clear c3
     by_cases c4 : ((rd_T38 l0 x3_1).f0) ≥ 60
     ·rw [if_pos c4] at H
      have c4b0 : decide (60 ≤ ((rd_T38 l0 x3_1).f0)) = true := decide_eq_true c4
      clear c4
      obtain rfl := Option.some.inj H
      have p307 : 0 ≤ (x3_1 : Int) := of_decide_eq_true za
      have q307 : x3_1 < (l0.length : Int) := of_decide_eq_true za
      obtain ⟨ad307, A307_4, c307_4, e307, hx307_0, hx307_1, hx307_2, hx307_3, hx307_4, hl307_4, hi307_4⟩ := at_T38 HR0.out x3_1 p307 q307
      cases e307
      have HR307_4 := Aside0.mk hi307_4
      have HC307_4 := Aside0.mk hl307_4
      clear hi307_4 hl307_4
      replace p307 := eq_true p307
      replace q307 := eq_true q307
      go_wp2
      go_ret
      exact ⟨zt, zw⟩
     ·rw [if_neg c4] at H
      have c4b0 : decide (60 ≤ ((rd_T38 l0 x3_1).f0)) = false := decide_eq_false c4
      clear c4
      have H' := Aside0.mk H
      clear H
      have p307 : 0 ≤ (x3_1 : Int) := of_decide_eq_true za
      have q307 : x3_1 < (l0.length : Int) := of_decide_eq_true za
      obtain ⟨ad307, A307_4, c307_4, e307, hx307_0, hx307_1, hx307_2, hx307_3, hx307_4, hl307_4, hi307_4⟩ := at_T38 HR0.out x3_1 p307 q307
      cases e307
      have HR307_4 := Aside0.mk hi307_4
      have HC307_4 := Aside0.mk hl307_4
      clear hi307_4 hl307_4
      replace p307 := eq_true p307
      replace q307 := eq_true q307
      go_wp2
      go_roundg k1
      case measure => have := HK1.out; omega
      case rel => exact ⟨(wrap64 (x3_1 + 1)), zr, H', ⟨by have := HK1.out; omega⟩, zw⟩
    ·rw [if_neg c3] at H
     exact absurd H (by simp)
   ·rw [if_neg c2] at H
    have c2b0 : decide (x3_1 < (l0.length : Int)) = false := decide_eq_false c2
    clear c2
    obtain rfl := Option.some.inj H
    go_wp2
    go_ret
    exact ⟨zt, zw⟩

mutual
def boltingref04_Row.j0 : Nat → Bool → Int → Int → ByteArray → ByteArray → List (S45) → Option (Bool)
 | 0, _, _, _, _, _, _ => none
 | k + 1, x12, x309000, x309001, x309002, x309003, x309004 => if x12 = true then (if x309002.toList = ([] : List UInt8) then (some ((x309004.length : Int) == 0)) else (some false)) else (boltingref04_Row.l0 k 0 x309000 x309001 x309002 x309003 x309004)
def boltingref04_Row.l0 : Nat → Int → Int → Int → ByteArray → ByteArray → List (S45) → Option (Bool)
 | 0, _, _, _, _, _, _ => none
 | k + 1, x3, x309000, x309001, x309002, x309003, x309004 => if x3 < (x309004.length : Int) then (boltingref04_Row.l1 k x3 0 x309000 x309001 x309002 x309003 x309004) else (if x309001 = 0 then (if x309002.toList = ([] : List UInt8) then (some false) else (some (x309003.toList == ([] : List UInt8)))) else (some false))
def boltingref04_Row.l1 : Nat → Int → Int → Int → Int → ByteArray → ByteArray → List (S45) → Option (Bool)
 | 0, _, _, _, _, _, _, _ => none
 | k + 1, x3, x4, x309000, x309001, x309002, x309003, x309004 => if x4 < x3 then (if 0 ≤ x3 then (if x3 < (x309004.length : Int) then (if 0 ≤ x4 then (if x4 < (x309004.length : Int) then (if ((rd_T45 x309004 x3).f0).toList = ((rd_T45 x309004 x4).f0).toList then (some false) else (boltingref04_Row.l1 k x3 (wrap64 (x4 + 1)) x309000 x309001 x309002 x309003 x309004)) else (none)) else (none)) else (none)) else (none)) else (boltingref04_Row.l0 k (wrap64 (x3 + 1)) x309000 x309001 x309002 x309003 x309004)
end
def boltingref04_Row.f (k : Nat) (a0_0 : Int) (a0_1 : Int) (a0_2 : ByteArray) (a0_3 : ByteArray) (l0_4 : List (S45)) : Option (Bool) := if a0_1 = 1 then (boltingref04_Row.j0 k true a0_0 a0_1 a0_2 a0_3 l0_4) else (boltingref04_Row.j0 k (a0_1 == 2) a0_0 a0_1 a0_2 a0_3 l0_4)
set_option maxHeartbeats 8000000 in
set_option maxRecDepth 100000 in
theorem boltingref04_Row.calls (k : Nat) (a0_0 : Int) (a0_1 : Int) (a0_2 : ByteArray) (a0_3 : ByteArray) (A0_4 : Option Addr) (c0_4 : Nat) (l0_4 : List (S45)) (r : Bool) (w : World) (hr0_4 : Kd.C k45 w A0_4 l0_4.length l0_4) (hc0_4 : l0_4.length ≤ c0_4) (h : boltingref04_Row.f k a0_0 a0_1 a0_2 a0_3 l0_4 = some r) :
  Calls Tryz.prog 50 #[.agg #[.int .i64 a0_0, .int .i64 a0_1, .string a0_2, .string a0_3, .slice A0_4 l0_4.length c0_4]] w fun e w' => e = .returned (.bool r) ∧ Below w.heap.size w w' := by
 have hu38 := Tryz.underlying38
 have HR0_4 := Aside0.mk hr0_4
 have HC0_4 := Aside0.mk hc0_4
 clear hr0_4 hc0_4
 have HB := Aside0.mk (Below.refl w.heap.size w)
 have H : (if a0_1 = 1 then (boltingref04_Row.j0 k true a0_0 a0_1 a0_2 a0_3 l0_4) else (boltingref04_Row.j0 k (a0_1 == 2) a0_0 a0_1 a0_2 a0_3 l0_4)) = some r := h
 clear h
 have HC2 := Aside0.mk H
 clear H
 go_enter Tryz.func50, Tryz.ntmps50
 go_upto_region 1 with (first | ((with_reducible refine gate_dst (N := 1) rfl ?_); (try (refine gate_guard (by rfl) ?_; dsimp only)); refine box_event ?hg (N := 1) ?hd (cs := #[.int .i64 a0_0, .int .i64 a0_1, .string a0_2, .string a0_3, .slice A0_4 l0_4.length c0_4]) (t := 38) ?hr ?_; (case hd => rfl); (case hg => rfl); (case hr => first | (go_simp; done) | (go_simp; rfl)); intro gb308 hg w3 hbox hb; have n0_ := Aside0.mk (below_step (zb HB) hb); have n1_ := Aside0.mk (hbox); have n2_ := Aside0.mk ((by rw [hg]; exact (below_size (zb HB)) : w.heap.size ≤ gb308)); have n3_ := Aside0.mk ((by rw [hg]; exact (below_size (zb HB)) : w.heap.size ≤ gb308)); clear HB; have HB := n0_; have BK308 := n1_; have GW308 := n2_; have GE308 := n3_; clear n0_ n1_ n2_ n3_; clear hb hbox hg))
 repeat (go_quiet (first | ((with_reducible refine gate_dst (N := 1) rfl ?_); (try (refine gate_guard (by rfl) ?_; dsimp only)); refine box_event ?hg (N := 1) ?hd (cs := #[.int .i64 a0_0, .int .i64 a0_1, .string a0_2, .string a0_3, .slice A0_4 l0_4.length c0_4]) (t := 38) ?hr ?_; (case hd => rfl); (case hg => rfl); (case hr => first | (go_simp; done) | (go_simp; rfl)); intro gb308 hg w3 hbox hb; have n0_ := Aside0.mk (below_step (zb HB) hb); have n1_ := Aside0.mk (hbox); have n2_ := Aside0.mk ((by rw [hg]; exact (below_size (zb HB)) : w.heap.size ≤ gb308)); have n3_ := Aside0.mk ((by rw [hg]; exact (below_size (zb HB)) : w.heap.size ≤ gb308)); clear HB; have HB := n0_; have BK308 := n1_; have GW308 := n2_; have GE308 := n3_; clear n0_ n1_ n2_ n3_; clear hb hbox hg)); go_upto_region 1 with (first | ((with_reducible refine gate_dst (N := 1) rfl ?_); (try (refine gate_guard (by rfl) ?_; dsimp only)); refine box_event ?hg (N := 1) ?hd (cs := #[.int .i64 a0_0, .int .i64 a0_1, .string a0_2, .string a0_3, .slice A0_4 l0_4.length c0_4]) (t := 38) ?hr ?_; (case hd => rfl); (case hg => rfl); (case hr => first | (go_simp; done) | (go_simp; rfl)); intro gb308 hg w3 hbox hb; have n0_ := Aside0.mk (below_step (zb HB) hb); have n1_ := Aside0.mk (hbox); have n2_ := Aside0.mk ((by rw [hg]; exact (below_size (zb HB)) : w.heap.size ≤ gb308)); have n3_ := Aside0.mk ((by rw [hg]; exact (below_size (zb HB)) : w.heap.size ≤ gb308)); clear HB; have HB := n0_; have BK308 := n1_; have GW308 := n2_; have GE308 := n3_; clear n0_ n1_ n2_ n3_; clear hb hbox hg)))
 (try simp only [Act.put, List.setIfInBounds_toArray, List.set_cons_zero, List.set_cons_succ])
 go_cut [12] (fun v12 wc => ∃ (kq : Nat) (x12_1 : Bool), v12 = .bool x12_1 ∧ Aside0 (boltingref04_Row.j0 kq x12_1 a0_0 a0_1 a0_2 a0_3 l0_4 = some r) ∧ Aside0 (kq ≤ k) ∧ Aside0 (wc.heap[gb308]? = some (.cells #[.int .i64 a0_0, .int .i64 a0_1, .string a0_2, .string a0_3, (.slice A0_4 l0_4.length c0_4)] 38 (0, 0))) ∧ Aside0 (Below w.heap.size w wc))
 case first =>
  have H := HC2.out
  clear HC2
  by_cases c4 : a0_1 = 1
  ·rw [if_pos c4] at H
   have c4b0 : (a0_1 == 1) = true := beq_iff_eq.mpr c4
   have c4b1 : (a0_1 != 1) = false := bne_eq_false_iff_eq.mpr c4
   clear c4
   (first | rw [c4b0] | (simp only [i64_w, i32_w]; rw [c4b0]) | skip)
   have H' := Aside0.mk H
   clear H
   obtain ⟨hcz5_0, hcz5_1, hcz5_2, hcz5_3, hcz5_4, hfz5_0, hfz5_1, hfz5_2, hfz5_3, hfz5_4⟩ := cz5 BK308.out
   go_wp2
   repeat (go_quiet (fail); try go_wp2)
   go_meet
   case rel => exact ⟨_, (true), zr, H', ⟨by first | omega | exact Nat.le_refl _⟩, ⟨by exact BK308.out⟩, ⟨zb1 HB GE308⟩⟩
  ·rw [if_neg c4] at H
   have c4b0 : (a0_1 == 1) = false := beq_eq_false_iff_ne.mpr c4
   have c4b1 : (a0_1 != 1) = true := bne_iff_ne.mpr c4
   (first | rw [c4b0] | (simp only [i64_w, i32_w]; rw [c4b0]) | skip)
   have H' := Aside0.mk H
   clear H
   obtain ⟨hcz6_0, hcz6_1, hcz6_2, hcz6_3, hcz6_4, hfz6_0, hfz6_1, hfz6_2, hfz6_3, hfz6_4⟩ := cz5 BK308.out
   go_wp2
   repeat (go_quiet (fail); try go_wp2)
   go_meet
   case rel => exact ⟨_, ((a0_1 == 2)), zr, H', ⟨by first | omega | exact Nat.le_refl _⟩, ⟨by exact BK308.out⟩, ⟨zb1 HB GE308⟩⟩
 case rest =>
  clear HC2
  try clear p2
  try clear c4
  try clear c4b0
  try clear c4b1
  try clear c5
  try clear hcz5_0
  try clear hcz5_1
  try clear hcz5_2
  try clear hcz5_3
  try clear hcz5_4
  try clear hcz6_0
  try clear hcz6_1
  try clear hcz6_2
  try clear hcz6_3
  try clear hcz6_4
  try clear hfz5_0
  try clear hfz5_1
  try clear hfz5_2
  try clear hfz5_3
  try clear hfz5_4
  try clear hfz6_0
  try clear hfz6_1
  try clear hfz6_2
  try clear hfz6_3
  try clear hfz6_4
  obtain ⟨kq, x12_1, rfl, HA, HJ1, BK308, HB⟩ := hcut
  cases kq with
  | zero => exact absurd HA.out (by simp [boltingref04_Row.j0])
  | succ kj1 =>
   have H := HA.out
   clear HA
   simp only [boltingref04_Row.j0] at H
   by_cases c7 : x12_1 = true
   ·subst c7
    replace H : (if a0_2.toList = ([] : List UInt8) then (some ((l0_4.length : Int) == 0)) else (some false)) = some r := by rw [if_pos rfl] at H; exact H
    by_cases c8 : a0_2.toList = ([] : List UInt8)
    ·rw [if_pos c8] at H
     have c8b0 : (a0_2.toList == ([] : List UInt8)) = true := beq_iff_eq.mpr c8
     have c8b1 : (a0_2.toList != ([] : List UInt8)) = false := bne_eq_false_iff_eq.mpr c8
     clear c8
     obtain rfl := Option.some.inj H
     obtain ⟨hcz9_0, hcz9_1, hcz9_2, hcz9_3, hcz9_4, hfz9_0, hfz9_1, hfz9_2, hfz9_3, hfz9_4⟩ := cz5 BK308.out
     go_wp2
     repeat (go_quiet (fail); try go_wp2)
     go_ret
     exact ⟨ze, zb1 HB GE308⟩
    ·rw [if_neg c8] at H
     have c8b0 : (a0_2.toList == ([] : List UInt8)) = false := beq_eq_false_iff_ne.mpr c8
     have c8b1 : (a0_2.toList != ([] : List UInt8)) = true := bne_iff_ne.mpr c8
     obtain rfl := Option.some.inj H
     obtain ⟨hcz10_0, hcz10_1, hcz10_2, hcz10_3, hcz10_4, hfz10_0, hfz10_1, hfz10_2, hfz10_3, hfz10_4⟩ := cz5 BK308.out
     go_wp2
     repeat (go_quiet (fail); try go_wp2)
     go_ret
     exact ⟨ze, zb1 HB GE308⟩
   ·replace c7 := Bool.eq_false_iff.mpr c7
    subst c7
    replace H : (boltingref04_Row.l0 kj1 0 a0_0 a0_1 a0_2 a0_3 l0_4) = some r := by rw [if_neg (show ¬ (false = true) by decide)] at H; exact H
    have H' := Aside0.mk H
    clear H
    go_wp2
    repeat (go_quiet (fail); try go_wp2)
    go_loopg [3] kj1 (fun kq v3 w' => ∃ (x3_2 : Int), v3 = .int .i64 x3_2 ∧ Aside0 (boltingref04_Row.l0 kq x3_2 a0_0 a0_1 a0_2 a0_3 l0_4 = some r) ∧ Aside0 (kq ≤ kj1) ∧ Aside0 (w'.heap[gb308]? = some (.cells #[.int .i64 a0_0, .int .i64 a0_1, .string a0_2, .string a0_3, (.slice A0_4 l0_4.length c0_4)] 38 (0, 0))) ∧ Aside0 (Below w.heap.size w w'))
    case atStart => exact ⟨(0), zr, H', ⟨Nat.le_refl _⟩, ⟨by exact BK308.out⟩, ⟨zb1 HB GE308⟩⟩
    case round =>
     clear H'
     try clear p2
     try clear c4
     try clear c4b0
     try clear c4b1
     try clear c5
     try clear c7
     try clear c8
     try clear c8b0
     try clear c8b1
     try clear hcz10_0
     try clear hcz10_1
     try clear hcz10_2
     try clear hcz10_3
     try clear hcz10_4
     try clear hcz5_0
     try clear hcz5_1
     try clear hcz5_2
     try clear hcz5_3
     try clear hcz5_4
     try clear hcz6_0
     try clear hcz6_1
     try clear hcz6_2
     try clear hcz6_3
     try clear hcz6_4
     try clear hcz9_0
     try clear hcz9_1
     try clear hcz9_2
     try clear hcz9_3
     try clear hcz9_4
     try clear hfz10_0
     try clear hfz10_1
     try clear hfz10_2
     try clear hfz10_3
     try clear hfz10_4
     try clear hfz5_0
     try clear hfz5_1
     try clear hfz5_2
     try clear hfz5_3
     try clear hfz5_4
     try clear hfz6_0
     try clear hfz6_1
     try clear hfz6_2
     try clear hfz6_3
     try clear hfz6_4
     try clear hfz9_0
     try clear hfz9_1
     try clear hfz9_2
     try clear hfz9_3
     try clear hfz9_4
     try clear p2
     obtain ⟨x3_2, rfl, HA, HK2, BK308, HB⟩ := hrel
     cases gk with
     | zero => exact absurd HA.out (by simp [boltingref04_Row.l0])
     | succ k2 =>
      have H := HA.out
      clear HA
      simp only [boltingref04_Row.l0] at H
      by_cases c11 : x3_2 < (l0_4.length : Int)
      ·rw [if_pos c11] at H
       have c11b0 : decide (x3_2 < (l0_4.length : Int)) = true := decide_eq_true c11
       clear c11
       have H' := Aside0.mk H
       clear H
       obtain ⟨hcz12_0, hcz12_1, hcz12_2, hcz12_3, hcz12_4, hfz12_0, hfz12_1, hfz12_2, hfz12_3, hfz12_4⟩ := cz5 BK308.out
       go_wp2
       repeat (go_quiet (fail); try go_wp2)
       go_loopg [4] k2 (fun kq v4 w' => ∃ (x4_3 : Int), v4 = .int .i64 x4_3 ∧ Aside0 (boltingref04_Row.l1 kq x3_2 x4_3 a0_0 a0_1 a0_2 a0_3 l0_4 = some r) ∧ Aside0 (kq ≤ k2) ∧ Aside0 (w'.heap[gb308]? = some (.cells #[.int .i64 a0_0, .int .i64 a0_1, .string a0_2, .string a0_3, (.slice A0_4 l0_4.length c0_4)] 38 (0, 0))) ∧ Aside0 (Below w.heap.size w w'))
       case atStart => exact ⟨(0), zr, H', ⟨Nat.le_refl _⟩, ⟨by exact BK308.out⟩, ⟨zb1 HB GE308⟩⟩
       case round =>
        clear H'
        try clear c1
        try clear p2
        try clear c4
        try clear c4b0
        try clear c4b1
        try clear c5
        try clear c7
        try clear c8
        try clear c8b0
        try clear c8b1
        try clear c11
        try clear c11b0
        try clear hcz10_0
        try clear hcz10_1
        try clear hcz10_2
        try clear hcz10_3
        try clear hcz10_4
        try clear hcz12_0
        try clear hcz12_1
        try clear hcz12_2
        try clear hcz12_3
        try clear hcz12_4
        try clear hcz5_0
        try clear hcz5_1
        try clear hcz5_2
        try clear hcz5_3
        try clear hcz5_4
        try clear hcz6_0
        try clear hcz6_1
        try clear hcz6_2
        try clear hcz6_3
        try clear hcz6_4
        try clear hcz9_0
        try clear hcz9_1
        try clear hcz9_2
        try clear hcz9_3
        try clear hcz9_4
        try clear hfz10_0
        try clear hfz10_1
        try clear hfz10_2
        try clear hfz10_3
        try clear hfz10_4
        try clear hfz12_0
        try clear hfz12_1
        try clear hfz12_2
        try clear hfz12_3
        try clear hfz12_4
        try clear hfz5_0
        try clear hfz5_1
        try clear hfz5_2
        try clear hfz5_3
        try clear hfz5_4
        try clear hfz6_0
        try clear hfz6_1
        try clear hfz6_2
        try clear hfz6_3
        try clear hfz6_4
        try clear hfz9_0
        try clear hfz9_1
        try clear hfz9_2
        try clear hfz9_3
        try clear hfz9_4
        try clear p2
        obtain ⟨x4_3, rfl, HA, HK3, BK308, HB⟩ := hrel
        cases gk with
        | zero => exact absurd HA.out (by simp [boltingref04_Row.l1])
        | succ k3 =>
         have H := HA.out
         clear HA
         simp only [boltingref04_Row.l1] at H
         by_cases c13 : x4_3 < x3_2
         ·rw [if_pos c13] at H
          have c13b0 : decide (x4_3 < x3_2) = true := decide_eq_true c13
          clear c13
          by_cases c14 : 0 ≤ x3_2
          ·rw [if_pos c14] at H
           have c14b0 : decide (0 ≤ x3_2) = true := decide_eq_true c14
           clear c14
           by_cases c15 : x3_2 < (l0_4.length : Int)
           ·rw [if_pos c15] at H
            have c15b0 : decide (x3_2 < (l0_4.length : Int)) = true := decide_eq_true c15
            clear c15
            by_cases c16 : 0 ≤ x4_3
            ·rw [if_pos c16] at H
             have c16b0 : decide (0 ≤ x4_3) = true := decide_eq_true c16
             clear c16
             by_cases c17 : x4_3 < (l0_4.length : Int)
             ·rw [if_pos c17] at H
              have c17b0 : decide (x4_3 < (l0_4.length : Int)) = true := decide_eq_true c17
              clear c17
              by_cases c18 : ((rd_T45 l0_4 x3_2).f0).toList = ((rd_T45 l0_4 x4_3).f0).toList
              ·rw [if_pos c18] at H
               have c18b0 : (((rd_T45 l0_4 x3_2).f0).toList == ((rd_T45 l0_4 x4_3).f0).toList) = true := beq_iff_eq.mpr c18
               have c18b1 : (((rd_T45 l0_4 x3_2).f0).toList != ((rd_T45 l0_4 x4_3).f0).toList) = false := bne_eq_false_iff_eq.mpr c18
               clear c18
               obtain rfl := Option.some.inj H
               obtain ⟨hcz19_0, hcz19_1, hcz19_2, hcz19_3, hcz19_4, hfz19_0, hfz19_1, hfz19_2, hfz19_3, hfz19_4⟩ := cz5 BK308.out
               have p309 : 0 ≤ (x3_2 : Int) := of_decide_eq_true za
               have q309 : x3_2 < (l0_4.length : Int) := of_decide_eq_true za
               obtain ⟨ad309, e309, hx309_0, hx309_1⟩ := at_T45 HR0_4.out x3_2 p309 q309
               cases e309
               replace hx309_0 := (HB.out.cell (World.block_lt_of_cell? w _ hx309_0)).trans hx309_0
               replace hx309_1 := (HB.out.cell (World.block_lt_of_cell? w _ hx309_1)).trans hx309_1
               replace p309 := eq_true p309
               replace q309 := eq_true q309
               have p310 : 0 ≤ (x4_3 : Int) := of_decide_eq_true za
               have q310 : x4_3 < (l0_4.length : Int) := of_decide_eq_true za
               obtain ⟨ad310, e310, hx310_0, hx310_1⟩ := at_T45 HR0_4.out x4_3 p310 q310
               obtain rfl : ad309 = ad310 := (by injection e310)
               replace hx310_0 := (HB.out.cell (World.block_lt_of_cell? w _ hx310_0)).trans hx310_0
               replace hx310_1 := (HB.out.cell (World.block_lt_of_cell? w _ hx310_1)).trans hx310_1
               replace p310 := eq_true p310
               replace q310 := eq_true q310
               go_wp2
               repeat (go_quiet (fail); try go_wp2)
               go_ret
               exact ⟨ze, zb1 HB GE308⟩
              ·rw [if_neg c18] at H
               have c18b0 : (((rd_T45 l0_4 x3_2).f0).toList == ((rd_T45 l0_4 x4_3).f0).toList) = false := beq_eq_false_iff_ne.mpr c18
               have c18b1 : (((rd_T45 l0_4 x3_2).f0).toList != ((rd_T45 l0_4 x4_3).f0).toList) = true := bne_iff_ne.mpr c18
               have H' := Aside0.mk H
               clear H
               obtain ⟨hcz20_0, hcz20_1, hcz20_2, hcz20_3, hcz20_4, hfz20_0, hfz20_1, hfz20_2, hfz20_3, hfz20_4⟩ := cz5 BK308.out
               have p309 : 0 ≤ (x3_2 : Int) := of_decide_eq_true za
               have q309 : x3_2 < (l0_4.length : Int) := of_decide_eq_true za
               obtain ⟨ad309, e309, hx309_0, hx309_1⟩ := at_T45 HR0_4.out x3_2 p309 q309
               cases e309
               replace hx309_0 := (HB.out.cell (World.block_lt_of_cell? w _ hx309_0)).trans hx309_0
               replace hx309_1 := (HB.out.cell (World.block_lt_of_cell? w _ hx309_1)).trans hx309_1
               replace p309 := eq_true p309
               replace q309 := eq_true q309
               have p310 : 0 ≤ (x4_3 : Int) := of_decide_eq_true za
               have q310 : x4_3 < (l0_4.length : Int) := of_decide_eq_true za
               obtain ⟨ad310, e310, hx310_0, hx310_1⟩ := at_T45 HR0_4.out x4_3 p310 q310
               obtain rfl : ad309 = ad310 := (by injection e310)
               replace hx310_0 := (HB.out.cell (World.block_lt_of_cell? w _ hx310_0)).trans hx310_0
               replace hx310_1 := (HB.out.cell (World.block_lt_of_cell? w _ hx310_1)).trans hx310_1
               replace p310 := eq_true p310
               replace q310 := eq_true q310
               go_wp2
               repeat (go_quiet (fail); try go_wp2)
               go_roundg k3
               case measure => have := HJ1.out; have := HK2.out; have := HK3.out; omega
               case rel => exact ⟨(wrap64 (x4_3 + 1)), zr, H', ⟨by have := HJ1.out; have := HK2.out; have := HK3.out; omega⟩, ⟨by exact BK308.out⟩, ⟨zb1 HB GE308⟩⟩
             ·rw [if_neg c17] at H
              exact absurd H (by simp)
            ·rw [if_neg c16] at H
             exact absurd H (by simp)
           ·rw [if_neg c15] at H
            exact absurd H (by simp)
          ·rw [if_neg c14] at H
           exact absurd H (by simp)
         ·rw [if_neg c13] at H
          have c13b0 : decide (x4_3 < x3_2) = false := decide_eq_false c13
          clear c13
          have H' := Aside0.mk H
          clear H
          go_wp2
          repeat (go_quiet (fail); try go_wp2)
          go_roundg k3
          case measure => have := HJ1.out; have := HK2.out; have := HK3.out; omega
          case rel => exact ⟨(wrap64 (x3_2 + 1)), zr, H', ⟨by have := HJ1.out; have := HK2.out; have := HK3.out; omega⟩, ⟨by exact BK308.out⟩, ⟨zb1 HB GE308⟩⟩
      ·rw [if_neg c11] at H
       have c11b0 : decide (x3_2 < (l0_4.length : Int)) = false := decide_eq_false c11
       clear c11
       by_cases c21 : a0_1 = 0
       ·rw [if_pos c21] at H
        have c21b0 : (a0_1 == 0) = true := beq_iff_eq.mpr c21
        have c21b1 : (a0_1 != 0) = false := bne_eq_false_iff_eq.mpr c21
        clear c21
        by_cases c22 : a0_2.toList = ([] : List UInt8)
        ·rw [if_pos c22] at H
         have c22b0 : (a0_2.toList == ([] : List UInt8)) = true := beq_iff_eq.mpr c22
         have c22b1 : (a0_2.toList != ([] : List UInt8)) = false := bne_eq_false_iff_eq.mpr c22
         clear c22
         obtain rfl := Option.some.inj H
         obtain ⟨hcz23_0, hcz23_1, hcz23_2, hcz23_3, hcz23_4, hfz23_0, hfz23_1, hfz23_2, hfz23_3, hfz23_4⟩ := cz5 BK308.out
         go_wp2
         repeat (go_quiet (fail); try go_wp2)
         go_ret
         exact ⟨ze, zb1 HB GE308⟩
        ·rw [if_neg c22] at H
         have c22b0 : (a0_2.toList == ([] : List UInt8)) = false := beq_eq_false_iff_ne.mpr c22
         have c22b1 : (a0_2.toList != ([] : List UInt8)) = true := bne_iff_ne.mpr c22
         obtain rfl := Option.some.inj H
         obtain ⟨hcz24_0, hcz24_1, hcz24_2, hcz24_3, hcz24_4, hfz24_0, hfz24_1, hfz24_2, hfz24_3, hfz24_4⟩ := cz5 BK308.out
         go_wp2
         repeat (go_quiet (fail); try go_wp2)
         go_ret
         exact ⟨ze, zb1 HB GE308⟩
       ·rw [if_neg c21] at H
        have c21b0 : (a0_1 == 0) = false := beq_eq_false_iff_ne.mpr c21
        have c21b1 : (a0_1 != 0) = true := bne_iff_ne.mpr c21
        obtain rfl := Option.some.inj H
        obtain ⟨hcz25_0, hcz25_1, hcz25_2, hcz25_3, hcz25_4, hfz25_0, hfz25_1, hfz25_2, hfz25_3, hfz25_4⟩ := cz5 BK308.out
        go_wp2
        repeat (go_quiet (fail); try go_wp2)
        go_ret
        exact ⟨ze, zb1 HB GE308⟩

end Go.Proofs.YticacakoefojbaaGreat.Pr
namespace Go.Proofs.YticacakoefojbaaGreat.Pr
open Go.RowKit Go.Proofs.YticacakoefojbaaGreatW.PrintWords Go.Proofs.YticacakoefojbaaGreatW.PrintLast Go.Proofs.YticacakoefojbaaGreatW.PrintMore
attribute [local go_sem] max2_int min2_int max_two min_two max_three min_three max_four min_four   -- for this text's walks alone
set_option linter.unusedVariables false
set_option linter.unusedSimpArgs false

mutual
def boltingref04_Right.l0 : Nat → List (S38) → Int → Option (Bool)
 | 0, _, _ => none
 | k + 1, x0, x3 => if x3 < (x0.length : Int) then (if 0 ≤ x3 then ((boltingref04_Row.f k ((rd_T38 x0 x3).f0) ((rd_T38 x0 x3).f1) ((rd_T38 x0 x3).f2) ((rd_T38 x0 x3).f3) ((rd_T38 x0 x3).f4)).bind fun t313 => (if t313 = true then (if ((rd_T38 x0 x3).f0) < 0 then (boltingref04_Right.j1 k x0 x3 ((rd_T38 x0 x3).f0) true) else (if x3 = 0 then (boltingref04_Right.j1 k x0 x3 ((rd_T38 x0 x3).f0) (((rd_T38 x0 x3).f0) != 0)) else (boltingref04_Right.j1 k x0 x3 ((rd_T38 x0 x3).f0) false))) else (boltingref04_Right.j1 k x0 x3 ((rd_T38 x0 x3).f0) true))) else (none)) else (some true)
def boltingref04_Right.j1 : Nat → List (S38) → Int → Int → Bool → Option (Bool)
 | 0, _, _, _, _ => none
 | k + 1, x0, x3, x4, x33 => if x33 = true then (some false) else (if x3 > 0 then (if 0 ≤ (wrap64 (x3 - 1)) then (if (wrap64 (x3 - 1)) < (x0.length : Int) then (if x4 > (wrap64 (((rd_T38 x0 (wrap64 (x3 - 1))).f0) + 1)) then (some false) else (if x4 = (wrap64 (((rd_T38 x0 (wrap64 (x3 - 1))).f0) + 1)) then (if ((rd_T38 x0 (wrap64 (x3 - 1))).f1) = 0 then (boltingref04_Right.l0 k x0 (wrap64 (x3 + 1))) else (some false)) else (boltingref04_Right.l0 k x0 (wrap64 (x3 + 1))))) else (none)) else (none)) else (boltingref04_Right.l0 k x0 (wrap64 (x3 + 1))))
end
def boltingref04_Right.f (k : Nat) (l0 : List (S38)) : Option (Bool) := boltingref04_Right.l0 k l0 0
set_option maxHeartbeats 8000000 in
set_option maxRecDepth 100000 in
theorem boltingref04_Right.calls (k : Nat) (A0 : Option Addr) (c0 : Nat) (l0 : List (S38)) (r : Bool) (w : World) (hr0 : Kd.C k38 w A0 l0.length l0) (hc0 : l0.length ≤ c0) (h : boltingref04_Right.f k l0 = some r) :
  Calls Tryz.prog 30 #[.slice A0 l0.length c0] w fun e w' => e = .returned (.bool r) ∧ Below w.heap.size w w' := by
 have hu38 := Tryz.underlying38
 have HR0 := Aside0.mk hr0
 have HC0 := Aside0.mk hc0
 clear hr0 hc0
 have HB := Aside0.mk (Below.refl w.heap.size w)
 have H : (boltingref04_Right.l0 k l0 0) = some r := h
 clear h
 have H' := Aside0.mk H
 clear H
 go_enter Tryz.func30, Tryz.ntmps30
 go_wp2
 go_loopg [3] k (fun kq v3 w' => ∃ (x3_1 : Int), v3 = .int .i64 x3_1 ∧ Aside0 (boltingref04_Right.l0 kq l0 x3_1 = some r) ∧ Aside0 (kq ≤ k) ∧ Aside0 (Below w.heap.size w w'))
 case atStart => exact ⟨(0), zr, H', ⟨Nat.le_refl _⟩, ⟨zb HB⟩⟩
 case round =>
  clear H'
  obtain ⟨x3_1, rfl, HA, HK1, HB⟩ := hrel
  cases gk with
  | zero => exact absurd HA.out (by simp [boltingref04_Right.l0])
  | succ k1 =>
   have H := HA.out
   clear HA
   simp only [boltingref04_Right.l0] at H
   by_cases c2 : x3_1 < (l0.length : Int)
   ·rw [if_pos c2] at H
    have c2b0 : decide (x3_1 < (l0.length : Int)) = true := decide_eq_true c2
    clear c2
    by_cases c3 : 0 ≤ x3_1
    ·rw [if_pos c3] at H
     have c3b0 : decide (0 ≤ x3_1) = true := decide_eq_true c3
     clear c3
     have HC4 := Aside0.mk H
     clear H
     have p311 : 0 ≤ (x3_1 : Int) := of_decide_eq_true za
     have q311 : x3_1 < (l0.length : Int) := of_decide_eq_true za
     obtain ⟨ad311, A311_4, c311_4, e311, hx311_0, hx311_1, hx311_2, hx311_3, hx311_4, hl311_4, hi311_4⟩ := at_T38 HR0.out x3_1 p311 q311
     cases e311
     replace hx311_0 := (HB.out.cell (World.block_lt_of_cell? w _ hx311_0)).trans hx311_0
     replace hx311_1 := (HB.out.cell (World.block_lt_of_cell? w _ hx311_1)).trans hx311_1
     replace hx311_2 := (HB.out.cell (World.block_lt_of_cell? w _ hx311_2)).trans hx311_2
     replace hx311_3 := (HB.out.cell (World.block_lt_of_cell? w _ hx311_3)).trans hx311_3
     replace hx311_4 := (HB.out.cell (World.block_lt_of_cell? w _ hx311_4)).trans hx311_4
     have HR311_4 := Aside0.mk hi311_4
     have HC311_4 := Aside0.mk hl311_4
     clear hi311_4 hl311_4
     replace p311 := eq_true p311
     replace q311 := eq_true q311
     go_upto_region 5 with (fail)
     go_cut [33] (fun v33 wc => ∃ (kq : Nat) (x33_3 : Bool), v33 = .bool x33_3 ∧ Aside0 (boltingref04_Right.j1 kq l0 x3_1 ((rd_T38 l0 x3_1).f0) x33_3 = some r) ∧ Aside0 (kq ≤ k1) ∧ Aside0 (Below w.heap.size w wc))
     case first =>
      have H := HC4.out
      clear HC4
      replace H := Option.bind_eq_some_iff.mp H
      obtain ⟨t313, A50, H⟩ := H
      have A5 := Aside0.mk A50
      clear A50
      by_cases c6 : t313 = true
      ·subst c6
       replace H : (if ((rd_T38 l0 x3_1).f0) < 0 then (boltingref04_Right.j1 k1 l0 x3_1 ((rd_T38 l0 x3_1).f0) true) else (if x3_1 = 0 then (boltingref04_Right.j1 k1 l0 x3_1 ((rd_T38 l0 x3_1).f0) (((rd_T38 l0 x3_1).f0) != 0)) else (boltingref04_Right.j1 k1 l0 x3_1 ((rd_T38 l0 x3_1).f0) false))) = some r := by rw [if_pos rfl] at H; exact H
       by_cases c7 : ((rd_T38 l0 x3_1).f0) < 0
       ·rw [if_pos c7] at H
        have c7b0 : decide (((rd_T38 l0 x3_1).f0) < 0) = true := decide_eq_true c7
        clear c7
        (first | rw [c7b0] | (simp only [i64_w, i32_w]; rw [c7b0]) | skip)
        have H' := Aside0.mk H
        clear H
        have p312 : 0 ≤ (x3_1 : Int) := of_decide_eq_true za
        have q312 : x3_1 < (l0.length : Int) := of_decide_eq_true za
        obtain ⟨ad312, A312_4, c312_4, e312, hx312_0, hx312_1, hx312_2, hx312_3, hx312_4, hl312_4, hi312_4⟩ := at_T38 HR0.out x3_1 p312 q312
        obtain rfl : ad311 = ad312 := (by injection e312)
        replace hx312_0 := (HB.out.cell (World.block_lt_of_cell? w _ hx312_0)).trans hx312_0
        replace hx312_1 := (HB.out.cell (World.block_lt_of_cell? w _ hx312_1)).trans hx312_1
        replace hx312_2 := (HB.out.cell (World.block_lt_of_cell? w _ hx312_2)).trans hx312_2
        replace hx312_3 := (HB.out.cell (World.block_lt_of_cell? w _ hx312_3)).trans hx312_3
        replace hx312_4 := (HB.out.cell (World.block_lt_of_cell? w _ hx312_4)).trans hx312_4
        (try (have eq_ := hx312_4.symm.trans hx311_4; simp only [Option.some.injEq, Value.slice.injEq] at eq_; obtain ⟨eqA_, _, eqc_⟩ := eq_; subst eqA_; subst eqc_))
        have HR312_4 := Aside0.mk hi312_4
        have HC312_4 := Aside0.mk hl312_4
        clear hi312_4 hl312_4
        replace p312 := eq_true p312
        replace q312 := eq_true q312
        go_wp2_with (first | ((with_reducible refine gate_callee (f := 50) rfl ?_); refine goesL_ (some 20) rfl rfl Tryz.func50 (by kernel_rfl) rfl #[.agg #[.int .i64 ((rd_T38 l0 x3_1).f0), .int .i64 ((rd_T38 l0 x3_1).f1), .string ((rd_T38 l0 x3_1).f2), .string ((rd_T38 l0 x3_1).f3), .slice A312_4 ((rd_T38 l0 x3_1).f4).length c312_4]] rfl zm ?_; (with_reducible refine (boltingref04_Row.calls k1 ((rd_T38 l0 x3_1).f0) ((rd_T38 l0 x3_1).f1) ((rd_T38 l0 x3_1).f2) ((rd_T38 l0 x3_1).f3) _ _ ((rd_T38 l0 x3_1).f4) true _ ?side1 ?side2 A5.out).mono ?_); (case side1 => exact zc (Kd.C_below HR312_4.out HB.out)); (case side2 => exact HC312_4.out); rintro e w8 ⟨rfl, hb⟩; refine ⟨_, rfl, ?_⟩; have n0_ := Aside0.mk (below_step (zb HB) hb); clear HB; have HB := n0_; clear n0_; (try clear hb)))
        go_meet
        case rel => exact ⟨_, (true), zr, H', ⟨by have := HK1.out; first | omega | exact Nat.le_refl _⟩, ⟨zb HB⟩⟩
       ·rw [if_neg c7] at H
        have c7b0 : decide (((rd_T38 l0 x3_1).f0) < 0) = false := decide_eq_false c7
        clear c7
        (first | rw [c7b0] | (simp only [i64_w, i32_w]; rw [c7b0]) | skip)
        by_cases c9 : x3_1 = 0
        ·rw [if_pos c9] at H
         have c9b0 : (x3_1 == 0) = true := beq_iff_eq.mpr c9
         have c9b1 : (x3_1 != 0) = false := bne_eq_false_iff_eq.mpr c9
         clear c9
         have H' := Aside0.mk H
         clear H
         have p312 : 0 ≤ (x3_1 : Int) := of_decide_eq_true za
         have q312 : x3_1 < (l0.length : Int) := of_decide_eq_true za
         obtain ⟨ad312, A312_4, c312_4, e312, hx312_0, hx312_1, hx312_2, hx312_3, hx312_4, hl312_4, hi312_4⟩ := at_T38 HR0.out x3_1 p312 q312
         obtain rfl : ad311 = ad312 := (by injection e312)
         replace hx312_0 := (HB.out.cell (World.block_lt_of_cell? w _ hx312_0)).trans hx312_0
         replace hx312_1 := (HB.out.cell (World.block_lt_of_cell? w _ hx312_1)).trans hx312_1
         replace hx312_2 := (HB.out.cell (World.block_lt_of_cell? w _ hx312_2)).trans hx312_2
         replace hx312_3 := (HB.out.cell (World.block_lt_of_cell? w _ hx312_3)).trans hx312_3
         replace hx312_4 := (HB.out.cell (World.block_lt_of_cell? w _ hx312_4)).trans hx312_4
         (try (have eq_ := hx312_4.symm.trans hx311_4; simp only [Option.some.injEq, Value.slice.injEq] at eq_; obtain ⟨eqA_, _, eqc_⟩ := eq_; subst eqA_; subst eqc_))
         have HR312_4 := Aside0.mk hi312_4
         have HC312_4 := Aside0.mk hl312_4
         clear hi312_4 hl312_4
         replace p312 := eq_true p312
         replace q312 := eq_true q312
         go_wp2_with (first | ((with_reducible refine gate_callee (f := 50) rfl ?_); refine goesL_ (some 20) rfl rfl Tryz.func50 (by kernel_rfl) rfl #[.agg #[.int .i64 ((rd_T38 l0 x3_1).f0), .int .i64 ((rd_T38 l0 x3_1).f1), .string ((rd_T38 l0 x3_1).f2), .string ((rd_T38 l0 x3_1).f3), .slice A312_4 ((rd_T38 l0 x3_1).f4).length c312_4]] rfl zm ?_; (with_reducible refine (boltingref04_Row.calls k1 ((rd_T38 l0 x3_1).f0) ((rd_T38 l0 x3_1).f1) ((rd_T38 l0 x3_1).f2) ((rd_T38 l0 x3_1).f3) _ _ ((rd_T38 l0 x3_1).f4) true _ ?side1 ?side2 A5.out).mono ?_); (case side1 => exact zc (Kd.C_below HR312_4.out HB.out)); (case side2 => exact HC312_4.out); rintro e w10 ⟨rfl, hb⟩; refine ⟨_, rfl, ?_⟩; have n0_ := Aside0.mk (below_step (zb HB) hb); clear HB; have HB := n0_; clear n0_; (try clear hb)))
         go_meet
         case rel => exact ⟨_, ((((rd_T38 l0 x3_1).f0) != 0)), zr, H', ⟨by have := HK1.out; first | omega | exact Nat.le_refl _⟩, ⟨zb HB⟩⟩
        ·rw [if_neg c9] at H
         have c9b0 : (x3_1 == 0) = false := beq_eq_false_iff_ne.mpr c9
         have c9b1 : (x3_1 != 0) = true := bne_iff_ne.mpr c9
         have H' := Aside0.mk H
         clear H
         have p312 : 0 ≤ (x3_1 : Int) := of_decide_eq_true za
         have q312 : x3_1 < (l0.length : Int) := of_decide_eq_true za
         obtain ⟨ad312, A312_4, c312_4, e312, hx312_0, hx312_1, hx312_2, hx312_3, hx312_4, hl312_4, hi312_4⟩ := at_T38 HR0.out x3_1 p312 q312
         obtain rfl : ad311 = ad312 := (by injection e312)
         replace hx312_0 := (HB.out.cell (World.block_lt_of_cell? w _ hx312_0)).trans hx312_0
         replace hx312_1 := (HB.out.cell (World.block_lt_of_cell? w _ hx312_1)).trans hx312_1
         replace hx312_2 := (HB.out.cell (World.block_lt_of_cell? w _ hx312_2)).trans hx312_2
         replace hx312_3 := (HB.out.cell (World.block_lt_of_cell? w _ hx312_3)).trans hx312_3
         replace hx312_4 := (HB.out.cell (World.block_lt_of_cell? w _ hx312_4)).trans hx312_4
         (try (have eq_ := hx312_4.symm.trans hx311_4; simp only [Option.some.injEq, Value.slice.injEq] at eq_; obtain ⟨eqA_, _, eqc_⟩ := eq_; subst eqA_; subst eqc_))
         have HR312_4 := Aside0.mk hi312_4
         have HC312_4 := Aside0.mk hl312_4
         clear hi312_4 hl312_4
         replace p312 := eq_true p312
         replace q312 := eq_true q312
         go_wp2_with (first | ((with_reducible refine gate_callee (f := 50) rfl ?_); refine goesL_ (some 20) rfl rfl Tryz.func50 (by kernel_rfl) rfl #[.agg #[.int .i64 ((rd_T38 l0 x3_1).f0), .int .i64 ((rd_T38 l0 x3_1).f1), .string ((rd_T38 l0 x3_1).f2), .string ((rd_T38 l0 x3_1).f3), .slice A312_4 ((rd_T38 l0 x3_1).f4).length c312_4]] rfl zm ?_; (with_reducible refine (boltingref04_Row.calls k1 ((rd_T38 l0 x3_1).f0) ((rd_T38 l0 x3_1).f1) ((rd_T38 l0 x3_1).f2) ((rd_T38 l0 x3_1).f3) _ _ ((rd_T38 l0 x3_1).f4) true _ ?side1 ?side2 A5.out).mono ?_); (case side1 => exact zc (Kd.C_below HR312_4.out HB.out)); (case side2 => exact HC312_4.out); rintro e w11 ⟨rfl, hb⟩; refine ⟨_, rfl, ?_⟩; have n0_ := Aside0.mk (below_step (zb HB) hb); clear HB; have HB := n0_; clear n0_; (try clear hb)))
         go_meet
         case rel => exact ⟨_, (false), zr, H', ⟨by have := HK1.out; first | omega | exact Nat.le_refl _⟩, ⟨zb HB⟩⟩
      ·replace c6 := Bool.eq_false_iff.mpr c6
       subst c6
       replace H : (boltingref04_Right.j1 k1 l0 x3_1 ((rd_T38 l0 x3_1).f0) true) = some r := by rw [if_neg (show ¬ (false = true) by decide)] at H; exact H
       have H' := Aside0.mk H
       clear H
       have p312 : 0 ≤ (x3_1 : Int) := of_decide_eq_true za
       have q312 : x3_1 < (l0.length : Int) := of_decide_eq_true za
       obtain ⟨ad312, A312_4, c312_4, e312, hx312_0, hx312_1, hx312_2, hx312_3, hx312_4, hl312_4, hi312_4⟩ := at_T38 HR0.out x3_1 p312 q312
       obtain rfl : ad311 = ad312 := (by injection e312)
       replace hx312_0 := (HB.out.cell (World.block_lt_of_cell? w _ hx312_0)).trans hx312_0
       replace hx312_1 := (HB.out.cell (World.block_lt_of_cell? w _ hx312_1)).trans hx312_1
       replace hx312_2 := (HB.out.cell (World.block_lt_of_cell? w _ hx312_2)).trans hx312_2
       replace hx312_3 := (HB.out.cell (World.block_lt_of_cell? w _ hx312_3)).trans hx312_3
       replace hx312_4 := (HB.out.cell (World.block_lt_of_cell? w _ hx312_4)).trans hx312_4
       (try (have eq_ := hx312_4.symm.trans hx311_4; simp only [Option.some.injEq, Value.slice.injEq] at eq_; obtain ⟨eqA_, _, eqc_⟩ := eq_; subst eqA_; subst eqc_))
       have HR312_4 := Aside0.mk hi312_4
       have HC312_4 := Aside0.mk hl312_4
       clear hi312_4 hl312_4
       replace p312 := eq_true p312
       replace q312 := eq_true q312
       go_wp2_with (first | ((with_reducible refine gate_callee (f := 50) rfl ?_); refine goesL_ (some 20) rfl rfl Tryz.func50 (by kernel_rfl) rfl #[.agg #[.int .i64 ((rd_T38 l0 x3_1).f0), .int .i64 ((rd_T38 l0 x3_1).f1), .string ((rd_T38 l0 x3_1).f2), .string ((rd_T38 l0 x3_1).f3), .slice A312_4 ((rd_T38 l0 x3_1).f4).length c312_4]] rfl zm ?_; (with_reducible refine (boltingref04_Row.calls k1 ((rd_T38 l0 x3_1).f0) ((rd_T38 l0 x3_1).f1) ((rd_T38 l0 x3_1).f2) ((rd_T38 l0 x3_1).f3) _ _ ((rd_T38 l0 x3_1).f4) false _ ?side1 ?side2 A5.out).mono ?_); (case side1 => exact zc (Kd.C_below HR312_4.out HB.out)); (case side2 => exact HC312_4.out); rintro e w12 ⟨rfl, hb⟩; refine ⟨_, rfl, ?_⟩; have n0_ := Aside0.mk (below_step (zb HB) hb); clear HB; have HB := n0_; clear n0_; (try clear hb)))
       go_meet
       case rel => exact ⟨_, (true), zr, H', ⟨by have := HK1.out; first | omega | exact Nat.le_refl _⟩, ⟨zb HB⟩⟩
     case rest =>
      clear HC4
      try clear c2
      try clear c2b0
      try clear p2
      try clear c3
      try clear c3b0
      try clear p3
      try clear q3
      try clear hx3
      try clear c5
      try clear c6
      try clear c7
      try clear c7b0
      try clear c9
      try clear c9b0
      try clear c9b1
      try clear hx311_0
      try clear hx311_1
      try clear hx311_2
      try clear hx311_3
      try clear hx311_4
      try clear hx312_0
      try clear hx312_1
      try clear hx312_2
      try clear hx312_3
      try clear hx312_4
      try clear p311
      try clear p312
      try clear q311
      try clear q312
      obtain ⟨kq, x33_3, rfl, HA, HJ3, HB⟩ := hcut
      cases kq with
      | zero => exact absurd HA.out (by simp [boltingref04_Right.j1])
      | succ kj3 =>
       have H := HA.out
       clear HA
       simp only [boltingref04_Right.j1] at H
       by_cases c13 : x33_3 = true
       ·subst c13
        replace H : (some false) = some r := by rw [if_pos rfl] at H; exact H
        obtain rfl := Option.some.inj H
        go_wp2
        go_ret
        exact ⟨ze, zb HB⟩
       ·replace c13 := Bool.eq_false_iff.mpr c13
        subst c13
        replace H : (if x3_1 > 0 then (if 0 ≤ (wrap64 (x3_1 - 1)) then (if (wrap64 (x3_1 - 1)) < (l0.length : Int) then (if ((rd_T38 l0 x3_1).f0) > (wrap64 (((rd_T38 l0 (wrap64 (x3_1 - 1))).f0) + 1)) then (some false) else (if ((rd_T38 l0 x3_1).f0) = (wrap64 (((rd_T38 l0 (wrap64 (x3_1 - 1))).f0) + 1)) then (if ((rd_T38 l0 (wrap64 (x3_1 - 1))).f1) = 0 then (boltingref04_Right.l0 kj3 l0 (wrap64 (x3_1 + 1))) else (some false)) else (boltingref04_Right.l0 kj3 l0 (wrap64 (x3_1 + 1))))) else (none)) else (none)) else (boltingref04_Right.l0 kj3 l0 (wrap64 (x3_1 + 1)))) = some r := by rw [if_neg (show ¬ (false = true) by decide)] at H; exact H
        by_cases c14 : x3_1 > 0
        ·rw [if_pos c14] at H
         have c14b0 : decide (0 < x3_1) = true := decide_eq_true c14
         clear c14
         obtain ⟨ji15, hji15⟩ : ∃ j_ : Int, (wrap64 (x3_1 - 1)) = j_ := ⟨_, rfl⟩
         replace H : (if 0 ≤ (ji15) then (if (ji15) < (l0.length : Int) then (if ((rd_T38 l0 x3_1).f0) > (wrap64 (((rd_T38 l0 (ji15)).f0) + 1)) then (some false) else (if ((rd_T38 l0 x3_1).f0) = (wrap64 (((rd_T38 l0 (ji15)).f0) + 1)) then (if ((rd_T38 l0 (ji15)).f1) = 0 then (boltingref04_Right.l0 kj3 l0 (wrap64 (x3_1 + 1))) else (some false)) else (boltingref04_Right.l0 kj3 l0 (wrap64 (x3_1 + 1))))) else (none)) else (none)) = some r := by first | (rw [hji15] at H; exact H) | (simp only [hji15] at H ⊢; exact H)
         have hji15w : (IntKind.i64.wrap (x3_1 - 1)) = ji15 := (i64_w _).trans hji15
         by_cases c16 : 0 ≤ (ji15)
         ·rw [if_pos c16] at H
          have c16b0 : decide (0 ≤ (ji15)) = true := decide_eq_true c16
          clear c16
          by_cases c17 : (ji15) < (l0.length : Int)
          ·rw [if_pos c17] at H
           have c17b0 : decide ((ji15) < (l0.length : Int)) = true := decide_eq_true c17
           clear c17
           by_cases c18 : ((rd_T38 l0 x3_1).f0) > (wrap64 (((rd_T38 l0 (ji15)).f0) + 1))
           ·rw [if_pos c18] at H
            have c18b0 : decide ((wrap64 (((rd_T38 l0 (ji15)).f0) + 1)) < ((rd_T38 l0 x3_1).f0)) = true := decide_eq_true c18
            clear c18
            obtain rfl := Option.some.inj H
            have p314 : 0 ≤ ((ji15) : Int) := of_decide_eq_true za
            have q314 : (ji15) < (l0.length : Int) := of_decide_eq_true za
            obtain ⟨ad314, A314_4, c314_4, e314, hx314_0, hx314_1, hx314_2, hx314_3, hx314_4, hl314_4, hi314_4⟩ := at_T38 HR0.out (ji15) p314 q314
            obtain rfl : ad311 = ad314 := (by injection e314)
            replace hx314_0 := (HB.out.cell (World.block_lt_of_cell? w _ hx314_0)).trans hx314_0
            replace hx314_1 := (HB.out.cell (World.block_lt_of_cell? w _ hx314_1)).trans hx314_1
            replace hx314_2 := (HB.out.cell (World.block_lt_of_cell? w _ hx314_2)).trans hx314_2
            replace hx314_3 := (HB.out.cell (World.block_lt_of_cell? w _ hx314_3)).trans hx314_3
            replace hx314_4 := (HB.out.cell (World.block_lt_of_cell? w _ hx314_4)).trans hx314_4
            (try (have eq_ := hx314_4.symm.trans hx311_4; simp only [Option.some.injEq, Value.slice.injEq] at eq_; obtain ⟨eqA_, _, eqc_⟩ := eq_; subst eqA_; subst eqc_))
            have HR314_4 := Aside0.mk hi314_4
            have HC314_4 := Aside0.mk hl314_4
            clear hi314_4 hl314_4
            replace p314 := eq_true p314
            replace q314 := eq_true q314
            go_wp2
            go_ret
            exact ⟨by first | rfl | (simp [errW_none, errW_some] <;> rfl) | (simp only [← hji15]; first | rfl | (simp [errW_none, errW_some] <;> rfl)) | (simp [*, errW_none, errW_some] <;> rfl), zb HB⟩
           ·rw [if_neg c18] at H
            have c18b0 : decide ((wrap64 (((rd_T38 l0 (ji15)).f0) + 1)) < ((rd_T38 l0 x3_1).f0)) = false := decide_eq_false c18
            clear c18
            by_cases c19 : ((rd_T38 l0 x3_1).f0) = (wrap64 (((rd_T38 l0 (ji15)).f0) + 1))
            ·rw [if_pos c19] at H
             have c19b0 : (((rd_T38 l0 x3_1).f0) == (wrap64 (((rd_T38 l0 (ji15)).f0) + 1))) = true := beq_iff_eq.mpr c19
             have c19b1 : (((rd_T38 l0 x3_1).f0) != (wrap64 (((rd_T38 l0 (ji15)).f0) + 1))) = false := bne_eq_false_iff_eq.mpr c19
             clear c19
             by_cases c20 : ((rd_T38 l0 (ji15)).f1) = 0
             ·rw [if_pos c20] at H
              have c20b0 : (((rd_T38 l0 (ji15)).f1) == 0) = true := beq_iff_eq.mpr c20
              have c20b1 : (((rd_T38 l0 (ji15)).f1) != 0) = false := bne_eq_false_iff_eq.mpr c20
              clear c20
              have H' := Aside0.mk H
              clear H
              have p314 : 0 ≤ ((ji15) : Int) := of_decide_eq_true za
              have q314 : (ji15) < (l0.length : Int) := of_decide_eq_true za
              obtain ⟨ad314, A314_4, c314_4, e314, hx314_0, hx314_1, hx314_2, hx314_3, hx314_4, hl314_4, hi314_4⟩ := at_T38 HR0.out (ji15) p314 q314
              obtain rfl : ad311 = ad314 := (by injection e314)
              replace hx314_0 := (HB.out.cell (World.block_lt_of_cell? w _ hx314_0)).trans hx314_0
              replace hx314_1 := (HB.out.cell (World.block_lt_of_cell? w _ hx314_1)).trans hx314_1
              replace hx314_2 := (HB.out.cell (World.block_lt_of_cell? w _ hx314_2)).trans hx314_2
              replace hx314_3 := (HB.out.cell (World.block_lt_of_cell? w _ hx314_3)).trans hx314_3
              replace hx314_4 := (HB.out.cell (World.block_lt_of_cell? w _ hx314_4)).trans hx314_4
              (try (have eq_ := hx314_4.symm.trans hx311_4; simp only [Option.some.injEq, Value.slice.injEq] at eq_; obtain ⟨eqA_, _, eqc_⟩ := eq_; subst eqA_; subst eqc_))
              have HR314_4 := Aside0.mk hi314_4
              have HC314_4 := Aside0.mk hl314_4
              clear hi314_4 hl314_4
              replace p314 := eq_true p314
              replace q314 := eq_true q314
              have p315 : 0 ≤ ((ji15) : Int) := of_decide_eq_true za
              have q315 : (ji15) < (l0.length : Int) := of_decide_eq_true za
              obtain ⟨ad315, A315_4, c315_4, e315, hx315_0, hx315_1, hx315_2, hx315_3, hx315_4, hl315_4, hi315_4⟩ := at_T38 HR0.out (ji15) p315 q315
              obtain rfl : ad311 = ad315 := (by injection e315)
              replace hx315_0 := (HB.out.cell (World.block_lt_of_cell? w _ hx315_0)).trans hx315_0
              replace hx315_1 := (HB.out.cell (World.block_lt_of_cell? w _ hx315_1)).trans hx315_1
              replace hx315_2 := (HB.out.cell (World.block_lt_of_cell? w _ hx315_2)).trans hx315_2
              replace hx315_3 := (HB.out.cell (World.block_lt_of_cell? w _ hx315_3)).trans hx315_3
              replace hx315_4 := (HB.out.cell (World.block_lt_of_cell? w _ hx315_4)).trans hx315_4
              (try (have eq_ := hx315_4.symm.trans hx311_4; simp only [Option.some.injEq, Value.slice.injEq] at eq_; obtain ⟨eqA_, _, eqc_⟩ := eq_; subst eqA_; subst eqc_))
              have HR315_4 := Aside0.mk hi315_4
              have HC315_4 := Aside0.mk hl315_4
              clear hi315_4 hl315_4
              replace p315 := eq_true p315
              replace q315 := eq_true q315
              have ea_ := Option.some.inj (hx314_4.symm.trans hx315_4)
              injection ea_ with ea_ en_ ec_
              subst ea_
              subst ec_
              clear en_
              have p316 : 0 ≤ ((ji15) : Int) := of_decide_eq_true za
              have q316 : (ji15) < (l0.length : Int) := of_decide_eq_true za
              obtain ⟨ad316, A316_4, c316_4, e316, hx316_0, hx316_1, hx316_2, hx316_3, hx316_4, hl316_4, hi316_4⟩ := at_T38 HR0.out (ji15) p316 q316
              obtain rfl : ad311 = ad316 := (by injection e316)
              replace hx316_0 := (HB.out.cell (World.block_lt_of_cell? w _ hx316_0)).trans hx316_0
              replace hx316_1 := (HB.out.cell (World.block_lt_of_cell? w _ hx316_1)).trans hx316_1
              replace hx316_2 := (HB.out.cell (World.block_lt_of_cell? w _ hx316_2)).trans hx316_2
              replace hx316_3 := (HB.out.cell (World.block_lt_of_cell? w _ hx316_3)).trans hx316_3
              replace hx316_4 := (HB.out.cell (World.block_lt_of_cell? w _ hx316_4)).trans hx316_4
              (try (have eq_ := hx316_4.symm.trans hx311_4; simp only [Option.some.injEq, Value.slice.injEq] at eq_; obtain ⟨eqA_, _, eqc_⟩ := eq_; subst eqA_; subst eqc_))
              have HR316_4 := Aside0.mk hi316_4
              have HC316_4 := Aside0.mk hl316_4
              clear hi316_4 hl316_4
              replace p316 := eq_true p316
              replace q316 := eq_true q316
              have ea_ := Option.some.inj (hx314_4.symm.trans hx316_4)
              injection ea_ with ea_ en_ ec_
              subst ea_
              subst ec_
              clear en_
              go_wp2
              go_roundg kj3
              case measure => have := HK1.out; have := HJ3.out; omega
              case rel => exact ⟨(wrap64 (x3_1 + 1)), zr, H', ⟨by have := HK1.out; have := HJ3.out; omega⟩, ⟨zb HB⟩⟩
             ·rw [if_neg c20] at H
              have c20b0 : (((rd_T38 l0 (ji15)).f1) == 0) = false := beq_eq_false_iff_ne.mpr c20
              have c20b1 : (((rd_T38 l0 (ji15)).f1) != 0) = true := bne_iff_ne.mpr c20
              obtain rfl := Option.some.inj H
              have p314 : 0 ≤ ((ji15) : Int) := of_decide_eq_true za
              have q314 : (ji15) < (l0.length : Int) := of_decide_eq_true za
              obtain ⟨ad314, A314_4, c314_4, e314, hx314_0, hx314_1, hx314_2, hx314_3, hx314_4, hl314_4, hi314_4⟩ := at_T38 HR0.out (ji15) p314 q314
              obtain rfl : ad311 = ad314 := (by injection e314)
              replace hx314_0 := (HB.out.cell (World.block_lt_of_cell? w _ hx314_0)).trans hx314_0
              replace hx314_1 := (HB.out.cell (World.block_lt_of_cell? w _ hx314_1)).trans hx314_1
              replace hx314_2 := (HB.out.cell (World.block_lt_of_cell? w _ hx314_2)).trans hx314_2
              replace hx314_3 := (HB.out.cell (World.block_lt_of_cell? w _ hx314_3)).trans hx314_3
              replace hx314_4 := (HB.out.cell (World.block_lt_of_cell? w _ hx314_4)).trans hx314_4
              (try (have eq_ := hx314_4.symm.trans hx311_4; simp only [Option.some.injEq, Value.slice.injEq] at eq_; obtain ⟨eqA_, _, eqc_⟩ := eq_; subst eqA_; subst eqc_))
              have HR314_4 := Aside0.mk hi314_4
              have HC314_4 := Aside0.mk hl314_4
              clear hi314_4 hl314_4
              replace p314 := eq_true p314
              replace q314 := eq_true q314
              have p315 : 0 ≤ ((ji15) : Int) := of_decide_eq_true za
              have q315 : (ji15) < (l0.length : Int) := of_decide_eq_true za
              obtain ⟨ad315, A315_4, c315_4, e315, hx315_0, hx315_1, hx315_2, hx315_3, hx315_4, hl315_4, hi315_4⟩ := at_T38 HR0.out (ji15) p315 q315
              obtain rfl : ad311 = ad315 := (by injection e315)
              replace hx315_0 := (HB.out.cell (World.block_lt_of_cell? w _ hx315_0)).trans hx315_0
              replace hx315_1 := (HB.out.cell (World.block_lt_of_cell? w _ hx315_1)).trans hx315_1
              replace hx315_2 := (HB.out.cell (World.block_lt_of_cell? w _ hx315_2)).trans hx315_2
              replace hx315_3 := (HB.out.cell (World.block_lt_of_cell? w _ hx315_3)).trans hx315_3
              replace hx315_4 := (HB.out.cell (World.block_lt_of_cell? w _ hx315_4)).trans hx315_4
              (try (have eq_ := hx315_4.symm.trans hx311_4; simp only [Option.some.injEq, Value.slice.injEq] at eq_; obtain ⟨eqA_, _, eqc_⟩ := eq_; subst eqA_; subst eqc_))
              have HR315_4 := Aside0.mk hi315_4
              have HC315_4 := Aside0.mk hl315_4
              clear hi315_4 hl315_4
              replace p315 := eq_true p315
              replace q315 := eq_true q315
              have ea_ := Option.some.inj (hx314_4.symm.trans hx315_4)
              injection ea_ with ea_ en_ ec_
              subst ea_
              subst ec_
              clear en_
              have p316 : 0 ≤ ((ji15) : Int) := of_decide_eq_true za
              have q316 : (ji15) < (l0.length : Int) := of_decide_eq_true za
              obtain ⟨ad316, A316_4, c316_4, e316, hx316_0, hx316_1, hx316_2, hx316_3, hx316_4, hl316_4, hi316_4⟩ := at_T38 HR0.out (ji15) p316 q316
              obtain rfl : ad311 = ad316 := (by injection e316)
              replace hx316_0 := (HB.out.cell (World.block_lt_of_cell? w _ hx316_0)).trans hx316_0
              replace hx316_1 := (HB.out.cell (World.block_lt_of_cell? w _ hx316_1)).trans hx316_1
              replace hx316_2 := (HB.out.cell (World.block_lt_of_cell? w _ hx316_2)).trans hx316_2
              replace hx316_3 := (HB.out.cell (World.block_lt_of_cell? w _ hx316_3)).trans hx316_3
              replace hx316_4 := (HB.out.cell (World.block_lt_of_cell? w _ hx316_4)).trans hx316_4
              (try (have eq_ := hx316_4.symm.trans hx311_4; simp only [Option.some.injEq, Value.slice.injEq] at eq_; obtain ⟨eqA_, _, eqc_⟩ := eq_; subst eqA_; subst eqc_))
              have HR316_4 := Aside0.mk hi316_4
              have HC316_4 := Aside0.mk hl316_4
              clear hi316_4 hl316_4
              replace p316 := eq_true p316
              replace q316 := eq_true q316
              have ea_ := Option.some.inj (hx314_4.symm.trans hx316_4)
              injection ea_ with ea_ en_ ec_
              subst ea_
              subst ec_
              clear en_
              go_wp2
              go_ret
              exact ⟨by first | rfl | (simp [errW_none, errW_some] <;> rfl) | (simp only [← hji15]; first | rfl | (simp [errW_none, errW_some] <;> rfl)) | (simp [*, errW_none, errW_some] <;> rfl), zb HB⟩
            ·rw [if_neg c19] at H
             have c19b0 : (((rd_T38 l0 x3_1).f0) == (wrap64 (((rd_T38 l0 (ji15)).f0) + 1))) = false := beq_eq_false_iff_ne.mpr c19
             have c19b1 : (((rd_T38 l0 x3_1).f0) != (wrap64 (((rd_T38 l0 (ji15)).f0) + 1))) = true := bne_iff_ne.mpr c19
             have H' := Aside0.mk H
             clear H
             have p314 : 0 ≤ ((ji15) : Int) := of_decide_eq_true za
             have q314 : (ji15) < (l0.length : Int) := of_decide_eq_true za
             obtain ⟨ad314, A314_4, c314_4, e314, hx314_0, hx314_1, hx314_2, hx314_3, hx314_4, hl314_4, hi314_4⟩ := at_T38 HR0.out (ji15) p314 q314
             obtain rfl : ad311 = ad314 := (by injection e314)
             replace hx314_0 := (HB.out.cell (World.block_lt_of_cell? w _ hx314_0)).trans hx314_0
             replace hx314_1 := (HB.out.cell (World.block_lt_of_cell? w _ hx314_1)).trans hx314_1
             replace hx314_2 := (HB.out.cell (World.block_lt_of_cell? w _ hx314_2)).trans hx314_2
             replace hx314_3 := (HB.out.cell (World.block_lt_of_cell? w _ hx314_3)).trans hx314_3
             replace hx314_4 := (HB.out.cell (World.block_lt_of_cell? w _ hx314_4)).trans hx314_4
             (try (have eq_ := hx314_4.symm.trans hx311_4; simp only [Option.some.injEq, Value.slice.injEq] at eq_; obtain ⟨eqA_, _, eqc_⟩ := eq_; subst eqA_; subst eqc_))
             have HR314_4 := Aside0.mk hi314_4
             have HC314_4 := Aside0.mk hl314_4
             clear hi314_4 hl314_4
             replace p314 := eq_true p314
             replace q314 := eq_true q314
             have p315 : 0 ≤ ((ji15) : Int) := of_decide_eq_true za
             have q315 : (ji15) < (l0.length : Int) := of_decide_eq_true za
             obtain ⟨ad315, A315_4, c315_4, e315, hx315_0, hx315_1, hx315_2, hx315_3, hx315_4, hl315_4, hi315_4⟩ := at_T38 HR0.out (ji15) p315 q315
             obtain rfl : ad311 = ad315 := (by injection e315)
             replace hx315_0 := (HB.out.cell (World.block_lt_of_cell? w _ hx315_0)).trans hx315_0
             replace hx315_1 := (HB.out.cell (World.block_lt_of_cell? w _ hx315_1)).trans hx315_1
             replace hx315_2 := (HB.out.cell (World.block_lt_of_cell? w _ hx315_2)).trans hx315_2
             replace hx315_3 := (HB.out.cell (World.block_lt_of_cell? w _ hx315_3)).trans hx315_3
             replace hx315_4 := (HB.out.cell (World.block_lt_of_cell? w _ hx315_4)).trans hx315_4
             (try (have eq_ := hx315_4.symm.trans hx311_4; simp only [Option.some.injEq, Value.slice.injEq] at eq_; obtain ⟨eqA_, _, eqc_⟩ := eq_; subst eqA_; subst eqc_))
             have HR315_4 := Aside0.mk hi315_4
             have HC315_4 := Aside0.mk hl315_4
             clear hi315_4 hl315_4
             replace p315 := eq_true p315
             replace q315 := eq_true q315
             have ea_ := Option.some.inj (hx314_4.symm.trans hx315_4)
             injection ea_ with ea_ en_ ec_
             subst ea_
             subst ec_
             clear en_
             go_wp2
             go_roundg kj3
             case measure => have := HK1.out; have := HJ3.out; omega
             case rel => exact ⟨(wrap64 (x3_1 + 1)), zr, H', ⟨by have := HK1.out; have := HJ3.out; omega⟩, ⟨zb HB⟩⟩
          ·rw [if_neg c17] at H
           exact absurd H (by simp)
         ·rw [if_neg c16] at H
          exact absurd H (by simp)
        ·rw [if_neg c14] at H
         have c14b0 : decide (0 < x3_1) = false := decide_eq_false c14
         clear c14
         have H' := Aside0.mk H
         clear H
         go_wp2
         go_roundg kj3
         case measure => have := HK1.out; have := HJ3.out; omega
         case rel => exact ⟨(wrap64 (x3_1 + 1)), zr, H', ⟨by have := HK1.out; have := HJ3.out; omega⟩, ⟨zb HB⟩⟩
    ·rw [if_neg c3] at H
     exact absurd H (by simp)
   ·rw [if_neg c2] at H
    have c2b0 : decide (x3_1 < (l0.length : Int)) = false := decide_eq_false c2
    clear c2
    obtain rfl := Option.some.inj H
    go_wp2
    go_ret
    exact ⟨ze, zb HB⟩

def boltingref04_Check.f (k : Nat) (l0 : List (S38)) : Option (Int) := (boltingref04_Big.f k l0).bind fun t317 => (if t317 = true then (some 2) else ((boltingref04_Right.f k l0).bind fun t318 => (if t318 = true then (some 0) else (some 40))))
set_option maxHeartbeats 8000000 in
set_option maxRecDepth 100000 in
theorem boltingref04_Check.calls (k : Nat) (A0 : Option Addr) (c0 : Nat) (l0 : List (S38)) (r : Int) (w : World) (hr0 : Kd.C k38 w A0 l0.length l0) (hc0 : l0.length ≤ c0) (h : boltingref04_Check.f k l0 = some r) :
  Calls Tryz.prog 11 #[.slice A0 l0.length c0] w fun e w' => e = .returned (.int .i64 r) ∧ Below w.heap.size w w' := by
 have HR0 := Aside0.mk hr0
 have HC0 := Aside0.mk hc0
 clear hr0 hc0
 have HB := Aside0.mk (Below.refl w.heap.size w)
 have H : ((boltingref04_Big.f k l0).bind fun t317 => (if t317 = true then (some 2) else ((boltingref04_Right.f k l0).bind fun t318 => (if t318 = true then (some 0) else (some 40))))) = some r := h
 clear h
 replace H := Option.bind_eq_some_iff.mp H
 obtain ⟨t317, A20, H⟩ := H
 have A2 := Aside0.mk A20
 clear A20
 by_cases c3 : t317 = true
 ·subst c3
  replace H : (some 2) = some r := by rw [if_pos rfl] at H; exact H
  obtain rfl := Option.some.inj H
  go_enter Tryz.func11, Tryz.ntmps11
  go_wp2_with (first | ((with_reducible refine gate_callee (f := 29) rfl ?_); refine goesL_ (some 4) rfl rfl Tryz.func29 (by kernel_rfl) rfl #[.slice A0 l0.length c0] rfl zm ?_; (with_reducible refine (boltingref04_Big.calls k _ _ l0 true _ ?side1 ?side2 A2.out).mono ?_); (case side1 => repeat (first | exact HR0.out | (with_reducible refine Kd.C_alloc ?_ _) | (with_reducible refine Kd.C_drewN ?_ _) | (with_reducible refine Kd.C_drew ?_))); (case side2 => exact HC0.out); rintro e w' ⟨rfl, ⟨nd, rfl⟩⟩; refine ⟨_, rfl, ?_⟩))
  go_ret
  exact ⟨ze, zb HB⟩
 ·replace c3 := Bool.eq_false_iff.mpr c3
  subst c3
  replace H : ((boltingref04_Right.f k l0).bind fun t318 => (if t318 = true then (some 0) else (some 40))) = some r := by rw [if_neg (show ¬ (false = true) by decide)] at H; exact H
  replace H := Option.bind_eq_some_iff.mp H
  obtain ⟨t318, A40, H⟩ := H
  have A4 := Aside0.mk A40
  clear A40
  by_cases c5 : t318 = true
  ·subst c5
   replace H : (some 0) = some r := by rw [if_pos rfl] at H; exact H
   obtain rfl := Option.some.inj H
   go_enter Tryz.func11, Tryz.ntmps11
   go_wp2_with (first | ((with_reducible refine gate_callee (f := 29) rfl ?_); refine goesL_ (some 4) rfl rfl Tryz.func29 (by kernel_rfl) rfl #[.slice A0 l0.length c0] rfl zm ?_; (with_reducible refine (boltingref04_Big.calls k _ _ l0 false _ ?side1 ?side2 A2.out).mono ?_); (case side1 => repeat (first | exact HR0.out | (with_reducible refine Kd.C_alloc ?_ _) | (with_reducible refine Kd.C_drewN ?_ _) | (with_reducible refine Kd.C_drew ?_))); (case side2 => exact HC0.out); rintro e w' ⟨rfl, ⟨nd, rfl⟩⟩; refine ⟨_, rfl, ?_⟩) | ((with_reducible refine gate_callee (f := 30) rfl ?_); refine goesL_ (some 6) rfl rfl Tryz.func30 (by kernel_rfl) rfl #[.slice A0 l0.length c0] rfl zm ?_; (with_reducible refine (boltingref04_Right.calls k _ _ l0 true _ ?side1 ?side2 A4.out).mono ?_); (case side1 => repeat (first | exact HR0.out | (with_reducible refine Kd.C_alloc ?_ _) | (with_reducible refine Kd.C_drewN ?_ _) | (with_reducible refine Kd.C_drew ?_))); (case side2 => exact HC0.out); rintro e w6 ⟨rfl, hb⟩; refine ⟨_, rfl, ?_⟩; have n0_ := Aside0.mk (below_step (zb HB) hb); clear HB; have HB := n0_; clear n0_; (try clear hb)))
   go_ret
   exact ⟨ze, zb HB⟩
  ·replace c5 := Bool.eq_false_iff.mpr c5
   subst c5
   replace H : (some 40) = some r := by rw [if_neg (show ¬ (false = true) by decide)] at H; exact H
   obtain rfl := Option.some.inj H
   go_enter Tryz.func11, Tryz.ntmps11
   go_wp2_with (first | ((with_reducible refine gate_callee (f := 29) rfl ?_); refine goesL_ (some 4) rfl rfl Tryz.func29 (by kernel_rfl) rfl #[.slice A0 l0.length c0] rfl zm ?_; (with_reducible refine (boltingref04_Big.calls k _ _ l0 false _ ?side1 ?side2 A2.out).mono ?_); (case side1 => repeat (first | exact HR0.out | (with_reducible refine Kd.C_alloc ?_ _) | (with_reducible refine Kd.C_drewN ?_ _) | (with_reducible refine Kd.C_drew ?_))); (case side2 => exact HC0.out); rintro e w' ⟨rfl, ⟨nd, rfl⟩⟩; refine ⟨_, rfl, ?_⟩) | ((with_reducible refine gate_callee (f := 30) rfl ?_); refine goesL_ (some 6) rfl rfl Tryz.func30 (by kernel_rfl) rfl #[.slice A0 l0.length c0] rfl zm ?_; (with_reducible refine (boltingref04_Right.calls k _ _ l0 false _ ?side1 ?side2 A4.out).mono ?_); (case side1 => repeat (first | exact HR0.out | (with_reducible refine Kd.C_alloc ?_ _) | (with_reducible refine Kd.C_drewN ?_ _) | (with_reducible refine Kd.C_drew ?_))); (case side2 => exact HC0.out); rintro e w7 ⟨rfl, hb⟩; refine ⟨_, rfl, ?_⟩; have n0_ := Aside0.mk (below_step (zb HB) hb); clear HB; have HB := n0_; clear n0_; (try clear hb)))
   go_ret
   exact ⟨ze, zb HB⟩

def boltingref04_Moved.l0 : Nat → List (S38) → Int → List (S38) → Int → Option ((List (S38)))
 | 0, _, _, _, _ => none
 | k + 1, x0, x1, x5, x6 => if x6 < (x0.length : Int) then (if 0 ≤ x6 then ((some (([] : List (S45)) : List (S45))).bind fun y324 => (if y324.length + ((rd_T38 x0 x6).f4).length < 4398046511104 then (if x5.length < 1954687338268 then (boltingref04_Moved.l0 k x0 x1 (x5 ++ [(⟨wrap64 (((rd_T38 x0 x6).f0) + x1), (rd_T38 x0 x6).f1, (rd_T38 x0 x6).f2, (rd_T38 x0 x6).f3, (y324 ++ ((rd_T38 x0 x6).f4))⟩ : S38)]) (wrap64 (x6 + 1))) else (none)) else (none))) else (none)) else (some x5)
def boltingref04_Moved.f (k : Nat) (l0 : List (S38)) (a1 : Int) : Option ((List (S38))) := boltingref04_Moved.l0 k l0 a1 (([] : List (S38))) 0
end Go.Proofs.YticacakoefojbaaGreat.Pr
namespace Go.Proofs.YticacakoefojbaaGreat.Pr
open Go.RowKit Go.Proofs.YticacakoefojbaaGreatW.PrintWords Go.Proofs.YticacakoefojbaaGreatW.PrintLast Go.Proofs.YticacakoefojbaaGreatW.PrintMore
attribute [local go_sem] max2_int min2_int max_two min_two max_three min_three max_four min_four   -- for this text's walks alone
set_option linter.unusedVariables false
set_option linter.unusedSimpArgs false

mutual
def risk_Safe.l0 : Nat → List (S38) → Int → Int → Option (Bool)
 | 0, _, _, _ => none
 | k + 1, x7, x8, x9 => if x9 < x8 then (if 0 ≤ x9 then (if x9 < (x7.length : Int) then (if ((rd_T38 x7 x9).f1) = 0 then ((risk_Element.f ((rd_T38 x7 x9).f2)).bind fun t470 => (if t470 = true then (some false) else (risk_Safe.l1 k x7 x8 x9 ((rd_T38 x7 x9).f4) (((rd_T38 x7 x9).f4).length : Int) 0 ((rd_T38 x7 x9).f0) ((rd_T38 x7 x9).f1) ((rd_T38 x7 x9).f2) ((rd_T38 x7 x9).f3) ((rd_T38 x7 x9).f4)))) else (risk_Safe.l0 k x7 x8 (wrap64 (x9 + 1)))) else (none)) else (none)) else (some true)
def risk_Safe.l1 : Nat → List (S38) → Int → Int → List (S45) → Int → Int → Int → Int → ByteArray → ByteArray → List (S45) → Option (Bool)
 | 0, _, _, _, _, _, _, _, _, _, _, _ => none
 | k + 1, x7, x8, x9, x20, x21, x22, x470000, x470001, x470002, x470003, x470004 => if x22 < x21 then (if 0 ≤ x22 then (if x22 < (x20.length : Int) then ((risk_Attr.f x470002 ((rd_T45 x20 x22).f0) ((rd_T45 x20 x22).f1)).bind fun t473 => (if t473 = true then (some false) else (risk_Safe.l1 k x7 x8 x9 x20 x21 (wrap64 (x22 + 1)) x470000 x470001 x470002 x470003 x470004))) else (none)) else (none)) else (risk_Safe.l0 k x7 x8 (wrap64 (x9 + 1)))
end
def risk_Safe.f (k : Nat) (l0 : List (S38)) : Option (Bool) := risk_Safe.l0 k l0 (l0.length : Int) 0
set_option maxHeartbeats 8000000 in
set_option maxRecDepth 100000 in
theorem risk_Safe.calls (k : Nat) (A0 : Option Addr) (c0 : Nat) (l0 : List (S38)) (r : Bool) (w : World) (hr0 : Kd.C k38 w A0 l0.length l0) (hc0 : l0.length ≤ c0) (h : risk_Safe.f k l0 = some r) :
  Calls Tryz.prog 17 #[.slice A0 l0.length c0] w fun e w' => e = .returned (.bool r) ∧ Below w.heap.size w w' := by
 have hu38 := Tryz.underlying38
 have hu45 := Tryz.underlying45
 have HR0 := Aside0.mk hr0
 have HC0 := Aside0.mk hc0
 clear hr0 hc0
 have HB := Aside0.mk (Below.refl w.heap.size w)
 have H : (risk_Safe.l0 k l0 (l0.length : Int) 0) = some r := h
 clear h
 have H' := Aside0.mk H
 clear H
 go_enter Tryz.func17, Tryz.ntmps17
 go_wp2
 go_loopg [9] k (fun kq v9 w' => ∃ (x9_1 : Int), v9 = .int .i64 x9_1 ∧ Aside0 (risk_Safe.l0 kq l0 (l0.length : Int) x9_1 = some r) ∧ Aside0 (kq ≤ k) ∧ Aside0 (Below w.heap.size w w'))
 case atStart => exact ⟨(0), zr, H', ⟨Nat.le_refl _⟩, ⟨zb HB⟩⟩
 case round =>
  clear H'
  try clear c1
  obtain ⟨x9_1, rfl, HA, HK1, HB⟩ := hrel
  cases gk with
  | zero => exact absurd HA.out (by simp [risk_Safe.l0])
  | succ k1 =>
   have H := HA.out
   clear HA
   simp only [risk_Safe.l0] at H
   by_cases c2 : x9_1 < (l0.length : Int)
   ·rw [if_pos c2] at H
    have c2b0 : decide (x9_1 < (l0.length : Int)) = true := decide_eq_true c2
    clear c2
    by_cases c3 : 0 ≤ x9_1
    ·rw [if_pos c3] at H
     have c3b0 : decide (0 ≤ x9_1) = true := decide_eq_true c3
     clear c3
     by_cases c4 : x9_1 < (l0.length : Int)
     ·rw [if_pos c4] at H
      have c4b0 : decide (x9_1 < (l0.length : Int)) = true := decide_eq_true c4
      clear c4
      by_cases c5 : ((rd_T38 l0 x9_1).f1) = 0
      ·rw [if_pos c5] at H
       have c5b0 : (((rd_T38 l0 x9_1).f1) == 0) = true := beq_iff_eq.mpr c5
       have c5b1 : (((rd_T38 l0 x9_1).f1) != 0) = false := bne_eq_false_iff_eq.mpr c5
       clear c5
       replace H := Option.bind_eq_some_iff.mp H
       obtain ⟨t470, A60, H⟩ := H
       have A6 := Aside0.mk A60
       clear A60
       by_cases c7 : t470 = true
       ·subst c7
        replace H : (some false) = some r := by rw [if_pos rfl] at H; exact H
        obtain rfl := Option.some.inj H
        have p468 : 0 ≤ (x9_1 : Int) := of_decide_eq_true za
        have q468 : x9_1 < (l0.length : Int) := of_decide_eq_true za
        obtain ⟨ad468, A468_4, c468_4, e468, hx468_0, hx468_1, hx468_2, hx468_3, hx468_4, hl468_4, hi468_4⟩ := at_T38 HR0.out x9_1 p468 q468
        cases e468
        replace hx468_0 := (HB.out.cell (World.block_lt_of_cell? w _ hx468_0)).trans hx468_0
        replace hx468_1 := (HB.out.cell (World.block_lt_of_cell? w _ hx468_1)).trans hx468_1
        replace hx468_2 := (HB.out.cell (World.block_lt_of_cell? w _ hx468_2)).trans hx468_2
        replace hx468_3 := (HB.out.cell (World.block_lt_of_cell? w _ hx468_3)).trans hx468_3
        replace hx468_4 := (HB.out.cell (World.block_lt_of_cell? w _ hx468_4)).trans hx468_4
        have HR468_4 := Aside0.mk hi468_4
        have HC468_4 := Aside0.mk hl468_4
        clear hi468_4 hl468_4
        replace p468 := eq_true p468
        replace q468 := eq_true q468
        go_wp2_with (first | ((with_reducible refine gate_dst (N := 4) rfl ?_); refine box_event ?hg (N := 4) ?hd (cs := #[.int .i64 0, .int .i64 0, .string (⟨#[]⟩ : ByteArray), .string (⟨#[]⟩ : ByteArray), .slice none 0 0]) (t := 38) ?hr ?_; (case hd => rfl); (case hg => rfl); (case hr => first | (go_simp; done) | (go_simp; rfl)); intro gb469 hg w8 hbox hb; have n0_ := Aside0.mk (below_step (zb HB) hb); have n1_ := Aside0.mk (hbox); have n3_ := Aside0.mk ((by rw [hg]; exact (below_size (zb HB)) : w.heap.size ≤ gb469)); clear HB; have HB := n0_; have BK469 := n1_; have GE469 := n3_; clear n0_ n1_ n3_; clear hb hbox hg; obtain ⟨hcz9_0, hcz9_1, hcz9_2, hcz9_3, hcz9_4, hfz9_0, hfz9_1, hfz9_2, hfz9_3, hfz9_4⟩ := cz5 BK469.out) | ((with_reducible refine gate_callee (f := 37) rfl ?_); refine goesL_ (some 18) rfl rfl Tryz.func37 (by kernel_rfl) rfl #[.string ((rd_T38 l0 x9_1).f2)] rfl zm ?_; (with_reducible refine (risk_Element.calls ((rd_T38 l0 x9_1).f2) true _ A6.out).mono ?_); rintro e w' ⟨rfl, ⟨nd, rfl⟩⟩; refine ⟨_, rfl, ?_⟩))
        go_ret
        exact ⟨ze, zb1 HB GE469⟩
       ·replace c7 := Bool.eq_false_iff.mpr c7
        subst c7
        replace H : (risk_Safe.l1 k1 l0 (l0.length : Int) x9_1 ((rd_T38 l0 x9_1).f4) (((rd_T38 l0 x9_1).f4).length : Int) 0 ((rd_T38 l0 x9_1).f0) ((rd_T38 l0 x9_1).f1) ((rd_T38 l0 x9_1).f2) ((rd_T38 l0 x9_1).f3) ((rd_T38 l0 x9_1).f4)) = some r := by rw [if_neg (show ¬ (false = true) by decide)] at H; exact H
        have H' := Aside0.mk H
        clear H
        have p468 : 0 ≤ (x9_1 : Int) := of_decide_eq_true za
        have q468 : x9_1 < (l0.length : Int) := of_decide_eq_true za
        obtain ⟨ad468, A468_4, c468_4, e468, hx468_0, hx468_1, hx468_2, hx468_3, hx468_4, hl468_4, hi468_4⟩ := at_T38 HR0.out x9_1 p468 q468
        cases e468
        replace hx468_0 := (HB.out.cell (World.block_lt_of_cell? w _ hx468_0)).trans hx468_0
        replace hx468_1 := (HB.out.cell (World.block_lt_of_cell? w _ hx468_1)).trans hx468_1
        replace hx468_2 := (HB.out.cell (World.block_lt_of_cell? w _ hx468_2)).trans hx468_2
        replace hx468_3 := (HB.out.cell (World.block_lt_of_cell? w _ hx468_3)).trans hx468_3
        replace hx468_4 := (HB.out.cell (World.block_lt_of_cell? w _ hx468_4)).trans hx468_4
        have HR468_4 := Aside0.mk hi468_4
        have HC468_4 := Aside0.mk hl468_4
        clear hi468_4 hl468_4
        replace p468 := eq_true p468
        replace q468 := eq_true q468
        go_wp2_with (first | ((with_reducible refine gate_dst (N := 4) rfl ?_); refine box_event ?hg (N := 4) ?hd (cs := #[.int .i64 0, .int .i64 0, .string (⟨#[]⟩ : ByteArray), .string (⟨#[]⟩ : ByteArray), .slice none 0 0]) (t := 38) ?hr ?_; (case hd => rfl); (case hg => rfl); (case hr => first | (go_simp; done) | (go_simp; rfl)); intro gb469 hg w10 hbox hb; have n0_ := Aside0.mk (below_step (zb HB) hb); have n1_ := Aside0.mk (hbox); have n3_ := Aside0.mk ((by rw [hg]; exact (below_size (zb HB)) : w.heap.size ≤ gb469)); clear HB; have HB := n0_; have BK469 := n1_; have GE469 := n3_; clear n0_ n1_ n3_; clear hb hbox hg; obtain ⟨hcz11_0, hcz11_1, hcz11_2, hcz11_3, hcz11_4, hfz11_0, hfz11_1, hfz11_2, hfz11_3, hfz11_4⟩ := cz5 BK469.out) | ((with_reducible refine gate_callee (f := 37) rfl ?_); refine goesL_ (some 18) rfl rfl Tryz.func37 (by kernel_rfl) rfl #[.string ((rd_T38 l0 x9_1).f2)] rfl zm ?_; (with_reducible refine (risk_Element.calls ((rd_T38 l0 x9_1).f2) false _ A6.out).mono ?_); rintro e w' ⟨rfl, ⟨nd, rfl⟩⟩; refine ⟨_, rfl, ?_⟩))
        go_loopg [22] k1 (fun kq v22 w' => ∃ (x22_2 : Int), v22 = .int .i64 x22_2 ∧ Aside0 (risk_Safe.l1 kq l0 (l0.length : Int) x9_1 ((rd_T38 l0 x9_1).f4) (((rd_T38 l0 x9_1).f4).length : Int) x22_2 ((rd_T38 l0 x9_1).f0) ((rd_T38 l0 x9_1).f1) ((rd_T38 l0 x9_1).f2) ((rd_T38 l0 x9_1).f3) ((rd_T38 l0 x9_1).f4) = some r) ∧ Aside0 (kq ≤ k1) ∧ Aside0 (w'.heap[gb469]? = some (.cells #[.int .i64 ((rd_T38 l0 x9_1).f0), .int .i64 ((rd_T38 l0 x9_1).f1), .string ((rd_T38 l0 x9_1).f2), .string ((rd_T38 l0 x9_1).f3), (.slice A468_4 ((rd_T38 l0 x9_1).f4).length c468_4)] 38 (0, 0))) ∧ Aside0 (Below w.heap.size w w'))
        case atStart => exact ⟨(0), zr, H', ⟨Nat.le_refl _⟩, ⟨by refine blk_put (cs := #[.int .i64 ((rd_T38 l0 x9_1).f0), .int .i64 ((rd_T38 l0 x9_1).f1), .string ((rd_T38 l0 x9_1).f2), .string ((rd_T38 l0 x9_1).f3), .slice none 0 0]) ?_ 4 _ rfl; refine blk_put (cs := #[.int .i64 ((rd_T38 l0 x9_1).f0), .int .i64 ((rd_T38 l0 x9_1).f1), .string ((rd_T38 l0 x9_1).f2), .string (⟨#[]⟩ : ByteArray), .slice none 0 0]) ?_ 3 _ rfl; refine blk_put (cs := #[.int .i64 ((rd_T38 l0 x9_1).f0), .int .i64 ((rd_T38 l0 x9_1).f1), .string (⟨#[]⟩ : ByteArray), .string (⟨#[]⟩ : ByteArray), .slice none 0 0]) ?_ 2 _ rfl; refine blk_put (cs := #[.int .i64 ((rd_T38 l0 x9_1).f0), .int .i64 0, .string (⟨#[]⟩ : ByteArray), .string (⟨#[]⟩ : ByteArray), .slice none 0 0]) ?_ 1 _ rfl; refine blk_put (cs := #[.int .i64 0, .int .i64 0, .string (⟨#[]⟩ : ByteArray), .string (⟨#[]⟩ : ByteArray), .slice none 0 0]) ?_ 0 _ rfl; exact BK469.out⟩, ⟨zb1 HB GE469⟩⟩
        case round =>
         clear H'
         try clear c1
         try clear c2
         try clear c2b0
         try clear p2
         try clear c3
         try clear c3b0
         try clear c4
         try clear c4b0
         try clear p4
         try clear q4
         try clear hx4
         try clear c5
         try clear c5b0
         try clear c5b1
         try clear c7
         try clear hcz11_0
         try clear hcz11_1
         try clear hcz11_2
         try clear hcz11_3
         try clear hcz11_4
         try clear hcz9_0
         try clear hcz9_1
         try clear hcz9_2
         try clear hcz9_3
         try clear hcz9_4
         try clear hfz11_0
         try clear hfz11_1
         try clear hfz11_2
         try clear hfz11_3
         try clear hfz11_4
         try clear hfz9_0
         try clear hfz9_1
         try clear hfz9_2
         try clear hfz9_3
         try clear hfz9_4
         try clear hx468_0
         try clear hx468_1
         try clear hx468_2
         try clear hx468_3
         try clear hx468_4
         try clear p468
         try clear q468
         obtain ⟨x22_2, rfl, HA, HK2, BK469, HB⟩ := hrel
         cases gk with
         | zero => exact absurd HA.out (by simp [risk_Safe.l1])
         | succ k2 =>
          have H := HA.out
          clear HA
          simp only [risk_Safe.l1] at H
          by_cases c12 : x22_2 < (((rd_T38 l0 x9_1).f4).length : Int)
          ·rw [if_pos c12] at H
           have c12b0 : decide (x22_2 < (((rd_T38 l0 x9_1).f4).length : Int)) = true := decide_eq_true c12
           clear c12
           by_cases c13 : 0 ≤ x22_2
           ·rw [if_pos c13] at H
            have c13b0 : decide (0 ≤ x22_2) = true := decide_eq_true c13
            clear c13
            by_cases c14 : x22_2 < (((rd_T38 l0 x9_1).f4).length : Int)
            ·rw [if_pos c14] at H
             have c14b0 : decide (x22_2 < (((rd_T38 l0 x9_1).f4).length : Int)) = true := decide_eq_true c14
             clear c14
             replace H := Option.bind_eq_some_iff.mp H
             obtain ⟨t473, A150, H⟩ := H
             have A15 := Aside0.mk A150
             clear A150
             by_cases c16 : t473 = true
             ·subst c16
              replace H : (some false) = some r := by rw [if_pos rfl] at H; exact H
              obtain rfl := Option.some.inj H
              have p471 : 0 ≤ (x22_2 : Int) := of_decide_eq_true za
              have q471 : x22_2 < (((rd_T38 l0 x9_1).f4).length : Int) := of_decide_eq_true za
              obtain ⟨ad471, e471, hx471_0, hx471_1⟩ := at_T45 HR468_4.out x22_2 p471 q471
              cases e471
              replace hx471_0 := (HB.out.cell (World.block_lt_of_cell? w _ hx471_0)).trans hx471_0
              replace hx471_1 := (HB.out.cell (World.block_lt_of_cell? w _ hx471_1)).trans hx471_1
              replace p471 := eq_true p471
              replace q471 := eq_true q471
              go_wp2_with (first | ((with_reducible refine gate_dst (N := 6) rfl ?_); refine box_event ?hg (N := 6) ?hd (cs := #[.string (⟨#[]⟩ : ByteArray), .string (⟨#[]⟩ : ByteArray)]) (t := 45) ?hr ?_; (case hd => rfl); (case hg => rfl); (case hr => first | (go_simp; done) | (go_simp; rfl)); intro gb472 hg w17 hbox hb; have n0_ := Aside0.mk (blk_below (by exact BK469.out) hb); have n1_ := Aside0.mk (below_step (zb1 HB GE469) hb); have n2_ := Aside0.mk (hbox); have n4_ := Aside0.mk ((by rw [hg]; exact (below_size (zb1 HB GE469)) : w.heap.size ≤ gb472)); have n5_ := Aside0.mk ((by rw [hg]; exact Nat.ne_of_lt (blk_lt (by exact BK469.out)) : gb469 ≠ gb472)); have n6_ := Aside0.mk ((by rw [hg]; exact Nat.ne_of_gt (blk_lt (by exact BK469.out)) : gb472 ≠ gb469)); clear BK469; clear HB; have BK469 := n0_; have HB := n1_; have BK472 := n2_; have GE472 := n4_; have NB469_472 := n5_; have NB472_469 := n6_; clear n0_ n1_ n2_ n4_ n5_ n6_; clear hb hbox hg; have hnb18 := NB472_469.out; have hnc18 := NB469_472.out; obtain ⟨hcz19_0, hcz19_1, hfz19_0, hfz19_1⟩ := cz2 BK472.out; obtain ⟨hcz20_0, hcz20_1, hcz20_2, hcz20_3, hcz20_4, hfz20_0, hfz20_1, hfz20_2, hfz20_3, hfz20_4⟩ := cz5 BK469.out) | ((with_reducible refine gate_callee (f := 38) rfl ?_); refine goesL_ (some 29) rfl rfl Tryz.func38 (by kernel_rfl) rfl #[.string ((rd_T38 l0 x9_1).f2), .agg #[.string ((rd_T45 ((rd_T38 l0 x9_1).f4) x22_2).f0), .string ((rd_T45 ((rd_T38 l0 x9_1).f4) x22_2).f1)]] rfl zm ?_; (with_reducible refine (risk_Attr.calls ((rd_T38 l0 x9_1).f2) ((rd_T45 ((rd_T38 l0 x9_1).f4) x22_2).f0) ((rd_T45 ((rd_T38 l0 x9_1).f4) x22_2).f1) true _ A15.out).mono ?_); rintro e w21 ⟨rfl, hb⟩; refine ⟨_, rfl, ?_⟩; have n2_ := Aside0.mk (below_step (zb2 HB GE469 GE472) hb); clear BK469; clear BK472; clear HB; have HB := n2_; clear n2_; (try clear hb)))
              go_ret
              exact ⟨ze, zb2 HB GE469 GE472⟩
             ·replace c16 := Bool.eq_false_iff.mpr c16
              subst c16
              replace H : (risk_Safe.l1 k2 l0 (l0.length : Int) x9_1 ((rd_T38 l0 x9_1).f4) (((rd_T38 l0 x9_1).f4).length : Int) (wrap64 (x22_2 + 1)) ((rd_T38 l0 x9_1).f0) ((rd_T38 l0 x9_1).f1) ((rd_T38 l0 x9_1).f2) ((rd_T38 l0 x9_1).f3) ((rd_T38 l0 x9_1).f4)) = some r := by rw [if_neg (show ¬ (false = true) by decide)] at H; exact H
              have H' := Aside0.mk H
              clear H
              have p471 : 0 ≤ (x22_2 : Int) := of_decide_eq_true za
              have q471 : x22_2 < (((rd_T38 l0 x9_1).f4).length : Int) := of_decide_eq_true za
              obtain ⟨ad471, e471, hx471_0, hx471_1⟩ := at_T45 HR468_4.out x22_2 p471 q471
              cases e471
              replace hx471_0 := (HB.out.cell (World.block_lt_of_cell? w _ hx471_0)).trans hx471_0
              replace hx471_1 := (HB.out.cell (World.block_lt_of_cell? w _ hx471_1)).trans hx471_1
              replace p471 := eq_true p471
              replace q471 := eq_true q471
              go_wp2_with (first | ((with_reducible refine gate_dst (N := 6) rfl ?_); refine box_event ?hg (N := 6) ?hd (cs := #[.string (⟨#[]⟩ : ByteArray), .string (⟨#[]⟩ : ByteArray)]) (t := 45) ?hr ?_; (case hd => rfl); (case hg => rfl); (case hr => first | (go_simp; done) | (go_simp; rfl)); intro gb472 hg w22 hbox hb; have n0_ := Aside0.mk (blk_below (by exact BK469.out) hb); have n1_ := Aside0.mk (below_step (zb1 HB GE469) hb); have n2_ := Aside0.mk (hbox); have n4_ := Aside0.mk ((by rw [hg]; exact (below_size (zb1 HB GE469)) : w.heap.size ≤ gb472)); have n5_ := Aside0.mk ((by rw [hg]; exact Nat.ne_of_lt (blk_lt (by exact BK469.out)) : gb469 ≠ gb472)); have n6_ := Aside0.mk ((by rw [hg]; exact Nat.ne_of_gt (blk_lt (by exact BK469.out)) : gb472 ≠ gb469)); clear BK469; clear HB; have BK469 := n0_; have HB := n1_; have BK472 := n2_; have GE472 := n4_; have NB469_472 := n5_; have NB472_469 := n6_; clear n0_ n1_ n2_ n4_ n5_ n6_; clear hb hbox hg; have hnb23 := NB472_469.out; have hnc23 := NB469_472.out; obtain ⟨hcz24_0, hcz24_1, hfz24_0, hfz24_1⟩ := cz2 BK472.out; obtain ⟨hcz25_0, hcz25_1, hcz25_2, hcz25_3, hcz25_4, hfz25_0, hfz25_1, hfz25_2, hfz25_3, hfz25_4⟩ := cz5 BK469.out) | ((with_reducible refine gate_callee (f := 38) rfl ?_); refine goesL_ (some 29) rfl rfl Tryz.func38 (by kernel_rfl) rfl #[.string ((rd_T38 l0 x9_1).f2), .agg #[.string ((rd_T45 ((rd_T38 l0 x9_1).f4) x22_2).f0), .string ((rd_T45 ((rd_T38 l0 x9_1).f4) x22_2).f1)]] rfl zm ?_; (with_reducible refine (risk_Attr.calls ((rd_T38 l0 x9_1).f2) ((rd_T45 ((rd_T38 l0 x9_1).f4) x22_2).f0) ((rd_T45 ((rd_T38 l0 x9_1).f4) x22_2).f1) false _ A15.out).mono ?_); rintro e w26 ⟨rfl, hb⟩; refine ⟨_, rfl, ?_⟩; have n0_ := Aside0.mk (blk_below (g := gb469) (o := .cells #[.int .i64 ((rd_T38 l0 x9_1).f0), .int .i64 ((rd_T38 l0 x9_1).f1), .string ((rd_T38 l0 x9_1).f2), .string ((rd_T38 l0 x9_1).f3), .slice (some ad471) ((rd_T38 l0 x9_1).f4).length c468_4] 38 (0, 0)) (by refine blk_far ?_ NB469_472.out _; refine blk_far ?_ NB469_472.out _; exact BK469.out) hb); have n2_ := Aside0.mk (below_step (zb2 HB GE469 GE472) hb); clear BK469; clear BK472; clear HB; have BK469 := n0_; have HB := n2_; clear n0_ n2_; (try clear hb)))
              go_roundg k2
              case measure => have := HK1.out; have := HK2.out; omega
              case rel => exact ⟨(wrap64 (x22_2 + 1)), zr, H', ⟨by have := HK1.out; have := HK2.out; omega⟩, ⟨by exact BK469.out⟩, ⟨zb2 HB GE469 GE472⟩⟩
            ·rw [if_neg c14] at H
             exact absurd H (by simp)
           ·rw [if_neg c13] at H
            exact absurd H (by simp)
          ·rw [if_neg c12] at H
           have c12b0 : decide (x22_2 < (((rd_T38 l0 x9_1).f4).length : Int)) = false := decide_eq_false c12
           clear c12
           have H' := Aside0.mk H
           clear H
           go_wp2
           go_roundg k2
           case measure => have := HK1.out; have := HK2.out; omega
           case rel => exact ⟨(wrap64 (x9_1 + 1)), zr, H', ⟨by have := HK1.out; have := HK2.out; omega⟩, ⟨zb1 HB GE469⟩⟩
      ·rw [if_neg c5] at H
       have c5b0 : (((rd_T38 l0 x9_1).f1) == 0) = false := beq_eq_false_iff_ne.mpr c5
       have c5b1 : (((rd_T38 l0 x9_1).f1) != 0) = true := bne_iff_ne.mpr c5
       have H' := Aside0.mk H
       clear H
       have p468 : 0 ≤ (x9_1 : Int) := of_decide_eq_true za
       have q468 : x9_1 < (l0.length : Int) := of_decide_eq_true za
       obtain ⟨ad468, A468_4, c468_4, e468, hx468_0, hx468_1, hx468_2, hx468_3, hx468_4, hl468_4, hi468_4⟩ := at_T38 HR0.out x9_1 p468 q468
       cases e468
       replace hx468_0 := (HB.out.cell (World.block_lt_of_cell? w _ hx468_0)).trans hx468_0
       replace hx468_1 := (HB.out.cell (World.block_lt_of_cell? w _ hx468_1)).trans hx468_1
       replace hx468_2 := (HB.out.cell (World.block_lt_of_cell? w _ hx468_2)).trans hx468_2
       replace hx468_3 := (HB.out.cell (World.block_lt_of_cell? w _ hx468_3)).trans hx468_3
       replace hx468_4 := (HB.out.cell (World.block_lt_of_cell? w _ hx468_4)).trans hx468_4
       have HR468_4 := Aside0.mk hi468_4
       have HC468_4 := Aside0.mk hl468_4
       clear hi468_4 hl468_4
       replace p468 := eq_true p468
       replace q468 := eq_true q468
       go_wp2_with (first | ((with_reducible refine gate_dst (N := 4) rfl ?_); refine box_event ?hg (N := 4) ?hd (cs := #[.int .i64 0, .int .i64 0, .string (⟨#[]⟩ : ByteArray), .string (⟨#[]⟩ : ByteArray), .slice none 0 0]) (t := 38) ?hr ?_; (case hd => rfl); (case hg => rfl); (case hr => first | (go_simp; done) | (go_simp; rfl)); intro gb469 hg w27 hbox hb; have n0_ := Aside0.mk (below_step (zb HB) hb); have n1_ := Aside0.mk (hbox); have n3_ := Aside0.mk ((by rw [hg]; exact (below_size (zb HB)) : w.heap.size ≤ gb469)); clear HB; have HB := n0_; have BK469 := n1_; have GE469 := n3_; clear n0_ n1_ n3_; clear hb hbox hg; obtain ⟨hcz28_0, hcz28_1, hcz28_2, hcz28_3, hcz28_4, hfz28_0, hfz28_1, hfz28_2, hfz28_3, hfz28_4⟩ := cz5 BK469.out))
       go_roundg k1
       case measure => have := HK1.out; omega
       case rel => exact ⟨(wrap64 (x9_1 + 1)), zr, H', ⟨by have := HK1.out; omega⟩, ⟨zb1 HB GE469⟩⟩
     ·rw [if_neg c4] at H
      exact absurd H (by simp)
    ·rw [if_neg c3] at H
     exact absurd H (by simp)
   ·rw [if_neg c2] at H
    have c2b0 : decide (x9_1 < (l0.length : Int)) = false := decide_eq_false c2
    clear c2
    obtain rfl := Option.some.inj H
    go_wp2
    go_ret
    exact ⟨ze, zb HB⟩

mutual
def boltingref04_Text.j0 : Nat → List (S38) → Int → ByteArray → Int → Int → Option (ByteArray)
 | 0, _, _, _, _, _ => none
 | k + 1, x0, x1, x5, x6, x7 => boltingref04_Text.l0 k x0 x1 x5 x7 x6
def boltingref04_Text.l0 : Nat → List (S38) → Int → ByteArray → Int → Int → Option (ByteArray)
 | 0, _, _, _, _, _ => none
 | k + 1, x0, x1, x5, x7, x8 => if x8 < x7 then (boltingref04_Text.j2 k x0 x1 x5 x7 x8 (decide (x1 ≥ (-1)))) else (boltingref04_Text.j2 k x0 x1 x5 x7 x8 false)
def boltingref04_Text.j2 : Nat → List (S38) → Int → ByteArray → Int → Int → Bool → Option (ByteArray)
 | 0, _, _, _, _, _, _ => none
 | k + 1, x0, x1, x5, x7, x8, x27 => if x27 = true then (if 0 ≤ x8 then (if x8 < (x0.length : Int) then (if ((rd_T38 x0 x8).f1) = 1 then (if x5.size + ((rd_T38 x0 x8).f3).size ≤ 9223372036854775807 then (boltingref04_Text.l0 k x0 x1 (x5 ++ ((rd_T38 x0 x8).f3)) x7 (wrap64 (x8 + 1))) else (none)) else (boltingref04_Text.l0 k x0 x1 x5 x7 (wrap64 (x8 + 1)))) else (none)) else (none)) else (some x5)
end
def boltingref04_Text.f (k : Nat) (l0 : List (S38)) (a1 : Int) : Option (ByteArray) := if a1 ≥ 0 then ((boltingref04_End.f k l0 a1).bind fun t474 => (boltingref04_Text.j0 k l0 a1 (⟨#[]⟩ : ByteArray) (mn a1 (l0.length : Int)) t474)) else (boltingref04_Text.j0 k l0 a1 (⟨#[]⟩ : ByteArray) 0 (l0.length : Int))
end Go.Proofs.YticacakoefojbaaGreat.Pr
namespace Go.Proofs.YticacakoefojbaaGreat.Pr
open Go.RowKit Go.Proofs.YticacakoefojbaaGreatW.PrintWords Go.Proofs.YticacakoefojbaaGreatW.PrintLast Go.Proofs.YticacakoefojbaaGreatW.PrintMore
attribute [local go_sem] max2_int min2_int max_two min_two max_three min_three max_four min_four   -- for this text's walks alone
set_option linter.unusedVariables false
set_option linter.unusedSimpArgs false

def boltinglaw13_CleanSafe.f (k : Nat) (l0 : List (S38)) (a1_0 : Bool) (a1_1 : Bool) (l1_2 : List ByteArray) (l1_3 : List ByteArray) (l1_4 : List ByteArray) (l1_5 : List (S60)) (a1_6 : Bool) (a1_7 : Bool) (a2 : Bool) : Option (Bool) := (boltinglaw13_bound.f k l0).bind fun t817 => ((boltinglaw12_Bound.f k a1_0 a1_1 l1_2 l1_3 l1_4 l1_5 a1_6 a1_7).bind fun bt820 => ((clean_Rows.f k t817 bt820.1 bt820.2.1 bt820.2.2.1 bt820.2.2.2.1 bt820.2.2.2.2.1 bt820.2.2.2.2.2.1 bt820.2.2.2.2.2.2.1 bt820.2.2.2.2.2.2.2 a2).bind fun bt836 => (if bt836.2 = 0 then ((clean_Rows.f k bt836.1 bt820.1 bt820.2.1 bt820.2.2.1 bt820.2.2.2.1 bt820.2.2.2.2.1 bt820.2.2.2.2.2.1 bt820.2.2.2.2.2.2.1 bt820.2.2.2.2.2.2.2 a2).bind fun bt841 => (if bt841.2 = 0 then ((boltingref04_Same.f k bt836.1 bt841.1).bind fun t845 => (if t845 = true then (if a2 = true then ((risk_Safe.f k bt836.1).bind fun t846 => (if t846 = true then ((boltingref04_Check.f k bt836.1).bind fun t847 => (if t847 = 0 then (if (bt836.1.length : Int) ≤ (t817.length : Int) then ((boltinglaw13_fixed.f).bind fun t848 => (some t848)) else (some false)) else (some false))) else (some false))) else ((boltingref04_Check.f k bt836.1).bind fun t849 => (if t849 = 0 then (if (bt836.1.length : Int) ≤ (t817.length : Int) then ((boltinglaw13_fixed.f).bind fun t850 => (some t850)) else (some false)) else (some false)))) else (some false))) else (some false))) else (if (bt836.1.length : Int) = 0 then ((boltinglaw13_fixed.f).bind fun t840 => (some t840)) else (some false)))))
set_option maxHeartbeats 8000000 in
set_option maxRecDepth 100000 in
theorem boltinglaw13_CleanSafe.calls (k : Nat) (A0 : Option Addr) (c0 : Nat) (l0 : List (S38)) (a1_0 : Bool) (a1_1 : Bool) (A1_2 : Option Addr) (c1_2 : Nat) (l1_2 : List ByteArray) (A1_3 : Option Addr) (c1_3 : Nat) (l1_3 : List ByteArray) (A1_4 : Option Addr) (c1_4 : Nat) (l1_4 : List ByteArray) (A1_5 : Option Addr) (c1_5 : Nat) (l1_5 : List (S60)) (a1_6 : Bool) (a1_7 : Bool) (a2 : Bool) (r : Bool) (w : World) (hr0 : Kd.C k38 w A0 l0.length l0) (hc0 : l0.length ≤ c0) (hr1_2 : Kd.C Kd.string w A1_2 l1_2.length l1_2) (hc1_2 : l1_2.length ≤ c1_2) (hr1_3 : Kd.C Kd.string w A1_3 l1_3.length l1_3) (hc1_3 : l1_3.length ≤ c1_3) (hr1_4 : Kd.C Kd.string w A1_4 l1_4.length l1_4) (hc1_4 : l1_4.length ≤ c1_4) (hr1_5 : Kd.C k60 w A1_5 l1_5.length l1_5) (hc1_5 : l1_5.length ≤ c1_5) (h : boltinglaw13_CleanSafe.f k l0 a1_0 a1_1 l1_2 l1_3 l1_4 l1_5 a1_6 a1_7 a2 = some r) (hT : Aside0 (r = true) := by exact ⟨rfl⟩) :
  Calls Tryz.prog 9 #[.slice A0 l0.length c0, .agg #[.bool a1_0, .bool a1_1, .slice A1_2 l1_2.length c1_2, .slice A1_3 l1_3.length c1_3, .slice A1_4 l1_4.length c1_4, .slice A1_5 l1_5.length c1_5, .bool a1_6, .bool a1_7], .bool a2] w fun e w' => e = .returned (.bool r) ∧ Below w.heap.size w w' := by
 have hu32 := Tryz.underlying32
 have HR0 := Aside0.mk hr0
 have HC0 := Aside0.mk hc0
 clear hr0 hc0
 have HR1_2 := Aside0.mk hr1_2
 have HC1_2 := Aside0.mk hc1_2
 clear hr1_2 hc1_2
 have HR1_3 := Aside0.mk hr1_3
 have HC1_3 := Aside0.mk hc1_3
 clear hr1_3 hc1_3
 have HR1_4 := Aside0.mk hr1_4
 have HC1_4 := Aside0.mk hc1_4
 clear hr1_4 hc1_4
 have HR1_5 := Aside0.mk hr1_5
 have HC1_5 := Aside0.mk hc1_5
 clear hr1_5 hc1_5
 have HB := Aside0.mk (Below.refl w.heap.size w)
 have H : ((boltinglaw13_bound.f k l0).bind fun t817 => ((boltinglaw12_Bound.f k a1_0 a1_1 l1_2 l1_3 l1_4 l1_5 a1_6 a1_7).bind fun bt820 => ((clean_Rows.f k t817 bt820.1 bt820.2.1 bt820.2.2.1 bt820.2.2.2.1 bt820.2.2.2.2.1 bt820.2.2.2.2.2.1 bt820.2.2.2.2.2.2.1 bt820.2.2.2.2.2.2.2 a2).bind fun bt836 => (if bt836.2 = 0 then ((clean_Rows.f k bt836.1 bt820.1 bt820.2.1 bt820.2.2.1 bt820.2.2.2.1 bt820.2.2.2.2.1 bt820.2.2.2.2.2.1 bt820.2.2.2.2.2.2.1 bt820.2.2.2.2.2.2.2 a2).bind fun bt841 => (if bt841.2 = 0 then ((boltingref04_Same.f k bt836.1 bt841.1).bind fun t845 => (if t845 = true then (if a2 = true then ((risk_Safe.f k bt836.1).bind fun t846 => (if t846 = true then ((boltingref04_Check.f k bt836.1).bind fun t847 => (if t847 = 0 then (if (bt836.1.length : Int) ≤ (t817.length : Int) then ((boltinglaw13_fixed.f).bind fun t848 => (some t848)) else (some false)) else (some false))) else (some false))) else ((boltingref04_Check.f k bt836.1).bind fun t849 => (if t849 = 0 then (if (bt836.1.length : Int) ≤ (t817.length : Int) then ((boltinglaw13_fixed.f).bind fun t850 => (some t850)) else (some false)) else (some false)))) else (some false))) else (some false))) else (if (bt836.1.length : Int) = 0 then ((boltinglaw13_fixed.f).bind fun t840 => (some t840)) else (some false)))))) = some r := h
 clear h
 replace H := Option.bind_eq_some_iff.mp H
 obtain ⟨t817, A40, H⟩ := H
 have A4 := Aside0.mk A40
 clear A40
 replace H := Option.bind_eq_some_iff.mp H
 obtain ⟨⟨t820, t821, t822, t825, t828, t831, t834, t835⟩, A50, H⟩ := H
 try dsimp only at H
 have A5 := Aside0.mk A50
 clear A50
 replace H := Option.bind_eq_some_iff.mp H
 obtain ⟨⟨t836, t839⟩, A60, H⟩ := H
 try dsimp only at H
 have A6 := Aside0.mk A60
 clear A60
 by_cases c7 : t839 = 0
 ·rw [if_pos c7] at H
  have c7b0 : (t839 == 0) = true := beq_iff_eq.mpr c7
  have c7b1 : (t839 != 0) = false := bne_eq_false_iff_eq.mpr c7
  clear c7
  replace H := Option.bind_eq_some_iff.mp H
  obtain ⟨⟨t841, t844⟩, A80, H⟩ := H
  try dsimp only at H
  have A8 := Aside0.mk A80
  clear A80
  by_cases c9 : t844 = 0
  ·rw [if_pos c9] at H
   have c9b0 : (t844 == 0) = true := beq_iff_eq.mpr c9
   have c9b1 : (t844 != 0) = false := bne_eq_false_iff_eq.mpr c9
   clear c9
   replace H := Option.bind_eq_some_iff.mp H
   obtain ⟨t845, A100, H⟩ := H
   have A10 := Aside0.mk A100
   clear A100
   by_cases c11 : t845 = true
   ·subst c11
    replace H : (if a2 = true then ((risk_Safe.f k t836).bind fun t846 => (if t846 = true then ((boltingref04_Check.f k t836).bind fun t847 => (if t847 = 0 then (if (t836.length : Int) ≤ (t817.length : Int) then ((boltinglaw13_fixed.f).bind fun t848 => (some t848)) else (some false)) else (some false))) else (some false))) else ((boltingref04_Check.f k t836).bind fun t849 => (if t849 = 0 then (if (t836.length : Int) ≤ (t817.length : Int) then ((boltinglaw13_fixed.f).bind fun t850 => (some t850)) else (some false)) else (some false)))) = some r := by rw [if_pos rfl] at H; exact H
    by_cases c12 : a2 = true
    ·subst c12
     replace H : ((risk_Safe.f k t836).bind fun t846 => (if t846 = true then ((boltingref04_Check.f k t836).bind fun t847 => (if t847 = 0 then (if (t836.length : Int) ≤ (t817.length : Int) then ((boltinglaw13_fixed.f).bind fun t848 => (some t848)) else (some false)) else (some false))) else (some false))) = some r := by rw [if_pos rfl] at H; exact H
     replace H := Option.bind_eq_some_iff.mp H
     obtain ⟨t846, A130, H⟩ := H
     have A13 := Aside0.mk A130
     clear A130
     by_cases c14 : t846 = true
     ·subst c14
      replace H : ((boltingref04_Check.f k t836).bind fun t847 => (if t847 = 0 then (if (t836.length : Int) ≤ (t817.length : Int) then ((boltinglaw13_fixed.f).bind fun t848 => (some t848)) else (some false)) else (some false))) = some r := by rw [if_pos rfl] at H; exact H
      replace H := Option.bind_eq_some_iff.mp H
      obtain ⟨t847, A150, H⟩ := H
      have A15 := Aside0.mk A150
      clear A150
      by_cases c16 : t847 = 0
      ·rw [if_pos c16] at H
       have c16b0 : (t847 == 0) = true := beq_iff_eq.mpr c16
       have c16b1 : (t847 != 0) = false := bne_eq_false_iff_eq.mpr c16
       clear c16
       by_cases c17 : (t836.length : Int) ≤ (t817.length : Int)
       ·rw [if_pos c17] at H
        have c17b0 : decide ((t836.length : Int) ≤ (t817.length : Int)) = true := decide_eq_true c17
        have c17b1 : decide (t836.length ≤ t817.length) = true := decide_eq_true (Int.ofNat_le.mp c17)
        clear c17
        replace H := Option.bind_eq_some_iff.mp H
        obtain ⟨t848, A180, H⟩ := H
        replace H : (some t848) = some r := H
        have A18 := Aside0.mk A180
        clear A180
        obtain rfl := Option.some.inj H
        go_enter Tryz.func9, Tryz.ntmps9
        go_wp2_with (first | ((with_reducible refine gate_dst (N := 4) rfl ?_); (try (refine gate_guard (by rfl) ?_; dsimp only)); refine box_event ?hg (N := 4) ?hd (cs := #[.bool a1_0, .bool a1_1, .slice A1_2 l1_2.length c1_2, .slice A1_3 l1_3.length c1_3, .slice A1_4 l1_4.length c1_4, .slice A1_5 l1_5.length c1_5, .bool a1_6, .bool a1_7]) (t := 32) ?hr ?_; (case hd => rfl); (case hg => rfl); (case hr => first | (go_simp; done) | (go_simp; rfl)); intro gb816 hg w19 hbox hb; have n0_ := Aside0.mk (below_step (zb HB) hb); have n1_ := Aside0.mk (hbox); have n2_ := Aside0.mk ((by rw [hg]; exact (below_size (zb HB)) : w.heap.size ≤ gb816)); have n3_ := Aside0.mk ((by rw [hg]; exact (below_size (zb HB)) : w.heap.size ≤ gb816)); clear HB; have HB := n0_; have BK816 := n1_; have GW816 := n2_; have GE816 := n3_; clear n0_ n1_ n2_ n3_; clear hb hbox hg) | ((with_reducible refine gate_callee (f := 10) rfl ?_); refine goesL_ (some 12) rfl rfl Tryz.func10 (by kernel_rfl) rfl #[.slice A0 l0.length c0] rfl zm ?_; (with_reducible refine (boltinglaw13_bound.calls k (fun k_ => k_ < w.heap.size) _ _ l0 t817 _ ?side1 A4.out).mono ?_); (case side1 => exact Kd.V_mk HC0.out (Kd.F_below (Kd.C_F k38_heap HR0.out) (zb1 HB GE816))); rintro e w20 ⟨v818, rfl, ho0, hb⟩; refine ⟨_, rfl, ?_⟩; have n0_ := Aside0.mk (Kd.N_lower (Kd.N_mono (ok' := fun k_ => k_ ≠ gb816) ho0 (fun k_ hk_ => Or.elim hk_ (fun hs_ => fun e_ => Nat.not_le.2 hs_ (by rw [e_]; exact GW816.out)) (fun hn_ => (Kd.freshB (by exact BK816.out) k_ hn_)))) (below_size (zb1 HB GE816))); have n1_ := Aside0.mk (blk_below (by exact BK816.out) hb); have n2_ := Aside0.mk (below_step (zb1 HB GE816) hb); clear BK816; clear HB; have HO819 := n0_; have BK816 := n1_; have HB := n2_; clear n0_ n1_ n2_; (try clear hb); (try clear ho0); obtain ⟨hcz21_0, hcz21_1, hcz21_2, hcz21_3, hcz21_4, hcz21_5, hcz21_6, hcz21_7, hfz21_0, hfz21_1, hfz21_2, hfz21_3, hfz21_4, hfz21_5, hfz21_6, hfz21_7⟩ := cz8 BK816.out) | ((with_reducible refine gate_callee (f := 20) rfl ?_); refine goesL_ (some 14) rfl rfl Tryz.func20 (by kernel_rfl) rfl #[.agg #[.bool a1_0, .bool a1_1, .slice A1_2 l1_2.length c1_2, .slice A1_3 l1_3.length c1_3, .slice A1_4 l1_4.length c1_4, .slice A1_5 l1_5.length c1_5, .bool a1_6, .bool a1_7]] rfl zm ?_; (with_reducible refine (boltinglaw12_Bound.calls k a1_0 a1_1 (fun k_ => k_ < w.heap.size) _ _ l1_2 (fun k_ => k_ < w.heap.size) _ _ l1_3 (fun k_ => k_ < w.heap.size) _ _ l1_4 (fun k_ => k_ < w.heap.size) _ _ l1_5 a1_6 a1_7 t820 t821 t822 t825 t828 t831 t834 t835 _ ?side1 ?side2 ?side3 ?side4 A5.out).mono ?_); (case side1 => exact Kd.V_mk HC1_2.out (Kd.F_below (Kd.C_F Kd.heap_string HR1_2.out) (zb1 HB GE816))); (case side2 => exact Kd.V_mk HC1_3.out (Kd.F_below (Kd.C_F Kd.heap_string HR1_3.out) (zb1 HB GE816))); (case side3 => exact Kd.V_mk HC1_4.out (Kd.F_below (Kd.C_F Kd.heap_string HR1_4.out) (zb1 HB GE816))); (case side4 => exact Kd.V_mk HC1_5.out (Kd.F_below (Kd.C_F k60_heap HR1_5.out) (zb1 HB GE816))); rintro e w22 ⟨v823, v826, v829, v832, rfl, ho0, ho1, ho2, ho3, hb⟩; refine ⟨_, rfl, ?_⟩; have n0_ := Aside0.mk (Kd.N_elder' (by exact HO819.out) (Kd.N_base ho3) hb); have n1_ := Aside0.mk (Kd.V_lower (Kd.V_mono (ok' := fun k_ => some k_ ≠ (v832 : Value).ownBlock ∧ some k_ ≠ (v818 : Value).ownBlock ∧ k_ ≠ gb816) ho0 (fun k_ hk_ => ⟨hk_.2, Or.elim hk_.1 (fun hs_ => Or.elim hs_ (fun hs_ => fun e_ => Nat.not_le.2 hs_ (Kd.N_base HO819.out k_ e_.symm)) (fun hs_ => Or.elim hs_ (fun hs_ => fun e_ => Nat.not_le.2 hs_ (Kd.N_base HO819.out k_ e_.symm)) (fun hs_ => Or.elim hs_ (fun hs_ => fun e_ => Nat.not_le.2 hs_ (Kd.N_base HO819.out k_ e_.symm)) (fun hs_ => fun e_ => Nat.not_le.2 hs_ (Kd.N_base HO819.out k_ e_.symm))))) (fun hn_ => (Kd.fresh' (Kd.N_lt (by exact HO819.out)) k_ hn_)), Or.elim hk_.1 (fun hs_ => Or.elim hs_ (fun hs_ => fun e_ => Nat.not_le.2 hs_ (by rw [e_]; exact GW816.out)) (fun hs_ => Or.elim hs_ (fun hs_ => fun e_ => Nat.not_le.2 hs_ (by rw [e_]; exact GW816.out)) (fun hs_ => Or.elim hs_ (fun hs_ => fun e_ => Nat.not_le.2 hs_ (by rw [e_]; exact GW816.out)) (fun hs_ => fun e_ => Nat.not_le.2 hs_ (by rw [e_]; exact GW816.out))))) (fun hn_ => (Kd.freshB (by exact BK816.out) k_ hn_))⟩)) (below_size (zb1 HB GE816))); have n2_ := Aside0.mk (Kd.V_lower (Kd.V_mono (ok' := fun k_ => some k_ ≠ (v832 : Value).ownBlock ∧ some k_ ≠ (v818 : Value).ownBlock ∧ k_ ≠ gb816) ho1 (fun k_ hk_ => ⟨hk_.2, Or.elim hk_.1 (fun hs_ => Or.elim hs_ (fun hs_ => fun e_ => Nat.not_le.2 hs_ (Kd.N_base HO819.out k_ e_.symm)) (fun hs_ => Or.elim hs_ (fun hs_ => fun e_ => Nat.not_le.2 hs_ (Kd.N_base HO819.out k_ e_.symm)) (fun hs_ => Or.elim hs_ (fun hs_ => fun e_ => Nat.not_le.2 hs_ (Kd.N_base HO819.out k_ e_.symm)) (fun hs_ => fun e_ => Nat.not_le.2 hs_ (Kd.N_base HO819.out k_ e_.symm))))) (fun hn_ => (Kd.fresh' (Kd.N_lt (by exact HO819.out)) k_ hn_)), Or.elim hk_.1 (fun hs_ => Or.elim hs_ (fun hs_ => fun e_ => Nat.not_le.2 hs_ (by rw [e_]; exact GW816.out)) (fun hs_ => Or.elim hs_ (fun hs_ => fun e_ => Nat.not_le.2 hs_ (by rw [e_]; exact GW816.out)) (fun hs_ => Or.elim hs_ (fun hs_ => fun e_ => Nat.not_le.2 hs_ (by rw [e_]; exact GW816.out)) (fun hs_ => fun e_ => Nat.not_le.2 hs_ (by rw [e_]; exact GW816.out))))) (fun hn_ => (Kd.freshB (by exact BK816.out) k_ hn_))⟩)) (below_size (zb1 HB GE816))); have n3_ := Aside0.mk (Kd.V_lower (Kd.V_mono (ok' := fun k_ => some k_ ≠ (v832 : Value).ownBlock ∧ some k_ ≠ (v818 : Value).ownBlock ∧ k_ ≠ gb816) ho2 (fun k_ hk_ => ⟨hk_.2, Or.elim hk_.1 (fun hs_ => Or.elim hs_ (fun hs_ => fun e_ => Nat.not_le.2 hs_ (Kd.N_base HO819.out k_ e_.symm)) (fun hs_ => Or.elim hs_ (fun hs_ => fun e_ => Nat.not_le.2 hs_ (Kd.N_base HO819.out k_ e_.symm)) (fun hs_ => Or.elim hs_ (fun hs_ => fun e_ => Nat.not_le.2 hs_ (Kd.N_base HO819.out k_ e_.symm)) (fun hs_ => fun e_ => Nat.not_le.2 hs_ (Kd.N_base HO819.out k_ e_.symm))))) (fun hn_ => (Kd.fresh' (Kd.N_lt (by exact HO819.out)) k_ hn_)), Or.elim hk_.1 (fun hs_ => Or.elim hs_ (fun hs_ => fun e_ => Nat.not_le.2 hs_ (by rw [e_]; exact GW816.out)) (fun hs_ => Or.elim hs_ (fun hs_ => fun e_ => Nat.not_le.2 hs_ (by rw [e_]; exact GW816.out)) (fun hs_ => Or.elim hs_ (fun hs_ => fun e_ => Nat.not_le.2 hs_ (by rw [e_]; exact GW816.out)) (fun hs_ => fun e_ => Nat.not_le.2 hs_ (by rw [e_]; exact GW816.out))))) (fun hn_ => (Kd.freshB (by exact BK816.out) k_ hn_))⟩)) (below_size (zb1 HB GE816))); have n4_ := Aside0.mk (Kd.N_lower (Kd.N_mono (ok' := fun k_ => some k_ ≠ (v818 : Value).ownBlock ∧ k_ ≠ gb816) ho3 (fun k_ hk_ => ⟨Or.elim hk_ (fun hs_ => Or.elim hs_ (fun hs_ => fun e_ => Nat.not_le.2 hs_ (Kd.N_base HO819.out k_ e_.symm)) (fun hs_ => Or.elim hs_ (fun hs_ => fun e_ => Nat.not_le.2 hs_ (Kd.N_base HO819.out k_ e_.symm)) (fun hs_ => Or.elim hs_ (fun hs_ => fun e_ => Nat.not_le.2 hs_ (Kd.N_base HO819.out k_ e_.symm)) (fun hs_ => fun e_ => Nat.not_le.2 hs_ (Kd.N_base HO819.out k_ e_.symm))))) (fun hn_ => (Kd.fresh' (Kd.N_lt (by exact HO819.out)) k_ hn_)), Or.elim hk_ (fun hs_ => Or.elim hs_ (fun hs_ => fun e_ => Nat.not_le.2 hs_ (by rw [e_]; exact GW816.out)) (fun hs_ => Or.elim hs_ (fun hs_ => fun e_ => Nat.not_le.2 hs_ (by rw [e_]; exact GW816.out)) (fun hs_ => Or.elim hs_ (fun hs_ => fun e_ => Nat.not_le.2 hs_ (by rw [e_]; exact GW816.out)) (fun hs_ => fun e_ => Nat.not_le.2 hs_ (by rw [e_]; exact GW816.out))))) (fun hn_ => (Kd.freshB (by exact BK816.out) k_ hn_))⟩)) (below_size (zb1 HB GE816))); have n5_ := Aside0.mk (blk_below (by exact BK816.out) hb); have n6_ := Aside0.mk (below_step (zb1 HB GE816) hb); clear HO819; clear BK816; clear HB; have HO819 := n0_; have HO824 := n1_; have HO827 := n2_; have HO830 := n3_; have HO833 := n4_; have BK816 := n5_; have HB := n6_; clear n0_ n1_ n2_ n3_ n4_ n5_ n6_; (try clear hb); (try clear ho0); (try clear ho1); (try clear ho2); (try clear ho3); obtain ⟨hcz23_0, hcz23_1, hcz23_2, hcz23_3, hcz23_4, hcz23_5, hcz23_6, hcz23_7, hfz23_0, hfz23_1, hfz23_2, hfz23_3, hfz23_4, hfz23_5, hfz23_6, hfz23_7⟩ := cz8 BK816.out; obtain ⟨Ao24, co24, eo24⟩ := Kd.V_slice HO824.out; subst eo24; obtain ⟨Ao25, co25, eo25⟩ := Kd.V_slice HO827.out; subst eo25; obtain ⟨Ao26, co26, eo26⟩ := Kd.V_slice HO830.out; subst eo26; obtain ⟨Ao27, co27, eo27⟩ := Kd.N_slice HO833.out; subst eo27; obtain ⟨Ao28, co28, eo28⟩ := Kd.N_slice HO819.out; subst eo28) | ((with_reducible refine gate_callee (f := 14) rfl ?_); refine goesL_ (some 19) rfl rfl Tryz.func14 (by kernel_rfl) rfl #[.slice Ao28 t817.length co28, .agg #[.bool t820, .bool t821, .slice Ao24 t822.length co24, .slice Ao25 t825.length co25, .slice Ao26 t828.length co26, .slice Ao27 t831.length co27, .bool t834, .bool t835], .bool true] rfl zm ?_; (with_reducible refine (clean_Rows.calls k _ _ t817 t820 t821 _ _ t822 _ _ t825 _ _ t828 _ _ t831 t834 t835 true t836 t839 _ ?side1 ?side2 ?side3 ?side4 ?side5 ?side6 ?side7 ?side8 ?side9 ?side10 A6.out).mono ?_); (case side1 => refine (Kd.N_reads' (e := 38) (base := w.heap.size) (ok := fun k_ => (k_ ≠ gb816 ∧ some k_ ≠ (.slice Ao27 t831.length co27 : Value).ownBlock)) (n := t817.length) (c := co28) ?_).2.2; exact (by exact (Kd.N_mono (Nf8 (g := gb816) (Kd.N_mono HO819.out (fun k_ hk => (⟨hk, hk.1⟩ : _ ∧ k_ ≠ gb816))) (fun _ hk => hk.2) (.bool t820) (.bool t821) (.slice Ao24 t822.length co24) (.slice Ao25 t825.length co25) (.slice Ao26 t828.length co26) (.slice Ao27 t831.length co27) (.bool t834) (.bool t835)) (fun _ h_ => h_.1)))); (case side2 => exact (Kd.N_reads' HO819.out).2.1); (case side3 => refine (Kd.V_reads' (e := 9) (base := w.heap.size) (ok := fun k_ => (some k_ ≠ (.slice Ao27 t831.length co27 : Value).ownBlock ∧ (some k_ ≠ (.slice Ao28 t817.length co28 : Value).ownBlock ∧ k_ ≠ gb816))) (n := t822.length) (c := co24) ?_).2.2; exact (by exact (Kd.V_mono (Vf8 (g := gb816) (Kd.V_mono HO824.out (fun k_ hk => (⟨hk, hk.2.2⟩ : _ ∧ k_ ≠ gb816))) (fun _ hk => hk.2) (.bool t820) (.bool t821) (.slice Ao24 t822.length co24) (.slice Ao25 t825.length co25) (.slice Ao26 t828.length co26) (.slice Ao27 t831.length co27) (.bool t834) (.bool t835)) (fun _ h_ => h_.1)))); (case side4 => exact (Kd.V_reads' HO824.out).2.1); (case side5 => refine (Kd.V_reads' (e := 9) (base := w.heap.size) (ok := fun k_ => (some k_ ≠ (.slice Ao27 t831.length co27 : Value).ownBlock ∧ (some k_ ≠ (.slice Ao28 t817.length co28 : Value).ownBlock ∧ k_ ≠ gb816))) (n := t825.length) (c := co25) ?_).2.2; exact (by exact (Kd.V_mono (Vf8 (g := gb816) (Kd.V_mono HO827.out (fun k_ hk => (⟨hk, hk.2.2⟩ : _ ∧ k_ ≠ gb816))) (fun _ hk => hk.2) (.bool t820) (.bool t821) (.slice Ao24 t822.length co24) (.slice Ao25 t825.length co25) (.slice Ao26 t828.length co26) (.slice Ao27 t831.length co27) (.bool t834) (.bool t835)) (fun _ h_ => h_.1)))); (case side6 => exact (Kd.V_reads' HO827.out).2.1); (case side7 => refine (Kd.V_reads' (e := 9) (base := w.heap.size) (ok := fun k_ => (some k_ ≠ (.slice Ao27 t831.length co27 : Value).ownBlock ∧ (some k_ ≠ (.slice Ao28 t817.length co28 : Value).ownBlock ∧ k_ ≠ gb816))) (n := t828.length) (c := co26) ?_).2.2; exact (by exact (Kd.V_mono (Vf8 (g := gb816) (Kd.V_mono HO830.out (fun k_ hk => (⟨hk, hk.2.2⟩ : _ ∧ k_ ≠ gb816))) (fun _ hk => hk.2) (.bool t820) (.bool t821) (.slice Ao24 t822.length co24) (.slice Ao25 t825.length co25) (.slice Ao26 t828.length co26) (.slice Ao27 t831.length co27) (.bool t834) (.bool t835)) (fun _ h_ => h_.1)))); (case side8 => exact (Kd.V_reads' HO830.out).2.1); (case side9 => refine (Kd.N_reads' (e := 60) (base := w.heap.size) (ok := fun k_ => (some k_ ≠ (.slice Ao28 t817.length co28 : Value).ownBlock ∧ k_ ≠ gb816)) (n := t831.length) (c := co27) ?_).2.2; exact (by exact (Kd.N_mono (Nf8 (g := gb816) (Kd.N_mono HO833.out (fun k_ hk => (⟨hk, hk.2⟩ : _ ∧ k_ ≠ gb816))) (fun _ hk => hk.2) (.bool t820) (.bool t821) (.slice Ao24 t822.length co24) (.slice Ao25 t825.length co25) (.slice Ao26 t828.length co26) (.slice Ao27 t831.length co27) (.bool t834) (.bool t835)) (fun _ h_ => h_.1)))); (case side10 => exact (Kd.N_reads' HO833.out).2.1); rintro e w29 ⟨v837, rfl, ho0, hb⟩; refine ⟨_, rfl, ?_⟩; have n0_ := Aside0.mk (Kd.N_elder' (by exact (Kd.N_mono (Nf8 (g := gb816) (Kd.N_mono HO819.out (fun k_ hk => (⟨hk, hk.1⟩ : _ ∧ k_ ≠ gb816))) (fun _ hk => hk.2) (.bool t820) (.bool t821) (.slice Ao24 t822.length co24) (.slice Ao25 t825.length co25) (.slice Ao26 t828.length co26) (.slice Ao27 t831.length co27) (.bool t834) (.bool t835)) (fun _ h_ => h_.1))) (Kd.N_base ho0) hb); have n1_ := Aside0.mk (Kd.V_elder' (by exact (Kd.V_mono (Vf8 (g := gb816) (Kd.V_mono HO824.out (fun k_ hk => (⟨hk, hk.2.2⟩ : _ ∧ k_ ≠ gb816))) (fun _ hk => hk.2) (.bool t820) (.bool t821) (.slice Ao24 t822.length co24) (.slice Ao25 t825.length co25) (.slice Ao26 t828.length co26) (.slice Ao27 t831.length co27) (.bool t834) (.bool t835)) (fun _ h_ => h_.1))) (Kd.N_base ho0) hb); have n2_ := Aside0.mk (Kd.V_elder' (by exact (Kd.V_mono (Vf8 (g := gb816) (Kd.V_mono HO827.out (fun k_ hk => (⟨hk, hk.2.2⟩ : _ ∧ k_ ≠ gb816))) (fun _ hk => hk.2) (.bool t820) (.bool t821) (.slice Ao24 t822.length co24) (.slice Ao25 t825.length co25) (.slice Ao26 t828.length co26) (.slice Ao27 t831.length co27) (.bool t834) (.bool t835)) (fun _ h_ => h_.1))) (Kd.N_base ho0) hb); have n3_ := Aside0.mk (Kd.V_elder' (by exact (Kd.V_mono (Vf8 (g := gb816) (Kd.V_mono HO830.out (fun k_ hk => (⟨hk, hk.2.2⟩ : _ ∧ k_ ≠ gb816))) (fun _ hk => hk.2) (.bool t820) (.bool t821) (.slice Ao24 t822.length co24) (.slice Ao25 t825.length co25) (.slice Ao26 t828.length co26) (.slice Ao27 t831.length co27) (.bool t834) (.bool t835)) (fun _ h_ => h_.1))) (Kd.N_base ho0) hb); have n4_ := Aside0.mk (Kd.N_elder' (by exact (Kd.N_mono (Nf8 (g := gb816) (Kd.N_mono HO833.out (fun k_ hk => (⟨hk, hk.2⟩ : _ ∧ k_ ≠ gb816))) (fun _ hk => hk.2) (.bool t820) (.bool t821) (.slice Ao24 t822.length co24) (.slice Ao25 t825.length co25) (.slice Ao26 t828.length co26) (.slice Ao27 t831.length co27) (.bool t834) (.bool t835)) (fun _ h_ => h_.1))) (Kd.N_base ho0) hb); have n5_ := Aside0.mk (Kd.N_lower (Kd.N_mono (ok' := fun k_ => some k_ ≠ (.slice Ao28 t817.length co28 : Value).ownBlock ∧ some k_ ≠ (.slice Ao27 t831.length co27 : Value).ownBlock ∧ k_ ≠ gb816) ho0 (fun k_ hk_ => ⟨(Kd.fresh' (Kd.N_lt (by exact (Kd.N_mono (Nf8 (g := gb816) (Kd.N_mono HO819.out (fun k_ hk => (⟨hk, hk.1⟩ : _ ∧ k_ ≠ gb816))) (fun _ hk => hk.2) (.bool t820) (.bool t821) (.slice Ao24 t822.length co24) (.slice Ao25 t825.length co25) (.slice Ao26 t828.length co26) (.slice Ao27 t831.length co27) (.bool t834) (.bool t835)) (fun _ h_ => h_.1)))) k_ hk_), (Kd.fresh' (Kd.N_lt (by exact (Kd.N_mono (Nf8 (g := gb816) (Kd.N_mono HO833.out (fun k_ hk => (⟨hk, hk.2⟩ : _ ∧ k_ ≠ gb816))) (fun _ hk => hk.2) (.bool t820) (.bool t821) (.slice Ao24 t822.length co24) (.slice Ao25 t825.length co25) (.slice Ao26 t828.length co26) (.slice Ao27 t831.length co27) (.bool t834) (.bool t835)) (fun _ h_ => h_.1)))) k_ hk_), (Kd.freshB (g := gb816) (o := .cells #[.bool t820, .bool t821, .slice Ao24 t822.length co24, .slice Ao25 t825.length co25, .slice Ao26 t828.length co26, .slice Ao27 t831.length co27, .bool t834, .bool t835] 32 (0, 0)) (by refine blk_put (cs := #[.bool t820, .bool t821, .slice Ao24 t822.length co24, .slice Ao25 t825.length co25, .slice Ao26 t828.length co26, .slice Ao27 t831.length co27, .bool t834, .bool a1_7]) ?_ 7 _ rfl; refine blk_put (cs := #[.bool t820, .bool t821, .slice Ao24 t822.length co24, .slice Ao25 t825.length co25, .slice Ao26 t828.length co26, .slice Ao27 t831.length co27, .bool a1_6, .bool a1_7]) ?_ 6 _ rfl; refine blk_put (cs := #[.bool t820, .bool t821, .slice Ao24 t822.length co24, .slice Ao25 t825.length co25, .slice Ao26 t828.length co26, .slice A1_5 l1_5.length c1_5, .bool a1_6, .bool a1_7]) ?_ 5 _ rfl; refine blk_put (cs := #[.bool t820, .bool t821, .slice Ao24 t822.length co24, .slice Ao25 t825.length co25, .slice A1_4 l1_4.length c1_4, .slice A1_5 l1_5.length c1_5, .bool a1_6, .bool a1_7]) ?_ 4 _ rfl; refine blk_put (cs := #[.bool t820, .bool t821, .slice Ao24 t822.length co24, .slice A1_3 l1_3.length c1_3, .slice A1_4 l1_4.length c1_4, .slice A1_5 l1_5.length c1_5, .bool a1_6, .bool a1_7]) ?_ 3 _ rfl; refine blk_put (cs := #[.bool t820, .bool t821, .slice A1_2 l1_2.length c1_2, .slice A1_3 l1_3.length c1_3, .slice A1_4 l1_4.length c1_4, .slice A1_5 l1_5.length c1_5, .bool a1_6, .bool a1_7]) ?_ 2 _ rfl; refine blk_put (cs := #[.bool t820, .bool a1_1, .slice A1_2 l1_2.length c1_2, .slice A1_3 l1_3.length c1_3, .slice A1_4 l1_4.length c1_4, .slice A1_5 l1_5.length c1_5, .bool a1_6, .bool a1_7]) ?_ 1 _ rfl; refine blk_put (cs := #[.bool a1_0, .bool a1_1, .slice A1_2 l1_2.length c1_2, .slice A1_3 l1_3.length c1_3, .slice A1_4 l1_4.length c1_4, .slice A1_5 l1_5.length c1_5, .bool a1_6, .bool a1_7]) ?_ 0 _ rfl; exact BK816.out) k_ hk_)⟩)) (below_size (zb1 HB GE816))); have n6_ := Aside0.mk (blk_below (g := gb816) (o := .cells #[.bool t820, .bool t821, .slice Ao24 t822.length co24, .slice Ao25 t825.length co25, .slice Ao26 t828.length co26, .slice Ao27 t831.length co27, .bool t834, .bool t835] 32 (0, 0)) (by refine blk_put (cs := #[.bool t820, .bool t821, .slice Ao24 t822.length co24, .slice Ao25 t825.length co25, .slice Ao26 t828.length co26, .slice Ao27 t831.length co27, .bool t834, .bool a1_7]) ?_ 7 _ rfl; refine blk_put (cs := #[.bool t820, .bool t821, .slice Ao24 t822.length co24, .slice Ao25 t825.length co25, .slice Ao26 t828.length co26, .slice Ao27 t831.length co27, .bool a1_6, .bool a1_7]) ?_ 6 _ rfl; refine blk_put (cs := #[.bool t820, .bool t821, .slice Ao24 t822.length co24, .slice Ao25 t825.length co25, .slice Ao26 t828.length co26, .slice A1_5 l1_5.length c1_5, .bool a1_6, .bool a1_7]) ?_ 5 _ rfl; refine blk_put (cs := #[.bool t820, .bool t821, .slice Ao24 t822.length co24, .slice Ao25 t825.length co25, .slice A1_4 l1_4.length c1_4, .slice A1_5 l1_5.length c1_5, .bool a1_6, .bool a1_7]) ?_ 4 _ rfl; refine blk_put (cs := #[.bool t820, .bool t821, .slice Ao24 t822.length co24, .slice A1_3 l1_3.length c1_3, .slice A1_4 l1_4.length c1_4, .slice A1_5 l1_5.length c1_5, .bool a1_6, .bool a1_7]) ?_ 3 _ rfl; refine blk_put (cs := #[.bool t820, .bool t821, .slice A1_2 l1_2.length c1_2, .slice A1_3 l1_3.length c1_3, .slice A1_4 l1_4.length c1_4, .slice A1_5 l1_5.length c1_5, .bool a1_6, .bool a1_7]) ?_ 2 _ rfl; refine blk_put (cs := #[.bool t820, .bool a1_1, .slice A1_2 l1_2.length c1_2, .slice A1_3 l1_3.length c1_3, .slice A1_4 l1_4.length c1_4, .slice A1_5 l1_5.length c1_5, .bool a1_6, .bool a1_7]) ?_ 1 _ rfl; refine blk_put (cs := #[.bool a1_0, .bool a1_1, .slice A1_2 l1_2.length c1_2, .slice A1_3 l1_3.length c1_3, .slice A1_4 l1_4.length c1_4, .slice A1_5 l1_5.length c1_5, .bool a1_6, .bool a1_7]) ?_ 0 _ rfl; exact BK816.out) hb); have n7_ := Aside0.mk (below_step (zb1 HB GE816) hb); clear HO819; clear HO824; clear HO827; clear HO830; clear HO833; clear BK816; clear HB; have HO819 := n0_; have HO824 := n1_; have HO827 := n2_; have HO830 := n3_; have HO833 := n4_; have HO838 := n5_; have BK816 := n6_; have HB := n7_; clear n0_ n1_ n2_ n3_ n4_ n5_ n6_ n7_; (try clear hb); (try clear ho0); obtain ⟨hcz30_0, hcz30_1, hcz30_2, hcz30_3, hcz30_4, hcz30_5, hcz30_6, hcz30_7, hfz30_0, hfz30_1, hfz30_2, hfz30_3, hfz30_4, hfz30_5, hfz30_6, hfz30_7⟩ := cz8 BK816.out; obtain ⟨Ao31, co31, eo31⟩ := Kd.N_slice HO838.out; subst eo31) | ((with_reducible refine gate_callee (f := 14) rfl ?_); refine goesL_ (some 34) rfl rfl Tryz.func14 (by kernel_rfl) rfl #[.slice Ao31 t836.length co31, .agg #[.bool t820, .bool t821, .slice Ao24 t822.length co24, .slice Ao25 t825.length co25, .slice Ao26 t828.length co26, .slice Ao27 t831.length co27, .bool t834, .bool t835], .bool true] rfl zm ?_; (with_reducible refine (clean_Rows.calls k _ _ t836 t820 t821 _ _ t822 _ _ t825 _ _ t828 _ _ t831 t834 t835 true t841 t844 _ ?side1 ?side2 ?side3 ?side4 ?side5 ?side6 ?side7 ?side8 ?side9 ?side10 A8.out).mono ?_); (case side1 => exact zc (Kd.N_reads' HO838.out).2.2); (case side2 => exact (Kd.N_reads' HO838.out).2.1); (case side3 => exact zc (Kd.V_reads' HO824.out).2.2); (case side4 => exact (Kd.V_reads' HO824.out).2.1); (case side5 => exact zc (Kd.V_reads' HO827.out).2.2); (case side6 => exact (Kd.V_reads' HO827.out).2.1); (case side7 => exact zc (Kd.V_reads' HO830.out).2.2); (case side8 => exact (Kd.V_reads' HO830.out).2.1); (case side9 => exact zc (Kd.N_reads' HO833.out).2.2); (case side10 => exact (Kd.N_reads' HO833.out).2.1); rintro e w32 ⟨v842, rfl, ho0, hb⟩; refine ⟨_, rfl, ?_⟩; have n5_ := Aside0.mk (Kd.N_elder' (by exact HO838.out) (Kd.N_base ho0) hb); have n6_ := Aside0.mk (Kd.N_lower (Kd.N_mono (ok' := fun k_ => some k_ ≠ (.slice Ao28 t817.length co28 : Value).ownBlock ∧ some k_ ≠ (.slice Ao27 t831.length co27 : Value).ownBlock ∧ some k_ ≠ (.slice Ao31 t836.length co31 : Value).ownBlock ∧ k_ ≠ gb816) ho0 (fun k_ hk_ => ⟨(Kd.fresh' (Kd.N_lt (by exact HO819.out)) k_ hk_), (Kd.fresh' (Kd.N_lt (by exact HO833.out)) k_ hk_), (Kd.fresh' (Kd.N_lt (by exact HO838.out)) k_ hk_), (Kd.freshB (by exact BK816.out) k_ hk_)⟩)) (below_size (zb1 HB GE816))); have n8_ := Aside0.mk (below_step (zb1 HB GE816) hb); clear HO819; clear HO824; clear HO827; clear HO830; clear HO833; clear HO838; clear BK816; clear HB; have HO838 := n5_; have HO843 := n6_; have HB := n8_; clear n5_ n6_ n8_; (try clear hb); (try clear ho0); obtain ⟨Ao33, co33, eo33⟩ := Kd.N_slice HO843.out; subst eo33) | (go_at_call 16; (with_reducible refine (boltingref04_Same.calls k _ _ t836 _ _ t841 true _ ?side1 ?side2 ?side3 ?side4 A10.out).mono ?_); (case side1 => exact zc (Kd.N_reads' HO838.out).2.2); (case side2 => exact (Kd.N_reads' HO838.out).2.1); (case side3 => exact zc (Kd.N_reads' HO843.out).2.2); (case side4 => exact (Kd.N_reads' HO843.out).2.1); rintro e w34 ⟨rfl, hb⟩; have n5_ := Aside0.mk (Kd.N_below (by exact HO838.out) hb); have n8_ := Aside0.mk (below_step (zb1 HB GE816) hb); clear HO838; clear HO843; clear HB; have HO838 := n5_; have HB := n8_; clear n5_ n8_; (try clear hb)) | (go_at_call 17; (with_reducible refine (risk_Safe.calls k _ _ t836 true _ ?side1 ?side2 A13.out).mono ?_); (case side1 => exact zc (Kd.N_reads' HO838.out).2.2); (case side2 => exact (Kd.N_reads' HO838.out).2.1); rintro e w35 ⟨rfl, hb⟩; have n5_ := Aside0.mk (Kd.N_below (by exact HO838.out) hb); have n8_ := Aside0.mk (below_step (zb1 HB GE816) hb); clear HO838; clear HB; have HO838 := n5_; have HB := n8_; clear n5_ n8_; (try clear hb)) | (go_at_call 11; (with_reducible refine (boltingref04_Check.calls k _ _ t836 t847 _ ?side1 ?side2 A15.out).mono ?_); (case side1 => exact zc (Kd.N_reads' HO838.out).2.2); (case side2 => exact (Kd.N_reads' HO838.out).2.1); rintro e w36 ⟨rfl, hb⟩; have n8_ := Aside0.mk (below_step (zb1 HB GE816) hb); clear HO838; clear HB; have HB := n8_; clear n8_; (try clear hb)) | (go_at_call 12; (with_reducible refine (boltinglaw13_fixed.calls  t848 _ A18.out).mono ?_); rintro e w37 ⟨rfl, hb⟩; have n8_ := Aside0.mk (below_step (zb1 HB GE816) hb); clear HB; have HB := n8_; clear n8_; (try clear hb)))
        go_ret
        exact ⟨ze, zb1 HB GE816⟩
       ·rw [if_neg c17] at H
        have c17b0 : decide ((t836.length : Int) ≤ (t817.length : Int)) = false := decide_eq_false c17
        have c17b1 : decide (t836.length ≤ t817.length) = false := decide_eq_false (fun h => c17 (Int.ofNat_le.mpr h))
        clear c17
        exact absurd (Option.some.inj H) (by rw [hT.out]; decide)
      ·rw [if_neg c16] at H
       have c16b0 : (t847 == 0) = false := beq_eq_false_iff_ne.mpr c16
       have c16b1 : (t847 != 0) = true := bne_iff_ne.mpr c16
       exact absurd (Option.some.inj H) (by rw [hT.out]; decide)
     ·replace c14 := Bool.eq_false_iff.mpr c14
      subst c14
      replace H : (some false) = some r := by rw [if_neg (show ¬ (false = true) by decide)] at H; exact H
      exact absurd (Option.some.inj H) (by rw [hT.out]; decide)
    ·replace c12 := Bool.eq_false_iff.mpr c12
     subst c12
     replace H : ((boltingref04_Check.f k t836).bind fun t849 => (if t849 = 0 then (if (t836.length : Int) ≤ (t817.length : Int) then ((boltinglaw13_fixed.f).bind fun t850 => (some t850)) else (some false)) else (some false))) = some r := by rw [if_neg (show ¬ (false = true) by decide)] at H; exact H
     replace H := Option.bind_eq_some_iff.mp H
     obtain ⟨t849, A910, H⟩ := H
     have A91 := Aside0.mk A910
     clear A910
     by_cases c92 : t849 = 0
     ·rw [if_pos c92] at H
      have c92b0 : (t849 == 0) = true := beq_iff_eq.mpr c92
      have c92b1 : (t849 != 0) = false := bne_eq_false_iff_eq.mpr c92
      clear c92
      by_cases c93 : (t836.length : Int) ≤ (t817.length : Int)
      ·rw [if_pos c93] at H
       have c93b0 : decide ((t836.length : Int) ≤ (t817.length : Int)) = true := decide_eq_true c93
       have c93b1 : decide (t836.length ≤ t817.length) = true := decide_eq_true (Int.ofNat_le.mp c93)
       clear c93
       replace H := Option.bind_eq_some_iff.mp H
       obtain ⟨t850, A940, H⟩ := H
       replace H : (some t850) = some r := H
       have A94 := Aside0.mk A940
       clear A940
       obtain rfl := Option.some.inj H
       go_enter Tryz.func9, Tryz.ntmps9
       go_wp2_with (first | ((with_reducible refine gate_dst (N := 4) rfl ?_); (try (refine gate_guard (by rfl) ?_; dsimp only)); refine box_event ?hg (N := 4) ?hd (cs := #[.bool a1_0, .bool a1_1, .slice A1_2 l1_2.length c1_2, .slice A1_3 l1_3.length c1_3, .slice A1_4 l1_4.length c1_4, .slice A1_5 l1_5.length c1_5, .bool a1_6, .bool a1_7]) (t := 32) ?hr ?_; (case hd => rfl); (case hg => rfl); (case hr => first | (go_simp; done) | (go_simp; rfl)); intro gb816 hg w95 hbox hb; have n0_ := Aside0.mk (below_step (zb HB) hb); have n1_ := Aside0.mk (hbox); have n2_ := Aside0.mk ((by rw [hg]; exact (below_size (zb HB)) : w.heap.size ≤ gb816)); have n3_ := Aside0.mk ((by rw [hg]; exact (below_size (zb HB)) : w.heap.size ≤ gb816)); clear HB; have HB := n0_; have BK816 := n1_; have GW816 := n2_; have GE816 := n3_; clear n0_ n1_ n2_ n3_; clear hb hbox hg) | ((with_reducible refine gate_callee (f := 10) rfl ?_); refine goesL_ (some 12) rfl rfl Tryz.func10 (by kernel_rfl) rfl #[.slice A0 l0.length c0] rfl zm ?_; (with_reducible refine (boltinglaw13_bound.calls k (fun k_ => k_ < w.heap.size) _ _ l0 t817 _ ?side1 A4.out).mono ?_); (case side1 => exact Kd.V_mk HC0.out (Kd.F_below (Kd.C_F k38_heap HR0.out) (zb1 HB GE816))); rintro e w96 ⟨v818, rfl, ho0, hb⟩; refine ⟨_, rfl, ?_⟩; have n0_ := Aside0.mk (Kd.N_lower (Kd.N_mono (ok' := fun k_ => k_ ≠ gb816) ho0 (fun k_ hk_ => Or.elim hk_ (fun hs_ => fun e_ => Nat.not_le.2 hs_ (by rw [e_]; exact GW816.out)) (fun hn_ => (Kd.freshB (by exact BK816.out) k_ hn_)))) (below_size (zb1 HB GE816))); have n1_ := Aside0.mk (blk_below (by exact BK816.out) hb); have n2_ := Aside0.mk (below_step (zb1 HB GE816) hb); clear BK816; clear HB; have HO819 := n0_; have BK816 := n1_; have HB := n2_; clear n0_ n1_ n2_; (try clear hb); (try clear ho0); obtain ⟨hcz97_0, hcz97_1, hcz97_2, hcz97_3, hcz97_4, hcz97_5, hcz97_6, hcz97_7, hfz97_0, hfz97_1, hfz97_2, hfz97_3, hfz97_4, hfz97_5, hfz97_6, hfz97_7⟩ := cz8 BK816.out) | ((with_reducible refine gate_callee (f := 20) rfl ?_); refine goesL_ (some 14) rfl rfl Tryz.func20 (by kernel_rfl) rfl #[.agg #[.bool a1_0, .bool a1_1, .slice A1_2 l1_2.length c1_2, .slice A1_3 l1_3.length c1_3, .slice A1_4 l1_4.length c1_4, .slice A1_5 l1_5.length c1_5, .bool a1_6, .bool a1_7]] rfl zm ?_; (with_reducible refine (boltinglaw12_Bound.calls k a1_0 a1_1 (fun k_ => k_ < w.heap.size) _ _ l1_2 (fun k_ => k_ < w.heap.size) _ _ l1_3 (fun k_ => k_ < w.heap.size) _ _ l1_4 (fun k_ => k_ < w.heap.size) _ _ l1_5 a1_6 a1_7 t820 t821 t822 t825 t828 t831 t834 t835 _ ?side1 ?side2 ?side3 ?side4 A5.out).mono ?_); (case side1 => exact Kd.V_mk HC1_2.out (Kd.F_below (Kd.C_F Kd.heap_string HR1_2.out) (zb1 HB GE816))); (case side2 => exact Kd.V_mk HC1_3.out (Kd.F_below (Kd.C_F Kd.heap_string HR1_3.out) (zb1 HB GE816))); (case side3 => exact Kd.V_mk HC1_4.out (Kd.F_below (Kd.C_F Kd.heap_string HR1_4.out) (zb1 HB GE816))); (case side4 => exact Kd.V_mk HC1_5.out (Kd.F_below (Kd.C_F k60_heap HR1_5.out) (zb1 HB GE816))); rintro e w98 ⟨v823, v826, v829, v832, rfl, ho0, ho1, ho2, ho3, hb⟩; refine ⟨_, rfl, ?_⟩; have n0_ := Aside0.mk (Kd.N_elder' (by exact HO819.out) (Kd.N_base ho3) hb); have n1_ := Aside0.mk (Kd.V_lower (Kd.V_mono (ok' := fun k_ => some k_ ≠ (v832 : Value).ownBlock ∧ some k_ ≠ (v818 : Value).ownBlock ∧ k_ ≠ gb816) ho0 (fun k_ hk_ => ⟨hk_.2, Or.elim hk_.1 (fun hs_ => Or.elim hs_ (fun hs_ => fun e_ => Nat.not_le.2 hs_ (Kd.N_base HO819.out k_ e_.symm)) (fun hs_ => Or.elim hs_ (fun hs_ => fun e_ => Nat.not_le.2 hs_ (Kd.N_base HO819.out k_ e_.symm)) (fun hs_ => Or.elim hs_ (fun hs_ => fun e_ => Nat.not_le.2 hs_ (Kd.N_base HO819.out k_ e_.symm)) (fun hs_ => fun e_ => Nat.not_le.2 hs_ (Kd.N_base HO819.out k_ e_.symm))))) (fun hn_ => (Kd.fresh' (Kd.N_lt (by exact HO819.out)) k_ hn_)), Or.elim hk_.1 (fun hs_ => Or.elim hs_ (fun hs_ => fun e_ => Nat.not_le.2 hs_ (by rw [e_]; exact GW816.out)) (fun hs_ => Or.elim hs_ (fun hs_ => fun e_ => Nat.not_le.2 hs_ (by rw [e_]; exact GW816.out)) (fun hs_ => Or.elim hs_ (fun hs_ => fun e_ => Nat.not_le.2 hs_ (by rw [e_]; exact GW816.out)) (fun hs_ => fun e_ => Nat.not_le.2 hs_ (by rw [e_]; exact GW816.out))))) (fun hn_ => (Kd.freshB (by exact BK816.out) k_ hn_))⟩)) (below_size (zb1 HB GE816))); have n2_ := Aside0.mk (Kd.V_lower (Kd.V_mono (ok' := fun k_ => some k_ ≠ (v832 : Value).ownBlock ∧ some k_ ≠ (v818 : Value).ownBlock ∧ k_ ≠ gb816) ho1 (fun k_ hk_ => ⟨hk_.2, Or.elim hk_.1 (fun hs_ => Or.elim hs_ (fun hs_ => fun e_ => Nat.not_le.2 hs_ (Kd.N_base HO819.out k_ e_.symm)) (fun hs_ => Or.elim hs_ (fun hs_ => fun e_ => Nat.not_le.2 hs_ (Kd.N_base HO819.out k_ e_.symm)) (fun hs_ => Or.elim hs_ (fun hs_ => fun e_ => Nat.not_le.2 hs_ (Kd.N_base HO819.out k_ e_.symm)) (fun hs_ => fun e_ => Nat.not_le.2 hs_ (Kd.N_base HO819.out k_ e_.symm))))) (fun hn_ => (Kd.fresh' (Kd.N_lt (by exact HO819.out)) k_ hn_)), Or.elim hk_.1 (fun hs_ => Or.elim hs_ (fun hs_ => fun e_ => Nat.not_le.2 hs_ (by rw [e_]; exact GW816.out)) (fun hs_ => Or.elim hs_ (fun hs_ => fun e_ => Nat.not_le.2 hs_ (by rw [e_]; exact GW816.out)) (fun hs_ => Or.elim hs_ (fun hs_ => fun e_ => Nat.not_le.2 hs_ (by rw [e_]; exact GW816.out)) (fun hs_ => fun e_ => Nat.not_le.2 hs_ (by rw [e_]; exact GW816.out))))) (fun hn_ => (Kd.freshB (by exact BK816.out) k_ hn_))⟩)) (below_size (zb1 HB GE816))); have n3_ := Aside0.mk (Kd.V_lower (Kd.V_mono (ok' := fun k_ => some k_ ≠ (v832 : Value).ownBlock ∧ some k_ ≠ (v818 : Value).ownBlock ∧ k_ ≠ gb816) ho2 (fun k_ hk_ => ⟨hk_.2, Or.elim hk_.1 (fun hs_ => Or.elim hs_ (fun hs_ => fun e_ => Nat.not_le.2 hs_ (Kd.N_base HO819.out k_ e_.symm)) (fun hs_ => Or.elim hs_ (fun hs_ => fun e_ => Nat.not_le.2 hs_ (Kd.N_base HO819.out k_ e_.symm)) (fun hs_ => Or.elim hs_ (fun hs_ => fun e_ => Nat.not_le.2 hs_ (Kd.N_base HO819.out k_ e_.symm)) (fun hs_ => fun e_ => Nat.not_le.2 hs_ (Kd.N_base HO819.out k_ e_.symm))))) (fun hn_ => (Kd.fresh' (Kd.N_lt (by exact HO819.out)) k_ hn_)), Or.elim hk_.1 (fun hs_ => Or.elim hs_ (fun hs_ => fun e_ => Nat.not_le.2 hs_ (by rw [e_]; exact GW816.out)) (fun hs_ => Or.elim hs_ (fun hs_ => fun e_ => Nat.not_le.2 hs_ (by rw [e_]; exact GW816.out)) (fun hs_ => Or.elim hs_ (fun hs_ => fun e_ => Nat.not_le.2 hs_ (by rw [e_]; exact GW816.out)) (fun hs_ => fun e_ => Nat.not_le.2 hs_ (by rw [e_]; exact GW816.out))))) (fun hn_ => (Kd.freshB (by exact BK816.out) k_ hn_))⟩)) (below_size (zb1 HB GE816))); have n4_ := Aside0.mk (Kd.N_lower (Kd.N_mono (ok' := fun k_ => some k_ ≠ (v818 : Value).ownBlock ∧ k_ ≠ gb816) ho3 (fun k_ hk_ => ⟨Or.elim hk_ (fun hs_ => Or.elim hs_ (fun hs_ => fun e_ => Nat.not_le.2 hs_ (Kd.N_base HO819.out k_ e_.symm)) (fun hs_ => Or.elim hs_ (fun hs_ => fun e_ => Nat.not_le.2 hs_ (Kd.N_base HO819.out k_ e_.symm)) (fun hs_ => Or.elim hs_ (fun hs_ => fun e_ => Nat.not_le.2 hs_ (Kd.N_base HO819.out k_ e_.symm)) (fun hs_ => fun e_ => Nat.not_le.2 hs_ (Kd.N_base HO819.out k_ e_.symm))))) (fun hn_ => (Kd.fresh' (Kd.N_lt (by exact HO819.out)) k_ hn_)), Or.elim hk_ (fun hs_ => Or.elim hs_ (fun hs_ => fun e_ => Nat.not_le.2 hs_ (by rw [e_]; exact GW816.out)) (fun hs_ => Or.elim hs_ (fun hs_ => fun e_ => Nat.not_le.2 hs_ (by rw [e_]; exact GW816.out)) (fun hs_ => Or.elim hs_ (fun hs_ => fun e_ => Nat.not_le.2 hs_ (by rw [e_]; exact GW816.out)) (fun hs_ => fun e_ => Nat.not_le.2 hs_ (by rw [e_]; exact GW816.out))))) (fun hn_ => (Kd.freshB (by exact BK816.out) k_ hn_))⟩)) (below_size (zb1 HB GE816))); have n5_ := Aside0.mk (blk_below (by exact BK816.out) hb); have n6_ := Aside0.mk (below_step (zb1 HB GE816) hb); clear HO819; clear BK816; clear HB; have HO819 := n0_; have HO824 := n1_; have HO827 := n2_; have HO830 := n3_; have HO833 := n4_; have BK816 := n5_; have HB := n6_; clear n0_ n1_ n2_ n3_ n4_ n5_ n6_; (try clear hb); (try clear ho0); (try clear ho1); (try clear ho2); (try clear ho3); obtain ⟨hcz99_0, hcz99_1, hcz99_2, hcz99_3, hcz99_4, hcz99_5, hcz99_6, hcz99_7, hfz99_0, hfz99_1, hfz99_2, hfz99_3, hfz99_4, hfz99_5, hfz99_6, hfz99_7⟩ := cz8 BK816.out; obtain ⟨Ao100, co100, eo100⟩ := Kd.V_slice HO824.out; subst eo100; obtain ⟨Ao101, co101, eo101⟩ := Kd.V_slice HO827.out; subst eo101; obtain ⟨Ao102, co102, eo102⟩ := Kd.V_slice HO830.out; subst eo102; obtain ⟨Ao103, co103, eo103⟩ := Kd.N_slice HO833.out; subst eo103; obtain ⟨Ao104, co104, eo104⟩ := Kd.N_slice HO819.out; subst eo104) | ((with_reducible refine gate_callee (f := 14) rfl ?_); refine goesL_ (some 19) rfl rfl Tryz.func14 (by kernel_rfl) rfl #[.slice Ao104 t817.length co104, .agg #[.bool t820, .bool t821, .slice Ao100 t822.length co100, .slice Ao101 t825.length co101, .slice Ao102 t828.length co102, .slice Ao103 t831.length co103, .bool t834, .bool t835], .bool false] rfl zm ?_; (with_reducible refine (clean_Rows.calls k _ _ t817 t820 t821 _ _ t822 _ _ t825 _ _ t828 _ _ t831 t834 t835 false t836 t839 _ ?side1 ?side2 ?side3 ?side4 ?side5 ?side6 ?side7 ?side8 ?side9 ?side10 A6.out).mono ?_); (case side1 => refine (Kd.N_reads' (e := 38) (base := w.heap.size) (ok := fun k_ => (k_ ≠ gb816 ∧ some k_ ≠ (.slice Ao103 t831.length co103 : Value).ownBlock)) (n := t817.length) (c := co104) ?_).2.2; exact (by exact (Kd.N_mono (Nf8 (g := gb816) (Kd.N_mono HO819.out (fun k_ hk => (⟨hk, hk.1⟩ : _ ∧ k_ ≠ gb816))) (fun _ hk => hk.2) (.bool t820) (.bool t821) (.slice Ao100 t822.length co100) (.slice Ao101 t825.length co101) (.slice Ao102 t828.length co102) (.slice Ao103 t831.length co103) (.bool t834) (.bool t835)) (fun _ h_ => h_.1)))); (case side2 => exact (Kd.N_reads' HO819.out).2.1); (case side3 => refine (Kd.V_reads' (e := 9) (base := w.heap.size) (ok := fun k_ => (some k_ ≠ (.slice Ao103 t831.length co103 : Value).ownBlock ∧ (some k_ ≠ (.slice Ao104 t817.length co104 : Value).ownBlock ∧ k_ ≠ gb816))) (n := t822.length) (c := co100) ?_).2.2; exact (by exact (Kd.V_mono (Vf8 (g := gb816) (Kd.V_mono HO824.out (fun k_ hk => (⟨hk, hk.2.2⟩ : _ ∧ k_ ≠ gb816))) (fun _ hk => hk.2) (.bool t820) (.bool t821) (.slice Ao100 t822.length co100) (.slice Ao101 t825.length co101) (.slice Ao102 t828.length co102) (.slice Ao103 t831.length co103) (.bool t834) (.bool t835)) (fun _ h_ => h_.1)))); (case side4 => exact (Kd.V_reads' HO824.out).2.1); (case side5 => refine (Kd.V_reads' (e := 9) (base := w.heap.size) (ok := fun k_ => (some k_ ≠ (.slice Ao103 t831.length co103 : Value).ownBlock ∧ (some k_ ≠ (.slice Ao104 t817.length co104 : Value).ownBlock ∧ k_ ≠ gb816))) (n := t825.length) (c := co101) ?_).2.2; exact (by exact (Kd.V_mono (Vf8 (g := gb816) (Kd.V_mono HO827.out (fun k_ hk => (⟨hk, hk.2.2⟩ : _ ∧ k_ ≠ gb816))) (fun _ hk => hk.2) (.bool t820) (.bool t821) (.slice Ao100 t822.length co100) (.slice Ao101 t825.length co101) (.slice Ao102 t828.length co102) (.slice Ao103 t831.length co103) (.bool t834) (.bool t835)) (fun _ h_ => h_.1)))); (case side6 => exact (Kd.V_reads' HO827.out).2.1); (case side7 => refine (Kd.V_reads' (e := 9) (base := w.heap.size) (ok := fun k_ => (some k_ ≠ (.slice Ao103 t831.length co103 : Value).ownBlock ∧ (some k_ ≠ (.slice Ao104 t817.length co104 : Value).ownBlock ∧ k_ ≠ gb816))) (n := t828.length) (c := co102) ?_).2.2; exact (by exact (Kd.V_mono (Vf8 (g := gb816) (Kd.V_mono HO830.out (fun k_ hk => (⟨hk, hk.2.2⟩ : _ ∧ k_ ≠ gb816))) (fun _ hk => hk.2) (.bool t820) (.bool t821) (.slice Ao100 t822.length co100) (.slice Ao101 t825.length co101) (.slice Ao102 t828.length co102) (.slice Ao103 t831.length co103) (.bool t834) (.bool t835)) (fun _ h_ => h_.1)))); (case side8 => exact (Kd.V_reads' HO830.out).2.1); (case side9 => refine (Kd.N_reads' (e := 60) (base := w.heap.size) (ok := fun k_ => (some k_ ≠ (.slice Ao104 t817.length co104 : Value).ownBlock ∧ k_ ≠ gb816)) (n := t831.length) (c := co103) ?_).2.2; exact (by exact (Kd.N_mono (Nf8 (g := gb816) (Kd.N_mono HO833.out (fun k_ hk => (⟨hk, hk.2⟩ : _ ∧ k_ ≠ gb816))) (fun _ hk => hk.2) (.bool t820) (.bool t821) (.slice Ao100 t822.length co100) (.slice Ao101 t825.length co101) (.slice Ao102 t828.length co102) (.slice Ao103 t831.length co103) (.bool t834) (.bool t835)) (fun _ h_ => h_.1)))); (case side10 => exact (Kd.N_reads' HO833.out).2.1); rintro e w105 ⟨v837, rfl, ho0, hb⟩; refine ⟨_, rfl, ?_⟩; have n0_ := Aside0.mk (Kd.N_elder' (by exact (Kd.N_mono (Nf8 (g := gb816) (Kd.N_mono HO819.out (fun k_ hk => (⟨hk, hk.1⟩ : _ ∧ k_ ≠ gb816))) (fun _ hk => hk.2) (.bool t820) (.bool t821) (.slice Ao100 t822.length co100) (.slice Ao101 t825.length co101) (.slice Ao102 t828.length co102) (.slice Ao103 t831.length co103) (.bool t834) (.bool t835)) (fun _ h_ => h_.1))) (Kd.N_base ho0) hb); have n1_ := Aside0.mk (Kd.V_elder' (by exact (Kd.V_mono (Vf8 (g := gb816) (Kd.V_mono HO824.out (fun k_ hk => (⟨hk, hk.2.2⟩ : _ ∧ k_ ≠ gb816))) (fun _ hk => hk.2) (.bool t820) (.bool t821) (.slice Ao100 t822.length co100) (.slice Ao101 t825.length co101) (.slice Ao102 t828.length co102) (.slice Ao103 t831.length co103) (.bool t834) (.bool t835)) (fun _ h_ => h_.1))) (Kd.N_base ho0) hb); have n2_ := Aside0.mk (Kd.V_elder' (by exact (Kd.V_mono (Vf8 (g := gb816) (Kd.V_mono HO827.out (fun k_ hk => (⟨hk, hk.2.2⟩ : _ ∧ k_ ≠ gb816))) (fun _ hk => hk.2) (.bool t820) (.bool t821) (.slice Ao100 t822.length co100) (.slice Ao101 t825.length co101) (.slice Ao102 t828.length co102) (.slice Ao103 t831.length co103) (.bool t834) (.bool t835)) (fun _ h_ => h_.1))) (Kd.N_base ho0) hb); have n3_ := Aside0.mk (Kd.V_elder' (by exact (Kd.V_mono (Vf8 (g := gb816) (Kd.V_mono HO830.out (fun k_ hk => (⟨hk, hk.2.2⟩ : _ ∧ k_ ≠ gb816))) (fun _ hk => hk.2) (.bool t820) (.bool t821) (.slice Ao100 t822.length co100) (.slice Ao101 t825.length co101) (.slice Ao102 t828.length co102) (.slice Ao103 t831.length co103) (.bool t834) (.bool t835)) (fun _ h_ => h_.1))) (Kd.N_base ho0) hb); have n4_ := Aside0.mk (Kd.N_elder' (by exact (Kd.N_mono (Nf8 (g := gb816) (Kd.N_mono HO833.out (fun k_ hk => (⟨hk, hk.2⟩ : _ ∧ k_ ≠ gb816))) (fun _ hk => hk.2) (.bool t820) (.bool t821) (.slice Ao100 t822.length co100) (.slice Ao101 t825.length co101) (.slice Ao102 t828.length co102) (.slice Ao103 t831.length co103) (.bool t834) (.bool t835)) (fun _ h_ => h_.1))) (Kd.N_base ho0) hb); have n5_ := Aside0.mk (Kd.N_lower (Kd.N_mono (ok' := fun k_ => some k_ ≠ (.slice Ao104 t817.length co104 : Value).ownBlock ∧ some k_ ≠ (.slice Ao103 t831.length co103 : Value).ownBlock ∧ k_ ≠ gb816) ho0 (fun k_ hk_ => ⟨(Kd.fresh' (Kd.N_lt (by exact (Kd.N_mono (Nf8 (g := gb816) (Kd.N_mono HO819.out (fun k_ hk => (⟨hk, hk.1⟩ : _ ∧ k_ ≠ gb816))) (fun _ hk => hk.2) (.bool t820) (.bool t821) (.slice Ao100 t822.length co100) (.slice Ao101 t825.length co101) (.slice Ao102 t828.length co102) (.slice Ao103 t831.length co103) (.bool t834) (.bool t835)) (fun _ h_ => h_.1)))) k_ hk_), (Kd.fresh' (Kd.N_lt (by exact (Kd.N_mono (Nf8 (g := gb816) (Kd.N_mono HO833.out (fun k_ hk => (⟨hk, hk.2⟩ : _ ∧ k_ ≠ gb816))) (fun _ hk => hk.2) (.bool t820) (.bool t821) (.slice Ao100 t822.length co100) (.slice Ao101 t825.length co101) (.slice Ao102 t828.length co102) (.slice Ao103 t831.length co103) (.bool t834) (.bool t835)) (fun _ h_ => h_.1)))) k_ hk_), (Kd.freshB (g := gb816) (o := .cells #[.bool t820, .bool t821, .slice Ao100 t822.length co100, .slice Ao101 t825.length co101, .slice Ao102 t828.length co102, .slice Ao103 t831.length co103, .bool t834, .bool t835] 32 (0, 0)) (by refine blk_put (cs := #[.bool t820, .bool t821, .slice Ao100 t822.length co100, .slice Ao101 t825.length co101, .slice Ao102 t828.length co102, .slice Ao103 t831.length co103, .bool t834, .bool a1_7]) ?_ 7 _ rfl; refine blk_put (cs := #[.bool t820, .bool t821, .slice Ao100 t822.length co100, .slice Ao101 t825.length co101, .slice Ao102 t828.length co102, .slice Ao103 t831.length co103, .bool a1_6, .bool a1_7]) ?_ 6 _ rfl; refine blk_put (cs := #[.bool t820, .bool t821, .slice Ao100 t822.length co100, .slice Ao101 t825.length co101, .slice Ao102 t828.length co102, .slice A1_5 l1_5.length c1_5, .bool a1_6, .bool a1_7]) ?_ 5 _ rfl; refine blk_put (cs := #[.bool t820, .bool t821, .slice Ao100 t822.length co100, .slice Ao101 t825.length co101, .slice A1_4 l1_4.length c1_4, .slice A1_5 l1_5.length c1_5, .bool a1_6, .bool a1_7]) ?_ 4 _ rfl; refine blk_put (cs := #[.bool t820, .bool t821, .slice Ao100 t822.length co100, .slice A1_3 l1_3.length c1_3, .slice A1_4 l1_4.length c1_4, .slice A1_5 l1_5.length c1_5, .bool a1_6, .bool a1_7]) ?_ 3 _ rfl; refine blk_put (cs := #[.bool t820, .bool t821, .slice A1_2 l1_2.length c1_2, .slice A1_3 l1_3.length c1_3, .slice A1_4 l1_4.length c1_4, .slice A1_5 l1_5.length c1_5, .bool a1_6, .bool a1_7]) ?_ 2 _ rfl; refine blk_put (cs := #[.bool t820, .bool a1_1, .slice A1_2 l1_2.length c1_2, .slice A1_3 l1_3.length c1_3, .slice A1_4 l1_4.length c1_4, .slice A1_5 l1_5.length c1_5, .bool a1_6, .bool a1_7]) ?_ 1 _ rfl; refine blk_put (cs := #[.bool a1_0, .bool a1_1, .slice A1_2 l1_2.length c1_2, .slice A1_3 l1_3.length c1_3, .slice A1_4 l1_4.length c1_4, .slice A1_5 l1_5.length c1_5, .bool a1_6, .bool a1_7]) ?_ 0 _ rfl; exact BK816.out) k_ hk_)⟩)) (below_size (zb1 HB GE816))); have n6_ := Aside0.mk (blk_below (g := gb816) (o := .cells #[.bool t820, .bool t821, .slice Ao100 t822.length co100, .slice Ao101 t825.length co101, .slice Ao102 t828.length co102, .slice Ao103 t831.length co103, .bool t834, .bool t835] 32 (0, 0)) (by refine blk_put (cs := #[.bool t820, .bool t821, .slice Ao100 t822.length co100, .slice Ao101 t825.length co101, .slice Ao102 t828.length co102, .slice Ao103 t831.length co103, .bool t834, .bool a1_7]) ?_ 7 _ rfl; refine blk_put (cs := #[.bool t820, .bool t821, .slice Ao100 t822.length co100, .slice Ao101 t825.length co101, .slice Ao102 t828.length co102, .slice Ao103 t831.length co103, .bool a1_6, .bool a1_7]) ?_ 6 _ rfl; refine blk_put (cs := #[.bool t820, .bool t821, .slice Ao100 t822.length co100, .slice Ao101 t825.length co101, .slice Ao102 t828.length co102, .slice A1_5 l1_5.length c1_5, .bool a1_6, .bool a1_7]) ?_ 5 _ rfl; refine blk_put (cs := #[.bool t820, .bool t821, .slice Ao100 t822.length co100, .slice Ao101 t825.length co101, .slice A1_4 l1_4.length c1_4, .slice A1_5 l1_5.length c1_5, .bool a1_6, .bool a1_7]) ?_ 4 _ rfl; refine blk_put (cs := #[.bool t820, .bool t821, .slice Ao100 t822.length co100, .slice A1_3 l1_3.length c1_3, .slice A1_4 l1_4.length c1_4, .slice A1_5 l1_5.length c1_5, .bool a1_6, .bool a1_7]) ?_ 3 _ rfl; refine blk_put (cs := #[.bool t820, .bool t821, .slice A1_2 l1_2.length c1_2, .slice A1_3 l1_3.length c1_3, .slice A1_4 l1_4.length c1_4, .slice A1_5 l1_5.length c1_5, .bool a1_6, .bool a1_7]) ?_ 2 _ rfl; refine blk_put (cs := #[.bool t820, .bool a1_1, .slice A1_2 l1_2.length c1_2, .slice A1_3 l1_3.length c1_3, .slice A1_4 l1_4.length c1_4, .slice A1_5 l1_5.length c1_5, .bool a1_6, .bool a1_7]) ?_ 1 _ rfl; refine blk_put (cs := #[.bool a1_0, .bool a1_1, .slice A1_2 l1_2.length c1_2, .slice A1_3 l1_3.length c1_3, .slice A1_4 l1_4.length c1_4, .slice A1_5 l1_5.length c1_5, .bool a1_6, .bool a1_7]) ?_ 0 _ rfl; exact BK816.out) hb); have n7_ := Aside0.mk (below_step (zb1 HB GE816) hb); clear HO819; clear HO824; clear HO827; clear HO830; clear HO833; clear BK816; clear HB; have HO819 := n0_; have HO824 := n1_; have HO827 := n2_; have HO830 := n3_; have HO833 := n4_; have HO838 := n5_; have BK816 := n6_; have HB := n7_; clear n0_ n1_ n2_ n3_ n4_ n5_ n6_ n7_; (try clear hb); (try clear ho0); obtain ⟨hcz106_0, hcz106_1, hcz106_2, hcz106_3, hcz106_4, hcz106_5, hcz106_6, hcz106_7, hfz106_0, hfz106_1, hfz106_2, hfz106_3, hfz106_4, hfz106_5, hfz106_6, hfz106_7⟩ := cz8 BK816.out; obtain ⟨Ao107, co107, eo107⟩ := Kd.N_slice HO838.out; subst eo107) | ((with_reducible refine gate_callee (f := 14) rfl ?_); refine goesL_ (some 34) rfl rfl Tryz.func14 (by kernel_rfl) rfl #[.slice Ao107 t836.length co107, .agg #[.bool t820, .bool t821, .slice Ao100 t822.length co100, .slice Ao101 t825.length co101, .slice Ao102 t828.length co102, .slice Ao103 t831.length co103, .bool t834, .bool t835], .bool false] rfl zm ?_; (with_reducible refine (clean_Rows.calls k _ _ t836 t820 t821 _ _ t822 _ _ t825 _ _ t828 _ _ t831 t834 t835 false t841 t844 _ ?side1 ?side2 ?side3 ?side4 ?side5 ?side6 ?side7 ?side8 ?side9 ?side10 A8.out).mono ?_); (case side1 => exact zc (Kd.N_reads' HO838.out).2.2); (case side2 => exact (Kd.N_reads' HO838.out).2.1); (case side3 => exact zc (Kd.V_reads' HO824.out).2.2); (case side4 => exact (Kd.V_reads' HO824.out).2.1); (case side5 => exact zc (Kd.V_reads' HO827.out).2.2); (case side6 => exact (Kd.V_reads' HO827.out).2.1); (case side7 => exact zc (Kd.V_reads' HO830.out).2.2); (case side8 => exact (Kd.V_reads' HO830.out).2.1); (case side9 => exact zc (Kd.N_reads' HO833.out).2.2); (case side10 => exact (Kd.N_reads' HO833.out).2.1); rintro e w108 ⟨v842, rfl, ho0, hb⟩; refine ⟨_, rfl, ?_⟩; have n5_ := Aside0.mk (Kd.N_elder' (by exact HO838.out) (Kd.N_base ho0) hb); have n6_ := Aside0.mk (Kd.N_lower (Kd.N_mono (ok' := fun k_ => some k_ ≠ (.slice Ao104 t817.length co104 : Value).ownBlock ∧ some k_ ≠ (.slice Ao103 t831.length co103 : Value).ownBlock ∧ some k_ ≠ (.slice Ao107 t836.length co107 : Value).ownBlock ∧ k_ ≠ gb816) ho0 (fun k_ hk_ => ⟨(Kd.fresh' (Kd.N_lt (by exact HO819.out)) k_ hk_), (Kd.fresh' (Kd.N_lt (by exact HO833.out)) k_ hk_), (Kd.fresh' (Kd.N_lt (by exact HO838.out)) k_ hk_), (Kd.freshB (by exact BK816.out) k_ hk_)⟩)) (below_size (zb1 HB GE816))); have n8_ := Aside0.mk (below_step (zb1 HB GE816) hb); clear HO819; clear HO824; clear HO827; clear HO830; clear HO833; clear HO838; clear BK816; clear HB; have HO838 := n5_; have HO843 := n6_; have HB := n8_; clear n5_ n6_ n8_; (try clear hb); (try clear ho0); obtain ⟨Ao109, co109, eo109⟩ := Kd.N_slice HO843.out; subst eo109) | (go_at_call 16; (with_reducible refine (boltingref04_Same.calls k _ _ t836 _ _ t841 true _ ?side1 ?side2 ?side3 ?side4 A10.out).mono ?_); (case side1 => exact zc (Kd.N_reads' HO838.out).2.2); (case side2 => exact (Kd.N_reads' HO838.out).2.1); (case side3 => exact zc (Kd.N_reads' HO843.out).2.2); (case side4 => exact (Kd.N_reads' HO843.out).2.1); rintro e w110 ⟨rfl, hb⟩; have n5_ := Aside0.mk (Kd.N_below (by exact HO838.out) hb); have n8_ := Aside0.mk (below_step (zb1 HB GE816) hb); clear HO838; clear HO843; clear HB; have HO838 := n5_; have HB := n8_; clear n5_ n8_; (try clear hb)) | (go_at_call 11; (with_reducible refine (boltingref04_Check.calls k _ _ t836 t849 _ ?side1 ?side2 A91.out).mono ?_); (case side1 => exact zc (Kd.N_reads' HO838.out).2.2); (case side2 => exact (Kd.N_reads' HO838.out).2.1); rintro e w111 ⟨rfl, hb⟩; have n8_ := Aside0.mk (below_step (zb1 HB GE816) hb); clear HO838; clear HB; have HB := n8_; clear n8_; (try clear hb)) | (go_at_call 12; (with_reducible refine (boltinglaw13_fixed.calls  t850 _ A94.out).mono ?_); rintro e w112 ⟨rfl, hb⟩; have n8_ := Aside0.mk (below_step (zb1 HB GE816) hb); clear HB; have HB := n8_; clear n8_; (try clear hb)))
       go_ret
       exact ⟨ze, zb1 HB GE816⟩
      ·rw [if_neg c93] at H
       have c93b0 : decide ((t836.length : Int) ≤ (t817.length : Int)) = false := decide_eq_false c93
       have c93b1 : decide (t836.length ≤ t817.length) = false := decide_eq_false (fun h => c93 (Int.ofNat_le.mpr h))
       clear c93
       exact absurd (Option.some.inj H) (by rw [hT.out]; decide)
     ·rw [if_neg c92] at H
      have c92b0 : (t849 == 0) = false := beq_eq_false_iff_ne.mpr c92
      have c92b1 : (t849 != 0) = true := bne_iff_ne.mpr c92
      exact absurd (Option.some.inj H) (by rw [hT.out]; decide)
   ·replace c11 := Bool.eq_false_iff.mpr c11
    subst c11
    replace H : (some false) = some r := by rw [if_neg (show ¬ (false = true) by decide)] at H; exact H
    exact absurd (Option.some.inj H) (by rw [hT.out]; decide)
  ·rw [if_neg c9] at H
   have c9b0 : (t844 == 0) = false := beq_eq_false_iff_ne.mpr c9
   have c9b1 : (t844 != 0) = true := bne_iff_ne.mpr c9
   exact absurd (Option.some.inj H) (by rw [hT.out]; decide)
 ·rw [if_neg c7] at H
  have c7b0 : (t839 == 0) = false := beq_eq_false_iff_ne.mpr c7
  have c7b1 : (t839 != 0) = true := bne_iff_ne.mpr c7
  by_cases c177 : (t836.length : Int) = 0
  ·rw [if_pos c177] at H
   have c177b0 : ((t836.length : Int) == 0) = true := beq_iff_eq.mpr c177
   have c177b1 : ((t836.length : Int) != 0) = false := bne_eq_false_iff_eq.mpr c177
   clear c177
   replace H := Option.bind_eq_some_iff.mp H
   obtain ⟨t840, A1780, H⟩ := H
   replace H : (some t840) = some r := H
   have A178 := Aside0.mk A1780
   clear A1780
   obtain rfl := Option.some.inj H
   go_enter Tryz.func9, Tryz.ntmps9
   go_wp2_with (first | ((with_reducible refine gate_dst (N := 4) rfl ?_); (try (refine gate_guard (by rfl) ?_; dsimp only)); refine box_event ?hg (N := 4) ?hd (cs := #[.bool a1_0, .bool a1_1, .slice A1_2 l1_2.length c1_2, .slice A1_3 l1_3.length c1_3, .slice A1_4 l1_4.length c1_4, .slice A1_5 l1_5.length c1_5, .bool a1_6, .bool a1_7]) (t := 32) ?hr ?_; (case hd => rfl); (case hg => rfl); (case hr => first | (go_simp; done) | (go_simp; rfl)); intro gb816 hg w179 hbox hb; have n0_ := Aside0.mk (below_step (zb HB) hb); have n1_ := Aside0.mk (hbox); have n2_ := Aside0.mk ((by rw [hg]; exact (below_size (zb HB)) : w.heap.size ≤ gb816)); have n3_ := Aside0.mk ((by rw [hg]; exact (below_size (zb HB)) : w.heap.size ≤ gb816)); clear HB; have HB := n0_; have BK816 := n1_; have GW816 := n2_; have GE816 := n3_; clear n0_ n1_ n2_ n3_; clear hb hbox hg) | ((with_reducible refine gate_callee (f := 10) rfl ?_); refine goesL_ (some 12) rfl rfl Tryz.func10 (by kernel_rfl) rfl #[.slice A0 l0.length c0] rfl zm ?_; (with_reducible refine (boltinglaw13_bound.calls k (fun k_ => k_ < w.heap.size) _ _ l0 t817 _ ?side1 A4.out).mono ?_); (case side1 => exact Kd.V_mk HC0.out (Kd.F_below (Kd.C_F k38_heap HR0.out) (zb1 HB GE816))); rintro e w180 ⟨v818, rfl, ho0, hb⟩; refine ⟨_, rfl, ?_⟩; have n0_ := Aside0.mk (Kd.N_lower (Kd.N_mono (ok' := fun k_ => k_ ≠ gb816) ho0 (fun k_ hk_ => Or.elim hk_ (fun hs_ => fun e_ => Nat.not_le.2 hs_ (by rw [e_]; exact GW816.out)) (fun hn_ => (Kd.freshB (by exact BK816.out) k_ hn_)))) (below_size (zb1 HB GE816))); have n1_ := Aside0.mk (blk_below (by exact BK816.out) hb); have n2_ := Aside0.mk (below_step (zb1 HB GE816) hb); clear BK816; clear HB; have HO819 := n0_; have BK816 := n1_; have HB := n2_; clear n0_ n1_ n2_; (try clear hb); (try clear ho0); obtain ⟨hcz181_0, hcz181_1, hcz181_2, hcz181_3, hcz181_4, hcz181_5, hcz181_6, hcz181_7, hfz181_0, hfz181_1, hfz181_2, hfz181_3, hfz181_4, hfz181_5, hfz181_6, hfz181_7⟩ := cz8 BK816.out) | ((with_reducible refine gate_callee (f := 20) rfl ?_); refine goesL_ (some 14) rfl rfl Tryz.func20 (by kernel_rfl) rfl #[.agg #[.bool a1_0, .bool a1_1, .slice A1_2 l1_2.length c1_2, .slice A1_3 l1_3.length c1_3, .slice A1_4 l1_4.length c1_4, .slice A1_5 l1_5.length c1_5, .bool a1_6, .bool a1_7]] rfl zm ?_; (with_reducible refine (boltinglaw12_Bound.calls k a1_0 a1_1 (fun k_ => k_ < w.heap.size) _ _ l1_2 (fun k_ => k_ < w.heap.size) _ _ l1_3 (fun k_ => k_ < w.heap.size) _ _ l1_4 (fun k_ => k_ < w.heap.size) _ _ l1_5 a1_6 a1_7 t820 t821 t822 t825 t828 t831 t834 t835 _ ?side1 ?side2 ?side3 ?side4 A5.out).mono ?_); (case side1 => exact Kd.V_mk HC1_2.out (Kd.F_below (Kd.C_F Kd.heap_string HR1_2.out) (zb1 HB GE816))); (case side2 => exact Kd.V_mk HC1_3.out (Kd.F_below (Kd.C_F Kd.heap_string HR1_3.out) (zb1 HB GE816))); (case side3 => exact Kd.V_mk HC1_4.out (Kd.F_below (Kd.C_F Kd.heap_string HR1_4.out) (zb1 HB GE816))); (case side4 => exact Kd.V_mk HC1_5.out (Kd.F_below (Kd.C_F k60_heap HR1_5.out) (zb1 HB GE816))); rintro e w182 ⟨v823, v826, v829, v832, rfl, ho0, ho1, ho2, ho3, hb⟩; refine ⟨_, rfl, ?_⟩; have n0_ := Aside0.mk (Kd.N_elder' (by exact HO819.out) (Kd.N_base ho3) hb); have n1_ := Aside0.mk (Kd.V_lower (Kd.V_mono (ok' := fun k_ => some k_ ≠ (v832 : Value).ownBlock ∧ some k_ ≠ (v818 : Value).ownBlock ∧ k_ ≠ gb816) ho0 (fun k_ hk_ => ⟨hk_.2, Or.elim hk_.1 (fun hs_ => Or.elim hs_ (fun hs_ => fun e_ => Nat.not_le.2 hs_ (Kd.N_base HO819.out k_ e_.symm)) (fun hs_ => Or.elim hs_ (fun hs_ => fun e_ => Nat.not_le.2 hs_ (Kd.N_base HO819.out k_ e_.symm)) (fun hs_ => Or.elim hs_ (fun hs_ => fun e_ => Nat.not_le.2 hs_ (Kd.N_base HO819.out k_ e_.symm)) (fun hs_ => fun e_ => Nat.not_le.2 hs_ (Kd.N_base HO819.out k_ e_.symm))))) (fun hn_ => (Kd.fresh' (Kd.N_lt (by exact HO819.out)) k_ hn_)), Or.elim hk_.1 (fun hs_ => Or.elim hs_ (fun hs_ => fun e_ => Nat.not_le.2 hs_ (by rw [e_]; exact GW816.out)) (fun hs_ => Or.elim hs_ (fun hs_ => fun e_ => Nat.not_le.2 hs_ (by rw [e_]; exact GW816.out)) (fun hs_ => Or.elim hs_ (fun hs_ => fun e_ => Nat.not_le.2 hs_ (by rw [e_]; exact GW816.out)) (fun hs_ => fun e_ => Nat.not_le.2 hs_ (by rw [e_]; exact GW816.out))))) (fun hn_ => (Kd.freshB (by exact BK816.out) k_ hn_))⟩)) (below_size (zb1 HB GE816))); have n2_ := Aside0.mk (Kd.V_lower (Kd.V_mono (ok' := fun k_ => some k_ ≠ (v832 : Value).ownBlock ∧ some k_ ≠ (v818 : Value).ownBlock ∧ k_ ≠ gb816) ho1 (fun k_ hk_ => ⟨hk_.2, Or.elim hk_.1 (fun hs_ => Or.elim hs_ (fun hs_ => fun e_ => Nat.not_le.2 hs_ (Kd.N_base HO819.out k_ e_.symm)) (fun hs_ => Or.elim hs_ (fun hs_ => fun e_ => Nat.not_le.2 hs_ (Kd.N_base HO819.out k_ e_.symm)) (fun hs_ => Or.elim hs_ (fun hs_ => fun e_ => Nat.not_le.2 hs_ (Kd.N_base HO819.out k_ e_.symm)) (fun hs_ => fun e_ => Nat.not_le.2 hs_ (Kd.N_base HO819.out k_ e_.symm))))) (fun hn_ => (Kd.fresh' (Kd.N_lt (by exact HO819.out)) k_ hn_)), Or.elim hk_.1 (fun hs_ => Or.elim hs_ (fun hs_ => fun e_ => Nat.not_le.2 hs_ (by rw [e_]; exact GW816.out)) (fun hs_ => Or.elim hs_ (fun hs_ => fun e_ => Nat.not_le.2 hs_ (by rw [e_]; exact GW816.out)) (fun hs_ => Or.elim hs_ (fun hs_ => fun e_ => Nat.not_le.2 hs_ (by rw [e_]; exact GW816.out)) (fun hs_ => fun e_ => Nat.not_le.2 hs_ (by rw [e_]; exact GW816.out))))) (fun hn_ => (Kd.freshB (by exact BK816.out) k_ hn_))⟩)) (below_size (zb1 HB GE816))); have n3_ := Aside0.mk (Kd.V_lower (Kd.V_mono (ok' := fun k_ => some k_ ≠ (v832 : Value).ownBlock ∧ some k_ ≠ (v818 : Value).ownBlock ∧ k_ ≠ gb816) ho2 (fun k_ hk_ => ⟨hk_.2, Or.elim hk_.1 (fun hs_ => Or.elim hs_ (fun hs_ => fun e_ => Nat.not_le.2 hs_ (Kd.N_base HO819.out k_ e_.symm)) (fun hs_ => Or.elim hs_ (fun hs_ => fun e_ => Nat.not_le.2 hs_ (Kd.N_base HO819.out k_ e_.symm)) (fun hs_ => Or.elim hs_ (fun hs_ => fun e_ => Nat.not_le.2 hs_ (Kd.N_base HO819.out k_ e_.symm)) (fun hs_ => fun e_ => Nat.not_le.2 hs_ (Kd.N_base HO819.out k_ e_.symm))))) (fun hn_ => (Kd.fresh' (Kd.N_lt (by exact HO819.out)) k_ hn_)), Or.elim hk_.1 (fun hs_ => Or.elim hs_ (fun hs_ => fun e_ => Nat.not_le.2 hs_ (by rw [e_]; exact GW816.out)) (fun hs_ => Or.elim hs_ (fun hs_ => fun e_ => Nat.not_le.2 hs_ (by rw [e_]; exact GW816.out)) (fun hs_ => Or.elim hs_ (fun hs_ => fun e_ => Nat.not_le.2 hs_ (by rw [e_]; exact GW816.out)) (fun hs_ => fun e_ => Nat.not_le.2 hs_ (by rw [e_]; exact GW816.out))))) (fun hn_ => (Kd.freshB (by exact BK816.out) k_ hn_))⟩)) (below_size (zb1 HB GE816))); have n4_ := Aside0.mk (Kd.N_lower (Kd.N_mono (ok' := fun k_ => some k_ ≠ (v818 : Value).ownBlock ∧ k_ ≠ gb816) ho3 (fun k_ hk_ => ⟨Or.elim hk_ (fun hs_ => Or.elim hs_ (fun hs_ => fun e_ => Nat.not_le.2 hs_ (Kd.N_base HO819.out k_ e_.symm)) (fun hs_ => Or.elim hs_ (fun hs_ => fun e_ => Nat.not_le.2 hs_ (Kd.N_base HO819.out k_ e_.symm)) (fun hs_ => Or.elim hs_ (fun hs_ => fun e_ => Nat.not_le.2 hs_ (Kd.N_base HO819.out k_ e_.symm)) (fun hs_ => fun e_ => Nat.not_le.2 hs_ (Kd.N_base HO819.out k_ e_.symm))))) (fun hn_ => (Kd.fresh' (Kd.N_lt (by exact HO819.out)) k_ hn_)), Or.elim hk_ (fun hs_ => Or.elim hs_ (fun hs_ => fun e_ => Nat.not_le.2 hs_ (by rw [e_]; exact GW816.out)) (fun hs_ => Or.elim hs_ (fun hs_ => fun e_ => Nat.not_le.2 hs_ (by rw [e_]; exact GW816.out)) (fun hs_ => Or.elim hs_ (fun hs_ => fun e_ => Nat.not_le.2 hs_ (by rw [e_]; exact GW816.out)) (fun hs_ => fun e_ => Nat.not_le.2 hs_ (by rw [e_]; exact GW816.out))))) (fun hn_ => (Kd.freshB (by exact BK816.out) k_ hn_))⟩)) (below_size (zb1 HB GE816))); have n5_ := Aside0.mk (blk_below (by exact BK816.out) hb); have n6_ := Aside0.mk (below_step (zb1 HB GE816) hb); clear HO819; clear BK816; clear HB; have HO819 := n0_; have HO824 := n1_; have HO827 := n2_; have HO830 := n3_; have HO833 := n4_; have BK816 := n5_; have HB := n6_; clear n0_ n1_ n2_ n3_ n4_ n5_ n6_; (try clear hb); (try clear ho0); (try clear ho1); (try clear ho2); (try clear ho3); obtain ⟨hcz183_0, hcz183_1, hcz183_2, hcz183_3, hcz183_4, hcz183_5, hcz183_6, hcz183_7, hfz183_0, hfz183_1, hfz183_2, hfz183_3, hfz183_4, hfz183_5, hfz183_6, hfz183_7⟩ := cz8 BK816.out; obtain ⟨Ao184, co184, eo184⟩ := Kd.V_slice HO824.out; subst eo184; obtain ⟨Ao185, co185, eo185⟩ := Kd.V_slice HO827.out; subst eo185; obtain ⟨Ao186, co186, eo186⟩ := Kd.V_slice HO830.out; subst eo186; obtain ⟨Ao187, co187, eo187⟩ := Kd.N_slice HO833.out; subst eo187; obtain ⟨Ao188, co188, eo188⟩ := Kd.N_slice HO819.out; subst eo188) | ((with_reducible refine gate_callee (f := 14) rfl ?_); refine goesL_ (some 19) rfl rfl Tryz.func14 (by kernel_rfl) rfl #[.slice Ao188 t817.length co188, .agg #[.bool t820, .bool t821, .slice Ao184 t822.length co184, .slice Ao185 t825.length co185, .slice Ao186 t828.length co186, .slice Ao187 t831.length co187, .bool t834, .bool t835], .bool a2] rfl zm ?_; (with_reducible refine (clean_Rows.calls k _ _ t817 t820 t821 _ _ t822 _ _ t825 _ _ t828 _ _ t831 t834 t835 a2 t836 t839 _ ?side1 ?side2 ?side3 ?side4 ?side5 ?side6 ?side7 ?side8 ?side9 ?side10 A6.out).mono ?_); (case side1 => refine (Kd.N_reads' (e := 38) (base := w.heap.size) (ok := fun k_ => (k_ ≠ gb816 ∧ some k_ ≠ (.slice Ao187 t831.length co187 : Value).ownBlock)) (n := t817.length) (c := co188) ?_).2.2; exact (by exact (Kd.N_mono (Nf8 (g := gb816) (Kd.N_mono HO819.out (fun k_ hk => (⟨hk, hk.1⟩ : _ ∧ k_ ≠ gb816))) (fun _ hk => hk.2) (.bool t820) (.bool t821) (.slice Ao184 t822.length co184) (.slice Ao185 t825.length co185) (.slice Ao186 t828.length co186) (.slice Ao187 t831.length co187) (.bool t834) (.bool t835)) (fun _ h_ => h_.1)))); (case side2 => exact (Kd.N_reads' HO819.out).2.1); (case side3 => refine (Kd.V_reads' (e := 9) (base := w.heap.size) (ok := fun k_ => (some k_ ≠ (.slice Ao187 t831.length co187 : Value).ownBlock ∧ (some k_ ≠ (.slice Ao188 t817.length co188 : Value).ownBlock ∧ k_ ≠ gb816))) (n := t822.length) (c := co184) ?_).2.2; exact (by exact (Kd.V_mono (Vf8 (g := gb816) (Kd.V_mono HO824.out (fun k_ hk => (⟨hk, hk.2.2⟩ : _ ∧ k_ ≠ gb816))) (fun _ hk => hk.2) (.bool t820) (.bool t821) (.slice Ao184 t822.length co184) (.slice Ao185 t825.length co185) (.slice Ao186 t828.length co186) (.slice Ao187 t831.length co187) (.bool t834) (.bool t835)) (fun _ h_ => h_.1)))); (case side4 => exact (Kd.V_reads' HO824.out).2.1); (case side5 => refine (Kd.V_reads' (e := 9) (base := w.heap.size) (ok := fun k_ => (some k_ ≠ (.slice Ao187 t831.length co187 : Value).ownBlock ∧ (some k_ ≠ (.slice Ao188 t817.length co188 : Value).ownBlock ∧ k_ ≠ gb816))) (n := t825.length) (c := co185) ?_).2.2; exact (by exact (Kd.V_mono (Vf8 (g := gb816) (Kd.V_mono HO827.out (fun k_ hk => (⟨hk, hk.2.2⟩ : _ ∧ k_ ≠ gb816))) (fun _ hk => hk.2) (.bool t820) (.bool t821) (.slice Ao184 t822.length co184) (.slice Ao185 t825.length co185) (.slice Ao186 t828.length co186) (.slice Ao187 t831.length co187) (.bool t834) (.bool t835)) (fun _ h_ => h_.1)))); (case side6 => exact (Kd.V_reads' HO827.out).2.1); (case side7 => refine (Kd.V_reads' (e := 9) (base := w.heap.size) (ok := fun k_ => (some k_ ≠ (.slice Ao187 t831.length co187 : Value).ownBlock ∧ (some k_ ≠ (.slice Ao188 t817.length co188 : Value).ownBlock ∧ k_ ≠ gb816))) (n := t828.length) (c := co186) ?_).2.2; exact (by exact (Kd.V_mono (Vf8 (g := gb816) (Kd.V_mono HO830.out (fun k_ hk => (⟨hk, hk.2.2⟩ : _ ∧ k_ ≠ gb816))) (fun _ hk => hk.2) (.bool t820) (.bool t821) (.slice Ao184 t822.length co184) (.slice Ao185 t825.length co185) (.slice Ao186 t828.length co186) (.slice Ao187 t831.length co187) (.bool t834) (.bool t835)) (fun _ h_ => h_.1)))); (case side8 => exact (Kd.V_reads' HO830.out).2.1); (case side9 => refine (Kd.N_reads' (e := 60) (base := w.heap.size) (ok := fun k_ => (some k_ ≠ (.slice Ao188 t817.length co188 : Value).ownBlock ∧ k_ ≠ gb816)) (n := t831.length) (c := co187) ?_).2.2; exact (by exact (Kd.N_mono (Nf8 (g := gb816) (Kd.N_mono HO833.out (fun k_ hk => (⟨hk, hk.2⟩ : _ ∧ k_ ≠ gb816))) (fun _ hk => hk.2) (.bool t820) (.bool t821) (.slice Ao184 t822.length co184) (.slice Ao185 t825.length co185) (.slice Ao186 t828.length co186) (.slice Ao187 t831.length co187) (.bool t834) (.bool t835)) (fun _ h_ => h_.1)))); (case side10 => exact (Kd.N_reads' HO833.out).2.1); rintro e w189 ⟨v837, rfl, ho0, hb⟩; refine ⟨_, rfl, ?_⟩; have n5_ := Aside0.mk (Kd.N_lower (Kd.N_mono (ok' := fun k_ => some k_ ≠ (.slice Ao188 t817.length co188 : Value).ownBlock ∧ some k_ ≠ (.slice Ao187 t831.length co187 : Value).ownBlock ∧ k_ ≠ gb816) ho0 (fun k_ hk_ => ⟨(Kd.fresh' (Kd.N_lt (by exact (Kd.N_mono (Nf8 (g := gb816) (Kd.N_mono HO819.out (fun k_ hk => (⟨hk, hk.1⟩ : _ ∧ k_ ≠ gb816))) (fun _ hk => hk.2) (.bool t820) (.bool t821) (.slice Ao184 t822.length co184) (.slice Ao185 t825.length co185) (.slice Ao186 t828.length co186) (.slice Ao187 t831.length co187) (.bool t834) (.bool t835)) (fun _ h_ => h_.1)))) k_ hk_), (Kd.fresh' (Kd.N_lt (by exact (Kd.N_mono (Nf8 (g := gb816) (Kd.N_mono HO833.out (fun k_ hk => (⟨hk, hk.2⟩ : _ ∧ k_ ≠ gb816))) (fun _ hk => hk.2) (.bool t820) (.bool t821) (.slice Ao184 t822.length co184) (.slice Ao185 t825.length co185) (.slice Ao186 t828.length co186) (.slice Ao187 t831.length co187) (.bool t834) (.bool t835)) (fun _ h_ => h_.1)))) k_ hk_), (Kd.freshB (g := gb816) (o := .cells #[.bool t820, .bool t821, .slice Ao184 t822.length co184, .slice Ao185 t825.length co185, .slice Ao186 t828.length co186, .slice Ao187 t831.length co187, .bool t834, .bool t835] 32 (0, 0)) (by refine blk_put (cs := #[.bool t820, .bool t821, .slice Ao184 t822.length co184, .slice Ao185 t825.length co185, .slice Ao186 t828.length co186, .slice Ao187 t831.length co187, .bool t834, .bool a1_7]) ?_ 7 _ rfl; refine blk_put (cs := #[.bool t820, .bool t821, .slice Ao184 t822.length co184, .slice Ao185 t825.length co185, .slice Ao186 t828.length co186, .slice Ao187 t831.length co187, .bool a1_6, .bool a1_7]) ?_ 6 _ rfl; refine blk_put (cs := #[.bool t820, .bool t821, .slice Ao184 t822.length co184, .slice Ao185 t825.length co185, .slice Ao186 t828.length co186, .slice A1_5 l1_5.length c1_5, .bool a1_6, .bool a1_7]) ?_ 5 _ rfl; refine blk_put (cs := #[.bool t820, .bool t821, .slice Ao184 t822.length co184, .slice Ao185 t825.length co185, .slice A1_4 l1_4.length c1_4, .slice A1_5 l1_5.length c1_5, .bool a1_6, .bool a1_7]) ?_ 4 _ rfl; refine blk_put (cs := #[.bool t820, .bool t821, .slice Ao184 t822.length co184, .slice A1_3 l1_3.length c1_3, .slice A1_4 l1_4.length c1_4, .slice A1_5 l1_5.length c1_5, .bool a1_6, .bool a1_7]) ?_ 3 _ rfl; refine blk_put (cs := #[.bool t820, .bool t821, .slice A1_2 l1_2.length c1_2, .slice A1_3 l1_3.length c1_3, .slice A1_4 l1_4.length c1_4, .slice A1_5 l1_5.length c1_5, .bool a1_6, .bool a1_7]) ?_ 2 _ rfl; refine blk_put (cs := #[.bool t820, .bool a1_1, .slice A1_2 l1_2.length c1_2, .slice A1_3 l1_3.length c1_3, .slice A1_4 l1_4.length c1_4, .slice A1_5 l1_5.length c1_5, .bool a1_6, .bool a1_7]) ?_ 1 _ rfl; refine blk_put (cs := #[.bool a1_0, .bool a1_1, .slice A1_2 l1_2.length c1_2, .slice A1_3 l1_3.length c1_3, .slice A1_4 l1_4.length c1_4, .slice A1_5 l1_5.length c1_5, .bool a1_6, .bool a1_7]) ?_ 0 _ rfl; exact BK816.out) k_ hk_)⟩)) (below_size (zb1 HB GE816))); have n7_ := Aside0.mk (below_step (zb1 HB GE816) hb); clear HO819; clear HO824; clear HO827; clear HO830; clear HO833; clear BK816; clear HB; have HO838 := n5_; have HB := n7_; clear n5_ n7_; (try clear hb); (try clear ho0); obtain ⟨Ao190, co190, eo190⟩ := Kd.N_slice HO838.out; subst eo190) | (go_at_call 12; (with_reducible refine (boltinglaw13_fixed.calls  t840 _ A178.out).mono ?_); rintro e w191 ⟨rfl, hb⟩; have n7_ := Aside0.mk (below_step (zb1 HB GE816) hb); clear HO838; clear HB; have HB := n7_; clear n7_; (try clear hb)))
   go_ret
   exact ⟨ze, zb1 HB GE816⟩
  ·rw [if_neg c177] at H
   have c177b0 : ((t836.length : Int) == 0) = false := beq_eq_false_iff_ne.mpr c177
   have c177b1 : ((t836.length : Int) != 0) = true := bne_iff_ne.mpr c177
   have c177b2 : ¬ (t836 = []) := fun h_ => c177 (by rw [h_]; rfl)
   exact absurd (Option.some.inj H) (by rw [hT.out]; decide)

end Go.Proofs.YticacakoefojbaaGreat.Pr
namespace Go.Proofs.YticacakoefojbaaGreat.Pr
abbrev Rw := S38
abbrev Atr := S45
end Go.Proofs.YticacakoefojbaaGreat.Pr
namespace Go.Proofs.YticacakoefojbaaGreat.Fo
set_option linter.unusedVariables false
set_option linter.unusedSimpArgs false
open Go.Proofs.YticacakoefojbaaGreat.Pr

inductive Fo where
  | nil
  | cons (x : Rw) (k r : Fo)
def Fo.app : Fo → Fo → Fo
  | .nil, G => G
  | .cons x k r, G => .cons x k (r.app G)
def Fo.size : Fo → Nat
  | .nil => 0
  | .cons _ k r => 1 + k.size + r.size
def Fo.height : Fo → Nat
  | .nil => 0
  | .cons _ k r => max (1 + k.height) r.height
theorem app_nil : ∀ F : Fo, F.app .nil = F
  | .nil => rfl
  | .cons x k r => by rw [Fo.app, app_nil r]
theorem app_assoc : ∀ A B C : Fo, (A.app B).app C = A.app (B.app C)
  | .nil, B, C => rfl
  | .cons x k r, B, C => by rw [Fo.app, Fo.app, Fo.app, app_assoc r]
theorem size_app : ∀ A B : Fo, (A.app B).size = A.size + B.size
  | .nil, B => by simp [Fo.app, Fo.size]
  | .cons x k r, B => by rw [Fo.app, Fo.size, Fo.size, size_app r]; omega
theorem height_app : ∀ A B : Fo, (A.app B).height = max A.height B.height
  | .nil, B => by simp [Fo.app, Fo.height]
  | .cons x k r, B => by rw [Fo.app, Fo.height, Fo.height, height_app r]; omega
def Fo.All (P : Rw → Prop) : Fo → Prop
  | .nil => True
  | .cons x k r => P x ∧ k.All P ∧ r.All P
theorem all_app {P : Rw → Prop} : ∀ {A B : Fo}, A.All P → B.All P → (A.app B).All P
  | .nil, B, _, h => h
  | .cons x k r, B, h, h2 => ⟨h.1, h.2.1, all_app h.2.2 h2⟩
theorem all_imp {P Q : Rw → Prop} (h : ∀ x, P x → Q x) : ∀ {A : Fo}, A.All P → A.All Q
  | .nil, _ => trivial
  | .cons x k r, g => ⟨h x g.1, all_imp h g.2.1, all_imp h g.2.2⟩
def Fo.Leaf : Fo → Prop
  | .nil => True
  | .cons x k r => (x.f1 ≠ 0 → k = .nil) ∧ k.Leaf ∧ r.Leaf
theorem leaf_app : ∀ {A B : Fo}, A.Leaf → B.Leaf → (A.app B).Leaf
  | .nil, B, _, h => h
  | .cons x k r, B, h, h2 => ⟨h.1, h.2.1, leaf_app h.2.2 h2⟩

def flat : Int → Fo → List Rw
  | _, .nil => []
  | d, .cons x k r => { x with f0 := d } :: (flat (d + 1) k ++ flat d r)
theorem flat_len : ∀ (F : Fo) (d : Int), (flat d F).length = F.size
  | .nil, d => rfl
  | .cons x k r, d => by rw [flat, List.length_cons, List.length_append, flat_len k, flat_len r, Fo.size]; omega
theorem flat_app : ∀ (A B : Fo) (d : Int), flat d (A.app B) = flat d A ++ flat d B
  | .nil, B, d => rfl
  | .cons x k r, B, d => by rw [Fo.app, flat, flat, flat_app r]; simp
theorem flat_ge : ∀ (F : Fo) (d : Int), ∀ x ∈ flat d F, d ≤ x.f0
  | .nil, d, x, h => by cases h
  | .cons y k r, d, x, h => by
    rw [flat, List.mem_cons, List.mem_append] at h
    rcases h with rfl | h | h
    · exact Int.le_refl _
    · have := flat_ge k (d + 1) x h; omega
    · exact flat_ge r d x h
theorem flat_lt : ∀ (F : Fo) (d : Int), ∀ x ∈ flat d F, x.f0 < d + F.height
  | .nil, d, x, h => by cases h
  | .cons y k r, d, x, h => by
    rw [flat, List.mem_cons, List.mem_append] at h
    rw [Fo.height]
    rcases h with rfl | h | h
    · show d < _; omega
    · have := flat_lt k (d + 1) x h; omega
    · have := flat_lt r d x h; omega
theorem height_of : ∀ (F : Fo) (d : Int) (m : Nat), (∀ x ∈ flat d F, x.f0 < d + m) → F.height ≤ m
  | .nil, d, m, h => Nat.zero_le _
  | .cons y k r, d, m, h => by
    rw [flat] at h
    have h0 : d < d + (m : Int) := h { y with f0 := d } (List.mem_cons_self ..)
    have hk := height_of k (d + 1) (m - 1) (fun x hx => by have := h x (List.mem_cons_of_mem _ (List.mem_append_left _ hx)); omega)
    have hr := height_of r d m (fun x hx => h x (List.mem_cons_of_mem _ (List.mem_append_right _ hx)))
    rw [Fo.height]; omega
theorem flat_all {P : Rw → Prop} (hP : ∀ x d, P x → P { x with f0 := d }) : ∀ (F : Fo) (d : Int), F.All P → ∀ x ∈ flat d F, P x
  | .nil, d, _, x, h => by cases h
  | .cons y k r, d, hA, x, h => by
    rw [flat, List.mem_cons, List.mem_append] at h
    rcases h with rfl | h | h
    · exact hP y d hA.1
    · exact flat_all hP k (d + 1) hA.2.1 x h
    · exact flat_all hP r d hA.2.2 x h
theorem all_flat {P : Rw → Prop} (hP : ∀ x d, P { x with f0 := d } → P x) : ∀ (F : Fo) (d : Int), (∀ x ∈ flat d F, P x) → F.All P
  | .nil, d, _ => trivial
  | .cons y k r, d, h => by
    rw [flat] at h
    exact ⟨hP y d (h _ (List.mem_cons_self ..)), all_flat hP k (d + 1) (fun x hx => h x (List.mem_cons_of_mem _ (List.mem_append_left _ hx))), all_flat hP r d (fun x hx => h x (List.mem_cons_of_mem _ (List.mem_append_right _ hx)))⟩

def RightL (ok : Rw → Prop) : Int → List Rw → Prop
  | _, [] => True
  | m, x :: t => 0 ≤ x.f0 ∧ x.f0 ≤ m ∧ ok x ∧ RightL ok (if x.f1 = 0 then x.f0 + 1 else x.f0) t
theorem RightL.head {ok : Rw → Prop} {m m' : Int} : ∀ {l : List Rw}, RightL ok m l → (∀ x, l.head? = some x → x.f0 ≤ m') → RightL ok m' l
  | [], _, _ => trivial
  | x :: t, h, h2 => ⟨h.1, h2 x rfl, h.2.2⟩
theorem parse_at (ok : Rw → Prop) : ∀ (n : Nat) (l : List Rw) (d : Int), l.length ≤ n → RightL ok d l → 0 ≤ d →
    ∃ F rest, l = flat d F ++ rest ∧ F.Leaf ∧ F.All (fun x => ok x ∧ 0 ≤ x.f0) ∧ (∀ x, rest.head? = some x → x.f0 < d) ∧ RightL ok (d - 1) rest := by
  intro n
  induction n with
  | zero =>
    intro l d hl hR hd
    have : l = [] := List.length_eq_zero_iff.1 (by omega)
    subst this
    exact ⟨.nil, [], rfl, trivial, trivial, (fun x h => by cases h), trivial⟩
  | succ n ih =>
    intro l d hl hR hd
    cases l with
    | nil => exact ⟨.nil, [], rfl, trivial, trivial, (fun x h => by cases h), trivial⟩
    | cons x t =>
      obtain ⟨h0, h1, hok, hT⟩ := hR
      by_cases hx : x.f0 = d
      · have hxd : ({ x with f0 := d } : Rw) = x := by rw [← hx]
        by_cases hk : x.f1 = 0
        · rw [if_pos hk, hx] at hT
          obtain ⟨K, r1, e1, l1, a1, b1, c1⟩ := ih t (d + 1) (by simpa using hl) hT (by omega)
          have hlen : r1.length ≤ n := by
            have := congrArg List.length e1
            rw [List.length_append] at this
            have : t.length ≤ n := by simpa using hl
            omega
          rw [show d + 1 - 1 = d by omega] at c1
          obtain ⟨R, r2, e2, l2, a2, b2, c2⟩ := ih r1 d hlen c1 hd
          refine ⟨.cons x K R, r2, ?_, ⟨fun h => absurd hk h, l1, l2⟩, ⟨⟨hok, h0⟩, a1, a2⟩, b2, c2⟩
          rw [flat, hxd, List.cons_append, List.append_assoc, ← e2, ← e1]
        · rw [if_neg hk, hx] at hT
          obtain ⟨R, r2, e2, l2, a2, b2, c2⟩ := ih t d (by simpa using hl) hT hd
          refine ⟨.cons x .nil R, r2, ?_, ⟨fun h => rfl, trivial, l2⟩, ⟨⟨hok, h0⟩, trivial, a2⟩, b2, c2⟩
          rw [flat, hxd, flat, List.nil_append, List.cons_append, ← e2]
      · exact ⟨.nil, x :: t, rfl, trivial, trivial, (fun y h => by cases h; omega), ⟨h0, by omega, hok, hT⟩⟩
theorem parse {ok : Rw → Prop} {l : List Rw} (h : RightL ok 0 l) : ∃ F, l = flat 0 F ∧ F.Leaf ∧ F.All ok := by
  obtain ⟨F, rest, e, hl, ha, hb, hc⟩ := parse_at ok l.length l 0 (Nat.le_refl _) h (Int.le_refl _)
  cases rest with
  | nil => exact ⟨F, by simpa using e, hl, all_imp (fun x h => h.1) ha⟩
  | cons x t =>
    have h1 := hc.1
    have h2 := hc.2.1
    omega
theorem right_append {ok : Rw → Prop} : ∀ {a b : List Rw} {m d : Int}, RightL ok m a → (∀ x ∈ a, d ≤ x.f0) → RightL ok d b → d ≤ m → RightL ok m (a ++ b)
  | [], b, m, d, _, _, hb, hm => hb.head (fun x hx => by
      cases b with
      | nil => cases hx
      | cons y t => cases hx; have := hb.2.1; omega)
  | x :: t, b, m, d, ha, hd, hb, hm => by
    refine ⟨ha.1, ha.2.1, ha.2.2.1, ?_⟩
    have hx := hd x (List.mem_cons_self ..)
    exact right_append (d := d) ha.2.2.2 (fun y hy => hd y (List.mem_cons_of_mem _ hy)) hb (by split <;> omega)
theorem right_flat {ok : Rw → Prop} (hP : ∀ x d, ok x → ok { x with f0 := d }) : ∀ (F : Fo) (d : Int), 0 ≤ d → F.Leaf → F.All ok → RightL ok d (flat d F)
  | .nil, d, _, _, _ => trivial
  | .cons x k r, d, hd, hl, ha => by
    rw [flat]
    refine ⟨hd, Int.le_refl _, hP x d ha.1, ?_⟩
    have hr := right_flat hP r d hd hl.2.2 ha.2.2
    by_cases hk : x.f1 = 0
    · rw [if_pos (show ({ x with f0 := d } : Rw).f1 = 0 from hk)]
      refine right_append (d := d) (right_flat hP k (d + 1) (by omega) hl.2.1 ha.2.1) (fun y hy => ?_) hr (by show d ≤ d + 1; omega)
      have := flat_ge k (d + 1) y hy
      omega
    · rw [if_neg (show ¬ ({ x with f0 := d } : Rw).f1 = 0 from hk), hl.1 hk]
      exact hr

def keepF (what : Rw → Int) (upd : Rw → Rw) : Fo → Fo
  | .nil => .nil
  | .cons x k r => if what x = 1 then keepF what upd r else if what x = 2 then (keepF what upd k).app (keepF what upd r) else .cons (upd x) (keepF what upd k) (keepF what upd r)
theorem keep_app (what : Rw → Int) (upd : Rw → Rw) : ∀ A B : Fo, keepF what upd (A.app B) = (keepF what upd A).app (keepF what upd B)
  | .nil, B => rfl
  | .cons x k r, B => by
    rw [Fo.app, keepF, keepF, keep_app what upd r B]
    split
    · rfl
    · split
      · rw [app_assoc]
      · rfl
theorem keep_size (what : Rw → Int) (upd : Rw → Rw) : ∀ F : Fo, (keepF what upd F).size ≤ F.size
  | .nil => Nat.le_refl _
  | .cons x k r => by
    have h1 := keep_size what upd k
    have h2 := keep_size what upd r
    rw [keepF, Fo.size]
    split
    · omega
    · split
      · rw [size_app]; omega
      · rw [Fo.size]; omega
theorem keep_height (what : Rw → Int) (upd : Rw → Rw) : ∀ F : Fo, (keepF what upd F).height ≤ F.height
  | .nil => Nat.le_refl _
  | .cons x k r => by
    have h1 := keep_height what upd k
    have h2 := keep_height what upd r
    rw [keepF, Fo.height]
    split
    · omega
    · split
      · rw [height_app]; omega
      · rw [Fo.height]; omega
theorem keep_all {what : Rw → Int} {upd : Rw → Rw} {P Q : Rw → Prop} (h : ∀ x, P x → what x ≠ 1 → what x ≠ 2 → Q (upd x)) : ∀ {F : Fo}, F.All P → (keepF what upd F).All Q
  | .nil, _ => trivial
  | .cons x k r, hA => by
    rw [keepF]
    split
    · exact keep_all h hA.2.2
    · split
      · exact all_app (keep_all h hA.2.1) (keep_all h hA.2.2)
      · exact ⟨h x hA.1 (by assumption) (by assumption), keep_all h hA.2.1, keep_all h hA.2.2⟩
theorem keep_leaf {what : Rw → Int} {upd : Rw → Rw} (h : ∀ x, (upd x).f1 = x.f1) : ∀ {F : Fo}, F.Leaf → (keepF what upd F).Leaf
  | .nil, _ => trivial
  | .cons x k r, hL => by
    rw [keepF]
    split
    · exact keep_leaf h hL.2.2
    · split
      · exact leaf_app (keep_leaf h hL.2.1) (keep_leaf h hL.2.2)
      · exact ⟨fun g => by rw [hL.1 (by rw [← h x]; exact g)]; rfl, keep_leaf h hL.2.1, keep_leaf h hL.2.2⟩
theorem keep_keep {w1 w2 w3 : Rw → Int} {u1 u2 u3 : Rw → Rw} {P : Rw → Prop}
    (h1 : ∀ x, P x → w1 x = 1 → w3 x = 1) (h2 : ∀ x, P x → w1 x = 2 → w3 x = 2)
    (h3 : ∀ x, P x → w1 x ≠ 1 → w1 x ≠ 2 → w2 (u1 x) = 1 → w3 x = 1) (h4 : ∀ x, P x → w1 x ≠ 1 → w1 x ≠ 2 → w2 (u1 x) ≠ 1 → w2 (u1 x) = 2 → w3 x = 2)
    (h5 : ∀ x, P x → w1 x ≠ 1 → w1 x ≠ 2 → w2 (u1 x) ≠ 1 → w2 (u1 x) ≠ 2 → w3 x ≠ 1 ∧ w3 x ≠ 2 ∧ u2 (u1 x) = u3 x) : ∀ {F : Fo}, F.All P → keepF w2 u2 (keepF w1 u1 F) = keepF w3 u3 F
  | .nil, _ => rfl
  | .cons x k r, hA => by
    have hk := keep_keep h1 h2 h3 h4 h5 hA.2.1
    have hr := keep_keep h1 h2 h3 h4 h5 hA.2.2
    rw [keepF, keepF]
    by_cases a : w1 x = 1
    · rw [if_pos a, if_pos (h1 x hA.1 a), hr]
    · rw [if_neg a]
      by_cases b : w1 x = 2
      · have c := h2 x hA.1 b
        rw [if_pos b, if_neg (by rw [c]; decide), if_pos c, keep_app, hk, hr]
      · rw [if_neg b, keepF]
        by_cases c : w2 (u1 x) = 1
        · rw [if_pos c, if_pos (h3 x hA.1 a b c), hr]
        · rw [if_neg c]
          by_cases d : w2 (u1 x) = 2
          · have e := h4 x hA.1 a b c d
            rw [if_pos d, if_neg (by rw [e]; decide), if_pos e, hk, hr]
          · obtain ⟨e1, e2, e3⟩ := h5 x hA.1 a b c d
            rw [if_neg d, if_neg e1, if_neg e2, e3, hk, hr]

def pre (x : Rw) (k F : Fo) : Fo :=
  if x.f1 = 1 then
    if x.f3.size = 0 then F else
    match F with
    | .nil => .cons x k .nil
    | .cons y ky r => if y.f1 = 1 then .cons { x with f3 := x.f3 ++ y.f3 } k r else .cons x k F
  else .cons x k F
def normF : Fo → Fo
  | .nil => .nil
  | .cons x k r => pre x (normF k) (normF r)
def preL (x : Rw) (l : List Rw) : List Rw :=
  if x.f1 = 1 then
    if x.f3.size = 0 then l else
    match l with
    | [] => [x]
    | y :: t => if y.f1 = 1 ∧ y.f0 = x.f0 then { x with f3 := x.f3 ++ y.f3 } :: t else x :: l
  else x :: l
def normL : List Rw → List Rw
  | [] => []
  | x :: t => preL x (normL t)
theorem preL_ne {x : Rw} {l : List Rw} (h : ∀ y, l.head? = some y → y.f0 ≠ x.f0) : preL x l = if x.f1 = 1 ∧ x.f3.size = 0 then l else x :: l := by
  unfold preL
  by_cases h1 : x.f1 = 1
  · rw [if_pos h1]
    by_cases h2 : x.f3.size = 0
    · rw [if_pos h2, if_pos ⟨h1, h2⟩]
    · rw [if_neg h2, if_neg (fun g => h2 g.2)]
      cases l with
      | nil => rfl
      | cons y t => simp only []; rw [if_neg (fun g => h y rfl g.2)]
  · rw [if_neg h1, if_neg (fun g => h1 g.1)]
theorem normL_head : ∀ {l : List Rw} {y : Rw}, (normL l).head? = some y → ∃ x ∈ l, x.f0 = y.f0
  | [], y, h => by cases h
  | x :: t, y, h => by
    have tail_ : (normL t).head? = some y → ∃ z ∈ x :: t, z.f0 = y.f0 := fun g => by
      obtain ⟨z, hz, e⟩ := normL_head g
      exact ⟨z, List.mem_cons_of_mem _ hz, e⟩
    rw [normL] at h
    unfold preL at h
    split at h
    · split at h
      · exact tail_ h
      · split at h
        · cases h; exact ⟨x, List.mem_cons_self .., rfl⟩
        · split at h
          · cases h; exact ⟨x, List.mem_cons_self .., rfl⟩
          · cases h; exact ⟨x, List.mem_cons_self .., rfl⟩
    · cases h; exact ⟨x, List.mem_cons_self .., rfl⟩
theorem normL_app {d : Int} : ∀ {a b : List Rw}, (∀ x ∈ a, d < x.f0) → (∀ y ∈ b, y.f0 ≤ d) ∨ (∀ y, (normL b).head? = some y → y.f0 ≤ d) → normL (a ++ b) = normL a ++ normL b
  | [], b, _, _ => rfl
  | x :: t, b, h, hb => by
    have hb2 : ∀ y, (normL b).head? = some y → y.f0 ≤ d := by
      rcases hb with g | g
      · intro y hy
        obtain ⟨z, hz, e⟩ := normL_head hy
        have := g z hz; omega
      · exact g
    have ih := normL_app (fun z hz => h z (List.mem_cons_of_mem _ hz)) (.inr hb2)
    have hx := h x (List.mem_cons_self ..)
    rw [List.cons_append, normL, normL, ih]
    cases ht : normL t with
    | nil =>
      rw [List.nil_append, preL_ne (fun y hy => by have := hb2 y hy; omega), preL_ne (fun y hy => by cases hy)]
      split <;> rfl
    | cons z u =>
      unfold preL
      split
      · split
        · rfl
        · simp only [List.cons_append]
          split
          · rfl
          · rfl
      · rfl
theorem flat_head_norm {F : Fo} {d : Int} : ∀ y, (flat d F).head? = some y → y.f0 = d := by
  intro y h
  cases F with
  | nil => cases h
  | cons x k r => rw [flat] at h; cases h; rfl
theorem normL_flat : ∀ (F : Fo) (d : Int), F.Leaf → normL (flat d F) = flat d (normF F)
  | .nil, d, _ => rfl
  | .cons x k r, d, h => by
    have hk := normL_flat k (d + 1) h.2.1
    have hr := normL_flat r d h.2.2
    have hap : normL (flat (d + 1) k ++ flat d r) = flat (d + 1) (normF k) ++ flat d (normF r) := by
      rw [normL_app (d := d) (fun y hy => by have := flat_ge k (d + 1) y hy; omega) (.inr (fun y hy => by rw [hr] at hy; rw [flat_head_norm y hy]; exact Int.le_refl _)), hk, hr]
    rw [flat, normL, hap, normF]
    by_cases hx : x.f1 = 1
    · have hkn : k = .nil := h.1 (by rw [hx]; decide)
      subst hkn
      simp only [normF, flat, List.nil_append]
      unfold preL pre
      rw [if_pos (show ({ x with f0 := d } : Rw).f1 = 1 from hx), if_pos hx]
      by_cases h3 : x.f3.size = 0
      · rw [if_pos h3, if_pos (show ({ x with f0 := d } : Rw).f3.size = 0 from h3)]
      · rw [if_neg h3, if_neg (show ¬ ({ x with f0 := d } : Rw).f3.size = 0 from h3)]
        cases hn : normF r with
        | nil => rfl
        | cons y ky s =>
          simp only [flat]
          by_cases hy : y.f1 = 1
          · rw [if_pos ⟨hy, trivial⟩, if_pos hy]
            have hky : ky = .nil := by
              have := leaf_norm r h.2.2
              rw [hn] at this
              exact this.1 (by rw [hy]; decide)
            subst hky
            rfl
          · rw [if_neg (fun g => hy g.1), if_neg hy]
            rfl
    · unfold preL pre
      rw [if_neg (show ¬ ({ x with f0 := d } : Rw).f1 = 1 from hx), if_neg hx]
      rfl
where leaf_norm : ∀ F : Fo, F.Leaf → (normF F).Leaf
  | .nil, _ => trivial
  | .cons x k r, h => by
    have hk := leaf_norm k h.2.1
    have hr := leaf_norm r h.2.2
    have h0 : x.f1 ≠ 0 → normF k = .nil := fun g => by rw [h.1 g]; rfl
    rw [normF]
    unfold pre
    split
    · split
      · exact hr
      · split
        · exact ⟨h0, hk, trivial⟩
        · rename_i hn
          rw [hn] at hr
          split
          · exact ⟨h0, hk, hr.2.2⟩
          · exact ⟨h0, hk, by rw [hn]; exact hr⟩
    · exact ⟨h0, hk, hr⟩

theorem bytes_app_empty (a b : ByteArray) (h : b.size = 0) : a ++ b = a := by
  have : b = ByteArray.empty := by
    have e : b.data = #[] := Array.size_eq_zero_iff.1 h
    cases b; simp at e; subst e; rfl
  rw [this, ByteArray.append_empty]
theorem bytes_size_app (a b : ByteArray) : (a ++ b).size = a.size + b.size := ByteArray.size_append
theorem pre_empty {x : Rw} {k F : Fo} (h : x.f1 = 1) (h0 : x.f3.size = 0) : pre x k F = F := by unfold pre; rw [if_pos h, if_pos h0]
theorem pre_not {x : Rw} {k F : Fo} (h : ¬ x.f1 = 1) : pre x k F = .cons x k F := by unfold pre; rw [if_neg h]
theorem pre_pre {x y : Rw} {k ky Z : Fo} (hx : x.f1 = 1) (h0 : ¬ x.f3.size = 0) (hy : y.f1 = 1) : pre x k (pre y ky Z) = pre { x with f3 := x.f3 ++ y.f3 } k Z := by
  by_cases h1 : y.f3.size = 0
  · rw [pre_empty hy h1, bytes_app_empty _ _ h1]
  · have h2 : ¬ ({ x with f3 := x.f3 ++ y.f3 } : Rw).f3.size = 0 := by
      show ¬ (x.f3 ++ y.f3).size = 0
      rw [bytes_size_app]; omega
    have hx2 : ({ x with f3 := x.f3 ++ y.f3 } : Rw).f1 = 1 := hx
    cases Z with
    | nil => unfold pre; simp only [if_pos hx, if_neg h0, if_pos hy, if_neg h1, if_pos hx2, if_neg h2]
    | cons z kz s =>
      by_cases hz : z.f1 = 1
      · unfold pre; simp only [if_pos hx, if_neg h0, if_pos hy, if_neg h1, if_pos hx2, if_neg h2, if_pos hz, ByteArray.append_assoc]
      · unfold pre; simp only [if_pos hx, if_neg h0, if_pos hy, if_neg h1, if_pos hx2, if_neg h2, if_neg hz]
def foldpre : Fo → Fo → Fo
  | .nil, G => G
  | .cons x k r, G => pre x (normF k) (foldpre r G)
theorem norm_app : ∀ A B : Fo, normF (A.app B) = foldpre A (normF B)
  | .nil, B => rfl
  | .cons x k r, B => by rw [Fo.app, normF, foldpre, norm_app r]
theorem norm_fold (A : Fo) : normF A = foldpre A .nil := by
  have := norm_app A .nil
  rw [app_nil] at this
  exact this
theorem fold_pre (x : Rw) (k F G : Fo) : foldpre (pre x k F) G = pre x (normF k) (foldpre F G) := by
  by_cases hx : x.f1 = 1
  · by_cases h0 : x.f3.size = 0
    · rw [pre_empty hx h0, pre_empty hx h0]
    · cases F with
      | nil => unfold pre; rw [if_pos hx, if_neg h0]; simp only [foldpre]; unfold pre; rw [if_pos hx, if_neg h0]
      | cons y ky r =>
        by_cases hy : y.f1 = 1
        · have e : pre x k (.cons y ky r) = .cons { x with f3 := x.f3 ++ y.f3 } k r := by unfold pre; rw [if_pos hx, if_neg h0]; simp only []; rw [if_pos hy]
          rw [e, foldpre, foldpre, pre_pre hx h0 hy]
        · have e : pre x k (.cons y ky r) = .cons x k (.cons y ky r) := by unfold pre; rw [if_pos hx, if_neg h0]; simp only []; rw [if_neg hy]
          rw [e, foldpre]
  · rw [pre_not hx, foldpre]
theorem norm_norm : ∀ F : Fo, normF (normF F) = normF F
  | .nil => rfl
  | .cons x k r => by
    have hk := norm_norm k
    have hr := norm_norm r
    rw [normF, norm_fold, fold_pre, hk, ← norm_fold, hr]
theorem fold_norm : ∀ A G : Fo, foldpre (normF A) G = foldpre A G
  | .nil, G => rfl
  | .cons x k r, G => by rw [normF, fold_pre, fold_norm r, norm_norm, foldpre]
theorem norm_app2 (A B : Fo) : normF ((normF A).app (normF B)) = normF (A.app B) := by rw [norm_app, norm_app, norm_norm, fold_norm]
def TextStays (what : Rw → Int) (upd : Rw → Rw) : Prop := ∀ x : Rw, x.f1 = 1 → what x ≠ 1 ∧ what x ≠ 2 ∧ upd x = x
theorem norm_keep_pre {what : Rw → Int} {upd : Rw → Rw} (h : TextStays what upd) (x : Rw) (k F : Fo) :
    normF (keepF what upd (pre x k F)) = normF (keepF what upd (.cons x k F)) := by
  by_cases hx : x.f1 = 1
  · obtain ⟨a, b, c⟩ := h x hx
    by_cases h0 : x.f3.size = 0
    · rw [pre_empty hx h0, keepF, if_neg a, if_neg b, c, normF, pre_empty hx h0]
    · cases F with
      | nil => unfold pre; rw [if_pos hx, if_neg h0]
      | cons y ky s =>
        by_cases hy : y.f1 = 1
        · have e : pre x k (.cons y ky s) = .cons { x with f3 := x.f3 ++ y.f3 } k s := by unfold pre; rw [if_pos hx, if_neg h0]; simp only []; rw [if_pos hy]
          obtain ⟨a2, b2, c2⟩ := h y hy
          obtain ⟨a3, b3, c3⟩ := h { x with f3 := x.f3 ++ y.f3 } hx
          rw [e, keepF, keepF, keepF, if_neg a, if_neg b, if_neg a2, if_neg b2, if_neg a3, if_neg b3, c, c2, c3, normF, normF, normF, pre_pre hx h0 hy]
        · have e : pre x k (.cons y ky s) = .cons x k (.cons y ky s) := by unfold pre; rw [if_pos hx, if_neg h0]; simp only []; rw [if_neg hy]
          rw [e]
  · rw [pre_not hx]
theorem norm_keep_norm {what : Rw → Int} {upd : Rw → Rw} (h : TextStays what upd) : ∀ F : Fo, normF (keepF what upd (normF F)) = normF (keepF what upd F)
  | .nil => rfl
  | .cons x k r => by
    have hk := norm_keep_norm h k
    have hr := norm_keep_norm h r
    rw [normF, norm_keep_pre h, keepF, keepF]
    split
    · exact hr
    · split
      · rw [← norm_app2, hk, hr, norm_app2]
      · rw [normF, normF, hk, hr]
theorem norm_leaf (F : Fo) (h : F.Leaf) : (normF F).Leaf := normL_flat.leaf_norm F h
theorem pre_size (x : Rw) (k F : Fo) : (pre x k F).size ≤ 1 + k.size + F.size := by
  unfold pre
  split
  · split
    · omega
    · split
      · simp only [Fo.size]; omega
      · split <;> simp only [Fo.size] <;> omega
  · simp only [Fo.size]; omega
theorem norm_size : ∀ F : Fo, (normF F).size ≤ F.size
  | .nil => Nat.le_refl _
  | .cons x k r => by
    have h1 := norm_size k
    have h2 := norm_size r
    have h3 := pre_size x (normF k) (normF r)
    rw [normF, Fo.size]; omega
theorem pre_height (x : Rw) (k F : Fo) : (pre x k F).height ≤ max (1 + k.height) F.height := by
  unfold pre
  split
  · split
    · omega
    · split
      · simp only [Fo.height]; omega
      · split <;> simp only [Fo.height] <;> omega
  · simp only [Fo.height]; omega
theorem norm_height : ∀ F : Fo, (normF F).height ≤ F.height
  | .nil => Nat.le_refl _
  | .cons x k r => by
    have h1 := norm_height k
    have h2 := norm_height r
    have h3 := pre_height x (normF k) (normF r)
    rw [normF, Fo.height]; omega
theorem pre_all {P : Rw → Prop} (hP : ∀ x b, P x → x.f1 = 1 → P { x with f3 := b }) {x : Rw} {k F : Fo} (hx : P x) (hk : k.All P) (hF : F.All P) : (pre x k F).All P := by
  unfold pre
  split
  · split
    · exact hF
    · split
      · exact ⟨hx, hk, trivial⟩
      · split
        · exact ⟨hP _ _ hx (by assumption), hk, hF.2.2⟩
        · exact ⟨hx, hk, hF⟩
  · exact ⟨hx, hk, hF⟩
theorem norm_all {P : Rw → Prop} (hP : ∀ x b, P x → x.f1 = 1 → P { x with f3 := b }) : ∀ {F : Fo}, F.All P → (normF F).All P
  | .nil, _ => trivial
  | .cons x k r, h => pre_all hP h.1 (norm_all hP h.2.1) (norm_all hP h.2.2)

def tx (x : Rw) : List UInt8 := if x.f1 = 1 then x.f3.data.toList else []
def textF : Fo → List UInt8
  | .nil => []
  | .cons x k r => tx x ++ (textF k ++ textF r)
def textL : List Rw → List UInt8
  | [] => []
  | x :: t => tx x ++ textL t
def wt (x : Rw) : Nat := if x.f1 = 1 then 0 else 1 + x.f4.length
def wF : Fo → Nat
  | .nil => 0
  | .cons x k r => wt x + wF k + wF r
def wL : List Rw → Nat
  | [] => 0
  | x :: t => wt x + wL t
end Go.Proofs.YticacakoefojbaaGreat.Fo
namespace Go.Proofs.YticacakoefojbaaGreat.Pr
open Go.RowKit Go.Proofs.YticacakoefojbaaGreatW.PrintWords Go.Proofs.YticacakoefojbaaGreatW.PrintLast Go.Proofs.YticacakoefojbaaGreatW.PrintMore
attribute [local go_sem] max2_int min2_int max_two min_two max_three min_three max_four min_four   -- for this text's walks alone
set_option linter.unusedVariables false
set_option linter.unusedSimpArgs false

def boltingref04_Normal.l0 : Nat → List (S38) → List (S38) → Int → Option ((List (S38)))
 | 0, _, _, _ => none
 | k + 1, x0, x3, x4 => if x4 < (x0.length : Int) then (if 0 ≤ x4 then (if x4 ≤ (wrap64 (x4 + 1)) then (if (wrap64 (x4 + 1)) ≤ (x0.length : Int) then ((boltingref04_Moved.f k ((x0.take ((wrap64 (x4 + 1)) : Int).toNat).drop (x4 : Int).toNat) 0).bind fun t340 => (if ((rd_T38 x0 x4).f1) = 1 then (if ((rd_T38 x0 x4).f3).toList = ([] : List UInt8) then (boltingref04_Normal.l0 k x0 x3 (wrap64 (x4 + 1))) else (if (x3.length : Int) > 0 then (if 0 ≤ (wrap64 ((x3.length : Int) - 1)) then (if (wrap64 ((x3.length : Int) - 1)) < (x3.length : Int) then (if ((rd_T38 x3 (wrap64 ((x3.length : Int) - 1))).f1) = 1 then (if ((rd_T38 x3 (wrap64 ((x3.length : Int) - 1))).f0) = ((rd_T38 x0 x4).f0) then (if ((rd_T38 x3 (wrap64 ((x3.length : Int) - 1))).f3).size + ((rd_T38 x0 x4).f3).size ≤ 9223372036854775807 then (boltingref04_Normal.l0 k x0 (x3.set ((wrap64 ((x3.length : Int) - 1)) : Int).toNat (⟨(rd_T38 x3 (wrap64 ((x3.length : Int) - 1))).f0, (rd_T38 x3 (wrap64 ((x3.length : Int) - 1))).f1, (rd_T38 x3 (wrap64 ((x3.length : Int) - 1))).f2, ((rd_T38 x3 (wrap64 ((x3.length : Int) - 1))).f3) ++ ((rd_T38 x0 x4).f3), (rd_T38 x3 (wrap64 ((x3.length : Int) - 1))).f4⟩ : S38)) (wrap64 (x4 + 1))) else (none)) else (if x3.length + t340.length < 1954687338268 then (boltingref04_Normal.l0 k x0 (x3 ++ t340) (wrap64 (x4 + 1))) else (none))) else (if x3.length + t340.length < 1954687338268 then (boltingref04_Normal.l0 k x0 (x3 ++ t340) (wrap64 (x4 + 1))) else (none))) else (none)) else (none)) else (if x3.length + t340.length < 1954687338268 then (boltingref04_Normal.l0 k x0 (x3 ++ t340) (wrap64 (x4 + 1))) else (none)))) else (if x3.length + t340.length < 1954687338268 then (boltingref04_Normal.l0 k x0 (x3 ++ t340) (wrap64 (x4 + 1))) else (none)))) else (none)) else (none)) else (none)) else (some x3)
def boltingref04_Normal.f (k : Nat) (l0 : List (S38)) : Option ((List (S38))) := boltingref04_Normal.l0 k l0 (([] : List (S38))) 0
def boltingref04_Normal.T8 : Bool × List (List Nat × List Nat) := (true, [([], []), ([], []), ([0, 1], [0, 1]), ([2], [2]), ([3], [3]), ([4], [4]), ([5], [5]), ([6], [6]), ([7, 6], [6, 7]), ([6, 8], [6, 8]), ([9, 6], [9]), ([10], [10]), ([10], [10]), ([12, 10], [10, 12]), ([11, 13, 10], [10, 11, 13]), ([14, 10], [10, 14]), ([15, 10], [10, 15]), ([16, 10], [10, 16]), ([10, 17], [10, 17]), ([18, 10], [18]), ([19], [19]), ([19], [19]), ([21, 19], [19, 21]), ([20, 22, 19], [19, 20, 22]), ([23, 19], [19, 23]), ([24, 19], [19, 24]), ([19], [19]), ([19], [19]), ([26, 27, 19], [19, 26, 27]), ([28, 19], [19, 28]), ([29, 19], [19, 29]), ([25, 30, 19], [19, 25, 30]), ([19, 31], [19, 31])])
def boltingref04_Normal.B8 : List Nat := [0, 0, 3, 7, 15, 31, 63, 127, 255, 511, 1023, 2047, 2047, 6143, 16383, 32767, 65535, 131071, 262143, 524287, 1048575, 1048575, 3145727, 8388607, 16777215, 33554431, 1048575, 1048575, 202375167, 470810623, 1007681535, 2147483647, 4294967295]
def boltingref04_Normal.T10 : Bool × List (List Nat × List Nat) := (true, [([], []), ([0], [0]), ([], []), ([], []), ([2, 3], [2, 3]), ([4], [4]), ([5], [5]), ([1, 6], [1, 6]), ([0, 1, 2, 3, 4, 5, 6, 7], []), ([8, 7, 0, 1, 2, 3, 4, 5, 6, 7], [7, 8])])
def boltingref04_Normal.B10 : List Nat := [0, 1, 0, 0, 12, 28, 60, 127, 255, 511]
end Go.Proofs.YticacakoefojbaaGreat.Pr
namespace Go.Proofs.YticacakoefojbaaGreat.Pure
set_option linter.unusedVariables false
set_option linter.unusedSimpArgs false
open Go.RowKit Go.Proofs.YticacakoefojbaaGreat.Pr Go.Proofs.YticacakoefojbaaGreat.Fo Go.Proofs.YticacakoefojbaaGreatW.PrintWords Go.Proofs.YticacakoefojbaaGreatW.PrintLast Go.Proofs.YticacakoefojbaaGreatW.PrintMore

theorem rdR_at {l : List Rw} {i : Nat} {x : Rw} (h : l[i]? = some x) : rd_T38 l (i : Int) = x := by
  unfold rd_T38
  rw [Int.toNat_natCast, List.getD_eq_getElem?_getD, h]
  rfl
theorem rdA_at {l : List Atr} {i : Nat} {x : Atr} (h : l[i]? = some x) : rd_T45 l (i : Int) = x := by
  unfold rd_T45
  rw [Int.toNat_natCast, List.getD_eq_getElem?_getD, h]
  rfl
def Okx (x : Rw) : Prop := wrap64 x.f0 = x.f0 ∧ x.f4.length ≤ 50
theorem attr_f (l : List Atr) (h : l.length ≤ 50) : api_Attr.f l = some l := if_pos (by omega)
theorem moved_l0 (l : List Rw) (hl : l.length ≤ 200) (hx : ∀ x ∈ l, Okx x) : ∀ (d i : Nat) (acc : List Rw), i + d = l.length → acc.length ≤ i → ∀ k, d < k →
    rows_moved.l0 k 0 acc l (l.length : Int) (i : Int) = some (acc ++ l.drop i)
  | 0, i, acc, h, ha, k, hk => by
    obtain ⟨k, rfl⟩ : ∃ m, k = m + 1 := ⟨k - 1, by omega⟩
    simp only [rows_moved.l0]
    rw [if_neg (by omega), List.drop_of_length_le (by omega), List.append_nil]
  | d + 1, i, acc, h, ha, k, hk => by
    obtain ⟨k, rfl⟩ : ∃ m, k = m + 1 := ⟨k - 1, by omega⟩
    obtain ⟨x, h0⟩ := get_some (show i < l.length by omega)
    obtain ⟨h1, h2⟩ := hx x (List.mem_of_getElem? h0)
    simp only [rows_moved.l0]
    rw [if_pos (by omega), if_pos (by omega), if_pos (by omega), rdR_at h0, attr_f _ h2, Option.bind_some, if_pos (by omega), wrap_succ (by omega) (by omega), drop_at h0, Int.add_zero, h1]
    have := moved_l0 l hl hx d (i + 1) (acc ++ [x]) (by omega) (by simp; omega) k (by omega)
    rw [List.append_assoc] at this
    exact this
theorem moved_f (l : List Rw) (hl : l.length ≤ 200) (hx : ∀ x ∈ l, Okx x) {k : Nat} (hk : 300 < k) : rows_moved.f k l 0 = some l :=
  moved_l0 l hl hx l.length 0 [] (by omega) (by simp) k (by omega)
def tsz : List Rw → Nat
  | [] => 0
  | x :: t => x.f3.size + tsz t
theorem tsz_app : ∀ a b : List Rw, tsz (a ++ b) = tsz a + tsz b
  | [], b => by simp [tsz]
  | x :: t, b => by rw [List.cons_append, tsz, tsz, tsz_app t]; omega
def jz (z : Rw) : List Rw → List Rw
  | [] => [z]
  | y :: t => if z.f1 = 1 ∧ y.f1 = 1 ∧ z.f0 = y.f0 then { z with f3 := z.f3 ++ y.f3 } :: t else z :: y :: t
theorem jz_cons (z y : Rw) (t : List Rw) : jz z (y :: t) = if z.f1 = 1 ∧ y.f1 = 1 ∧ z.f0 = y.f0 then { z with f3 := z.f3 ++ y.f3 } :: t else z :: y :: t := rfl
def joinL (out L : List Rw) : List Rw := match out.getLast? with
  | none => L
  | some z => out.dropLast ++ jz z L
theorem joinL_snoc (o : List Rw) (z : Rw) (L : List Rw) : joinL (o ++ [z]) L = o ++ jz z L := by unfold joinL; rw [List.getLast?_concat, List.dropLast_concat]
theorem joinL_end (out : List Rw) : joinL out [] = out := by
  rcases List.eq_nil_or_concat out with rfl | ⟨o, z, rfl⟩
  · rfl
  · rw [List.concat_eq_append, joinL_snoc]; rfl
def nstep (out : List Rw) (x : Rw) : List Rw :=
  if x.f1 = 1 ∧ x.f3.size = 0 then out else match out.getLast? with
    | none => [x]
    | some z => if z.f1 = 1 ∧ x.f1 = 1 ∧ z.f0 = x.f0 then out.dropLast ++ [{ z with f3 := z.f3 ++ x.f3 }] else out ++ [x]
theorem preL_jz (x : Rw) (L : List Rw) : preL x L = if x.f1 = 1 ∧ x.f3.size = 0 then L else jz x L := by
  unfold preL jz
  by_cases h1 : x.f1 = 1
  · rw [if_pos h1]
    by_cases h2 : x.f3.size = 0
    · rw [if_pos h2, if_pos ⟨h1, h2⟩]
    · rw [if_neg h2, if_neg (fun g => h2 g.2)]
      cases L with
      | nil => rfl
      | cons y t =>
        simp only []
        by_cases c : y.f1 = 1 ∧ y.f0 = x.f0
        · rw [if_pos c, if_pos ⟨h1, c.1, c.2.symm⟩]
        · rw [if_neg c, if_neg (fun g => c ⟨g.2.1, g.2.2.symm⟩)]
  · rw [if_neg h1, if_neg (fun g => h1 g.1)]
    cases L with
    | nil => rfl
    | cons y t => simp only []; rw [if_neg (fun g => h1 g.1)]
theorem jz_not {z x : Rw} (h : ¬ (z.f1 = 1 ∧ x.f1 = 1 ∧ z.f0 = x.f0)) (L : List Rw) : jz z (jz x L) = z :: jz x L := by
  cases L with
  | nil => show jz z [x] = _; rw [jz_cons, if_neg h]; rfl
  | cons y t =>
    rw [jz_cons x]
    by_cases c : x.f1 = 1 ∧ y.f1 = 1 ∧ x.f0 = y.f0
    · rw [if_pos c, jz_cons, if_neg h]
    · rw [if_neg c, jz_cons, if_neg h]
theorem jz_yes {z x : Rw} (h : z.f1 = 1 ∧ x.f1 = 1 ∧ z.f0 = x.f0) (L : List Rw) : jz z (jz x L) = jz { z with f3 := z.f3 ++ x.f3 } L := by
  cases L with
  | nil => show jz z [x] = [_]; rw [jz_cons, if_pos h]
  | cons y t =>
    rw [jz_cons x, jz_cons { z with f3 := z.f3 ++ x.f3 }]
    by_cases c : x.f1 = 1 ∧ y.f1 = 1 ∧ x.f0 = y.f0
    · rw [if_pos c, jz_cons, if_pos h, if_pos (show z.f1 = 1 ∧ y.f1 = 1 ∧ z.f0 = y.f0 from ⟨h.1, c.2.1, h.2.2.trans c.2.2⟩)]
      simp only [ByteArray.append_assoc]
    · rw [if_neg c, jz_cons, if_pos h, if_neg (show ¬ (z.f1 = 1 ∧ y.f1 = 1 ∧ z.f0 = y.f0) from fun g => c ⟨h.2.1, g.2.1, h.2.2.symm.trans g.2.2⟩)]
theorem nstep_join (out : List Rw) (x : Rw) (L : List Rw) : joinL (nstep out x) L = joinL out (preL x L) := by
  rw [preL_jz]
  unfold nstep
  by_cases h : x.f1 = 1 ∧ x.f3.size = 0
  · rw [if_pos h, if_pos h]
  · rw [if_neg h, if_neg h]
    rcases List.eq_nil_or_concat out with rfl | ⟨o, z, rfl⟩
    · show joinL ([] ++ [x]) L = jz x L
      rw [joinL_snoc]; rfl
    · rw [List.concat_eq_append, List.getLast?_concat, List.dropLast_concat, joinL_snoc]
      simp only []
      by_cases c : z.f1 = 1 ∧ x.f1 = 1 ∧ z.f0 = x.f0
      · rw [if_pos c, joinL_snoc, jz_yes c]
      · rw [if_neg c, joinL_snoc, jz_not c, List.append_assoc]; rfl
theorem fold_join : ∀ (l out : List Rw), l.foldl nstep out = joinL out (normL l)
  | [], out => (joinL_end out).symm
  | x :: t, out => by rw [List.foldl_cons, fold_join t, nstep_join, normL]
theorem fold_norm' (l : List Rw) : l.foldl nstep [] = normL l := fold_join l []
theorem nstep_tsz (out : List Rw) (x : Rw) : tsz (nstep out x) ≤ tsz out + x.f3.size := by
  unfold nstep
  split
  · omega
  · rcases List.eq_nil_or_concat out with rfl | ⟨o, z, rfl⟩
    · show tsz [x] ≤ _; simp [tsz]
    · rw [List.concat_eq_append, List.getLast?_concat, List.dropLast_concat]
      simp only []
      split
      · rw [tsz_app, tsz_app]
        show tsz o + ((z.f3 ++ x.f3).size + 0) ≤ tsz o + (z.f3.size + 0) + _
        rw [ByteArray.size_append]; omega
      · rw [tsz_app, tsz_app]
        show tsz o + (z.f3.size + 0) + (x.f3.size + 0) ≤ _
        simp [tsz]
theorem nstep_len (out : List Rw) (x : Rw) : (nstep out x).length ≤ out.length + 1 := by
  unfold nstep
  split
  · omega
  · rcases List.eq_nil_or_concat out with rfl | ⟨o, z, rfl⟩
    · simp
    · rw [List.concat_eq_append, List.getLast?_concat, List.dropLast_concat]
      simp only []
      split <;> simp
theorem nstep_empty {out : List Rw} {x : Rw} (h : x.f1 = 1 ∧ x.f3.size = 0) : nstep out x = out := by unfold nstep; rw [if_pos h]
theorem nstep_nil {x : Rw} (h : ¬ (x.f1 = 1 ∧ x.f3.size = 0)) : nstep [] x = [x] := by unfold nstep; rw [if_neg h]; rfl
theorem nstep_snoc {o : List Rw} {z x : Rw} (h : ¬ (x.f1 = 1 ∧ x.f3.size = 0)) : nstep (o ++ [z]) x = if z.f1 = 1 ∧ x.f1 = 1 ∧ z.f0 = x.f0 then o ++ [{ z with f3 := z.f3 ++ x.f3 }] else o ++ [z] ++ [x] := by
  unfold nstep
  rw [if_neg h, List.getLast?_concat, List.dropLast_concat]
theorem nstep_code {α : Type} (out : List Rw) (x : Rw) (L : List Rw → Option α) (hs : tsz out + x.f3.size ≤ 9223372036854775807) (hl : out.length < 1954687338268) (A : List Rw → Option α) (hA : A (out ++ [x]) = L (out ++ [x])) :
    (if x.f1 = 1 then (if x.f3.toList = ([] : List UInt8) then L out else (if (out.length : Int) > 0 then (if 0 ≤ (wrap64 ((out.length : Int) - 1)) then (if (wrap64 ((out.length : Int) - 1)) < (out.length : Int) then (if ((rd_T38 out (wrap64 ((out.length : Int) - 1))).f1) = 1 then (if ((rd_T38 out (wrap64 ((out.length : Int) - 1))).f0) = x.f0 then (if ((rd_T38 out (wrap64 ((out.length : Int) - 1))).f3).size + x.f3.size ≤ 9223372036854775807 then (L (out.set ((wrap64 ((out.length : Int) - 1)) : Int).toNat (⟨(rd_T38 out (wrap64 ((out.length : Int) - 1))).f0, (rd_T38 out (wrap64 ((out.length : Int) - 1))).f1, (rd_T38 out (wrap64 ((out.length : Int) - 1))).f2, ((rd_T38 out (wrap64 ((out.length : Int) - 1))).f3) ++ x.f3, (rd_T38 out (wrap64 ((out.length : Int) - 1))).f4⟩ : Rw))) else (none)) else A (out ++ [x])) else A (out ++ [x])) else (none)) else (none)) else A (out ++ [x]))) else A (out ++ [x])) = L (nstep out x) := by
  by_cases h1 : x.f1 = 1
  · rw [if_pos h1]
    by_cases h2 : x.f3.size = 0
    · have e : x.f3.toList = [] := by
        rw [Lib.toList_data]
        have e : x.f3.data = #[] := Array.size_eq_zero_iff.1 h2
        rw [e]
      rw [if_pos e, nstep_empty ⟨h1, h2⟩]
    · have e : ¬ x.f3.toList = [] := fun e => h2 (by
        rw [Lib.toList_data] at e
        have := congrArg List.length e
        simpa using this)
      have hn : ¬ (x.f1 = 1 ∧ x.f3.size = 0) := fun g => h2 g.2
      rw [if_neg e]
      rcases List.eq_nil_or_concat out with rfl | ⟨o, z, rfl⟩
      · rw [if_neg (by simp), hA, nstep_nil hn]; rfl
      · rw [List.concat_eq_append] at *
        have hlen : ((o ++ [z]).length : Int) = (o.length : Int) + 1 := by simp
        have hol : o.length < 1954687338268 := by simp at hl; omega
        have hw : wrap64 (((o ++ [z]).length : Int) - 1) = (o.length : Int) := by
          rw [hlen, show (o.length : Int) + 1 - 1 = o.length by omega, wrap_id (by omega) (by omega)]
        have hz : (o ++ [z])[o.length]? = some z := by simp
        have ht : z.f3.size ≤ tsz (o ++ [z]) := by rw [tsz_app]; show _ ≤ tsz o + (z.f3.size + 0); omega
        rw [if_pos (by omega), hw, rdR_at hz, if_pos (by omega), if_pos (by omega), nstep_snoc hn]
        by_cases h3 : z.f1 = 1
        · rw [if_pos h3]
          by_cases h4 : z.f0 = x.f0
          · rw [if_pos h4, if_pos (by omega), if_pos ⟨h3, h1, h4⟩, Int.toNat_natCast, List.set_append_right _ _ (Nat.le_refl _)]
            simp
          · rw [if_neg h4, if_neg (fun g => h4 g.2.2), hA]
        · rw [if_neg h3, if_neg (fun g => h3 g.1), hA]
  · have hn : ¬ (x.f1 = 1 ∧ x.f3.size = 0) := fun g => h1 g.1
    rw [if_neg h1, hA]
    rcases List.eq_nil_or_concat out with rfl | ⟨o, z, rfl⟩
    · rw [nstep_nil hn]; rfl
    · rw [List.concat_eq_append, nstep_snoc hn, if_neg (fun g => h1 g.2.1)]
theorem normal_l0 (l : List Rw) (hl : l.length ≤ 200) : ∀ (d i : Nat) (out : List Rw), i + d = l.length → out.length ≤ i → tsz out + tsz (l.drop i) ≤ 4000000000000000000 → ∀ k, d < k →
    rows_Normal.l0 k out l (l.length : Int) (i : Int) = some ((l.drop i).foldl nstep out)
  | 0, i, out, h, ho, ht, k, hk => by
    obtain ⟨k, rfl⟩ : ∃ m, k = m + 1 := ⟨k - 1, by omega⟩
    simp only [rows_Normal.l0]
    rw [if_neg (by omega), List.drop_of_length_le (by omega)]; rfl
  | d + 1, i, out, h, ho, ht, k, hk => by
    obtain ⟨k, rfl⟩ : ∃ m, k = m + 1 := ⟨k - 1, by omega⟩
    obtain ⟨x, h0⟩ := get_some (show i < l.length by omega)
    rw [drop_at h0, tsz] at ht
    have h1 := nstep_tsz out x
    have h2 := nstep_len out x
    have ih := normal_l0 l hl d (i + 1) (nstep out x) (by omega) (by omega) (by omega) k (by omega)
    simp only [rows_Normal.l0]
    rw [if_pos (by omega), if_pos (by omega), if_pos (by omega), rdR_at h0, wrap_succ (by omega) (by omega), drop_at h0, List.foldl_cons]
    rw [← ih]
    exact nstep_code out x (fun o => rows_Normal.l0 k o l (l.length : Int) ((i : Int) + 1)) (by omega) (by omega) (fun o => if out.length < 1954687338268 then rows_Normal.l0 k o l (l.length : Int) ((i : Int) + 1) else none) (if_pos (by omega))
theorem normal_f (l : List Rw) (hl : l.length ≤ 200) (hx : ∀ x ∈ l, Okx x) (ht : tsz l ≤ 4000000000000000000) {k : Nat} (hk : 300 < k) : rows_Normal.f k l = some (normL l) := by
  unfold rows_Normal.f
  rw [moved_f l hl hx hk, Option.bind_some]
  have := normal_l0 l hl l.length 0 [] (by omega) (by simp) (by simpa [tsz] using ht) k (by omega)
  rw [List.drop_zero, fold_norm'] at this
  exact this
end Go.Proofs.YticacakoefojbaaGreat.Pure
namespace Go.Proofs.YticacakoefojbaaGreat.Pure
set_option linter.unusedVariables false
set_option linter.unusedSimpArgs false
open Go.RowKit Go.Proofs.YticacakoefojbaaGreat.Pr Go.Proofs.YticacakoefojbaaGreat.Fo Go.Proofs.YticacakoefojbaaGreatW.PrintWords Go.Proofs.YticacakoefojbaaGreatW.PrintLast Go.Proofs.YticacakoefojbaaGreatW.PrintMore

def uniq : List Atr → List Atr → Bool
  | _, [] => true
  | seen, a :: t => seen.all (fun b => !decide (a.f0 = b.f0)) && uniq (seen ++ [a]) t
def empB (s : ByteArray) : Bool := decide (s.size = 0)
def rowB (x : Rw) : Bool := if x.f1 = 1 ∨ x.f1 = 2 then empB x.f2 && decide (x.f4.length = 0) else decide (x.f1 = 0) && !empB x.f2 && empB x.f3 && uniq [] x.f4
theorem emp_iff (s : ByteArray) : s.toList = ([] : List UInt8) ↔ s.size = 0 := by
  rw [Lib.toList_data]
  constructor
  · intro e
    have := congrArg List.length e
    simpa using this
  · intro e
    have e : s.data = #[] := Array.size_eq_zero_iff.1 e
    rw [e]
theorem emp_true {s : ByteArray} (h : s.size = 0) : empB s = true := decide_eq_true h
theorem emp_false {s : ByteArray} (h : ¬ s.size = 0) : empB s = false := decide_eq_false h
theorem emp_b (s : ByteArray) : (s.toList == ([] : List UInt8)) = empB s := by
  unfold empB
  rw [Bool.eq_iff_iff, beq_iff_eq, decide_eq_true_eq]
  exact emp_iff s
theorem emp_n (s : ByteArray) : (s.toList != ([] : List UInt8)) = !empB s := by rw [bne, emp_b]
theorem name_iff (a b : ByteArray) : a.toList = b.toList ↔ a = b := toList_iff a b
theorem rowB_text {x : Rw} (h : x.f1 = 1 ∨ x.f1 = 2) : rowB x = (empB x.f2 && decide (x.f4.length = 0)) := by unfold rowB; rw [if_pos h]
theorem rowB_el {x : Rw} (h : ¬ (x.f1 = 1 ∨ x.f1 = 2)) : rowB x = (decide (x.f1 = 0) && !empB x.f2 && empB x.f3 && uniq [] x.f4) := by unfold rowB; rw [if_neg h]
theorem row_l1 (L : List Atr) (hL : L.length ≤ 50) (i : Nat) (a : Atr) (hi : L[i]? = some a) (d0 d1 : Int) (d2 d3 : ByteArray) : ∀ (d j : Nat), j + d = i → ∀ m k, k = m + d + 1 →
    rows_row.l1 k L (L.length : Int) (i : Int) (L.take i) ((L.take i).length : Int) (j : Int) d0 d1 d2 d3 L a.f0 a.f1 = if ((L.take i).drop j).all (fun b => !decide (a.f0 = b.f0)) = true then rows_row.l0 m L (L.length : Int) ((i : Int) + 1) d0 d1 d2 d3 L else some false
  | 0, j, h, m, k, hk => by
    obtain rfl : k = m + 1 := hk
    have hil : i < L.length := (List.getElem?_eq_some_iff.1 hi).1
    have ht : (L.take i).length = i := by rw [List.length_take]; omega
    simp only [rows_row.l1]
    rw [if_neg (by omega), List.drop_of_length_le (by omega), wrap_succ (by omega) (by omega)]; rfl
  | d + 1, j, h, m, k, hk => by
    obtain ⟨k, rfl⟩ : ∃ q, k = q + 1 := ⟨k - 1, by omega⟩
    have hil : i < L.length := (List.getElem?_eq_some_iff.1 hi).1
    have ht : (L.take i).length = i := by rw [List.length_take]; omega
    obtain ⟨b, hb⟩ := get_some (l := L.take i) (show j < (L.take i).length by omega)
    simp only [rows_row.l1]
    rw [if_pos (by omega), if_pos (by omega), if_pos (by omega), rdA_at hb, drop_at hb, List.all_cons]
    by_cases e : a.f0 = b.f0
    · rw [if_pos (by rw [e]), decide_eq_true e]; rfl
    · rw [if_neg (fun g => e ((name_iff _ _).1 g)), decide_eq_false e, wrap_succ (by omega) (by omega)]
      exact row_l1 L hL i a hi d0 d1 d2 d3 d (j + 1) (by omega) m k (by omega)
theorem row_l0 (L : List Atr) (hL : L.length ≤ 50) (d0 d1 : Int) (d2 d3 : ByteArray) : ∀ (d i : Nat), i + d = L.length → ∀ k, d * 60 < k →
    rows_row.l0 k L (L.length : Int) (i : Int) d0 d1 d2 d3 L = some (uniq (L.take i) (L.drop i))
  | 0, i, h, k, hk => by
    obtain ⟨k, rfl⟩ : ∃ q, k = q + 1 := ⟨k - 1, by omega⟩
    simp only [rows_row.l0]
    rw [if_neg (by omega), List.drop_of_length_le (by omega)]; rfl
  | d + 1, i, h, k, hk => by
    obtain ⟨k, rfl⟩ : ∃ q, k = q + 1 := ⟨k - 1, by omega⟩
    obtain ⟨a, ha⟩ := get_some (l := L) (show i < L.length by omega)
    have hk2 : (d + 1) * 60 = d * 60 + 60 := Nat.succ_mul _ _
    simp only [rows_row.l0]
    rw [if_pos (by omega), if_pos (by omega), if_pos (by omega), if_pos (by omega)]
    simp only [Option.bind_some, Int.toNat_natCast, rdA_at ha]
    have := row_l1 L hL i a ha d0 d1 d2 d3 i 0 (by omega) (k - i - 1) k (by omega)
    rw [show ((0 : Nat) : Int) = 0 from rfl] at this
    rw [this, List.drop_zero, drop_at ha]
    show _ = some ((L.take i).all _ && uniq (L.take i ++ [a]) (L.drop (i + 1)))
    rw [← take_at ha]
    have ih := row_l0 L hL d0 d1 d2 d3 d (i + 1) (by omega) (k - i - 1) (by omega)
    rw [show ((i + 1 : Nat) : Int) = (i : Int) + 1 from rfl] at ih
    rw [ih]
    cases (L.take i).all (fun b => !decide (a.f0 = b.f0)) with
    | true => rw [if_pos rfl, Bool.true_and]
    | false => rw [if_neg (by simp), Bool.false_and]
theorem row_f (x : Rw) (hx : x.f4.length ≤ 50) {k : Nat} (hk : 4000 < k) : rows_row.f k x.f0 x.f1 x.f2 x.f3 x.f4 = some (rowB x) := by
  obtain ⟨k, rfl⟩ : ∃ q, k = q + 2 := ⟨k - 2, by omega⟩
  have hl0 := row_l0 x.f4 hx x.f0 x.f1 x.f2 x.f3 x.f4.length 0 (by omega) k (by omega)
  rw [show ((0 : Nat) : Int) = 0 from rfl, List.take_zero, List.drop_zero] at hl0
  have hlen : ((x.f4.length : Int) == 0) = decide (x.f4.length = 0) := by rw [Bool.eq_iff_iff, beq_iff_eq, decide_eq_true_eq]; omega
  have j1 : ∀ b, rows_row.j1 (k + 1) b x.f0 x.f1 x.f2 x.f3 x.f4 = some (!b && uniq [] x.f4) := fun b => by
    simp only [rows_row.j1]
    cases b with
    | true => rw [if_pos rfl]; rfl
    | false => rw [if_neg (by simp), hl0]; rfl
  unfold rows_row.f
  by_cases h1 : x.f1 = 1
  · rw [if_pos h1, rowB_text (.inl h1)]
    simp only [rows_row.j0]
    rw [if_pos trivial, hlen]
    by_cases h2 : x.f2.size = 0
    · rw [if_pos ((emp_iff _).2 h2), emp_true h2, Bool.true_and]
    · rw [if_neg (fun g => h2 ((emp_iff _).1 g)), emp_false h2, Bool.false_and]
  · rw [if_neg h1]
    by_cases h2 : x.f1 = 2
    · rw [rowB_text (.inr h2), show (x.f1 == 2) = true from beq_iff_eq.2 h2]
      simp only [rows_row.j0]
      rw [if_pos trivial, hlen]
      by_cases h3 : x.f2.size = 0
      · rw [if_pos ((emp_iff _).2 h3), emp_true h3, Bool.true_and]
      · rw [if_neg (fun g => h3 ((emp_iff _).1 g)), emp_false h3, Bool.false_and]
    · rw [rowB_el (fun g => g.elim h1 h2), show (x.f1 == 2) = false from beq_eq_false_iff_ne.2 h2]
      simp only [rows_row.j0]
      rw [if_neg (by simp), j1, j1, emp_n]
      by_cases h0 : x.f1 = 0
      · rw [if_pos h0, decide_eq_true h0]
        by_cases h3 : x.f2.size = 0
        · rw [if_pos ((emp_iff _).2 h3), emp_true h3]; rfl
        · rw [if_neg (fun g => h3 ((emp_iff _).1 g)), emp_false h3, Bool.not_not]; rfl
      · rw [if_neg h0, decide_eq_false h0]; rfl
theorem rrow_l1 (x : Rw) (hx : x.f4.length ≤ 50) (i : Nat) (a : Atr) (hi : x.f4[i]? = some a) : ∀ (d j : Nat), j + d = i → ∀ m k, k = m + d + 1 →
    boltingref04_Row.l1 k (i : Int) (j : Int) x.f0 x.f1 x.f2 x.f3 x.f4 = if ((x.f4.take i).drop j).all (fun b => !decide (a.f0 = b.f0)) = true then boltingref04_Row.l0 m ((i : Int) + 1) x.f0 x.f1 x.f2 x.f3 x.f4 else some false
  | 0, j, h, m, k, hk => by
    obtain rfl : k = m + 1 := hk
    have hil : i < x.f4.length := (List.getElem?_eq_some_iff.1 hi).1
    have ht : (x.f4.take i).length = i := by rw [List.length_take]; omega
    simp only [boltingref04_Row.l1]
    rw [if_neg (by omega), List.drop_of_length_le (by omega), wrap_succ (by omega) (by omega)]; rfl
  | d + 1, j, h, m, k, hk => by
    obtain ⟨k, rfl⟩ : ∃ q, k = q + 1 := ⟨k - 1, by omega⟩
    have hil : i < x.f4.length := (List.getElem?_eq_some_iff.1 hi).1
    obtain ⟨b, hb⟩ := get_some (l := x.f4) (show j < x.f4.length by omega)
    have hb2 : (x.f4.take i)[j]? = some b := by rw [List.getElem?_take, if_pos (by omega)]; exact hb
    simp only [boltingref04_Row.l1]
    rw [if_pos (by omega), if_pos (by omega), if_pos (by omega), if_pos (by omega), if_pos (by omega), rdA_at hb, rdA_at hi, drop_at hb2, List.all_cons]
    by_cases e : a.f0 = b.f0
    · rw [if_pos (by rw [e]), decide_eq_true e]; rfl
    · rw [if_neg (fun g => e ((name_iff _ _).1 g)), decide_eq_false e, wrap_succ (by omega) (by omega)]
      exact rrow_l1 x hx i a hi d (j + 1) (by omega) m k (by omega)
theorem rrow_l0 (x : Rw) (hx : x.f4.length ≤ 50) : ∀ (d i : Nat), i + d = x.f4.length → ∀ k, d * 60 < k →
    boltingref04_Row.l0 k (i : Int) x.f0 x.f1 x.f2 x.f3 x.f4 = some (uniq (x.f4.take i) (x.f4.drop i) && (decide (x.f1 = 0) && !empB x.f2 && empB x.f3))
  | 0, i, h, k, hk => by
    obtain ⟨k, rfl⟩ : ∃ q, k = q + 1 := ⟨k - 1, by omega⟩
    simp only [boltingref04_Row.l0]
    rw [if_neg (by omega), List.drop_of_length_le (by omega), emp_b]
    show _ = some (true && _)
    rw [Bool.true_and]
    by_cases h0 : x.f1 = 0
    · rw [if_pos h0, decide_eq_true h0]
      by_cases h3 : x.f2.size = 0
      · rw [if_pos ((emp_iff _).2 h3), emp_true h3]; rfl
      · rw [if_neg (fun g => h3 ((emp_iff _).1 g)), emp_false h3]; rfl
    · rw [if_neg h0, decide_eq_false h0]; rfl
  | d + 1, i, h, k, hk => by
    obtain ⟨k, rfl⟩ : ∃ q, k = q + 1 := ⟨k - 1, by omega⟩
    obtain ⟨a, ha⟩ := get_some (l := x.f4) (show i < x.f4.length by omega)
    have hk2 : (d + 1) * 60 = d * 60 + 60 := Nat.succ_mul _ _
    simp only [boltingref04_Row.l0]
    rw [if_pos (by omega)]
    have := rrow_l1 x hx i a ha i 0 (by omega) (k - i - 1) k (by omega)
    rw [show ((0 : Nat) : Int) = 0 from rfl] at this
    rw [this, List.drop_zero, drop_at ha]
    show _ = some (((x.f4.take i).all _ && uniq (x.f4.take i ++ [a]) (x.f4.drop (i + 1))) && _)
    rw [← take_at ha]
    have ih := rrow_l0 x hx d (i + 1) (by omega) (k - i - 1) (by omega)
    rw [show ((i + 1 : Nat) : Int) = (i : Int) + 1 from rfl] at ih
    rw [ih]
    cases (x.f4.take i).all (fun b => !decide (a.f0 = b.f0)) with
    | true => rw [if_pos rfl, Bool.true_and]
    | false => rw [if_neg (by simp), Bool.false_and, Bool.false_and]
theorem rrow_f (x : Rw) (hx : x.f4.length ≤ 50) {k : Nat} (hk : 4000 < k) : boltingref04_Row.f k x.f0 x.f1 x.f2 x.f3 x.f4 = some (rowB x) := by
  obtain ⟨k, rfl⟩ : ∃ q, k = q + 1 := ⟨k - 1, by omega⟩
  have hl0 := rrow_l0 x hx x.f4.length 0 (by omega) k (by omega)
  rw [show ((0 : Nat) : Int) = 0 from rfl, List.take_zero, List.drop_zero] at hl0
  have hlen : ((x.f4.length : Int) == 0) = decide (x.f4.length = 0) := by rw [Bool.eq_iff_iff, beq_iff_eq, decide_eq_true_eq]; omega
  unfold boltingref04_Row.f
  by_cases h1 : x.f1 = 1
  · rw [if_pos h1, rowB_text (.inl h1)]
    simp only [boltingref04_Row.j0]
    rw [if_pos trivial, hlen]
    by_cases h2 : x.f2.size = 0
    · rw [if_pos ((emp_iff _).2 h2), emp_true h2, Bool.true_and]
    · rw [if_neg (fun g => h2 ((emp_iff _).1 g)), emp_false h2, Bool.false_and]
  · rw [if_neg h1]
    by_cases h2 : x.f1 = 2
    · rw [rowB_text (.inr h2), show (x.f1 == 2) = true from beq_iff_eq.2 h2]
      simp only [boltingref04_Row.j0]
      rw [if_pos trivial, hlen]
      by_cases h3 : x.f2.size = 0
      · rw [if_pos ((emp_iff _).2 h3), emp_true h3, Bool.true_and]
      · rw [if_neg (fun g => h3 ((emp_iff _).1 g)), emp_false h3, Bool.false_and]
    · rw [rowB_el (fun g => g.elim h1 h2), show (x.f1 == 2) = false from beq_eq_false_iff_ne.2 h2]
      simp only [boltingref04_Row.j0]
      rw [if_neg (by simp), hl0, Bool.and_comm]
def rightB : Int → List Rw → Bool
  | _, [] => true
  | m, x :: t => decide (0 ≤ x.f0) && decide (x.f0 ≤ m) && rowB x && rightB (if x.f1 = 0 then x.f0 + 1 else x.f0) t
theorem right_iff : ∀ (l : List Rw) (m : Int), rightB m l = true ↔ RightL (fun x => rowB x = true) m l
  | [], m => ⟨fun _ => trivial, fun _ => rfl⟩
  | x :: t, m => by
    show (decide (0 ≤ x.f0) && decide (x.f0 ≤ m) && rowB x && rightB _ t) = true ↔ (0 ≤ x.f0 ∧ x.f0 ≤ m ∧ rowB x = true ∧ RightL _ _ t)
    rw [Bool.and_eq_true, Bool.and_eq_true, Bool.and_eq_true, decide_eq_true_eq, decide_eq_true_eq, right_iff t]
    constructor
    · rintro ⟨⟨⟨a, b⟩, c⟩, d⟩; exact ⟨a, b, c, d⟩
    · rintro ⟨a, b, c, d⟩; exact ⟨⟨⟨a, b⟩, c⟩, d⟩
theorem rights_l0 (l : List Rw) (hl : l.length ≤ 200) (hx : ∀ x ∈ l, x.f4.length ≤ 50) : ∀ (d i : Nat) (m : Int), i + d = l.length → m ≤ i → ∀ k, 2 * d + 4001 < k →
    rows_right.l0 k m l (l.length : Int) (i : Int) = some (rightB m (l.drop i))
  | 0, i, m, h, hm, k, hk => by
    obtain ⟨k, rfl⟩ : ∃ q, k = q + 1 := ⟨k - 1, by omega⟩
    simp only [rows_right.l0]
    rw [if_neg (by omega), List.drop_of_length_le (by omega)]; rfl
  | d + 1, i, m, h, hm, k, hk => by
    obtain ⟨k, rfl⟩ : ∃ q, k = q + 2 := ⟨k - 2, by omega⟩
    obtain ⟨x, h0⟩ := get_some (l := l) (show i < l.length by omega)
    simp only [rows_right.l0]
    rw [if_pos (by omega), if_pos (by omega), if_pos (by omega), rdR_at h0, row_f x (hx x (List.mem_of_getElem? h0)) (by omega), drop_at h0]
    simp only [rows_right.j1, Option.bind_some]
    show _ = some (decide (0 ≤ x.f0) && decide (x.f0 ≤ m) && rowB x && rightB (if x.f1 = 0 then x.f0 + 1 else x.f0) (l.drop (i + 1)))
    by_cases a : x.f0 < 0
    · rw [if_pos a, if_pos trivial, decide_eq_false (show ¬ 0 ≤ x.f0 by omega)]; rfl
    · rw [if_neg a, decide_eq_true (show 0 ≤ x.f0 by omega)]
      by_cases b : x.f0 > m
      · rw [if_pos b, if_pos trivial, decide_eq_false (show ¬ x.f0 ≤ m by omega)]; rfl
      · rw [if_neg b, decide_eq_true (show x.f0 ≤ m by omega)]
        cases hr : rowB x with
        | false => rw [if_pos (by simp)]; rfl
        | true =>
          rw [if_neg (by simp), wrap_succ (i := (i : Int)) (by omega) (by omega), wrap_succ (i := x.f0) (by omega) (by omega)]
          have e1 := rights_l0 l hl hx d (i + 1) (x.f0 + 1) (by omega) (by omega) k (by omega)
          have e2 := rights_l0 l hl hx d (i + 1) x.f0 (by omega) (by omega) k (by omega)
          rw [show ((i + 1 : Nat) : Int) = (i : Int) + 1 from rfl] at e1 e2
          rw [e1, e2]
          split <;> rfl
theorem rights_f (l : List Rw) (hl : l.length ≤ 200) (hx : ∀ x ∈ l, x.f4.length ≤ 50) {k : Nat} (hk : 5000 < k) : rows_right.f k l = some (rightB 0 l) := by
  have := rights_l0 l hl hx l.length 0 0 (by omega) (by omega) k (by omega)
  exact this
def mostAt (l : List Rw) (i : Nat) : Int := if i = 0 then 0 else match l[i - 1]? with
  | none => 0
  | some p => if p.f1 = 0 then p.f0 + 1 else p.f0
theorem rrights_l0 (l : List Rw) (hl : l.length ≤ 200) (hx : ∀ x ∈ l, x.f4.length ≤ 50) : ∀ (d i : Nat), i + d = l.length → (∀ p, 0 < i → l[i - 1]? = some p → 0 ≤ p.f0 ∧ p.f0 + 1 ≤ i) → ∀ k, 2 * d + 4001 < k →
    boltingref04_Right.l0 k l (i : Int) = some (rightB (mostAt l i) (l.drop i))
  | 0, i, h, hp, k, hk => by
    obtain ⟨k, rfl⟩ : ∃ q, k = q + 1 := ⟨k - 1, by omega⟩
    simp only [boltingref04_Right.l0]
    rw [if_neg (by omega), List.drop_of_length_le (by omega)]; rfl
  | d + 1, i, h, hp, k, hk => by
    obtain ⟨k, rfl⟩ : ∃ q, k = q + 2 := ⟨k - 2, by omega⟩
    obtain ⟨x, h0⟩ := get_some (l := l) (show i < l.length by omega)
    simp only [boltingref04_Right.l0]
    rw [if_pos (by omega), if_pos (by omega), rdR_at h0, rrow_f x (hx x (List.mem_of_getElem? h0)) (by omega), Option.bind_some, drop_at h0]
    simp only [boltingref04_Right.j1]
    rw [if_pos trivial]
    show _ = some (decide (0 ≤ x.f0) && decide (x.f0 ≤ mostAt l i) && rowB x && rightB (if x.f1 = 0 then x.f0 + 1 else x.f0) (l.drop (i + 1)))
    cases hr : rowB x with
    | false => rw [if_neg (by simp)]; simp
    | true =>
      rw [if_pos rfl, Bool.and_true, wrap_succ (i := (i : Int)) (by omega) (by omega)]
      by_cases a : x.f0 < 0
      · rw [if_pos a, decide_eq_false (show ¬ 0 ≤ x.f0 by omega)]; rfl
      · rw [if_neg a, decide_eq_true (show 0 ≤ x.f0 by omega), Bool.true_and]
        have hnext : x.f0 ≤ mostAt l i → boltingref04_Right.l0 k l ((i : Int) + 1) = some (rightB (if x.f1 = 0 then x.f0 + 1 else x.f0) (l.drop (i + 1))) := fun hle => by
          have hm : mostAt l i ≤ i := by
            unfold mostAt
            split
            · omega
            · rename_i hi0
              obtain ⟨p, hp0⟩ := get_some (l := l) (show i - 1 < l.length by omega)
              obtain ⟨q1, q2⟩ := hp p (by omega) hp0
              rw [hp0]
              simp only []
              split <;> omega
          have ih := rrights_l0 l hl hx d (i + 1) (by omega) (fun p _ hp1 => by
            rw [Nat.add_sub_cancel] at hp1
            rw [h0] at hp1
            obtain rfl := Option.some.inj hp1
            exact ⟨by omega, by omega⟩) k (by omega)
          rw [show ((i + 1 : Nat) : Int) = (i : Int) + 1 from rfl] at ih
          rw [ih]
          have : mostAt l (i + 1) = if x.f1 = 0 then x.f0 + 1 else x.f0 := by
            unfold mostAt
            rw [if_neg (by omega), Nat.add_sub_cancel, h0]
          rw [this]
        by_cases h00 : i = 0
        · subst h00
          have hm0 : mostAt l 0 = 0 := rfl
          rw [if_pos (by rfl), hm0]
          by_cases c : x.f0 = 0
          · rw [if_neg (by rw [c]; simp), if_neg (by omega), decide_eq_true (by omega), Bool.true_and]
            exact hnext (by rw [hm0]; omega)
          · rw [if_pos (by simpa using c), decide_eq_false (by omega)]; rfl
        · rw [if_neg (by omega), if_neg (by simp), if_pos (by omega)]
          obtain ⟨p, hp0⟩ := get_some (l := l) (show i - 1 < l.length by omega)
          obtain ⟨q1, q2⟩ := hp p (by omega) hp0
          have e1 : wrap64 ((i : Int) - 1) = ((i - 1 : Nat) : Int) := by rw [wrap_id (by omega) (by omega)]; omega
          have hm : mostAt l i = if p.f1 = 0 then p.f0 + 1 else p.f0 := by
            unfold mostAt
            rw [if_neg h00, hp0]
          rw [e1, if_pos (by omega), if_pos (by omega), rdR_at hp0, wrap_succ (i := p.f0) (by omega) (by omega), hm]
          by_cases c : x.f0 > p.f0 + 1
          · rw [if_pos c, decide_eq_false (by split <;> omega)]; rfl
          · rw [if_neg c]
            by_cases c2 : x.f0 = p.f0 + 1
            · rw [if_pos c2]
              by_cases c3 : p.f1 = 0
              · rw [if_pos c3, if_pos c3, decide_eq_true (by omega), Bool.true_and]
                exact hnext (by rw [hm, if_pos c3]; omega)
              · rw [if_neg c3, if_neg c3, decide_eq_false (by omega)]; rfl
            · rw [if_neg c2, decide_eq_true (by split <;> omega), Bool.true_and]
              exact hnext (by rw [hm]; split <;> omega)
theorem rright_f (l : List Rw) (hl : l.length ≤ 200) (hx : ∀ x ∈ l, x.f4.length ≤ 50) {k : Nat} (hk : 5000 < k) : boltingref04_Right.f k l = some (rightB 0 l) := by
  have := rrights_l0 l hl hx l.length 0 (by omega) (fun p h => by omega) k (by omega)
  exact this
theorem rbig_l0 (l : List Rw) (hl : l.length ≤ 200) : ∀ (d i : Nat), i + d = l.length → ∀ k, d < k → boltingref04_Big.l0 k l (i : Int) = some ((l.drop i).any deepB)
  | 0, i, h, k, hk => by
    obtain ⟨k, rfl⟩ : ∃ q, k = q + 1 := ⟨k - 1, by omega⟩
    simp only [boltingref04_Big.l0]
    rw [if_neg (by omega), List.drop_of_length_le (by omega), decide_eq_false (by omega)]; rfl
  | d + 1, i, h, k, hk => by
    obtain ⟨k, rfl⟩ : ∃ q, k = q + 1 := ⟨k - 1, by omega⟩
    obtain ⟨x, h0⟩ := get_some (l := l) (show i < l.length by omega)
    simp only [boltingref04_Big.l0]
    rw [if_pos (by omega), if_pos (by omega), rdR_at h0, drop_at h0, List.any_cons, wrap_succ (by omega) (by omega)]
    by_cases a : x.f0 ≥ 60
    · rw [if_pos a, show deepB x = true from decide_eq_true a]; rfl
    · rw [if_neg a, show deepB x = false from decide_eq_false a, Bool.false_or]
      exact rbig_l0 l hl d (i + 1) (by omega) k (by omega)
theorem rbig_f (l : List Rw) (hl : l.length ≤ 200) {k : Nat} (hk : 300 < k) : boltingref04_Big.f k l = some (l.any deepB) := by
  have := rbig_l0 l hl l.length 0 (by omega) k (by omega)
  exact this
theorem big_f (l : List Rw) (hl : l.length ≤ 200) : rows_big.f l = some (l.any deepB) := by
  unfold rows_big.f bigL
  rw [decide_eq_false (by omega), Bool.false_or]
def checkR (l : List Rw) : Int := if l.any deepB = true then 2 else if rightB 0 l = true then 0 else 40
theorem rows_check_f (l : List Rw) (hl : l.length ≤ 200) (hx : ∀ x ∈ l, x.f4.length ≤ 50) {k : Nat} (hk : 5000 < k) : rows_Check.f k l = some (checkR l) := by
  unfold rows_Check.f checkR
  rw [big_f l hl, Option.bind_some, rights_f l hl hx hk, Option.bind_some]
  split <;> (try split) <;> rfl
theorem rrows_check_f (l : List Rw) (hl : l.length ≤ 200) (hx : ∀ x ∈ l, x.f4.length ≤ 50) {k : Nat} (hk : 5000 < k) : boltingref04_Check.f k l = some (checkR l) := by
  unfold boltingref04_Check.f checkR
  rw [rbig_f l hl (by omega), Option.bind_some, rright_f l hl hx hk, Option.bind_some]
  split <;> (try split) <;> rfl

theorem end_l0 (l : List Rw) (hl : l.length ≤ 200) (i : Nat) (x : Rw) (hi : l[i]? = some x) : ∀ (d j : Nat), j + d = l.length → ∀ k, d < k →
    rows_End.l0 k l (i : Int) (j : Int) = some ((j + ((l.drop j).takeWhile fun y => decide (x.f0 < y.f0)).length : Nat) : Int)
  | 0, j, h, k, hk => by
    obtain ⟨k, rfl⟩ : ∃ q, k = q + 1 := ⟨k - 1, by omega⟩
    simp only [rows_End.l0]
    rw [if_neg (by omega), List.drop_of_length_le (by omega)]; simp
  | d + 1, j, h, k, hk => by
    obtain ⟨k, rfl⟩ : ∃ q, k = q + 1 := ⟨k - 1, by omega⟩
    have hil : i < l.length := (List.getElem?_eq_some_iff.1 hi).1
    obtain ⟨y, h0⟩ := get_some (l := l) (show j < l.length by omega)
    simp only [rows_End.l0]
    rw [if_pos (by omega), if_pos (by omega), if_pos (by omega), if_pos (by omega), rdR_at h0, rdR_at hi, drop_at h0, List.takeWhile_cons, wrap_succ (by omega) (by omega)]
    by_cases a : y.f0 > x.f0
    · rw [if_pos a, if_pos (decide_eq_true a)]
      have ih := end_l0 l hl i x hi d (j + 1) (by omega) k (by omega)
      rw [show ((j + 1 : Nat) : Int) = (j : Int) + 1 from rfl] at ih
      rw [ih, List.length_cons]
      congr 2; omega
    · rw [if_neg a, if_neg (by rw [decide_eq_true_eq]; omega)]; simp
theorem end_f (l : List Rw) (hl : l.length ≤ 200) (i : Nat) (x : Rw) (hi : l[i]? = some x) {k : Nat} (hk : 300 < k) : rows_End.f k l (i : Int) = some ((i + 1 + ((l.drop (i + 1)).takeWhile fun y => decide (x.f0 < y.f0)).length : Nat) : Int) := by
  have hil : i < l.length := (List.getElem?_eq_some_iff.1 hi).1
  unfold rows_End.f rows_is.f
  rw [if_pos (by omega), Option.bind_some, if_pos (by rw [decide_eq_true_eq]; omega), wrap_succ (by omega) (by omega)]
  exact end_l0 l hl i x hi (l.length - (i + 1)) (i + 1) (by omega) k (by omega)
end Go.Proofs.YticacakoefojbaaGreat.Pure
namespace Go.Proofs.YticacakoefojbaaGreat.Pure
set_option linter.unusedVariables false
set_option linter.unusedSimpArgs false
open Go.RowKit Go.Proofs.YticacakoefojbaaGreat.Pr Go.Proofs.YticacakoefojbaaGreat.Fo Go.Proofs.YticacakoefojbaaGreatW.PrintWords Go.Proofs.YticacakoefojbaaGreatW.PrintLast Go.Proofs.YticacakoefojbaaGreatW.PrintMore

def neverB (n : ByteArray) : Bool := (risk_Element.f n).getD false
theorem never_f (n : ByteArray) : risk_Element.f n = some (neverB n) := by
  unfold neverB
  cases h : risk_Element.f n with
  | some b => rfl
  | none =>
    unfold risk_Element.f at h
    repeat' split at h
    all_goals cases h
def riskB (e n v : ByteArray) : Bool := (risk_Attr.f e n v).getD false
theorem risk_f (e n v : ByteArray) (hv : v.size ≤ 140737488351232) : risk_Attr.f e n v = some (riskB e n v) := by
  unfold riskB
  cases h : risk_Attr.f e n v with
  | some b => rfl
  | none =>
    unfold risk_Attr.f risk_Sink.f risk_Nav.f link_Script.f link_Scheme.f at h
    rw [bnd_of _ hv] at h
    simp only [Option.bind_some] at h
    repeat' split at h
    all_goals cases h

def keepA (c : Cf) (s : Bool) (n : ByteArray) (l : List Atr) : List Atr := l.filter fun a => attrB c n a.f0 && !(s && riskB n a.f0 a.f1)
def VS (l : List Atr) : Prop := ∀ a ∈ l, a.f1.size ≤ 140737488351232
theorem conf_attr_f {c : Cf} (hf : Fit c) (e a : ByteArray) : config_Attr.f c.al c.aal c.els c.rep c.ats c.per c.com c.dt e a = some (attrB c e a) := by
  unfold config_Attr.f
  rw [if_pos (of_fit hf)]
theorem attrs_l0 {c : Cf} (hf : Fit c) (s : Bool) (L : List Atr) (hL : L.length ≤ 50) (hv : VS L) (d0 d1 : Int) (n d3 : ByteArray) (M : List Atr) : ∀ (d i : Nat) (acc : List Atr), i + d = L.length → acc.length ≤ i → ∀ k, d < k →
    clean_Attrs.l0 k s acc L (L.length : Int) (i : Int) d0 d1 n d3 M c.al c.aal c.els c.rep c.ats c.per c.com c.dt = some (acc ++ keepA c s n (L.drop i))
  | 0, i, acc, h, ha, k, hk => by
    obtain ⟨k, rfl⟩ : ∃ q, k = q + 1 := ⟨k - 1, by omega⟩
    simp only [clean_Attrs.l0]
    rw [if_neg (by omega), List.drop_of_length_le (by omega)]; simp [keepA]
  | d + 1, i, acc, h, ha, k, hk => by
    obtain ⟨k, rfl⟩ : ∃ q, k = q + 1 := ⟨k - 1, by omega⟩
    obtain ⟨a, h0⟩ := get_some (l := L) (show i < L.length by omega)
    have hva := hv a (List.mem_of_getElem? h0)
    have e1 := attrs_l0 hf s L hL hv d0 d1 n d3 M d (i + 1) acc (by omega) (by omega) k (by omega)
    have e2 := attrs_l0 hf s L hL hv d0 d1 n d3 M d (i + 1) (acc ++ [a]) (by omega) (by simp; omega) k (by omega)
    rw [show ((i + 1 : Nat) : Int) = (i : Int) + 1 from rfl] at e1 e2
    rw [List.append_assoc] at e2
    simp only [clean_Attrs.l0]
    rw [if_pos (by omega), if_pos (by omega), if_pos (by omega), rdA_at h0, conf_attr_f hf, Option.bind_some, risk_f _ _ _ hva, wrap_succ (by omega) (by omega), drop_at h0]
    have hk1 : keepA c s n (a :: L.drop (i + 1)) = if (attrB c n a.f0 && !(s && riskB n a.f0 a.f1)) = true then a :: keepA c s n (L.drop (i + 1)) else keepA c s n (L.drop (i + 1)) := by
      unfold keepA
      rw [List.filter_cons]
    rw [hk1]
    cases attrB c n a.f0 with
    | false => rw [if_neg (by simp), if_neg (by simp)]; exact e1
    | true =>
      rw [if_pos rfl]
      cases s with
      | false => rw [if_neg (by simp), if_pos (by omega), if_pos (by simp)]; exact e2
      | true =>
        rw [if_pos rfl, Option.bind_some]
        cases riskB n a.f0 a.f1 with
        | false => rw [if_neg (by simp), if_pos (by omega), if_pos (by simp)]; exact e2
        | true => rw [if_pos rfl, if_neg (by simp)]; exact e1
theorem attrs_f {c : Cf} (hf : Fit c) (s : Bool) (d0 d1 : Int) (n d3 : ByteArray) (L : List Atr) (hL : L.length ≤ 50) (hv : VS L) {k : Nat} (hk : 60 < k) :
    clean_Attrs.f k d0 d1 n d3 L c.al c.aal c.els c.rep c.ats c.per c.com c.dt s = some (keepA c s n L) := by
  have := attrs_l0 hf s L hL hv d0 d1 n d3 L L.length 0 [] (by omega) (by simp) k (by omega)
  rw [List.drop_zero, List.nil_append] at this
  exact this
def whatC (c : Cf) (s : Bool) (x : Rw) : Int := if x.f1 = 1 then 0 else if x.f1 = 2 then (if c.com = true then 0 else 1) else if (s && neverB x.f2) = true then 1 else elemI c x.f2
def updC (c : Cf) (s : Bool) (x : Rw) : Rw := if x.f1 = 0 then { x with f4 := keepA c s x.f2 x.f4 } else x
theorem elem_kk {c : Cf} (hf : Fit c) (n : ByteArray) {k : Nat} (hk : 2000 < k) : config_Element.f k c.al c.aal c.els c.rep c.ats c.per c.com c.dt n = some (elemI c n) := by
  unfold config_Element.f elemI
  rw [contains_f _ _ (by have := hf.rep; omega) (by have := hf.rep; omega), Option.bind_some, contains_f _ _ (by have := hf.els; omega) (by have := hf.els; omega), Option.bind_some]
  split <;> (try split) <;> rfl
theorem becomes_f {c : Cf} (hf : Fit c) (s : Bool) (x : Rw) {k : Nat} (hk : 2010 < k) : clean_becomes.f k x.f0 x.f1 x.f2 x.f3 x.f4 c.al c.aal c.els c.rep c.ats c.per c.com c.dt s = some (whatC c s x) := by
  obtain ⟨k, rfl⟩ : ∃ q, k = q + 1 := ⟨k - 1, by omega⟩
  unfold clean_becomes.f whatC
  simp only [clean_becomes.j0]
  rw [never_f, elem_kk hf _ (by omega)]
  simp only [Option.bind_some]
  by_cases h1 : x.f1 = 1
  · rw [if_pos h1, if_pos h1]
  · rw [if_neg h1, if_neg h1]
    by_cases h2 : x.f1 = 2
    · simp only [if_pos h2]
      cases c.com <;> rfl
    · simp only [if_neg h2]
      cases s with
      | false => rfl
      | true =>
        cases neverB x.f2 <;> rfl

theorem rowB_kind {x : Rw} (h : rowB x = true) : x.f1 = 0 ∨ x.f1 = 1 ∨ x.f1 = 2 := by
  by_cases g : x.f1 = 1 ∨ x.f1 = 2
  · exact .inr g
  · rw [rowB_el g] at h
    simp only [Bool.and_eq_true, decide_eq_true_eq] at h
    exact .inl h.1.1.1
theorem rowB_none {x : Rw} (h : rowB x = true) (g : x.f1 = 1 ∨ x.f1 = 2) : x.f4 = [] ∧ x.f2.size = 0 := by
  rw [rowB_text g] at h
  simp only [Bool.and_eq_true, decide_eq_true_eq] at h
  exact ⟨List.eq_nil_of_length_eq_zero h.2, by simpa [empB] using h.1⟩
theorem updC_any {c : Cf} {s : Bool} {x : Rw} (h : rowB x = true) : updC c s x = { x with f4 := keepA c s x.f2 x.f4 } := by
  unfold updC
  rcases rowB_kind h with g | g
  · rw [if_pos g]
  · rw [if_neg (by rcases g with g | g <;> rw [g] <;> decide)]
    have := (rowB_none h g).1
    rw [this]
    show x = { x with f4 := [] }
    rw [← this]
structure Fine (x : Rw) : Prop where
  ok : rowB x = true
  few : x.f4.length ≤ 50
  small : VS x.f4
def up (less : List Int) (d : Nat) : Int := if d = 0 then 0 else less.getD (d - 1) 0
theorem up_take (less : List Int) (d : Nat) : up (less.take d) d = up less d := by
  unfold up
  by_cases h : d = 0
  · rw [if_pos h, if_pos h]
  · rw [if_neg h, if_neg h, List.getD_eq_getElem?_getD, List.getElem?_take, if_pos (by omega), ← List.getD_eq_getElem?_getD]
theorem up_snoc (less : List Int) (d : Nat) (u : Int) (h : less.length = d) : up (less ++ [u]) (d + 1) = u := by
  unfold up
  rw [if_neg (by omega), List.getD_eq_getElem?_getD, show d + 1 - 1 = d by omega, ← h]
  simp
def Low (less : List Int) : Prop := ∀ (j : Nat) (u : Int), less[j]? = some u → 0 ≤ u ∧ u ≤ j + 1
theorem Low.up {less : List Int} (h : Low less) {d : Nat} (hd : d ≤ less.length) : 0 ≤ up less d ∧ up less d ≤ d := by
  unfold Pure.up
  split
  · omega
  · obtain ⟨u, hu⟩ := get_some (l := less) (show d - 1 < less.length by omega)
    rw [List.getD_eq_getElem?_getD, hu]
    have := h _ _ hu
    show 0 ≤ u ∧ u ≤ d
    omega
theorem Low.take {less : List Int} (h : Low less) (d : Nat) : Low (less.take d) := fun j u hj => by
  rw [List.getElem?_take] at hj
  split at hj
  · exact h j u hj
  · cases hj
theorem Low.snoc {less : List Int} (h : Low less) {u : Int} (h0 : 0 ≤ u) (h1 : u ≤ less.length + 1) : Low (less ++ [u]) := fun j v hj => by
  rw [List.getElem?_append] at hj
  split at hj
  · exact h j v hj
  · rename_i g
    have : j - less.length = 0 := by
      cases hq : j - less.length with
      | zero => rfl
      | succ q => rw [hq] at hj; cases hj
    rw [this] at hj
    obtain rfl : u = v := by simpa using hj
    omega
theorem drop_more {l a b : List Rw} {i : Nat} (h : l.drop i = a ++ b) : l.drop (i + a.length) = b := by
  rw [← List.drop_drop, h, List.drop_left]
theorem takeWhile_tree (d : Int) (K : Fo) (rest : List Rw) (h : ∀ y, rest.head? = some y → y.f0 ≤ d) : ((flat (d + 1) K ++ rest).takeWhile fun y => decide (d < y.f0)).length = K.size := by
  have h1 : ∀ y ∈ flat (d + 1) K, decide (d < y.f0) = true := fun y hy => by
    have := flat_ge K (d + 1) y hy
    exact decide_eq_true (by omega)
  rw [List.takeWhile_append_of_pos h1]
  have h2 : rest.takeWhile (fun y => decide (d < y.f0)) = [] := by
    cases rest with
    | nil => rfl
    | cons y t => rw [List.takeWhile_cons, if_neg (by have := h y rfl; rw [decide_eq_true_eq]; omega)]
  rw [h2, List.append_nil, flat_len]
theorem walk {c : Cf} (hf : Fit c) (s : Bool) (l : List Rw) (hl : l.length ≤ 200) : ∀ (F : Fo) (d : Nat) (out : List Rw) (less : List Int) (i : Nat) (rest : List Rw) (k : Nat),
    F.Leaf → F.All Fine → l.drop i = flat d F ++ rest → (∀ y, rest.head? = some y → y.f0 ≤ d) → d ≤ less.length → Low less → less.length ≤ 200 → d + F.height ≤ 200 → out.length ≤ i → i ≤ l.length → 6000 + 2 * F.size < k →
    ∃ k' less', k ≤ k' + 2 * F.size ∧ less'.take d = less.take d ∧ d ≤ less'.length ∧ Low less' ∧ less'.length ≤ 200 ∧
      clean_Rows.l0 k l s out less (i : Int) c.al c.aal c.els c.rep c.ats c.per c.com c.dt = clean_Rows.l0 k' l s (out ++ flat (d - up less d) (keepF (whatC c s) (updC c s) F)) less' ((i + F.size : Nat) : Int) c.al c.aal c.els c.rep c.ats c.per c.com c.dt := by
  intro F
  induction F with
  | nil =>
    intro d out less i rest k _ _ _ _ hd hlow hll _ _ _ _
    refine ⟨k, less, by omega, rfl, hd, hlow, hll, ?_⟩
    show _ = clean_Rows.l0 k l s (out ++ []) less ((i + 0 : Nat) : Int) _ _ _ _ _ _ _ _
    rw [List.append_nil, Nat.add_zero]
  | cons x K R ihK ihR =>
    intro d out less i rest k hleaf hall hdrop hrest hd hlow hll hh hout hi hk
    obtain ⟨hlx, hlK, hlR⟩ := hleaf
    obtain ⟨hfx, haK, haR⟩ := hall
    have hsz : (Fo.cons x K R).size = 1 + K.size + R.size := rfl
    have hht : (Fo.cons x K R).height = max (1 + K.height) R.height := rfl
    rw [hsz] at hk
    rw [hht] at hh
    have hdrop' : l.drop i = { x with f0 := (d : Int) } :: (flat ((d : Int) + 1) K ++ (flat d R ++ rest)) := by rw [hdrop, flat]; simp
    have h0 : l[i]? = some { x with f0 := (d : Int) } := by
      have := congrArg (fun m => m[0]?) hdrop'
      simp only [List.getElem?_drop, Nat.add_zero, List.getElem?_cons_zero] at this
      exact this
    have hil : i < l.length := (List.getElem?_eq_some_iff.1 h0).1
    have hd1 : l.drop (i + 1) = flat (((d + 1 : Nat)) : Int) K ++ (flat d R ++ rest) := by
      have := drop_more (l := l) (i := i) (a := [{ x with f0 := (d : Int) }]) hdrop'
      exact this
    have hlenK : (flat (((d + 1 : Nat)) : Int) K).length = K.size := flat_len _ _
    have hd2 : l.drop (i + 1 + K.size) = flat d R ++ rest := by
      have := drop_more hd1
      rw [hlenK] at this
      exact this
    have hi2 : i + 1 + K.size ≤ l.length := by
      have := congrArg List.length hd1
      rw [List.length_drop, List.length_append, hlenK] at this
      omega
    have hrest2 : ∀ y, (flat (d : Int) R ++ rest).head? = some y → y.f0 ≤ d := fun y hy => by
      cases R with
      | nil => exact hrest y hy
      | cons z kz rz => rw [flat, List.cons_append, List.head?_cons] at hy; cases hy; exact Int.le_refl _
    have hls : (less.take d).length = d := by rw [List.length_take]; omega
    obtain ⟨hu0, hu1⟩ := hlow.up hd
    obtain ⟨u, hu⟩ : ∃ u, up less d = u := ⟨_, rfl⟩
    rw [hu] at hu0 hu1 ⊢
    obtain ⟨k, rfl⟩ : ∃ q, k = q + 2 := ⟨k - 2, by omega⟩
    have hstep : clean_Rows.l0 (k + 2) l s out less (i : Int) c.al c.aal c.els c.rep c.ats c.per c.com c.dt = clean_Rows.j1 (k + 1) l s out (less.take d) (i : Int) u c.al c.aal c.els c.rep c.ats c.per c.com c.dt (d : Int) x.f1 x.f2 x.f3 x.f4 := by
      simp only [clean_Rows.l0]
      rw [if_pos (by omega), if_pos (by omega), rdR_at h0]
      simp only [Option.bind_some, Int.toNat_natCast]
      rw [if_pos (by omega), if_pos (by omega)]
      by_cases hz : d = 0
      · subst hz
        have : u = 0 := by rw [← hu]; rfl
        rw [if_neg (by omega), this]
      · have e1 : wrap64 ((d : Int) - 1) = ((d - 1 : Nat) : Int) := by rw [wrap_id (by omega) (by omega)]; omega
        have e2 : rd (less.take d) ((d - 1 : Nat) : Int) = u := by
          unfold rd
          rw [Int.toNat_natCast, ← hu, ← up_take less d]
          unfold up
          rw [if_neg hz]
        rw [if_pos (by omega), e1, if_pos (by omega), if_pos (by rw [hls]; omega), e2]
    have hbec : clean_becomes.f k (d : Int) x.f1 x.f2 x.f3 x.f4 c.al c.aal c.els c.rep c.ats c.per c.com c.dt s = some (whatC c s x) := becomes_f hf s { x with f0 := (d : Int) } (by omega)
    have hkeep : keepF (whatC c s) (updC c s) (.cons x K R) = if whatC c s x = 1 then keepF (whatC c s) (updC c s) R else if whatC c s x = 2 then (keepF (whatC c s) (updC c s) K).app (keepF (whatC c s) (updC c s) R) else .cons (updC c s x) (keepF (whatC c s) (updC c s) K) (keepF (whatC c s) (updC c s) R) := rfl
    rw [hstep, hkeep, hsz]
    simp only [clean_Rows.j1]
    rw [hbec, Option.bind_some]
    have hlenF : ∀ (G : Fo) (e : Int), (flat e (keepF (whatC c s) (updC c s) G)).length ≤ G.size := fun G e => by rw [flat_len]; exact keep_size _ _ G
    by_cases w1 : whatC c s x = 1
    · rw [if_pos w1, if_pos w1]
      have ht := takeWhile_tree (d : Int) K (flat d R ++ rest) hrest2
      have he : rows_End.f k l (i : Int) = some ((i + 1 + K.size : Nat) : Int) := by
        have h := end_f l hl i _ h0 (k := k) (by omega)
        rw [hd1] at h
        rw [← ht]
        exact h
      rw [he, Option.bind_some]
      obtain ⟨k', less', a1, a2, a3, a4, a5, a6⟩ := ihR d out (less.take d) (i + 1 + K.size) rest k hlR haR hd2 hrest (by omega) (hlow.take d) (by omega) (by omega) (by omega) hi2 (by omega)
      refine ⟨k', less', by omega, by rw [a2, List.take_take, Nat.min_self], a3, a4, a5, ?_⟩
      rw [a6, up_take, hu, show i + 1 + K.size + R.size = i + (1 + K.size + R.size) by omega]
    · rw [if_neg w1, if_neg w1]
      by_cases w2 : whatC c s x = 2
      · rw [if_pos w2, if_pos w2, if_pos (by omega), wrap_succ (i := u) (by omega) (by omega), wrap_succ (i := (i : Int)) (by omega) (by omega)]
        obtain ⟨k1, l1, a1, a2, a3, a4, a5, a6⟩ := ihK (d + 1) out (less.take d ++ [u + 1]) (i + 1) (flat d R ++ rest) k hlK haK hd1 (fun y hy => by have := hrest2 y hy; omega) (by rw [List.length_append, hls]; simp) ((hlow.take d).snoc (by omega) (by rw [hls]; omega)) (by rw [List.length_append, hls]; simp; omega) (by omega) (by omega) (by omega) (by omega)
        rw [up_snoc _ d _ hls] at a6
        have hout1 : (out ++ flat (((d + 1 : Nat) : Int) - (u + 1)) (keepF (whatC c s) (updC c s) K)).length ≤ i + 1 + K.size := by
          rw [List.length_append]
          have := hlenF K (((d + 1 : Nat) : Int) - (u + 1))
          omega
        have ht1 : l1.take d = less.take d := by
          have := congrArg (List.take d) a2
          rw [List.take_take, List.take_take, List.take_append_of_le_length (by rw [hls]; omega), List.take_take] at this
          simpa [Nat.min_eq_left (Nat.le_succ d)] using this
        obtain ⟨k2, l2, b1, b2, b3, b4, b5, b6⟩ := ihR d _ l1 (i + 1 + K.size) rest k1 hlR haR hd2 hrest (by omega) a4 a5 (by omega) hout1 hi2 (by omega)
        have hup1 : up l1 d = u := by rw [← up_take, ht1, up_take, hu]
        refine ⟨k2, l2, by omega, by rw [b2, ht1], b3, b4, b5, ?_⟩
        rw [show ((i : Int) + 1) = ((i + 1 : Nat) : Int) from rfl, a6, b6, hup1, flat_app, List.append_assoc, show ((d + 1 : Nat) : Int) - (u + 1) = (d : Int) - u by omega, show i + 1 + K.size + R.size = i + (1 + K.size + R.size) by omega]
      · rw [if_neg w2, if_neg w2, attrs_f hf s _ _ _ _ _ hfx.few hfx.small (by omega), Option.bind_some, if_pos (by omega), if_pos (by omega), wrap_id (i := (d : Int) - u) (by omega) (by omega), wrap_succ (i := (i : Int)) (by omega) (by omega)]
        obtain ⟨k1, l1, a1, a2, a3, a4, a5, a6⟩ := ihK (d + 1) (out ++ [⟨(d : Int) - u, x.f1, x.f2, x.f3, keepA c s x.f2 x.f4⟩]) (less.take d ++ [u]) (i + 1) (flat d R ++ rest) k hlK haK hd1 (fun y hy => by have := hrest2 y hy; omega) (by rw [List.length_append, hls]; simp) ((hlow.take d).snoc (by omega) (by rw [hls]; omega)) (by rw [List.length_append, hls]; simp; omega) (by omega) (by rw [List.length_append]; simp; omega) (by omega) (by omega)
        rw [up_snoc _ d _ hls] at a6
        have hout1 : (out ++ [(⟨(d : Int) - u, x.f1, x.f2, x.f3, keepA c s x.f2 x.f4⟩ : Rw)] ++ flat (((d + 1 : Nat) : Int) - u) (keepF (whatC c s) (updC c s) K)).length ≤ i + 1 + K.size := by
          rw [List.length_append, List.length_append]
          have := hlenF K (((d + 1 : Nat) : Int) - u)
          simp only [List.length_singleton]
          omega
        have ht1 : l1.take d = less.take d := by
          have := congrArg (List.take d) a2
          rw [List.take_take, List.take_take, List.take_append_of_le_length (by rw [hls]; omega), List.take_take] at this
          simpa [Nat.min_eq_left (Nat.le_succ d)] using this
        obtain ⟨k2, l2, b1, b2, b3, b4, b5, b6⟩ := ihR d _ l1 (i + 1 + K.size) rest k1 hlR haR hd2 hrest (by omega) a4 a5 (by omega) hout1 hi2 (by omega)
        have hup1 : up l1 d = u := by rw [← up_take, ht1, up_take, hu]
        refine ⟨k2, l2, by omega, by rw [b2, ht1], b3, b4, b5, ?_⟩
        rw [show ((i : Int) + 1) = ((i + 1 : Nat) : Int) from rfl, a6, b6, hup1, updC_any hfx.ok, flat, show i + 1 + K.size + R.size = i + (1 + K.size + R.size) by omega]
        congr 1
        simp only [List.append_assoc, List.cons_append, List.nil_append]
        rw [show ((d + 1 : Nat) : Int) - u = (d : Int) - u + 1 by omega]
end Go.Proofs.YticacakoefojbaaGreat.Pure
