import Derived.Test.YticacakoefojbaaGreatJCleanAttrs4
import Derived.Test.YticacakoefojbaaGreatJCleanAttrs2
import Derived.Test.YticacakoefojbaaGreatJCleanAttrs1
import Derived.Test.YticacakoefojbaaGreatJCleanAttrs3
import Derived.Test.YticacakoefojbaaGreatRows
import Derived.WalkKit
import Derived.ProofKit
import Derived.OpenShut
import Derived.ShutString
import Derived.ChangeOld
import Derived.Below
import Derived.SizedLaws
namespace Go.Proofs.YticacakoefojbaaGreat.Pr
open Go.RowKit Go.Proofs.YticacakoefojbaaGreatW.PrintWords Go.Proofs.YticacakoefojbaaGreatW.PrintLast Go.Proofs.YticacakoefojbaaGreatW.PrintMore
attribute [local go_sem] max2_int min2_int max_two min_two max_three min_three max_four min_four   -- for this text's walks alone
set_option linter.unusedVariables false
set_option linter.unusedSimpArgs false

def boltinglaw13_CleanAttrs.f (k : Nat) (a0_0 : Int) (a0_1 : Int) (a0_2 : ByteArray) (a0_3 : ByteArray) (l0_4 : List (S45)) (a1_0 : Bool) (a1_1 : Bool) (l1_2 : List ByteArray) (l1_3 : List ByteArray) (l1_4 : List ByteArray) (l1_5 : List (S60)) (a1_6 : Bool) (a1_7 : Bool) : Option (Bool) := if 0 ≤ (mn (l0_4.length : Int) 8) then (if (mn (l0_4.length : Int) 8) ≤ (l0_4.length : Int) then ((some (l0_4.take ((mn (l0_4.length : Int) 8) : Int).toNat : List (S45))).bind fun y730 => ((boltinglaw12_Bound.f k a1_0 a1_1 l1_2 l1_3 l1_4 l1_5 a1_6 a1_7).bind fun bt734 => ((clean_Attrs.f k a0_0 a0_1 a0_2 a0_3 y730 bt734.1 bt734.2.1 bt734.2.2.1 bt734.2.2.2.1 bt734.2.2.2.2.1 bt734.2.2.2.2.2.1 bt734.2.2.2.2.2.2.1 bt734.2.2.2.2.2.2.2 false).bind fun t750 => ((clean_Attrs.f k a0_0 a0_1 a0_2 a0_3 y730 bt734.1 bt734.2.1 bt734.2.2.1 bt734.2.2.2.1 bt734.2.2.2.2.1 bt734.2.2.2.2.2.1 bt734.2.2.2.2.2.2.1 bt734.2.2.2.2.2.2.2 true).bind fun t753 => ((boltinglaw13_among.f k t750 y730).bind fun t756 => (if t756 = true then ((boltinglaw13_among.f k t753 t750).bind fun t757 => (if t757 = true then ((boltinglaw13_fixed.f).bind fun t758 => (some t758)) else (some false))) else (some false))))))) else (none)) else (none)
def boltinglaw13_CleanAttrs.T3 : Bool × List (List Nat × List Nat) := (true, [([], []), ([], []), ([0, 1], [0, 1]), ([], []), ([], []), ([3, 4, 2], [3, 4]), ([2, 5, 0, 1, 2], [2]), ([5, 6, 0, 1, 2, 3, 4, 5, 6], [5])])
def boltinglaw13_CleanAttrs.B3 : List Nat := [0, 0, 3, 0, 0, 31, 63, 127]
theorem boltinglaw13_CleanAttrs.tab3 : rtab .any (opsOf Tryz.f7 3) = boltinglaw13_CleanAttrs.T3 := by kernel_rfl
theorem boltinglaw13_CleanAttrs.bits3 : waitsOk boltinglaw13_CleanAttrs.T3.2 boltinglaw13_CleanAttrs.B3 = true := by kernel_rfl
set_option maxHeartbeats 8000000 in
set_option maxRecDepth 100000 in
theorem boltinglaw13_CleanAttrs.calls (k : Nat) (a0_0 : Int) (a0_1 : Int) (a0_2 : ByteArray) (a0_3 : ByteArray) (A0_4 : Option Addr) (c0_4 : Nat) (l0_4 : List (S45)) (a1_0 : Bool) (a1_1 : Bool) (A1_2 : Option Addr) (c1_2 : Nat) (l1_2 : List ByteArray) (A1_3 : Option Addr) (c1_3 : Nat) (l1_3 : List ByteArray) (A1_4 : Option Addr) (c1_4 : Nat) (l1_4 : List ByteArray) (A1_5 : Option Addr) (c1_5 : Nat) (l1_5 : List (S60)) (a1_6 : Bool) (a1_7 : Bool) (r : Bool) (w : World) (hr0_4 : Kd.C k45 w A0_4 l0_4.length l0_4) (hc0_4 : l0_4.length ≤ c0_4) (hr1_2 : Kd.C Kd.string w A1_2 l1_2.length l1_2) (hc1_2 : l1_2.length ≤ c1_2) (hr1_3 : Kd.C Kd.string w A1_3 l1_3.length l1_3) (hc1_3 : l1_3.length ≤ c1_3) (hr1_4 : Kd.C Kd.string w A1_4 l1_4.length l1_4) (hc1_4 : l1_4.length ≤ c1_4) (hr1_5 : Kd.C k60 w A1_5 l1_5.length l1_5) (hc1_5 : l1_5.length ≤ c1_5) (h : boltinglaw13_CleanAttrs.f k a0_0 a0_1 a0_2 a0_3 l0_4 a1_0 a1_1 l1_2 l1_3 l1_4 l1_5 a1_6 a1_7 = some r) (hT : Aside0 (r = true) := by exact ⟨rfl⟩) :
  Calls Tryz.prog 7 #[.agg #[.int .i64 a0_0, .int .i64 a0_1, .string a0_2, .string a0_3, .slice A0_4 l0_4.length c0_4], .agg #[.bool a1_0, .bool a1_1, .slice A1_2 l1_2.length c1_2, .slice A1_3 l1_3.length c1_3, .slice A1_4 l1_4.length c1_4, .slice A1_5 l1_5.length c1_5, .bool a1_6, .bool a1_7]] w fun e w' => e = .returned (.bool r) ∧ Below w.heap.size w w' := by
 have hu38 := Tryz.underlying38
 have hu32 := Tryz.underlying32
 have HR0_4 := Aside0.mk hr0_4
 have HC0_4 := Aside0.mk hc0_4
 clear hr0_4 hc0_4
 have HR1_2 := Aside0.mk hr1_2
 have HC1_2 := Aside0.mk hc1_2
 clear hr1_2 hc1_2
 have HR1_3 := Aside0.mk hr1_3
 have HC1_3 := Aside0.mk hc1_3
 clear hr1_3 hc1_3
 have HR1_4 := Aside0.mk hr1_4
 have HC1_4 := Aside0.mk hc1_4
 clear hr1_4 hc1_4
 have HR1_5 := Aside0.mk hr1_5
 have HC1_5 := Aside0.mk hc1_5
 clear hr1_5 hc1_5
 have HB := Aside0.mk (Below.refl w.heap.size w)
 have H : (if 0 ≤ (mn (l0_4.length : Int) 8) then (if (mn (l0_4.length : Int) 8) ≤ (l0_4.length : Int) then ((some (l0_4.take ((mn (l0_4.length : Int) 8) : Int).toNat : List (S45))).bind fun y730 => ((boltinglaw12_Bound.f k a1_0 a1_1 l1_2 l1_3 l1_4 l1_5 a1_6 a1_7).bind fun bt734 => ((clean_Attrs.f k a0_0 a0_1 a0_2 a0_3 y730 bt734.1 bt734.2.1 bt734.2.2.1 bt734.2.2.2.1 bt734.2.2.2.2.1 bt734.2.2.2.2.2.1 bt734.2.2.2.2.2.2.1 bt734.2.2.2.2.2.2.2 false).bind fun t750 => ((clean_Attrs.f k a0_0 a0_1 a0_2 a0_3 y730 bt734.1 bt734.2.1 bt734.2.2.1 bt734.2.2.2.1 bt734.2.2.2.2.1 bt734.2.2.2.2.2.1 bt734.2.2.2.2.2.2.1 bt734.2.2.2.2.2.2.2 true).bind fun t753 => ((boltinglaw13_among.f k t750 y730).bind fun t756 => (if t756 = true then ((boltinglaw13_among.f k t753 t750).bind fun t757 => (if t757 = true then ((boltinglaw13_fixed.f).bind fun t758 => (some t758)) else (some false))) else (some false))))))) else (none)) else (none)) = some r := h
 clear h
 obtain ⟨ji3, hji3⟩ : ∃ j_ : Int, (mn (l0_4.length : Int) 8) = j_ := ⟨_, rfl⟩
 replace H : (if 0 ≤ (ji3) then (if (ji3) ≤ (l0_4.length : Int) then ((some (l0_4.take ((ji3) : Int).toNat : List (S45))).bind fun y730 => ((boltinglaw12_Bound.f k a1_0 a1_1 l1_2 l1_3 l1_4 l1_5 a1_6 a1_7).bind fun bt734 => ((clean_Attrs.f k a0_0 a0_1 a0_2 a0_3 y730 bt734.1 bt734.2.1 bt734.2.2.1 bt734.2.2.2.1 bt734.2.2.2.2.1 bt734.2.2.2.2.2.1 bt734.2.2.2.2.2.2.1 bt734.2.2.2.2.2.2.2 false).bind fun t750 => ((clean_Attrs.f k a0_0 a0_1 a0_2 a0_3 y730 bt734.1 bt734.2.1 bt734.2.2.1 bt734.2.2.2.1 bt734.2.2.2.2.1 bt734.2.2.2.2.2.1 bt734.2.2.2.2.2.2.1 bt734.2.2.2.2.2.2.2 true).bind fun t753 => ((boltinglaw13_among.f k t750 y730).bind fun t756 => (if t756 = true then ((boltinglaw13_among.f k t753 t750).bind fun t757 => (if t757 = true then ((boltinglaw13_fixed.f).bind fun t758 => (some t758)) else (some false))) else (some false))))))) else (none)) else (none)) = some r := by first | (rw [hji3] at H; exact H) | (simp only [hji3] at H ⊢; exact H)
 (try (have hji3h : ji3 ≤ 8 := by (rw [← hji3]; unfold mn; (repeat' split) <;> omega)))
 (try (have hji3g : ji3 ≤ 64 := by omega))
 (try (have hji3l : 0 ≤ ji3 := by (rw [← hji3]; unfold mn; (repeat' split) <;> omega)))
 (try (have hji3m : 0 ≤ ji3 := by omega))
 have hji3_ : (if 8 < (l0_4.length : Int) then 8 else (l0_4.length : Int)) = ji3 := hji3
 by_cases c4 : 0 ≤ (ji3)
 ·rw [if_pos c4] at H
  have c4b0 := eq_true c4
  have c4b1 : decide (0 ≤ (ji3)) = true := decide_eq_true c4
  clear c4
  by_cases c5 : (ji3) ≤ (l0_4.length : Int)
  ·rw [if_pos c5] at H
   have c5b0 := eq_true c5
   have c5b1 : decide ((ji3) ≤ (l0_4.length : Int)) = true := decide_eq_true c5
   clear c5
   obtain ⟨y730, hy730⟩ : ∃ y_ : List (S45), y_ = (l0_4.take ((ji3) : Int).toNat) := ⟨_, rfl⟩
   replace H : ((boltinglaw12_Bound.f k a1_0 a1_1 l1_2 l1_3 l1_4 l1_5 a1_6 a1_7).bind fun bt734 => ((clean_Attrs.f k a0_0 a0_1 a0_2 a0_3 y730 bt734.1 bt734.2.1 bt734.2.2.1 bt734.2.2.2.1 bt734.2.2.2.2.1 bt734.2.2.2.2.2.1 bt734.2.2.2.2.2.2.1 bt734.2.2.2.2.2.2.2 false).bind fun t750 => ((clean_Attrs.f k a0_0 a0_1 a0_2 a0_3 y730 bt734.1 bt734.2.1 bt734.2.2.1 bt734.2.2.2.1 bt734.2.2.2.2.1 bt734.2.2.2.2.2.1 bt734.2.2.2.2.2.2.1 bt734.2.2.2.2.2.2.2 true).bind fun t753 => ((boltinglaw13_among.f k t750 y730).bind fun t756 => (if t756 = true then ((boltinglaw13_among.f k t753 t750).bind fun t757 => (if t757 = true then ((boltinglaw13_fixed.f).bind fun t758 => (some t758)) else (some false))) else (some false)))))) = some r := by first | (rw [hy730]; with_reducible exact H) | (have H2_ := (Option.bind_some _ _).symm.trans H; rw [hy730]; with_reducible exact H2_) | (have H2_ := (Option.bind_some _ _).symm.trans H; with_reducible exact H2_) | with_reducible exact H | (rw [hy730]; exact H) | exact H
   have Ny730 := Aside0.mk hy730
   clear hy730
   replace H := Option.bind_eq_some_iff.mp H
   obtain ⟨⟨t734, t735, t736, t739, t742, t745, t748, t749⟩, A60, H⟩ := H
   try dsimp only at H
   have A6 := Aside0.mk A60
   clear A60
   replace H := Option.bind_eq_some_iff.mp H
   obtain ⟨t750, A70, H⟩ := H
   have A7 := Aside0.mk A70
   clear A70
   replace H := Option.bind_eq_some_iff.mp H
   obtain ⟨t753, A80, H⟩ := H
   have A8 := Aside0.mk A80
   clear A80
   replace H := Option.bind_eq_some_iff.mp H
   obtain ⟨t756, A90, H⟩ := H
   have A9 := Aside0.mk A90
   clear A90
   by_cases c10 : t756 = true
   ·subst c10
    replace H : ((boltinglaw13_among.f k t753 t750).bind fun t757 => (if t757 = true then ((boltinglaw13_fixed.f).bind fun t758 => (some t758)) else (some false))) = some r := by rw [if_pos rfl] at H; exact H
    replace H := Option.bind_eq_some_iff.mp H
    obtain ⟨t757, A110, H⟩ := H
    have A11 := Aside0.mk A110
    clear A110
    by_cases c12 : t757 = true
    ·subst c12
     replace H : ((boltinglaw13_fixed.f).bind fun t758 => (some t758)) = some r := by rw [if_pos rfl] at H; exact H
     replace H := Option.bind_eq_some_iff.mp H
     obtain ⟨t758, A130, H⟩ := H
     replace H : (some t758) = some r := H
     have A13 := Aside0.mk A130
     clear A130
     obtain rfl := Option.some.inj H
     go_enter Tryz.func7, Tryz.ntmps7
     try go_wp2_with (first | ((with_reducible refine gate_dst (N := 2) rfl ?_); refine box_event ?hg (N := 2) ?hd (cs := #[.int .i64 a0_0, .int .i64 a0_1, .string a0_2, .string a0_3, .slice A0_4 l0_4.length c0_4]) (t := 38) ?hr ?_; (case hd => rfl); (case hg => rfl); (case hr => first | (go_simp; done) | (go_simp; rfl)); intro gb728 hg w14 hbox hb; have n0_ := Aside0.mk (below_step (zb HB) hb); have n1_ := Aside0.mk (hbox); have n2_ := Aside0.mk ((by rw [hg]; exact (below_size (zb HB)) : w.heap.size ≤ gb728)); have n3_ := Aside0.mk ((by rw [hg]; exact (below_size (zb HB)) : w.heap.size ≤ gb728)); clear HB; have HB := n0_; have BK728 := n1_; have GW728 := n2_; have GE728 := n3_; clear n0_ n1_ n2_ n3_; clear hb hbox hg) | ((with_reducible refine gate_dst (N := 3) rfl ?_); refine box_event ?hg (N := 3) ?hd (cs := #[.bool a1_0, .bool a1_1, .slice A1_2 l1_2.length c1_2, .slice A1_3 l1_3.length c1_3, .slice A1_4 l1_4.length c1_4, .slice A1_5 l1_5.length c1_5, .bool a1_6, .bool a1_7]) (t := 32) ?hr ?_; (case hd => rfl); (case hg => rfl); (case hr => first | (go_simp; done) | (go_simp; rfl)); intro gb729 hg w15 hbox hb; have n0_ := Aside0.mk (blk_below (by exact BK728.out) hb); have n1_ := Aside0.mk (below_step (zb1 HB GE728) hb); have n2_ := Aside0.mk (hbox); have n3_ := Aside0.mk ((by rw [hg]; exact (below_size (zb1 HB GE728)) : w.heap.size ≤ gb729)); have n4_ := Aside0.mk ((by rw [hg]; exact (below_size (zb1 HB GE728)) : w.heap.size ≤ gb729)); have n5_ := Aside0.mk ((by rw [hg]; exact Nat.ne_of_lt (blk_lt (by exact BK728.out)) : gb728 ≠ gb729)); have n6_ := Aside0.mk ((by rw [hg]; exact Nat.ne_of_gt (blk_lt (by exact BK728.out)) : gb729 ≠ gb728)); clear BK728; clear HB; have BK728 := n0_; have HB := n1_; have BK729 := n2_; have GW729 := n3_; have GE729 := n4_; have NB728_729 := n5_; have NB729_728 := n6_; clear n0_ n1_ n2_ n3_ n4_ n5_ n6_; clear hb hbox hg; have hnb16 := NB728_729.out; have hnc16 := NB729_728.out; obtain ⟨hcz17_0, hcz17_1, hcz17_2, hcz17_3, hcz17_4, hfz17_0, hfz17_1, hfz17_2, hfz17_3, hfz17_4⟩ := cz5 BK728.out; have q18 : ((ji3) : Int) ≤ ((l0_4.length : Int) : Int) := of_decide_eq_true za; obtain ⟨i018, hi018, _, hsz18, _⟩ := info_parts info45; have hroom18 : l0_4.length ≤ c0_4 := HC0_4.out; have hC18 : Kd.C k45 _ A0_4 l0_4.length l0_4 := HR0_4.out; have hcut18 := cut_to (P := Tryz.prog) 36 45 .i64 Tryz.underlying36 hi018 A0_4 l0_4.length c0_4 (ji3) (of_decide_eq_true za) q18 hroom18; have hr18 := Kd.C_take (m := ((ji3) : Int).toNat) hC18 (by omega); have hy18 : y730.length = ((ji3) : Int).toNat := (by rw [Ny730.out, List.length_take]; omega); rw [← Ny730.out] at hr18; rw [← hy18] at hcut18; have HR733 := Aside0.mk hr18; have HC733 := Aside0.mk (show y730.length ≤ c0_4 from by omega); clear hr18 hC18 hroom18 hi018 hsz18; have KY18 := Aside0.mk hy18; clear hy18; replace q18 := eq_true q18) | ((with_reducible refine gate_store (t := 36) (p := 14) rfl ?_); refine store_event (t := 36) (p := 14) (v := ?vo_w19) (w1 := (w15.setCell ⟨gb728, 4, none⟩ (.slice A0_4 y730.length c0_4))) ?hg ?ho ?hn ?hr ?_; (case ho => rfl); (case hg => rfl); (case hn => rfl); (case hr => first | (go_simp; done) | (go_simp; rfl)); intro w19 hw; have n0_ : Aside0 (w19.heap[gb728]? = some (.cells #[.int .i64 a0_0, .int .i64 a0_1, .string a0_2, .string a0_3, .slice A0_4 y730.length c0_4] 38 (0, 0))) := ⟨(by rw [hw]; exact (by refine blk_put (cs := #[.int .i64 a0_0, .int .i64 a0_1, .string a0_2, .string a0_3, .slice A0_4 l0_4.length c0_4]) ?_ 4 _ rfl; exact BK728.out))⟩; have n1_ : Aside0 (w19.heap[gb729]? = some (.cells #[.bool a1_0, .bool a1_1, .slice A1_2 l1_2.length c1_2, .slice A1_3 l1_3.length c1_3, .slice A1_4 l1_4.length c1_4, .slice A1_5 l1_5.length c1_5, .bool a1_6, .bool a1_7] 32 (0, 0))) := ⟨(by rw [hw]; exact (by refine blk_far ?_ NB729_728.out _; exact BK729.out))⟩; have n2_ : Aside0 (Below w.heap.size w w19) := ⟨(by rw [hw]; exact (zb2 HB GE728 GE729))⟩; clear hw; clear BK728; clear BK729; clear HB; have BK728 := n0_; have BK729 := n1_; have HB := n2_; clear n0_ n1_ n2_; obtain ⟨hcz20_0, hcz20_1, hcz20_2, hcz20_3, hcz20_4, hcz20_5, hcz20_6, hcz20_7, hfz20_0, hfz20_1, hfz20_2, hfz20_3, hfz20_4, hfz20_5, hfz20_6, hfz20_7⟩ := cz8 BK729.out) | ((with_reducible refine gate_callee (f := 20) rfl ?_); refine goesL_ (some 16) rfl rfl Tryz.func20 (by kernel_rfl) rfl #[.agg #[.bool a1_0, .bool a1_1, .slice A1_2 l1_2.length c1_2, .slice A1_3 l1_3.length c1_3, .slice A1_4 l1_4.length c1_4, .slice A1_5 l1_5.length c1_5, .bool a1_6, .bool a1_7]] rfl zm ?_; (with_reducible refine (boltinglaw12_Bound.calls k a1_0 a1_1 (fun k_ => k_ < w.heap.size) _ _ l1_2 (fun k_ => k_ < w.heap.size) _ _ l1_3 (fun k_ => k_ < w.heap.size) _ _ l1_4 (fun k_ => k_ < w.heap.size) _ _ l1_5 a1_6 a1_7 t734 t735 t736 t739 t742 t745 t748 t749 _ ?side1 ?side2 ?side3 ?side4 A6.out).mono ?_); (case side1 => exact Kd.V_mk HC1_2.out (Kd.F_below (Kd.C_F Kd.heap_string HR1_2.out) (zb2 HB GE728 GE729))); (case side2 => exact Kd.V_mk HC1_3.out (Kd.F_below (Kd.C_F Kd.heap_string HR1_3.out) (zb2 HB GE728 GE729))); (case side3 => exact Kd.V_mk HC1_4.out (Kd.F_below (Kd.C_F Kd.heap_string HR1_4.out) (zb2 HB GE728 GE729))); (case side4 => exact Kd.V_mk HC1_5.out (Kd.F_below (Kd.C_F k60_heap HR1_5.out) (zb2 HB GE728 GE729))); rintro e w21 ⟨v737, v740, v743, v746, rfl, ho0, ho1, ho2, ho3, hb⟩; refine ⟨_, rfl, ?_⟩; have n0_ := Aside0.mk (Kd.V_lower (Kd.V_mono (ok' := fun k_ => some k_ ≠ (v746 : Value).ownBlock ∧ k_ ≠ gb728 ∧ k_ ≠ gb729) ho0 (fun k_ hk_ => ⟨hk_.2, Or.elim hk_.1 (fun hs_ => Or.elim hs_ (fun hs_ => fun e_ => Nat.not_le.2 hs_ (by rw [e_]; exact GW728.out)) (fun hs_ => Or.elim hs_ (fun hs_ => fun e_ => Nat.not_le.2 hs_ (by rw [e_]; exact GW728.out)) (fun hs_ => Or.elim hs_ (fun hs_ => fun e_ => Nat.not_le.2 hs_ (by rw [e_]; exact GW728.out)) (fun hs_ => fun e_ => Nat.not_le.2 hs_ (by rw [e_]; exact GW728.out))))) (fun hn_ => (Kd.freshB (by exact BK728.out) k_ hn_)), Or.elim hk_.1 (fun hs_ => Or.elim hs_ (fun hs_ => fun e_ => Nat.not_le.2 hs_ (by rw [e_]; exact GW729.out)) (fun hs_ => Or.elim hs_ (fun hs_ => fun e_ => Nat.not_le.2 hs_ (by rw [e_]; exact GW729.out)) (fun hs_ => Or.elim hs_ (fun hs_ => fun e_ => Nat.not_le.2 hs_ (by rw [e_]; exact GW729.out)) (fun hs_ => fun e_ => Nat.not_le.2 hs_ (by rw [e_]; exact GW729.out))))) (fun hn_ => (Kd.freshB (by exact BK729.out) k_ hn_))⟩)) (below_size (zb2 HB GE728 GE729))); have n1_ := Aside0.mk (Kd.V_lower (Kd.V_mono (ok' := fun k_ => some k_ ≠ (v746 : Value).ownBlock ∧ k_ ≠ gb728 ∧ k_ ≠ gb729) ho1 (fun k_ hk_ => ⟨hk_.2, Or.elim hk_.1 (fun hs_ => Or.elim hs_ (fun hs_ => fun e_ => Nat.not_le.2 hs_ (by rw [e_]; exact GW728.out)) (fun hs_ => Or.elim hs_ (fun hs_ => fun e_ => Nat.not_le.2 hs_ (by rw [e_]; exact GW728.out)) (fun hs_ => Or.elim hs_ (fun hs_ => fun e_ => Nat.not_le.2 hs_ (by rw [e_]; exact GW728.out)) (fun hs_ => fun e_ => Nat.not_le.2 hs_ (by rw [e_]; exact GW728.out))))) (fun hn_ => (Kd.freshB (by exact BK728.out) k_ hn_)), Or.elim hk_.1 (fun hs_ => Or.elim hs_ (fun hs_ => fun e_ => Nat.not_le.2 hs_ (by rw [e_]; exact GW729.out)) (fun hs_ => Or.elim hs_ (fun hs_ => fun e_ => Nat.not_le.2 hs_ (by rw [e_]; exact GW729.out)) (fun hs_ => Or.elim hs_ (fun hs_ => fun e_ => Nat.not_le.2 hs_ (by rw [e_]; exact GW729.out)) (fun hs_ => fun e_ => Nat.not_le.2 hs_ (by rw [e_]; exact GW729.out))))) (fun hn_ => (Kd.freshB (by exact BK729.out) k_ hn_))⟩)) (below_size (zb2 HB GE728 GE729))); have n2_ := Aside0.mk (Kd.V_lower (Kd.V_mono (ok' := fun k_ => some k_ ≠ (v746 : Value).ownBlock ∧ k_ ≠ gb728 ∧ k_ ≠ gb729) ho2 (fun k_ hk_ => ⟨hk_.2, Or.elim hk_.1 (fun hs_ => Or.elim hs_ (fun hs_ => fun e_ => Nat.not_le.2 hs_ (by rw [e_]; exact GW728.out)) (fun hs_ => Or.elim hs_ (fun hs_ => fun e_ => Nat.not_le.2 hs_ (by rw [e_]; exact GW728.out)) (fun hs_ => Or.elim hs_ (fun hs_ => fun e_ => Nat.not_le.2 hs_ (by rw [e_]; exact GW728.out)) (fun hs_ => fun e_ => Nat.not_le.2 hs_ (by rw [e_]; exact GW728.out))))) (fun hn_ => (Kd.freshB (by exact BK728.out) k_ hn_)), Or.elim hk_.1 (fun hs_ => Or.elim hs_ (fun hs_ => fun e_ => Nat.not_le.2 hs_ (by rw [e_]; exact GW729.out)) (fun hs_ => Or.elim hs_ (fun hs_ => fun e_ => Nat.not_le.2 hs_ (by rw [e_]; exact GW729.out)) (fun hs_ => Or.elim hs_ (fun hs_ => fun e_ => Nat.not_le.2 hs_ (by rw [e_]; exact GW729.out)) (fun hs_ => fun e_ => Nat.not_le.2 hs_ (by rw [e_]; exact GW729.out))))) (fun hn_ => (Kd.freshB (by exact BK729.out) k_ hn_))⟩)) (below_size (zb2 HB GE728 GE729))); have n3_ := Aside0.mk (Kd.N_lower (Kd.N_mono (ok' := fun k_ => k_ ≠ gb728 ∧ k_ ≠ gb729) ho3 (fun k_ hk_ => ⟨Or.elim hk_ (fun hs_ => Or.elim hs_ (fun hs_ => fun e_ => Nat.not_le.2 hs_ (by rw [e_]; exact GW728.out)) (fun hs_ => Or.elim hs_ (fun hs_ => fun e_ => Nat.not_le.2 hs_ (by rw [e_]; exact GW728.out)) (fun hs_ => Or.elim hs_ (fun hs_ => fun e_ => Nat.not_le.2 hs_ (by rw [e_]; exact GW728.out)) (fun hs_ => fun e_ => Nat.not_le.2 hs_ (by rw [e_]; exact GW728.out))))) (fun hn_ => (Kd.freshB (by exact BK728.out) k_ hn_)), Or.elim hk_ (fun hs_ => Or.elim hs_ (fun hs_ => fun e_ => Nat.not_le.2 hs_ (by rw [e_]; exact GW729.out)) (fun hs_ => Or.elim hs_ (fun hs_ => fun e_ => Nat.not_le.2 hs_ (by rw [e_]; exact GW729.out)) (fun hs_ => Or.elim hs_ (fun hs_ => fun e_ => Nat.not_le.2 hs_ (by rw [e_]; exact GW729.out)) (fun hs_ => fun e_ => Nat.not_le.2 hs_ (by rw [e_]; exact GW729.out))))) (fun hn_ => (Kd.freshB (by exact BK729.out) k_ hn_))⟩)) (below_size (zb2 HB GE728 GE729))); have n4_ := Aside0.mk (blk_below (by exact BK728.out) hb); have n5_ := Aside0.mk (blk_below (by exact BK729.out) hb); have n6_ := Aside0.mk (below_step (zb2 HB GE728 GE729) hb); clear BK728; clear BK729; clear HB; have HO738 := n0_; have HO741 := n1_; have HO744 := n2_; have HO747 := n3_; have BK728 := n4_; have BK729 := n5_; have HB := n6_; clear n0_ n1_ n2_ n3_ n4_ n5_ n6_; (try clear hb); (try clear ho0); (try clear ho1); (try clear ho2); (try clear ho3); obtain ⟨hcz22_0, hcz22_1, hcz22_2, hcz22_3, hcz22_4, hcz22_5, hcz22_6, hcz22_7, hfz22_0, hfz22_1, hfz22_2, hfz22_3, hfz22_4, hfz22_5, hfz22_6, hfz22_7⟩ := cz8 BK729.out; obtain ⟨Ao23, co23, eo23⟩ := Kd.V_slice HO738.out; subst eo23; obtain ⟨Ao24, co24, eo24⟩ := Kd.V_slice HO741.out; subst eo24; obtain ⟨Ao25, co25, eo25⟩ := Kd.V_slice HO744.out; subst eo25; obtain ⟨Ao26, co26, eo26⟩ := Kd.N_slice HO747.out; subst eo26))
     have n0_ : Aside0 (Kd.V Kd.string 9 ((((((((w21.setCell ⟨gb729, 0, none⟩ (.bool t734)).setCell ⟨gb729, 1, none⟩ (.bool t735)).setCell ⟨gb729, 2, none⟩ (.slice Ao23 t736.length co23)).setCell ⟨gb729, 3, none⟩ (.slice Ao24 t739.length co24)).setCell ⟨gb729, 4, none⟩ (.slice Ao25 t742.length co25)).setCell ⟨gb729, 5, none⟩ (.slice Ao26 t745.length co26)).setCell ⟨gb729, 6, none⟩ (.bool t748)).setCell ⟨gb729, 7, none⟩ (.bool t749)) w.heap.size (fun k_ => some k_ ≠ (.slice Ao26 t745.length co26 : Value).ownBlock ∧ k_ ≠ gb728 ∧ k_ ≠ gb729) (.slice Ao23 t736.length co23) t736) := ⟨by exact Kd.V_mono (Vf8 (g := gb729) (Kd.V_mono HO738.out (fun k_ hk => (⟨hk, hk.2.2⟩ : _ ∧ k_ ≠ gb729))) (fun _ hk => hk.2) (.bool t734) (.bool t735) (.slice Ao23 t736.length co23) (.slice Ao24 t739.length co24) (.slice Ao25 t742.length co25) (.slice Ao26 t745.length co26) (.bool t748) (.bool t749)) (fun _ hk => ⟨hk.1.1, ⟨hk.1.2.1, hk.1.2.2⟩⟩)⟩
     have n1_ : Aside0 (Kd.V Kd.string 9 ((((((((w21.setCell ⟨gb729, 0, none⟩ (.bool t734)).setCell ⟨gb729, 1, none⟩ (.bool t735)).setCell ⟨gb729, 2, none⟩ (.slice Ao23 t736.length co23)).setCell ⟨gb729, 3, none⟩ (.slice Ao24 t739.length co24)).setCell ⟨gb729, 4, none⟩ (.slice Ao25 t742.length co25)).setCell ⟨gb729, 5, none⟩ (.slice Ao26 t745.length co26)).setCell ⟨gb729, 6, none⟩ (.bool t748)).setCell ⟨gb729, 7, none⟩ (.bool t749)) w.heap.size (fun k_ => some k_ ≠ (.slice Ao26 t745.length co26 : Value).ownBlock ∧ k_ ≠ gb728 ∧ k_ ≠ gb729) (.slice Ao24 t739.length co24) t739) := ⟨by exact Kd.V_mono (Vf8 (g := gb729) (Kd.V_mono HO741.out (fun k_ hk => (⟨hk, hk.2.2⟩ : _ ∧ k_ ≠ gb729))) (fun _ hk => hk.2) (.bool t734) (.bool t735) (.slice Ao23 t736.length co23) (.slice Ao24 t739.length co24) (.slice Ao25 t742.length co25) (.slice Ao26 t745.length co26) (.bool t748) (.bool t749)) (fun _ hk => ⟨hk.1.1, ⟨hk.1.2.1, hk.1.2.2⟩⟩)⟩
     have n2_ : Aside0 (Kd.V Kd.string 9 ((((((((w21.setCell ⟨gb729, 0, none⟩ (.bool t734)).setCell ⟨gb729, 1, none⟩ (.bool t735)).setCell ⟨gb729, 2, none⟩ (.slice Ao23 t736.length co23)).setCell ⟨gb729, 3, none⟩ (.slice Ao24 t739.length co24)).setCell ⟨gb729, 4, none⟩ (.slice Ao25 t742.length co25)).setCell ⟨gb729, 5, none⟩ (.slice Ao26 t745.length co26)).setCell ⟨gb729, 6, none⟩ (.bool t748)).setCell ⟨gb729, 7, none⟩ (.bool t749)) w.heap.size (fun k_ => some k_ ≠ (.slice Ao26 t745.length co26 : Value).ownBlock ∧ k_ ≠ gb728 ∧ k_ ≠ gb729) (.slice Ao25 t742.length co25) t742) := ⟨by exact Kd.V_mono (Vf8 (g := gb729) (Kd.V_mono HO744.out (fun k_ hk => (⟨hk, hk.2.2⟩ : _ ∧ k_ ≠ gb729))) (fun _ hk => hk.2) (.bool t734) (.bool t735) (.slice Ao23 t736.length co23) (.slice Ao24 t739.length co24) (.slice Ao25 t742.length co25) (.slice Ao26 t745.length co26) (.bool t748) (.bool t749)) (fun _ hk => ⟨hk.1.1, ⟨hk.1.2.1, hk.1.2.2⟩⟩)⟩
     have n3_ : Aside0 (Kd.N k60 60 ((((((((w21.setCell ⟨gb729, 0, none⟩ (.bool t734)).setCell ⟨gb729, 1, none⟩ (.bool t735)).setCell ⟨gb729, 2, none⟩ (.slice Ao23 t736.length co23)).setCell ⟨gb729, 3, none⟩ (.slice Ao24 t739.length co24)).setCell ⟨gb729, 4, none⟩ (.slice Ao25 t742.length co25)).setCell ⟨gb729, 5, none⟩ (.slice Ao26 t745.length co26)).setCell ⟨gb729, 6, none⟩ (.bool t748)).setCell ⟨gb729, 7, none⟩ (.bool t749)) w.heap.size (fun k_ => k_ ≠ gb728 ∧ k_ ≠ gb729) (.slice Ao26 t745.length co26) t745) := ⟨by exact Kd.N_mono (Nf8 (g := gb729) (Kd.N_mono HO747.out (fun k_ hk => (⟨hk, hk.2⟩ : _ ∧ k_ ≠ gb729))) (fun _ hk => hk.2) (.bool t734) (.bool t735) (.slice Ao23 t736.length co23) (.slice Ao24 t739.length co24) (.slice Ao25 t742.length co25) (.slice Ao26 t745.length co26) (.bool t748) (.bool t749)) (fun _ hk => ⟨hk.1.1, hk.1.2⟩)⟩
     have n4_ : Aside0 (((((((((w21.setCell ⟨gb729, 0, none⟩ (.bool t734)).setCell ⟨gb729, 1, none⟩ (.bool t735)).setCell ⟨gb729, 2, none⟩ (.slice Ao23 t736.length co23)).setCell ⟨gb729, 3, none⟩ (.slice Ao24 t739.length co24)).setCell ⟨gb729, 4, none⟩ (.slice Ao25 t742.length co25)).setCell ⟨gb729, 5, none⟩ (.slice Ao26 t745.length co26)).setCell ⟨gb729, 6, none⟩ (.bool t748)).setCell ⟨gb729, 7, none⟩ (.bool t749)).heap[gb728]? = some (.cells #[.int .i64 a0_0, .int .i64 a0_1, .string a0_2, .string a0_3, .slice A0_4 y730.length c0_4] 38 (0, 0))) := ⟨by refine blk_far ?_ NB728_729.out _; refine blk_far ?_ NB728_729.out _; refine blk_far ?_ NB728_729.out _; refine blk_far ?_ NB728_729.out _; refine blk_far ?_ NB728_729.out _; refine blk_far ?_ NB728_729.out _; refine blk_far ?_ NB728_729.out _; refine blk_far ?_ NB728_729.out _; exact BK728.out⟩
     have n5_ : Aside0 (((((((((w21.setCell ⟨gb729, 0, none⟩ (.bool t734)).setCell ⟨gb729, 1, none⟩ (.bool t735)).setCell ⟨gb729, 2, none⟩ (.slice Ao23 t736.length co23)).setCell ⟨gb729, 3, none⟩ (.slice Ao24 t739.length co24)).setCell ⟨gb729, 4, none⟩ (.slice Ao25 t742.length co25)).setCell ⟨gb729, 5, none⟩ (.slice Ao26 t745.length co26)).setCell ⟨gb729, 6, none⟩ (.bool t748)).setCell ⟨gb729, 7, none⟩ (.bool t749)).heap[gb729]? = some (.cells #[.bool t734, .bool t735, .slice Ao23 t736.length co23, .slice Ao24 t739.length co24, .slice Ao25 t742.length co25, .slice Ao26 t745.length co26, .bool t748, .bool t749] 32 (0, 0))) := ⟨by refine blk_put (cs := #[.bool t734, .bool t735, .slice Ao23 t736.length co23, .slice Ao24 t739.length co24, .slice Ao25 t742.length co25, .slice Ao26 t745.length co26, .bool t748, .bool a1_7]) ?_ 7 _ rfl; refine blk_put (cs := #[.bool t734, .bool t735, .slice Ao23 t736.length co23, .slice Ao24 t739.length co24, .slice Ao25 t742.length co25, .slice Ao26 t745.length co26, .bool a1_6, .bool a1_7]) ?_ 6 _ rfl; refine blk_put (cs := #[.bool t734, .bool t735, .slice Ao23 t736.length co23, .slice Ao24 t739.length co24, .slice Ao25 t742.length co25, .slice A1_5 l1_5.length c1_5, .bool a1_6, .bool a1_7]) ?_ 5 _ rfl; refine blk_put (cs := #[.bool t734, .bool t735, .slice Ao23 t736.length co23, .slice Ao24 t739.length co24, .slice A1_4 l1_4.length c1_4, .slice A1_5 l1_5.length c1_5, .bool a1_6, .bool a1_7]) ?_ 4 _ rfl; refine blk_put (cs := #[.bool t734, .bool t735, .slice Ao23 t736.length co23, .slice A1_3 l1_3.length c1_3, .slice A1_4 l1_4.length c1_4, .slice A1_5 l1_5.length c1_5, .bool a1_6, .bool a1_7]) ?_ 3 _ rfl; refine blk_put (cs := #[.bool t734, .bool t735, .slice A1_2 l1_2.length c1_2, .slice A1_3 l1_3.length c1_3, .slice A1_4 l1_4.length c1_4, .slice A1_5 l1_5.length c1_5, .bool a1_6, .bool a1_7]) ?_ 2 _ rfl; refine blk_put (cs := #[.bool t734, .bool a1_1, .slice A1_2 l1_2.length c1_2, .slice A1_3 l1_3.length c1_3, .slice A1_4 l1_4.length c1_4, .slice A1_5 l1_5.length c1_5, .bool a1_6, .bool a1_7]) ?_ 1 _ rfl; refine blk_put (cs := #[.bool a1_0, .bool a1_1, .slice A1_2 l1_2.length c1_2, .slice A1_3 l1_3.length c1_3, .slice A1_4 l1_4.length c1_4, .slice A1_5 l1_5.length c1_5, .bool a1_6, .bool a1_7]) ?_ 0 _ rfl; exact BK729.out⟩
     have n6_ : Aside0 (Below w.heap.size w ((((((((w21.setCell ⟨gb729, 0, none⟩ (.bool t734)).setCell ⟨gb729, 1, none⟩ (.bool t735)).setCell ⟨gb729, 2, none⟩ (.slice Ao23 t736.length co23)).setCell ⟨gb729, 3, none⟩ (.slice Ao24 t739.length co24)).setCell ⟨gb729, 4, none⟩ (.slice Ao25 t742.length co25)).setCell ⟨gb729, 5, none⟩ (.slice Ao26 t745.length co26)).setCell ⟨gb729, 6, none⟩ (.bool t748)).setCell ⟨gb729, 7, none⟩ (.bool t749))) := ⟨zb2 HB GE728 GE729⟩
     (try clear HO738)
     (try clear HO741)
     (try clear HO744)
     (try clear HO747)
     (try clear BK728)
     (try clear BK729)
     (try clear HB)
     generalize ((((((((w21.setCell ⟨gb729, 0, none⟩ (.bool t734)).setCell ⟨gb729, 1, none⟩ (.bool t735)).setCell ⟨gb729, 2, none⟩ (.slice Ao23 t736.length co23)).setCell ⟨gb729, 3, none⟩ (.slice Ao24 t739.length co24)).setCell ⟨gb729, 4, none⟩ (.slice Ao25 t742.length co25)).setCell ⟨gb729, 5, none⟩ (.slice Ao26 t745.length co26)).setCell ⟨gb729, 6, none⟩ (.bool t748)).setCell ⟨gb729, 7, none⟩ (.bool t749)) = w27 at n0_ n1_ n2_ n3_ n4_ n5_ n6_ ⊢
     have HO738 := n0_
     have HO741 := n1_
     have HO744 := n2_
     have HO747 := n3_
     have BK728 := n4_
     have BK729 := n5_
     have HB := n6_
     clear n0_ n1_ n2_ n3_ n4_ n5_ n6_
     have n0_ := Aside0.mk (Kd.V_drew HO738.out)
     have n1_ := Aside0.mk (Kd.V_drew HO741.out)
     have n2_ := Aside0.mk (Kd.V_drew HO744.out)
     have n3_ := Aside0.mk (Kd.N_drew HO747.out)
     have n4_ := Aside0.mk (blk_drew BK728.out)
     have n5_ := Aside0.mk (blk_drew BK729.out)
     have n6_ := Aside0.mk (below_drew1 HB.out)
     clear HO738
     clear HO741
     clear HO744
     clear HO747
     clear BK728
     clear BK729
     clear HB
     have HO738 := n0_
     have HO741 := n1_
     have HO744 := n2_
     have HO747 := n3_
     have BK728 := n4_
     have BK729 := n5_
     have HB := n6_
     clear n0_ n1_ n2_ n3_ n4_ n5_ n6_
     refine start_ (n := 8) (S := fun w' => w'.cell? ⟨gb728, 0, none⟩ = some (.int .i64 a0_0) ∧ w'.cell? ⟨gb728, 1, none⟩ = some (.int .i64 a0_1) ∧ w'.cell? ⟨gb728, 2, none⟩ = some (.string a0_2) ∧ w'.cell? ⟨gb728, 3, none⟩ = some (.string a0_3) ∧ w'.cell? ⟨gb728, 4, none⟩ = some (.slice A0_4 y730.length c0_4) ∧ w'.cell? ⟨gb729, 0, none⟩ = some (.bool t734) ∧ w'.cell? ⟨gb729, 1, none⟩ = some (.bool t735) ∧ w'.cell? ⟨gb729, 2, none⟩ = some (.slice Ao23 t736.length co23) ∧ w'.cell? ⟨gb729, 3, none⟩ = some (.slice Ao24 t739.length co24) ∧ w'.cell? ⟨gb729, 4, none⟩ = some (.slice Ao25 t742.length co25) ∧ w'.cell? ⟨gb729, 5, none⟩ = some (.slice Ao26 t745.length co26) ∧ w'.cell? ⟨gb729, 6, none⟩ = some (.bool t748) ∧ w'.cell? ⟨gb729, 7, none⟩ = some (.bool t749)) (ds := []) (tf 0 8) (by kernel_rfl) rfl rfl ⟨(blk_cell BK728.out 0).trans rfl, (blk_cell BK728.out 1).trans rfl, (blk_cell BK728.out 2).trans rfl, (blk_cell BK728.out 3).trans rfl, (blk_cell BK728.out 4).trans rfl, (blk_cell BK729.out 0).trans rfl, (blk_cell BK729.out 1).trans rfl, (blk_cell BK729.out 2).trans rfl, (blk_cell BK729.out 3).trans rfl, (blk_cell BK729.out 4).trans rfl, (blk_cell BK729.out 5).trans rfl, (blk_cell BK729.out 6).trans rfl, (blk_cell BK729.out 7).trans rfl⟩ (fun hHeld => ?_); refine with_tabW boltinglaw13_CleanAttrs.tab3 boltinglaw13_CleanAttrs.bits3 (fun HT_ HW_ => ?_)
     generalize w27.drew = w28 at HO738 HO741 HO744 HO747 BK728 BK729 HB hHeld ⊢
     refine take_ (i := 0) (N := some 17) (v := ?_) (a' := ?_) (tf 1 7) rfl rfl (take_ofW HT_.out HW_.out (by kernel_rfl)) (fun _ _ _ h => h) (Or.inl ⟨by rfl, ?_⟩) hHeld ?_ ?_
     rotate_left
     ·rintro w' ⟨s0, s1, s2, s3, s4, s5, s6, s7, s8, s9, s10, s11, s12⟩
      go_simp
      with_reducible rfl
     rotate_left
     ·simp only [Act.put, List.setIfInBounds_toArray, List.set_cons_zero, List.set_cons_succ, i64_w, i32_w]
      rfl
     refine take_ (i := 1) (N := some 18) (v := ?_) (a' := ?_) (tf 2 6) rfl rfl (take_ofW HT_.out HW_.out (by kernel_rfl)) (fun _ _ _ h => h) (Or.inl ⟨by rfl, ?_⟩) hHeld ?_ ?_
     rotate_left
     ·rintro w' ⟨s0, s1, s2, s3, s4, s5, s6, s7, s8, s9, s10, s11, s12⟩
      go_simp
      with_reducible rfl
     rotate_left
     ·simp only [Act.put, List.setIfInBounds_toArray, List.set_cons_zero, List.set_cons_succ, i64_w, i32_w]
      rfl
     refine take_ (i := 3) (N := some 20) (v := ?_) (a' := ?_) #[true, true, false, true, false, false, false, false] rfl rfl (take_ofW HT_.out HW_.out (by kernel_rfl)) (fun _ _ _ h => h) (Or.inl ⟨by rfl, ?_⟩) hHeld ?_ ?_
     rotate_left
     ·rintro w' ⟨s0, s1, s2, s3, s4, s5, s6, s7, s8, s9, s10, s11, s12⟩
      go_simp
      with_reducible rfl
     rotate_left
     ·simp only [Act.put, List.setIfInBounds_toArray, List.set_cons_zero, List.set_cons_succ, i64_w, i32_w]
      rfl
     refine take_ (i := 4) (N := some 21) (v := ?_) (a' := ?_) #[true, true, false, true, true, false, false, false] rfl rfl (take_ofW HT_.out HW_.out (by kernel_rfl)) (fun _ _ _ h => h) (Or.inl ⟨by rfl, ?_⟩) hHeld ?_ ?_
     rotate_left
     ·rintro w' ⟨s0, s1, s2, s3, s4, s5, s6, s7, s8, s9, s10, s11, s12⟩
      go_simp
      with_reducible rfl
     rotate_left
     ·simp only [Act.put, List.setIfInBounds_toArray, List.set_cons_zero, List.set_cons_succ, i64_w, i32_w]
      rfl
     refine one_ (i := 2) (N := some 19) (tf 5 3) rfl rfl (one_of HT_.out (by kernel_rfl)) (by decide) (fun K hK => ?_)
     refine goes_ Tryz.func24 (by kernel_rfl) rfl #[.agg #[.int .i64 a0_0, .int .i64 a0_1, .string a0_2, .string a0_3, .slice A0_4 y730.length c0_4], .agg #[.bool t734, .bool t735, .slice Ao23 t736.length co23, .slice Ao24 t739.length co24, .slice Ao25 t742.length co25, .slice Ao26 t745.length co26, .bool t748, .bool t749], .bool false] (by rfl) rfl rfl zm ?_
     with_reducible refine (clean_Attrs.calls k a0_0 a0_1 a0_2 a0_3 _ _ y730 t734 t735 _ _ t736 _ _ t739 _ _ t742 _ _ t745 t748 t749 false t750 _ ?side1 ?side2 ?side3 ?side4 ?side5 ?side6 ?side7 ?side8 ?side9 ?side10 A7.out).mono ?_
     (case side1 => exact zc (Kd.C_below HR733.out HB.out))
     (case side2 => exact HC733.out)
     (case side3 => exact zc (Kd.V_reads' HO738.out).2.2)
     (case side4 => exact (Kd.V_reads' HO738.out).2.1)
     (case side5 => exact zc (Kd.V_reads' HO741.out).2.2)
     (case side6 => exact (Kd.V_reads' HO741.out).2.1)
     (case side7 => exact zc (Kd.V_reads' HO744.out).2.2)
     (case side8 => exact (Kd.V_reads' HO744.out).2.1)
     (case side9 => exact zc (Kd.N_reads' HO747.out).2.2)
     (case side10 => exact (Kd.N_reads' HO747.out).2.1)
     rintro e w29 ⟨v751, rfl, ho0, hb⟩
     refine ⟨_, rfl, ?_⟩
     have n0_ := Aside0.mk (Kd.V_elder' (by exact HO738.out) (Kd.R_base ho0) hb)
     have n1_ := Aside0.mk (Kd.V_elder' (by exact HO741.out) (Kd.R_base ho0) hb)
     have n2_ := Aside0.mk (Kd.V_elder' (by exact HO744.out) (Kd.R_base ho0) hb)
     have n3_ := Aside0.mk (Kd.N_elder' (by exact HO747.out) (Kd.R_base ho0) hb)
     have n4_ := Aside0.mk (Kd.R_lower ho0 (below_size (zb2 HB GE728 GE729)))
     have n5_ := Aside0.mk (blk_below (by exact BK728.out) hb)
     have n6_ := Aside0.mk (blk_below (by exact BK729.out) hb)
     have n7_ := Aside0.mk (below_step (zb2 HB GE728 GE729) hb)
     clear HO738
     clear HO741
     clear HO744
     clear HO747
     clear BK728
     clear BK729
     clear HB
     have HO738 := n0_
     have HO741 := n1_
     have HO744 := n2_
     have HO747 := n3_
     have HO752 := n4_
     have BK728 := n5_
     have BK729 := n6_
     have HB := n7_
     clear n0_ n1_ n2_ n3_ n4_ n5_ n6_ n7_
     (try clear hb)
     (try clear ho0)
     refine hK.out _ _ ⟨(blk_cell BK728.out 0).trans rfl, (blk_cell BK728.out 1).trans rfl, (blk_cell BK728.out 2).trans rfl, (blk_cell BK728.out 3).trans rfl, (blk_cell BK728.out 4).trans rfl, (blk_cell BK729.out 0).trans rfl, (blk_cell BK729.out 1).trans rfl, (blk_cell BK729.out 2).trans rfl, (blk_cell BK729.out 3).trans rfl, (blk_cell BK729.out 4).trans rfl, (blk_cell BK729.out 5).trans rfl, (blk_cell BK729.out 6).trans rfl, (blk_cell BK729.out 7).trans rfl⟩ (fun hHeld => ?_)
     clear hK K
     refine norm_ (a' := ?_) ?_ ?_
     rotate_left
     ·show Act.put _ (some 19) _ = _
      simp only [Act.put, List.setIfInBounds_toArray, List.set_cons_zero, List.set_cons_succ, i64_w, i32_w]
      rfl
     refine one_ (i := 5) (N := some 22) (tf 6 2) rfl rfl (one_of HT_.out (by kernel_rfl)) (by decide) (fun K hK => ?_)
     refine goes_ Tryz.func24 (by kernel_rfl) rfl #[.agg #[.int .i64 a0_0, .int .i64 a0_1, .string a0_2, .string a0_3, .slice A0_4 y730.length c0_4], .agg #[.bool t734, .bool t735, .slice Ao23 t736.length co23, .slice Ao24 t739.length co24, .slice Ao25 t742.length co25, .slice Ao26 t745.length co26, .bool t748, .bool t749], .bool true] (by rfl) rfl rfl zm ?_
     with_reducible refine (clean_Attrs.calls k a0_0 a0_1 a0_2 a0_3 _ _ y730 t734 t735 _ _ t736 _ _ t739 _ _ t742 _ _ t745 t748 t749 true t753 _ ?side1 ?side2 ?side3 ?side4 ?side5 ?side6 ?side7 ?side8 ?side9 ?side10 A8.out).mono ?_
     (case side1 => exact zc (Kd.C_below HR733.out HB.out))
     (case side2 => exact HC733.out)
     (case side3 => exact zc (Kd.V_reads' HO738.out).2.2)
     (case side4 => exact (Kd.V_reads' HO738.out).2.1)
     (case side5 => exact zc (Kd.V_reads' HO741.out).2.2)
     (case side6 => exact (Kd.V_reads' HO741.out).2.1)
     (case side7 => exact zc (Kd.V_reads' HO744.out).2.2)
     (case side8 => exact (Kd.V_reads' HO744.out).2.1)
     (case side9 => exact zc (Kd.N_reads' HO747.out).2.2)
     (case side10 => exact (Kd.N_reads' HO747.out).2.1)
     rintro e w30 ⟨v754, rfl, ho0, hb⟩
     refine ⟨_, rfl, ?_⟩
     have n4_ := Aside0.mk (Kd.R_elder' (by exact HO752.out) (Kd.R_base ho0) hb)
     have n5_ := Aside0.mk (Kd.R_lower (Kd.R_new' ho0 (Kd.R_lt (by exact HO752.out))) (below_size (zb2 HB GE728 GE729)))
     have n6_ := Aside0.mk (blk_below (by exact BK728.out) hb)
     have n7_ := Aside0.mk (blk_below (by exact BK729.out) hb)
     have n8_ := Aside0.mk (below_step (zb2 HB GE728 GE729) hb)
     clear HO738
     clear HO741
     clear HO744
     clear HO747
     clear HO752
     clear BK728
     clear BK729
     clear HB
     have HO752 := n4_
     have HO755 := n5_
     have BK728 := n6_
     have BK729 := n7_
     have HB := n8_
     clear n4_ n5_ n6_ n7_ n8_
     (try clear hb)
     (try clear ho0)
     refine hK.out _ _ ⟨(blk_cell BK728.out 0).trans rfl, (blk_cell BK728.out 1).trans rfl, (blk_cell BK728.out 2).trans rfl, (blk_cell BK728.out 3).trans rfl, (blk_cell BK728.out 4).trans rfl, (blk_cell BK729.out 0).trans rfl, (blk_cell BK729.out 1).trans rfl, (blk_cell BK729.out 2).trans rfl, (blk_cell BK729.out 3).trans rfl, (blk_cell BK729.out 4).trans rfl, (blk_cell BK729.out 5).trans rfl, (blk_cell BK729.out 6).trans rfl, (blk_cell BK729.out 7).trans rfl⟩ (fun hHeld => ?_)
     clear hK K
     refine norm_ (a' := ?_) ?_ ?_
     rotate_left
     ·show Act.put _ (some 22) _ = _
      simp only [Act.put, List.setIfInBounds_toArray, List.set_cons_zero, List.set_cons_succ, i64_w, i32_w]
      rfl
     refine pure_ (i := 6) (N := some 5) (v := ?_) (a' := ?_) (tf 7 1) rfl rfl (any_of HT_.out (by kernel_rfl)) (fun _ _ _ h => h) (Or.inl ⟨by rfl, ?_⟩) ?_ ?_
     rotate_left
     ·intro w'
      go_simp
      with_reducible rfl
     rotate_left
     ·simp only [Act.put, List.setIfInBounds_toArray, List.set_cons_zero, List.set_cons_succ, i64_w, i32_w]
      rfl
     refine pure_ (i := 7) (N := some 6) (v := ?_) (a' := ?_) (tf 8 0) rfl rfl (any_of HT_.out (by kernel_rfl)) (fun _ _ _ h => h) (Or.inl ⟨by rfl, ?_⟩) ?_ ?_
     rotate_left
     ·intro w'
      go_simp
      with_reducible rfl
     rotate_left
     ·simp only [Act.put, List.setIfInBounds_toArray, List.set_cons_zero, List.set_cons_succ, i64_w, i32_w]
      rfl
     refine done_ (done_of HT_.out (by kernel_rfl)) ?_
     obtain ⟨hcz31_0, hcz31_1, hcz31_2, hcz31_3, hcz31_4, hfz31_0, hfz31_1, hfz31_2, hfz31_3, hfz31_4⟩ := cz5 BK728.out
     obtain ⟨Ao32, co32, eo32⟩ := Kd.R_slice HO752.out
     subst eo32
     try go_wp2_with (first | ((with_reducible refine gate_callee (f := 27) rfl ?_); refine goesL_ (some 26) rfl rfl Tryz.func27 (by kernel_rfl) rfl #[.slice Ao32 t750.length co32, .slice A0_4 y730.length c0_4] rfl zm ?_; (with_reducible refine (boltinglaw13_among.calls k _ _ t750 _ _ y730 true _ ?side1 ?side2 ?side3 ?side4 A9.out).mono ?_); (case side1 => exact zc (Kd.R_reads' HO752.out).2.2); (case side2 => exact (Kd.R_reads' HO752.out).2.1); (case side3 => exact zc (Kd.C_below HR733.out HB.out)); (case side4 => exact HC733.out); rintro e w' ⟨rfl, ⟨nd, rfl⟩⟩; refine ⟨_, rfl, ?_⟩; obtain ⟨Ao33, co33, eo33⟩ := Kd.R_slice HO755.out; subst eo33) | (go_at_call 27; (with_reducible refine (boltinglaw13_among.calls k _ _ t753 _ _ t750 true _ ?side1 ?side2 ?side3 ?side4 A11.out).mono ?_); (case side1 => exact zc (Kd.R_reads' HO755.out).2.2); (case side2 => exact (Kd.R_reads' HO755.out).2.1); (case side3 => exact zc (Kd.R_reads' HO752.out).2.2); (case side4 => exact (Kd.R_reads' HO752.out).2.1); rintro e w' ⟨rfl, ⟨nd, rfl⟩⟩) | (go_at_call 12; (with_reducible refine (boltinglaw13_fixed.calls  t758 _ A13.out).mono ?_); rintro e w34 ⟨rfl, hb⟩; have n8_ := Aside0.mk (below_step (zb2 HB GE728 GE729) hb); clear HO752; clear HO755; clear BK728; clear BK729; clear HB; have HB := n8_; clear n8_; (try clear hb)))
     go_ret
     exact ⟨by first | rfl | (simp [errW_none, errW_some] <;> rfl) | (simp only [← hji3]; first | rfl | (simp [errW_none, errW_some] <;> rfl)) | (simp [*, errW_none, errW_some] <;> rfl), zb2 HB GE728 GE729⟩
    ·replace c12 := Bool.eq_false_iff.mpr c12
     subst c12
     replace H : (some false) = some r := by rw [if_neg (show ¬ (false = true) by decide)] at H; exact H
     exact absurd (Option.some.inj H) (by rw [hT.out]; decide)
   ·replace c10 := Bool.eq_false_iff.mpr c10
    subst c10
    replace H : (some false) = some r := by rw [if_neg (show ¬ (false = true) by decide)] at H; exact H
    exact absurd (Option.some.inj H) (by rw [hT.out]; decide)
  ·rw [if_neg c5] at H
   exact absurd H (by simp)
 ·rw [if_neg c4] at H
  exact absurd H (by simp)

end Go.Proofs.YticacakoefojbaaGreat.Pr
namespace Go.Proofs.YticacakoefojbaaGreat.Pr
abbrev Rw := S38
abbrev Atr := S45
end Go.Proofs.YticacakoefojbaaGreat.Pr
namespace Go.Proofs.YticacakoefojbaaGreat.Fo
set_option linter.unusedVariables false
set_option linter.unusedSimpArgs false
open Go.Proofs.YticacakoefojbaaGreat.Pr

inductive Fo where
  | nil
  | cons (x : Rw) (k r : Fo)
def Fo.app : Fo → Fo → Fo
  | .nil, G => G
  | .cons x k r, G => .cons x k (r.app G)
def Fo.size : Fo → Nat
  | .nil => 0
  | .cons _ k r => 1 + k.size + r.size
def Fo.height : Fo → Nat
  | .nil => 0
  | .cons _ k r => max (1 + k.height) r.height
theorem size_app : ∀ A B : Fo, (A.app B).size = A.size + B.size
  | .nil, B => by simp [Fo.app, Fo.size]
  | .cons x k r, B => by rw [Fo.app, Fo.size, Fo.size, size_app r]; omega
theorem height_app : ∀ A B : Fo, (A.app B).height = max A.height B.height
  | .nil, B => by simp [Fo.app, Fo.height]
  | .cons x k r, B => by rw [Fo.app, Fo.height, Fo.height, height_app r]; omega
def Fo.All (P : Rw → Prop) : Fo → Prop
  | .nil => True
  | .cons x k r => P x ∧ k.All P ∧ r.All P
theorem all_app {P : Rw → Prop} : ∀ {A B : Fo}, A.All P → B.All P → (A.app B).All P
  | .nil, B, _, h => h
  | .cons x k r, B, h, h2 => ⟨h.1, h.2.1, all_app h.2.2 h2⟩
def Fo.Leaf : Fo → Prop
  | .nil => True
  | .cons x k r => (x.f1 ≠ 0 → k = .nil) ∧ k.Leaf ∧ r.Leaf
theorem leaf_app : ∀ {A B : Fo}, A.Leaf → B.Leaf → (A.app B).Leaf
  | .nil, B, _, h => h
  | .cons x k r, B, h, h2 => ⟨h.1, h.2.1, leaf_app h.2.2 h2⟩

def flat : Int → Fo → List Rw
  | _, .nil => []
  | d, .cons x k r => { x with f0 := d } :: (flat (d + 1) k ++ flat d r)
theorem flat_app : ∀ (A B : Fo) (d : Int), flat d (A.app B) = flat d A ++ flat d B
  | .nil, B, d => rfl
  | .cons x k r, B, d => by rw [Fo.app, flat, flat, flat_app r]; simp
def RightL (ok : Rw → Prop) : Int → List Rw → Prop
  | _, [] => True
  | m, x :: t => 0 ≤ x.f0 ∧ x.f0 ≤ m ∧ ok x ∧ RightL ok (if x.f1 = 0 then x.f0 + 1 else x.f0) t
def keepF (what : Rw → Int) (upd : Rw → Rw) : Fo → Fo
  | .nil => .nil
  | .cons x k r => if what x = 1 then keepF what upd r else if what x = 2 then (keepF what upd k).app (keepF what upd r) else .cons (upd x) (keepF what upd k) (keepF what upd r)
theorem keep_size (what : Rw → Int) (upd : Rw → Rw) : ∀ F : Fo, (keepF what upd F).size ≤ F.size
  | .nil => Nat.le_refl _
  | .cons x k r => by
    have h1 := keep_size what upd k
    have h2 := keep_size what upd r
    rw [keepF, Fo.size]
    split
    · omega
    · split
      · rw [size_app]; omega
      · rw [Fo.size]; omega
theorem keep_height (what : Rw → Int) (upd : Rw → Rw) : ∀ F : Fo, (keepF what upd F).height ≤ F.height
  | .nil => Nat.le_refl _
  | .cons x k r => by
    have h1 := keep_height what upd k
    have h2 := keep_height what upd r
    rw [keepF, Fo.height]
    split
    · omega
    · split
      · rw [height_app]; omega
      · rw [Fo.height]; omega
theorem keep_all {what : Rw → Int} {upd : Rw → Rw} {P Q : Rw → Prop} (h : ∀ x, P x → what x ≠ 1 → what x ≠ 2 → Q (upd x)) : ∀ {F : Fo}, F.All P → (keepF what upd F).All Q
  | .nil, _ => trivial
  | .cons x k r, hA => by
    rw [keepF]
    split
    · exact keep_all h hA.2.2
    · split
      · exact all_app (keep_all h hA.2.1) (keep_all h hA.2.2)
      · exact ⟨h x hA.1 (by assumption) (by assumption), keep_all h hA.2.1, keep_all h hA.2.2⟩
theorem keep_leaf {what : Rw → Int} {upd : Rw → Rw} (h : ∀ x, (upd x).f1 = x.f1) : ∀ {F : Fo}, F.Leaf → (keepF what upd F).Leaf
  | .nil, _ => trivial
  | .cons x k r, hL => by
    rw [keepF]
    split
    · exact keep_leaf h hL.2.2
    · split
      · exact leaf_app (keep_leaf h hL.2.1) (keep_leaf h hL.2.2)
      · exact ⟨fun g => by rw [hL.1 (by rw [← h x]; exact g)]; rfl, keep_leaf h hL.2.1, keep_leaf h hL.2.2⟩
def pre (x : Rw) (k F : Fo) : Fo :=
  if x.f1 = 1 then
    if x.f3.size = 0 then F else
    match F with
    | .nil => .cons x k .nil
    | .cons y ky r => if y.f1 = 1 then .cons { x with f3 := x.f3 ++ y.f3 } k r else .cons x k F
  else .cons x k F
def normF : Fo → Fo
  | .nil => .nil
  | .cons x k r => pre x (normF k) (normF r)
def preL (x : Rw) (l : List Rw) : List Rw :=
  if x.f1 = 1 then
    if x.f3.size = 0 then l else
    match l with
    | [] => [x]
    | y :: t => if y.f1 = 1 ∧ y.f0 = x.f0 then { x with f3 := x.f3 ++ y.f3 } :: t else x :: l
  else x :: l
def normL : List Rw → List Rw
  | [] => []
  | x :: t => preL x (normL t)
def foldpre : Fo → Fo → Fo
  | .nil, G => G
  | .cons x k r, G => pre x (normF k) (foldpre r G)
def TextStays (what : Rw → Int) (upd : Rw → Rw) : Prop := ∀ x : Rw, x.f1 = 1 → what x ≠ 1 ∧ what x ≠ 2 ∧ upd x = x
def tx (x : Rw) : List UInt8 := if x.f1 = 1 then x.f3.data.toList else []
def textF : Fo → List UInt8
  | .nil => []
  | .cons x k r => tx x ++ (textF k ++ textF r)
def textL : List Rw → List UInt8
  | [] => []
  | x :: t => tx x ++ textL t
def wt (x : Rw) : Nat := if x.f1 = 1 then 0 else 1 + x.f4.length
def wF : Fo → Nat
  | .nil => 0
  | .cons x k r => wt x + wF k + wF r
def wL : List Rw → Nat
  | [] => 0
  | x :: t => wt x + wL t
end Go.Proofs.YticacakoefojbaaGreat.Fo
namespace Go.Proofs.YticacakoefojbaaGreat.Pr
open Go.RowKit Go.Proofs.YticacakoefojbaaGreatW.PrintWords Go.Proofs.YticacakoefojbaaGreatW.PrintLast Go.Proofs.YticacakoefojbaaGreatW.PrintMore
attribute [local go_sem] max2_int min2_int max_two min_two max_three min_three max_four min_four   -- for this text's walks alone
set_option linter.unusedVariables false
set_option linter.unusedSimpArgs false

def boltingref04_Big.l0 : Nat → List (S38) → Int → Option (Bool)
 | 0, _, _ => none
 | k + 1, x0, x3 => if x3 < (x0.length : Int) then (if 0 ≤ x3 then (if ((rd_T38 x0 x3).f0) ≥ 60 then (some true) else (boltingref04_Big.l0 k x0 (wrap64 (x3 + 1)))) else (none)) else (some (decide ((x0.length : Int) > 4096)))
def boltingref04_Big.f (k : Nat) (l0 : List (S38)) : Option (Bool) := boltingref04_Big.l0 k l0 0
mutual
def boltingref04_Row.j0 : Nat → Bool → Int → Int → ByteArray → ByteArray → List (S45) → Option (Bool)
 | 0, _, _, _, _, _, _ => none
 | k + 1, x12, x309000, x309001, x309002, x309003, x309004 => if x12 = true then (if x309002.toList = ([] : List UInt8) then (some ((x309004.length : Int) == 0)) else (some false)) else (boltingref04_Row.l0 k 0 x309000 x309001 x309002 x309003 x309004)
def boltingref04_Row.l0 : Nat → Int → Int → Int → ByteArray → ByteArray → List (S45) → Option (Bool)
 | 0, _, _, _, _, _, _ => none
 | k + 1, x3, x309000, x309001, x309002, x309003, x309004 => if x3 < (x309004.length : Int) then (boltingref04_Row.l1 k x3 0 x309000 x309001 x309002 x309003 x309004) else (if x309001 = 0 then (if x309002.toList = ([] : List UInt8) then (some false) else (some (x309003.toList == ([] : List UInt8)))) else (some false))
def boltingref04_Row.l1 : Nat → Int → Int → Int → Int → ByteArray → ByteArray → List (S45) → Option (Bool)
 | 0, _, _, _, _, _, _, _ => none
 | k + 1, x3, x4, x309000, x309001, x309002, x309003, x309004 => if x4 < x3 then (if 0 ≤ x3 then (if x3 < (x309004.length : Int) then (if 0 ≤ x4 then (if x4 < (x309004.length : Int) then (if ((rd_T45 x309004 x3).f0).toList = ((rd_T45 x309004 x4).f0).toList then (some false) else (boltingref04_Row.l1 k x3 (wrap64 (x4 + 1)) x309000 x309001 x309002 x309003 x309004)) else (none)) else (none)) else (none)) else (none)) else (boltingref04_Row.l0 k (wrap64 (x3 + 1)) x309000 x309001 x309002 x309003 x309004)
end
def boltingref04_Row.f (k : Nat) (a0_0 : Int) (a0_1 : Int) (a0_2 : ByteArray) (a0_3 : ByteArray) (l0_4 : List (S45)) : Option (Bool) := if a0_1 = 1 then (boltingref04_Row.j0 k true a0_0 a0_1 a0_2 a0_3 l0_4) else (boltingref04_Row.j0 k (a0_1 == 2) a0_0 a0_1 a0_2 a0_3 l0_4)
end Go.Proofs.YticacakoefojbaaGreat.Pr
namespace Go.Proofs.YticacakoefojbaaGreat.Pr
open Go.RowKit Go.Proofs.YticacakoefojbaaGreatW.PrintWords Go.Proofs.YticacakoefojbaaGreatW.PrintLast Go.Proofs.YticacakoefojbaaGreatW.PrintMore
attribute [local go_sem] max2_int min2_int max_two min_two max_three min_three max_four min_four   -- for this text's walks alone
set_option linter.unusedVariables false
set_option linter.unusedSimpArgs false

mutual
def boltingref04_Right.l0 : Nat → List (S38) → Int → Option (Bool)
 | 0, _, _ => none
 | k + 1, x0, x3 => if x3 < (x0.length : Int) then (if 0 ≤ x3 then ((boltingref04_Row.f k ((rd_T38 x0 x3).f0) ((rd_T38 x0 x3).f1) ((rd_T38 x0 x3).f2) ((rd_T38 x0 x3).f3) ((rd_T38 x0 x3).f4)).bind fun t313 => (if t313 = true then (if ((rd_T38 x0 x3).f0) < 0 then (boltingref04_Right.j1 k x0 x3 ((rd_T38 x0 x3).f0) true) else (if x3 = 0 then (boltingref04_Right.j1 k x0 x3 ((rd_T38 x0 x3).f0) (((rd_T38 x0 x3).f0) != 0)) else (boltingref04_Right.j1 k x0 x3 ((rd_T38 x0 x3).f0) false))) else (boltingref04_Right.j1 k x0 x3 ((rd_T38 x0 x3).f0) true))) else (none)) else (some true)
def boltingref04_Right.j1 : Nat → List (S38) → Int → Int → Bool → Option (Bool)
 | 0, _, _, _, _ => none
 | k + 1, x0, x3, x4, x33 => if x33 = true then (some false) else (if x3 > 0 then (if 0 ≤ (wrap64 (x3 - 1)) then (if (wrap64 (x3 - 1)) < (x0.length : Int) then (if x4 > (wrap64 (((rd_T38 x0 (wrap64 (x3 - 1))).f0) + 1)) then (some false) else (if x4 = (wrap64 (((rd_T38 x0 (wrap64 (x3 - 1))).f0) + 1)) then (if ((rd_T38 x0 (wrap64 (x3 - 1))).f1) = 0 then (boltingref04_Right.l0 k x0 (wrap64 (x3 + 1))) else (some false)) else (boltingref04_Right.l0 k x0 (wrap64 (x3 + 1))))) else (none)) else (none)) else (boltingref04_Right.l0 k x0 (wrap64 (x3 + 1))))
end
def boltingref04_Right.f (k : Nat) (l0 : List (S38)) : Option (Bool) := boltingref04_Right.l0 k l0 0
def boltingref04_Check.f (k : Nat) (l0 : List (S38)) : Option (Int) := (boltingref04_Big.f k l0).bind fun t317 => (if t317 = true then (some 2) else ((boltingref04_Right.f k l0).bind fun t318 => (if t318 = true then (some 0) else (some 40))))
def boltingref04_Moved.l0 : Nat → List (S38) → Int → List (S38) → Int → Option ((List (S38)))
 | 0, _, _, _, _ => none
 | k + 1, x0, x1, x5, x6 => if x6 < (x0.length : Int) then (if 0 ≤ x6 then ((some (([] : List (S45)) : List (S45))).bind fun y324 => (if y324.length + ((rd_T38 x0 x6).f4).length < 4398046511104 then (if x5.length < 1954687338268 then (boltingref04_Moved.l0 k x0 x1 (x5 ++ [(⟨wrap64 (((rd_T38 x0 x6).f0) + x1), (rd_T38 x0 x6).f1, (rd_T38 x0 x6).f2, (rd_T38 x0 x6).f3, (y324 ++ ((rd_T38 x0 x6).f4))⟩ : S38)]) (wrap64 (x6 + 1))) else (none)) else (none))) else (none)) else (some x5)
def boltingref04_Moved.f (k : Nat) (l0 : List (S38)) (a1 : Int) : Option ((List (S38))) := boltingref04_Moved.l0 k l0 a1 (([] : List (S38))) 0
end Go.Proofs.YticacakoefojbaaGreat.Pr
namespace Go.Proofs.YticacakoefojbaaGreat.Pr
open Go.RowKit Go.Proofs.YticacakoefojbaaGreatW.PrintWords Go.Proofs.YticacakoefojbaaGreatW.PrintLast Go.Proofs.YticacakoefojbaaGreatW.PrintMore
attribute [local go_sem] max2_int min2_int max_two min_two max_three min_three max_four min_four   -- for this text's walks alone
set_option linter.unusedVariables false
set_option linter.unusedSimpArgs false

def boltingref04_Normal.l0 : Nat → List (S38) → List (S38) → Int → Option ((List (S38)))
 | 0, _, _, _ => none
 | k + 1, x0, x3, x4 => if x4 < (x0.length : Int) then (if 0 ≤ x4 then (if x4 ≤ (wrap64 (x4 + 1)) then (if (wrap64 (x4 + 1)) ≤ (x0.length : Int) then ((boltingref04_Moved.f k ((x0.take ((wrap64 (x4 + 1)) : Int).toNat).drop (x4 : Int).toNat) 0).bind fun t340 => (if ((rd_T38 x0 x4).f1) = 1 then (if ((rd_T38 x0 x4).f3).toList = ([] : List UInt8) then (boltingref04_Normal.l0 k x0 x3 (wrap64 (x4 + 1))) else (if (x3.length : Int) > 0 then (if 0 ≤ (wrap64 ((x3.length : Int) - 1)) then (if (wrap64 ((x3.length : Int) - 1)) < (x3.length : Int) then (if ((rd_T38 x3 (wrap64 ((x3.length : Int) - 1))).f1) = 1 then (if ((rd_T38 x3 (wrap64 ((x3.length : Int) - 1))).f0) = ((rd_T38 x0 x4).f0) then (if ((rd_T38 x3 (wrap64 ((x3.length : Int) - 1))).f3).size + ((rd_T38 x0 x4).f3).size ≤ 9223372036854775807 then (boltingref04_Normal.l0 k x0 (x3.set ((wrap64 ((x3.length : Int) - 1)) : Int).toNat (⟨(rd_T38 x3 (wrap64 ((x3.length : Int) - 1))).f0, (rd_T38 x3 (wrap64 ((x3.length : Int) - 1))).f1, (rd_T38 x3 (wrap64 ((x3.length : Int) - 1))).f2, ((rd_T38 x3 (wrap64 ((x3.length : Int) - 1))).f3) ++ ((rd_T38 x0 x4).f3), (rd_T38 x3 (wrap64 ((x3.length : Int) - 1))).f4⟩ : S38)) (wrap64 (x4 + 1))) else (none)) else (if x3.length + t340.length < 1954687338268 then (boltingref04_Normal.l0 k x0 (x3 ++ t340) (wrap64 (x4 + 1))) else (none))) else (if x3.length + t340.length < 1954687338268 then (boltingref04_Normal.l0 k x0 (x3 ++ t340) (wrap64 (x4 + 1))) else (none))) else (none)) else (none)) else (if x3.length + t340.length < 1954687338268 then (boltingref04_Normal.l0 k x0 (x3 ++ t340) (wrap64 (x4 + 1))) else (none)))) else (if x3.length + t340.length < 1954687338268 then (boltingref04_Normal.l0 k x0 (x3 ++ t340) (wrap64 (x4 + 1))) else (none)))) else (none)) else (none)) else (none)) else (some x3)
def boltingref04_Normal.f (k : Nat) (l0 : List (S38)) : Option ((List (S38))) := boltingref04_Normal.l0 k l0 (([] : List (S38))) 0
def boltingref04_Normal.T8 : Bool × List (List Nat × List Nat) := (true, [([], []), ([], []), ([0, 1], [0, 1]), ([2], [2]), ([3], [3]), ([4], [4]), ([5], [5]), ([6], [6]), ([7, 6], [6, 7]), ([6, 8], [6, 8]), ([9, 6], [9]), ([10], [10]), ([10], [10]), ([12, 10], [10, 12]), ([11, 13, 10], [10, 11, 13]), ([14, 10], [10, 14]), ([15, 10], [10, 15]), ([16, 10], [10, 16]), ([10, 17], [10, 17]), ([18, 10], [18]), ([19], [19]), ([19], [19]), ([21, 19], [19, 21]), ([20, 22, 19], [19, 20, 22]), ([23, 19], [19, 23]), ([24, 19], [19, 24]), ([19], [19]), ([19], [19]), ([26, 27, 19], [19, 26, 27]), ([28, 19], [19, 28]), ([29, 19], [19, 29]), ([25, 30, 19], [19, 25, 30]), ([19, 31], [19, 31])])
def boltingref04_Normal.B8 : List Nat := [0, 0, 3, 7, 15, 31, 63, 127, 255, 511, 1023, 2047, 2047, 6143, 16383, 32767, 65535, 131071, 262143, 524287, 1048575, 1048575, 3145727, 8388607, 16777215, 33554431, 1048575, 1048575, 202375167, 470810623, 1007681535, 2147483647, 4294967295]
def boltingref04_Normal.T10 : Bool × List (List Nat × List Nat) := (true, [([], []), ([0], [0]), ([], []), ([], []), ([2, 3], [2, 3]), ([4], [4]), ([5], [5]), ([1, 6], [1, 6]), ([0, 1, 2, 3, 4, 5, 6, 7], []), ([8, 7, 0, 1, 2, 3, 4, 5, 6, 7], [7, 8])])
def boltingref04_Normal.B10 : List Nat := [0, 1, 0, 0, 12, 28, 60, 127, 255, 511]
end Go.Proofs.YticacakoefojbaaGreat.Pr
namespace Go.Proofs.YticacakoefojbaaGreat.Pure
set_option linter.unusedVariables false
set_option linter.unusedSimpArgs false
open Go.RowKit Go.Proofs.YticacakoefojbaaGreat.Pr Go.Proofs.YticacakoefojbaaGreat.Fo Go.Proofs.YticacakoefojbaaGreatW.PrintWords Go.Proofs.YticacakoefojbaaGreatW.PrintLast Go.Proofs.YticacakoefojbaaGreatW.PrintMore

theorem rdA_at {l : List Atr} {i : Nat} {x : Atr} (h : l[i]? = some x) : rd_T45 l (i : Int) = x := by
  unfold rd_T45
  rw [Int.toNat_natCast, List.getD_eq_getElem?_getD, h]
  rfl
def Okx (x : Rw) : Prop := wrap64 x.f0 = x.f0 ∧ x.f4.length ≤ 50
def tsz : List Rw → Nat
  | [] => 0
  | x :: t => x.f3.size + tsz t
theorem tsz_app : ∀ a b : List Rw, tsz (a ++ b) = tsz a + tsz b
  | [], b => by simp [tsz]
  | x :: t, b => by rw [List.cons_append, tsz, tsz, tsz_app t]; omega
def jz (z : Rw) : List Rw → List Rw
  | [] => [z]
  | y :: t => if z.f1 = 1 ∧ y.f1 = 1 ∧ z.f0 = y.f0 then { z with f3 := z.f3 ++ y.f3 } :: t else z :: y :: t
def joinL (out L : List Rw) : List Rw := match out.getLast? with
  | none => L
  | some z => out.dropLast ++ jz z L
def nstep (out : List Rw) (x : Rw) : List Rw :=
  if x.f1 = 1 ∧ x.f3.size = 0 then out else match out.getLast? with
    | none => [x]
    | some z => if z.f1 = 1 ∧ x.f1 = 1 ∧ z.f0 = x.f0 then out.dropLast ++ [{ z with f3 := z.f3 ++ x.f3 }] else out ++ [x]
end Go.Proofs.YticacakoefojbaaGreat.Pure
namespace Go.Proofs.YticacakoefojbaaGreat.Pure
set_option linter.unusedVariables false
set_option linter.unusedSimpArgs false
open Go.RowKit Go.Proofs.YticacakoefojbaaGreat.Pr Go.Proofs.YticacakoefojbaaGreat.Fo Go.Proofs.YticacakoefojbaaGreatW.PrintWords Go.Proofs.YticacakoefojbaaGreatW.PrintLast Go.Proofs.YticacakoefojbaaGreatW.PrintMore

def uniq : List Atr → List Atr → Bool
  | _, [] => true
  | seen, a :: t => seen.all (fun b => !decide (a.f0 = b.f0)) && uniq (seen ++ [a]) t
def empB (s : ByteArray) : Bool := decide (s.size = 0)
def rowB (x : Rw) : Bool := if x.f1 = 1 ∨ x.f1 = 2 then empB x.f2 && decide (x.f4.length = 0) else decide (x.f1 = 0) && !empB x.f2 && empB x.f3 && uniq [] x.f4
theorem rowB_el {x : Rw} (h : ¬ (x.f1 = 1 ∨ x.f1 = 2)) : rowB x = (decide (x.f1 = 0) && !empB x.f2 && empB x.f3 && uniq [] x.f4) := by unfold rowB; rw [if_neg h]
def rightB : Int → List Rw → Bool
  | _, [] => true
  | m, x :: t => decide (0 ≤ x.f0) && decide (x.f0 ≤ m) && rowB x && rightB (if x.f1 = 0 then x.f0 + 1 else x.f0) t
def mostAt (l : List Rw) (i : Nat) : Int := if i = 0 then 0 else match l[i - 1]? with
  | none => 0
  | some p => if p.f1 = 0 then p.f0 + 1 else p.f0
def checkR (l : List Rw) : Int := if l.any deepB = true then 2 else if rightB 0 l = true then 0 else 40
end Go.Proofs.YticacakoefojbaaGreat.Pure
namespace Go.Proofs.YticacakoefojbaaGreat.Pure
set_option linter.unusedVariables false
set_option linter.unusedSimpArgs false
open Go.RowKit Go.Proofs.YticacakoefojbaaGreat.Pr Go.Proofs.YticacakoefojbaaGreat.Fo Go.Proofs.YticacakoefojbaaGreatW.PrintWords Go.Proofs.YticacakoefojbaaGreatW.PrintLast Go.Proofs.YticacakoefojbaaGreatW.PrintMore

def neverB (n : ByteArray) : Bool := (risk_Element.f n).getD false
def riskB (e n v : ByteArray) : Bool := (risk_Attr.f e n v).getD false
theorem risk_f (e n v : ByteArray) (hv : v.size ≤ 140737488351232) : risk_Attr.f e n v = some (riskB e n v) := by
  unfold riskB
  cases h : risk_Attr.f e n v with
  | some b => rfl
  | none =>
    unfold risk_Attr.f risk_Sink.f risk_Nav.f link_Script.f link_Scheme.f at h
    rw [bnd_of _ hv] at h
    simp only [Option.bind_some] at h
    repeat' split at h
    all_goals cases h

def keepA (c : Cf) (s : Bool) (n : ByteArray) (l : List Atr) : List Atr := l.filter fun a => attrB c n a.f0 && !(s && riskB n a.f0 a.f1)
def VS (l : List Atr) : Prop := ∀ a ∈ l, a.f1.size ≤ 140737488351232
theorem conf_attr_f {c : Cf} (hf : Fit c) (e a : ByteArray) : config_Attr.f c.al c.aal c.els c.rep c.ats c.per c.com c.dt e a = some (attrB c e a) := by
  unfold config_Attr.f
  rw [if_pos (of_fit hf)]
theorem attrs_l0 {c : Cf} (hf : Fit c) (s : Bool) (L : List Atr) (hL : L.length ≤ 50) (hv : VS L) (d0 d1 : Int) (n d3 : ByteArray) (M : List Atr) : ∀ (d i : Nat) (acc : List Atr), i + d = L.length → acc.length ≤ i → ∀ k, d < k →
    clean_Attrs.l0 k s acc L (L.length : Int) (i : Int) d0 d1 n d3 M c.al c.aal c.els c.rep c.ats c.per c.com c.dt = some (acc ++ keepA c s n (L.drop i))
  | 0, i, acc, h, ha, k, hk => by
    obtain ⟨k, rfl⟩ : ∃ q, k = q + 1 := ⟨k - 1, by omega⟩
    simp only [clean_Attrs.l0]
    rw [if_neg (by omega), List.drop_of_length_le (by omega)]; simp [keepA]
  | d + 1, i, acc, h, ha, k, hk => by
    obtain ⟨k, rfl⟩ : ∃ q, k = q + 1 := ⟨k - 1, by omega⟩
    obtain ⟨a, h0⟩ := get_some (l := L) (show i < L.length by omega)
    have hva := hv a (List.mem_of_getElem? h0)
    have e1 := attrs_l0 hf s L hL hv d0 d1 n d3 M d (i + 1) acc (by omega) (by omega) k (by omega)
    have e2 := attrs_l0 hf s L hL hv d0 d1 n d3 M d (i + 1) (acc ++ [a]) (by omega) (by simp; omega) k (by omega)
    rw [show ((i + 1 : Nat) : Int) = (i : Int) + 1 from rfl] at e1 e2
    rw [List.append_assoc] at e2
    simp only [clean_Attrs.l0]
    rw [if_pos (by omega), if_pos (by omega), if_pos (by omega), rdA_at h0, conf_attr_f hf, Option.bind_some, risk_f _ _ _ hva, wrap_succ (by omega) (by omega), drop_at h0]
    have hk1 : keepA c s n (a :: L.drop (i + 1)) = if (attrB c n a.f0 && !(s && riskB n a.f0 a.f1)) = true then a :: keepA c s n (L.drop (i + 1)) else keepA c s n (L.drop (i + 1)) := by
      unfold keepA
      rw [List.filter_cons]
    rw [hk1]
    cases attrB c n a.f0 with
    | false => rw [if_neg (by simp), if_neg (by simp)]; exact e1
    | true =>
      rw [if_pos rfl]
      cases s with
      | false => rw [if_neg (by simp), if_pos (by omega), if_pos (by simp)]; exact e2
      | true =>
        rw [if_pos rfl, Option.bind_some]
        cases riskB n a.f0 a.f1 with
        | false => rw [if_neg (by simp), if_pos (by omega), if_pos (by simp)]; exact e2
        | true => rw [if_pos rfl, if_neg (by simp)]; exact e1
theorem attrs_f {c : Cf} (hf : Fit c) (s : Bool) (d0 d1 : Int) (n d3 : ByteArray) (L : List Atr) (hL : L.length ≤ 50) (hv : VS L) {k : Nat} (hk : 60 < k) :
    clean_Attrs.f k d0 d1 n d3 L c.al c.aal c.els c.rep c.ats c.per c.com c.dt s = some (keepA c s n L) := by
  have := attrs_l0 hf s L hL hv d0 d1 n d3 L L.length 0 [] (by omega) (by simp) k (by omega)
  rw [List.drop_zero, List.nil_append] at this
  exact this
def whatC (c : Cf) (s : Bool) (x : Rw) : Int := if x.f1 = 1 then 0 else if x.f1 = 2 then (if c.com = true then 0 else 1) else if (s && neverB x.f2) = true then 1 else elemI c x.f2
def updC (c : Cf) (s : Bool) (x : Rw) : Rw := if x.f1 = 0 then { x with f4 := keepA c s x.f2 x.f4 } else x
structure Fine (x : Rw) : Prop where
  ok : rowB x = true
  few : x.f4.length ≤ 50
  small : VS x.f4
def up (less : List Int) (d : Nat) : Int := if d = 0 then 0 else less.getD (d - 1) 0
def Low (less : List Int) : Prop := ∀ (j : Nat) (u : Int), less[j]? = some u → 0 ≤ u ∧ u ≤ j + 1
theorem Low.up {less : List Int} (h : Low less) {d : Nat} (hd : d ≤ less.length) : 0 ≤ up less d ∧ up less d ≤ d := by
  unfold Pure.up
  split
  · omega
  · obtain ⟨u, hu⟩ := get_some (l := less) (show d - 1 < less.length by omega)
    rw [List.getD_eq_getElem?_getD, hu]
    have := h _ _ hu
    show 0 ≤ u ∧ u ≤ d
    omega
end Go.Proofs.YticacakoefojbaaGreat.Pure
namespace Go.Proofs.YticacakoefojbaaGreat.Pr
open Go.RowKit Go.Proofs.YticacakoefojbaaGreatW.PrintWords Go.Proofs.YticacakoefojbaaGreatW.PrintLast Go.Proofs.YticacakoefojbaaGreatW.PrintMore
attribute [local go_sem] max2_int min2_int max_two min_two max_three min_three max_four min_four   -- for this text's walks alone
set_option linter.unusedVariables false
set_option linter.unusedSimpArgs false

mutual
def risk_Safe.l0 : Nat → List (S38) → Int → Int → Option (Bool)
 | 0, _, _, _ => none
 | k + 1, x7, x8, x9 => if x9 < x8 then (if 0 ≤ x9 then (if x9 < (x7.length : Int) then (if ((rd_T38 x7 x9).f1) = 0 then ((risk_Element.f ((rd_T38 x7 x9).f2)).bind fun t470 => (if t470 = true then (some false) else (risk_Safe.l1 k x7 x8 x9 ((rd_T38 x7 x9).f4) (((rd_T38 x7 x9).f4).length : Int) 0 ((rd_T38 x7 x9).f0) ((rd_T38 x7 x9).f1) ((rd_T38 x7 x9).f2) ((rd_T38 x7 x9).f3) ((rd_T38 x7 x9).f4)))) else (risk_Safe.l0 k x7 x8 (wrap64 (x9 + 1)))) else (none)) else (none)) else (some true)
def risk_Safe.l1 : Nat → List (S38) → Int → Int → List (S45) → Int → Int → Int → Int → ByteArray → ByteArray → List (S45) → Option (Bool)
 | 0, _, _, _, _, _, _, _, _, _, _, _ => none
 | k + 1, x7, x8, x9, x20, x21, x22, x470000, x470001, x470002, x470003, x470004 => if x22 < x21 then (if 0 ≤ x22 then (if x22 < (x20.length : Int) then ((risk_Attr.f x470002 ((rd_T45 x20 x22).f0) ((rd_T45 x20 x22).f1)).bind fun t473 => (if t473 = true then (some false) else (risk_Safe.l1 k x7 x8 x9 x20 x21 (wrap64 (x22 + 1)) x470000 x470001 x470002 x470003 x470004))) else (none)) else (none)) else (risk_Safe.l0 k x7 x8 (wrap64 (x9 + 1)))
end
def risk_Safe.f (k : Nat) (l0 : List (S38)) : Option (Bool) := risk_Safe.l0 k l0 (l0.length : Int) 0
mutual
def boltingref04_Text.j0 : Nat → List (S38) → Int → ByteArray → Int → Int → Option (ByteArray)
 | 0, _, _, _, _, _ => none
 | k + 1, x0, x1, x5, x6, x7 => boltingref04_Text.l0 k x0 x1 x5 x7 x6
def boltingref04_Text.l0 : Nat → List (S38) → Int → ByteArray → Int → Int → Option (ByteArray)
 | 0, _, _, _, _, _ => none
 | k + 1, x0, x1, x5, x7, x8 => if x8 < x7 then (boltingref04_Text.j2 k x0 x1 x5 x7 x8 (decide (x1 ≥ (-1)))) else (boltingref04_Text.j2 k x0 x1 x5 x7 x8 false)
def boltingref04_Text.j2 : Nat → List (S38) → Int → ByteArray → Int → Int → Bool → Option (ByteArray)
 | 0, _, _, _, _, _, _ => none
 | k + 1, x0, x1, x5, x7, x8, x27 => if x27 = true then (if 0 ≤ x8 then (if x8 < (x0.length : Int) then (if ((rd_T38 x0 x8).f1) = 1 then (if x5.size + ((rd_T38 x0 x8).f3).size ≤ 9223372036854775807 then (boltingref04_Text.l0 k x0 x1 (x5 ++ ((rd_T38 x0 x8).f3)) x7 (wrap64 (x8 + 1))) else (none)) else (boltingref04_Text.l0 k x0 x1 x5 x7 (wrap64 (x8 + 1)))) else (none)) else (none)) else (some x5)
end
def boltingref04_Text.f (k : Nat) (l0 : List (S38)) (a1 : Int) : Option (ByteArray) := if a1 ≥ 0 then ((boltingref04_End.f k l0 a1).bind fun t474 => (boltingref04_Text.j0 k l0 a1 (⟨#[]⟩ : ByteArray) (mn a1 (l0.length : Int)) t474)) else (boltingref04_Text.j0 k l0 a1 (⟨#[]⟩ : ByteArray) 0 (l0.length : Int))
end Go.Proofs.YticacakoefojbaaGreat.Pr
namespace Go.Proofs.YticacakoefojbaaGreat.Pr
open Go.RowKit Go.Proofs.YticacakoefojbaaGreatW.PrintWords Go.Proofs.YticacakoefojbaaGreatW.PrintLast Go.Proofs.YticacakoefojbaaGreatW.PrintMore
attribute [local go_sem] max2_int min2_int max_two min_two max_three min_three max_four min_four   -- for this text's walks alone
set_option linter.unusedVariables false
set_option linter.unusedSimpArgs false

def boltinglaw13_bound.l0 : Nat → List (S38) → List (S38) → Int → Option ((List (S38)))
 | 0, _, _, _ => none
 | k + 1, x0, x3, x4 => if x4 < (x0.length : Int) then (if x4 < 40 then (if 0 ≤ x4 then (if 0 ≤ (mn (((rd_T38 x0 x4).f4).length : Int) 8) then (if (mn (((rd_T38 x0 x4).f4).length : Int) 8) ≤ (((rd_T38 x0 x4).f4).length : Int) then (if x3.length < 1954687338268 then (boltinglaw13_bound.l0 k x0 (x3 ++ [(⟨(rd_T38 x0 x4).f0, (rd_T38 x0 x4).f1, (rd_T38 x0 x4).f2, (rd_T38 x0 x4).f3, (((rd_T38 x0 x4).f4).take ((mn (((rd_T38 x0 x4).f4).length : Int) 8) : Int).toNat)⟩ : S38)]) (wrap64 (x4 + 1))) else (none)) else (none)) else (none)) else (none)) else (some x3)) else (some x3)
def boltinglaw13_bound.f (k : Nat) (l0 : List (S38)) : Option ((List (S38))) := boltinglaw13_bound.l0 k l0 (([] : List (S38))) 0
end Go.Proofs.YticacakoefojbaaGreat.Pr
namespace Go.Proofs.YticacakoefojbaaGreat.Pure
set_option linter.unusedVariables false
set_option linter.unusedSimpArgs false
open Go.RowKit Go.Proofs.YticacakoefojbaaGreat.Pr Go.Proofs.YticacakoefojbaaGreat.Fo Go.Proofs.YticacakoefojbaaGreatW.PrintWords Go.Proofs.YticacakoefojbaaGreatW.PrintLast Go.Proofs.YticacakoefojbaaGreatW.PrintMore

structure Tidy (l : List Rw) : Prop where
  len : l.length ≤ 200
  few : ∀ x ∈ l, x.f4.length ≤ 50
  small : ∀ x ∈ l, VS x.f4
  txt : tsz l ≤ 4000000000000000000
structure Good (F : Fo) : Prop where
  leaf : F.Leaf
  fine : F.All Fine
  low : F.height ≤ 60
  few : F.size ≤ 200
  txt : tsz (flat 0 F) ≤ 4000000000000000000
theorem uniq_filter (p : Atr → Bool) : ∀ (l seen seen' : List Atr), (∀ b ∈ seen', b ∈ seen) → uniq seen l = true → uniq seen' (l.filter p) = true
  | [], _, _, _, _ => rfl
  | a :: t, seen, seen', hs, h => by
    have h' : (seen.all (fun b => !decide (a.f0 = b.f0)) && uniq (seen ++ [a]) t) = true := h
    rw [Bool.and_eq_true] at h'
    rw [List.filter_cons]
    split
    · show (seen'.all (fun b => !decide (a.f0 = b.f0)) && uniq (seen' ++ [a]) (t.filter p)) = true
      rw [Bool.and_eq_true]
      refine ⟨?_, uniq_filter p t _ _ (fun b hb => ?_) h'.2⟩
      · rw [List.all_eq_true] at h' ⊢
        exact fun b hb => h'.1 b (hs b hb)
      · rcases List.mem_append.1 hb with g | g
        · exact List.mem_append_left _ (hs b g)
        · exact List.mem_append_right _ g
    · exact uniq_filter p t _ _ (fun b hb => List.mem_append_left _ (hs b hb)) h'.2
theorem updC_f1 (c : Cf) (s : Bool) (x : Rw) : (updC c s x).f1 = x.f1 := by unfold updC; split <;> rfl
theorem updC_f3 (c : Cf) (s : Bool) (x : Rw) : (updC c s x).f3 = x.f3 := by unfold updC; split <;> rfl
theorem keepA_len (c : Cf) (s : Bool) (n : ByteArray) (l : List Atr) : (keepA c s n l).length ≤ l.length := List.length_filter_le _ _
theorem updC_fine {c : Cf} {s : Bool} {x : Rw} (h : Fine x) : Fine (updC c s x) := by
  unfold updC
  split
  · rename_i h0
    have hne : ¬ (x.f1 = 1 ∨ x.f1 = 2) := by omega
    refine ⟨?_, Nat.le_trans (keepA_len c s x.f2 x.f4) h.few, fun a ha => h.small a (List.mem_filter.1 ha).1⟩
    have hok := h.ok
    rw [rowB_el hne] at hok
    rw [rowB_el (x := { x with f4 := keepA c s x.f2 x.f4 }) hne]
    simp only [Bool.and_eq_true] at hok ⊢
    exact ⟨hok.1, uniq_filter _ _ _ _ (fun b hb => hb) hok.2⟩
  · exact h
theorem tsz_keep (c : Cf) (s : Bool) : ∀ (F : Fo) (d e : Int), tsz (flat d (keepF (whatC c s) (updC c s) F)) ≤ tsz (flat e F)
  | .nil, d, e => Nat.le_refl _
  | .cons x k r, d, e => by
    rw [keepF, flat, tsz, tsz_app]
    split
    · have := tsz_keep c s r d e; omega
    · split
      · rw [flat_app, tsz_app]
        have h1 := tsz_keep c s k d (e + 1)
        have h2 := tsz_keep c s r d e
        omega
      · rw [flat, tsz, tsz_app]
        have h1 := tsz_keep c s k (d + 1) (e + 1)
        have h2 := tsz_keep c s r d e
        have h3 : (updC c s x).f3.size = x.f3.size := by rw [updC_f3]
        show (updC c s x).f3.size + _ ≤ x.f3.size + _
        omega
theorem Good.keep {F : Fo} (h : Good F) (c : Cf) (s : Bool) : Good (keepF (whatC c s) (updC c s) F) :=
  ⟨keep_leaf (updC_f1 c s) h.leaf, keep_all (fun x g _ _ => updC_fine g) h.fine, Nat.le_trans (keep_height _ _ F) h.low, Nat.le_trans (keep_size _ _ F) h.few, Nat.le_trans (tsz_keep c s F 0 0) h.txt⟩
theorem Good.app {A B : Fo} (h : Good A) (g : Good B) (hs : A.size + B.size ≤ 200) (ht : tsz (flat 0 A) + tsz (flat 0 B) ≤ 4000000000000000000) : Good (A.app B) :=
  ⟨leaf_app h.leaf g.leaf, all_app h.fine g.fine, by rw [height_app]; have := h.low; have := g.low; omega, by rw [size_app]; exact hs, by rw [flat_app, tsz_app]; exact ht⟩
abbrev cleaned (c : Cf) (s : Bool) (F : Fo) : Fo := normF (keepF (whatC c s) (updC c s) F)
def whyR (c : Cf) (l : List Rw) : Int := if checkI c = 0 then checkR l else checkI c
def safeX (x : Rw) : Bool := !decide (x.f1 = 0) || (!neverB x.f2 && x.f4.all fun a => !riskB x.f2 a.f0 a.f1)
def bndR (l : List Rw) : List Rw := (l.take 40).map fun x => { x with f4 := x.f4.take 8 }
theorem mn8 (n : Nat) : 0 ≤ mn (n : Int) 8 ∧ mn (n : Int) 8 ≤ (n : Int) ∧ (mn (n : Int) 8).toNat = min n 8 := by
  unfold mn; split <;> omega
theorem take_mn8 {α : Type} (l : List α) : l.take (mn (l.length : Int) 8).toNat = l.take 8 := by
  rw [(mn8 _).2.2]
  rcases Nat.le_total l.length 8 with h | h
  · rw [Nat.min_eq_left h, List.take_length, List.take_of_length_le h]
  · rw [Nat.min_eq_right h]
def SizedR (l : List Rw) : Prop := ∀ x ∈ l, x.f3.size ≤ 140737488351232 ∧ VS x.f4
end Go.Proofs.YticacakoefojbaaGreat.Pure
namespace Go.Proofs.YticacakoefojbaaGreat.Pure
set_option linter.unusedVariables false
set_option linter.unusedSimpArgs false
open Go.RowKit Go.Proofs.YticacakoefojbaaGreat.Pr Go.Proofs.YticacakoefojbaaGreat.Fo Go.Proofs.YticacakoefojbaaGreatW.PrintWords Go.Proofs.YticacakoefojbaaGreatW.PrintLast Go.Proofs.YticacakoefojbaaGreatW.PrintMore

def RowIn (x : Rw) : Prop := (Lit.int .i64 x.f0).wf = true ∧ (Lit.int .i64 x.f1).wf = true ∧ x.f2.size ≤ 140737488351232 ∧ x.f3.size ≤ 140737488351232 ∧ ∀ y ∈ x.f4, y.f0.size ≤ 140737488351232 ∧ y.f1.size ≤ 140737488351232
theorem among_l0 (a b : List Atr) (ha : a.length ≤ 50) (hb : b.length ≤ 50) : ∀ (d j i : Nat), j + d = b.length → i ≤ a.length → (a.drop i).Sublist (b.drop j) → ∀ k, 2 * d + 2 < k → boltinglaw13_among.l0 k a b (i : Int) (j : Int) = some true
  | 0, j, i, h, hi, hs, k, hk => by
    obtain ⟨k, rfl⟩ : ∃ q, k = q + 2 := ⟨k - 2, by omega⟩
    rw [List.drop_of_length_le (show b.length ≤ j by omega), List.sublist_nil] at hs
    have : a.length ≤ i := by
      have := congrArg List.length hs
      rw [List.length_drop] at this
      simp at this
      omega
    simp only [boltinglaw13_among.l0]
    rw [if_neg (by omega)]
    simp only [boltinglaw13_among.j1]
    rw [if_neg (by simp)]
    congr 1
    rw [beq_iff_eq]; omega
  | d + 1, j, i, h, hi, hs, k, hk => by
    obtain ⟨k, rfl⟩ : ∃ q, k = q + 2 := ⟨k - 2, by omega⟩
    obtain ⟨y, h0⟩ := get_some (l := b) (show j < b.length by omega)
    simp only [boltinglaw13_among.l0]
    rw [if_pos (by omega)]
    simp only [boltinglaw13_among.j1]
    by_cases hia : i < a.length
    · obtain ⟨x, g0⟩ := get_some (l := a) hia
      rw [if_pos (by rw [decide_eq_true_eq]; omega), if_pos (by omega), if_pos (by omega), if_pos (by omega), if_pos (by omega), rdA_at h0, rdA_at g0, wrap_succ (i := (j : Int)) (by omega) (by omega), wrap_succ (i := (i : Int)) (by omega) (by omega)]
      rw [drop_at h0, drop_at g0] at hs
      by_cases e : x = y
      · subst e
        rw [if_pos (by simp)]
        have hs2 : (a.drop (i + 1)).Sublist (b.drop (j + 1)) := List.cons_sublist_cons.1 hs
        exact among_l0 a b ha hb d (j + 1) (i + 1) (by omega) (by omega) hs2 k (by omega)
      · rw [if_neg (fun g => e (by
          rw [Bool.and_eq_true, beq_iff_eq, beq_iff_eq] at g
          have e1 := toList_inj g.1
          have e2 := toList_inj g.2
          cases x; cases y; simp only at e1 e2; subst e1 e2; rfl))]
        have hs2 : (x :: a.drop (i + 1)).Sublist (b.drop (j + 1)) := by
          cases hs with
          | cons _ h => exact h
          | cons_cons _ h => exact absurd rfl e
        rw [← drop_at g0] at hs2
        exact among_l0 a b ha hb d (j + 1) i (by omega) hi hs2 k (by omega)
    · rw [if_neg (by rw [decide_eq_true_eq]; omega)]
      congr 1
      rw [beq_iff_eq]; omega
theorem among_f (a b : List Atr) (ha : a.length ≤ 50) (hb : b.length ≤ 50) (hs : a.Sublist b) {k : Nat} (hk : 200 < k) : boltinglaw13_among.f k a b = some true := by
  have := among_l0 a b ha hb b.length 0 0 (by omega) (Nat.zero_le _) (by simpa using hs) k (by omega)
  exact this
end Go.Proofs.YticacakoefojbaaGreat.Pure
namespace Go.Proofs.YticacakoefojbaaGreat
set_option linter.unusedVariables false
set_option linter.unusedSimpArgs false
open Go.RowKit Go.Proofs.YticacakoefojbaaGreat.Pr Go.Proofs.YticacakoefojbaaGreat.Pure Go.Proofs.YticacakoefojbaaGreat.Fo Go.Proofs.YticacakoefojbaaGreatW.PrintWords Go.Proofs.YticacakoefojbaaGreatW.PrintLast
theorem clean_attrs (d0 d1 : Int) (n d3 : ByteArray) (l : List Atr) (c : Cf) (hS : ∀ y ∈ l, y.f0.size ≤ 140737488351232 ∧ y.f1.size ≤ 140737488351232) (hz : Sized c) {k : Nat} (hk : 20000 ≤ k) :
    boltinglaw13_CleanAttrs.f k d0 d1 n d3 l c.al c.aal c.els c.rep c.ats c.per c.com c.dt = some true := by
  unfold boltinglaw13_CleanAttrs.f
  rw [if_pos (mn8 _).1, if_pos (mn8 _).2.1, take_mn8]
  simp only [Option.bind_some]
  rw [bound_f c (by omega), Option.bind_some]
  have hf := bound_fit c
  have hlen : (l.take 8).length ≤ 8 := List.length_take_le _ _
  have hv : VS (l.take 8) := fun a ha => (hS a (List.mem_of_mem_take ha)).2
  obtain ⟨L, hL⟩ : ∃ L, l.take 8 = L := ⟨_, rfl⟩
  rw [hL] at hlen hv ⊢
  have hA : ∀ s, clean_Attrs.f k d0 d1 n d3 L c.al c.aal (bound c).els (bound c).rep (bound c).ats (bound c).per c.com c.dt s = some (keepA (bound c) s n L) := fun s => attrs_f hf s d0 d1 n d3 L (by omega) hv (by omega)
  have h1 := keepA_len (bound c) false n L
  have h2 := keepA_len (bound c) true n L
  simp only [hA, Option.bind_some]
  rw [among_f (keepA (bound c) false n L) L (by omega) (by omega) (show (keepA (bound c) false n L).Sublist L from List.filter_sublist) (by omega)]
  simp only [Option.bind_some]
  have hs : (keepA (bound c) true n L).Sublist (keepA (bound c) false n L) := by
    unfold keepA
    have : L.filter (fun a => attrB (bound c) n a.f0 && !(true && riskB n a.f0 a.f1)) = (L.filter (fun a => attrB (bound c) n a.f0 && !(false && riskB n a.f0 a.f1))).filter (fun a => !riskB n a.f0 a.f1) := by
      rw [List.filter_filter]
      refine List.filter_congr (fun a _ => ?_)
      cases attrB (bound c) n a.f0 <;> cases riskB n a.f0 a.f1 <;> rfl
    rw [this]
    exact List.filter_sublist
  rw [if_pos trivial, among_f _ _ (by omega) (by omega) hs (by omega)]
  rfl
end Go.Proofs.YticacakoefojbaaGreat
namespace Go.Proofs.YticacakoefojbaaGreat.cleanAttrs
open Go.ChangeShapes Go.WideShapes Go.ChangeAt Go.RowKit
open Go.ChangeMaps (open_string shut_string)
set_option linter.unusedVariables false
set_option linter.unusedSimpArgs false
theorem own : ownKnob Tryz.prog.godebug = none := by kernel_rfl
theorem laidOut : laidOutB Tryz.prog = true := by kernel_rfl
set_option maxRecDepth 100000 in
theorem open_row {H : Type} {enc : TypeId × Value → H} {w : World} {base : Nat} {spare : Nat → Bool} {held : Bool} {v : Value} {d : DataW H} {p : List MemPlace} {r : Reach} {b0 : Nat}
    (hv : Value.okWide Tryz.prog w r b0 38 v) (h : DataW.Trod enc Tryz.prog w base spare held 38 v d p) (hw : ∀ n ∈ d.weights Tryz.prog 38, n ≤ reachBytes) :
    ∃ (d0 d1 : Int) (s2 s3 : ByteArray) (A : Option Addr) (c : Nat) (l : List Pr.S45), v = .agg #[.int .i64 d0, .int .i64 d1, .string s2, .string s3, .slice A l.length c] ∧ l.length ≤ c ∧ Pr.k45.C w A l.length l ∧ ∀ y ∈ l, y.f0.size ≤ 140737488351232 ∧ y.f1.size ≤ 140737488351232 := by
  obtain ⟨cs, rfl, hsz⟩ := okWide_struct Tryz.underlying38 hv
  obtain ⟨fuel, hf⟩ := h
  have hO := opensS_struct (fun x : Pr.S38 => (x.f0, x.f1, x.f2, x.f3, x.f4)) Tryz.underlying38 rfl (by kernel_rfl) (opensTail_cons rfl (opensS_int (by kernel_rfl) Tryz.underlying3) (opensTail_cons rfl (opensS_int (by kernel_rfl) Tryz.underlying3) (opensTail_cons rfl (opensS_string (by kernel_rfl) Tryz.underlying9) (opensTail_cons rfl (opensS_string (by kernel_rfl) Tryz.underlying9) (opensTail_last rfl (opensS_slice (by kernel_rfl) Tryz.underlying36 (opensS_struct (fun x : Pr.S45 => (x.f0, x.f1)) Tryz.underlying45 rfl (by kernel_rfl) (opensTail_cons rfl (opensS_string (by kernel_rfl) Tryz.underlying9) (opensTail_last rfl (opensS_string (by kernel_rfl) Tryz.underlying9))) (fun a => ⟨⟨a.1, a.2⟩, rfl⟩)))))))) (fun a => ⟨⟨a.1, a.2.1, a.2.2.1, a.2.2.2.1, a.2.2.2.2⟩, rfl⟩)
  obtain ⟨⟨d0, d1, s2, s3, l⟩, hK, hS⟩ := hO.2 enc w base spare held fuel _ _ hf hw
  obtain ⟨_, _, hcs, rfl, ⟨_, _, rfl, rfl, ⟨_, _, rfl, rfl, ⟨_, _, rfl, rfl, ⟨A, c, rfl, k, g⟩⟩⟩⟩⟩ := hK
  obtain ⟨_, _, _, _, h4⟩ := hS
  refine ⟨d0, d1, s2, s3, A, c, l, ?_, k, g, h4⟩
  obtain ⟨l'⟩ := cs
  simp only [Value.cells] at hcs
  rw [show l' = _ from hcs]
  rfl
set_option maxRecDepth 100000 in
theorem lifted (os : Os) (started : os.Started) (H : Type) (enc : TypeId × Value → H) :
    ReturnsInHanded {} Tryz.checked os 7 .any (Rows.cleanAttrsSpec.pre6 enc Tryz.prog Tryz.f7 Rows.cleanAttrsRow.domain false) (Rows.cleanAttrsSpec.post enc Tryz.prog Tryz.f7 false true false false) := by
  refine returnsInHanded_of_change_sized (C := Tryz.checked) own started (by kernel_rfl) Tryz.func7
    (ChangeSpec.witness6 (enc := enc) (C := Tryz.checked) false ⟨#[], #[.agg #[.int .i64 0, .int .i64 0, .string ByteArray.empty, .string ByteArray.empty, .slice none 0 0], .agg #[.bool false, .bool false, .slice none 0 0, .slice none 0 0, .slice none 0 0, .slice none 0 0, .bool false, .bool false]], []⟩ 8 (by kernel_rfl) (by kernel_rfl) (by kernel_rfl) (by kernel_rfl)) ?_
  intro W base args ds gs before hval0 hW hcnd hsz0 _
  have hsz : (DataW.weightsEach Tryz.prog (Tryz.f7.params.toList ++ Rows.cleanAttrsSpec.plain.varTypes Tryz.prog) (ds ++ gs)).all (· ≤ reachBytes) = true := hsz0
  have hval : ∀ (j : Nat) t v, Tryz.f7.params[j]? = some t → args[j]? = some v → Value.okWide Tryz.prog W .any base t v := hval0
  have hW' := hW
  obtain ⟨p, q, hA0, hV, rfl, hfz, hnd⟩ := hW
  have hA : DataW.TrodAll enc Tryz.prog W 0 (fun _ => true) true Tryz.f7.params.toList args.toList ds p := hA0
  rw [Tryz.params7] at hA hval hsz
  obtain ⟨v0, vs0, d0, ds0, p0, q0, hargs, rfl, rfl, h0, r0⟩ := trodAll_cons hA
  obtain ⟨v1, vs1, d1, ds1, p1, q1, rfl, rfl, rfl, h1, r1⟩ := trodAll_cons r0
  obtain ⟨rfl, rfl, rfl⟩ := trodAll_nil r1
  obtain rfl : args = #[v0, v1] := by cases args; simp_all
  obtain ⟨rfl, rfl⟩ := trodVars_none hV
  have k1 := h1
  have lt1 : ∀ x ∈ p1, x.block < W.heap.size := by obtain ⟨m, hm⟩ := k1; exact DataW.trod_lt m _ _ _ hm
  have k0 := h0
  have lt0 : ∀ x ∈ p0, x.block < W.heap.size := by obtain ⟨m, hm⟩ := k0; exact DataW.trod_lt m _ _ _ hm
  obtain ⟨e0, e1, e2, e3, A4, c4, l4, rfl, hc4, hr4, hS4⟩ := open_row (hval 0 38 v0 rfl rfl) h0 (fun n hn => by simpa using List.all_eq_true.1 hsz n (DataW.weights_mem_each (j := 0) rfl rfl n hn))
  obtain ⟨b1, A2_1, c2_1, A3_1, c3_1, A4_1, c4_1, A5_1, c5_1, rfl, ⟨x2_1, g2_1⟩, ⟨x3_1, g3_1⟩, ⟨x4_1, g4_1⟩, ⟨x5_1, g5_1⟩, z_1⟩ := open_conf (hval 1 32 v1 rfl rfl) h1 (fun n hn => by simpa using List.all_eq_true.1 hsz n (DataW.weights_mem_each (j := 1) rfl rfl n hn))
  clear hA0 hval0 hsz0 hsz
  have hk := clean_attrs e0 e1 e2 e3 l4 b1 hS4 z_1 (Nat.le_refl 20000)
  refine (Pr.boltinglaw13_CleanAttrs.calls 20000 e0 e1 e2 e3 A4 c4 l4 b1.al b1.aal A2_1 c2_1 b1.els A3_1 c3_1 b1.rep A4_1 c4_1 b1.ats A5_1 c5_1 b1.per b1.com b1.dt true W hr4 hc4 g2_1 x2_1 g3_1 x3_1 g4_1 x4_1 g5_1 x5_1 hk).mono fun e W' ⟨he, bel⟩ => ?_
  subst he
  exact ⟨_, rfl, _, _, _, [], _, [], hW', trodAll_mk1 (shut_bool Tryz.underlying4 _), (trodAll_cons_mk (Below.trod laidOut (by kernel_rfl) (of_decide_eq_true (by kernel_rfl)) k0 bel lt0) (trodAll_cons_mk (Below.trod laidOut (by kernel_rfl) (of_decide_eq_true (by kernel_rfl)) k1 bel lt1) trodAll_mk0)), rfl, bel.frame _, fun h => by cases h⟩
theorem over : Rows.cleanAttrsRow.holds Tryz.pinned (OpenSpec.ofChange Rows.cleanAttrsSpec) :=
  OpenClaim.holds_of_wide 7 Tryz.f7 rfl rfl rfl rfl rfl rfl rfl ⟨rfl, rfl, rfl, rfl, rfl⟩ rfl rfl rfl rfl rfl (by kernel_rfl) Tryz.func7 (by kernel_rfl)
    (of_decide_eq_true (by kernel_rfl)) (by unfold Func.isWrapper; first | (rw [if_pos (by decide +kernel)]; kernel_rfl) | (rw [if_neg (by decide +kernel)]; exact ⟨rfl, rfl⟩))
    (fun os started H enc _ => lifted os started H enc)
theorem proved : Rows.CleanAttrsSaid := over
end Go.Proofs.YticacakoefojbaaGreat.cleanAttrs
namespace Go.Proofs.YticacakoefojbaaGreat
theorem cleanAttrs_holds : Rows.CleanAttrsSaid := cleanAttrs.proved
end Go.Proofs.YticacakoefojbaaGreat
